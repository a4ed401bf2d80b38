import Derived.Test.YthbnghdobmghlaaDoorVJ8l
import Derived.Deep.RegionHeld3
namespace Go.Proofs.YthbnghdobmghlaaDoor.ST
open Go.RowKit Go.Proofs.YthbnghdobmghlaaDoorW.PrintWords Go.Proofs.YthbnghdobmghlaaDoorW.PrintLast Go.Proofs.YthbnghdobmghlaaDoorW.PrintMore Go.Proofs.YthbnghdobmghlaaDoor.PC
set_option linter.unusedVariables false
set_option linter.unusedSimpArgs false
set_option maxHeartbeats 16000000 in
set_option maxRecDepth 100000 in
theorem text_1 (tag order : Int) (force : Bool) (vol other : ByteArray) (pos len : Int) (data : List S35) (w : World) (A : Option Addr) (cap : Nat) (hA : Kd.C k35 w A data.length data) (hcap : data.length ≤ cap) (hL : Ld w) (hx : ∀ x ∈ data, ok35 x = true) (hv : validC ⟨tag, 1, order, force, vol, other, pos, len, data⟩ = true) :
    Calls Tryd.prog 15 #[.agg #[.int .i64 tag, .int .i64 1, .int .i64 order, .bool force, .string vol, .string other, .int .i64 pos, .int .i64 len, .slice A data.length cap]] w fun e w' => e = .returned (.string ⟨(Lib.join ((wordsC ⟨tag, 1, order, force, vol, other, pos, len, data⟩).map (·.data.toList)) [32]).toArray⟩) ∧ Below w.heap.size w w' := by
  have hu24 := Tryd.underlying24
  obtain ⟨_, bt, bv, bp, bl, bd, bo⟩ := valid_bd hv
  have htb := text_bd hv
  generalize htx : wordsC ⟨tag, 1, order, force, vol, other, pos, len, data⟩ = tx at htb
  have HTX := Lib.hid htx
  have HTB := Lib.hid htb
  simp only at bt bv bp bl bd bo
  have HBT := Aside0.mk bt
  have HBV := Aside0.mk bv
  have HBP := Aside0.mk bp
  have HBL := Aside0.mk bl
  have HBD := Aside0.mk bd
  have HBO := Aside0.mk bo
  have HA := Aside0.mk hA
  have HCAP := Aside0.mk hcap
  have HX := Aside0.mk hx
  have HV := Lib.hid hv
  have HLD := Aside0.mk hL
  clear hA hcap hx hv hL bt bv bp bl bd bo htx htb
  go_enter Tryd.func15, Tryd.ntmps15
  go_wp2_with fail
  have hk1 := blk_new w (.cells #[.int .i64 tag, .int .i64 1, .int .i64 order, .bool force, .string vol, .string other, .int .i64 pos, .int .i64 len, .slice A data.length cap] 24)
  have hb1 := below_allocs w (.cells #[.int .i64 tag, .int .i64 1, .int .i64 order, .bool force, .string vol, .string other, .int .i64 pos, .int .i64 len, .slice A data.length cap] 24)
  generalize w.alloc (.cells #[.int .i64 tag, .int .i64 1, .int .i64 order, .bool force, .string vol, .string other, .int .i64 pos, .int .i64 len, .slice A data.length cap] 24) = w1 at hk1 hb1 ⊢
  have HK := Aside0.mk hk1
  have HB := Aside0.mk hb1
  clear hk1 hb1
  have c := Valid_any ⟨tag, 1, order, force, vol, other, pos, len, data⟩ w1 A cap (Kd.C_below HA.out HB.out) HCAP.out (Nat.le_trans HBD.out (by decide))
  rw [HV.out] at c
  refine c.mono ?_
  clear c
  rintro e w2 ⟨rfl, hb⟩
  replace HK := Aside0.mk (blk_below HK.out hb)
  replace HB := Aside0.mk (below_step HB.out hb)
  clear hb
  have hix : ∀ w, (Instr.index 41 kindsV (.int .i64 1)).run Tryd.prog w = .ok (.string (kindB 1)) w := fun w => kinds_index 1 (by decide) w
  have HIT := Aside0.mk (fun W (hB : Below w2.heap.size w2 W) => ItoaB_any tag (by have := HBT.out; omega) (by have := HBT.out; omega) W (HLD.out.below (below_step HB.out hB)))
  have HKI := Aside0.mk kinds_any
  have HSB : Aside0 (∀ W : World, Below w2.heap.size w2 W → W.cell? ⟨w.heap.size, 1, none⟩ = some (.int .i64 1) ∧ W.cell? ⟨w.heap.size, 0, none⟩ = some (.int .i64 tag)) := ⟨fun W hB => ⟨(cells24 (blk_below HK.out hB)).2.1, (cells24 (blk_below HK.out hB)).1⟩⟩
  have HB0 : Aside0 (Below w2.heap.size w2 w2.drew) := ⟨below_drew1 (Below.refl _ _)⟩
  have hs0 := HSB.out _ (Below.refl _ _)
  obtain ⟨c1, c0⟩ := hs0
  go_upto_region 3 with (fail)
  go_cut [3] (fun s3 wx => Aside0 (wx.heap[w.heap.size]? = some (.cells #[.int .i64 tag, .int .i64 1, .int .i64 order, .bool force, .string vol, .string other, .int .i64 pos, .int .i64 len, .slice A data.length cap] 24 (0, 0))) ∧ Aside0 (Below w.heap.size w wx) ∧ Aside0 (Kd.R Kd.string 9 wx w.heap.size (fun k => k ≠ w.heap.size) s3 [kindB 1, itoaB tag]))
  case first =>
    go_region_held3 (fun W => W.cell? ⟨w.heap.size, 1, none⟩ = some (.int .i64 1) ∧ W.cell? ⟨w.heap.size, 0, none⟩ = some (.int .i64 tag)) (first
      | (with_reducible exact HSB.out _ HB0.out)
      | (with_reducible exact HSB.out _ HB3.out)
      | (with_reducible exact HSB.out _ HB4.out)
      | (with_reducible exact HSB.out _ (below_drew1 HB3.out))
      | (with_reducible exact HSB.out _ (below_drew1 HB4.out))
      | (with_reducible exact HSB.out _ (below_alloc HB4.out _))
      | (with_reducible exact HSB.out _ (below_drew1 (below_alloc HB4.out _)))) (first
      | ((with_reducible (refine Calls.mono (HKI.out _) ?_)); rintro e w3 ⟨rfl, hb⟩; have HB3 := Aside0.mk (below_step HB0.out hb); clear hb)
      | ((with_reducible (refine Calls.mono (HIT.out _ HB3.out) ?_)); rintro e w4 ⟨rfl, hb⟩; have HB4 := Aside0.mk (below_step HB3.out hb); clear hb))
    all_goals
      go_wp2_with fail
      go_meet
      exact ⟨⟨blk_alloc (blk_below HK.out HB4.out) _⟩, ⟨below_alloc (below_step HB.out HB4.out) _⟩, ⟨lit2_R w4 w.heap.size (fun k => k ≠ w.heap.size) (kindB 1) (itoaB tag) (below_size (below_step HB.out HB4.out)) (by have := blk_lt (blk_below HK.out HB4.out); omega)⟩⟩
  case rest =>
  clear HSB HKI HIT HB0 c0 c1 hix HK HB
  obtain ⟨HK, HB, HR⟩ := hcut
  obtain ⟨c0, c1, c2, c3, c4, c5, c6, c7, c8⟩ := cells24 HK.out
  have LIM : Aside0 ((([kindB 1, itoaB tag]).length + 1) * 16 ≤ 140737488355328) := ⟨by have hbd := HBD.out; simp; try omega⟩
  go_upto_region 6 with ((with_reducible refine gate_builtin (b := .append) (xs := #[.tmp 20, .tmp 23]) rfl ?_); at_builtin; refine Kd.R_append Kd.string (w0 := w) w.heap.size rfl (.tmp 20) (.tmp 23) 38 9 (.string ByteArray.empty) 16 rfl Tryd.underlying38 info9 rfl (by decide) (by omega) _ ([kindB 1, itoaB tag]) (vol) [.string (vol)] (fun k => k ≠ w.heap.size) (fun _ => False) rfl (by first | (go_simp; done) | (go_simp; rfl)) rfl (fun _ hk => hk.elim) (fun k hk => by have := blk_lt HK.out; omega) HR.out HB.out (below_size HB.out) LIM.out ?_; intro v1 w6 ho hb hg _; have n0 := Aside0.mk (blk_grown HK.out hg (fun e => HR.out.1 _ e.symm rfl)); have n1 := Aside0.mk ho; have n2 := Aside0.mk hb; clear HK HR HB ho hb hg; have HK := n0; have HR := n1; have HB := n2; clear n0 n1 n2; clear c0 c1 c2 c3 c4 c5 c6 c7 c8; obtain ⟨c0, c1, c2, c3, c4, c5, c6, c7, c8⟩ := cells24 HK.out)
  clear LIM
  try clear c0 c1 c2 c3 c4 c5 c6 c7 c8
  have HI1 := Aside0.mk (fun W (hB : Below w6.heap.size w6 W) => ItoaB_any pos (by have := HBP.out; have := HBL.out; omega) (by have := HBP.out; have := HBL.out; omega) W (HLD.out.below (below_step HB.out hB)))
  have HI2 := Aside0.mk (fun W (hB : Below w6.heap.size w6 W) => ItoaB_any len (by have := HBP.out; have := HBL.out; omega) (by have := HBP.out; have := HBL.out; omega) W (HLD.out.below (below_step HB.out hB)))
  have HSB : Aside0 (∀ W : World, Below w6.heap.size w6 W → W.cell? ⟨w.heap.size, 6, none⟩ = some (.int .i64 pos) ∧ W.cell? ⟨w.heap.size, 7, none⟩ = some (.int .i64 len)) := ⟨fun W hB => ⟨(cells24 (blk_below HK.out hB)).2.2.2.2.2.2.1, (cells24 (blk_below HK.out hB)).2.2.2.2.2.2.2.1⟩⟩
  have HSK : Aside0 (∀ W : World, W.heap[w.heap.size]? = some (.cells #[.int .i64 tag, .int .i64 1, .int .i64 order, .bool force, .string vol, .string other, .int .i64 pos, .int .i64 len, .slice A data.length cap] 24 (0, 0)) → W.cell? ⟨w.heap.size, 6, none⟩ = some (.int .i64 pos) ∧ W.cell? ⟨w.heap.size, 7, none⟩ = some (.int .i64 len)) := ⟨fun W hB => ⟨(cells24 hB).2.2.2.2.2.2.1, (cells24 hB).2.2.2.2.2.2.2.1⟩⟩
  have HB0 : Aside0 (Below w6.heap.size w6 w6.drew) := ⟨below_drew1 (Below.refl _ _)⟩
  have FRX : Aside0 (∀ W : World, Below w6.heap.size w6 W → ∀ k, W.heap.size ≤ k → k ≠ w.heap.size) := ⟨fun W hB k hk => by have := blk_lt (blk_below HK.out hB); omega⟩
  have LIM : Aside0 (((([kindB 1, itoaB tag] ++ [vol])).length + 2) * 16 ≤ 140737488355328) := ⟨by simp; try omega⟩
  obtain ⟨c0, c1, c2, c3, c4, c5, c6, c7, c8⟩ := cells24 HK.out
  go_wp2_with fail
  go_region_held3 (fun W => W.cell? ⟨w.heap.size, 6, none⟩ = some (.int .i64 pos) ∧ W.cell? ⟨w.heap.size, 7, none⟩ = some (.int .i64 len)) (first
    | (with_reducible exact HSB.out _ HB0.out)
    | (with_reducible exact HSB.out _ HB6.out)
    | (with_reducible exact HSB.out _ HB7.out)
    | (with_reducible exact HSB.out _ (below_alloc HB7.out _))
    | (with_reducible exact HSK.out _ HK8.out)) (first
    | ((with_reducible (refine Calls.mono (HI1.out _ HB0.out) ?_)); rintro e w6 ⟨rfl, hb⟩; have HB6 := Aside0.mk (below_step HB0.out hb); clear hb)
    | ((with_reducible (refine Calls.mono (HI2.out _ HB6.out) ?_)); rintro e w7 ⟨rfl, hb⟩; have HB7 := Aside0.mk (below_step HB6.out hb); clear hb)
    | ((refine Kd.R_append_rows_step Kd.string (w0 := w) w.heap.size rfl (.tmp 30) (.tmp 37) 38 9 (.string ByteArray.empty) 16 rfl Tryd.underlying38 info9 rfl (by decide) (by decide) _ (([kindB 1, itoaB tag] ++ [vol])) [itoaB pos, itoaB len] _ 2 2 (fun k => k ≠ w.heap.size) (fun _ => False) rfl rfl (Kd.R_below HR.out (below_alloc HB7.out _)) (two_Cs _ _ _) (fun _ _ h => h) (fun _ h => h.elim) (FRX.out _ (below_alloc HB7.out _)) (below_step HB.out (below_alloc HB7.out _)) (below_size (below_step HB.out (below_alloc HB7.out _))) LIM.out ?_); intro v1 w8 ho hb hg _; have HK8 := Aside0.mk (blk_grown (blk_below HK.out (below_alloc HB7.out _)) hg (fun e => HR.out.1 _ e.symm rfl)); have HR8 := Aside0.mk ho; have HB8 := Aside0.mk hb; clear ho hb hg))
  clear c0 c1 c2 c3 c4 c5 c6 c7 c8 HK HB HR HI1 HI2 HSB HSK HB0 FRX LIM HB6 HB7
  have HK := HK8
  have HB := HB8
  have HR := HR8
  clear HK8 HB8 HR8
  obtain ⟨c0, c1, c2, c3, c4, c5, c6, c7, c8⟩ := cells24 HK.out
  go_upto_region 21 with (fail)
  clear c0 c1 c2 c3 c4 c5 c6 c7 c8
  cases force
  · rcases HBO.out with rfl | rfl
    · obtain ⟨c0, c1, c2, c3, c4, c5, c6, c7, c8⟩ := cells24 HK.out
      have ew : tx = (([kindB 1, itoaB tag] ++ [vol]) ++ [itoaB pos, itoaB len]) := by rw [← HTX.out]; first | rfl | simp [wordsC, volW, tailW, flagW]
      have HW := Lib.hid ew
      clear ew
      have hjl : (Lib.join (((([kindB 1, itoaB tag] ++ [vol]) ++ [itoaB pos, itoaB len])).map (·.data.toList)) (⟨#[32]⟩ : ByteArray).data.toList).length ≤ 140737488355328 := by have h := HTB.out; rw [HW.out] at h; exact Nat.le_trans h (by decide)
      obtain ⟨jt, hjt⟩ : ∃ jt, jt = Lib.join (((([kindB 1, itoaB tag] ++ [vol]) ++ [itoaB pos, itoaB len])).map (·.data.toList)) (⟨#[32]⟩ : ByteArray).data.toList := ⟨_, rfl⟩
      have HJ : Aside0 (∀ (W : World) (ok : Nat → Prop) (v : Value), Kd.R Kd.string 9 W w.heap.size ok v ((([kindB 1, itoaB tag] ++ [vol]) ++ [itoaB pos, itoaB len])) → Calls Tryd.prog 32 #[v, .string ⟨#[32]⟩] W fun e w' => e = .returned (.string ⟨jt.toArray⟩) ∧ Below W.heap.size W w') := ⟨fun W ok v hR => by rw [hjt]; exact Join_R W w.heap.size ok v _ ⟨#[32]⟩ hR (by have hbd := HBD.out; simp; try omega) hjl⟩
      have hfin : Lib.join (tx.map (·.data.toList)) [32] = jt := by rw [HW.out, hjt]
      have HFIN := Lib.hid hfin
      clear hjl hjt hfin HW
      go_wp2_with fail
      refine (HJ.out _ _ _ HR.out).mono ?_
      rintro e w9 ⟨rfl, hb⟩
      have HB9 := Aside0.mk (below_step HB.out hb)
      clear hb
      go_wp2
      go_ret
      exact ⟨by rw [HFIN.out]; rfl, HB9.out⟩
    · obtain ⟨c0, c1, c2, c3, c4, c5, c6, c7, c8⟩ := cells24 HK.out
      have LIM : Aside0 ((((([kindB 1, itoaB tag] ++ [vol]) ++ [itoaB pos, itoaB len])).length + 1) * 16 ≤ 140737488355328) := ⟨by have hbd := HBD.out; simp; try omega⟩
      go_upto_region 25 with ((with_reducible refine gate_builtin (b := .append) (xs := #[.tmp 86, .tmp 87]) rfl ?_); at_builtin; refine Kd.R_append Kd.string (w0 := w) w.heap.size rfl (.tmp 86) (.tmp 87) 38 9 (.string ByteArray.empty) 16 rfl Tryd.underlying38 info9 rfl (by decide) (by omega) _ ((([kindB 1, itoaB tag] ++ [vol]) ++ [itoaB pos, itoaB len])) (orderedB) [.string (orderedB)] (fun k => k ≠ w.heap.size) (fun _ => False) rfl (by first | (go_simp; done) | (go_simp; rfl)) rfl (fun _ hk => hk.elim) (fun k hk => by have := blk_lt HK.out; omega) HR.out HB.out (below_size HB.out) LIM.out ?_; intro v1 w8 ho hb hg _; have n0 := Aside0.mk (blk_grown HK.out hg (fun e => HR.out.1 _ e.symm rfl)); have n1 := Aside0.mk ho; have n2 := Aside0.mk hb; clear HK HR HB ho hb hg; have HK := n0; have HR := n1; have HB := n2; clear n0 n1 n2; clear c0 c1 c2 c3 c4 c5 c6 c7 c8; obtain ⟨c0, c1, c2, c3, c4, c5, c6, c7, c8⟩ := cells24 HK.out)
      clear LIM c0 c1 c2 c3 c4 c5 c6 c7 c8
      have ew : tx = (([kindB 1, itoaB tag] ++ [vol]) ++ [itoaB pos, itoaB len]) ++ [orderedB] := by rw [← HTX.out]; first | rfl | simp [wordsC, volW, tailW, flagW]
      have HW := Lib.hid ew
      clear ew
      have hjl : (Lib.join (((([kindB 1, itoaB tag] ++ [vol]) ++ [itoaB pos, itoaB len]) ++ [orderedB]).map (·.data.toList)) (⟨#[32]⟩ : ByteArray).data.toList).length ≤ 140737488355328 := by have h := HTB.out; rw [HW.out] at h; exact Nat.le_trans h (by decide)
      obtain ⟨jt, hjt⟩ : ∃ jt, jt = Lib.join (((([kindB 1, itoaB tag] ++ [vol]) ++ [itoaB pos, itoaB len]) ++ [orderedB]).map (·.data.toList)) (⟨#[32]⟩ : ByteArray).data.toList := ⟨_, rfl⟩
      have HJ : Aside0 (∀ (W : World) (ok : Nat → Prop) (v : Value), Kd.R Kd.string 9 W w.heap.size ok v ((([kindB 1, itoaB tag] ++ [vol]) ++ [itoaB pos, itoaB len]) ++ [orderedB]) → Calls Tryd.prog 32 #[v, .string ⟨#[32]⟩] W fun e w' => e = .returned (.string ⟨jt.toArray⟩) ∧ Below W.heap.size W w') := ⟨fun W ok v hR => by rw [hjt]; exact Join_R W w.heap.size ok v _ ⟨#[32]⟩ hR (by have hbd := HBD.out; simp; try omega) hjl⟩
      have hfin : Lib.join (tx.map (·.data.toList)) [32] = jt := by rw [HW.out, hjt]
      have HFIN := Lib.hid hfin
      clear hjl hjt hfin HW
      go_wp2_with fail
      refine (HJ.out _ _ _ HR.out).mono ?_
      rintro e w9 ⟨rfl, hb⟩
      have HB9 := Aside0.mk (below_step HB.out hb)
      clear hb
      go_wp2
      go_ret
      exact ⟨by rw [HFIN.out]; rfl, HB9.out⟩
  · obtain ⟨c0, c1, c2, c3, c4, c5, c6, c7, c8⟩ := cells24 HK.out
    have LIM : Aside0 ((((([kindB 1, itoaB tag] ++ [vol]) ++ [itoaB pos, itoaB len])).length + 1) * 16 ≤ 140737488355328) := ⟨by have hbd := HBD.out; simp; try omega⟩
    go_upto_region 23 with ((with_reducible refine gate_builtin (b := .append) (xs := #[.tmp 80, .tmp 81]) rfl ?_); at_builtin; refine Kd.R_append Kd.string (w0 := w) w.heap.size rfl (.tmp 80) (.tmp 81) 38 9 (.string ByteArray.empty) 16 rfl Tryd.underlying38 info9 rfl (by decide) (by omega) _ ((([kindB 1, itoaB tag] ++ [vol]) ++ [itoaB pos, itoaB len])) (forceB) [.string (forceB)] (fun k => k ≠ w.heap.size) (fun _ => False) rfl (by first | (go_simp; done) | (go_simp; rfl)) rfl (fun _ hk => hk.elim) (fun k hk => by have := blk_lt HK.out; omega) HR.out HB.out (below_size HB.out) LIM.out ?_; intro v1 w7 ho hb hg _; have n0 := Aside0.mk (blk_grown HK.out hg (fun e => HR.out.1 _ e.symm rfl)); have n1 := Aside0.mk ho; have n2 := Aside0.mk hb; clear HK HR HB ho hb hg; have HK := n0; have HR := n1; have HB := n2; clear n0 n1 n2; clear c0 c1 c2 c3 c4 c5 c6 c7 c8; obtain ⟨c0, c1, c2, c3, c4, c5, c6, c7, c8⟩ := cells24 HK.out)
    clear LIM c0 c1 c2 c3 c4 c5 c6 c7 c8
    rcases HBO.out with rfl | rfl
    · obtain ⟨c0, c1, c2, c3, c4, c5, c6, c7, c8⟩ := cells24 HK.out
      have ew : tx = (([kindB 1, itoaB tag] ++ [vol]) ++ [itoaB pos, itoaB len]) ++ [forceB] := by rw [← HTX.out]; first | rfl | simp [wordsC, volW, tailW, flagW]
      have HW := Lib.hid ew
      clear ew
      have hjl : (Lib.join (((([kindB 1, itoaB tag] ++ [vol]) ++ [itoaB pos, itoaB len]) ++ [forceB]).map (·.data.toList)) (⟨#[32]⟩ : ByteArray).data.toList).length ≤ 140737488355328 := by have h := HTB.out; rw [HW.out] at h; exact Nat.le_trans h (by decide)
      obtain ⟨jt, hjt⟩ : ∃ jt, jt = Lib.join (((([kindB 1, itoaB tag] ++ [vol]) ++ [itoaB pos, itoaB len]) ++ [forceB]).map (·.data.toList)) (⟨#[32]⟩ : ByteArray).data.toList := ⟨_, rfl⟩
      have HJ : Aside0 (∀ (W : World) (ok : Nat → Prop) (v : Value), Kd.R Kd.string 9 W w.heap.size ok v ((([kindB 1, itoaB tag] ++ [vol]) ++ [itoaB pos, itoaB len]) ++ [forceB]) → Calls Tryd.prog 32 #[v, .string ⟨#[32]⟩] W fun e w' => e = .returned (.string ⟨jt.toArray⟩) ∧ Below W.heap.size W w') := ⟨fun W ok v hR => by rw [hjt]; exact Join_R W w.heap.size ok v _ ⟨#[32]⟩ hR (by have hbd := HBD.out; simp; try omega) hjl⟩
      have hfin : Lib.join (tx.map (·.data.toList)) [32] = jt := by rw [HW.out, hjt]
      have HFIN := Lib.hid hfin
      clear hjl hjt hfin HW
      go_wp2_with fail
      refine (HJ.out _ _ _ HR.out).mono ?_
      rintro e w9 ⟨rfl, hb⟩
      have HB9 := Aside0.mk (below_step HB.out hb)
      clear hb
      go_wp2
      go_ret
      exact ⟨by rw [HFIN.out]; rfl, HB9.out⟩
    · obtain ⟨c0, c1, c2, c3, c4, c5, c6, c7, c8⟩ := cells24 HK.out
      have LIM : Aside0 ((((([kindB 1, itoaB tag] ++ [vol]) ++ [itoaB pos, itoaB len]) ++ [forceB]).length + 1) * 16 ≤ 140737488355328) := ⟨by have hbd := HBD.out; simp; try omega⟩
      go_upto_region 25 with ((with_reducible refine gate_builtin (b := .append) (xs := #[.tmp 86, .tmp 87]) rfl ?_); at_builtin; refine Kd.R_append Kd.string (w0 := w) w.heap.size rfl (.tmp 86) (.tmp 87) 38 9 (.string ByteArray.empty) 16 rfl Tryd.underlying38 info9 rfl (by decide) (by omega) _ ((([kindB 1, itoaB tag] ++ [vol]) ++ [itoaB pos, itoaB len]) ++ [forceB]) (orderedB) [.string (orderedB)] (fun k => k ≠ w.heap.size) (fun _ => False) rfl (by first | (go_simp; done) | (go_simp; rfl)) rfl (fun _ hk => hk.elim) (fun k hk => by have := blk_lt HK.out; omega) HR.out HB.out (below_size HB.out) LIM.out ?_; intro v1 w8 ho hb hg _; have n0 := Aside0.mk (blk_grown HK.out hg (fun e => HR.out.1 _ e.symm rfl)); have n1 := Aside0.mk ho; have n2 := Aside0.mk hb; clear HK HR HB ho hb hg; have HK := n0; have HR := n1; have HB := n2; clear n0 n1 n2; clear c0 c1 c2 c3 c4 c5 c6 c7 c8; obtain ⟨c0, c1, c2, c3, c4, c5, c6, c7, c8⟩ := cells24 HK.out)
      clear LIM c0 c1 c2 c3 c4 c5 c6 c7 c8
      have ew : tx = (([kindB 1, itoaB tag] ++ [vol]) ++ [itoaB pos, itoaB len]) ++ [forceB] ++ [orderedB] := by rw [← HTX.out]; first | rfl | simp [wordsC, volW, tailW, flagW]
      have HW := Lib.hid ew
      clear ew
      have hjl : (Lib.join (((([kindB 1, itoaB tag] ++ [vol]) ++ [itoaB pos, itoaB len]) ++ [forceB] ++ [orderedB]).map (·.data.toList)) (⟨#[32]⟩ : ByteArray).data.toList).length ≤ 140737488355328 := by have h := HTB.out; rw [HW.out] at h; exact Nat.le_trans h (by decide)
      obtain ⟨jt, hjt⟩ : ∃ jt, jt = Lib.join (((([kindB 1, itoaB tag] ++ [vol]) ++ [itoaB pos, itoaB len]) ++ [forceB] ++ [orderedB]).map (·.data.toList)) (⟨#[32]⟩ : ByteArray).data.toList := ⟨_, rfl⟩
      have HJ : Aside0 (∀ (W : World) (ok : Nat → Prop) (v : Value), Kd.R Kd.string 9 W w.heap.size ok v ((([kindB 1, itoaB tag] ++ [vol]) ++ [itoaB pos, itoaB len]) ++ [forceB] ++ [orderedB]) → Calls Tryd.prog 32 #[v, .string ⟨#[32]⟩] W fun e w' => e = .returned (.string ⟨jt.toArray⟩) ∧ Below W.heap.size W w') := ⟨fun W ok v hR => by rw [hjt]; exact Join_R W w.heap.size ok v _ ⟨#[32]⟩ hR (by have hbd := HBD.out; simp; try omega) hjl⟩
      have hfin : Lib.join (tx.map (·.data.toList)) [32] = jt := by rw [HW.out, hjt]
      have HFIN := Lib.hid hfin
      clear hjl hjt hfin HW
      go_wp2_with fail
      refine (HJ.out _ _ _ HR.out).mono ?_
      rintro e w9 ⟨rfl, hb⟩
      have HB9 := Aside0.mk (below_step HB.out hb)
      clear hb
      go_wp2
      go_ret
      exact ⟨by rw [HFIN.out]; rfl, HB9.out⟩
set_option maxHeartbeats 16000000 in
set_option maxRecDepth 100000 in
theorem text_3 (tag order : Int) (force : Bool) (vol other : ByteArray) (pos len : Int) (data : List S35) (w : World) (A : Option Addr) (cap : Nat) (hA : Kd.C k35 w A data.length data) (hcap : data.length ≤ cap) (hL : Ld w) (hx : ∀ x ∈ data, ok35 x = true) (hv : validC ⟨tag, 3, order, force, vol, other, pos, len, data⟩ = true) :
    Calls Tryd.prog 15 #[.agg #[.int .i64 tag, .int .i64 3, .int .i64 order, .bool force, .string vol, .string other, .int .i64 pos, .int .i64 len, .slice A data.length cap]] w fun e w' => e = .returned (.string ⟨(Lib.join ((wordsC ⟨tag, 3, order, force, vol, other, pos, len, data⟩).map (·.data.toList)) [32]).toArray⟩) ∧ Below w.heap.size w w' := by
  have hu24 := Tryd.underlying24
  obtain ⟨_, bt, bv, bp, bl, bd, bo⟩ := valid_bd hv
  have htb := text_bd hv
  generalize htx : wordsC ⟨tag, 3, order, force, vol, other, pos, len, data⟩ = tx at htb
  have HTX := Lib.hid htx
  have HTB := Lib.hid htb
  simp only at bt bv bp bl bd bo
  have HBT := Aside0.mk bt
  have HBV := Aside0.mk bv
  have HBP := Aside0.mk bp
  have HBL := Aside0.mk bl
  have HBD := Aside0.mk bd
  have HBO := Aside0.mk bo
  have HA := Aside0.mk hA
  have HCAP := Aside0.mk hcap
  have HX := Aside0.mk hx
  have HV := Lib.hid hv
  have HLD := Aside0.mk hL
  clear hA hcap hx hv hL bt bv bp bl bd bo htx htb
  go_enter Tryd.func15, Tryd.ntmps15
  go_wp2_with fail
  have hk1 := blk_new w (.cells #[.int .i64 tag, .int .i64 3, .int .i64 order, .bool force, .string vol, .string other, .int .i64 pos, .int .i64 len, .slice A data.length cap] 24)
  have hb1 := below_allocs w (.cells #[.int .i64 tag, .int .i64 3, .int .i64 order, .bool force, .string vol, .string other, .int .i64 pos, .int .i64 len, .slice A data.length cap] 24)
  generalize w.alloc (.cells #[.int .i64 tag, .int .i64 3, .int .i64 order, .bool force, .string vol, .string other, .int .i64 pos, .int .i64 len, .slice A data.length cap] 24) = w1 at hk1 hb1 ⊢
  have HK := Aside0.mk hk1
  have HB := Aside0.mk hb1
  clear hk1 hb1
  have c := Valid_any ⟨tag, 3, order, force, vol, other, pos, len, data⟩ w1 A cap (Kd.C_below HA.out HB.out) HCAP.out (Nat.le_trans HBD.out (by decide))
  rw [HV.out] at c
  refine c.mono ?_
  clear c
  rintro e w2 ⟨rfl, hb⟩
  replace HK := Aside0.mk (blk_below HK.out hb)
  replace HB := Aside0.mk (below_step HB.out hb)
  clear hb
  have hix : ∀ w, (Instr.index 41 kindsV (.int .i64 3)).run Tryd.prog w = .ok (.string (kindB 3)) w := fun w => kinds_index 3 (by decide) w
  have HIT := Aside0.mk (fun W (hB : Below w2.heap.size w2 W) => ItoaB_any tag (by have := HBT.out; omega) (by have := HBT.out; omega) W (HLD.out.below (below_step HB.out hB)))
  have HKI := Aside0.mk kinds_any
  have HSB : Aside0 (∀ W : World, Below w2.heap.size w2 W → W.cell? ⟨w.heap.size, 1, none⟩ = some (.int .i64 3) ∧ W.cell? ⟨w.heap.size, 0, none⟩ = some (.int .i64 tag)) := ⟨fun W hB => ⟨(cells24 (blk_below HK.out hB)).2.1, (cells24 (blk_below HK.out hB)).1⟩⟩
  have HB0 : Aside0 (Below w2.heap.size w2 w2.drew) := ⟨below_drew1 (Below.refl _ _)⟩
  have hs0 := HSB.out _ (Below.refl _ _)
  obtain ⟨c1, c0⟩ := hs0
  go_upto_region 3 with (fail)
  go_cut [3] (fun s3 wx => Aside0 (wx.heap[w.heap.size]? = some (.cells #[.int .i64 tag, .int .i64 3, .int .i64 order, .bool force, .string vol, .string other, .int .i64 pos, .int .i64 len, .slice A data.length cap] 24 (0, 0))) ∧ Aside0 (Below w.heap.size w wx) ∧ Aside0 (Kd.R Kd.string 9 wx w.heap.size (fun k => k ≠ w.heap.size) s3 [kindB 3, itoaB tag]))
  case first =>
    go_region_held3 (fun W => W.cell? ⟨w.heap.size, 1, none⟩ = some (.int .i64 3) ∧ W.cell? ⟨w.heap.size, 0, none⟩ = some (.int .i64 tag)) (first
      | (with_reducible exact HSB.out _ HB0.out)
      | (with_reducible exact HSB.out _ HB3.out)
      | (with_reducible exact HSB.out _ HB4.out)
      | (with_reducible exact HSB.out _ (below_drew1 HB3.out))
      | (with_reducible exact HSB.out _ (below_drew1 HB4.out))
      | (with_reducible exact HSB.out _ (below_alloc HB4.out _))
      | (with_reducible exact HSB.out _ (below_drew1 (below_alloc HB4.out _)))) (first
      | ((with_reducible (refine Calls.mono (HKI.out _) ?_)); rintro e w3 ⟨rfl, hb⟩; have HB3 := Aside0.mk (below_step HB0.out hb); clear hb)
      | ((with_reducible (refine Calls.mono (HIT.out _ HB3.out) ?_)); rintro e w4 ⟨rfl, hb⟩; have HB4 := Aside0.mk (below_step HB3.out hb); clear hb))
    all_goals
      go_wp2_with fail
      go_meet
      exact ⟨⟨blk_alloc (blk_below HK.out HB4.out) _⟩, ⟨below_alloc (below_step HB.out HB4.out) _⟩, ⟨lit2_R w4 w.heap.size (fun k => k ≠ w.heap.size) (kindB 3) (itoaB tag) (below_size (below_step HB.out HB4.out)) (by have := blk_lt (blk_below HK.out HB4.out); omega)⟩⟩
  case rest =>
  clear HSB HKI HIT HB0 c0 c1 hix HK HB
  obtain ⟨HK, HB, HR⟩ := hcut
  obtain ⟨c0, c1, c2, c3, c4, c5, c6, c7, c8⟩ := cells24 HK.out
  have LIM : Aside0 ((([kindB 3, itoaB tag]).length + 1) * 16 ≤ 140737488355328) := ⟨by have hbd := HBD.out; simp; try omega⟩
  go_upto_region 6 with ((with_reducible refine gate_builtin (b := .append) (xs := #[.tmp 20, .tmp 23]) rfl ?_); at_builtin; refine Kd.R_append Kd.string (w0 := w) w.heap.size rfl (.tmp 20) (.tmp 23) 38 9 (.string ByteArray.empty) 16 rfl Tryd.underlying38 info9 rfl (by decide) (by omega) _ ([kindB 3, itoaB tag]) (vol) [.string (vol)] (fun k => k ≠ w.heap.size) (fun _ => False) rfl (by first | (go_simp; done) | (go_simp; rfl)) rfl (fun _ hk => hk.elim) (fun k hk => by have := blk_lt HK.out; omega) HR.out HB.out (below_size HB.out) LIM.out ?_; intro v1 w6 ho hb hg _; have n0 := Aside0.mk (blk_grown HK.out hg (fun e => HR.out.1 _ e.symm rfl)); have n1 := Aside0.mk ho; have n2 := Aside0.mk hb; clear HK HR HB ho hb hg; have HK := n0; have HR := n1; have HB := n2; clear n0 n1 n2; clear c0 c1 c2 c3 c4 c5 c6 c7 c8; obtain ⟨c0, c1, c2, c3, c4, c5, c6, c7, c8⟩ := cells24 HK.out)
  clear LIM
  try clear c0 c1 c2 c3 c4 c5 c6 c7 c8
  have HI1 := Aside0.mk (fun W (hB : Below w6.heap.size w6 W) => ItoaB_any pos (by have := HBP.out; have := HBL.out; omega) (by have := HBP.out; have := HBL.out; omega) W (HLD.out.below (below_step HB.out hB)))
  have HI2 := Aside0.mk (fun W (hB : Below w6.heap.size w6 W) => ItoaB_any len (by have := HBP.out; have := HBL.out; omega) (by have := HBP.out; have := HBL.out; omega) W (HLD.out.below (below_step HB.out hB)))
  have HSB : Aside0 (∀ W : World, Below w6.heap.size w6 W → W.cell? ⟨w.heap.size, 6, none⟩ = some (.int .i64 pos) ∧ W.cell? ⟨w.heap.size, 7, none⟩ = some (.int .i64 len)) := ⟨fun W hB => ⟨(cells24 (blk_below HK.out hB)).2.2.2.2.2.2.1, (cells24 (blk_below HK.out hB)).2.2.2.2.2.2.2.1⟩⟩
  have HSK : Aside0 (∀ W : World, W.heap[w.heap.size]? = some (.cells #[.int .i64 tag, .int .i64 3, .int .i64 order, .bool force, .string vol, .string other, .int .i64 pos, .int .i64 len, .slice A data.length cap] 24 (0, 0)) → W.cell? ⟨w.heap.size, 6, none⟩ = some (.int .i64 pos) ∧ W.cell? ⟨w.heap.size, 7, none⟩ = some (.int .i64 len)) := ⟨fun W hB => ⟨(cells24 hB).2.2.2.2.2.2.1, (cells24 hB).2.2.2.2.2.2.2.1⟩⟩
  have HB0 : Aside0 (Below w6.heap.size w6 w6.drew) := ⟨below_drew1 (Below.refl _ _)⟩
  have FRX : Aside0 (∀ W : World, Below w6.heap.size w6 W → ∀ k, W.heap.size ≤ k → k ≠ w.heap.size) := ⟨fun W hB k hk => by have := blk_lt (blk_below HK.out hB); omega⟩
  have LIM : Aside0 (((([kindB 3, itoaB tag] ++ [vol])).length + 2) * 16 ≤ 140737488355328) := ⟨by simp; try omega⟩
  obtain ⟨c0, c1, c2, c3, c4, c5, c6, c7, c8⟩ := cells24 HK.out
  go_wp2_with fail
  go_region_held3 (fun W => W.cell? ⟨w.heap.size, 6, none⟩ = some (.int .i64 pos) ∧ W.cell? ⟨w.heap.size, 7, none⟩ = some (.int .i64 len)) (first
    | (with_reducible exact HSB.out _ HB0.out)
    | (with_reducible exact HSB.out _ HB6.out)
    | (with_reducible exact HSB.out _ HB7.out)
    | (with_reducible exact HSB.out _ (below_alloc HB7.out _))
    | (with_reducible exact HSK.out _ HK8.out)) (first
    | ((with_reducible (refine Calls.mono (HI1.out _ HB0.out) ?_)); rintro e w6 ⟨rfl, hb⟩; have HB6 := Aside0.mk (below_step HB0.out hb); clear hb)
    | ((with_reducible (refine Calls.mono (HI2.out _ HB6.out) ?_)); rintro e w7 ⟨rfl, hb⟩; have HB7 := Aside0.mk (below_step HB6.out hb); clear hb)
    | ((refine Kd.R_append_rows_step Kd.string (w0 := w) w.heap.size rfl (.tmp 30) (.tmp 37) 38 9 (.string ByteArray.empty) 16 rfl Tryd.underlying38 info9 rfl (by decide) (by decide) _ (([kindB 3, itoaB tag] ++ [vol])) [itoaB pos, itoaB len] _ 2 2 (fun k => k ≠ w.heap.size) (fun _ => False) rfl rfl (Kd.R_below HR.out (below_alloc HB7.out _)) (two_Cs _ _ _) (fun _ _ h => h) (fun _ h => h.elim) (FRX.out _ (below_alloc HB7.out _)) (below_step HB.out (below_alloc HB7.out _)) (below_size (below_step HB.out (below_alloc HB7.out _))) LIM.out ?_); intro v1 w8 ho hb hg _; have HK8 := Aside0.mk (blk_grown (blk_below HK.out (below_alloc HB7.out _)) hg (fun e => HR.out.1 _ e.symm rfl)); have HR8 := Aside0.mk ho; have HB8 := Aside0.mk hb; clear ho hb hg))
  clear c0 c1 c2 c3 c4 c5 c6 c7 c8 HK HB HR HI1 HI2 HSB HSK HB0 FRX LIM HB6 HB7
  have HK := HK8
  have HB := HB8
  have HR := HR8
  clear HK8 HB8 HR8
  obtain ⟨c0, c1, c2, c3, c4, c5, c6, c7, c8⟩ := cells24 HK.out
  go_upto_region 21 with (fail)
  clear c0 c1 c2 c3 c4 c5 c6 c7 c8
  cases force
  · rcases HBO.out with rfl | rfl
    · obtain ⟨c0, c1, c2, c3, c4, c5, c6, c7, c8⟩ := cells24 HK.out
      have ew : tx = (([kindB 3, itoaB tag] ++ [vol]) ++ [itoaB pos, itoaB len]) := by rw [← HTX.out]; first | rfl | simp [wordsC, volW, tailW, flagW]
      have HW := Lib.hid ew
      clear ew
      have hjl : (Lib.join (((([kindB 3, itoaB tag] ++ [vol]) ++ [itoaB pos, itoaB len])).map (·.data.toList)) (⟨#[32]⟩ : ByteArray).data.toList).length ≤ 140737488355328 := by have h := HTB.out; rw [HW.out] at h; exact Nat.le_trans h (by decide)
      obtain ⟨jt, hjt⟩ : ∃ jt, jt = Lib.join (((([kindB 3, itoaB tag] ++ [vol]) ++ [itoaB pos, itoaB len])).map (·.data.toList)) (⟨#[32]⟩ : ByteArray).data.toList := ⟨_, rfl⟩
      have HJ : Aside0 (∀ (W : World) (ok : Nat → Prop) (v : Value), Kd.R Kd.string 9 W w.heap.size ok v ((([kindB 3, itoaB tag] ++ [vol]) ++ [itoaB pos, itoaB len])) → Calls Tryd.prog 32 #[v, .string ⟨#[32]⟩] W fun e w' => e = .returned (.string ⟨jt.toArray⟩) ∧ Below W.heap.size W w') := ⟨fun W ok v hR => by rw [hjt]; exact Join_R W w.heap.size ok v _ ⟨#[32]⟩ hR (by have hbd := HBD.out; simp; try omega) hjl⟩
      have hfin : Lib.join (tx.map (·.data.toList)) [32] = jt := by rw [HW.out, hjt]
      have HFIN := Lib.hid hfin
      clear hjl hjt hfin HW
      go_wp2_with fail
      refine (HJ.out _ _ _ HR.out).mono ?_
      rintro e w9 ⟨rfl, hb⟩
      have HB9 := Aside0.mk (below_step HB.out hb)
      clear hb
      go_wp2
      go_ret
      exact ⟨by rw [HFIN.out]; rfl, HB9.out⟩
    · obtain ⟨c0, c1, c2, c3, c4, c5, c6, c7, c8⟩ := cells24 HK.out
      have LIM : Aside0 ((((([kindB 3, itoaB tag] ++ [vol]) ++ [itoaB pos, itoaB len])).length + 1) * 16 ≤ 140737488355328) := ⟨by have hbd := HBD.out; simp; try omega⟩
      go_upto_region 25 with ((with_reducible refine gate_builtin (b := .append) (xs := #[.tmp 86, .tmp 87]) rfl ?_); at_builtin; refine Kd.R_append Kd.string (w0 := w) w.heap.size rfl (.tmp 86) (.tmp 87) 38 9 (.string ByteArray.empty) 16 rfl Tryd.underlying38 info9 rfl (by decide) (by omega) _ ((([kindB 3, itoaB tag] ++ [vol]) ++ [itoaB pos, itoaB len])) (orderedB) [.string (orderedB)] (fun k => k ≠ w.heap.size) (fun _ => False) rfl (by first | (go_simp; done) | (go_simp; rfl)) rfl (fun _ hk => hk.elim) (fun k hk => by have := blk_lt HK.out; omega) HR.out HB.out (below_size HB.out) LIM.out ?_; intro v1 w8 ho hb hg _; have n0 := Aside0.mk (blk_grown HK.out hg (fun e => HR.out.1 _ e.symm rfl)); have n1 := Aside0.mk ho; have n2 := Aside0.mk hb; clear HK HR HB ho hb hg; have HK := n0; have HR := n1; have HB := n2; clear n0 n1 n2; clear c0 c1 c2 c3 c4 c5 c6 c7 c8; obtain ⟨c0, c1, c2, c3, c4, c5, c6, c7, c8⟩ := cells24 HK.out)
      clear LIM c0 c1 c2 c3 c4 c5 c6 c7 c8
      have ew : tx = (([kindB 3, itoaB tag] ++ [vol]) ++ [itoaB pos, itoaB len]) ++ [orderedB] := by rw [← HTX.out]; first | rfl | simp [wordsC, volW, tailW, flagW]
      have HW := Lib.hid ew
      clear ew
      have hjl : (Lib.join (((([kindB 3, itoaB tag] ++ [vol]) ++ [itoaB pos, itoaB len]) ++ [orderedB]).map (·.data.toList)) (⟨#[32]⟩ : ByteArray).data.toList).length ≤ 140737488355328 := by have h := HTB.out; rw [HW.out] at h; exact Nat.le_trans h (by decide)
      obtain ⟨jt, hjt⟩ : ∃ jt, jt = Lib.join (((([kindB 3, itoaB tag] ++ [vol]) ++ [itoaB pos, itoaB len]) ++ [orderedB]).map (·.data.toList)) (⟨#[32]⟩ : ByteArray).data.toList := ⟨_, rfl⟩
      have HJ : Aside0 (∀ (W : World) (ok : Nat → Prop) (v : Value), Kd.R Kd.string 9 W w.heap.size ok v ((([kindB 3, itoaB tag] ++ [vol]) ++ [itoaB pos, itoaB len]) ++ [orderedB]) → Calls Tryd.prog 32 #[v, .string ⟨#[32]⟩] W fun e w' => e = .returned (.string ⟨jt.toArray⟩) ∧ Below W.heap.size W w') := ⟨fun W ok v hR => by rw [hjt]; exact Join_R W w.heap.size ok v _ ⟨#[32]⟩ hR (by have hbd := HBD.out; simp; try omega) hjl⟩
      have hfin : Lib.join (tx.map (·.data.toList)) [32] = jt := by rw [HW.out, hjt]
      have HFIN := Lib.hid hfin
      clear hjl hjt hfin HW
      go_wp2_with fail
      refine (HJ.out _ _ _ HR.out).mono ?_
      rintro e w9 ⟨rfl, hb⟩
      have HB9 := Aside0.mk (below_step HB.out hb)
      clear hb
      go_wp2
      go_ret
      exact ⟨by rw [HFIN.out]; rfl, HB9.out⟩
  · obtain ⟨c0, c1, c2, c3, c4, c5, c6, c7, c8⟩ := cells24 HK.out
    have LIM : Aside0 ((((([kindB 3, itoaB tag] ++ [vol]) ++ [itoaB pos, itoaB len])).length + 1) * 16 ≤ 140737488355328) := ⟨by have hbd := HBD.out; simp; try omega⟩
    go_upto_region 23 with ((with_reducible refine gate_builtin (b := .append) (xs := #[.tmp 80, .tmp 81]) rfl ?_); at_builtin; refine Kd.R_append Kd.string (w0 := w) w.heap.size rfl (.tmp 80) (.tmp 81) 38 9 (.string ByteArray.empty) 16 rfl Tryd.underlying38 info9 rfl (by decide) (by omega) _ ((([kindB 3, itoaB tag] ++ [vol]) ++ [itoaB pos, itoaB len])) (forceB) [.string (forceB)] (fun k => k ≠ w.heap.size) (fun _ => False) rfl (by first | (go_simp; done) | (go_simp; rfl)) rfl (fun _ hk => hk.elim) (fun k hk => by have := blk_lt HK.out; omega) HR.out HB.out (below_size HB.out) LIM.out ?_; intro v1 w7 ho hb hg _; have n0 := Aside0.mk (blk_grown HK.out hg (fun e => HR.out.1 _ e.symm rfl)); have n1 := Aside0.mk ho; have n2 := Aside0.mk hb; clear HK HR HB ho hb hg; have HK := n0; have HR := n1; have HB := n2; clear n0 n1 n2; clear c0 c1 c2 c3 c4 c5 c6 c7 c8; obtain ⟨c0, c1, c2, c3, c4, c5, c6, c7, c8⟩ := cells24 HK.out)
    clear LIM c0 c1 c2 c3 c4 c5 c6 c7 c8
    rcases HBO.out with rfl | rfl
    · obtain ⟨c0, c1, c2, c3, c4, c5, c6, c7, c8⟩ := cells24 HK.out
      have ew : tx = (([kindB 3, itoaB tag] ++ [vol]) ++ [itoaB pos, itoaB len]) ++ [forceB] := by rw [← HTX.out]; first | rfl | simp [wordsC, volW, tailW, flagW]
      have HW := Lib.hid ew
      clear ew
      have hjl : (Lib.join (((([kindB 3, itoaB tag] ++ [vol]) ++ [itoaB pos, itoaB len]) ++ [forceB]).map (·.data.toList)) (⟨#[32]⟩ : ByteArray).data.toList).length ≤ 140737488355328 := by have h := HTB.out; rw [HW.out] at h; exact Nat.le_trans h (by decide)
      obtain ⟨jt, hjt⟩ : ∃ jt, jt = Lib.join (((([kindB 3, itoaB tag] ++ [vol]) ++ [itoaB pos, itoaB len]) ++ [forceB]).map (·.data.toList)) (⟨#[32]⟩ : ByteArray).data.toList := ⟨_, rfl⟩
      have HJ : Aside0 (∀ (W : World) (ok : Nat → Prop) (v : Value), Kd.R Kd.string 9 W w.heap.size ok v ((([kindB 3, itoaB tag] ++ [vol]) ++ [itoaB pos, itoaB len]) ++ [forceB]) → Calls Tryd.prog 32 #[v, .string ⟨#[32]⟩] W fun e w' => e = .returned (.string ⟨jt.toArray⟩) ∧ Below W.heap.size W w') := ⟨fun W ok v hR => by rw [hjt]; exact Join_R W w.heap.size ok v _ ⟨#[32]⟩ hR (by have hbd := HBD.out; simp; try omega) hjl⟩
      have hfin : Lib.join (tx.map (·.data.toList)) [32] = jt := by rw [HW.out, hjt]
      have HFIN := Lib.hid hfin
      clear hjl hjt hfin HW
      go_wp2_with fail
      refine (HJ.out _ _ _ HR.out).mono ?_
      rintro e w9 ⟨rfl, hb⟩
      have HB9 := Aside0.mk (below_step HB.out hb)
      clear hb
      go_wp2
      go_ret
      exact ⟨by rw [HFIN.out]; rfl, HB9.out⟩
    · obtain ⟨c0, c1, c2, c3, c4, c5, c6, c7, c8⟩ := cells24 HK.out
      have LIM : Aside0 ((((([kindB 3, itoaB tag] ++ [vol]) ++ [itoaB pos, itoaB len]) ++ [forceB]).length + 1) * 16 ≤ 140737488355328) := ⟨by have hbd := HBD.out; simp; try omega⟩
      go_upto_region 25 with ((with_reducible refine gate_builtin (b := .append) (xs := #[.tmp 86, .tmp 87]) rfl ?_); at_builtin; refine Kd.R_append Kd.string (w0 := w) w.heap.size rfl (.tmp 86) (.tmp 87) 38 9 (.string ByteArray.empty) 16 rfl Tryd.underlying38 info9 rfl (by decide) (by omega) _ ((([kindB 3, itoaB tag] ++ [vol]) ++ [itoaB pos, itoaB len]) ++ [forceB]) (orderedB) [.string (orderedB)] (fun k => k ≠ w.heap.size) (fun _ => False) rfl (by first | (go_simp; done) | (go_simp; rfl)) rfl (fun _ hk => hk.elim) (fun k hk => by have := blk_lt HK.out; omega) HR.out HB.out (below_size HB.out) LIM.out ?_; intro v1 w8 ho hb hg _; have n0 := Aside0.mk (blk_grown HK.out hg (fun e => HR.out.1 _ e.symm rfl)); have n1 := Aside0.mk ho; have n2 := Aside0.mk hb; clear HK HR HB ho hb hg; have HK := n0; have HR := n1; have HB := n2; clear n0 n1 n2; clear c0 c1 c2 c3 c4 c5 c6 c7 c8; obtain ⟨c0, c1, c2, c3, c4, c5, c6, c7, c8⟩ := cells24 HK.out)
      clear LIM c0 c1 c2 c3 c4 c5 c6 c7 c8
      have ew : tx = (([kindB 3, itoaB tag] ++ [vol]) ++ [itoaB pos, itoaB len]) ++ [forceB] ++ [orderedB] := by rw [← HTX.out]; first | rfl | simp [wordsC, volW, tailW, flagW]
      have HW := Lib.hid ew
      clear ew
      have hjl : (Lib.join (((([kindB 3, itoaB tag] ++ [vol]) ++ [itoaB pos, itoaB len]) ++ [forceB] ++ [orderedB]).map (·.data.toList)) (⟨#[32]⟩ : ByteArray).data.toList).length ≤ 140737488355328 := by have h := HTB.out; rw [HW.out] at h; exact Nat.le_trans h (by decide)
      obtain ⟨jt, hjt⟩ : ∃ jt, jt = Lib.join (((([kindB 3, itoaB tag] ++ [vol]) ++ [itoaB pos, itoaB len]) ++ [forceB] ++ [orderedB]).map (·.data.toList)) (⟨#[32]⟩ : ByteArray).data.toList := ⟨_, rfl⟩
      have HJ : Aside0 (∀ (W : World) (ok : Nat → Prop) (v : Value), Kd.R Kd.string 9 W w.heap.size ok v ((([kindB 3, itoaB tag] ++ [vol]) ++ [itoaB pos, itoaB len]) ++ [forceB] ++ [orderedB]) → Calls Tryd.prog 32 #[v, .string ⟨#[32]⟩] W fun e w' => e = .returned (.string ⟨jt.toArray⟩) ∧ Below W.heap.size W w') := ⟨fun W ok v hR => by rw [hjt]; exact Join_R W w.heap.size ok v _ ⟨#[32]⟩ hR (by have hbd := HBD.out; simp; try omega) hjl⟩
      have hfin : Lib.join (tx.map (·.data.toList)) [32] = jt := by rw [HW.out, hjt]
      have HFIN := Lib.hid hfin
      clear hjl hjt hfin HW
      go_wp2_with fail
      refine (HJ.out _ _ _ HR.out).mono ?_
      rintro e w9 ⟨rfl, hb⟩
      have HB9 := Aside0.mk (below_step HB.out hb)
      clear hb
      go_wp2
      go_ret
      exact ⟨by rw [HFIN.out]; rfl, HB9.out⟩
set_option maxHeartbeats 16000000 in
set_option maxRecDepth 100000 in
theorem text_5 (tag order : Int) (force : Bool) (vol other : ByteArray) (pos len : Int) (data : List S35) (w : World) (A : Option Addr) (cap : Nat) (hA : Kd.C k35 w A data.length data) (hcap : data.length ≤ cap) (hL : Ld w) (hx : ∀ x ∈ data, ok35 x = true) (hv : validC ⟨tag, 5, order, force, vol, other, pos, len, data⟩ = true) :
    Calls Tryd.prog 15 #[.agg #[.int .i64 tag, .int .i64 5, .int .i64 order, .bool force, .string vol, .string other, .int .i64 pos, .int .i64 len, .slice A data.length cap]] w fun e w' => e = .returned (.string ⟨(Lib.join ((wordsC ⟨tag, 5, order, force, vol, other, pos, len, data⟩).map (·.data.toList)) [32]).toArray⟩) ∧ Below w.heap.size w w' := by
  have hu24 := Tryd.underlying24
  obtain ⟨_, bt, bv, bp, bl, bd, bo⟩ := valid_bd hv
  have htb := text_bd hv
  generalize htx : wordsC ⟨tag, 5, order, force, vol, other, pos, len, data⟩ = tx at htb
  have HTX := Lib.hid htx
  have HTB := Lib.hid htb
  simp only at bt bv bp bl bd bo
  have HBT := Aside0.mk bt
  have HBV := Aside0.mk bv
  have HBP := Aside0.mk bp
  have HBL := Aside0.mk bl
  have HBD := Aside0.mk bd
  have HBO := Aside0.mk bo
  have HA := Aside0.mk hA
  have HCAP := Aside0.mk hcap
  have HX := Aside0.mk hx
  have HV := Lib.hid hv
  have HLD := Aside0.mk hL
  clear hA hcap hx hv hL bt bv bp bl bd bo htx htb
  go_enter Tryd.func15, Tryd.ntmps15
  go_wp2_with fail
  have hk1 := blk_new w (.cells #[.int .i64 tag, .int .i64 5, .int .i64 order, .bool force, .string vol, .string other, .int .i64 pos, .int .i64 len, .slice A data.length cap] 24)
  have hb1 := below_allocs w (.cells #[.int .i64 tag, .int .i64 5, .int .i64 order, .bool force, .string vol, .string other, .int .i64 pos, .int .i64 len, .slice A data.length cap] 24)
  generalize w.alloc (.cells #[.int .i64 tag, .int .i64 5, .int .i64 order, .bool force, .string vol, .string other, .int .i64 pos, .int .i64 len, .slice A data.length cap] 24) = w1 at hk1 hb1 ⊢
  have HK := Aside0.mk hk1
  have HB := Aside0.mk hb1
  clear hk1 hb1
  have c := Valid_any ⟨tag, 5, order, force, vol, other, pos, len, data⟩ w1 A cap (Kd.C_below HA.out HB.out) HCAP.out (Nat.le_trans HBD.out (by decide))
  rw [HV.out] at c
  refine c.mono ?_
  clear c
  rintro e w2 ⟨rfl, hb⟩
  replace HK := Aside0.mk (blk_below HK.out hb)
  replace HB := Aside0.mk (below_step HB.out hb)
  clear hb
  have hix : ∀ w, (Instr.index 41 kindsV (.int .i64 5)).run Tryd.prog w = .ok (.string (kindB 5)) w := fun w => kinds_index 5 (by decide) w
  have HIT := Aside0.mk (fun W (hB : Below w2.heap.size w2 W) => ItoaB_any tag (by have := HBT.out; omega) (by have := HBT.out; omega) W (HLD.out.below (below_step HB.out hB)))
  have HKI := Aside0.mk kinds_any
  have HSB : Aside0 (∀ W : World, Below w2.heap.size w2 W → W.cell? ⟨w.heap.size, 1, none⟩ = some (.int .i64 5) ∧ W.cell? ⟨w.heap.size, 0, none⟩ = some (.int .i64 tag)) := ⟨fun W hB => ⟨(cells24 (blk_below HK.out hB)).2.1, (cells24 (blk_below HK.out hB)).1⟩⟩
  have HB0 : Aside0 (Below w2.heap.size w2 w2.drew) := ⟨below_drew1 (Below.refl _ _)⟩
  have hs0 := HSB.out _ (Below.refl _ _)
  obtain ⟨c1, c0⟩ := hs0
  go_upto_region 3 with (fail)
  go_cut [3] (fun s3 wx => Aside0 (wx.heap[w.heap.size]? = some (.cells #[.int .i64 tag, .int .i64 5, .int .i64 order, .bool force, .string vol, .string other, .int .i64 pos, .int .i64 len, .slice A data.length cap] 24 (0, 0))) ∧ Aside0 (Below w.heap.size w wx) ∧ Aside0 (Kd.R Kd.string 9 wx w.heap.size (fun k => k ≠ w.heap.size) s3 [kindB 5, itoaB tag]))
  case first =>
    go_region_held3 (fun W => W.cell? ⟨w.heap.size, 1, none⟩ = some (.int .i64 5) ∧ W.cell? ⟨w.heap.size, 0, none⟩ = some (.int .i64 tag)) (first
      | (with_reducible exact HSB.out _ HB0.out)
      | (with_reducible exact HSB.out _ HB3.out)
      | (with_reducible exact HSB.out _ HB4.out)
      | (with_reducible exact HSB.out _ (below_drew1 HB3.out))
      | (with_reducible exact HSB.out _ (below_drew1 HB4.out))
      | (with_reducible exact HSB.out _ (below_alloc HB4.out _))
      | (with_reducible exact HSB.out _ (below_drew1 (below_alloc HB4.out _)))) (first
      | ((with_reducible (refine Calls.mono (HKI.out _) ?_)); rintro e w3 ⟨rfl, hb⟩; have HB3 := Aside0.mk (below_step HB0.out hb); clear hb)
      | ((with_reducible (refine Calls.mono (HIT.out _ HB3.out) ?_)); rintro e w4 ⟨rfl, hb⟩; have HB4 := Aside0.mk (below_step HB3.out hb); clear hb))
    all_goals
      go_wp2_with fail
      go_meet
      exact ⟨⟨blk_alloc (blk_below HK.out HB4.out) _⟩, ⟨below_alloc (below_step HB.out HB4.out) _⟩, ⟨lit2_R w4 w.heap.size (fun k => k ≠ w.heap.size) (kindB 5) (itoaB tag) (below_size (below_step HB.out HB4.out)) (by have := blk_lt (blk_below HK.out HB4.out); omega)⟩⟩
  case rest =>
  clear HSB HKI HIT HB0 c0 c1 hix HK HB
  obtain ⟨HK, HB, HR⟩ := hcut
  obtain ⟨c0, c1, c2, c3, c4, c5, c6, c7, c8⟩ := cells24 HK.out
  have LIM : Aside0 ((([kindB 5, itoaB tag]).length + 1) * 16 ≤ 140737488355328) := ⟨by have hbd := HBD.out; simp; try omega⟩
  go_upto_region 6 with ((with_reducible refine gate_builtin (b := .append) (xs := #[.tmp 20, .tmp 23]) rfl ?_); at_builtin; refine Kd.R_append Kd.string (w0 := w) w.heap.size rfl (.tmp 20) (.tmp 23) 38 9 (.string ByteArray.empty) 16 rfl Tryd.underlying38 info9 rfl (by decide) (by omega) _ ([kindB 5, itoaB tag]) (vol) [.string (vol)] (fun k => k ≠ w.heap.size) (fun _ => False) rfl (by first | (go_simp; done) | (go_simp; rfl)) rfl (fun _ hk => hk.elim) (fun k hk => by have := blk_lt HK.out; omega) HR.out HB.out (below_size HB.out) LIM.out ?_; intro v1 w6 ho hb hg _; have n0 := Aside0.mk (blk_grown HK.out hg (fun e => HR.out.1 _ e.symm rfl)); have n1 := Aside0.mk ho; have n2 := Aside0.mk hb; clear HK HR HB ho hb hg; have HK := n0; have HR := n1; have HB := n2; clear n0 n1 n2; clear c0 c1 c2 c3 c4 c5 c6 c7 c8; obtain ⟨c0, c1, c2, c3, c4, c5, c6, c7, c8⟩ := cells24 HK.out)
  clear LIM
  try clear c0 c1 c2 c3 c4 c5 c6 c7 c8
  have HI1 := Aside0.mk (fun W (hB : Below w6.heap.size w6 W) => ItoaB_any len (by have := HBP.out; have := HBL.out; omega) (by have := HBP.out; have := HBL.out; omega) W (HLD.out.below (below_step HB.out hB)))
  have HI2 := Aside0.mk (fun W (hB : Below w6.heap.size w6 W) => ItoaB_any pos (by have := HBP.out; have := HBL.out; omega) (by have := HBP.out; have := HBL.out; omega) W (HLD.out.below (below_step HB.out hB)))
  have HSB : Aside0 (∀ W : World, Below w6.heap.size w6 W → W.cell? ⟨w.heap.size, 7, none⟩ = some (.int .i64 len) ∧ W.cell? ⟨w.heap.size, 6, none⟩ = some (.int .i64 pos)) := ⟨fun W hB => ⟨(cells24 (blk_below HK.out hB)).2.2.2.2.2.2.2.1, (cells24 (blk_below HK.out hB)).2.2.2.2.2.2.1⟩⟩
  have HSK : Aside0 (∀ W : World, W.heap[w.heap.size]? = some (.cells #[.int .i64 tag, .int .i64 5, .int .i64 order, .bool force, .string vol, .string other, .int .i64 pos, .int .i64 len, .slice A data.length cap] 24 (0, 0)) → W.cell? ⟨w.heap.size, 7, none⟩ = some (.int .i64 len) ∧ W.cell? ⟨w.heap.size, 6, none⟩ = some (.int .i64 pos)) := ⟨fun W hB => ⟨(cells24 hB).2.2.2.2.2.2.2.1, (cells24 hB).2.2.2.2.2.2.1⟩⟩
  have HB0 : Aside0 (Below w6.heap.size w6 w6.drew) := ⟨below_drew1 (Below.refl _ _)⟩
  have FRX : Aside0 (∀ W : World, Below w6.heap.size w6 W → ∀ k, W.heap.size ≤ k → k ≠ w.heap.size) := ⟨fun W hB k hk => by have := blk_lt (blk_below HK.out hB); omega⟩
  have LIM : Aside0 (((([kindB 5, itoaB tag] ++ [vol])).length + 2) * 16 ≤ 140737488355328) := ⟨by simp; try omega⟩
  obtain ⟨c0, c1, c2, c3, c4, c5, c6, c7, c8⟩ := cells24 HK.out
  go_wp2_with fail
  go_region_held3 (fun W => W.cell? ⟨w.heap.size, 7, none⟩ = some (.int .i64 len) ∧ W.cell? ⟨w.heap.size, 6, none⟩ = some (.int .i64 pos)) (first
    | (with_reducible exact HSB.out _ HB0.out)
    | (with_reducible exact HSB.out _ HB6.out)
    | (with_reducible exact HSB.out _ HB7.out)
    | (with_reducible exact HSB.out _ (below_alloc HB7.out _))
    | (with_reducible exact HSK.out _ HK8.out)) (first
    | ((with_reducible (refine Calls.mono (HI1.out _ HB0.out) ?_)); rintro e w6 ⟨rfl, hb⟩; have HB6 := Aside0.mk (below_step HB0.out hb); clear hb)
    | ((with_reducible (refine Calls.mono (HI2.out _ HB6.out) ?_)); rintro e w7 ⟨rfl, hb⟩; have HB7 := Aside0.mk (below_step HB6.out hb); clear hb)
    | ((refine Kd.R_append_rows_step Kd.string (w0 := w) w.heap.size rfl (.tmp 62) (.tmp 69) 38 9 (.string ByteArray.empty) 16 rfl Tryd.underlying38 info9 rfl (by decide) (by decide) _ (([kindB 5, itoaB tag] ++ [vol])) [itoaB len, itoaB pos] _ 2 2 (fun k => k ≠ w.heap.size) (fun _ => False) rfl rfl (Kd.R_below HR.out (below_alloc HB7.out _)) (two_Cs _ _ _) (fun _ _ h => h) (fun _ h => h.elim) (FRX.out _ (below_alloc HB7.out _)) (below_step HB.out (below_alloc HB7.out _)) (below_size (below_step HB.out (below_alloc HB7.out _))) LIM.out ?_); intro v1 w8 ho hb hg _; have HK8 := Aside0.mk (blk_grown (blk_below HK.out (below_alloc HB7.out _)) hg (fun e => HR.out.1 _ e.symm rfl)); have HR8 := Aside0.mk ho; have HB8 := Aside0.mk hb; clear ho hb hg))
  clear c0 c1 c2 c3 c4 c5 c6 c7 c8 HK HB HR HI1 HI2 HSB HSK HB0 FRX LIM HB6 HB7
  have HK := HK8
  have HB := HB8
  have HR := HR8
  clear HK8 HB8 HR8
  obtain ⟨c0, c1, c2, c3, c4, c5, c6, c7, c8⟩ := cells24 HK.out
  go_upto_region 21 with (fail)
  clear c0 c1 c2 c3 c4 c5 c6 c7 c8
  cases force
  · rcases HBO.out with rfl | rfl
    · obtain ⟨c0, c1, c2, c3, c4, c5, c6, c7, c8⟩ := cells24 HK.out
      have ew : tx = (([kindB 5, itoaB tag] ++ [vol]) ++ [itoaB len, itoaB pos]) := by rw [← HTX.out]; first | rfl | simp [wordsC, volW, tailW, flagW]
      have HW := Lib.hid ew
      clear ew
      have hjl : (Lib.join (((([kindB 5, itoaB tag] ++ [vol]) ++ [itoaB len, itoaB pos])).map (·.data.toList)) (⟨#[32]⟩ : ByteArray).data.toList).length ≤ 140737488355328 := by have h := HTB.out; rw [HW.out] at h; exact Nat.le_trans h (by decide)
      obtain ⟨jt, hjt⟩ : ∃ jt, jt = Lib.join (((([kindB 5, itoaB tag] ++ [vol]) ++ [itoaB len, itoaB pos])).map (·.data.toList)) (⟨#[32]⟩ : ByteArray).data.toList := ⟨_, rfl⟩
      have HJ : Aside0 (∀ (W : World) (ok : Nat → Prop) (v : Value), Kd.R Kd.string 9 W w.heap.size ok v ((([kindB 5, itoaB tag] ++ [vol]) ++ [itoaB len, itoaB pos])) → Calls Tryd.prog 32 #[v, .string ⟨#[32]⟩] W fun e w' => e = .returned (.string ⟨jt.toArray⟩) ∧ Below W.heap.size W w') := ⟨fun W ok v hR => by rw [hjt]; exact Join_R W w.heap.size ok v _ ⟨#[32]⟩ hR (by have hbd := HBD.out; simp; try omega) hjl⟩
      have hfin : Lib.join (tx.map (·.data.toList)) [32] = jt := by rw [HW.out, hjt]
      have HFIN := Lib.hid hfin
      clear hjl hjt hfin HW
      go_wp2_with fail
      refine (HJ.out _ _ _ HR.out).mono ?_
      rintro e w9 ⟨rfl, hb⟩
      have HB9 := Aside0.mk (below_step HB.out hb)
      clear hb
      go_wp2
      go_ret
      exact ⟨by rw [HFIN.out]; rfl, HB9.out⟩
    · obtain ⟨c0, c1, c2, c3, c4, c5, c6, c7, c8⟩ := cells24 HK.out
      have LIM : Aside0 ((((([kindB 5, itoaB tag] ++ [vol]) ++ [itoaB len, itoaB pos])).length + 1) * 16 ≤ 140737488355328) := ⟨by have hbd := HBD.out; simp; try omega⟩
      go_upto_region 25 with ((with_reducible refine gate_builtin (b := .append) (xs := #[.tmp 86, .tmp 87]) rfl ?_); at_builtin; refine Kd.R_append Kd.string (w0 := w) w.heap.size rfl (.tmp 86) (.tmp 87) 38 9 (.string ByteArray.empty) 16 rfl Tryd.underlying38 info9 rfl (by decide) (by omega) _ ((([kindB 5, itoaB tag] ++ [vol]) ++ [itoaB len, itoaB pos])) (orderedB) [.string (orderedB)] (fun k => k ≠ w.heap.size) (fun _ => False) rfl (by first | (go_simp; done) | (go_simp; rfl)) rfl (fun _ hk => hk.elim) (fun k hk => by have := blk_lt HK.out; omega) HR.out HB.out (below_size HB.out) LIM.out ?_; intro v1 w8 ho hb hg _; have n0 := Aside0.mk (blk_grown HK.out hg (fun e => HR.out.1 _ e.symm rfl)); have n1 := Aside0.mk ho; have n2 := Aside0.mk hb; clear HK HR HB ho hb hg; have HK := n0; have HR := n1; have HB := n2; clear n0 n1 n2; clear c0 c1 c2 c3 c4 c5 c6 c7 c8; obtain ⟨c0, c1, c2, c3, c4, c5, c6, c7, c8⟩ := cells24 HK.out)
      clear LIM c0 c1 c2 c3 c4 c5 c6 c7 c8
      have ew : tx = (([kindB 5, itoaB tag] ++ [vol]) ++ [itoaB len, itoaB pos]) ++ [orderedB] := by rw [← HTX.out]; first | rfl | simp [wordsC, volW, tailW, flagW]
      have HW := Lib.hid ew
      clear ew
      have hjl : (Lib.join (((([kindB 5, itoaB tag] ++ [vol]) ++ [itoaB len, itoaB pos]) ++ [orderedB]).map (·.data.toList)) (⟨#[32]⟩ : ByteArray).data.toList).length ≤ 140737488355328 := by have h := HTB.out; rw [HW.out] at h; exact Nat.le_trans h (by decide)
      obtain ⟨jt, hjt⟩ : ∃ jt, jt = Lib.join (((([kindB 5, itoaB tag] ++ [vol]) ++ [itoaB len, itoaB pos]) ++ [orderedB]).map (·.data.toList)) (⟨#[32]⟩ : ByteArray).data.toList := ⟨_, rfl⟩
      have HJ : Aside0 (∀ (W : World) (ok : Nat → Prop) (v : Value), Kd.R Kd.string 9 W w.heap.size ok v ((([kindB 5, itoaB tag] ++ [vol]) ++ [itoaB len, itoaB pos]) ++ [orderedB]) → Calls Tryd.prog 32 #[v, .string ⟨#[32]⟩] W fun e w' => e = .returned (.string ⟨jt.toArray⟩) ∧ Below W.heap.size W w') := ⟨fun W ok v hR => by rw [hjt]; exact Join_R W w.heap.size ok v _ ⟨#[32]⟩ hR (by have hbd := HBD.out; simp; try omega) hjl⟩
      have hfin : Lib.join (tx.map (·.data.toList)) [32] = jt := by rw [HW.out, hjt]
      have HFIN := Lib.hid hfin
      clear hjl hjt hfin HW
      go_wp2_with fail
      refine (HJ.out _ _ _ HR.out).mono ?_
      rintro e w9 ⟨rfl, hb⟩
      have HB9 := Aside0.mk (below_step HB.out hb)
      clear hb
      go_wp2
      go_ret
      exact ⟨by rw [HFIN.out]; rfl, HB9.out⟩
  · obtain ⟨c0, c1, c2, c3, c4, c5, c6, c7, c8⟩ := cells24 HK.out
    have LIM : Aside0 ((((([kindB 5, itoaB tag] ++ [vol]) ++ [itoaB len, itoaB pos])).length + 1) * 16 ≤ 140737488355328) := ⟨by have hbd := HBD.out; simp; try omega⟩
    go_upto_region 23 with ((with_reducible refine gate_builtin (b := .append) (xs := #[.tmp 80, .tmp 81]) rfl ?_); at_builtin; refine Kd.R_append Kd.string (w0 := w) w.heap.size rfl (.tmp 80) (.tmp 81) 38 9 (.string ByteArray.empty) 16 rfl Tryd.underlying38 info9 rfl (by decide) (by omega) _ ((([kindB 5, itoaB tag] ++ [vol]) ++ [itoaB len, itoaB pos])) (forceB) [.string (forceB)] (fun k => k ≠ w.heap.size) (fun _ => False) rfl (by first | (go_simp; done) | (go_simp; rfl)) rfl (fun _ hk => hk.elim) (fun k hk => by have := blk_lt HK.out; omega) HR.out HB.out (below_size HB.out) LIM.out ?_; intro v1 w7 ho hb hg _; have n0 := Aside0.mk (blk_grown HK.out hg (fun e => HR.out.1 _ e.symm rfl)); have n1 := Aside0.mk ho; have n2 := Aside0.mk hb; clear HK HR HB ho hb hg; have HK := n0; have HR := n1; have HB := n2; clear n0 n1 n2; clear c0 c1 c2 c3 c4 c5 c6 c7 c8; obtain ⟨c0, c1, c2, c3, c4, c5, c6, c7, c8⟩ := cells24 HK.out)
    clear LIM c0 c1 c2 c3 c4 c5 c6 c7 c8
    rcases HBO.out with rfl | rfl
    · obtain ⟨c0, c1, c2, c3, c4, c5, c6, c7, c8⟩ := cells24 HK.out
      have ew : tx = (([kindB 5, itoaB tag] ++ [vol]) ++ [itoaB len, itoaB pos]) ++ [forceB] := by rw [← HTX.out]; first | rfl | simp [wordsC, volW, tailW, flagW]
      have HW := Lib.hid ew
      clear ew
      have hjl : (Lib.join (((([kindB 5, itoaB tag] ++ [vol]) ++ [itoaB len, itoaB pos]) ++ [forceB]).map (·.data.toList)) (⟨#[32]⟩ : ByteArray).data.toList).length ≤ 140737488355328 := by have h := HTB.out; rw [HW.out] at h; exact Nat.le_trans h (by decide)
      obtain ⟨jt, hjt⟩ : ∃ jt, jt = Lib.join (((([kindB 5, itoaB tag] ++ [vol]) ++ [itoaB len, itoaB pos]) ++ [forceB]).map (·.data.toList)) (⟨#[32]⟩ : ByteArray).data.toList := ⟨_, rfl⟩
      have HJ : Aside0 (∀ (W : World) (ok : Nat → Prop) (v : Value), Kd.R Kd.string 9 W w.heap.size ok v ((([kindB 5, itoaB tag] ++ [vol]) ++ [itoaB len, itoaB pos]) ++ [forceB]) → Calls Tryd.prog 32 #[v, .string ⟨#[32]⟩] W fun e w' => e = .returned (.string ⟨jt.toArray⟩) ∧ Below W.heap.size W w') := ⟨fun W ok v hR => by rw [hjt]; exact Join_R W w.heap.size ok v _ ⟨#[32]⟩ hR (by have hbd := HBD.out; simp; try omega) hjl⟩
      have hfin : Lib.join (tx.map (·.data.toList)) [32] = jt := by rw [HW.out, hjt]
      have HFIN := Lib.hid hfin
      clear hjl hjt hfin HW
      go_wp2_with fail
      refine (HJ.out _ _ _ HR.out).mono ?_
      rintro e w9 ⟨rfl, hb⟩
      have HB9 := Aside0.mk (below_step HB.out hb)
      clear hb
      go_wp2
      go_ret
      exact ⟨by rw [HFIN.out]; rfl, HB9.out⟩
    · obtain ⟨c0, c1, c2, c3, c4, c5, c6, c7, c8⟩ := cells24 HK.out
      have LIM : Aside0 ((((([kindB 5, itoaB tag] ++ [vol]) ++ [itoaB len, itoaB pos]) ++ [forceB]).length + 1) * 16 ≤ 140737488355328) := ⟨by have hbd := HBD.out; simp; try omega⟩
      go_upto_region 25 with ((with_reducible refine gate_builtin (b := .append) (xs := #[.tmp 86, .tmp 87]) rfl ?_); at_builtin; refine Kd.R_append Kd.string (w0 := w) w.heap.size rfl (.tmp 86) (.tmp 87) 38 9 (.string ByteArray.empty) 16 rfl Tryd.underlying38 info9 rfl (by decide) (by omega) _ ((([kindB 5, itoaB tag] ++ [vol]) ++ [itoaB len, itoaB pos]) ++ [forceB]) (orderedB) [.string (orderedB)] (fun k => k ≠ w.heap.size) (fun _ => False) rfl (by first | (go_simp; done) | (go_simp; rfl)) rfl (fun _ hk => hk.elim) (fun k hk => by have := blk_lt HK.out; omega) HR.out HB.out (below_size HB.out) LIM.out ?_; intro v1 w8 ho hb hg _; have n0 := Aside0.mk (blk_grown HK.out hg (fun e => HR.out.1 _ e.symm rfl)); have n1 := Aside0.mk ho; have n2 := Aside0.mk hb; clear HK HR HB ho hb hg; have HK := n0; have HR := n1; have HB := n2; clear n0 n1 n2; clear c0 c1 c2 c3 c4 c5 c6 c7 c8; obtain ⟨c0, c1, c2, c3, c4, c5, c6, c7, c8⟩ := cells24 HK.out)
      clear LIM c0 c1 c2 c3 c4 c5 c6 c7 c8
      have ew : tx = (([kindB 5, itoaB tag] ++ [vol]) ++ [itoaB len, itoaB pos]) ++ [forceB] ++ [orderedB] := by rw [← HTX.out]; first | rfl | simp [wordsC, volW, tailW, flagW]
      have HW := Lib.hid ew
      clear ew
      have hjl : (Lib.join (((([kindB 5, itoaB tag] ++ [vol]) ++ [itoaB len, itoaB pos]) ++ [forceB] ++ [orderedB]).map (·.data.toList)) (⟨#[32]⟩ : ByteArray).data.toList).length ≤ 140737488355328 := by have h := HTB.out; rw [HW.out] at h; exact Nat.le_trans h (by decide)
      obtain ⟨jt, hjt⟩ : ∃ jt, jt = Lib.join (((([kindB 5, itoaB tag] ++ [vol]) ++ [itoaB len, itoaB pos]) ++ [forceB] ++ [orderedB]).map (·.data.toList)) (⟨#[32]⟩ : ByteArray).data.toList := ⟨_, rfl⟩
      have HJ : Aside0 (∀ (W : World) (ok : Nat → Prop) (v : Value), Kd.R Kd.string 9 W w.heap.size ok v ((([kindB 5, itoaB tag] ++ [vol]) ++ [itoaB len, itoaB pos]) ++ [forceB] ++ [orderedB]) → Calls Tryd.prog 32 #[v, .string ⟨#[32]⟩] W fun e w' => e = .returned (.string ⟨jt.toArray⟩) ∧ Below W.heap.size W w') := ⟨fun W ok v hR => by rw [hjt]; exact Join_R W w.heap.size ok v _ ⟨#[32]⟩ hR (by have hbd := HBD.out; simp; try omega) hjl⟩
      have hfin : Lib.join (tx.map (·.data.toList)) [32] = jt := by rw [HW.out, hjt]
      have HFIN := Lib.hid hfin
      clear hjl hjt hfin HW
      go_wp2_with fail
      refine (HJ.out _ _ _ HR.out).mono ?_
      rintro e w9 ⟨rfl, hb⟩
      have HB9 := Aside0.mk (below_step HB.out hb)
      clear hb
      go_wp2
      go_ret
      exact ⟨by rw [HFIN.out]; rfl, HB9.out⟩
end Go.Proofs.YthbnghdobmghlaaDoor.ST
