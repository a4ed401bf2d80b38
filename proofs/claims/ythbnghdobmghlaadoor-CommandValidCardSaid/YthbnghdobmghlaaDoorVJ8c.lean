import Derived.Test.YthbnghdobmghlaaDoorVJ8l
import Derived.Deep.RegionHeld3
namespace Go.Proofs.YthbnghdobmghlaaDoor.ST
open Go.RowKit Go.Proofs.YthbnghdobmghlaaDoorW.PrintWords Go.Proofs.YthbnghdobmghlaaDoorW.PrintLast Go.Proofs.YthbnghdobmghlaaDoorW.PrintMore Go.Proofs.YthbnghdobmghlaaDoor.PC
set_option linter.unusedVariables false
set_option linter.unusedSimpArgs false
set_option maxHeartbeats 16000000 in
set_option maxRecDepth 100000 in
theorem text_4 (tag order : Int) (force : Bool) (vol other : ByteArray) (pos len : Int) (data : List S35) (w : World) (A : Option Addr) (cap : Nat) (hA : Kd.C k35 w A data.length data) (hcap : data.length ≤ cap) (hL : Ld w) (hx : ∀ x ∈ data, ok35 x = true) (hv : validC ⟨tag, 4, order, force, vol, other, pos, len, data⟩ = true) :
    Calls Tryd.prog 15 #[.agg #[.int .i64 tag, .int .i64 4, .int .i64 order, .bool force, .string vol, .string other, .int .i64 pos, .int .i64 len, .slice A data.length cap]] w fun e w' => e = .returned (.string ⟨(Lib.join ((wordsC ⟨tag, 4, order, force, vol, other, pos, len, data⟩).map (·.data.toList)) [32]).toArray⟩) ∧ Below w.heap.size w w' := by
  have hu24 := Tryd.underlying24
  obtain ⟨_, bt, bv, bp, bl, bd, bo⟩ := valid_bd hv
  have htb := text_bd hv
  generalize htx : wordsC ⟨tag, 4, order, force, vol, other, pos, len, data⟩ = tx at htb
  have HTX := Lib.hid htx
  have HTB := Lib.hid htb
  simp only at bt bv bp bl bd bo
  have HBT := Aside0.mk bt
  have HBV := Aside0.mk bv
  have HBP := Aside0.mk bp
  have HBL := Aside0.mk bl
  have HBD := Aside0.mk bd
  have HBO := Aside0.mk bo
  have HA := Aside0.mk hA
  have HCAP := Aside0.mk hcap
  have HX := Aside0.mk hx
  have HV := Lib.hid hv
  have HLD := Aside0.mk hL
  clear hA hcap hx hv hL bt bv bp bl bd bo htx htb
  go_enter Tryd.func15, Tryd.ntmps15
  go_wp2_with fail
  have hk1 := blk_new w (.cells #[.int .i64 tag, .int .i64 4, .int .i64 order, .bool force, .string vol, .string other, .int .i64 pos, .int .i64 len, .slice A data.length cap] 24)
  have hb1 := below_allocs w (.cells #[.int .i64 tag, .int .i64 4, .int .i64 order, .bool force, .string vol, .string other, .int .i64 pos, .int .i64 len, .slice A data.length cap] 24)
  generalize w.alloc (.cells #[.int .i64 tag, .int .i64 4, .int .i64 order, .bool force, .string vol, .string other, .int .i64 pos, .int .i64 len, .slice A data.length cap] 24) = w1 at hk1 hb1 ⊢
  have HK := Aside0.mk hk1
  have HB := Aside0.mk hb1
  clear hk1 hb1
  have c := Valid_any ⟨tag, 4, order, force, vol, other, pos, len, data⟩ w1 A cap (Kd.C_below HA.out HB.out) HCAP.out (Nat.le_trans HBD.out (by decide))
  rw [HV.out] at c
  refine c.mono ?_
  clear c
  rintro e w2 ⟨rfl, hb⟩
  replace HK := Aside0.mk (blk_below HK.out hb)
  replace HB := Aside0.mk (below_step HB.out hb)
  clear hb
  have hix : ∀ w, (Instr.index 41 kindsV (.int .i64 4)).run Tryd.prog w = .ok (.string (kindB 4)) w := fun w => kinds_index 4 (by decide) w
  have HIT := Aside0.mk (fun W (hB : Below w2.heap.size w2 W) => ItoaB_any tag (by have := HBT.out; omega) (by have := HBT.out; omega) W (HLD.out.below (below_step HB.out hB)))
  have HKI := Aside0.mk kinds_any
  have HSB : Aside0 (∀ W : World, Below w2.heap.size w2 W → W.cell? ⟨w.heap.size, 1, none⟩ = some (.int .i64 4) ∧ W.cell? ⟨w.heap.size, 0, none⟩ = some (.int .i64 tag)) := ⟨fun W hB => ⟨(cells24 (blk_below HK.out hB)).2.1, (cells24 (blk_below HK.out hB)).1⟩⟩
  have HB0 : Aside0 (Below w2.heap.size w2 w2.drew) := ⟨below_drew1 (Below.refl _ _)⟩
  have hs0 := HSB.out _ (Below.refl _ _)
  obtain ⟨c1, c0⟩ := hs0
  go_upto_region 3 with (fail)
  go_cut [3] (fun s3 wx => Aside0 (wx.heap[w.heap.size]? = some (.cells #[.int .i64 tag, .int .i64 4, .int .i64 order, .bool force, .string vol, .string other, .int .i64 pos, .int .i64 len, .slice A data.length cap] 24 (0, 0))) ∧ Aside0 (Below w.heap.size w wx) ∧ Aside0 (Kd.R Kd.string 9 wx w.heap.size (fun k => k ≠ w.heap.size) s3 [kindB 4, itoaB tag]))
  case first =>
    go_region_held3 (fun W => W.cell? ⟨w.heap.size, 1, none⟩ = some (.int .i64 4) ∧ W.cell? ⟨w.heap.size, 0, none⟩ = some (.int .i64 tag)) (first
      | (with_reducible exact HSB.out _ HB0.out)
      | (with_reducible exact HSB.out _ HB3.out)
      | (with_reducible exact HSB.out _ HB4.out)
      | (with_reducible exact HSB.out _ (below_drew1 HB3.out))
      | (with_reducible exact HSB.out _ (below_drew1 HB4.out))
      | (with_reducible exact HSB.out _ (below_alloc HB4.out _))
      | (with_reducible exact HSB.out _ (below_drew1 (below_alloc HB4.out _)))) (first
      | ((with_reducible (refine Calls.mono (HKI.out _) ?_)); rintro e w3 ⟨rfl, hb⟩; have HB3 := Aside0.mk (below_step HB0.out hb); clear hb)
      | ((with_reducible (refine Calls.mono (HIT.out _ HB3.out) ?_)); rintro e w4 ⟨rfl, hb⟩; have HB4 := Aside0.mk (below_step HB3.out hb); clear hb))
    all_goals
      go_wp2_with fail
      go_meet
      exact ⟨⟨blk_alloc (blk_below HK.out HB4.out) _⟩, ⟨below_alloc (below_step HB.out HB4.out) _⟩, ⟨lit2_R w4 w.heap.size (fun k => k ≠ w.heap.size) (kindB 4) (itoaB tag) (below_size (below_step HB.out HB4.out)) (by have := blk_lt (blk_below HK.out HB4.out); omega)⟩⟩
  case rest =>
  clear HSB HKI HIT HB0 c0 c1 hix HK HB
  obtain ⟨HK, HB, HR⟩ := hcut
  obtain ⟨c0, c1, c2, c3, c4, c5, c6, c7, c8⟩ := cells24 HK.out
  go_upto_region 21 with (fail)
  clear c0 c1 c2 c3 c4 c5 c6 c7 c8
  cases force
  · rcases HBO.out with rfl | rfl
    · obtain ⟨c0, c1, c2, c3, c4, c5, c6, c7, c8⟩ := cells24 HK.out
      have ew : tx = ([kindB 4, itoaB tag]) := by rw [← HTX.out]; first | rfl | simp [wordsC, volW, tailW, flagW]
      have HW := Lib.hid ew
      clear ew
      have hjl : (Lib.join ((([kindB 4, itoaB tag])).map (·.data.toList)) (⟨#[32]⟩ : ByteArray).data.toList).length ≤ 140737488355328 := by have h := HTB.out; rw [HW.out] at h; exact Nat.le_trans h (by decide)
      obtain ⟨jt, hjt⟩ : ∃ jt, jt = Lib.join ((([kindB 4, itoaB tag])).map (·.data.toList)) (⟨#[32]⟩ : ByteArray).data.toList := ⟨_, rfl⟩
      have HJ : Aside0 (∀ (W : World) (ok : Nat → Prop) (v : Value), Kd.R Kd.string 9 W w.heap.size ok v (([kindB 4, itoaB tag])) → Calls Tryd.prog 32 #[v, .string ⟨#[32]⟩] W fun e w' => e = .returned (.string ⟨jt.toArray⟩) ∧ Below W.heap.size W w') := ⟨fun W ok v hR => by rw [hjt]; exact Join_R W w.heap.size ok v _ ⟨#[32]⟩ hR (by have hbd := HBD.out; simp; try omega) hjl⟩
      have hfin : Lib.join (tx.map (·.data.toList)) [32] = jt := by rw [HW.out, hjt]
      have HFIN := Lib.hid hfin
      clear hjl hjt hfin HW
      go_wp2_with fail
      refine (HJ.out _ _ _ HR.out).mono ?_
      rintro e w9 ⟨rfl, hb⟩
      have HB9 := Aside0.mk (below_step HB.out hb)
      clear hb
      go_wp2
      go_ret
      exact ⟨by rw [HFIN.out]; rfl, HB9.out⟩
    · obtain ⟨c0, c1, c2, c3, c4, c5, c6, c7, c8⟩ := cells24 HK.out
      have LIM : Aside0 (((([kindB 4, itoaB tag])).length + 1) * 16 ≤ 140737488355328) := ⟨by have hbd := HBD.out; simp; try omega⟩
      go_upto_region 25 with ((with_reducible refine gate_builtin (b := .append) (xs := #[.tmp 86, .tmp 87]) rfl ?_); at_builtin; refine Kd.R_append Kd.string (w0 := w) w.heap.size rfl (.tmp 86) (.tmp 87) 38 9 (.string ByteArray.empty) 16 rfl Tryd.underlying38 info9 rfl (by decide) (by omega) _ (([kindB 4, itoaB tag])) (orderedB) [.string (orderedB)] (fun k => k ≠ w.heap.size) (fun _ => False) rfl (by first | (go_simp; done) | (go_simp; rfl)) rfl (fun _ hk => hk.elim) (fun k hk => by have := blk_lt HK.out; omega) HR.out HB.out (below_size HB.out) LIM.out ?_; intro v1 w8 ho hb hg _; have n0 := Aside0.mk (blk_grown HK.out hg (fun e => HR.out.1 _ e.symm rfl)); have n1 := Aside0.mk ho; have n2 := Aside0.mk hb; clear HK HR HB ho hb hg; have HK := n0; have HR := n1; have HB := n2; clear n0 n1 n2; clear c0 c1 c2 c3 c4 c5 c6 c7 c8; obtain ⟨c0, c1, c2, c3, c4, c5, c6, c7, c8⟩ := cells24 HK.out)
      clear LIM c0 c1 c2 c3 c4 c5 c6 c7 c8
      have ew : tx = ([kindB 4, itoaB tag]) ++ [orderedB] := by rw [← HTX.out]; first | rfl | simp [wordsC, volW, tailW, flagW]
      have HW := Lib.hid ew
      clear ew
      have hjl : (Lib.join ((([kindB 4, itoaB tag]) ++ [orderedB]).map (·.data.toList)) (⟨#[32]⟩ : ByteArray).data.toList).length ≤ 140737488355328 := by have h := HTB.out; rw [HW.out] at h; exact Nat.le_trans h (by decide)
      obtain ⟨jt, hjt⟩ : ∃ jt, jt = Lib.join ((([kindB 4, itoaB tag]) ++ [orderedB]).map (·.data.toList)) (⟨#[32]⟩ : ByteArray).data.toList := ⟨_, rfl⟩
      have HJ : Aside0 (∀ (W : World) (ok : Nat → Prop) (v : Value), Kd.R Kd.string 9 W w.heap.size ok v (([kindB 4, itoaB tag]) ++ [orderedB]) → Calls Tryd.prog 32 #[v, .string ⟨#[32]⟩] W fun e w' => e = .returned (.string ⟨jt.toArray⟩) ∧ Below W.heap.size W w') := ⟨fun W ok v hR => by rw [hjt]; exact Join_R W w.heap.size ok v _ ⟨#[32]⟩ hR (by have hbd := HBD.out; simp; try omega) hjl⟩
      have hfin : Lib.join (tx.map (·.data.toList)) [32] = jt := by rw [HW.out, hjt]
      have HFIN := Lib.hid hfin
      clear hjl hjt hfin HW
      go_wp2_with fail
      refine (HJ.out _ _ _ HR.out).mono ?_
      rintro e w9 ⟨rfl, hb⟩
      have HB9 := Aside0.mk (below_step HB.out hb)
      clear hb
      go_wp2
      go_ret
      exact ⟨by rw [HFIN.out]; rfl, HB9.out⟩
  · obtain ⟨c0, c1, c2, c3, c4, c5, c6, c7, c8⟩ := cells24 HK.out
    have LIM : Aside0 (((([kindB 4, itoaB tag])).length + 1) * 16 ≤ 140737488355328) := ⟨by have hbd := HBD.out; simp; try omega⟩
    go_upto_region 23 with ((with_reducible refine gate_builtin (b := .append) (xs := #[.tmp 80, .tmp 81]) rfl ?_); at_builtin; refine Kd.R_append Kd.string (w0 := w) w.heap.size rfl (.tmp 80) (.tmp 81) 38 9 (.string ByteArray.empty) 16 rfl Tryd.underlying38 info9 rfl (by decide) (by omega) _ (([kindB 4, itoaB tag])) (forceB) [.string (forceB)] (fun k => k ≠ w.heap.size) (fun _ => False) rfl (by first | (go_simp; done) | (go_simp; rfl)) rfl (fun _ hk => hk.elim) (fun k hk => by have := blk_lt HK.out; omega) HR.out HB.out (below_size HB.out) LIM.out ?_; intro v1 w7 ho hb hg _; have n0 := Aside0.mk (blk_grown HK.out hg (fun e => HR.out.1 _ e.symm rfl)); have n1 := Aside0.mk ho; have n2 := Aside0.mk hb; clear HK HR HB ho hb hg; have HK := n0; have HR := n1; have HB := n2; clear n0 n1 n2; clear c0 c1 c2 c3 c4 c5 c6 c7 c8; obtain ⟨c0, c1, c2, c3, c4, c5, c6, c7, c8⟩ := cells24 HK.out)
    clear LIM c0 c1 c2 c3 c4 c5 c6 c7 c8
    rcases HBO.out with rfl | rfl
    · obtain ⟨c0, c1, c2, c3, c4, c5, c6, c7, c8⟩ := cells24 HK.out
      have ew : tx = ([kindB 4, itoaB tag]) ++ [forceB] := by rw [← HTX.out]; first | rfl | simp [wordsC, volW, tailW, flagW]
      have HW := Lib.hid ew
      clear ew
      have hjl : (Lib.join ((([kindB 4, itoaB tag]) ++ [forceB]).map (·.data.toList)) (⟨#[32]⟩ : ByteArray).data.toList).length ≤ 140737488355328 := by have h := HTB.out; rw [HW.out] at h; exact Nat.le_trans h (by decide)
      obtain ⟨jt, hjt⟩ : ∃ jt, jt = Lib.join ((([kindB 4, itoaB tag]) ++ [forceB]).map (·.data.toList)) (⟨#[32]⟩ : ByteArray).data.toList := ⟨_, rfl⟩
      have HJ : Aside0 (∀ (W : World) (ok : Nat → Prop) (v : Value), Kd.R Kd.string 9 W w.heap.size ok v (([kindB 4, itoaB tag]) ++ [forceB]) → Calls Tryd.prog 32 #[v, .string ⟨#[32]⟩] W fun e w' => e = .returned (.string ⟨jt.toArray⟩) ∧ Below W.heap.size W w') := ⟨fun W ok v hR => by rw [hjt]; exact Join_R W w.heap.size ok v _ ⟨#[32]⟩ hR (by have hbd := HBD.out; simp; try omega) hjl⟩
      have hfin : Lib.join (tx.map (·.data.toList)) [32] = jt := by rw [HW.out, hjt]
      have HFIN := Lib.hid hfin
      clear hjl hjt hfin HW
      go_wp2_with fail
      refine (HJ.out _ _ _ HR.out).mono ?_
      rintro e w9 ⟨rfl, hb⟩
      have HB9 := Aside0.mk (below_step HB.out hb)
      clear hb
      go_wp2
      go_ret
      exact ⟨by rw [HFIN.out]; rfl, HB9.out⟩
    · obtain ⟨c0, c1, c2, c3, c4, c5, c6, c7, c8⟩ := cells24 HK.out
      have LIM : Aside0 (((([kindB 4, itoaB tag]) ++ [forceB]).length + 1) * 16 ≤ 140737488355328) := ⟨by have hbd := HBD.out; simp; try omega⟩
      go_upto_region 25 with ((with_reducible refine gate_builtin (b := .append) (xs := #[.tmp 86, .tmp 87]) rfl ?_); at_builtin; refine Kd.R_append Kd.string (w0 := w) w.heap.size rfl (.tmp 86) (.tmp 87) 38 9 (.string ByteArray.empty) 16 rfl Tryd.underlying38 info9 rfl (by decide) (by omega) _ (([kindB 4, itoaB tag]) ++ [forceB]) (orderedB) [.string (orderedB)] (fun k => k ≠ w.heap.size) (fun _ => False) rfl (by first | (go_simp; done) | (go_simp; rfl)) rfl (fun _ hk => hk.elim) (fun k hk => by have := blk_lt HK.out; omega) HR.out HB.out (below_size HB.out) LIM.out ?_; intro v1 w8 ho hb hg _; have n0 := Aside0.mk (blk_grown HK.out hg (fun e => HR.out.1 _ e.symm rfl)); have n1 := Aside0.mk ho; have n2 := Aside0.mk hb; clear HK HR HB ho hb hg; have HK := n0; have HR := n1; have HB := n2; clear n0 n1 n2; clear c0 c1 c2 c3 c4 c5 c6 c7 c8; obtain ⟨c0, c1, c2, c3, c4, c5, c6, c7, c8⟩ := cells24 HK.out)
      clear LIM c0 c1 c2 c3 c4 c5 c6 c7 c8
      have ew : tx = ([kindB 4, itoaB tag]) ++ [forceB] ++ [orderedB] := by rw [← HTX.out]; first | rfl | simp [wordsC, volW, tailW, flagW]
      have HW := Lib.hid ew
      clear ew
      have hjl : (Lib.join ((([kindB 4, itoaB tag]) ++ [forceB] ++ [orderedB]).map (·.data.toList)) (⟨#[32]⟩ : ByteArray).data.toList).length ≤ 140737488355328 := by have h := HTB.out; rw [HW.out] at h; exact Nat.le_trans h (by decide)
      obtain ⟨jt, hjt⟩ : ∃ jt, jt = Lib.join ((([kindB 4, itoaB tag]) ++ [forceB] ++ [orderedB]).map (·.data.toList)) (⟨#[32]⟩ : ByteArray).data.toList := ⟨_, rfl⟩
      have HJ : Aside0 (∀ (W : World) (ok : Nat → Prop) (v : Value), Kd.R Kd.string 9 W w.heap.size ok v (([kindB 4, itoaB tag]) ++ [forceB] ++ [orderedB]) → Calls Tryd.prog 32 #[v, .string ⟨#[32]⟩] W fun e w' => e = .returned (.string ⟨jt.toArray⟩) ∧ Below W.heap.size W w') := ⟨fun W ok v hR => by rw [hjt]; exact Join_R W w.heap.size ok v _ ⟨#[32]⟩ hR (by have hbd := HBD.out; simp; try omega) hjl⟩
      have hfin : Lib.join (tx.map (·.data.toList)) [32] = jt := by rw [HW.out, hjt]
      have HFIN := Lib.hid hfin
      clear hjl hjt hfin HW
      go_wp2_with fail
      refine (HJ.out _ _ _ HR.out).mono ?_
      rintro e w9 ⟨rfl, hb⟩
      have HB9 := Aside0.mk (below_step HB.out hb)
      clear hb
      go_wp2
      go_ret
      exact ⟨by rw [HFIN.out]; rfl, HB9.out⟩
set_option maxHeartbeats 16000000 in
set_option maxRecDepth 100000 in
theorem text_6 (tag order : Int) (force : Bool) (vol other : ByteArray) (pos len : Int) (data : List S35) (w : World) (A : Option Addr) (cap : Nat) (hA : Kd.C k35 w A data.length data) (hcap : data.length ≤ cap) (hL : Ld w) (hx : ∀ x ∈ data, ok35 x = true) (hv : validC ⟨tag, 6, order, force, vol, other, pos, len, data⟩ = true) :
    Calls Tryd.prog 15 #[.agg #[.int .i64 tag, .int .i64 6, .int .i64 order, .bool force, .string vol, .string other, .int .i64 pos, .int .i64 len, .slice A data.length cap]] w fun e w' => e = .returned (.string ⟨(Lib.join ((wordsC ⟨tag, 6, order, force, vol, other, pos, len, data⟩).map (·.data.toList)) [32]).toArray⟩) ∧ Below w.heap.size w w' := by
  have hu24 := Tryd.underlying24
  obtain ⟨_, bt, bv, bp, bl, bd, bo⟩ := valid_bd hv
  have htb := text_bd hv
  generalize htx : wordsC ⟨tag, 6, order, force, vol, other, pos, len, data⟩ = tx at htb
  have HTX := Lib.hid htx
  have HTB := Lib.hid htb
  simp only at bt bv bp bl bd bo
  have HBT := Aside0.mk bt
  have HBV := Aside0.mk bv
  have HBP := Aside0.mk bp
  have HBL := Aside0.mk bl
  have HBD := Aside0.mk bd
  have HBO := Aside0.mk bo
  have HA := Aside0.mk hA
  have HCAP := Aside0.mk hcap
  have HX := Aside0.mk hx
  have HV := Lib.hid hv
  have HLD := Aside0.mk hL
  clear hA hcap hx hv hL bt bv bp bl bd bo htx htb
  go_enter Tryd.func15, Tryd.ntmps15
  go_wp2_with fail
  have hk1 := blk_new w (.cells #[.int .i64 tag, .int .i64 6, .int .i64 order, .bool force, .string vol, .string other, .int .i64 pos, .int .i64 len, .slice A data.length cap] 24)
  have hb1 := below_allocs w (.cells #[.int .i64 tag, .int .i64 6, .int .i64 order, .bool force, .string vol, .string other, .int .i64 pos, .int .i64 len, .slice A data.length cap] 24)
  generalize w.alloc (.cells #[.int .i64 tag, .int .i64 6, .int .i64 order, .bool force, .string vol, .string other, .int .i64 pos, .int .i64 len, .slice A data.length cap] 24) = w1 at hk1 hb1 ⊢
  have HK := Aside0.mk hk1
  have HB := Aside0.mk hb1
  clear hk1 hb1
  have c := Valid_any ⟨tag, 6, order, force, vol, other, pos, len, data⟩ w1 A cap (Kd.C_below HA.out HB.out) HCAP.out (Nat.le_trans HBD.out (by decide))
  rw [HV.out] at c
  refine c.mono ?_
  clear c
  rintro e w2 ⟨rfl, hb⟩
  replace HK := Aside0.mk (blk_below HK.out hb)
  replace HB := Aside0.mk (below_step HB.out hb)
  clear hb
  have hix : ∀ w, (Instr.index 41 kindsV (.int .i64 6)).run Tryd.prog w = .ok (.string (kindB 6)) w := fun w => kinds_index 6 (by decide) w
  have HIT := Aside0.mk (fun W (hB : Below w2.heap.size w2 W) => ItoaB_any tag (by have := HBT.out; omega) (by have := HBT.out; omega) W (HLD.out.below (below_step HB.out hB)))
  have HKI := Aside0.mk kinds_any
  have HSB : Aside0 (∀ W : World, Below w2.heap.size w2 W → W.cell? ⟨w.heap.size, 1, none⟩ = some (.int .i64 6) ∧ W.cell? ⟨w.heap.size, 0, none⟩ = some (.int .i64 tag)) := ⟨fun W hB => ⟨(cells24 (blk_below HK.out hB)).2.1, (cells24 (blk_below HK.out hB)).1⟩⟩
  have HB0 : Aside0 (Below w2.heap.size w2 w2.drew) := ⟨below_drew1 (Below.refl _ _)⟩
  have hs0 := HSB.out _ (Below.refl _ _)
  obtain ⟨c1, c0⟩ := hs0
  go_upto_region 3 with (fail)
  go_cut [3] (fun s3 wx => Aside0 (wx.heap[w.heap.size]? = some (.cells #[.int .i64 tag, .int .i64 6, .int .i64 order, .bool force, .string vol, .string other, .int .i64 pos, .int .i64 len, .slice A data.length cap] 24 (0, 0))) ∧ Aside0 (Below w.heap.size w wx) ∧ Aside0 (Kd.R Kd.string 9 wx w.heap.size (fun k => k ≠ w.heap.size) s3 [kindB 6, itoaB tag]))
  case first =>
    go_region_held3 (fun W => W.cell? ⟨w.heap.size, 1, none⟩ = some (.int .i64 6) ∧ W.cell? ⟨w.heap.size, 0, none⟩ = some (.int .i64 tag)) (first
      | (with_reducible exact HSB.out _ HB0.out)
      | (with_reducible exact HSB.out _ HB3.out)
      | (with_reducible exact HSB.out _ HB4.out)
      | (with_reducible exact HSB.out _ (below_drew1 HB3.out))
      | (with_reducible exact HSB.out _ (below_drew1 HB4.out))
      | (with_reducible exact HSB.out _ (below_alloc HB4.out _))
      | (with_reducible exact HSB.out _ (below_drew1 (below_alloc HB4.out _)))) (first
      | ((with_reducible (refine Calls.mono (HKI.out _) ?_)); rintro e w3 ⟨rfl, hb⟩; have HB3 := Aside0.mk (below_step HB0.out hb); clear hb)
      | ((with_reducible (refine Calls.mono (HIT.out _ HB3.out) ?_)); rintro e w4 ⟨rfl, hb⟩; have HB4 := Aside0.mk (below_step HB3.out hb); clear hb))
    all_goals
      go_wp2_with fail
      go_meet
      exact ⟨⟨blk_alloc (blk_below HK.out HB4.out) _⟩, ⟨below_alloc (below_step HB.out HB4.out) _⟩, ⟨lit2_R w4 w.heap.size (fun k => k ≠ w.heap.size) (kindB 6) (itoaB tag) (below_size (below_step HB.out HB4.out)) (by have := blk_lt (blk_below HK.out HB4.out); omega)⟩⟩
  case rest =>
  clear HSB HKI HIT HB0 c0 c1 hix HK HB
  obtain ⟨HK, HB, HR⟩ := hcut
  obtain ⟨c0, c1, c2, c3, c4, c5, c6, c7, c8⟩ := cells24 HK.out
  have LIM : Aside0 ((([kindB 6, itoaB tag]).length + 1) * 16 ≤ 140737488355328) := ⟨by have hbd := HBD.out; simp; try omega⟩
  go_upto_region 6 with ((with_reducible refine gate_builtin (b := .append) (xs := #[.tmp 20, .tmp 23]) rfl ?_); at_builtin; refine Kd.R_append Kd.string (w0 := w) w.heap.size rfl (.tmp 20) (.tmp 23) 38 9 (.string ByteArray.empty) 16 rfl Tryd.underlying38 info9 rfl (by decide) (by omega) _ ([kindB 6, itoaB tag]) (vol) [.string (vol)] (fun k => k ≠ w.heap.size) (fun _ => False) rfl (by first | (go_simp; done) | (go_simp; rfl)) rfl (fun _ hk => hk.elim) (fun k hk => by have := blk_lt HK.out; omega) HR.out HB.out (below_size HB.out) LIM.out ?_; intro v1 w6 ho hb hg _; have n0 := Aside0.mk (blk_grown HK.out hg (fun e => HR.out.1 _ e.symm rfl)); have n1 := Aside0.mk ho; have n2 := Aside0.mk hb; clear HK HR HB ho hb hg; have HK := n0; have HR := n1; have HB := n2; clear n0 n1 n2; clear c0 c1 c2 c3 c4 c5 c6 c7 c8; obtain ⟨c0, c1, c2, c3, c4, c5, c6, c7, c8⟩ := cells24 HK.out)
  clear LIM
  try clear c0 c1 c2 c3 c4 c5 c6 c7 c8
  obtain ⟨c0, c1, c2, c3, c4, c5, c6, c7, c8⟩ := cells24 HK.out
  have LIM : Aside0 (((([kindB 6, itoaB tag] ++ [vol])).length + 1) * 16 ≤ 140737488355328) := ⟨by have hbd := HBD.out; simp; try omega⟩
  go_upto_region 21 with ((with_reducible refine gate_builtin (b := .append) (xs := #[.tmp 73, .tmp 76]) rfl ?_); at_builtin; refine Kd.R_append Kd.string (w0 := w) w.heap.size rfl (.tmp 73) (.tmp 76) 38 9 (.string ByteArray.empty) 16 rfl Tryd.underlying38 info9 rfl (by decide) (by omega) _ (([kindB 6, itoaB tag] ++ [vol])) (other) [.string (other)] (fun k => k ≠ w.heap.size) (fun _ => False) rfl (by first | (go_simp; done) | (go_simp; rfl)) rfl (fun _ hk => hk.elim) (fun k hk => by have := blk_lt HK.out; omega) HR.out HB.out (below_size HB.out) LIM.out ?_; intro v1 w7b ho hb hg _; have n0 := Aside0.mk (blk_grown HK.out hg (fun e => HR.out.1 _ e.symm rfl)); have n1 := Aside0.mk ho; have n2 := Aside0.mk hb; clear HK HR HB ho hb hg; have HK := n0; have HR := n1; have HB := n2; clear n0 n1 n2; clear c0 c1 c2 c3 c4 c5 c6 c7 c8; obtain ⟨c0, c1, c2, c3, c4, c5, c6, c7, c8⟩ := cells24 HK.out)
  clear LIM c0 c1 c2 c3 c4 c5 c6 c7 c8
  obtain ⟨c0, c1, c2, c3, c4, c5, c6, c7, c8⟩ := cells24 HK.out
  go_upto_region 21 with (fail)
  clear c0 c1 c2 c3 c4 c5 c6 c7 c8
  cases force
  · rcases HBO.out with rfl | rfl
    · obtain ⟨c0, c1, c2, c3, c4, c5, c6, c7, c8⟩ := cells24 HK.out
      have ew : tx = (([kindB 6, itoaB tag] ++ [vol]) ++ [other]) := by rw [← HTX.out]; first | rfl | simp [wordsC, volW, tailW, flagW]
      have HW := Lib.hid ew
      clear ew
      have hjl : (Lib.join (((([kindB 6, itoaB tag] ++ [vol]) ++ [other])).map (·.data.toList)) (⟨#[32]⟩ : ByteArray).data.toList).length ≤ 140737488355328 := by have h := HTB.out; rw [HW.out] at h; exact Nat.le_trans h (by decide)
      obtain ⟨jt, hjt⟩ : ∃ jt, jt = Lib.join (((([kindB 6, itoaB tag] ++ [vol]) ++ [other])).map (·.data.toList)) (⟨#[32]⟩ : ByteArray).data.toList := ⟨_, rfl⟩
      have HJ : Aside0 (∀ (W : World) (ok : Nat → Prop) (v : Value), Kd.R Kd.string 9 W w.heap.size ok v ((([kindB 6, itoaB tag] ++ [vol]) ++ [other])) → Calls Tryd.prog 32 #[v, .string ⟨#[32]⟩] W fun e w' => e = .returned (.string ⟨jt.toArray⟩) ∧ Below W.heap.size W w') := ⟨fun W ok v hR => by rw [hjt]; exact Join_R W w.heap.size ok v _ ⟨#[32]⟩ hR (by have hbd := HBD.out; simp; try omega) hjl⟩
      have hfin : Lib.join (tx.map (·.data.toList)) [32] = jt := by rw [HW.out, hjt]
      have HFIN := Lib.hid hfin
      clear hjl hjt hfin HW
      go_wp2_with fail
      refine (HJ.out _ _ _ HR.out).mono ?_
      rintro e w9 ⟨rfl, hb⟩
      have HB9 := Aside0.mk (below_step HB.out hb)
      clear hb
      go_wp2
      go_ret
      exact ⟨by rw [HFIN.out]; rfl, HB9.out⟩
    · obtain ⟨c0, c1, c2, c3, c4, c5, c6, c7, c8⟩ := cells24 HK.out
      have LIM : Aside0 ((((([kindB 6, itoaB tag] ++ [vol]) ++ [other])).length + 1) * 16 ≤ 140737488355328) := ⟨by have hbd := HBD.out; simp; try omega⟩
      go_upto_region 25 with ((with_reducible refine gate_builtin (b := .append) (xs := #[.tmp 86, .tmp 87]) rfl ?_); at_builtin; refine Kd.R_append Kd.string (w0 := w) w.heap.size rfl (.tmp 86) (.tmp 87) 38 9 (.string ByteArray.empty) 16 rfl Tryd.underlying38 info9 rfl (by decide) (by omega) _ ((([kindB 6, itoaB tag] ++ [vol]) ++ [other])) (orderedB) [.string (orderedB)] (fun k => k ≠ w.heap.size) (fun _ => False) rfl (by first | (go_simp; done) | (go_simp; rfl)) rfl (fun _ hk => hk.elim) (fun k hk => by have := blk_lt HK.out; omega) HR.out HB.out (below_size HB.out) LIM.out ?_; intro v1 w8 ho hb hg _; have n0 := Aside0.mk (blk_grown HK.out hg (fun e => HR.out.1 _ e.symm rfl)); have n1 := Aside0.mk ho; have n2 := Aside0.mk hb; clear HK HR HB ho hb hg; have HK := n0; have HR := n1; have HB := n2; clear n0 n1 n2; clear c0 c1 c2 c3 c4 c5 c6 c7 c8; obtain ⟨c0, c1, c2, c3, c4, c5, c6, c7, c8⟩ := cells24 HK.out)
      clear LIM c0 c1 c2 c3 c4 c5 c6 c7 c8
      have ew : tx = (([kindB 6, itoaB tag] ++ [vol]) ++ [other]) ++ [orderedB] := by rw [← HTX.out]; first | rfl | simp [wordsC, volW, tailW, flagW]
      have HW := Lib.hid ew
      clear ew
      have hjl : (Lib.join (((([kindB 6, itoaB tag] ++ [vol]) ++ [other]) ++ [orderedB]).map (·.data.toList)) (⟨#[32]⟩ : ByteArray).data.toList).length ≤ 140737488355328 := by have h := HTB.out; rw [HW.out] at h; exact Nat.le_trans h (by decide)
      obtain ⟨jt, hjt⟩ : ∃ jt, jt = Lib.join (((([kindB 6, itoaB tag] ++ [vol]) ++ [other]) ++ [orderedB]).map (·.data.toList)) (⟨#[32]⟩ : ByteArray).data.toList := ⟨_, rfl⟩
      have HJ : Aside0 (∀ (W : World) (ok : Nat → Prop) (v : Value), Kd.R Kd.string 9 W w.heap.size ok v ((([kindB 6, itoaB tag] ++ [vol]) ++ [other]) ++ [orderedB]) → Calls Tryd.prog 32 #[v, .string ⟨#[32]⟩] W fun e w' => e = .returned (.string ⟨jt.toArray⟩) ∧ Below W.heap.size W w') := ⟨fun W ok v hR => by rw [hjt]; exact Join_R W w.heap.size ok v _ ⟨#[32]⟩ hR (by have hbd := HBD.out; simp; try omega) hjl⟩
      have hfin : Lib.join (tx.map (·.data.toList)) [32] = jt := by rw [HW.out, hjt]
      have HFIN := Lib.hid hfin
      clear hjl hjt hfin HW
      go_wp2_with fail
      refine (HJ.out _ _ _ HR.out).mono ?_
      rintro e w9 ⟨rfl, hb⟩
      have HB9 := Aside0.mk (below_step HB.out hb)
      clear hb
      go_wp2
      go_ret
      exact ⟨by rw [HFIN.out]; rfl, HB9.out⟩
  · obtain ⟨c0, c1, c2, c3, c4, c5, c6, c7, c8⟩ := cells24 HK.out
    have LIM : Aside0 ((((([kindB 6, itoaB tag] ++ [vol]) ++ [other])).length + 1) * 16 ≤ 140737488355328) := ⟨by have hbd := HBD.out; simp; try omega⟩
    go_upto_region 23 with ((with_reducible refine gate_builtin (b := .append) (xs := #[.tmp 80, .tmp 81]) rfl ?_); at_builtin; refine Kd.R_append Kd.string (w0 := w) w.heap.size rfl (.tmp 80) (.tmp 81) 38 9 (.string ByteArray.empty) 16 rfl Tryd.underlying38 info9 rfl (by decide) (by omega) _ ((([kindB 6, itoaB tag] ++ [vol]) ++ [other])) (forceB) [.string (forceB)] (fun k => k ≠ w.heap.size) (fun _ => False) rfl (by first | (go_simp; done) | (go_simp; rfl)) rfl (fun _ hk => hk.elim) (fun k hk => by have := blk_lt HK.out; omega) HR.out HB.out (below_size HB.out) LIM.out ?_; intro v1 w7 ho hb hg _; have n0 := Aside0.mk (blk_grown HK.out hg (fun e => HR.out.1 _ e.symm rfl)); have n1 := Aside0.mk ho; have n2 := Aside0.mk hb; clear HK HR HB ho hb hg; have HK := n0; have HR := n1; have HB := n2; clear n0 n1 n2; clear c0 c1 c2 c3 c4 c5 c6 c7 c8; obtain ⟨c0, c1, c2, c3, c4, c5, c6, c7, c8⟩ := cells24 HK.out)
    clear LIM c0 c1 c2 c3 c4 c5 c6 c7 c8
    rcases HBO.out with rfl | rfl
    · obtain ⟨c0, c1, c2, c3, c4, c5, c6, c7, c8⟩ := cells24 HK.out
      have ew : tx = (([kindB 6, itoaB tag] ++ [vol]) ++ [other]) ++ [forceB] := by rw [← HTX.out]; first | rfl | simp [wordsC, volW, tailW, flagW]
      have HW := Lib.hid ew
      clear ew
      have hjl : (Lib.join (((([kindB 6, itoaB tag] ++ [vol]) ++ [other]) ++ [forceB]).map (·.data.toList)) (⟨#[32]⟩ : ByteArray).data.toList).length ≤ 140737488355328 := by have h := HTB.out; rw [HW.out] at h; exact Nat.le_trans h (by decide)
      obtain ⟨jt, hjt⟩ : ∃ jt, jt = Lib.join (((([kindB 6, itoaB tag] ++ [vol]) ++ [other]) ++ [forceB]).map (·.data.toList)) (⟨#[32]⟩ : ByteArray).data.toList := ⟨_, rfl⟩
      have HJ : Aside0 (∀ (W : World) (ok : Nat → Prop) (v : Value), Kd.R Kd.string 9 W w.heap.size ok v ((([kindB 6, itoaB tag] ++ [vol]) ++ [other]) ++ [forceB]) → Calls Tryd.prog 32 #[v, .string ⟨#[32]⟩] W fun e w' => e = .returned (.string ⟨jt.toArray⟩) ∧ Below W.heap.size W w') := ⟨fun W ok v hR => by rw [hjt]; exact Join_R W w.heap.size ok v _ ⟨#[32]⟩ hR (by have hbd := HBD.out; simp; try omega) hjl⟩
      have hfin : Lib.join (tx.map (·.data.toList)) [32] = jt := by rw [HW.out, hjt]
      have HFIN := Lib.hid hfin
      clear hjl hjt hfin HW
      go_wp2_with fail
      refine (HJ.out _ _ _ HR.out).mono ?_
      rintro e w9 ⟨rfl, hb⟩
      have HB9 := Aside0.mk (below_step HB.out hb)
      clear hb
      go_wp2
      go_ret
      exact ⟨by rw [HFIN.out]; rfl, HB9.out⟩
    · obtain ⟨c0, c1, c2, c3, c4, c5, c6, c7, c8⟩ := cells24 HK.out
      have LIM : Aside0 ((((([kindB 6, itoaB tag] ++ [vol]) ++ [other]) ++ [forceB]).length + 1) * 16 ≤ 140737488355328) := ⟨by have hbd := HBD.out; simp; try omega⟩
      go_upto_region 25 with ((with_reducible refine gate_builtin (b := .append) (xs := #[.tmp 86, .tmp 87]) rfl ?_); at_builtin; refine Kd.R_append Kd.string (w0 := w) w.heap.size rfl (.tmp 86) (.tmp 87) 38 9 (.string ByteArray.empty) 16 rfl Tryd.underlying38 info9 rfl (by decide) (by omega) _ ((([kindB 6, itoaB tag] ++ [vol]) ++ [other]) ++ [forceB]) (orderedB) [.string (orderedB)] (fun k => k ≠ w.heap.size) (fun _ => False) rfl (by first | (go_simp; done) | (go_simp; rfl)) rfl (fun _ hk => hk.elim) (fun k hk => by have := blk_lt HK.out; omega) HR.out HB.out (below_size HB.out) LIM.out ?_; intro v1 w8 ho hb hg _; have n0 := Aside0.mk (blk_grown HK.out hg (fun e => HR.out.1 _ e.symm rfl)); have n1 := Aside0.mk ho; have n2 := Aside0.mk hb; clear HK HR HB ho hb hg; have HK := n0; have HR := n1; have HB := n2; clear n0 n1 n2; clear c0 c1 c2 c3 c4 c5 c6 c7 c8; obtain ⟨c0, c1, c2, c3, c4, c5, c6, c7, c8⟩ := cells24 HK.out)
      clear LIM c0 c1 c2 c3 c4 c5 c6 c7 c8
      have ew : tx = (([kindB 6, itoaB tag] ++ [vol]) ++ [other]) ++ [forceB] ++ [orderedB] := by rw [← HTX.out]; first | rfl | simp [wordsC, volW, tailW, flagW]
      have HW := Lib.hid ew
      clear ew
      have hjl : (Lib.join (((([kindB 6, itoaB tag] ++ [vol]) ++ [other]) ++ [forceB] ++ [orderedB]).map (·.data.toList)) (⟨#[32]⟩ : ByteArray).data.toList).length ≤ 140737488355328 := by have h := HTB.out; rw [HW.out] at h; exact Nat.le_trans h (by decide)
      obtain ⟨jt, hjt⟩ : ∃ jt, jt = Lib.join (((([kindB 6, itoaB tag] ++ [vol]) ++ [other]) ++ [forceB] ++ [orderedB]).map (·.data.toList)) (⟨#[32]⟩ : ByteArray).data.toList := ⟨_, rfl⟩
      have HJ : Aside0 (∀ (W : World) (ok : Nat → Prop) (v : Value), Kd.R Kd.string 9 W w.heap.size ok v ((([kindB 6, itoaB tag] ++ [vol]) ++ [other]) ++ [forceB] ++ [orderedB]) → Calls Tryd.prog 32 #[v, .string ⟨#[32]⟩] W fun e w' => e = .returned (.string ⟨jt.toArray⟩) ∧ Below W.heap.size W w') := ⟨fun W ok v hR => by rw [hjt]; exact Join_R W w.heap.size ok v _ ⟨#[32]⟩ hR (by have hbd := HBD.out; simp; try omega) hjl⟩
      have hfin : Lib.join (tx.map (·.data.toList)) [32] = jt := by rw [HW.out, hjt]
      have HFIN := Lib.hid hfin
      clear hjl hjt hfin HW
      go_wp2_with fail
      refine (HJ.out _ _ _ HR.out).mono ?_
      rintro e w9 ⟨rfl, hb⟩
      have HB9 := Aside0.mk (below_step HB.out hb)
      clear hb
      go_wp2
      go_ret
      exact ⟨by rw [HFIN.out]; rfl, HB9.out⟩
set_option maxHeartbeats 16000000 in
set_option maxRecDepth 100000 in
theorem text_7 (tag order : Int) (force : Bool) (vol other : ByteArray) (pos len : Int) (data : List S35) (w : World) (A : Option Addr) (cap : Nat) (hA : Kd.C k35 w A data.length data) (hcap : data.length ≤ cap) (hL : Ld w) (hx : ∀ x ∈ data, ok35 x = true) (hv : validC ⟨tag, 7, order, force, vol, other, pos, len, data⟩ = true) :
    Calls Tryd.prog 15 #[.agg #[.int .i64 tag, .int .i64 7, .int .i64 order, .bool force, .string vol, .string other, .int .i64 pos, .int .i64 len, .slice A data.length cap]] w fun e w' => e = .returned (.string ⟨(Lib.join ((wordsC ⟨tag, 7, order, force, vol, other, pos, len, data⟩).map (·.data.toList)) [32]).toArray⟩) ∧ Below w.heap.size w w' := by
  have hu24 := Tryd.underlying24
  obtain ⟨_, bt, bv, bp, bl, bd, bo⟩ := valid_bd hv
  have htb := text_bd hv
  generalize htx : wordsC ⟨tag, 7, order, force, vol, other, pos, len, data⟩ = tx at htb
  have HTX := Lib.hid htx
  have HTB := Lib.hid htb
  simp only at bt bv bp bl bd bo
  have HBT := Aside0.mk bt
  have HBV := Aside0.mk bv
  have HBP := Aside0.mk bp
  have HBL := Aside0.mk bl
  have HBD := Aside0.mk bd
  have HBO := Aside0.mk bo
  have HA := Aside0.mk hA
  have HCAP := Aside0.mk hcap
  have HX := Aside0.mk hx
  have HV := Lib.hid hv
  have HLD := Aside0.mk hL
  clear hA hcap hx hv hL bt bv bp bl bd bo htx htb
  go_enter Tryd.func15, Tryd.ntmps15
  go_wp2_with fail
  have hk1 := blk_new w (.cells #[.int .i64 tag, .int .i64 7, .int .i64 order, .bool force, .string vol, .string other, .int .i64 pos, .int .i64 len, .slice A data.length cap] 24)
  have hb1 := below_allocs w (.cells #[.int .i64 tag, .int .i64 7, .int .i64 order, .bool force, .string vol, .string other, .int .i64 pos, .int .i64 len, .slice A data.length cap] 24)
  generalize w.alloc (.cells #[.int .i64 tag, .int .i64 7, .int .i64 order, .bool force, .string vol, .string other, .int .i64 pos, .int .i64 len, .slice A data.length cap] 24) = w1 at hk1 hb1 ⊢
  have HK := Aside0.mk hk1
  have HB := Aside0.mk hb1
  clear hk1 hb1
  have c := Valid_any ⟨tag, 7, order, force, vol, other, pos, len, data⟩ w1 A cap (Kd.C_below HA.out HB.out) HCAP.out (Nat.le_trans HBD.out (by decide))
  rw [HV.out] at c
  refine c.mono ?_
  clear c
  rintro e w2 ⟨rfl, hb⟩
  replace HK := Aside0.mk (blk_below HK.out hb)
  replace HB := Aside0.mk (below_step HB.out hb)
  clear hb
  have hix : ∀ w, (Instr.index 41 kindsV (.int .i64 7)).run Tryd.prog w = .ok (.string (kindB 7)) w := fun w => kinds_index 7 (by decide) w
  have HIT := Aside0.mk (fun W (hB : Below w2.heap.size w2 W) => ItoaB_any tag (by have := HBT.out; omega) (by have := HBT.out; omega) W (HLD.out.below (below_step HB.out hB)))
  have HKI := Aside0.mk kinds_any
  have HSB : Aside0 (∀ W : World, Below w2.heap.size w2 W → W.cell? ⟨w.heap.size, 1, none⟩ = some (.int .i64 7) ∧ W.cell? ⟨w.heap.size, 0, none⟩ = some (.int .i64 tag)) := ⟨fun W hB => ⟨(cells24 (blk_below HK.out hB)).2.1, (cells24 (blk_below HK.out hB)).1⟩⟩
  have HB0 : Aside0 (Below w2.heap.size w2 w2.drew) := ⟨below_drew1 (Below.refl _ _)⟩
  have hs0 := HSB.out _ (Below.refl _ _)
  obtain ⟨c1, c0⟩ := hs0
  go_upto_region 3 with (fail)
  go_cut [3] (fun s3 wx => Aside0 (wx.heap[w.heap.size]? = some (.cells #[.int .i64 tag, .int .i64 7, .int .i64 order, .bool force, .string vol, .string other, .int .i64 pos, .int .i64 len, .slice A data.length cap] 24 (0, 0))) ∧ Aside0 (Below w.heap.size w wx) ∧ Aside0 (Kd.R Kd.string 9 wx w.heap.size (fun k => k ≠ w.heap.size) s3 [kindB 7, itoaB tag]))
  case first =>
    go_region_held3 (fun W => W.cell? ⟨w.heap.size, 1, none⟩ = some (.int .i64 7) ∧ W.cell? ⟨w.heap.size, 0, none⟩ = some (.int .i64 tag)) (first
      | (with_reducible exact HSB.out _ HB0.out)
      | (with_reducible exact HSB.out _ HB3.out)
      | (with_reducible exact HSB.out _ HB4.out)
      | (with_reducible exact HSB.out _ (below_drew1 HB3.out))
      | (with_reducible exact HSB.out _ (below_drew1 HB4.out))
      | (with_reducible exact HSB.out _ (below_alloc HB4.out _))
      | (with_reducible exact HSB.out _ (below_drew1 (below_alloc HB4.out _)))) (first
      | ((with_reducible (refine Calls.mono (HKI.out _) ?_)); rintro e w3 ⟨rfl, hb⟩; have HB3 := Aside0.mk (below_step HB0.out hb); clear hb)
      | ((with_reducible (refine Calls.mono (HIT.out _ HB3.out) ?_)); rintro e w4 ⟨rfl, hb⟩; have HB4 := Aside0.mk (below_step HB3.out hb); clear hb))
    all_goals
      go_wp2_with fail
      go_meet
      exact ⟨⟨blk_alloc (blk_below HK.out HB4.out) _⟩, ⟨below_alloc (below_step HB.out HB4.out) _⟩, ⟨lit2_R w4 w.heap.size (fun k => k ≠ w.heap.size) (kindB 7) (itoaB tag) (below_size (below_step HB.out HB4.out)) (by have := blk_lt (blk_below HK.out HB4.out); omega)⟩⟩
  case rest =>
  clear HSB HKI HIT HB0 c0 c1 hix HK HB
  obtain ⟨HK, HB, HR⟩ := hcut
  obtain ⟨c0, c1, c2, c3, c4, c5, c6, c7, c8⟩ := cells24 HK.out
  have LIM : Aside0 ((([kindB 7, itoaB tag]).length + 1) * 16 ≤ 140737488355328) := ⟨by have hbd := HBD.out; simp; try omega⟩
  go_upto_region 6 with ((with_reducible refine gate_builtin (b := .append) (xs := #[.tmp 20, .tmp 23]) rfl ?_); at_builtin; refine Kd.R_append Kd.string (w0 := w) w.heap.size rfl (.tmp 20) (.tmp 23) 38 9 (.string ByteArray.empty) 16 rfl Tryd.underlying38 info9 rfl (by decide) (by omega) _ ([kindB 7, itoaB tag]) (vol) [.string (vol)] (fun k => k ≠ w.heap.size) (fun _ => False) rfl (by first | (go_simp; done) | (go_simp; rfl)) rfl (fun _ hk => hk.elim) (fun k hk => by have := blk_lt HK.out; omega) HR.out HB.out (below_size HB.out) LIM.out ?_; intro v1 w6 ho hb hg _; have n0 := Aside0.mk (blk_grown HK.out hg (fun e => HR.out.1 _ e.symm rfl)); have n1 := Aside0.mk ho; have n2 := Aside0.mk hb; clear HK HR HB ho hb hg; have HK := n0; have HR := n1; have HB := n2; clear n0 n1 n2; clear c0 c1 c2 c3 c4 c5 c6 c7 c8; obtain ⟨c0, c1, c2, c3, c4, c5, c6, c7, c8⟩ := cells24 HK.out)
  clear LIM
  try clear c0 c1 c2 c3 c4 c5 c6 c7 c8
  obtain ⟨c0, c1, c2, c3, c4, c5, c6, c7, c8⟩ := cells24 HK.out
  go_upto_region 21 with (fail)
  clear c0 c1 c2 c3 c4 c5 c6 c7 c8
  cases force
  · rcases HBO.out with rfl | rfl
    · obtain ⟨c0, c1, c2, c3, c4, c5, c6, c7, c8⟩ := cells24 HK.out
      have ew : tx = ([kindB 7, itoaB tag] ++ [vol]) := by rw [← HTX.out]; first | rfl | simp [wordsC, volW, tailW, flagW]
      have HW := Lib.hid ew
      clear ew
      have hjl : (Lib.join ((([kindB 7, itoaB tag] ++ [vol])).map (·.data.toList)) (⟨#[32]⟩ : ByteArray).data.toList).length ≤ 140737488355328 := by have h := HTB.out; rw [HW.out] at h; exact Nat.le_trans h (by decide)
      obtain ⟨jt, hjt⟩ : ∃ jt, jt = Lib.join ((([kindB 7, itoaB tag] ++ [vol])).map (·.data.toList)) (⟨#[32]⟩ : ByteArray).data.toList := ⟨_, rfl⟩
      have HJ : Aside0 (∀ (W : World) (ok : Nat → Prop) (v : Value), Kd.R Kd.string 9 W w.heap.size ok v (([kindB 7, itoaB tag] ++ [vol])) → Calls Tryd.prog 32 #[v, .string ⟨#[32]⟩] W fun e w' => e = .returned (.string ⟨jt.toArray⟩) ∧ Below W.heap.size W w') := ⟨fun W ok v hR => by rw [hjt]; exact Join_R W w.heap.size ok v _ ⟨#[32]⟩ hR (by have hbd := HBD.out; simp; try omega) hjl⟩
      have hfin : Lib.join (tx.map (·.data.toList)) [32] = jt := by rw [HW.out, hjt]
      have HFIN := Lib.hid hfin
      clear hjl hjt hfin HW
      go_wp2_with fail
      refine (HJ.out _ _ _ HR.out).mono ?_
      rintro e w9 ⟨rfl, hb⟩
      have HB9 := Aside0.mk (below_step HB.out hb)
      clear hb
      go_wp2
      go_ret
      exact ⟨by rw [HFIN.out]; rfl, HB9.out⟩
    · obtain ⟨c0, c1, c2, c3, c4, c5, c6, c7, c8⟩ := cells24 HK.out
      have LIM : Aside0 (((([kindB 7, itoaB tag] ++ [vol])).length + 1) * 16 ≤ 140737488355328) := ⟨by have hbd := HBD.out; simp; try omega⟩
      go_upto_region 25 with ((with_reducible refine gate_builtin (b := .append) (xs := #[.tmp 86, .tmp 87]) rfl ?_); at_builtin; refine Kd.R_append Kd.string (w0 := w) w.heap.size rfl (.tmp 86) (.tmp 87) 38 9 (.string ByteArray.empty) 16 rfl Tryd.underlying38 info9 rfl (by decide) (by omega) _ (([kindB 7, itoaB tag] ++ [vol])) (orderedB) [.string (orderedB)] (fun k => k ≠ w.heap.size) (fun _ => False) rfl (by first | (go_simp; done) | (go_simp; rfl)) rfl (fun _ hk => hk.elim) (fun k hk => by have := blk_lt HK.out; omega) HR.out HB.out (below_size HB.out) LIM.out ?_; intro v1 w8 ho hb hg _; have n0 := Aside0.mk (blk_grown HK.out hg (fun e => HR.out.1 _ e.symm rfl)); have n1 := Aside0.mk ho; have n2 := Aside0.mk hb; clear HK HR HB ho hb hg; have HK := n0; have HR := n1; have HB := n2; clear n0 n1 n2; clear c0 c1 c2 c3 c4 c5 c6 c7 c8; obtain ⟨c0, c1, c2, c3, c4, c5, c6, c7, c8⟩ := cells24 HK.out)
      clear LIM c0 c1 c2 c3 c4 c5 c6 c7 c8
      have ew : tx = ([kindB 7, itoaB tag] ++ [vol]) ++ [orderedB] := by rw [← HTX.out]; first | rfl | simp [wordsC, volW, tailW, flagW]
      have HW := Lib.hid ew
      clear ew
      have hjl : (Lib.join ((([kindB 7, itoaB tag] ++ [vol]) ++ [orderedB]).map (·.data.toList)) (⟨#[32]⟩ : ByteArray).data.toList).length ≤ 140737488355328 := by have h := HTB.out; rw [HW.out] at h; exact Nat.le_trans h (by decide)
      obtain ⟨jt, hjt⟩ : ∃ jt, jt = Lib.join ((([kindB 7, itoaB tag] ++ [vol]) ++ [orderedB]).map (·.data.toList)) (⟨#[32]⟩ : ByteArray).data.toList := ⟨_, rfl⟩
      have HJ : Aside0 (∀ (W : World) (ok : Nat → Prop) (v : Value), Kd.R Kd.string 9 W w.heap.size ok v (([kindB 7, itoaB tag] ++ [vol]) ++ [orderedB]) → Calls Tryd.prog 32 #[v, .string ⟨#[32]⟩] W fun e w' => e = .returned (.string ⟨jt.toArray⟩) ∧ Below W.heap.size W w') := ⟨fun W ok v hR => by rw [hjt]; exact Join_R W w.heap.size ok v _ ⟨#[32]⟩ hR (by have hbd := HBD.out; simp; try omega) hjl⟩
      have hfin : Lib.join (tx.map (·.data.toList)) [32] = jt := by rw [HW.out, hjt]
      have HFIN := Lib.hid hfin
      clear hjl hjt hfin HW
      go_wp2_with fail
      refine (HJ.out _ _ _ HR.out).mono ?_
      rintro e w9 ⟨rfl, hb⟩
      have HB9 := Aside0.mk (below_step HB.out hb)
      clear hb
      go_wp2
      go_ret
      exact ⟨by rw [HFIN.out]; rfl, HB9.out⟩
  · obtain ⟨c0, c1, c2, c3, c4, c5, c6, c7, c8⟩ := cells24 HK.out
    have LIM : Aside0 (((([kindB 7, itoaB tag] ++ [vol])).length + 1) * 16 ≤ 140737488355328) := ⟨by have hbd := HBD.out; simp; try omega⟩
    go_upto_region 23 with ((with_reducible refine gate_builtin (b := .append) (xs := #[.tmp 80, .tmp 81]) rfl ?_); at_builtin; refine Kd.R_append Kd.string (w0 := w) w.heap.size rfl (.tmp 80) (.tmp 81) 38 9 (.string ByteArray.empty) 16 rfl Tryd.underlying38 info9 rfl (by decide) (by omega) _ (([kindB 7, itoaB tag] ++ [vol])) (forceB) [.string (forceB)] (fun k => k ≠ w.heap.size) (fun _ => False) rfl (by first | (go_simp; done) | (go_simp; rfl)) rfl (fun _ hk => hk.elim) (fun k hk => by have := blk_lt HK.out; omega) HR.out HB.out (below_size HB.out) LIM.out ?_; intro v1 w7 ho hb hg _; have n0 := Aside0.mk (blk_grown HK.out hg (fun e => HR.out.1 _ e.symm rfl)); have n1 := Aside0.mk ho; have n2 := Aside0.mk hb; clear HK HR HB ho hb hg; have HK := n0; have HR := n1; have HB := n2; clear n0 n1 n2; clear c0 c1 c2 c3 c4 c5 c6 c7 c8; obtain ⟨c0, c1, c2, c3, c4, c5, c6, c7, c8⟩ := cells24 HK.out)
    clear LIM c0 c1 c2 c3 c4 c5 c6 c7 c8
    rcases HBO.out with rfl | rfl
    · obtain ⟨c0, c1, c2, c3, c4, c5, c6, c7, c8⟩ := cells24 HK.out
      have ew : tx = ([kindB 7, itoaB tag] ++ [vol]) ++ [forceB] := by rw [← HTX.out]; first | rfl | simp [wordsC, volW, tailW, flagW]
      have HW := Lib.hid ew
      clear ew
      have hjl : (Lib.join ((([kindB 7, itoaB tag] ++ [vol]) ++ [forceB]).map (·.data.toList)) (⟨#[32]⟩ : ByteArray).data.toList).length ≤ 140737488355328 := by have h := HTB.out; rw [HW.out] at h; exact Nat.le_trans h (by decide)
      obtain ⟨jt, hjt⟩ : ∃ jt, jt = Lib.join ((([kindB 7, itoaB tag] ++ [vol]) ++ [forceB]).map (·.data.toList)) (⟨#[32]⟩ : ByteArray).data.toList := ⟨_, rfl⟩
      have HJ : Aside0 (∀ (W : World) (ok : Nat → Prop) (v : Value), Kd.R Kd.string 9 W w.heap.size ok v (([kindB 7, itoaB tag] ++ [vol]) ++ [forceB]) → Calls Tryd.prog 32 #[v, .string ⟨#[32]⟩] W fun e w' => e = .returned (.string ⟨jt.toArray⟩) ∧ Below W.heap.size W w') := ⟨fun W ok v hR => by rw [hjt]; exact Join_R W w.heap.size ok v _ ⟨#[32]⟩ hR (by have hbd := HBD.out; simp; try omega) hjl⟩
      have hfin : Lib.join (tx.map (·.data.toList)) [32] = jt := by rw [HW.out, hjt]
      have HFIN := Lib.hid hfin
      clear hjl hjt hfin HW
      go_wp2_with fail
      refine (HJ.out _ _ _ HR.out).mono ?_
      rintro e w9 ⟨rfl, hb⟩
      have HB9 := Aside0.mk (below_step HB.out hb)
      clear hb
      go_wp2
      go_ret
      exact ⟨by rw [HFIN.out]; rfl, HB9.out⟩
    · obtain ⟨c0, c1, c2, c3, c4, c5, c6, c7, c8⟩ := cells24 HK.out
      have LIM : Aside0 (((([kindB 7, itoaB tag] ++ [vol]) ++ [forceB]).length + 1) * 16 ≤ 140737488355328) := ⟨by have hbd := HBD.out; simp; try omega⟩
      go_upto_region 25 with ((with_reducible refine gate_builtin (b := .append) (xs := #[.tmp 86, .tmp 87]) rfl ?_); at_builtin; refine Kd.R_append Kd.string (w0 := w) w.heap.size rfl (.tmp 86) (.tmp 87) 38 9 (.string ByteArray.empty) 16 rfl Tryd.underlying38 info9 rfl (by decide) (by omega) _ (([kindB 7, itoaB tag] ++ [vol]) ++ [forceB]) (orderedB) [.string (orderedB)] (fun k => k ≠ w.heap.size) (fun _ => False) rfl (by first | (go_simp; done) | (go_simp; rfl)) rfl (fun _ hk => hk.elim) (fun k hk => by have := blk_lt HK.out; omega) HR.out HB.out (below_size HB.out) LIM.out ?_; intro v1 w8 ho hb hg _; have n0 := Aside0.mk (blk_grown HK.out hg (fun e => HR.out.1 _ e.symm rfl)); have n1 := Aside0.mk ho; have n2 := Aside0.mk hb; clear HK HR HB ho hb hg; have HK := n0; have HR := n1; have HB := n2; clear n0 n1 n2; clear c0 c1 c2 c3 c4 c5 c6 c7 c8; obtain ⟨c0, c1, c2, c3, c4, c5, c6, c7, c8⟩ := cells24 HK.out)
      clear LIM c0 c1 c2 c3 c4 c5 c6 c7 c8
      have ew : tx = ([kindB 7, itoaB tag] ++ [vol]) ++ [forceB] ++ [orderedB] := by rw [← HTX.out]; first | rfl | simp [wordsC, volW, tailW, flagW]
      have HW := Lib.hid ew
      clear ew
      have hjl : (Lib.join ((([kindB 7, itoaB tag] ++ [vol]) ++ [forceB] ++ [orderedB]).map (·.data.toList)) (⟨#[32]⟩ : ByteArray).data.toList).length ≤ 140737488355328 := by have h := HTB.out; rw [HW.out] at h; exact Nat.le_trans h (by decide)
      obtain ⟨jt, hjt⟩ : ∃ jt, jt = Lib.join ((([kindB 7, itoaB tag] ++ [vol]) ++ [forceB] ++ [orderedB]).map (·.data.toList)) (⟨#[32]⟩ : ByteArray).data.toList := ⟨_, rfl⟩
      have HJ : Aside0 (∀ (W : World) (ok : Nat → Prop) (v : Value), Kd.R Kd.string 9 W w.heap.size ok v (([kindB 7, itoaB tag] ++ [vol]) ++ [forceB] ++ [orderedB]) → Calls Tryd.prog 32 #[v, .string ⟨#[32]⟩] W fun e w' => e = .returned (.string ⟨jt.toArray⟩) ∧ Below W.heap.size W w') := ⟨fun W ok v hR => by rw [hjt]; exact Join_R W w.heap.size ok v _ ⟨#[32]⟩ hR (by have hbd := HBD.out; simp; try omega) hjl⟩
      have hfin : Lib.join (tx.map (·.data.toList)) [32] = jt := by rw [HW.out, hjt]
      have HFIN := Lib.hid hfin
      clear hjl hjt hfin HW
      go_wp2_with fail
      refine (HJ.out _ _ _ HR.out).mono ?_
      rintro e w9 ⟨rfl, hb⟩
      have HB9 := Aside0.mk (below_step HB.out hb)
      clear hb
      go_wp2
      go_ret
      exact ⟨by rw [HFIN.out]; rfl, HB9.out⟩
end Go.Proofs.YthbnghdobmghlaaDoor.ST
