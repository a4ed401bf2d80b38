import Derived.Test.YthbnghdobmghlaaDoorVJ8l
import Derived.Deep.RegionHeld3
namespace Go.Proofs.YthbnghdobmghlaaDoor.ST
open Go.RowKit Go.Proofs.YthbnghdobmghlaaDoorW.PrintWords Go.Proofs.YthbnghdobmghlaaDoorW.PrintLast Go.Proofs.YthbnghdobmghlaaDoorW.PrintMore Go.Proofs.YthbnghdobmghlaaDoor.PC
set_option linter.unusedVariables false
set_option linter.unusedSimpArgs false
set_option maxHeartbeats 16000000 in
set_option maxRecDepth 100000 in
theorem text_2 (tag order : Int) (force : Bool) (vol other : ByteArray) (pos len : Int) (data : List S35) (w : World) (A : Option Addr) (cap : Nat) (hA : Kd.C k35 w A data.length data) (hcap : data.length ≤ cap) (hL : Ld w) (hx : ∀ x ∈ data, ok35 x = true) (hv : validC ⟨tag, 2, order, force, vol, other, pos, len, data⟩ = true) :
    Calls Tryd.prog 15 #[.agg #[.int .i64 tag, .int .i64 2, .int .i64 order, .bool force, .string vol, .string other, .int .i64 pos, .int .i64 len, .slice A data.length cap]] w fun e w' => e = .returned (.string ⟨(Lib.join ((wordsC ⟨tag, 2, order, force, vol, other, pos, len, data⟩).map (·.data.toList)) [32]).toArray⟩) ∧ Below w.heap.size w w' := by
  have hu24 := Tryd.underlying24
  obtain ⟨_, bt, bv, bp, bl, bd, bo⟩ := valid_bd hv
  have htb := text_bd hv
  generalize htx : wordsC ⟨tag, 2, order, force, vol, other, pos, len, data⟩ = tx at htb
  have HTX := Lib.hid htx
  have HTB := Lib.hid htb
  simp only at bt bv bp bl bd bo
  have HBT := Aside0.mk bt
  have HBV := Aside0.mk bv
  have HBP := Aside0.mk bp
  have HBL := Aside0.mk bl
  have HBD := Aside0.mk bd
  have HBO := Aside0.mk bo
  have HA := Aside0.mk hA
  have HCAP := Aside0.mk hcap
  have HX := Aside0.mk hx
  have HV := Lib.hid hv
  have HLD := Aside0.mk hL
  clear hA hcap hx hv hL bt bv bp bl bd bo htx htb
  go_enter Tryd.func15, Tryd.ntmps15
  go_wp2_with fail
  have hk1 := blk_new w (.cells #[.int .i64 tag, .int .i64 2, .int .i64 order, .bool force, .string vol, .string other, .int .i64 pos, .int .i64 len, .slice A data.length cap] 24)
  have hb1 := below_allocs w (.cells #[.int .i64 tag, .int .i64 2, .int .i64 order, .bool force, .string vol, .string other, .int .i64 pos, .int .i64 len, .slice A data.length cap] 24)
  generalize w.alloc (.cells #[.int .i64 tag, .int .i64 2, .int .i64 order, .bool force, .string vol, .string other, .int .i64 pos, .int .i64 len, .slice A data.length cap] 24) = w1 at hk1 hb1 ⊢
  have HK := Aside0.mk hk1
  have HB := Aside0.mk hb1
  clear hk1 hb1
  have c := Valid_any ⟨tag, 2, order, force, vol, other, pos, len, data⟩ w1 A cap (Kd.C_below HA.out HB.out) HCAP.out (Nat.le_trans HBD.out (by decide))
  rw [HV.out] at c
  refine c.mono ?_
  clear c
  rintro e w2 ⟨rfl, hb⟩
  replace HK := Aside0.mk (blk_below HK.out hb)
  replace HB := Aside0.mk (below_step HB.out hb)
  clear hb
  have hix : ∀ w, (Instr.index 41 kindsV (.int .i64 2)).run Tryd.prog w = .ok (.string (kindB 2)) w := fun w => kinds_index 2 (by decide) w
  have HIT := Aside0.mk (fun W (hB : Below w2.heap.size w2 W) => ItoaB_any tag (by have := HBT.out; omega) (by have := HBT.out; omega) W (HLD.out.below (below_step HB.out hB)))
  have HKI := Aside0.mk kinds_any
  have HSB : Aside0 (∀ W : World, Below w2.heap.size w2 W → W.cell? ⟨w.heap.size, 1, none⟩ = some (.int .i64 2) ∧ W.cell? ⟨w.heap.size, 0, none⟩ = some (.int .i64 tag)) := ⟨fun W hB => ⟨(cells24 (blk_below HK.out hB)).2.1, (cells24 (blk_below HK.out hB)).1⟩⟩
  have HB0 : Aside0 (Below w2.heap.size w2 w2.drew) := ⟨below_drew1 (Below.refl _ _)⟩
  have hs0 := HSB.out _ (Below.refl _ _)
  obtain ⟨c1, c0⟩ := hs0
  go_upto_region 3 with (fail)
  go_cut [3] (fun s3 wx => Aside0 (wx.heap[w.heap.size]? = some (.cells #[.int .i64 tag, .int .i64 2, .int .i64 order, .bool force, .string vol, .string other, .int .i64 pos, .int .i64 len, .slice A data.length cap] 24 (0, 0))) ∧ Aside0 (Below w.heap.size w wx) ∧ Aside0 (Kd.R Kd.string 9 wx w.heap.size (fun k => k ≠ w.heap.size) s3 [kindB 2, itoaB tag]))
  case first =>
    go_region_held3 (fun W => W.cell? ⟨w.heap.size, 1, none⟩ = some (.int .i64 2) ∧ W.cell? ⟨w.heap.size, 0, none⟩ = some (.int .i64 tag)) (first
      | (with_reducible exact HSB.out _ HB0.out)
      | (with_reducible exact HSB.out _ HB3.out)
      | (with_reducible exact HSB.out _ HB4.out)
      | (with_reducible exact HSB.out _ (below_drew1 HB3.out))
      | (with_reducible exact HSB.out _ (below_drew1 HB4.out))
      | (with_reducible exact HSB.out _ (below_alloc HB4.out _))
      | (with_reducible exact HSB.out _ (below_drew1 (below_alloc HB4.out _)))) (first
      | ((with_reducible (refine Calls.mono (HKI.out _) ?_)); rintro e w3 ⟨rfl, hb⟩; have HB3 := Aside0.mk (below_step HB0.out hb); clear hb)
      | ((with_reducible (refine Calls.mono (HIT.out _ HB3.out) ?_)); rintro e w4 ⟨rfl, hb⟩; have HB4 := Aside0.mk (below_step HB3.out hb); clear hb))
    all_goals
      go_wp2_with fail
      go_meet
      exact ⟨⟨blk_alloc (blk_below HK.out HB4.out) _⟩, ⟨below_alloc (below_step HB.out HB4.out) _⟩, ⟨lit2_R w4 w.heap.size (fun k => k ≠ w.heap.size) (kindB 2) (itoaB tag) (below_size (below_step HB.out HB4.out)) (by have := blk_lt (blk_below HK.out HB4.out); omega)⟩⟩
  case rest =>
  clear HSB HKI HIT HB0 c0 c1 hix HK HB
  obtain ⟨HK, HB, HR⟩ := hcut
  obtain ⟨c0, c1, c2, c3, c4, c5, c6, c7, c8⟩ := cells24 HK.out
  have LIM : Aside0 ((([kindB 2, itoaB tag]).length + 1) * 16 ≤ 140737488355328) := ⟨by have hbd := HBD.out; simp; try omega⟩
  go_upto_region 6 with ((with_reducible refine gate_builtin (b := .append) (xs := #[.tmp 20, .tmp 23]) rfl ?_); at_builtin; refine Kd.R_append Kd.string (w0 := w) w.heap.size rfl (.tmp 20) (.tmp 23) 38 9 (.string ByteArray.empty) 16 rfl Tryd.underlying38 info9 rfl (by decide) (by omega) _ ([kindB 2, itoaB tag]) (vol) [.string (vol)] (fun k => k ≠ w.heap.size) (fun _ => False) rfl (by first | (go_simp; done) | (go_simp; rfl)) rfl (fun _ hk => hk.elim) (fun k hk => by have := blk_lt HK.out; omega) HR.out HB.out (below_size HB.out) LIM.out ?_; intro v1 w6 ho hb hg _; have n0 := Aside0.mk (blk_grown HK.out hg (fun e => HR.out.1 _ e.symm rfl)); have n1 := Aside0.mk ho; have n2 := Aside0.mk hb; clear HK HR HB ho hb hg; have HK := n0; have HR := n1; have HB := n2; clear n0 n1 n2; clear c0 c1 c2 c3 c4 c5 c6 c7 c8; obtain ⟨c0, c1, c2, c3, c4, c5, c6, c7, c8⟩ := cells24 HK.out)
  clear LIM
  try clear c0 c1 c2 c3 c4 c5 c6 c7 c8
  obtain ⟨c0, c1, c2, c3, c4, c5, c6, c7, c8⟩ := cells24 HK.out
  have LIM : Aside0 (((([kindB 2, itoaB tag] ++ [vol])).length + 1) * 16 ≤ 140737488355328) := ⟨by have hbd := HBD.out; simp; try omega⟩
  have HI1 := Aside0.mk (ItoaB_any pos (by have := HBP.out; omega) (by have := HBP.out; omega) w6 (HLD.out.below HB.out))
  go_upto_region 12 with (first | ((with_reducible (refine Calls.mono HI1.out ?_)); rintro e w6b ⟨rfl, hb⟩; have m0 := Aside0.mk (blk_below HK.out hb); have m1 := Aside0.mk (Kd.R_below HR.out hb); have m2 := Aside0.mk (below_step HB.out hb); clear HK HR HB hb; have HK := m0; have HR := m1; have HB := m2; clear m0 m1 m2) | ((with_reducible refine gate_builtin (b := .append) (xs := #[.tmp 41, .tmp 45]) rfl ?_); at_builtin; refine Kd.R_append Kd.string (w0 := w) w.heap.size rfl (.tmp 41) (.tmp 45) 38 9 (.string ByteArray.empty) 16 rfl Tryd.underlying38 info9 rfl (by decide) (by omega) _ (([kindB 2, itoaB tag] ++ [vol])) (itoaB pos) [.string (itoaB pos)] (fun k => k ≠ w.heap.size) (fun _ => False) rfl (by first | (go_simp; done) | (go_simp; rfl)) rfl (fun _ hk => hk.elim) (fun k hk => by have := blk_lt HK.out; omega) HR.out HB.out (below_size HB.out) LIM.out ?_; intro v1 w7a ho hb hg _; have n0 := Aside0.mk (blk_grown HK.out hg (fun e => HR.out.1 _ e.symm rfl)); have n1 := Aside0.mk ho; have n2 := Aside0.mk hb; clear HK HR HB ho hb hg; have HK := n0; have HR := n1; have HB := n2; clear n0 n1 n2; clear c0 c1 c2 c3 c4 c5 c6 c7 c8; obtain ⟨c0, c1, c2, c3, c4, c5, c6, c7, c8⟩ := cells24 HK.out))
  clear LIM HI1
  go_wp2
  try clear c0 c1 c2 c3 c4 c5 c6 c7 c8
  go_loopg [3, 50] data.length (fun kq v3 v50 w' => ∃ i : Nat, v50 = .int .i64 i ∧ Aside0 (i ≤ data.length ∧ kq = data.length - i) ∧ Aside0 (w'.heap[w.heap.size]? = some (.cells #[.int .i64 tag, .int .i64 2, .int .i64 order, .bool force, .string vol, .string other, .int .i64 pos, .int .i64 len, .slice A data.length cap] 24 (0, 0))) ∧ Aside0 (Below w.heap.size w w') ∧ Aside0 (Kd.R Kd.string 9 w' w.heap.size (fun k => k ≠ w.heap.size) v3 ((([kindB 2, itoaB tag] ++ [vol]) ++ [itoaB pos]) ++ (data.take i).map hexB)))
  case atStart => exact ⟨0, rfl, ⟨by omega, rfl⟩, HK, HB, ⟨by rw [List.take_zero, List.map_nil, List.append_nil]; exact HR.out⟩⟩
  case round =>
    clear HK HB HR
    obtain ⟨i, rfl, HI, HK, HB, HR⟩ := hrel
    by_cases h : i < data.length
    · obtain ⟨ad1, e1, x0, x1, x2, x3, x4, x5, x6, x7⟩ := at35c HA.out i h rfl HB.out
      have hxo := HX.out _ (List.getElem_mem h)
      generalize hxa : data[i] = xa at x0 x1 x2 x3 x4 x5 x6 x7 hxo
      have HXA := Lib.hid hxa
      clear hxa
      cases e1
      have d1 : decide ((i : Int) < (data.length : Int)) = true := decide_eq_true (by omega)
      have p1 : (0 ≤ (i : Int)) = True := eq_true (by omega)
      have p2 : ((i : Int) < (data.length : Int)) = True := eq_true (by omega)
      have HHX : Aside0 (∀ W : World, Calls Tryd.prog 31 #[.agg #[.int .u8 xa.f0, .int .u8 xa.f1, .int .u8 xa.f2, .int .u8 xa.f3, .int .u8 xa.f4, .int .u8 xa.f5, .int .u8 xa.f6, .int .u8 xa.f7]] W fun e w' => e = .returned (.string (hexB xa)) ∧ Below W.heap.size W w') := ⟨fun W => hex_any xa hxo W⟩
      clear hxo
      have hu35 := Tryd.underlying35
      go_upto_region 15 with ((with_reducible refine gate_dst (N := 5) rfl ?_); refine box_event ?hg (N := 5) ?hd (cs := #[.int .u8 0, .int .u8 0, .int .u8 0, .int .u8 0, .int .u8 0, .int .u8 0, .int .u8 0, .int .u8 0]) (t := 35) ?hr ?_; (case hd => rfl); (case hg => rfl); (case hr => first | (go_simp; done) | (go_simp; rfl)); intro gb hg w10 hbox hb; have n0_ := Aside0.mk (blk_below HK.out hb); have n1_ := Aside0.mk (Kd.R_below (Kd.R_elderB HR.out gb (Nat.le_of_eq hg.symm)) hb); have n2_ := Aside0.mk (below_step HB.out hb); have GE : Aside0 (w.heap.size ≤ gb) := ⟨by rw [hg]; exact below_size HB.out⟩; have NE : Aside0 (w.heap.size ≠ gb) := ⟨by have := blk_lt HK.out; omega⟩; have BK := Aside0.mk hbox; clear HK HR HB hg hbox hb; have HK := n0_; have HR := n1_; have HB := n2_; clear n0_ n1_ n2_; obtain ⟨z0, z1, z2, z3, z4, z5, z6, z7⟩ := cellsA BK.out; obtain ⟨f0, f1, f2, f3, f4, f5, f6, f7⟩ := frozenA BK.out)
      have hk2 := putA BK.out (.int .u8 xa.f0) (.int .u8 xa.f1) (.int .u8 xa.f2) (.int .u8 xa.f3) (.int .u8 xa.f4) (.int .u8 xa.f5) (.int .u8 xa.f6) (.int .u8 xa.f7)
      have hk1 := farA HK.out NE.out (.int .u8 xa.f0) (.int .u8 xa.f1) (.int .u8 xa.f2) (.int .u8 xa.f3) (.int .u8 xa.f4) (.int .u8 xa.f5) (.int .u8 xa.f6) (.int .u8 xa.f7)
      have hb := belowA HB.out GE.out (.int .u8 xa.f0) (.int .u8 xa.f1) (.int .u8 xa.f2) (.int .u8 xa.f3) (.int .u8 xa.f4) (.int .u8 xa.f5) (.int .u8 xa.f6) (.int .u8 xa.f7)
      have hr := Kd.R_mono (farA_R HR.out (g := gb) (fun k hk => hk.2) (.int .u8 xa.f0) (.int .u8 xa.f1) (.int .u8 xa.f2) (.int .u8 xa.f3) (.int .u8 xa.f4) (.int .u8 xa.f5) (.int .u8 xa.f6) (.int .u8 xa.f7)) (ok' := fun k => k ≠ w.heap.size) (fun k hk => hk.1)
      clear z0 z1 z2 z3 z4 z5 z6 z7 f0 f1 f2 f3 f4 f5 f6 f7 x0 x1 x2 x3 x4 x5 x6 x7 HK HB HR BK
      generalize ((((((((w10.setCell ⟨gb, 0, none⟩ (.int .u8 xa.f0)).setCell ⟨gb, 1, none⟩ (.int .u8 xa.f1)).setCell ⟨gb, 2, none⟩ (.int .u8 xa.f2)).setCell ⟨gb, 3, none⟩ (.int .u8 xa.f3)).setCell ⟨gb, 4, none⟩ (.int .u8 xa.f4)).setCell ⟨gb, 5, none⟩ (.int .u8 xa.f5)).setCell ⟨gb, 6, none⟩ (.int .u8 xa.f6)).setCell ⟨gb, 7, none⟩ (.int .u8 xa.f7)) = w11 at hk1 hk2 hb hr ⊢
      obtain ⟨z0, z1, z2, z3, z4, z5, z6, z7⟩ := cellsA hk2
      have HK := Aside0.mk hk1
      have HB := Aside0.mk hb
      have HR := Aside0.mk hr
      clear hk1 hk2 hb hr
      obtain ⟨c0, c1, c2, c3, c4, c5, c6, c7, c8⟩ := cells24 HK.out
      have LIM : Aside0 (((((([kindB 2, itoaB tag] ++ [vol]) ++ [itoaB pos]) ++ (data.take i).map hexB)).length + 1) * 16 ≤ 140737488355328) := ⟨by have hbd := HBD.out; simp; try omega⟩
      go_wp2_with (first | ((with_reducible (refine Calls.mono (HHX.out _) ?_)); rintro e w6b ⟨rfl, hb⟩; have m0 := Aside0.mk (blk_below HK.out hb); have m1 := Aside0.mk (Kd.R_below HR.out hb); have m2 := Aside0.mk (below_step HB.out hb); clear HK HR HB hb; have HK := m0; have HR := m1; have HB := m2; clear m0 m1 m2) | ((with_reducible refine gate_builtin (b := .append) (xs := #[.tmp 54, .tmp 57]) rfl ?_); at_builtin; refine Kd.R_append Kd.string (w0 := w) w.heap.size rfl (.tmp 54) (.tmp 57) 38 9 (.string ByteArray.empty) 16 rfl Tryd.underlying38 info9 rfl (by decide) (by omega) _ (((([kindB 2, itoaB tag] ++ [vol]) ++ [itoaB pos]) ++ (data.take i).map hexB)) (hexB xa) [.string (hexB xa)] (fun k => k ≠ w.heap.size) (fun _ => False) rfl (by first | (go_simp; done) | (go_simp; rfl)) rfl (fun _ hk => hk.elim) (fun k hk => by have := blk_lt HK.out; omega) HR.out HB.out (below_size HB.out) LIM.out ?_; intro v1 w7a ho hb hg _; have n0 := Aside0.mk (blk_grown HK.out hg (fun e => HR.out.1 _ e.symm rfl)); have n1 := Aside0.mk ho; have n2 := Aside0.mk hb; clear HK HR HB ho hb hg; have HK := n0; have HR := n1; have HB := n2; clear n0 n1 n2; clear c0 c1 c2 c3 c4 c5 c6 c7 c8; obtain ⟨c0, c1, c2, c3, c4, c5, c6, c7, c8⟩ := cells24 HK.out))
      go_roundg (data.length - (i + 1))
      case measure => have := HI.out; omega
      case rel =>
        refine ⟨i + 1, by rw [w64 i data.length h (by have := HBD.out; exact Nat.le_trans this (by decide))], ⟨by omega, rfl⟩, HK, HB, ⟨?_⟩⟩
        rw [List.take_add_one, List.getElem?_eq_getElem h, HXA.out, List.map_append, ← List.append_assoc]
        exact HR.out
    · have hi : i = data.length := by have := HI.out; omega
      subst hi
      have d1 : decide ((data.length : Int) < (data.length : Int)) = false := decide_eq_false (by omega)
      rw [List.take_length] at HR
      obtain ⟨c0, c1, c2, c3, c4, c5, c6, c7, c8⟩ := cells24 HK.out
      go_upto_region 21 with (fail)
      clear c0 c1 c2 c3 c4 c5 c6 c7 c8
      cases force
      · rcases HBO.out with rfl | rfl
        · obtain ⟨c0, c1, c2, c3, c4, c5, c6, c7, c8⟩ := cells24 HK.out
          have ew : tx = ((([kindB 2, itoaB tag] ++ [vol]) ++ [itoaB pos]) ++ data.map hexB) := by rw [← HTX.out]; first | rfl | simp [wordsC, volW, tailW, flagW]
          have HW := Lib.hid ew
          clear ew
          have hjl : (Lib.join ((((([kindB 2, itoaB tag] ++ [vol]) ++ [itoaB pos]) ++ data.map hexB)).map (·.data.toList)) (⟨#[32]⟩ : ByteArray).data.toList).length ≤ 140737488355328 := by have h := HTB.out; rw [HW.out] at h; exact Nat.le_trans h (by decide)
          obtain ⟨jt, hjt⟩ : ∃ jt, jt = Lib.join ((((([kindB 2, itoaB tag] ++ [vol]) ++ [itoaB pos]) ++ data.map hexB)).map (·.data.toList)) (⟨#[32]⟩ : ByteArray).data.toList := ⟨_, rfl⟩
          have HJ : Aside0 (∀ (W : World) (ok : Nat → Prop) (v : Value), Kd.R Kd.string 9 W w.heap.size ok v (((([kindB 2, itoaB tag] ++ [vol]) ++ [itoaB pos]) ++ data.map hexB)) → Calls Tryd.prog 32 #[v, .string ⟨#[32]⟩] W fun e w' => e = .returned (.string ⟨jt.toArray⟩) ∧ Below W.heap.size W w') := ⟨fun W ok v hR => by rw [hjt]; exact Join_R W w.heap.size ok v _ ⟨#[32]⟩ hR (by have hbd := HBD.out; simp; try omega) hjl⟩
          have hfin : Lib.join (tx.map (·.data.toList)) [32] = jt := by rw [HW.out, hjt]
          have HFIN := Lib.hid hfin
          clear hjl hjt hfin HW
          go_wp2_with fail
          refine (HJ.out _ _ _ HR.out).mono ?_
          rintro e w9 ⟨rfl, hb⟩
          have HB9 := Aside0.mk (below_step HB.out hb)
          clear hb
          go_wp2
          go_ret
          exact ⟨by rw [HFIN.out]; rfl, HB9.out⟩
        · obtain ⟨c0, c1, c2, c3, c4, c5, c6, c7, c8⟩ := cells24 HK.out
          have LIM : Aside0 (((((([kindB 2, itoaB tag] ++ [vol]) ++ [itoaB pos]) ++ data.map hexB)).length + 1) * 16 ≤ 140737488355328) := ⟨by have hbd := HBD.out; simp; try omega⟩
          go_upto_region 25 with ((with_reducible refine gate_builtin (b := .append) (xs := #[.tmp 86, .tmp 87]) rfl ?_); at_builtin; refine Kd.R_append Kd.string (w0 := w) w.heap.size rfl (.tmp 86) (.tmp 87) 38 9 (.string ByteArray.empty) 16 rfl Tryd.underlying38 info9 rfl (by decide) (by omega) _ (((([kindB 2, itoaB tag] ++ [vol]) ++ [itoaB pos]) ++ data.map hexB)) (orderedB) [.string (orderedB)] (fun k => k ≠ w.heap.size) (fun _ => False) rfl (by first | (go_simp; done) | (go_simp; rfl)) rfl (fun _ hk => hk.elim) (fun k hk => by have := blk_lt HK.out; omega) HR.out HB.out (below_size HB.out) LIM.out ?_; intro v1 w8 ho hb hg _; have n0 := Aside0.mk (blk_grown HK.out hg (fun e => HR.out.1 _ e.symm rfl)); have n1 := Aside0.mk ho; have n2 := Aside0.mk hb; clear HK HR HB ho hb hg; have HK := n0; have HR := n1; have HB := n2; clear n0 n1 n2; clear c0 c1 c2 c3 c4 c5 c6 c7 c8; obtain ⟨c0, c1, c2, c3, c4, c5, c6, c7, c8⟩ := cells24 HK.out)
          clear LIM c0 c1 c2 c3 c4 c5 c6 c7 c8
          have ew : tx = ((([kindB 2, itoaB tag] ++ [vol]) ++ [itoaB pos]) ++ data.map hexB) ++ [orderedB] := by rw [← HTX.out]; first | rfl | simp [wordsC, volW, tailW, flagW]
          have HW := Lib.hid ew
          clear ew
          have hjl : (Lib.join ((((([kindB 2, itoaB tag] ++ [vol]) ++ [itoaB pos]) ++ data.map hexB) ++ [orderedB]).map (·.data.toList)) (⟨#[32]⟩ : ByteArray).data.toList).length ≤ 140737488355328 := by have h := HTB.out; rw [HW.out] at h; exact Nat.le_trans h (by decide)
          obtain ⟨jt, hjt⟩ : ∃ jt, jt = Lib.join ((((([kindB 2, itoaB tag] ++ [vol]) ++ [itoaB pos]) ++ data.map hexB) ++ [orderedB]).map (·.data.toList)) (⟨#[32]⟩ : ByteArray).data.toList := ⟨_, rfl⟩
          have HJ : Aside0 (∀ (W : World) (ok : Nat → Prop) (v : Value), Kd.R Kd.string 9 W w.heap.size ok v (((([kindB 2, itoaB tag] ++ [vol]) ++ [itoaB pos]) ++ data.map hexB) ++ [orderedB]) → Calls Tryd.prog 32 #[v, .string ⟨#[32]⟩] W fun e w' => e = .returned (.string ⟨jt.toArray⟩) ∧ Below W.heap.size W w') := ⟨fun W ok v hR => by rw [hjt]; exact Join_R W w.heap.size ok v _ ⟨#[32]⟩ hR (by have hbd := HBD.out; simp; try omega) hjl⟩
          have hfin : Lib.join (tx.map (·.data.toList)) [32] = jt := by rw [HW.out, hjt]
          have HFIN := Lib.hid hfin
          clear hjl hjt hfin HW
          go_wp2_with fail
          refine (HJ.out _ _ _ HR.out).mono ?_
          rintro e w9 ⟨rfl, hb⟩
          have HB9 := Aside0.mk (below_step HB.out hb)
          clear hb
          go_wp2
          go_ret
          exact ⟨by rw [HFIN.out]; rfl, HB9.out⟩
      · obtain ⟨c0, c1, c2, c3, c4, c5, c6, c7, c8⟩ := cells24 HK.out
        have LIM : Aside0 (((((([kindB 2, itoaB tag] ++ [vol]) ++ [itoaB pos]) ++ data.map hexB)).length + 1) * 16 ≤ 140737488355328) := ⟨by have hbd := HBD.out; simp; try omega⟩
        go_upto_region 23 with ((with_reducible refine gate_builtin (b := .append) (xs := #[.tmp 80, .tmp 81]) rfl ?_); at_builtin; refine Kd.R_append Kd.string (w0 := w) w.heap.size rfl (.tmp 80) (.tmp 81) 38 9 (.string ByteArray.empty) 16 rfl Tryd.underlying38 info9 rfl (by decide) (by omega) _ (((([kindB 2, itoaB tag] ++ [vol]) ++ [itoaB pos]) ++ data.map hexB)) (forceB) [.string (forceB)] (fun k => k ≠ w.heap.size) (fun _ => False) rfl (by first | (go_simp; done) | (go_simp; rfl)) rfl (fun _ hk => hk.elim) (fun k hk => by have := blk_lt HK.out; omega) HR.out HB.out (below_size HB.out) LIM.out ?_; intro v1 w7 ho hb hg _; have n0 := Aside0.mk (blk_grown HK.out hg (fun e => HR.out.1 _ e.symm rfl)); have n1 := Aside0.mk ho; have n2 := Aside0.mk hb; clear HK HR HB ho hb hg; have HK := n0; have HR := n1; have HB := n2; clear n0 n1 n2; clear c0 c1 c2 c3 c4 c5 c6 c7 c8; obtain ⟨c0, c1, c2, c3, c4, c5, c6, c7, c8⟩ := cells24 HK.out)
        clear LIM c0 c1 c2 c3 c4 c5 c6 c7 c8
        rcases HBO.out with rfl | rfl
        · obtain ⟨c0, c1, c2, c3, c4, c5, c6, c7, c8⟩ := cells24 HK.out
          have ew : tx = ((([kindB 2, itoaB tag] ++ [vol]) ++ [itoaB pos]) ++ data.map hexB) ++ [forceB] := by rw [← HTX.out]; first | rfl | simp [wordsC, volW, tailW, flagW]
          have HW := Lib.hid ew
          clear ew
          have hjl : (Lib.join ((((([kindB 2, itoaB tag] ++ [vol]) ++ [itoaB pos]) ++ data.map hexB) ++ [forceB]).map (·.data.toList)) (⟨#[32]⟩ : ByteArray).data.toList).length ≤ 140737488355328 := by have h := HTB.out; rw [HW.out] at h; exact Nat.le_trans h (by decide)
          obtain ⟨jt, hjt⟩ : ∃ jt, jt = Lib.join ((((([kindB 2, itoaB tag] ++ [vol]) ++ [itoaB pos]) ++ data.map hexB) ++ [forceB]).map (·.data.toList)) (⟨#[32]⟩ : ByteArray).data.toList := ⟨_, rfl⟩
          have HJ : Aside0 (∀ (W : World) (ok : Nat → Prop) (v : Value), Kd.R Kd.string 9 W w.heap.size ok v (((([kindB 2, itoaB tag] ++ [vol]) ++ [itoaB pos]) ++ data.map hexB) ++ [forceB]) → Calls Tryd.prog 32 #[v, .string ⟨#[32]⟩] W fun e w' => e = .returned (.string ⟨jt.toArray⟩) ∧ Below W.heap.size W w') := ⟨fun W ok v hR => by rw [hjt]; exact Join_R W w.heap.size ok v _ ⟨#[32]⟩ hR (by have hbd := HBD.out; simp; try omega) hjl⟩
          have hfin : Lib.join (tx.map (·.data.toList)) [32] = jt := by rw [HW.out, hjt]
          have HFIN := Lib.hid hfin
          clear hjl hjt hfin HW
          go_wp2_with fail
          refine (HJ.out _ _ _ HR.out).mono ?_
          rintro e w9 ⟨rfl, hb⟩
          have HB9 := Aside0.mk (below_step HB.out hb)
          clear hb
          go_wp2
          go_ret
          exact ⟨by rw [HFIN.out]; rfl, HB9.out⟩
        · obtain ⟨c0, c1, c2, c3, c4, c5, c6, c7, c8⟩ := cells24 HK.out
          have LIM : Aside0 (((((([kindB 2, itoaB tag] ++ [vol]) ++ [itoaB pos]) ++ data.map hexB) ++ [forceB]).length + 1) * 16 ≤ 140737488355328) := ⟨by have hbd := HBD.out; simp; try omega⟩
          go_upto_region 25 with ((with_reducible refine gate_builtin (b := .append) (xs := #[.tmp 86, .tmp 87]) rfl ?_); at_builtin; refine Kd.R_append Kd.string (w0 := w) w.heap.size rfl (.tmp 86) (.tmp 87) 38 9 (.string ByteArray.empty) 16 rfl Tryd.underlying38 info9 rfl (by decide) (by omega) _ (((([kindB 2, itoaB tag] ++ [vol]) ++ [itoaB pos]) ++ data.map hexB) ++ [forceB]) (orderedB) [.string (orderedB)] (fun k => k ≠ w.heap.size) (fun _ => False) rfl (by first | (go_simp; done) | (go_simp; rfl)) rfl (fun _ hk => hk.elim) (fun k hk => by have := blk_lt HK.out; omega) HR.out HB.out (below_size HB.out) LIM.out ?_; intro v1 w8 ho hb hg _; have n0 := Aside0.mk (blk_grown HK.out hg (fun e => HR.out.1 _ e.symm rfl)); have n1 := Aside0.mk ho; have n2 := Aside0.mk hb; clear HK HR HB ho hb hg; have HK := n0; have HR := n1; have HB := n2; clear n0 n1 n2; clear c0 c1 c2 c3 c4 c5 c6 c7 c8; obtain ⟨c0, c1, c2, c3, c4, c5, c6, c7, c8⟩ := cells24 HK.out)
          clear LIM c0 c1 c2 c3 c4 c5 c6 c7 c8
          have ew : tx = ((([kindB 2, itoaB tag] ++ [vol]) ++ [itoaB pos]) ++ data.map hexB) ++ [forceB] ++ [orderedB] := by rw [← HTX.out]; first | rfl | simp [wordsC, volW, tailW, flagW]
          have HW := Lib.hid ew
          clear ew
          have hjl : (Lib.join ((((([kindB 2, itoaB tag] ++ [vol]) ++ [itoaB pos]) ++ data.map hexB) ++ [forceB] ++ [orderedB]).map (·.data.toList)) (⟨#[32]⟩ : ByteArray).data.toList).length ≤ 140737488355328 := by have h := HTB.out; rw [HW.out] at h; exact Nat.le_trans h (by decide)
          obtain ⟨jt, hjt⟩ : ∃ jt, jt = Lib.join ((((([kindB 2, itoaB tag] ++ [vol]) ++ [itoaB pos]) ++ data.map hexB) ++ [forceB] ++ [orderedB]).map (·.data.toList)) (⟨#[32]⟩ : ByteArray).data.toList := ⟨_, rfl⟩
          have HJ : Aside0 (∀ (W : World) (ok : Nat → Prop) (v : Value), Kd.R Kd.string 9 W w.heap.size ok v (((([kindB 2, itoaB tag] ++ [vol]) ++ [itoaB pos]) ++ data.map hexB) ++ [forceB] ++ [orderedB]) → Calls Tryd.prog 32 #[v, .string ⟨#[32]⟩] W fun e w' => e = .returned (.string ⟨jt.toArray⟩) ∧ Below W.heap.size W w') := ⟨fun W ok v hR => by rw [hjt]; exact Join_R W w.heap.size ok v _ ⟨#[32]⟩ hR (by have hbd := HBD.out; simp; try omega) hjl⟩
          have hfin : Lib.join (tx.map (·.data.toList)) [32] = jt := by rw [HW.out, hjt]
          have HFIN := Lib.hid hfin
          clear hjl hjt hfin HW
          go_wp2_with fail
          refine (HJ.out _ _ _ HR.out).mono ?_
          rintro e w9 ⟨rfl, hb⟩
          have HB9 := Aside0.mk (below_step HB.out hb)
          clear hb
          go_wp2
          go_ret
          exact ⟨by rw [HFIN.out]; rfl, HB9.out⟩
end Go.Proofs.YthbnghdobmghlaaDoor.ST
