/- number(w) of Parse. -/
import Derived.Test.YtgofecclceoeiaaDoorG1
import Derived.Lib.AtoiAllCases
import Derived.Lib.AtoiErrMem
namespace Go.Proofs.YtgofecclceoeiaaDoor.ST
open Go.RowKit Go.Proofs.YtgofecclceoeiaaDoorW.PrintWords Go.Proofs.YtgofecclceoeiaaDoorW.PrintLast Go.Proofs.YtgofecclceoeiaaDoorW.PrintMore Go.Proofs.YtgofecclceoeiaaDoor.PF
set_option linter.unusedVariables false
set_option linter.unusedSimpArgs false
def numOf (w : List UInt8) : Int := match Lib.atoiAll w with | .ok v => v | .«syntax» => 0 | .range => Lib.atoiSat w
def okNum (w : List UInt8) : Bool := match Lib.atoiAll w with | .ok v => Lib.itoa v == w | _ => false
/-- number(w): the number; whether all went well turns. -/
theorem number_any (w : World) (b2 : Nat) (s : ByteArray) (o : Bool) (hL : Ld w) (h2 : w.heap[b2]? = some (.cells #[.bool o] 4 (0, 0))) (hs : s.size < 4294967281) :
    Calls Tryd.prog 28 #[.string s, .pointer (some ⟨b2, 0, none⟩)] w fun e w' => e = .returned (.int .i64 (numOf s.data.toList)) ∧ ∃ wm, Below w.heap.size w wm ∧ w' = wm.setCell ⟨b2, 0, none⟩ (.bool (o && okNum s.data.toList)) := by
  obtain ⟨ev1, he1, hk1⟩ := hL.es
  obtain ⟨ev2, he2, hk2⟩ := hL.er
  have hc2 := (blk_cell h2 0).trans (show _ = some (Value.bool o) from rfl)
  have hf2 := blk_frozen h2 0
  cases h : Lib.atoiAll s.data.toList with
  | ok v =>
    have e1 : numOf s.data.toList = v := by unfold numOf; rw [h]
    have e2 : okNum s.data.toList = (Lib.itoa v == s.data.toList) := by unfold okNum; rw [h]
    have hb := Lib.atoiAll_bounds h
    rw [e1, e2]
    cases o
    · go_enter Tryd.func28, Tryd.ntmps28
      go_wp2_with fail
      refine (Tryd.strconv_Atoi_ok s (by omega) v h _).mono ?_
      rintro e w1 ⟨rfl, hw⟩
      have hb1 : Below w.heap.size w w1 := by
        rcases hw with rfl | ⟨t, rfl⟩
        · exact Below.refl _ _
        · exact Lib.bytesWorld_below _ _ _
      clear hw
      have hc := (blk_cell (blk_below h2 hb1) 0).trans (show _ = some (Value.bool false) from rfl)
      have hf := blk_frozen (blk_below h2 hb1) 0
      have HB1 := Aside0.mk hb1
      clear hb1
      go_wp2
      go_ret
      exact ⟨rfl, w1, HB1.out, rfl⟩
    · go_enter Tryd.func28, Tryd.ntmps28
      go_wp2_with fail
      refine (Tryd.strconv_Atoi_ok s (by omega) v h _).mono ?_
      rintro e w1 ⟨rfl, hw⟩
      have hb1 : Below w.heap.size w w1 := by
        rcases hw with rfl | ⟨t, rfl⟩
        · exact Below.refl _ _
        · exact Lib.bytesWorld_below _ _ _
      clear hw
      have hc := (blk_cell (blk_below h2 hb1) 0).trans (show _ = some (Value.bool true) from rfl)
      have hf := blk_frozen (blk_below h2 hb1) 0
      have hL1 := (Ld.below hL hb1).tab
      have HB1 := Aside0.mk hb1
      have H2 := Aside0.mk (blk_below h2 hb1)
      clear hb1
      go_wp2_with fail
      refine (Tryd.strconv_Itoa v hb.1 hb.2 _ hL1).mono ?_
      rintro e w2 ⟨rfl, k, os, rfl⟩
      have hb2 := Lib.below_grow w1.heap.size w1 (Nat.le_refl _) k os
      generalize Go.Sort.grow (w1.drewN k) os = w2 at hb2 ⊢
      have HB2 := Aside0.mk (below_step HB1.out hb2)
      have hcc := (blk_cell (blk_below H2.out hb2) 0).trans (show _ = some (Value.bool true) from rfl)
      have hff := blk_frozen (blk_below H2.out hb2) 0
      clear hb2
      go_wp2
      go_ret
      refine ⟨rfl, w2, HB2.out, ?_⟩
      rw [ByteArray.toList_eq, Bool.true_and]
  | «syntax» =>
    have e1 : numOf s.data.toList = 0 := by unfold numOf; rw [h]
    have e2 : okNum s.data.toList = false := by unfold okNum; rw [h]
    rw [e1, e2]
    cases o
    all_goals
      go_enter Tryd.func28, Tryd.ntmps28
      go_wp2_with fail
      refine (Tryd.strconv_Atoi_syntax s (by omega) h ev1 _ he1 hk1).mono ?_
      rintro e w1 ⟨N, rfl, -, -, hb1⟩
      have hc := (blk_cell (blk_below h2 hb1) 0).trans (show _ = some (Value.bool _) from rfl)
      have hf := blk_frozen (blk_below h2 hb1) 0
      have HB1 := Aside0.mk hb1
      clear hb1
      go_wp2
      go_ret
      exact ⟨rfl, w1, HB1.out, rfl⟩
  | range =>
    have e1 : numOf s.data.toList = Lib.atoiSat s.data.toList := by unfold numOf; rw [h]
    have e2 : okNum s.data.toList = false := by unfold okNum; rw [h]
    rw [e1, e2]
    cases o
    all_goals
      go_enter Tryd.func28, Tryd.ntmps28
      go_wp2_with fail
      refine (Tryd.strconv_Atoi_range s (by omega) h ev2 _ he2 hk2).mono ?_
      rintro e w1 ⟨N, rfl, -, -, hb1⟩
      have hc := (blk_cell (blk_below h2 hb1) 0).trans (show _ = some (Value.bool _) from rfl)
      have hf := blk_frozen (blk_below h2 hb1) 0
      have HB1 := Aside0.mk hb1
      clear hb1
      go_wp2
      go_ret
      exact ⟨rfl, w1, HB1.out, rfl⟩
end Go.Proofs.YtgofecclceoeiaaDoor.ST
