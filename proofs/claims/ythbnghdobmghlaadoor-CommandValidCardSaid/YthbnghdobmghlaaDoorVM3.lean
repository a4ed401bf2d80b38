import Derived.Test.YthbnghdobmghlaaDoorVL3
import Derived.Test.YthbnghdobmghlaaDoorVL6
import Derived.Test.YthbnghdobmghlaaDoorVM2
namespace Go.Proofs.YthbnghdobmghlaaDoor.ST
open Go.RowKit Go.Proofs.YthbnghdobmghlaaDoorW.PrintWords Go.Proofs.YthbnghdobmghlaaDoorW.PrintLast Go.Proofs.YthbnghdobmghlaaDoorW.PrintMore Go.Proofs.YthbnghdobmghlaaDoor.PC
set_option linter.unusedVariables false
set_option linter.unusedSimpArgs false
theorem RangeR_any (c : Cmd) (w : World) (A : Option Addr) (cap : Nat) (hA : Kd.C k35 w A c.data.length c.data) (hcap : c.data.length ≤ cap) {r : ByteArray} {x y : Int} {z : Bool} (hr : rangeC c = (r, x, y, z)) :
    Calls Tryd.prog 17 #[cmdV c (.slice A c.data.length cap)] w fun e w' => e = .returned (.tuple #[.string r, .int .i64 x, .int .i64 y, .bool z]) ∧ Below w.heap.size w w' :=
  tegularef39_Range.calls 50 _ _ _ _ _ _ _ _ A cap c.data r x y z w hA hcap ((range_ref c 50 (by decide)).trans (congrArg some hr))
theorem TextR_any (c : Cmd) (w : World) (A : Option Addr) (cap : Nat) (hA : Kd.C k35 w A c.data.length c.data) (hcap : c.data.length ≤ cap) (hx : ∀ x ∈ c.data, ok35 x = true) :
    Calls Tryd.prog 19 #[cmdV c (.slice A c.data.length cap)] w fun e w' => e = .returned (.string ⟨(textC c).toArray⟩) ∧ Below w.heap.size w w' :=
  tegularef39_Text.calls 50 _ _ _ _ _ _ _ _ A cap c.data _ w hA hcap (text_ref c hx 50 (by decide))
set_option maxHeartbeats 8000000 in
set_option maxRecDepth 100000 in
theorem CommandValid_n (w : World) (c : Cmd) (A : Option Addr) (cap : Nat) (hC : Kd.C k35 w A c.data.length c.data) (hcap : c.data.length ≤ cap) (hL : Ld w) (hok : ∀ x ∈ c.data, ok35 x = true) (hf : fairC c = false) :
    Calls Tryd.prog 7 #[cmdV c (.slice A c.data.length cap)] w fun e w' => e = .returned (.bool true) ∧ Below w.heap.size w w' := by
  have hu24 := Tryd.underlying24
  have HFA := Aside0.mk (fun W h => fair_any c W A cap h hcap)
  rw [hf] at HFA
  clear hf hok
  obtain ⟨tag, kind, order, force, vol, other, pos, len, data⟩ := c
  simp only at hC hcap
  unfold cmdV at HFA ⊢
  have HC := Aside0.mk hC
  have HLD := Aside0.mk hL
  clear hC hcap hL
  go_enter Tryd.func7, Tryd.ntmps7
  go_wp2_with fail
  have HK := Aside0.mk (blk_new w (.cells #[.int .i64 tag, .int .i64 kind, .int .i64 order, .bool force, .string vol, .string other, .int .i64 pos, .int .i64 len, .slice A data.length cap] 24))
  have HB := Aside0.mk (below_allocs w (.cells #[.int .i64 tag, .int .i64 kind, .int .i64 order, .bool force, .string vol, .string other, .int .i64 pos, .int .i64 len, .slice A data.length cap] 24))
  generalize w.alloc (.cells #[.int .i64 tag, .int .i64 kind, .int .i64 order, .bool force, .string vol, .string other, .int .i64 pos, .int .i64 len, .slice A data.length cap] 24) = w1 at HK HB ⊢
  refine (awake_any w1 (HLD.out.below HB.out)).mono ?_
  rintro e w2 ⟨rfl, hb⟩
  replace HK := Aside0.mk (blk_below HK.out hb)
  replace HB := Aside0.mk (below_step HB.out hb)
  clear hb
  obtain ⟨c0, c1, c2, c3, c4, c5, c6, c7, c8⟩ := cells24 HK.out
  go_wp2_with fail
  refine (HFA.out _ (Kd.C_below HC.out HB.out)).mono ?_
  clear c0 c1 c2 c3 c4 c5 c6 c7 c8
  rintro e w3 ⟨rfl, hb⟩
  replace HK := Aside0.mk (blk_below HK.out hb)
  replace HB := Aside0.mk (below_step HB.out hb)
  clear hb
  go_wp2_with fail
  refine (awake_any _ (HLD.out.below HB.out)).mono ?_
  rintro e w4 ⟨rfl, hb⟩
  replace HK := Aside0.mk (blk_below HK.out hb)
  replace HB := Aside0.mk (below_step HB.out hb)
  clear hb
  go_wp2
  go_ret
  exact ⟨rfl, HB.out⟩
set_option maxHeartbeats 8000000 in
set_option maxRecDepth 100000 in
theorem CommandValid_yes (w : World) (c : Cmd) (A : Option Addr) (cap : Nat) (hC : Kd.C k35 w A c.data.length c.data) (hcap : c.data.length ≤ cap) (hL : Ld w) (hok : ∀ x ∈ c.data, ok35 x = true) (hf : fairC c = true) :
    Calls Tryd.prog 7 #[cmdV c (.slice A c.data.length cap)] w fun e w' => e = .returned (.bool true) ∧ Below w.heap.size w w' := by
  have hu24 := Tryd.underlying24
  have h40 := fair_len hf
  obtain ⟨r, x, y, z, hr⟩ : ∃ r x y z, rangeC c = (r, x, y, z) := ⟨_, _, _, _, rfl⟩
  have HRG := Aside0.mk (fun W h => Range_any c W A cap h hcap (by omega) hr)
  have HRR := Aside0.mk (fun W h => RangeR_any c W A cap h hcap hr)
  have HVA := Aside0.mk (fun W h => Valid_any c W A cap h hcap (by omega))
  have HVR := Aside0.mk (fun W h => ValidR_any c W A cap h hcap)
  have HTX := Aside0.mk (fun W h h' => Text_any c W A cap h hcap (by omega) hok h')
  have HTR := Aside0.mk (fun W h => TextR_any c W A cap h hcap hok)
  generalize validC c = va at HVA HVR
  generalize (⟨(textC c).toArray⟩ : ByteArray) = tx at HTX HTR
  clear h40 hr
  have HFA := Aside0.mk (fun W h => fair_any c W A cap h hcap)
  rw [hf] at HFA
  clear hf hok
  obtain ⟨tag, kind, order, force, vol, other, pos, len, data⟩ := c
  simp only at hC hcap
  unfold cmdV at HFA HRG HRR HVA HVR HTX HTR ⊢
  have HC := Aside0.mk hC
  have HLD := Aside0.mk hL
  clear hC hcap hL
  go_enter Tryd.func7, Tryd.ntmps7
  go_wp2_with fail
  have HK := Aside0.mk (blk_new w (.cells #[.int .i64 tag, .int .i64 kind, .int .i64 order, .bool force, .string vol, .string other, .int .i64 pos, .int .i64 len, .slice A data.length cap] 24))
  have HB := Aside0.mk (below_allocs w (.cells #[.int .i64 tag, .int .i64 kind, .int .i64 order, .bool force, .string vol, .string other, .int .i64 pos, .int .i64 len, .slice A data.length cap] 24))
  generalize w.alloc (.cells #[.int .i64 tag, .int .i64 kind, .int .i64 order, .bool force, .string vol, .string other, .int .i64 pos, .int .i64 len, .slice A data.length cap] 24) = w1 at HK HB ⊢
  refine (awake_any w1 (HLD.out.below HB.out)).mono ?_
  rintro e w2 ⟨rfl, hb⟩
  replace HK := Aside0.mk (blk_below HK.out hb)
  replace HB := Aside0.mk (below_step HB.out hb)
  clear hb
  obtain ⟨c0, c1, c2, c3, c4, c5, c6, c7, c8⟩ := cells24 HK.out
  go_wp2_with fail
  refine (HFA.out _ (Kd.C_below HC.out HB.out)).mono ?_
  clear c0 c1 c2 c3 c4 c5 c6 c7 c8
  rintro e w3 ⟨rfl, hb⟩
  replace HK := Aside0.mk (blk_below HK.out hb)
  replace HB := Aside0.mk (below_step HB.out hb)
  clear hb
  obtain ⟨c0, c1, c2, c3, c4, c5, c6, c7, c8⟩ := cells24 HK.out
  go_wp2_with fail
  refine (HRG.out _ (Kd.C_below HC.out HB.out)).mono ?_
  clear c0 c1 c2 c3 c4 c5 c6 c7 c8
  rintro e w4 ⟨rfl, hb⟩
  replace HK := Aside0.mk (blk_below HK.out hb)
  replace HB := Aside0.mk (below_step HB.out hb)
  clear hb
  obtain ⟨c0, c1, c2, c3, c4, c5, c6, c7, c8⟩ := cells24 HK.out
  go_wp2_with fail
  refine (HRR.out _ (Kd.C_below HC.out HB.out)).mono ?_
  clear c0 c1 c2 c3 c4 c5 c6 c7 c8
  rintro e w5 ⟨rfl, hb⟩
  replace HK := Aside0.mk (blk_below HK.out hb)
  replace HB := Aside0.mk (below_step HB.out hb)
  clear hb
  have HCW := Aside0.mk (fun W (hB : Below w5.heap.size w5 W) => Kd.C_below HC.out (below_step HB.out hB))
  have HLW := Aside0.mk (fun W (hB : Below w5.heap.size w5 W) => HLD.out.below (below_step HB.out hB))
  have HB0 : Aside0 (Below w5.heap.size w5 w5.drew) := ⟨below_drew1 (Below.refl _ _)⟩
  obtain ⟨c0, c1, c2, c3, c4, c5, c6, c7, c8⟩ := cells24 HK.out
  have HSB : Aside0 (∀ W : World, Below w5.heap.size w5 W → W.cell? ⟨w.heap.size, 0, none⟩ = some (.int .i64 tag) ∧ W.cell? ⟨w.heap.size, 1, none⟩ = some (.int .i64 kind) ∧ W.cell? ⟨w.heap.size, 2, none⟩ = some (.int .i64 order) ∧ W.cell? ⟨w.heap.size, 3, none⟩ = some (.bool force) ∧ W.cell? ⟨w.heap.size, 4, none⟩ = some (.string vol) ∧ W.cell? ⟨w.heap.size, 5, none⟩ = some (.string other) ∧ W.cell? ⟨w.heap.size, 6, none⟩ = some (.int .i64 pos) ∧ W.cell? ⟨w.heap.size, 7, none⟩ = some (.int .i64 len) ∧ W.cell? ⟨w.heap.size, 8, none⟩ = some (.slice A data.length cap)) := ⟨fun W hB => cells24 (blk_below HK.out hB)⟩
  go_wp2_with fail
  go_region_held3 (fun W => W.cell? ⟨w.heap.size, 0, none⟩ = some (.int .i64 tag) ∧ W.cell? ⟨w.heap.size, 1, none⟩ = some (.int .i64 kind) ∧ W.cell? ⟨w.heap.size, 2, none⟩ = some (.int .i64 order) ∧ W.cell? ⟨w.heap.size, 3, none⟩ = some (.bool force) ∧ W.cell? ⟨w.heap.size, 4, none⟩ = some (.string vol) ∧ W.cell? ⟨w.heap.size, 5, none⟩ = some (.string other) ∧ W.cell? ⟨w.heap.size, 6, none⟩ = some (.int .i64 pos) ∧ W.cell? ⟨w.heap.size, 7, none⟩ = some (.int .i64 len) ∧ W.cell? ⟨w.heap.size, 8, none⟩ = some (.slice A data.length cap)) (first
    | (with_reducible exact HSB.out _ HB0.out)
    | (with_reducible exact HSB.out _ HB10.out)
    | (with_reducible exact HSB.out _ HB11.out)
    | (with_reducible exact HSB.out _ HB12.out)
    | (with_reducible exact HSB.out _ HB13.out)) (first
    | ((with_reducible (refine Calls.mono (HVA.out _ (HCW.out _ HB0.out)) ?_)); rintro e w10 ⟨rfl, hb⟩; have HB10 := Aside0.mk (below_step HB0.out hb); clear hb)
    | ((with_reducible (refine Calls.mono (HVR.out _ (HCW.out _ HB10.out)) ?_)); rintro e w11 ⟨rfl, hb⟩; have HB11 := Aside0.mk (below_step HB10.out hb); clear hb)
    | ((with_reducible (refine Calls.mono (HTX.out _ (HCW.out _ HB11.out) (HLW.out _ HB11.out)) ?_)); rintro e w12 ⟨rfl, hb⟩; have HB12 := Aside0.mk (below_step HB11.out hb); clear hb)
    | ((with_reducible (refine Calls.mono (HTR.out _ (HCW.out _ HB12.out)) ?_)); rintro e w13 ⟨rfl, hb⟩; have HB13 := Aside0.mk (below_step HB12.out hb); clear hb))
  all_goals
    go_wp2
    go_ret
    exact ⟨by first | rfl | simp, below_step HB.out HB13.out⟩
theorem CommandValid_law (w : World) (c : Cmd) (A : Option Addr) (cap : Nat) (hC : Kd.C k35 w A c.data.length c.data) (hcap : c.data.length ≤ cap) (hL : Ld w) (hok : ∀ x ∈ c.data, ok35 x = true) :
    Calls Tryd.prog 7 #[cmdV c (.slice A c.data.length cap)] w fun e w' => e = .returned (.bool true) ∧ Below w.heap.size w w' := by
  cases hf : fairC c
  · exact CommandValid_n w c A cap hC hcap hL hok hf
  · exact CommandValid_yes w c A cap hC hcap hL hok hf
end Go.Proofs.YthbnghdobmghlaaDoor.ST
