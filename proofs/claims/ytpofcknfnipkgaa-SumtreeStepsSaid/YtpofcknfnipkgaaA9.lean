/- The example of the document holds (awake). -/
import Derived.Test.YtpofcknfnipkgaaA8
namespace Go.Proofs.Ytpofcknfnipkgaa.ST
open Go.RowKit Go.Proofs.YtpofcknfnipkgaaW.PrintWords Go.Proofs.YtpofcknfnipkgaaW.PrintLast Go.Proofs.YtpofcknfnipkgaaW.PrintMore Go.Proofs.Ytpofcknfnipkgaa.PS
set_option linter.unusedVariables false
set_option linter.unusedSimpArgs false

theorem ht5 : ht 5 = 2 := by rw [ht_more (by omega), ht_more (by omega), ht_one (by omega)]
def L5 : List Int := [1, 2, 3, 4, 5]
theorem build5 (w : World) : Calls Try.prog 13 #[.slice (some ⟨w.heap.size, 0, none⟩) 5 5] (w.alloc (.cells #[.int .u64 1, .int .u64 2, .int .u64 3, .int .u64 4, .int .u64 5] 34)) fun e w' =>
    ∃ a A, e = .returned (.agg #[.int .i64 5, .int .i64 2, .pointer (some ⟨a, 0, none⟩)]) ∧ a = A 2 0 ∧ Tr w' 5 (SL L5) A 2 ∧ Below w.heap.size w w' := by
  refine (build_any (w.alloc (.cells (nums .u64 L5).toArray 34)) L5 (some ⟨w.heap.size, 0, none⟩) 5 (by decide) (by decide) (Rd.lit w L5 (by decide)).1).mono ?_
  rintro e w' ⟨A, rfl, hT, hb⟩
  have hh : ht L5.length = 2 := ht5
  rw [hh] at hT
  refine ⟨A 2 0, A, ?_, rfl, hT, below_alloc_then hb⟩
  unfold treeV topP
  rw [hh]
  rfl
theorem path5 (w : World) (a : Nat) (A : Nat → Nat → Nat) (ha : a = A 2 0) (hT : Tr w 5 (SL L5) A 2) : Calls Try.prog 12 #[.agg #[.int .i64 5, .int .i64 2, .pointer (some ⟨a, 0, none⟩)], .int .i64 1] w fun e w' =>
    ∃ B d, e = .returned (.tuple #[.slice B 4 d, .int .i64 0]) ∧ Rd w' B d [1, 3, 4, runV [5]] ∧ Below w.heap.size w w' := by
  have h := path_yes w L5 1 A (by rw [show L5.length = 5 from rfl, ht5]; exact hT) (by decide) (by decide)
  rw [show L5.length = 5 from rfl, ht5, ← ha] at h
  have e : treeV 5 (.pointer (some ⟨a, 0, none⟩)) = .agg #[.int .i64 5, .int .i64 2, .pointer (some ⟨a, 0, none⟩)] := by unfold treeV; rw [ht5]; rfl
  rw [e] at h
  refine h.mono ?_
  rintro e w' ⟨v, rfl, hv, hb⟩
  rw [show pathV L5 1 = [1, 3, 4, runV [5]] from l5] at hv
  obtain ⟨B, d, rfl⟩ := Kd.R_slice hv
  exact ⟨B, d, rfl, Rd.of_R hv, hb⟩
theorem path5b (w : World) (a : Nat) (A : Nat → Nat → Nat) (ha : a = A 2 0) (hT : Tr w 5 (SL L5) A 2) : Calls Try.prog 12 #[.agg #[.int .i64 5, .int .i64 2, .pointer (some ⟨a, 0, none⟩)], .int .i64 4] w fun e w' =>
    ∃ B d, e = .returned (.tuple #[.slice B 1 d, .int .i64 0]) ∧ Below w.heap.size w w' := by
  have h := path_yes w L5 4 A (by rw [show L5.length = 5 from rfl, ht5]; exact hT) (by decide) (by decide)
  rw [show L5.length = 5 from rfl, ht5, ← ha] at h
  have e : treeV 5 (.pointer (some ⟨a, 0, none⟩)) = .agg #[.int .i64 5, .int .i64 2, .pointer (some ⟨a, 0, none⟩)] := by unfold treeV; rw [ht5]; rfl
  rw [e] at h
  refine h.mono ?_
  rintro e w' ⟨v, rfl, hv, hb⟩
  rw [show pathV L5 4 = [runV [1, 2, 3, 4]] from l5b] at hv
  obtain ⟨B, d, rfl⟩ := Kd.R_slice hv
  exact ⟨B, d, rfl, hb⟩
theorem len5 (w : World) (a : Nat) : Calls Try.prog 25 #[.agg #[.int .i64 5, .int .i64 2, .pointer (some ⟨a, 0, none⟩)]] w fun e w' => e = .returned (.int .i64 5) ∧ Below w.heap.size w w' := by
  have h := len_any w 5 (.pointer (some ⟨a, 0, none⟩))
  have e : treeV 5 (.pointer (some ⟨a, 0, none⟩)) = .agg #[.int .i64 5, .int .i64 2, .pointer (some ⟨a, 0, none⟩)] := by unfold treeV; rw [ht5]; rfl
  rw [e] at h
  exact h
theorem root5 (w : World) (a : Nat) (A : Nat → Nat → Nat) (ha : a = A 2 0) (hT : Tr w 5 (SL L5) A 2) : Calls Try.prog 18 #[.agg #[.int .i64 5, .int .i64 2, .pointer (some ⟨a, 0, none⟩)]] w fun e w' => e = .returned (.int .u64 (rootV L5)) ∧ Below w.heap.size w w' := by
  have h := root_any w L5 A (by rw [show L5.length = 5 from rfl, ht5]; exact hT)
  have e : treeV L5.length (topP L5.length A) = .agg #[.int .i64 5, .int .i64 2, .pointer (some ⟨a, 0, none⟩)] := by unfold treeV topP; rw [show L5.length = 5 from rfl, ht5, ha]; rfl
  rw [e] at h
  exact h
theorem check5 (w : World) (B : Option Addr) (d : Nat) (h : Rd w B d [1, 3, 4, runV [5]]) : Calls Try.prog 16 #[.int .u64 (rootV L5), .int .i64 5, .int .i64 1, .int .u64 2, .slice B 4 d] w fun e w' => e = .returned (.bool true) ∧ Below w.heap.size w w' := by
  have hc := check_any w (rootV L5) 5 1 2 B d [1, 3, 4, runV [5]] h (by decide)
  have e : checkV (rootV L5) 5 1 2 [1, 3, 4, runV [5]] = true := by
    have := check_path L5 1 (by decide) (by decide) (rootV L5)
    rw [show pathV L5 1 = [1, 3, 4, runV [5]] from l5] at this
    rw [beq_self_eq_true] at this
    exact this
  rw [e] at hc
  exact hc
theorem cells3 {w : World} {b : Nat} {x y z : Value} {t : TypeId} (h : w.heap[b]? = some (.cells #[x, y, z] t (0, 0))) : w.cell? ⟨b, 0, none⟩ = some x ∧ w.cell? ⟨b, 1, none⟩ = some y ∧ w.cell? ⟨b, 2, none⟩ = some z :=
  ⟨(blk_cell h 0).trans rfl, (blk_cell h 1).trans rfl, (blk_cell h 2).trans rfl⟩
set_option maxHeartbeats 2000000 in
theorem awake_any (w : World) : Calls Try.prog 11 #[] w fun e w' => e = .returned (.bool true) ∧ Below w.heap.size w w' := by
  have HB := Lib.hid (build5 w)
  go_enter Try.func11, Try.ntmps11
  go_wp2_with (first | (go_at_call 13; refine HB.out.mono ?_; rintro e w1 ⟨a, A, rfl, ha, hT, hb⟩; have HA := Aside0.mk ha; have HT := Aside0.mk hT; have HB1 := Aside0.mk hb; clear ha hT hb))
  have hW := Aside0.mk (below_alloc (Below.refl w1.heap.size w1) (.cells #[.int .i64 5, .int .i64 2, .pointer (some ⟨a, 0, none⟩)] 29))
  have hG := Aside0.mk (heap_alloc_new w1 (.cells #[.int .i64 5, .int .i64 2, .pointer (some ⟨a, 0, none⟩)] 29))
  have hW2 := Aside0.mk (below_join hW.out HB1.out)
  generalize w1.alloc (.cells #[.int .i64 5, .int .i64 2, .pointer (some ⟨a, 0, none⟩)] 29) = wb at hW hG hW2 ⊢
  have HT1 := Aside0.mk (HT.out.keep (Keeps.below hW.out))
  refine (path5 _ a A HA.out HT1.out).mono ?_
  rintro e w2 ⟨B, d, rfl, hR, hb⟩
  have HR2 := Aside0.mk hR
  have HT2 := Aside0.mk (HT1.out.keep (Keeps.below hb))
  have HG2 := Aside0.mk ((hb.block _ (blk_lt hG.out)).trans hG.out)
  have HB2 := Aside0.mk (below_join hb hW2.out)
  clear hR hb HT1 hW hG HT HB1 hW2
  obtain ⟨c0, c1, c2⟩ := cells3 HG2.out
  go_wp2_with fail
  refine (path5b _ a A HA.out HT2.out).mono ?_
  rintro e w3 ⟨B3, d3, rfl, hb⟩
  have HR3 := Aside0.mk (HR2.out.below hb)
  have HT3 := Aside0.mk (HT2.out.keep (Keeps.below hb))
  have HG3 := Aside0.mk ((hb.block _ (blk_lt HG2.out)).trans HG2.out)
  have HB3 := Aside0.mk (below_join hb HB2.out)
  clear hb HR2 HT2 HG2 HB2 c0 c1 c2
  obtain ⟨c0, c1, c2⟩ := cells3 HG3.out
  go_wp2_with fail
  refine (len5 _ a).mono ?_
  rintro e w4 ⟨rfl, hb⟩
  have HR4 := Aside0.mk (HR3.out.below hb)
  have HT4 := Aside0.mk (HT3.out.keep (Keeps.below hb))
  have HG4 := Aside0.mk ((hb.block _ (blk_lt HG3.out)).trans HG3.out)
  have HB4 := Aside0.mk (below_join hb HB3.out)
  clear hb HR3 HT3 HG3 HB3 c0 c1 c2
  obtain ⟨c0, c1, c2⟩ := cells3 HG4.out
  obtain ⟨ad, rfl, p0⟩ := HR4.out.cell 0 (by decide)
  obtain ⟨ad', e1, p1⟩ := HR4.out.cell 1 (by decide)
  obtain rfl := Option.some.inj e1
  obtain ⟨ad', e2, p2⟩ := HR4.out.cell 2 (by decide)
  obtain rfl := Option.some.inj e2
  simp only [List.getD_eq_getElem?_getD, List.getElem?_cons_zero, List.getElem?_cons_succ, Option.getD_some] at p0 p1 p2
  clear e1 e2
  rw [Addr.add_zero'] at p0
  simp [Addr.add] at p1 p2
  go_wp2_with fail
  refine (root5 _ a A HA.out HT4.out).mono ?_
  rintro e w5 ⟨rfl, hb⟩
  have HR5 := Aside0.mk (HR4.out.below hb)
  have HB5 := Aside0.mk (below_join hb HB4.out)
  clear hb HR4 HT4 HG4 HB4 c0 c1 c2 p0 p1 p2
  go_wp2_with fail
  refine (check5 _ _ d HR5.out).mono ?_
  rintro e w6 ⟨rfl, hb⟩
  have HB6 := Aside0.mk (below_join hb HB5.out)
  clear hb
  go_wp2
  go_ret
  exact ⟨rfl, HB6.out⟩
end Go.Proofs.Ytpofcknfnipkgaa.ST
