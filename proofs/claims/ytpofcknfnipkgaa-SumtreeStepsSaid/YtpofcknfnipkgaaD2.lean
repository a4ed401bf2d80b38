/- Set in a walk. -/
import Derived.Test.YtpofcknfnipkgaaD1
namespace Go.Proofs.Ytpofcknfnipkgaa.ST
open Go.RowKit Go.Proofs.YtpofcknfnipkgaaW.PrintWords Go.Proofs.YtpofcknfnipkgaaW.PrintLast Go.Proofs.YtpofcknfnipkgaaW.PrintMore Go.Proofs.Ytpofcknfnipkgaa.PS
set_option linter.unusedVariables false
set_option linter.unusedSimpArgs false

/-- The tree that set leaves, whole. -/
theorem patched (w w' : World) (l : List Int) (i : Nat) (s : Int) (A : Nat → Nat → Nat) (P : Nat → Nat) (hT : Tr w l.length (SL l) A (ht l.length)) (hb : Below w.heap.size w w')
    (hP : ∀ j, j ≤ ht l.length → NodeNew w' w.heap.size l.length (SL (l.set i s)) (patch A P i) j (i / 4 ^ j)) : Tr w' l.length (SL (l.set i s)) (patch A P i) (ht l.length) := by
  intro k hk p hp
  by_cases h : p = i / 4 ^ k
  · rw [h]; exact (hP k hk).ok
  · have h0 := (hT.keep (Keeps.below hb)) k hk p hp
    cases k with
    | zero =>
      show NodeB w' (patch A P i 0 p) _ _
      rw [patch_off _ _ _ _ _ h, SL_set _ _ _ _ _ h]
      exact h0
    | succ k =>
      obtain ⟨B, off, c, cs, h1, h2, h3, h4⟩ := h0
      refine ⟨B, off, c, cs, ?_, h2, h3, fun j hj => ?_⟩
      · rw [patch_off _ _ _ _ _ h, SL_set _ _ _ _ _ h]
        exact h1
      · rw [patch_off]
        · exact h4 j hj
        · intro e
          refine h ?_
          rw [anc_succ, ← e]
          have hj4 : j < 4 := by unfold mm at hj; omega
          omega
/-- Two new blocks. -/
theorem two_new (w : World) (x y : Obj) : ∃ wb, wb = (w.alloc x).alloc y ∧ wb.heap[w.heap.size]? = some x ∧ wb.heap[w.heap.size + 1]? = some y ∧ Below w.heap.size w wb := by
  refine ⟨_, rfl, ?_, ?_, below_alloc (below_alloc (Below.refl _ _) _) _⟩
  · have h := heap_alloc_new w x
    exact ((below_alloc (Below.refl (w.alloc x).heap.size (w.alloc x)) y).block _ (by simp)).trans h
  · have h := heap_alloc_new (w.alloc x) y
    rw [World.size_alloc] at h
    exact h
set_option maxHeartbeats 1000000 in
theorem Set_no (w : World) (n : Nat) (a : Value) (i s : Int) (h : ¬ (0 ≤ i ∧ i < n)) : Calls Try.prog 22 #[treeV n a, .int .i64 i, .int .u64 s] w fun e w' => e = .returned (.tuple #[.agg #[.int .i64 0, .int .i64 0, .pointer none], .int .i64 2]) ∧ Below w.heap.size w w' := by
  have H := Lib.hid h
  clear h
  obtain ⟨wb, hwb, hx, hy, hb0⟩ := two_new w (.cells #[.int .i64 n, .int .i64 (ht n), a] 29) (.cells #[.int .i64 0, .int .i64 0, .pointer none] 29)
  have HX := Aside0.mk hx
  have HY := Aside0.mk hy
  have HB0 := Aside0.mk hb0
  have HWB := Lib.hid hwb
  clear hwb hx hy hb0
  unfold treeV
  go_enter Try.func22, Try.ntmps22
  go_wp2_with fail
  rw [← HWB.out]
  clear HWB
  refine (has_no _ n a i H.out).mono ?_
  rintro e w1 ⟨rfl, hb⟩
  have HB1 := Aside0.mk (below_join hb HB0.out)
  have HY1 := Aside0.mk ((hb.block _ (blk_lt HY.out)).trans HY.out)
  obtain ⟨c0, c1, c2⟩ := cells3 HY1.out
  have f0 : w1.frozen? ⟨w.heap.size + 1, 0, none⟩ = false := blk_frozen HY1.out 0
  have f1 : w1.frozen? ⟨w.heap.size + 1, 1, none⟩ = false := blk_frozen HY1.out 1
  have f2 : w1.frozen? ⟨w.heap.size + 1, 2, none⟩ = false := blk_frozen HY1.out 2
  clear hb
  go_wp2
  refine bodyPost_ret (v := .tuple #[.agg #[.int .i64 0, .int .i64 0, .pointer none], .int .i64 2]) (by simp [results, Try.results22, go_sem, *]) rfl ⟨rfl, fin29b HB1.out (by omega) _ _ _⟩
set_option maxHeartbeats 1000000 in
theorem Set_yes (w : World) (l : List Int) (i : Nat) (s : Int) (A : Nat → Nat → Nat) (hT : Tr w l.length (SL l) A (ht l.length)) (hi : i < l.length) (hn : l.length ≤ 900) :
    Calls Try.prog 22 #[treeV l.length (topP l.length A), .int .i64 i, .int .u64 s] w fun e w' => ∃ P : Nat → Nat, e = .returned (.tuple #[treeV l.length (topP l.length (patch A P i)), .int .i64 0]) ∧ Tr w' l.length (SL (l.set i s)) (patch A P i) (ht l.length) ∧ (∀ j, j ≤ ht l.length → w.heap.size ≤ P j) ∧ Below w.heap.size w w' := by
  rw [topP_pos A (by omega)]
  obtain ⟨wb, hwb, hx, hy, hb0⟩ := two_new w (.cells #[.int .i64 l.length, .int .i64 (ht l.length), .pointer (some ⟨A (ht l.length) 0, 0, none⟩)] 29) (.cells #[.int .i64 0, .int .i64 0, .pointer none] 29)
  have HX := Aside0.mk hx
  have HY := Aside0.mk hy
  have HB0 := Aside0.mk hb0
  have HWB := Lib.hid hwb
  have HT := Aside0.mk hT
  clear hwb hx hy hb0 hT
  unfold treeV
  go_enter Try.func22, Try.ntmps22
  go_wp2_with fail
  rw [← HWB.out]
  clear HWB
  refine (has_yes _ l.length _ i (by omega) (by omega)).mono ?_
  rintro e w1 ⟨rfl, hb⟩
  have HB1 := Aside0.mk (below_join hb HB0.out)
  have HX1 := Aside0.mk ((hb.block _ (blk_lt HX.out)).trans HX.out)
  have HY1 := Aside0.mk ((hb.block _ (blk_lt HY.out)).trans HY.out)
  obtain ⟨x0, x1, x2⟩ := cells3 HX1.out
  clear hb HX HY HB0
  go_wp2_with fail
  have h0 : i / 4 ^ ht l.length = 0 := Nat.lt_one_iff.1 (Nat.lt_of_lt_of_le (sz_anc hi (ht l.length)) (sz_ht l.length))
  have hset := set_any l i s A hi hn (ht l.length) (Nat.le_refl _) w1 (HT.out.keep (Keeps.below HB1.out))
  rw [h0] at hset
  refine hset.mono ?_
  rintro e w2 ⟨P, rfl, hP, hb⟩
  have HP := Aside0.mk hP
  have HB2' := Aside0.mk hb
  have HB2 := Aside0.mk (below_join hb HB1.out)
  have HX2 := Aside0.mk ((hb.block _ (blk_lt HX1.out)).trans HX1.out)
  have HY2 := Aside0.mk ((hb.block _ (blk_lt HY1.out)).trans HY1.out)
  have hlt1 := blk_lt HX1.out
  have hlt2 := blk_lt HY1.out
  clear hP hb HX1 HY1 x0 x1 x2 h0 hset
  obtain ⟨x0, x1, x2⟩ := cells3 HX2.out
  obtain ⟨c0, c1, c2⟩ := cells3 HY2.out
  have f0 : w2.frozen? ⟨w.heap.size + 1, 0, none⟩ = false := blk_frozen HY2.out 0
  have f1 : w2.frozen? ⟨w.heap.size + 1, 1, none⟩ = false := blk_frozen HY2.out 1
  have f2 : w2.frozen? ⟨w.heap.size + 1, 2, none⟩ = false := blk_frozen HY2.out 2
  have g2 : w2.frozen? ⟨w.heap.size, 2, none⟩ = false := blk_frozen HX2.out 2
  go_wp2
  have hY' : (w2.setCell ⟨w.heap.size, 2, none⟩ (.pointer (some ⟨P (ht l.length), 0, none⟩))).heap[w.heap.size + 1]? = some (.cells #[.int .i64 0, .int .i64 0, .pointer none] 29 (0, 0)) := blk_far HY2.out (by simp) _
  have h0 : i / 4 ^ ht l.length = 0 := Nat.lt_one_iff.1 (Nat.lt_of_lt_of_le (sz_anc hi (ht l.length)) (sz_ht l.length))
  refine bodyPost_ret (v := .tuple #[.agg #[.int .i64 l.length, .int .i64 (ht l.length), .pointer (some ⟨P (ht l.length), 0, none⟩)], .int .i64 0]) (by simp [results, Try.results22, go_sem, *]) rfl ⟨P, ?_, ?_, fun j hj => ?_, fin29b (HB2.out.setCell (p := ⟨w.heap.size, 2, none⟩) (Nat.le_refl _) _) (by omega) _ _ _⟩
  · rw [topP_pos _ (by omega)]
    have : patch A P i (ht l.length) 0 = P (ht l.length) := by rw [← h0]; exact patch_on A P i _
    rw [this]
  · exact (patched w1 w2 l i s A P (HT.out.keep (Keeps.below HB1.out)) HB2'.out HP.out).keep ((Keeps.set29 HX2.out 2 _).trans (fin29 hY' _ _ _))
  · have := (HP.out j hj).new
    rw [patch_on] at this
    exact Nat.le_trans (below_size HB1.out) this
end Go.Proofs.Ytpofcknfnipkgaa.ST
