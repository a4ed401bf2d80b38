/- The walk of the law SumtreeCheck. -/
import Derived.Test.YtpofcknfnipkgaaB1
import Derived.Deep.RegionHeld3
namespace Go.Proofs.Ytpofcknfnipkgaa.ST
open Go.RowKit Go.Proofs.YtpofcknfnipkgaaW.PrintWords Go.Proofs.YtpofcknfnipkgaaW.PrintLast Go.Proofs.YtpofcknfnipkgaaW.PrintMore Go.Proofs.Ytpofcknfnipkgaa.PS
set_option linter.unusedVariables false
set_option linter.unusedSimpArgs false

theorem cells5 {w : World} {b : Nat} {x y z u v : Value} {t : TypeId} (h : w.heap[b]? = some (.cells #[x, y, z, u, v] t (0, 0))) : w.cell? ⟨b, 0, none⟩ = some x ∧ w.cell? ⟨b, 1, none⟩ = some y ∧ w.cell? ⟨b, 2, none⟩ = some z ∧ w.cell? ⟨b, 3, none⟩ = some u ∧ w.cell? ⟨b, 4, none⟩ = some v :=
  ⟨(blk_cell h 0).trans rfl, (blk_cell h 1).trans rfl, (blk_cell h 2).trans rfl, (blk_cell h 3).trans rfl, (blk_cell h 4).trans rfl⟩
theorem checklaw_long (w : World) (A : Option Addr) (c : Nat) (l : List Int) (r s n i : Int) (hl : 100 < l.length) : Calls Try.prog 4 #[.agg #[.int .u64 r, .int .u64 s, .int .i64 n, .int .i64 i, .slice A l.length c]] w fun e w' => e = .returned (.bool true) ∧ Below w.heap.size w w' := by
  have d1 : decide ((100 : Int) < (l.length : Int)) = true := decide_eq_true (by omega)
  have d2 : decide (100 < l.length) = true := decide_eq_true hl
  go_enter Try.func4, Try.ntmps4
  go_wp2_with fail
  have hW := Aside0.mk (below_alloc (Below.refl w.heap.size w) (.cells #[.int .u64 r, .int .u64 s, .int .i64 n, .int .i64 i, .slice A l.length c] 36))
  have hG := Aside0.mk (heap_alloc_new w (.cells #[.int .u64 r, .int .u64 s, .int .i64 n, .int .i64 i, .slice A l.length c] 36))
  generalize w.alloc (.cells #[.int .u64 r, .int .u64 s, .int .i64 n, .int .i64 i, .slice A l.length c] 36) = wb at hW hG ⊢
  refine (awake_any _).mono ?_
  rintro e w1 ⟨rfl, hb⟩
  have HB1 := Aside0.mk (below_join hb hW.out)
  obtain ⟨c0, c1, c2, c3, c4⟩ := cells5 ((hb.block _ (blk_lt hG.out)).trans hG.out)
  clear hb
  go_wp2_with fail
  refine (awake_any _).mono ?_
  rintro e w2 ⟨rfl, hb⟩
  have HB2 := Aside0.mk (below_join hb HB1.out)
  clear hb
  go_wp2
  go_ret
  exact ⟨rfl, HB2.out⟩
set_option maxHeartbeats 2000000 in
theorem checklaw_short (w : World) (A : Option Addr) (c : Nat) (l : List Int) (r s n i : Int) (h : Rd w A c l) (hl : l.length ≤ 100) : Calls Try.prog 4 #[.agg #[.int .u64 r, .int .u64 s, .int .i64 n, .int .i64 i, .slice A l.length c]] w fun e w' => e = .returned (.bool true) ∧ Below w.heap.size w w' := by
  have d1 : decide ((100 : Int) < (l.length : Int)) = false := decide_eq_false (by omega)
  have d2 : decide (100 < l.length) = false := decide_eq_false (by omega)
  have HR := Aside0.mk h
  have HL := Aside0.mk hl
  clear h hl
  go_enter Try.func4, Try.ntmps4
  go_wp2_with fail
  have hW := Aside0.mk (below_alloc (Below.refl w.heap.size w) (.cells #[.int .u64 r, .int .u64 s, .int .i64 n, .int .i64 i, .slice A l.length c] 36))
  have hG := Aside0.mk (heap_alloc_new w (.cells #[.int .u64 r, .int .u64 s, .int .i64 n, .int .i64 i, .slice A l.length c] 36))
  generalize w.alloc (.cells #[.int .u64 r, .int .u64 s, .int .i64 n, .int .i64 i, .slice A l.length c] 36) = wb at hW hG ⊢
  refine (awake_any _).mono ?_
  rintro e w1 ⟨rfl, hb⟩
  have HB1 := below_join hb hW.out
  have HG1 := (hb.block _ (blk_lt hG.out)).trans hG.out
  have HR1 := HR.out.below HB1
  obtain ⟨c0, c1, c2, c3, c4⟩ := cells5 HG1
  clear hb
  have HQ1 := Aside0.mk HB1
  have HQ2 := Aside0.mk HR1
  clear HB1 HR1 HG1
  go_wp2_with fail
  obtain ⟨b, hb⟩ : ∃ b, checkV r n i s l = b := ⟨_, rfl⟩
  have Hb := Lib.hid hb
  clear hb
  have q1 := HQ1.out
  have q2 := HQ2.out
  go_region_held3 (fun w' => w'.cell? ⟨w.heap.size, 0, none⟩ = some (.int .u64 r) ∧ w'.cell? ⟨w.heap.size, 1, none⟩ = some (.int .u64 s) ∧ w'.cell? ⟨w.heap.size, 2, none⟩ = some (.int .i64 n) ∧ w'.cell? ⟨w.heap.size, 3, none⟩ = some (.int .i64 i) ∧ w'.cell? ⟨w.heap.size, 4, none⟩ = some (.slice A l.length c) ∧ Rd w' A c l ∧ Below w.heap.size w w') (first | exact ⟨by assumption, by assumption, by assumption, by assumption, by assumption, by assumption, by assumption⟩ | exact ⟨by simpa using c0, by simpa using c1, by simpa using c2, by simpa using c3, by simpa using c4, q2.below (below_drew1 (Below.refl _ _)), below_drew1 q1⟩ | go_keep) (first | (go_at_call 16; refine (check_any _ r n i s A c l (by first | assumption | exact q2.below (below_drew1 (Below.refl _ _))) (by have := HL.out; omega)).mono ?_; rw [Hb.out]; rintro e w2 ⟨rfl, hb⟩; have k0 : w2.cell? ⟨w.heap.size, 0, none⟩ = some (.int .u64 r) := pw_cell_below hb (by first | assumption | simpa using c0); have k1 : w2.cell? ⟨w.heap.size, 1, none⟩ = some (.int .u64 s) := pw_cell_below hb (by first | assumption | simpa using c1); have k2 : w2.cell? ⟨w.heap.size, 2, none⟩ = some (.int .i64 n) := pw_cell_below hb (by first | assumption | simpa using c2); have k3 : w2.cell? ⟨w.heap.size, 3, none⟩ = some (.int .i64 i) := pw_cell_below hb (by first | assumption | simpa using c3); have k4 : w2.cell? ⟨w.heap.size, 4, none⟩ = some (.slice A l.length c) := pw_cell_below hb (by first | assumption | simpa using c4); have k5 : Rd w2 A c l := Rd.below (by first | assumption | exact q2.below (below_drew1 (Below.refl _ _))) hb; have k6 : Below w.heap.size w w2 := below_join hb (by first | assumption | exact below_drew1 q1); clear hb) | (go_at_call 17; refine (rcheck_any _ r n i s A c l (by first | assumption | exact q2.below (below_drew1 (Below.refl _ _))) (by have := HL.out; omega)).mono ?_; rw [Hb.out]; rintro e w2 ⟨rfl, hb⟩; have k0 : w2.cell? ⟨w.heap.size, 0, none⟩ = some (.int .u64 r) := pw_cell_below hb (by first | assumption | simpa using c0); have k1 : w2.cell? ⟨w.heap.size, 1, none⟩ = some (.int .u64 s) := pw_cell_below hb (by first | assumption | simpa using c1); have k2 : w2.cell? ⟨w.heap.size, 2, none⟩ = some (.int .i64 n) := pw_cell_below hb (by first | assumption | simpa using c2); have k3 : w2.cell? ⟨w.heap.size, 3, none⟩ = some (.int .i64 i) := pw_cell_below hb (by first | assumption | simpa using c3); have k4 : w2.cell? ⟨w.heap.size, 4, none⟩ = some (.slice A l.length c) := pw_cell_below hb (by first | assumption | simpa using c4); have k5 : Rd w2 A c l := Rd.below (by first | assumption | exact q2.below (below_drew1 (Below.refl _ _))) hb; have k6 : Below w.heap.size w w2 := below_join hb (by first | assumption | exact below_drew1 q1); clear hb))
  all_goals
    go_wp2
    go_ret
    exact ⟨by simp, by assumption⟩
theorem SumtreeCheck_row (A : Option Addr) (c : Nat) (l : List Int) (r s n i : Int) (w : World) (h : Rd w A c l) : Calls Try.prog 4 #[.agg #[.int .u64 r, .int .u64 s, .int .i64 n, .int .i64 i, .slice A l.length c]] w fun e w' => e = .returned (.bool true) ∧ Below w.heap.size w w' := by
  rcases Nat.lt_or_ge 100 l.length with hl | hl
  · exact checklaw_long w A c l r s n i hl
  · exact checklaw_short w A c l r s n i h hl
end Go.Proofs.Ytpofcknfnipkgaa.ST
