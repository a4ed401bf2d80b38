/- Functions of the seat, each as a plain Lean function, and the proof that its call answers what that function says (laid by a program). -/
import Derived.Test.YtpofcknfnipkgaaPSx0
import Derived.Test.YtpofcknfnipkgaaPSx1
namespace Go.Proofs.Ytpofcknfnipkgaa.PS
open Go.RowKit Go.Proofs.YtpofcknfnipkgaaW.PrintWords Go.Proofs.YtpofcknfnipkgaaW.PrintLast Go.Proofs.YtpofcknfnipkgaaW.PrintMore
attribute [local go_sem] max2_int min2_int max_two min_two max_three min_three max_four min_four   -- for this text's walks alone
set_option linter.unusedVariables false
set_option linter.unusedSimpArgs false

/-! ### sumtree_Check: function 16 -/
mutual
def sumtree_Check.j0 : Nat → Int → Int → Int → Int → List Int → Bool → Option (Bool)
  | 0, _, _, _, _, _, _ => none
  | k + 1, x0, x1, x2, x3, x4, x29 => if x29 = true then (some false) else (sumtree_Check.l0 k x0 x1 x2 x3 x4 x1)
def sumtree_Check.l0 : Nat → Int → Int → Int → Int → List Int → Int → Option (Bool)
  | 0, _, _, _, _, _, _ => none
  | k + 1, x0, x1, x2, x3, x4, x11 => if x11 > 1 then (if (x4.length : Int) < (wrap64 ((mn 4 (wrap64 (x11 - (wrap64 (x2 - (Int.tmod x2 4)))))) - 1)) then (some false) else ((some (([] : List Int) : List Int)).bind fun y122 => (if 0 ≤ (Int.tmod x2 4) then (if (Int.tmod x2 4) ≤ (x4.length : Int) then ((some (x4.take ((Int.tmod x2 4) : Int).toNat : List Int)).bind fun y125 => (if y122.length + y125.length < 17592186044416 then ((some (y122 ++ y125 : List Int)).bind fun y130 => ((some (([x3] : List Int) : List Int)).bind fun y133 => (if y130.length + y133.length < 17592186044416 then ((some (y130 ++ y133 : List Int)).bind fun y136 => (if (Int.tmod x2 4) ≤ (wrap64 ((mn 4 (wrap64 (x11 - (wrap64 (x2 - (Int.tmod x2 4)))))) - 1)) then (if (wrap64 ((mn 4 (wrap64 (x11 - (wrap64 (x2 - (Int.tmod x2 4)))))) - 1)) ≤ (x4.length : Int) then ((some ((x4.take ((wrap64 ((mn 4 (wrap64 (x11 - (wrap64 (x2 - (Int.tmod x2 4)))))) - 1)) : Int).toNat).drop ((Int.tmod x2 4) : Int).toNat : List Int)).bind fun y139 => (if y136.length + y139.length < 17592186044416 then ((sumtree_run.f k (y136 ++ y139)).bind fun t147 => (if 0 ≤ (wrap64 ((mn 4 (wrap64 (x11 - (wrap64 (x2 - (Int.tmod x2 4)))))) - 1)) then (sumtree_Check.l0 k x0 x1 (wrap64 (Int.tdiv x2 4)) t147 (x4.drop ((wrap64 ((mn 4 (wrap64 (x11 - (wrap64 (x2 - (Int.tmod x2 4)))))) - 1)) : Int).toNat) (wrap64 (Int.tdiv (wrap64 ((wrap64 (x11 + 4)) - 1)) 4))) else (none))) else (none))) else (none)) else (none))) else (none)))) else (none))) else (none)) else (none)))) else (if (x4.length : Int) = 0 then ((sumtree_root.f k x1 x3).bind fun t153 => (some (t153 == x0))) else (some false))
end
def sumtree_Check.f (k : Nat) (a0 : Int) (a1 : Int) (a2 : Int) (a3 : Int) (l4 : List Int) : Option (Bool) := if a1 < 1 then (sumtree_Check.j0 k a0 a1 a2 a3 l4 true) else (if a1 > 1048576 then (sumtree_Check.j0 k a0 a1 a2 a3 l4 true) else (if a2 < 0 then (sumtree_Check.j0 k a0 a1 a2 a3 l4 true) else (sumtree_Check.j0 k a0 a1 a2 a3 l4 (decide (a2 ≥ a1)))))
theorem sumtree_Check.mono_l : ∀ k, (∀ y0 y1 y2 y3 y4 y5, LeO (sumtree_Check.j0 k y0 y1 y2 y3 y4 y5) (sumtree_Check.j0 (k + 1) y0 y1 y2 y3 y4 y5)) ∧ (∀ y0 y1 y2 y3 y4 y5, LeO (sumtree_Check.l0 k y0 y1 y2 y3 y4 y5) (sumtree_Check.l0 (k + 1) y0 y1 y2 y3 y4 y5))
  | 0 => ⟨fun _ _ _ _ _ _ r h => by simp [sumtree_Check.j0] at h, fun _ _ _ _ _ _ r h => by simp [sumtree_Check.l0] at h⟩
  | k + 1 => by
    obtain ⟨ih0, ih1⟩ := sumtree_Check.mono_l k
    refine ⟨?_, ?_⟩
    · intro y0 y1 y2 y3 y4 y5
      unfold sumtree_Check.j0
      repeat' first
      | (with_reducible exact ih0 _ _ _ _ _ _)
      | (with_reducible exact ih1 _ _ _ _ _ _)
      | (with_reducible exact sumtree_root.mono _ _ _)
      | (with_reducible exact sumtree_run.mono _ _)
      | (with_reducible exact LeO.refl _)
      | (with_reducible exact LeO.none _)
      | (with_reducible refine LeO.ite ?_ ?_)
      | (with_reducible refine LeO.bind ?_ (fun _ => ?_))
      | exact ih0 _ _ _ _ _ _
      | exact ih1 _ _ _ _ _ _
      | exact sumtree_root.mono _ _ _
      | exact sumtree_run.mono _ _
      | exact LeO.none _
      | refine LeO.ite ?_ ?_
      | refine LeO.bind ?_ (fun _ => ?_)
    · intro y0 y1 y2 y3 y4 y5
      unfold sumtree_Check.l0
      repeat' first
      | (with_reducible exact ih0 _ _ _ _ _ _)
      | (with_reducible exact ih1 _ _ _ _ _ _)
      | (with_reducible exact sumtree_root.mono _ _ _)
      | (with_reducible exact sumtree_run.mono _ _)
      | (with_reducible exact LeO.refl _)
      | (with_reducible exact LeO.none _)
      | (with_reducible refine LeO.ite ?_ ?_)
      | (with_reducible refine LeO.bind ?_ (fun _ => ?_))
      | exact ih0 _ _ _ _ _ _
      | exact ih1 _ _ _ _ _ _
      | exact sumtree_root.mono _ _ _
      | exact sumtree_run.mono _ _
      | exact LeO.none _
      | refine LeO.ite ?_ ?_
      | refine LeO.bind ?_ (fun _ => ?_)
theorem sumtree_Check.mono : ∀ a0 a1 a2 a3 a4 k, LeO (sumtree_Check.f k a0 a1 a2 a3 a4) (sumtree_Check.f (k + 1) a0 a1 a2 a3 a4) := by
  intro a0 a1 a2 a3 a4 k
  obtain ⟨ih0, ih1⟩ := sumtree_Check.mono_l k
  unfold sumtree_Check.f
  repeat' first
      | (with_reducible exact ih0 _ _ _ _ _ _)
      | (with_reducible exact ih1 _ _ _ _ _ _)
      | (with_reducible exact sumtree_root.mono _ _ _)
      | (with_reducible exact sumtree_run.mono _ _)
      | (with_reducible exact LeO.refl _)
      | (with_reducible exact LeO.none _)
      | (with_reducible refine LeO.ite ?_ ?_)
      | (with_reducible refine LeO.bind ?_ (fun _ => ?_))
      | exact ih0 _ _ _ _ _ _
      | exact ih1 _ _ _ _ _ _
      | exact sumtree_root.mono _ _ _
      | exact sumtree_run.mono _ _
      | exact LeO.none _
      | refine LeO.ite ?_ ?_
      | refine LeO.bind ?_ (fun _ => ?_)
def sumtree_Check.T10 : Bool × List (List Nat × List Nat) := (true, [([], []), ([], []), ([], []), ([1, 2], [1, 2]), ([0, 3], [0, 3]), ([], []), ([5], [5]), ([4, 6, 4], [4, 6]), ([], []), ([], []), ([], []), ([10], [10]), ([8, 9, 11], [8, 9, 11]), ([7, 12, 7], [7, 12]), ([13, 13, 0, 1, 2, 3, 4, 5, 6, 7, 8, 9, 10, 11, 12, 13], [13])])
def sumtree_Check.B10 : List Nat := [0, 0, 0, 6, 15, 0, 32, 127, 0, 0, 0, 1024, 3840, 8191, 16383]
theorem sumtree_Check.tab10 : rtab .any (opsOf Try.f16 10) = sumtree_Check.T10 := by kernel_rfl
theorem sumtree_Check.bits10 : waitsOk sumtree_Check.T10.2 sumtree_Check.B10 = true := by kernel_rfl
def sumtree_Check.T11 : Bool × List (List Nat × List Nat) := (true, [([], []), ([0], [0]), ([], []), ([], []), ([3], [3]), ([2, 4], [2, 4]), ([], []), ([6], [6]), ([1, 1, 0, 1], [1]), ([5, 8, 0, 1, 2, 3, 4, 5, 8], [2, 5]), ([7, 9, 0, 1, 2, 3, 4, 5, 6, 7, 8, 9], [6, 7])])
def sumtree_Check.B11 : List Nat := [0, 1, 0, 0, 8, 28, 0, 64, 3, 319, 1023]
theorem sumtree_Check.tab11 : rtab .any (opsOf Try.f16 11) = sumtree_Check.T11 := by kernel_rfl
theorem sumtree_Check.bits11 : waitsOk sumtree_Check.T11.2 sumtree_Check.B11 = true := by kernel_rfl
set_option maxHeartbeats 8000000 in
set_option maxRecDepth 100000 in
theorem sumtree_Check.calls (k : Nat) (a0 : Int) (a1 : Int) (a2 : Int) (a3 : Int) (P4_ : Nat → Prop) (A4 : Option Addr) (c4 : Nat) (l4 : List Int) (r : Bool) (w : World) (hs4 : Kd.V (Kd.int .u64) 34 w w.heap.size (fun k_ => P4_ k_) (.slice A4 l4.length c4) l4) (h : sumtree_Check.f k a0 a1 a2 a3 l4 = some r) :
    Calls Try.prog 16 #[.int .u64 a0, .int .i64 a1, .int .i64 a2, .int .u64 a3, .slice A4 l4.length c4] w fun e w' => e = .returned (.bool r) ∧ Below w.heap.size w w' := by
  have HO4 := Aside0.mk (show Kd.V (Kd.int .u64) 34 w w.heap.size (fun k_ => (P4_ k_ ∨ w.heap.size ≤ k_)) (.slice A4 l4.length c4) l4 from Kd.V_mono hs4 (fun k_ hk => .inl hk))
  have HB := Aside0.mk (Below.refl w.heap.size w)
  have H : (if a1 < 1 then (sumtree_Check.j0 k a0 a1 a2 a3 l4 true) else (if a1 > 1048576 then (sumtree_Check.j0 k a0 a1 a2 a3 l4 true) else (if a2 < 0 then (sumtree_Check.j0 k a0 a1 a2 a3 l4 true) else (sumtree_Check.j0 k a0 a1 a2 a3 l4 (decide (a2 ≥ a1)))))) = some r := h
  clear h
  have HC6 := Aside0.mk H
  clear H
  go_enter Try.func16, Try.ntmps16
  go_upto_region 1 with (fail)
  go_cut [29] (fun v29 wc => ∃ (kq : Nat) (x29_5 : Bool), v29 = .bool x29_5 ∧ Aside0 (sumtree_Check.j0 kq a0 a1 a2 a3 l4 x29_5 = some r) ∧ Aside0 (kq ≤ k) ∧ Aside0 (Kd.V (Kd.int .u64) 34 wc w.heap.size (fun k_ => (P4_ k_ ∨ w.heap.size ≤ k_)) (.slice A4 l4.length c4) l4) ∧ Aside0 (Below w.heap.size w wc))
  case first =>
    have H := HC6.out
    clear HC6
    by_cases c7 : a1 < 1
    · rw [if_pos c7] at H
      have c7b0 : decide (a1 < 1) = true := decide_eq_true c7
      clear c7
      (first | rw [c7b0] | (simp only [i64_w, i32_w]; rw [c7b0]) | skip)
      have H' := Aside0.mk H
      clear H
      go_wp2
      go_meet
      case rel => exact ⟨_, (true), (by first | rfl | (simp; done) | (simp [*]; done)), H', ⟨by first | omega | exact Nat.le_refl _⟩, ⟨by (with_reducible repeat (first | apply Kd.V_alloc | apply Kd.V_drewN | apply Kd.V_drew)); exact HO4.out⟩, ⟨by repeat (first | (with_reducible first | exact HB.out | apply below_alloc | apply pw_below_drewN | apply below_drew1) | exact HB.out)⟩⟩
    · rw [if_neg c7] at H
      have c7b0 : decide (a1 < 1) = false := decide_eq_false c7
      clear c7
      (first | rw [c7b0] | (simp only [i64_w, i32_w]; rw [c7b0]) | skip)
      by_cases c8 : a1 > 1048576
      · rw [if_pos c8] at H
        have c8b0 : decide (1048576 < a1) = true := decide_eq_true c8
        clear c8
        have H' := Aside0.mk H
        clear H
        go_wp2
        go_meet
        case rel => exact ⟨_, (true), (by first | rfl | (simp; done) | (simp [*]; done)), H', ⟨by first | omega | exact Nat.le_refl _⟩, ⟨by (with_reducible repeat (first | apply Kd.V_alloc | apply Kd.V_drewN | apply Kd.V_drew)); exact HO4.out⟩, ⟨by repeat (first | (with_reducible first | exact HB.out | apply below_alloc | apply pw_below_drewN | apply below_drew1) | exact HB.out)⟩⟩
      · rw [if_neg c8] at H
        have c8b0 : decide (1048576 < a1) = false := decide_eq_false c8
        clear c8
        by_cases c9 : a2 < 0
        · rw [if_pos c9] at H
          have c9b0 : decide (a2 < 0) = true := decide_eq_true c9
          clear c9
          have H' := Aside0.mk H
          clear H
          go_wp2
          go_meet
          case rel => exact ⟨_, (true), (by first | rfl | (simp; done) | (simp [*]; done)), H', ⟨by first | omega | exact Nat.le_refl _⟩, ⟨by (with_reducible repeat (first | apply Kd.V_alloc | apply Kd.V_drewN | apply Kd.V_drew)); exact HO4.out⟩, ⟨by repeat (first | (with_reducible first | exact HB.out | apply below_alloc | apply pw_below_drewN | apply below_drew1) | exact HB.out)⟩⟩
        · rw [if_neg c9] at H
          have c9b0 : decide (a2 < 0) = false := decide_eq_false c9
          clear c9
          have H' := Aside0.mk H
          clear H
          go_wp2
          go_meet
          case rel => exact ⟨_, (decide (a2 ≥ a1)), (by first | rfl | (simp; done) | (simp [*]; done)), H', ⟨by first | omega | exact Nat.le_refl _⟩, ⟨by (with_reducible repeat (first | apply Kd.V_alloc | apply Kd.V_drewN | apply Kd.V_drew)); exact HO4.out⟩, ⟨by repeat (first | (with_reducible first | exact HB.out | apply below_alloc | apply pw_below_drewN | apply below_drew1) | exact HB.out)⟩⟩
  case rest =>
    clear HC6
    try clear c1
    try clear p2
    try clear c4
    try clear c7
    try clear c7b0
    try clear c8
    try clear c8b0
    try clear c9
    try clear c9b0
    obtain ⟨kq, x29_5, rfl, HA, HJ5, HO_4, HB⟩ := hcut
    cases kq with
    | zero => exact absurd HA.out (by simp [sumtree_Check.j0])
    | succ kj5 =>
      have H := HA.out
      clear HA
      simp only [sumtree_Check.j0] at H
      by_cases c10 : x29_5 = true
      · subst c10
        have H1 : (some false) = some r := by rw [if_pos rfl] at H; exact H
        clear H
        have H := H1
        clear H1
        obtain rfl := Option.some.inj H
        go_wp2
        go_ret
        exact ⟨by first | rfl | (simp [errW_none, errW_some] <;> rfl) | (simp [*, errW_none, errW_some] <;> rfl), by repeat (first | (with_reducible first | exact HB.out | apply below_alloc | apply pw_below_drewN | apply below_drew1) | exact HB.out)⟩
      · replace c10 := Bool.eq_false_iff.mpr c10
        subst c10
        have H1 : (sumtree_Check.l0 kj5 a0 a1 a2 a3 l4 a1) = some r := by rw [if_neg (show ¬ (false = true) by decide)] at H; exact H
        clear H
        have H := H1
        clear H1
        have H' := Aside0.mk H
        clear H
        go_wp2
        go_loopg [2, 3, 4, 11] kj5 (fun kq v2 v3 v4 v11 w' => ∃ (x2_2 : Int) (x3_2 : Int) (x4_2 : List Int) (x11_2 : Int), v2 = .int .i64 x2_2 ∧ v3 = .int .u64 x3_2 ∧ v11 = .int .i64 x11_2 ∧ Aside0 (sumtree_Check.l0 kq a0 a1 x2_2 x3_2 x4_2 x11_2 = some r) ∧ Aside0 (kq ≤ kj5) ∧ Aside0 (Kd.V (Kd.int .u64) 34 w' w.heap.size (fun k_ => (P4_ k_ ∨ w.heap.size ≤ k_)) v4 x4_2) ∧ Aside0 (Below w.heap.size w w'))
        case atStart => exact ⟨(a2), (a3), (l4), (a1), (by first | rfl | (simp; done) | (simp [*]; done)), (by first | rfl | (simp; done) | (simp [*]; done)), (by first | rfl | (simp; done) | (simp [*]; done)), H', ⟨Nat.le_refl _⟩, ⟨by (with_reducible repeat (first | apply Kd.V_alloc | apply Kd.V_drewN | apply Kd.V_drew)); exact HO_4.out⟩, ⟨by repeat (first | (with_reducible first | exact HB.out | apply below_alloc | apply pw_below_drewN | apply below_drew1) | exact HB.out)⟩⟩
        case round =>
          clear H'
          try clear c1
          try clear p2
          try clear c4
          try clear c7
          try clear c7b0
          try clear c8
          try clear c8b0
          try clear c9
          try clear c9b0
          try clear c10
          try clear p2
          obtain ⟨x2_2, x3_2, x4_2, x11_2, rfl, rfl, rfl, HA, HK2, HO_4, HB⟩ := hrel
          cases gk with
          | zero => exact absurd HA.out (by simp [sumtree_Check.l0])
          | succ k2 =>
            have H := HA.out
            clear HA
            simp only [sumtree_Check.l0] at H
            by_cases c11 : x11_2 > 1
            · rw [if_pos c11] at H
              have c11b0 : decide (1 < x11_2) = true := decide_eq_true c11
              clear c11
              obtain ⟨ji12, hji12⟩ : ∃ j_ : Int, (mn 4 (wrap64 (x11_2 - (wrap64 (x2_2 - (Int.tmod x2_2 4)))))) = j_ := ⟨_, rfl⟩
              replace H : (if (x4_2.length : Int) < (wrap64 ((ji12) - 1)) then (some false) else ((some (([] : List Int) : List Int)).bind fun y122 => (if 0 ≤ (Int.tmod x2_2 4) then (if (Int.tmod x2_2 4) ≤ (x4_2.length : Int) then ((some (x4_2.take ((Int.tmod x2_2 4) : Int).toNat : List Int)).bind fun y125 => (if y122.length + y125.length < 17592186044416 then ((some (y122 ++ y125 : List Int)).bind fun y130 => ((some (([x3_2] : List Int) : List Int)).bind fun y133 => (if y130.length + y133.length < 17592186044416 then ((some (y130 ++ y133 : List Int)).bind fun y136 => (if (Int.tmod x2_2 4) ≤ (wrap64 ((ji12) - 1)) then (if (wrap64 ((ji12) - 1)) ≤ (x4_2.length : Int) then ((some ((x4_2.take ((wrap64 ((ji12) - 1)) : Int).toNat).drop ((Int.tmod x2_2 4) : Int).toNat : List Int)).bind fun y139 => (if y136.length + y139.length < 17592186044416 then ((sumtree_run.f k2 (y136 ++ y139)).bind fun t147 => (if 0 ≤ (wrap64 ((ji12) - 1)) then (sumtree_Check.l0 k2 a0 a1 (wrap64 (Int.tdiv x2_2 4)) t147 (x4_2.drop ((wrap64 ((ji12) - 1)) : Int).toNat) (wrap64 (Int.tdiv (wrap64 ((wrap64 (x11_2 + 4)) - 1)) 4))) else (none))) else (none))) else (none)) else (none))) else (none)))) else (none))) else (none)) else (none)))) = some r := by first | (rw [hji12] at H; exact H) | (simp only [hji12] at H ⊢; exact H)
              have hji12_ : (if (wrap64 (x11_2 - (wrap64 (x2_2 - (Int.tmod x2_2 4))))) < 4 then (wrap64 (x11_2 - (wrap64 (x2_2 - (Int.tmod x2_2 4))))) else 4) = ji12 := hji12
              by_cases c13 : (x4_2.length : Int) < (wrap64 ((ji12) - 1))
              · rw [if_pos c13] at H
                have c13b0 : decide ((x4_2.length : Int) < (wrap64 ((ji12) - 1))) = true := decide_eq_true c13
                clear c13
                obtain rfl := Option.some.inj H
                obtain ⟨Ao14, co14, eo14⟩ := Kd.V_slice HO_4.out
                subst eo14
                go_wp2
                go_ret
                exact ⟨by first | rfl | (simp [errW_none, errW_some] <;> rfl) | (simp only [← hji12]; first | rfl | (simp [errW_none, errW_some] <;> rfl)) | (simp [*, errW_none, errW_some] <;> rfl), by repeat (first | (with_reducible first | exact HB.out | apply below_alloc | apply pw_below_drewN | apply below_drew1) | exact HB.out)⟩
              · rw [if_neg c13] at H
                have c13b0 : decide ((x4_2.length : Int) < (wrap64 ((ji12) - 1))) = false := decide_eq_false c13
                clear c13
                obtain ⟨y122, hy122⟩ : ∃ y_ : List Int, y_ = (([] : List Int)) := ⟨_, rfl⟩
                replace H : (if 0 ≤ (Int.tmod x2_2 4) then (if (Int.tmod x2_2 4) ≤ (x4_2.length : Int) then ((some (x4_2.take ((Int.tmod x2_2 4) : Int).toNat : List Int)).bind fun y125 => (if y122.length + y125.length < 17592186044416 then ((some (y122 ++ y125 : List Int)).bind fun y130 => ((some (([x3_2] : List Int) : List Int)).bind fun y133 => (if y130.length + y133.length < 17592186044416 then ((some (y130 ++ y133 : List Int)).bind fun y136 => (if (Int.tmod x2_2 4) ≤ (wrap64 ((ji12) - 1)) then (if (wrap64 ((ji12) - 1)) ≤ (x4_2.length : Int) then ((some ((x4_2.take ((wrap64 ((ji12) - 1)) : Int).toNat).drop ((Int.tmod x2_2 4) : Int).toNat : List Int)).bind fun y139 => (if y136.length + y139.length < 17592186044416 then ((sumtree_run.f k2 (y136 ++ y139)).bind fun t147 => (if 0 ≤ (wrap64 ((ji12) - 1)) then (sumtree_Check.l0 k2 a0 a1 (wrap64 (Int.tdiv x2_2 4)) t147 (x4_2.drop ((wrap64 ((ji12) - 1)) : Int).toNat) (wrap64 (Int.tdiv (wrap64 ((wrap64 (x11_2 + 4)) - 1)) 4))) else (none))) else (none))) else (none)) else (none))) else (none)))) else (none))) else (none)) else (none)) = some r := by first | (rw [hy122]; with_reducible exact H) | (have H2_ := (Option.bind_some _ _).symm.trans H; rw [hy122]; with_reducible exact H2_) | (have H2_ := (Option.bind_some _ _).symm.trans H; with_reducible exact H2_) | with_reducible exact H | (rw [hy122]; exact H) | exact H
                have Ny122 := Aside0.mk hy122
                clear hy122
                obtain ⟨ji15, hji15⟩ : ∃ j_ : Int, (Int.tmod x2_2 4) = j_ := ⟨_, rfl⟩
                (try rw [hji15] at hji12_)
                replace H : (if 0 ≤ (ji15) then (if (ji15) ≤ (x4_2.length : Int) then ((some (x4_2.take ((ji15) : Int).toNat : List Int)).bind fun y125 => (if y122.length + y125.length < 17592186044416 then ((some (y122 ++ y125 : List Int)).bind fun y130 => ((some (([x3_2] : List Int) : List Int)).bind fun y133 => (if y130.length + y133.length < 17592186044416 then ((some (y130 ++ y133 : List Int)).bind fun y136 => (if (ji15) ≤ (wrap64 ((ji12) - 1)) then (if (wrap64 ((ji12) - 1)) ≤ (x4_2.length : Int) then ((some ((x4_2.take ((wrap64 ((ji12) - 1)) : Int).toNat).drop ((ji15) : Int).toNat : List Int)).bind fun y139 => (if y136.length + y139.length < 17592186044416 then ((sumtree_run.f k2 (y136 ++ y139)).bind fun t147 => (if 0 ≤ (wrap64 ((ji12) - 1)) then (sumtree_Check.l0 k2 a0 a1 (wrap64 (Int.tdiv x2_2 4)) t147 (x4_2.drop ((wrap64 ((ji12) - 1)) : Int).toNat) (wrap64 (Int.tdiv (wrap64 ((wrap64 (x11_2 + 4)) - 1)) 4))) else (none))) else (none))) else (none)) else (none))) else (none)))) else (none))) else (none)) else (none)) = some r := by first | (rw [hji15] at H; exact H) | (simp only [hji15] at H ⊢; exact H)
                by_cases c16 : 0 ≤ (ji15)
                · rw [if_pos c16] at H
                  have c16b0 := eq_true c16
                  have c16b1 : decide (0 ≤ (ji15)) = true := decide_eq_true c16
                  clear c16
                  by_cases c17 : (ji15) ≤ (x4_2.length : Int)
                  · rw [if_pos c17] at H
                    have c17b0 := eq_true c17
                    have c17b1 : decide ((ji15) ≤ (x4_2.length : Int)) = true := decide_eq_true c17
                    clear c17
                    obtain ⟨y125, hy125⟩ : ∃ y_ : List Int, y_ = (x4_2.take ((ji15) : Int).toNat) := ⟨_, rfl⟩
                    replace H : (if y122.length + y125.length < 17592186044416 then ((some (y122 ++ y125 : List Int)).bind fun y130 => ((some (([x3_2] : List Int) : List Int)).bind fun y133 => (if y130.length + y133.length < 17592186044416 then ((some (y130 ++ y133 : List Int)).bind fun y136 => (if (ji15) ≤ (wrap64 ((ji12) - 1)) then (if (wrap64 ((ji12) - 1)) ≤ (x4_2.length : Int) then ((some ((x4_2.take ((wrap64 ((ji12) - 1)) : Int).toNat).drop ((ji15) : Int).toNat : List Int)).bind fun y139 => (if y136.length + y139.length < 17592186044416 then ((sumtree_run.f k2 (y136 ++ y139)).bind fun t147 => (if 0 ≤ (wrap64 ((ji12) - 1)) then (sumtree_Check.l0 k2 a0 a1 (wrap64 (Int.tdiv x2_2 4)) t147 (x4_2.drop ((wrap64 ((ji12) - 1)) : Int).toNat) (wrap64 (Int.tdiv (wrap64 ((wrap64 (x11_2 + 4)) - 1)) 4))) else (none))) else (none))) else (none)) else (none))) else (none)))) else (none)) = some r := by first | (rw [hy125]; with_reducible exact H) | (have H2_ := (Option.bind_some _ _).symm.trans H; rw [hy125]; with_reducible exact H2_) | (have H2_ := (Option.bind_some _ _).symm.trans H; with_reducible exact H2_) | with_reducible exact H | (rw [hy125]; exact H) | exact H
                    have Ny125 := Aside0.mk hy125
                    clear hy125
                    by_cases c18 : y122.length + y125.length < 17592186044416
                    · rw [if_pos c18] at H
                      have LMc18 := Aside0.mk c18
                      clear c18
                      obtain ⟨y130, hy130⟩ : ∃ y_ : List Int, y_ = (y122 ++ y125) := ⟨_, rfl⟩
                      replace H : ((some (([x3_2] : List Int) : List Int)).bind fun y133 => (if y130.length + y133.length < 17592186044416 then ((some (y130 ++ y133 : List Int)).bind fun y136 => (if (ji15) ≤ (wrap64 ((ji12) - 1)) then (if (wrap64 ((ji12) - 1)) ≤ (x4_2.length : Int) then ((some ((x4_2.take ((wrap64 ((ji12) - 1)) : Int).toNat).drop ((ji15) : Int).toNat : List Int)).bind fun y139 => (if y136.length + y139.length < 17592186044416 then ((sumtree_run.f k2 (y136 ++ y139)).bind fun t147 => (if 0 ≤ (wrap64 ((ji12) - 1)) then (sumtree_Check.l0 k2 a0 a1 (wrap64 (Int.tdiv x2_2 4)) t147 (x4_2.drop ((wrap64 ((ji12) - 1)) : Int).toNat) (wrap64 (Int.tdiv (wrap64 ((wrap64 (x11_2 + 4)) - 1)) 4))) else (none))) else (none))) else (none)) else (none))) else (none))) = some r := by first | (rw [hy130]; with_reducible exact H) | (have H2_ := (Option.bind_some _ _).symm.trans H; rw [hy130]; with_reducible exact H2_) | (have H2_ := (Option.bind_some _ _).symm.trans H; with_reducible exact H2_) | with_reducible exact H | (rw [hy130]; exact H) | exact H
                      have Ny130 := Aside0.mk hy130
                      clear hy130
                      obtain ⟨y133, hy133⟩ : ∃ y_ : List Int, y_ = (([x3_2] : List Int)) := ⟨_, rfl⟩
                      replace H : (if y130.length + y133.length < 17592186044416 then ((some (y130 ++ y133 : List Int)).bind fun y136 => (if (ji15) ≤ (wrap64 ((ji12) - 1)) then (if (wrap64 ((ji12) - 1)) ≤ (x4_2.length : Int) then ((some ((x4_2.take ((wrap64 ((ji12) - 1)) : Int).toNat).drop ((ji15) : Int).toNat : List Int)).bind fun y139 => (if y136.length + y139.length < 17592186044416 then ((sumtree_run.f k2 (y136 ++ y139)).bind fun t147 => (if 0 ≤ (wrap64 ((ji12) - 1)) then (sumtree_Check.l0 k2 a0 a1 (wrap64 (Int.tdiv x2_2 4)) t147 (x4_2.drop ((wrap64 ((ji12) - 1)) : Int).toNat) (wrap64 (Int.tdiv (wrap64 ((wrap64 (x11_2 + 4)) - 1)) 4))) else (none))) else (none))) else (none)) else (none))) else (none)) = some r := by first | (rw [hy133]; with_reducible exact H) | (have H2_ := (Option.bind_some _ _).symm.trans H; rw [hy133]; with_reducible exact H2_) | (have H2_ := (Option.bind_some _ _).symm.trans H; with_reducible exact H2_) | with_reducible exact H | (rw [hy133]; exact H) | exact H
                      have Ny133 := Aside0.mk hy133
                      clear hy133
                      by_cases c19 : y130.length + y133.length < 17592186044416
                      · rw [if_pos c19] at H
                        have LMc19 := Aside0.mk c19
                        clear c19
                        obtain ⟨y136, hy136⟩ : ∃ y_ : List Int, y_ = (y130 ++ y133) := ⟨_, rfl⟩
                        replace H : (if (ji15) ≤ (wrap64 ((ji12) - 1)) then (if (wrap64 ((ji12) - 1)) ≤ (x4_2.length : Int) then ((some ((x4_2.take ((wrap64 ((ji12) - 1)) : Int).toNat).drop ((ji15) : Int).toNat : List Int)).bind fun y139 => (if y136.length + y139.length < 17592186044416 then ((sumtree_run.f k2 (y136 ++ y139)).bind fun t147 => (if 0 ≤ (wrap64 ((ji12) - 1)) then (sumtree_Check.l0 k2 a0 a1 (wrap64 (Int.tdiv x2_2 4)) t147 (x4_2.drop ((wrap64 ((ji12) - 1)) : Int).toNat) (wrap64 (Int.tdiv (wrap64 ((wrap64 (x11_2 + 4)) - 1)) 4))) else (none))) else (none))) else (none)) else (none)) = some r := by first | (rw [hy136]; with_reducible exact H) | (have H2_ := (Option.bind_some _ _).symm.trans H; rw [hy136]; with_reducible exact H2_) | (have H2_ := (Option.bind_some _ _).symm.trans H; with_reducible exact H2_) | with_reducible exact H | (rw [hy136]; exact H) | exact H
                        have Ny136 := Aside0.mk hy136
                        clear hy136
                        have c20b0 := eq_true (of_decide_eq_true (by first | (with_reducible assumption) | assumption) : 0 ≤ (ji15))
                        by_cases c21 : (ji15) ≤ (wrap64 ((ji12) - 1))
                        · rw [if_pos c21] at H
                          have c21b0 := eq_true c21
                          have c21b1 : decide ((ji15) ≤ (wrap64 ((ji12) - 1))) = true := decide_eq_true c21
                          clear c21
                          by_cases c22 : (wrap64 ((ji12) - 1)) ≤ (x4_2.length : Int)
                          · rw [if_pos c22] at H
                            have c22b0 := eq_true c22
                            have c22b1 : decide ((wrap64 ((ji12) - 1)) ≤ (x4_2.length : Int)) = true := decide_eq_true c22
                            clear c22
                            obtain ⟨y139, hy139⟩ : ∃ y_ : List Int, y_ = ((x4_2.take ((wrap64 ((ji12) - 1)) : Int).toNat).drop ((ji15) : Int).toNat) := ⟨_, rfl⟩
                            replace H : (if y136.length + y139.length < 17592186044416 then ((sumtree_run.f k2 (y136 ++ y139)).bind fun t147 => (if 0 ≤ (wrap64 ((ji12) - 1)) then (sumtree_Check.l0 k2 a0 a1 (wrap64 (Int.tdiv x2_2 4)) t147 (x4_2.drop ((wrap64 ((ji12) - 1)) : Int).toNat) (wrap64 (Int.tdiv (wrap64 ((wrap64 (x11_2 + 4)) - 1)) 4))) else (none))) else (none)) = some r := by first | (rw [hy139]; with_reducible exact H) | (have H2_ := (Option.bind_some _ _).symm.trans H; rw [hy139]; with_reducible exact H2_) | (have H2_ := (Option.bind_some _ _).symm.trans H; with_reducible exact H2_) | with_reducible exact H | (rw [hy139]; exact H) | exact H
                            have Ny139 := Aside0.mk hy139
                            clear hy139
                            by_cases c23 : y136.length + y139.length < 17592186044416
                            · rw [if_pos c23] at H
                              have LMc23 := Aside0.mk c23
                              clear c23
                              obtain ⟨y144, hy144⟩ : ∃ y_ : List Int, y_ = (y136 ++ y139) := ⟨_, rfl⟩
                              replace H : ((sumtree_run.f k2 y144).bind fun t147 => (if 0 ≤ (wrap64 ((ji12) - 1)) then (sumtree_Check.l0 k2 a0 a1 (wrap64 (Int.tdiv x2_2 4)) t147 (x4_2.drop ((wrap64 ((ji12) - 1)) : Int).toNat) (wrap64 (Int.tdiv (wrap64 ((wrap64 (x11_2 + 4)) - 1)) 4))) else (none))) = some r := by first | (rw [hy144]; with_reducible exact H) | (have H2_ := (Option.bind_some _ _).symm.trans H; rw [hy144]; with_reducible exact H2_) | (have H2_ := (Option.bind_some _ _).symm.trans H; with_reducible exact H2_) | with_reducible exact H | (rw [hy144]; exact H) | exact H
                              have Ny144 := Aside0.mk hy144
                              clear hy144
                              replace H := Option.bind_eq_some_iff.mp H
                              obtain ⟨t147, A240, H⟩ := H
                              replace H : (if 0 ≤ (wrap64 ((ji12) - 1)) then (sumtree_Check.l0 k2 a0 a1 (wrap64 (Int.tdiv x2_2 4)) t147 (x4_2.drop ((wrap64 ((ji12) - 1)) : Int).toNat) (wrap64 (Int.tdiv (wrap64 ((wrap64 (x11_2 + 4)) - 1)) 4))) else (none)) = some r := H
                              have A24 := Aside0.mk A240
                              clear A240
                              obtain ⟨ji25, hji25⟩ : ∃ j_ : Int, (wrap64 ((ji12) - 1)) = j_ := ⟨_, rfl⟩
                              replace H : (if 0 ≤ (ji25) then (sumtree_Check.l0 k2 a0 a1 (wrap64 (Int.tdiv x2_2 4)) t147 (x4_2.drop ((ji25) : Int).toNat) (wrap64 (Int.tdiv (wrap64 ((wrap64 (x11_2 + 4)) - 1)) 4))) else (none)) = some r := by first | (rw [hji25] at H; exact H) | (simp only [hji25] at H ⊢; exact H)
                              (try rw [hji25] at c13b0)
                              (try rw [hji25] at c21b0)
                              (try rw [hji25] at c21b1)
                              (try rw [hji25] at c22b0)
                              (try rw [hji25] at c22b1)
                              (try rw [hji25] at Ny139)
                              (try rw [hji25] at Ny139)
                              (try rw [hji25] at A24)
                              have hji25w : (IntKind.i64.wrap ((ji12) - 1)) = ji25 := (i64_w _).trans hji25
                              by_cases c26 : 0 ≤ (ji25)
                              · rw [if_pos c26] at H
                                have c26b0 := eq_true c26
                                have c26b1 : decide (0 ≤ (ji25)) = true := decide_eq_true c26
                                clear c26
                                have c27b0 := eq_true (of_decide_eq_true (by first | (with_reducible assumption) | assumption) : (ji25) ≤ (x4_2.length : Int))
                                obtain ⟨y148, hy148⟩ : ∃ y_ : List Int, y_ = (x4_2.drop ((ji25) : Int).toNat) := ⟨_, rfl⟩
                                replace H : (sumtree_Check.l0 k2 a0 a1 (wrap64 (Int.tdiv x2_2 4)) t147 y148 (wrap64 (Int.tdiv (wrap64 ((wrap64 (x11_2 + 4)) - 1)) 4))) = some r := by first | (rw [hy148]; with_reducible exact H) | (have H2_ := (Option.bind_some _ _).symm.trans H; rw [hy148]; with_reducible exact H2_) | (have H2_ := (Option.bind_some _ _).symm.trans H; with_reducible exact H2_) | with_reducible exact H | (rw [hy148]; exact H) | exact H
                                have Ny148 := Aside0.mk hy148
                                clear hy148
                                have H' := Aside0.mk H
                                clear H
                                obtain ⟨Ao28, co28, eo28⟩ := Kd.V_slice HO_4.out
                                subst eo28
                                try go_wp2
                                have n0_ := Aside0.mk (Kd.V_drew HO_4.out)
                                have n1_ := Aside0.mk (below_drew1 HB.out)
                                clear HO_4
                                clear HB
                                have HO_4 := n0_
                                have HB := n1_
                                clear n0_ n1_
                                have q30 : ((ji15) : Int) ≤ ((x4_2.length : Int) : Int) := of_decide_eq_true (by first | (with_reducible assumption) | assumption)
                                obtain ⟨i030, hi030, _, hsz30, _⟩ := info_parts info34
                                have hroom30 : x4_2.length ≤ co28 := (Kd.V_reads' HO_4.out).2.1
                                have hC30 : Kd.F (Kd.int .u64) _ _ Ao28 x4_2.length x4_2 := (Kd.V_at (base := w.heap.size) HO_4.out).2.2
                                have hcut30 := cut_to (P := Try.prog) 22 34 .i64 Try.underlying22 hi030 Ao28 x4_2.length co28 (ji15) (of_decide_eq_true (by first | (with_reducible assumption) | assumption)) q30 hroom30
                                have hr30 := Kd.F_take (m := ((ji15) : Int).toNat) hC30 (by omega)
                                have hy30 : y125.length = ((ji15) : Int).toNat := (by rw [Ny125.out, List.length_take]; omega)
                                rw [← Ny125.out] at hr30
                                rw [← hy30] at hcut30
                                have HO129 := Aside0.mk (show Kd.V (Kd.int .u64) 34 _ w.heap.size _ (.slice Ao28 y125.length co28) y125 from Kd.V_mk (by omega) hr30)
                                have HC129 := Aside0.mk (show y125.length ≤ co28 from by omega)
                                clear hr30 hC30 hroom30 hi030 hsz30
                                have KY30 := Aside0.mk hy30
                                clear hy30
                                replace q30 := eq_true q30
                                have q31 : ((ji25) : Int) ≤ ((x4_2.length : Int) : Int) := of_decide_eq_true (by first | (with_reducible assumption) | assumption)
                                obtain ⟨i031, hi031, _, hsz31, _⟩ := info_parts info34
                                have hroom31 : x4_2.length ≤ co28 := (Kd.V_reads' HO_4.out).2.1
                                have hC31 : Kd.F (Kd.int .u64) _ _ Ao28 x4_2.length x4_2 := (Kd.V_at (base := w.heap.size) HO_4.out).2.2
                                have ql31 : ((ji15) : Int) ≤ ((ji25) : Int) := of_decide_eq_true (by first | (with_reducible assumption) | assumption)
                                have q031 : (0 : Int) ≤ ((ji15) : Int) := of_decide_eq_true (by first | (with_reducible assumption) | assumption)
                                have hcut31 := cut_mid (P := Try.prog) 22 34 .i64 .i64 Try.underlying22 hi031 1 hsz31 Ao28 x4_2.length co28 (ji15) (ji25) q031 ql31 q31 hroom31
                                have hr31 := Kd.F_mid (lo := ((ji15) : Int).toNat) (hi := ((ji25) : Int).toNat) (c := co28) hC31 (by omega) (by omega) hroom31
                                obtain ⟨A31, hA31⟩ : ∃ A1, A1 = (if co28 = ((ji15) : Int).toNat then Ao28 else (Ao28 : Option Addr).map (·.add (((ji15) : Int).toNat * 1))) := ⟨_, rfl⟩
                                obtain ⟨c31, hc31⟩ : ∃ c1, c1 = co28 - ((ji15) : Int).toNat := ⟨_, rfl⟩
                                have hy31 : y139.length = ((ji25) : Int).toNat - ((ji15) : Int).toNat := (by rw [Ny139.out, List.length_drop, List.length_take] <;> omega)
                                rw [show ((x4_2).take ((ji25) : Int).toNat).drop ((ji15) : Int).toNat = y139 from Ny139.out.symm] at hr31
                                replace hr31 : Kd.F (Kd.int .u64) _ _ A31 y139.length y139 := (by rw [hA31]; exact hr31)
                                rw [← hy31, ← hA31, ← hc31] at hcut31
                                have HO143 := Aside0.mk (show Kd.V (Kd.int .u64) 34 _ w.heap.size _ (.slice A31 y139.length c31) y139 from Kd.V_mk (by rw [hy31, hc31]; exact Nat.sub_le_sub_right (Nat.le_trans (by omega) hroom31) _) hr31)
                                have HC143 := Aside0.mk (show y139.length ≤ c31 from by rw [hy31, hc31]; exact Nat.sub_le_sub_right (Nat.le_trans (by omega) hroom31) _)
                                clear hr31 hC31 hroom31 hi031 hsz31 hc31
                                have KY31 := Aside0.mk hy31
                                have KA31 := Aside0.mk hA31
                                clear hy31 hA31
                                replace q31 := eq_true q31
                                refine start_ (n := 15) (S := fun w' => True) (ds := []) #[false, false, false, false, false, false, false, false, false, false, false, false, false, false, false] (by kernel_rfl) rfl rfl trivial (fun hHeld => ?_); refine with_tabW sumtree_Check.tab10 sumtree_Check.bits10 (fun HT_ HW_ => ?_)
                                generalize wr.drew = w29 at HO_4 HB HO129 HO143 hHeld ⊢
                                refine pure_ (i := 1) (N := some 51) (v := ?_) (a' := ?_) #[false, true, false, false, false, false, false, false, false, false, false, false, false, false, false] rfl rfl (any_of HT_.out (by kernel_rfl)) (fun _ _ _ h => h) (Or.inl ⟨by rfl, ?_⟩) ?_ ?_
                                rotate_left
                                · intro w'
                                  go_simp
                                  with_reducible rfl
                                rotate_left
                                · simp only [Act.put, List.setIfInBounds_toArray, List.set_cons_zero, List.set_cons_succ, i64_w, i32_w]
                                  rfl
                                refine pure_ (i := 2) (N := some 52) (v := ?_) (a' := ?_) #[false, true, true, false, false, false, false, false, false, false, false, false, false, false, false] rfl rfl (any_of HT_.out (by kernel_rfl)) (fun _ _ _ h => h) (Or.inl ⟨by rfl, ?_⟩) ?_ ?_
                                rotate_left
                                · intro w'
                                  go_simp
                                  with_reducible rfl
                                rotate_left
                                · simp only [Act.put, List.setIfInBounds_toArray, List.set_cons_zero, List.set_cons_succ, i64_w, i32_w]
                                  rfl
                                refine pure_ (i := 3) (N := some 53) (v := ?_) (a' := ?_) #[false, true, true, true, false, false, false, false, false, false, false, false, false, false, false] rfl rfl (any_of HT_.out (by kernel_rfl)) (fun _ _ _ h => h) (Or.inl ⟨by rfl, ?_⟩) ?_ ?_
                                rotate_left
                                · intro w'
                                  go_simp
                                  with_reducible rfl
                                rotate_left
                                · simp only [Act.put, List.setIfInBounds_toArray, List.set_cons_zero, List.set_cons_succ, i64_w, i32_w]
                                  rfl
                                refine pure_ (i := 5) (N := some 55) (v := ?_) (a' := ?_) #[false, true, true, true, false, true, false, false, false, false, false, false, false, false, false] rfl rfl (any_of HT_.out (by kernel_rfl)) (fun _ _ _ h => h) (Or.inl ⟨by rfl, ?_⟩) ?_ ?_
                                rotate_left
                                · intro w'
                                  go_simp
                                  with_reducible rfl
                                rotate_left
                                · simp only [Act.put, List.setIfInBounds_toArray, List.set_cons_zero, List.set_cons_succ, i64_w, i32_w]
                                  rfl
                                refine pure_ (i := 8) (N := some 58) (v := ?_) (a' := ?_) #[false, true, true, true, false, true, false, false, true, false, false, false, false, false, false] rfl rfl (any_of HT_.out (by kernel_rfl)) (fun _ _ _ h => h) (Or.inl ⟨by rfl, ?_⟩) ?_ ?_
                                rotate_left
                                · intro w'
                                  go_simp
                                  with_reducible rfl
                                rotate_left
                                · simp only [Act.put, List.setIfInBounds_toArray, List.set_cons_zero, List.set_cons_succ, i64_w, i32_w]
                                  rfl
                                refine pure_ (i := 9) (N := some 59) (v := ?_) (a' := ?_) #[false, true, true, true, false, true, false, false, true, true, false, false, false, false, false] rfl rfl (any_of HT_.out (by kernel_rfl)) (fun _ _ _ h => h) (Or.inl ⟨by rfl, ?_⟩) ?_ ?_
                                rotate_left
                                · intro w'
                                  go_simp
                                  with_reducible rfl
                                rotate_left
                                · simp only [Act.put, List.setIfInBounds_toArray, List.set_cons_zero, List.set_cons_succ, i64_w, i32_w]
                                  rfl
                                refine pure_ (i := 10) (N := some 60) (v := ?_) (a' := ?_) #[false, true, true, true, false, true, false, false, true, true, true, false, false, false, false] rfl rfl (any_of HT_.out (by kernel_rfl)) (fun _ _ _ h => h) (Or.inl ⟨by rfl, ?_⟩) ?_ ?_
                                rotate_left
                                · intro w'
                                  go_simp
                                  with_reducible rfl
                                rotate_left
                                · simp only [Act.put, List.setIfInBounds_toArray, List.set_cons_zero, List.set_cons_succ, i64_w, i32_w]
                                  rfl
                                refine pure_ (i := 11) (N := some 61) (v := ?_) (a' := ?_) #[false, true, true, true, false, true, false, false, true, true, true, true, false, false, false] rfl rfl (any_of HT_.out (by kernel_rfl)) (fun _ _ _ h => h) (Or.inl ⟨by rfl, ?_⟩) ?_ ?_
                                rotate_left
                                · intro w'
                                  go_simp
                                  with_reducible rfl
                                rotate_left
                                · simp only [Act.put, List.setIfInBounds_toArray, List.set_cons_zero, List.set_cons_succ, i64_w, i32_w]
                                  rfl
                                refine pure_ (i := 12) (N := some 62) (v := ?_) (a' := ?_) #[false, true, true, true, false, true, false, false, true, true, true, true, true, false, false] rfl rfl (any_of HT_.out (by kernel_rfl)) (fun _ _ _ h => h) (Or.inl ⟨by rfl, ?_⟩) ?_ ?_
                                rotate_left
                                · intro w'
                                  go_simp
                                  with_reducible rfl
                                rotate_left
                                · simp only [Act.put, List.setIfInBounds_toArray, List.set_cons_zero, List.set_cons_succ, i64_w, i32_w]
                                  rfl
                                refine join_ (σ := Value × Value × Value) 3 #[true, true, true, true, true, true, true, false, true, true, true, true, true, false, false] (fun s_ => [(50, s_.1), (54, s_.2.1), (56, s_.2.2)]) (fun s_ w' => (Kd.V (Kd.int .u64) 34 w' w.heap.size (fun k_ => (P4_ k_ ∨ w.heap.size ≤ k_) ∧ some k_ ≠ (s_.2.1 : Value).ownBlock ∧ some k_ ≠ (s_.2.2 : Value).ownBlock) (.slice Ao28 y125.length co28) y125) ∧ (Kd.R (Kd.int .u64) 34 w' w.heap.size (fun k_ => (w.heap.size ≤ k_) ∧ some k_ ≠ (s_.2.2 : Value).ownBlock) s_.2.1 y130) ∧ (Kd.R (Kd.int .u64) 34 w' w.heap.size (fun k_ => (w.heap.size ≤ k_) ∧ some k_ ≠ (s_.2.1 : Value).ownBlock) s_.2.2 y133) ∧ (Kd.V (Kd.int .u64) 34 w' w.heap.size (fun k_ => (P4_ k_ ∨ w.heap.size ≤ k_) ∧ some k_ ≠ (s_.2.1 : Value).ownBlock ∧ some k_ ≠ (s_.2.2 : Value).ownBlock) (.slice A31 y139.length c31) y139) ∧ (Kd.V (Kd.int .u64) 34 w' w.heap.size (fun k_ => (P4_ k_ ∨ w.heap.size ≤ k_) ∧ some k_ ≠ (s_.2.1 : Value).ownBlock ∧ some k_ ≠ (s_.2.2 : Value).ownBlock) (.slice Ao28 x4_2.length co28) x4_2) ∧ (Below w.heap.size w w')) ?_ ?_
                                rotate_left
                                · intro hCont
                                  refine two_ (i := 0) (j := 6) (Ni := some 50) (Nj := some 56) #[true, true, true, true, false, true, false, false, true, true, true, true, true, false, false] #[false, true, true, true, false, true, true, false, true, true, true, true, true, false, false] rfl rfl rfl rfl (two_of HT_.out (by kernel_rfl)) (by decide) (by decide) (fun K hK => ?_) (fun K hK => ?_)
                                  · skip
                                    refine Kd.R_lit_step (Kd.int .u64) _ 34 ?hg (N := 50) ?hd (xs := ([] : List Int)) (inner := []) (ok := fun _ => True) (okp := fun _ => True) ?hr ?hp (fun _ hk => hk) trivial (Below.refl _ _) (Nat.le_refl _) (by simp) ?_; (case hd => rfl); (case hg => rfl); (case hr => first | (go_simp; done) | (go_simp; rfl)); (case hp => exact (Reps.none _ _))
                                    intro v123 w32 ho33 hb hg_ hnew_
                                    clear hg_ hnew_
                                    (first | rw [← Ny122.out] at ho33 | (simp only [Int.reduceToNat] at ho33; rw [← Ny122.out] at ho33))
                                    have n0_ := Aside0.mk (Kd.V_elder' (by (with_reducible repeat (first | apply Kd.V_alloc | apply Kd.V_drewN | apply Kd.V_drew)); exact HO_4.out) (Kd.R_base ho33) hb)
                                    have n1_ := Aside0.mk (Kd.V_elder' (by (with_reducible repeat (first | apply Kd.V_alloc | apply Kd.V_drewN | apply Kd.V_drew)); exact HO129.out) (Kd.R_base ho33) hb)
                                    have n2_ := Aside0.mk (Kd.V_elder' (by (with_reducible repeat (first | apply Kd.V_alloc | apply Kd.V_drewN | apply Kd.V_drew)); exact HO143.out) (Kd.R_base ho33) hb)
                                    have n3_ := Aside0.mk (Kd.R_lower (Kd.R_newM (M := fun k_ => (w.heap.size ≤ k_)) ho33 (below_size (by repeat (first | (with_reducible first | exact HB.out | apply below_alloc | apply pw_below_drewN | apply below_drew1) | exact HB.out))) (fun k_ h_ => h_)) (below_size (by repeat (first | (with_reducible first | exact HB.out | apply below_alloc | apply pw_below_drewN | apply below_drew1) | exact HB.out))))
                                    have n4_ := Aside0.mk (below_step (by repeat (first | (with_reducible first | exact HB.out | apply below_alloc | apply pw_below_drewN | apply below_drew1) | exact HB.out)) hb)
                                    clear HO_4
                                    clear HO129
                                    clear HO143
                                    clear HB
                                    have HO_4 := n0_
                                    have HO129 := n1_
                                    have HO143 := n2_
                                    have HO124 := n3_
                                    have HB := n4_
                                    clear n0_ n1_ n2_ n3_ n4_
                                    clear hb ho33
                                    refine hK.out _ _ trivial (fun hHeld => ?_)
                                    clear hK K
                                    refine norm_ (a' := ?_) ?_ ?_
                                    rotate_left
                                    · show Act.put _ (some 50) _ = _
                                      simp only [Act.put, List.setIfInBounds_toArray, List.set_cons_zero, List.set_cons_succ, i64_w, i32_w]
                                      rfl
                                    refine two_ (i := 4) (j := 6) (Ni := some 54) (Nj := some 56) #[true, true, true, true, true, true, false, false, true, true, true, true, true, false, false] #[true, true, true, true, false, true, true, false, true, true, true, true, true, false, false] rfl rfl rfl rfl (two_of HT_.out (by kernel_rfl)) (by decide) (by decide) (fun K hK => ?_) (fun K hK => ?_)
                                    · skip
                                      refine Kd.R_append_rows_step (Kd.int .u64) (w0 := w) w.heap.size (by rfl) (.tmp 50) (.tmp 53) 22 34 (.int .u64 0) 8 rfl Try.underlying22 info34 rfl (by decide) (by omega) v123 y122 y125 _ _ _ (fun k_ => (w.heap.size ≤ k_)) (fun _ => False) rfl rfl ?aO ?aR (fun _ _ h => h) (fun _ h => h.elim) ?aF ?aB ?aS ?aL ?_
                                      (case aR => repeat (first | exact (Kd.V_reads' HO129.out).2.2 | (with_reducible refine Kd.C_alloc ?_ _) | (with_reducible refine Kd.C_drewN ?_ _) | (with_reducible refine Kd.C_drew ?_)))
                                      (case aB => exact (by repeat (first | (with_reducible first | exact HB.out | apply below_alloc | apply pw_below_drewN | apply below_drew1) | exact HB.out)))
                                      (case aF => exact (fun k_ hk => (Nat.le_trans (below_size (by repeat (first | (with_reducible first | exact HB.out | apply below_alloc | apply pw_below_drewN | apply below_drew1) | exact HB.out))) hk)))
                                      (case aO => exact (by (with_reducible repeat (first | apply Kd.R_alloc | apply Kd.R_drewN | apply Kd.R_drew)); exact Kd.R_mono HO124.out (fun _ hk => hk.1)))
                                      (case aS => exact (below_size (by repeat (first | (with_reducible first | exact HB.out | apply below_alloc | apply pw_below_drewN | apply below_drew1) | exact HB.out))))
                                      (case aL => have := LMc18.out; omega)
                                      intro v131 w34 ho hb hg hat
                                      rw [← Ny130.out] at ho
                                      have n0_ := Aside0.mk (Kd.V_afterv (ok := (fun k_ => (P4_ k_ ∨ w.heap.size ≤ k_))) (by (with_reducible repeat (first | apply Kd.V_alloc | apply Kd.V_drewN | apply Kd.V_drew)); exact HO_4.out) hg hat)
                                      have n1_ := Aside0.mk (Kd.V_afterv (ok := (fun k_ => (P4_ k_ ∨ w.heap.size ≤ k_))) (by (with_reducible repeat (first | apply Kd.V_alloc | apply Kd.V_drewN | apply Kd.V_drew)); exact HO129.out) hg hat)
                                      have n2_ := Aside0.mk (Kd.V_afterv (ok := (fun k_ => (P4_ k_ ∨ w.heap.size ≤ k_))) (by (with_reducible repeat (first | apply Kd.V_alloc | apply Kd.V_drewN | apply Kd.V_drew)); exact HO143.out) hg hat)
                                      have n3_ := Aside0.mk (hb)
                                      have n4_ := Aside0.mk (ho)
                                      clear HO_4
                                      clear HO129
                                      clear HO143
                                      clear HB
                                      clear HO124
                                      have HO_4 := n0_
                                      have HO129 := n1_
                                      have HO143 := n2_
                                      have HB := n3_
                                      have HO132 := n4_
                                      clear n0_ n1_ n2_ n3_ n4_
                                      clear ho hb hg hat
                                      refine hK.out _ _ trivial (fun hHeld => ?_)
                                      clear hK K
                                      refine norm_ (a' := ?_) ?_ ?_
                                      rotate_left
                                      · show Act.put _ (some 54) _ = _
                                        simp only [Act.put, List.setIfInBounds_toArray, List.set_cons_zero, List.set_cons_succ, i64_w, i32_w]
                                        rfl
                                      refine one_ (i := 6) (N := some 56) #[true, true, true, true, true, true, true, false, true, true, true, true, true, false, false] rfl rfl (one_of HT_.out (by kernel_rfl)) (by decide) (fun K hK => ?_)
                                      refine Kd.R_lit_step (Kd.int .u64) _ 34 ?hg (N := 56) ?hd (xs := ([x3_2] : List Int)) (inner := [.int .u64 x3_2]) (ok := fun _ => True) (okp := fun _ => True) ?hr ?hp (fun _ hk => hk) trivial (Below.refl _ _) (Nat.le_refl _) (by simp) ?_; (case hd => rfl); (case hg => rfl); (case hr => first | (go_simp; done) | (go_simp; rfl)); (case hp => exact (Reps.one (show Kd.M (Kd.int .u64) _ _ _ x3_2 [.int .u64 x3_2] from rfl) (Reps.none _ _)))
                                      intro v134 w35 ho36 hb hg_ hnew_
                                      clear hg_ hnew_
                                      (first | rw [← Ny133.out] at ho36 | (simp only [Int.reduceToNat] at ho36; rw [← Ny133.out] at ho36))
                                      have n0_ := Aside0.mk (Kd.V_elder' (by (with_reducible repeat (first | apply Kd.V_alloc | apply Kd.V_drewN | apply Kd.V_drew)); exact HO_4.out) (Kd.R_base ho36) hb)
                                      have n1_ := Aside0.mk (Kd.V_elder' (by (with_reducible repeat (first | apply Kd.V_alloc | apply Kd.V_drewN | apply Kd.V_drew)); exact HO129.out) (Kd.R_base ho36) hb)
                                      have n2_ := Aside0.mk (Kd.V_elder' (by (with_reducible repeat (first | apply Kd.V_alloc | apply Kd.V_drewN | apply Kd.V_drew)); exact HO143.out) (Kd.R_base ho36) hb)
                                      have n3_ := Aside0.mk (Kd.R_elder' (by (with_reducible repeat (first | apply Kd.R_alloc | apply Kd.R_drewN | apply Kd.R_drew)); exact HO132.out) (Kd.R_base ho36) hb)
                                      have n4_ := Aside0.mk (Kd.R_lower (Kd.R_new' (Kd.R_newM (M := fun k_ => (w.heap.size ≤ k_)) ho36 (below_size (by repeat (first | (with_reducible first | exact HB.out | apply below_alloc | apply pw_below_drewN | apply below_drew1) | exact HB.out))) (fun k_ h_ => h_)) (Kd.R_lt (by (with_reducible repeat (first | apply Kd.R_alloc | apply Kd.R_drewN | apply Kd.R_drew)); exact HO132.out))) (below_size (by repeat (first | (with_reducible first | exact HB.out | apply below_alloc | apply pw_below_drewN | apply below_drew1) | exact HB.out))))
                                      have n5_ := Aside0.mk (below_step (by repeat (first | (with_reducible first | exact HB.out | apply below_alloc | apply pw_below_drewN | apply below_drew1) | exact HB.out)) hb)
                                      clear HO_4
                                      clear HO129
                                      clear HO143
                                      clear HO132
                                      clear HB
                                      have HO_4 := n0_
                                      have HO129 := n1_
                                      have HO143 := n2_
                                      have HO132 := n3_
                                      have HO135 := n4_
                                      have HB := n5_
                                      clear n0_ n1_ n2_ n3_ n4_ n5_
                                      clear hb ho36
                                      refine hK.out _ _ trivial (fun hHeld => ?_)
                                      clear hK K
                                      refine norm_ (a' := ?_) ?_ ?_
                                      rotate_left
                                      · show Act.put _ (some 56) _ = _
                                        simp only [Act.put, List.setIfInBounds_toArray, List.set_cons_zero, List.set_cons_succ, i64_w, i32_w]
                                        rfl
                                      exact norm_ (by simp only [putAll, Act.put, List.setIfInBounds_toArray, List.set_cons_zero, List.set_cons_succ]) (hCont (v123, v131, v134) _ ⟨(by (with_reducible repeat (first | apply Kd.V_alloc | apply Kd.V_drewN | apply Kd.V_drew)); exact Kd.V_mono HO129.out (fun _ hk => ⟨hk.1.1, ⟨hk.1.2, hk.2⟩⟩)), (by (with_reducible repeat (first | apply Kd.R_alloc | apply Kd.R_drewN | apply Kd.R_drew)); exact HO132.out), (by (with_reducible repeat (first | apply Kd.R_alloc | apply Kd.R_drewN | apply Kd.R_drew)); exact Kd.R_mono HO135.out (fun _ hk => ⟨hk.1.1, hk.2⟩)), (by (with_reducible repeat (first | apply Kd.V_alloc | apply Kd.V_drewN | apply Kd.V_drew)); exact Kd.V_mono HO143.out (fun _ hk => ⟨hk.1.1, ⟨hk.1.2, hk.2⟩⟩)), (by (with_reducible repeat (first | apply Kd.V_alloc | apply Kd.V_drewN | apply Kd.V_drew)); exact Kd.V_mono HO_4.out (fun _ hk => ⟨hk.1.1, ⟨hk.1.2, hk.2⟩⟩)), (by repeat (first | (with_reducible first | exact HB.out | apply below_alloc | apply pw_below_drewN | apply below_drew1) | exact HB.out))⟩)
                                    · skip
                                      refine Kd.R_lit_step (Kd.int .u64) _ 34 ?hg (N := 56) ?hd (xs := ([x3_2] : List Int)) (inner := [.int .u64 x3_2]) (ok := fun _ => True) (okp := fun _ => True) ?hr ?hp (fun _ hk => hk) trivial (Below.refl _ _) (Nat.le_refl _) (by simp) ?_; (case hd => rfl); (case hg => rfl); (case hr => first | (go_simp; done) | (go_simp; rfl)); (case hp => exact (Reps.one (show Kd.M (Kd.int .u64) _ _ _ x3_2 [.int .u64 x3_2] from rfl) (Reps.none _ _)))
                                      intro v134 w34 ho35 hb hg_ hnew_
                                      clear hg_ hnew_
                                      (first | rw [← Ny133.out] at ho35 | (simp only [Int.reduceToNat] at ho35; rw [← Ny133.out] at ho35))
                                      have n0_ := Aside0.mk (Kd.V_elder' (by (with_reducible repeat (first | apply Kd.V_alloc | apply Kd.V_drewN | apply Kd.V_drew)); exact HO_4.out) (Kd.R_base ho35) hb)
                                      have n1_ := Aside0.mk (Kd.V_elder' (by (with_reducible repeat (first | apply Kd.V_alloc | apply Kd.V_drewN | apply Kd.V_drew)); exact HO129.out) (Kd.R_base ho35) hb)
                                      have n2_ := Aside0.mk (Kd.V_elder' (by (with_reducible repeat (first | apply Kd.V_alloc | apply Kd.V_drewN | apply Kd.V_drew)); exact HO143.out) (Kd.R_base ho35) hb)
                                      have n3_ := Aside0.mk (Kd.R_elder' (by (with_reducible repeat (first | apply Kd.R_alloc | apply Kd.R_drewN | apply Kd.R_drew)); exact HO124.out) (Kd.R_base ho35) hb)
                                      have n4_ := Aside0.mk (Kd.R_lower (Kd.R_new' (Kd.R_newM (M := fun k_ => (w.heap.size ≤ k_)) ho35 (below_size (by repeat (first | (with_reducible first | exact HB.out | apply below_alloc | apply pw_below_drewN | apply below_drew1) | exact HB.out))) (fun k_ h_ => h_)) (Kd.R_lt (by (with_reducible repeat (first | apply Kd.R_alloc | apply Kd.R_drewN | apply Kd.R_drew)); exact HO124.out))) (below_size (by repeat (first | (with_reducible first | exact HB.out | apply below_alloc | apply pw_below_drewN | apply below_drew1) | exact HB.out))))
                                      have n5_ := Aside0.mk (below_step (by repeat (first | (with_reducible first | exact HB.out | apply below_alloc | apply pw_below_drewN | apply below_drew1) | exact HB.out)) hb)
                                      clear HO_4
                                      clear HO129
                                      clear HO143
                                      clear HO124
                                      clear HB
                                      have HO_4 := n0_
                                      have HO129 := n1_
                                      have HO143 := n2_
                                      have HO124 := n3_
                                      have HO135 := n4_
                                      have HB := n5_
                                      clear n0_ n1_ n2_ n3_ n4_ n5_
                                      clear hb ho35
                                      refine hK.out _ _ trivial (fun hHeld => ?_)
                                      clear hK K
                                      refine norm_ (a' := ?_) ?_ ?_
                                      rotate_left
                                      · show Act.put _ (some 56) _ = _
                                        simp only [Act.put, List.setIfInBounds_toArray, List.set_cons_zero, List.set_cons_succ, i64_w, i32_w]
                                        rfl
                                      refine one_ (i := 4) (N := some 54) #[true, true, true, true, true, true, true, false, true, true, true, true, true, false, false] rfl rfl (one_of HT_.out (by kernel_rfl)) (by decide) (fun K hK => ?_)
                                      refine Kd.R_append_rows_step (Kd.int .u64) (w0 := w) w.heap.size (by rfl) (.tmp 50) (.tmp 53) 22 34 (.int .u64 0) 8 rfl Try.underlying22 info34 rfl (by decide) (by omega) v123 y122 y125 _ _ _ (fun k_ => (w.heap.size ≤ k_) ∧ some k_ ≠ (v134 : Value).ownBlock) (fun _ => False) rfl rfl ?aO ?aR (fun _ _ h => h) (fun _ h => h.elim) ?aF ?aB ?aS ?aL ?_
                                      (case aR => repeat (first | exact (Kd.V_reads' HO129.out).2.2 | (with_reducible refine Kd.C_alloc ?_ _) | (with_reducible refine Kd.C_drewN ?_ _) | (with_reducible refine Kd.C_drew ?_)))
                                      (case aB => exact (by repeat (first | (with_reducible first | exact HB.out | apply below_alloc | apply pw_below_drewN | apply below_drew1) | exact HB.out)))
                                      (case aF => exact (fun k_ hk => ⟨(Nat.le_trans (below_size (by repeat (first | (with_reducible first | exact HB.out | apply below_alloc | apply pw_below_drewN | apply below_drew1) | exact HB.out))) hk), Kd.fresh' (Kd.R_lt (by (with_reducible repeat (first | apply Kd.R_alloc | apply Kd.R_drewN | apply Kd.R_drew)); exact HO135.out)) k_ hk⟩))
                                      (case aO => exact (by (with_reducible repeat (first | apply Kd.R_alloc | apply Kd.R_drewN | apply Kd.R_drew)); exact Kd.R_mono HO124.out (fun _ hk => ⟨hk.1.1, hk.2⟩)))
                                      (case aS => exact (below_size (by repeat (first | (with_reducible first | exact HB.out | apply below_alloc | apply pw_below_drewN | apply below_drew1) | exact HB.out))))
                                      (case aL => have := LMc18.out; omega)
                                      intro v131 w36 ho hb hg hat
                                      rw [← Ny130.out] at ho
                                      have n0_ := Aside0.mk (Kd.V_afterv (ok := (fun k_ => (P4_ k_ ∨ w.heap.size ≤ k_) ∧ some k_ ≠ (v134 : Value).ownBlock)) (by (with_reducible repeat (first | apply Kd.V_alloc | apply Kd.V_drewN | apply Kd.V_drew)); exact Kd.V_mono HO_4.out (fun _ hk => ⟨⟨hk.1.1, hk.2⟩, hk.1.2⟩)) hg hat)
                                      have n1_ := Aside0.mk (Kd.V_afterv (ok := (fun k_ => (P4_ k_ ∨ w.heap.size ≤ k_) ∧ some k_ ≠ (v134 : Value).ownBlock)) (by (with_reducible repeat (first | apply Kd.V_alloc | apply Kd.V_drewN | apply Kd.V_drew)); exact Kd.V_mono HO129.out (fun _ hk => ⟨⟨hk.1.1, hk.2⟩, hk.1.2⟩)) hg hat)
                                      have n2_ := Aside0.mk (Kd.V_afterv (ok := (fun k_ => (P4_ k_ ∨ w.heap.size ≤ k_) ∧ some k_ ≠ (v134 : Value).ownBlock)) (by (with_reducible repeat (first | apply Kd.V_alloc | apply Kd.V_drewN | apply Kd.V_drew)); exact Kd.V_mono HO143.out (fun _ hk => ⟨⟨hk.1.1, hk.2⟩, hk.1.2⟩)) hg hat)
                                      have n3_ := Aside0.mk (Kd.R_after (ok := (fun k_ => (w.heap.size ≤ k_))) (by (with_reducible repeat (first | apply Kd.R_alloc | apply Kd.R_drewN | apply Kd.R_drew)); exact Kd.R_mono HO135.out (fun _ hk => ⟨hk.1.1, hk.2⟩)) hg hat)
                                      have n4_ := Aside0.mk (hb)
                                      have n5_ := Aside0.mk (ho)
                                      clear HO_4
                                      clear HO129
                                      clear HO143
                                      clear HO135
                                      clear HB
                                      clear HO124
                                      have HO_4 := n0_
                                      have HO129 := n1_
                                      have HO143 := n2_
                                      have HO135 := n3_
                                      have HB := n4_
                                      have HO132 := n5_
                                      clear n0_ n1_ n2_ n3_ n4_ n5_
                                      clear ho hb hg hat
                                      refine hK.out _ _ trivial (fun hHeld => ?_)
                                      clear hK K
                                      refine norm_ (a' := ?_) ?_ ?_
                                      rotate_left
                                      · show Act.put _ (some 54) _ = _
                                        simp only [Act.put, List.setIfInBounds_toArray, List.set_cons_zero, List.set_cons_succ, i64_w, i32_w]
                                        rfl
                                      exact norm_ (by simp only [putAll, Act.put, List.setIfInBounds_toArray, List.set_cons_zero, List.set_cons_succ]) (hCont (v123, v131, v134) _ ⟨(by (with_reducible repeat (first | apply Kd.V_alloc | apply Kd.V_drewN | apply Kd.V_drew)); exact Kd.V_mono HO129.out (fun _ hk => ⟨hk.1.1, ⟨hk.2, hk.1.2⟩⟩)), (by (with_reducible repeat (first | apply Kd.R_alloc | apply Kd.R_drewN | apply Kd.R_drew)); exact HO132.out), (by (with_reducible repeat (first | apply Kd.R_alloc | apply Kd.R_drewN | apply Kd.R_drew)); exact HO135.out), (by (with_reducible repeat (first | apply Kd.V_alloc | apply Kd.V_drewN | apply Kd.V_drew)); exact Kd.V_mono HO143.out (fun _ hk => ⟨hk.1.1, ⟨hk.2, hk.1.2⟩⟩)), (by (with_reducible repeat (first | apply Kd.V_alloc | apply Kd.V_drewN | apply Kd.V_drew)); exact Kd.V_mono HO_4.out (fun _ hk => ⟨hk.1.1, ⟨hk.2, hk.1.2⟩⟩)), (by repeat (first | (with_reducible first | exact HB.out | apply below_alloc | apply pw_below_drewN | apply below_drew1) | exact HB.out))⟩)
                                  · skip
                                    refine Kd.R_lit_step (Kd.int .u64) _ 34 ?hg (N := 56) ?hd (xs := ([x3_2] : List Int)) (inner := [.int .u64 x3_2]) (ok := fun _ => True) (okp := fun _ => True) ?hr ?hp (fun _ hk => hk) trivial (Below.refl _ _) (Nat.le_refl _) (by simp) ?_; (case hd => rfl); (case hg => rfl); (case hr => first | (go_simp; done) | (go_simp; rfl)); (case hp => exact (Reps.one (show Kd.M (Kd.int .u64) _ _ _ x3_2 [.int .u64 x3_2] from rfl) (Reps.none _ _)))
                                    intro v134 w32 ho33 hb hg_ hnew_
                                    clear hg_ hnew_
                                    (first | rw [← Ny133.out] at ho33 | (simp only [Int.reduceToNat] at ho33; rw [← Ny133.out] at ho33))
                                    have n0_ := Aside0.mk (Kd.V_elder' (by (with_reducible repeat (first | apply Kd.V_alloc | apply Kd.V_drewN | apply Kd.V_drew)); exact HO_4.out) (Kd.R_base ho33) hb)
                                    have n1_ := Aside0.mk (Kd.V_elder' (by (with_reducible repeat (first | apply Kd.V_alloc | apply Kd.V_drewN | apply Kd.V_drew)); exact HO129.out) (Kd.R_base ho33) hb)
                                    have n2_ := Aside0.mk (Kd.V_elder' (by (with_reducible repeat (first | apply Kd.V_alloc | apply Kd.V_drewN | apply Kd.V_drew)); exact HO143.out) (Kd.R_base ho33) hb)
                                    have n3_ := Aside0.mk (Kd.R_lower (Kd.R_newM (M := fun k_ => (w.heap.size ≤ k_)) ho33 (below_size (by repeat (first | (with_reducible first | exact HB.out | apply below_alloc | apply pw_below_drewN | apply below_drew1) | exact HB.out))) (fun k_ h_ => h_)) (below_size (by repeat (first | (with_reducible first | exact HB.out | apply below_alloc | apply pw_below_drewN | apply below_drew1) | exact HB.out))))
                                    have n4_ := Aside0.mk (below_step (by repeat (first | (with_reducible first | exact HB.out | apply below_alloc | apply pw_below_drewN | apply below_drew1) | exact HB.out)) hb)
                                    clear HO_4
                                    clear HO129
                                    clear HO143
                                    clear HB
                                    have HO_4 := n0_
                                    have HO129 := n1_
                                    have HO143 := n2_
                                    have HO135 := n3_
                                    have HB := n4_
                                    clear n0_ n1_ n2_ n3_ n4_
                                    clear hb ho33
                                    refine hK.out _ _ trivial (fun hHeld => ?_)
                                    clear hK K
                                    refine norm_ (a' := ?_) ?_ ?_
                                    rotate_left
                                    · show Act.put _ (some 56) _ = _
                                      simp only [Act.put, List.setIfInBounds_toArray, List.set_cons_zero, List.set_cons_succ, i64_w, i32_w]
                                      rfl
                                    refine one_ (i := 0) (N := some 50) #[true, true, true, true, false, true, true, false, true, true, true, true, true, false, false] rfl rfl (one_of HT_.out (by kernel_rfl)) (by decide) (fun K hK => ?_)
                                    refine Kd.R_lit_step (Kd.int .u64) _ 34 ?hg (N := 50) ?hd (xs := ([] : List Int)) (inner := []) (ok := fun _ => True) (okp := fun _ => True) ?hr ?hp (fun _ hk => hk) trivial (Below.refl _ _) (Nat.le_refl _) (by simp) ?_; (case hd => rfl); (case hg => rfl); (case hr => first | (go_simp; done) | (go_simp; rfl)); (case hp => exact (Reps.none _ _))
                                    intro v123 w34 ho35 hb hg_ hnew_
                                    clear hg_ hnew_
                                    (first | rw [← Ny122.out] at ho35 | (simp only [Int.reduceToNat] at ho35; rw [← Ny122.out] at ho35))
                                    have n0_ := Aside0.mk (Kd.V_elder' (by (with_reducible repeat (first | apply Kd.V_alloc | apply Kd.V_drewN | apply Kd.V_drew)); exact HO_4.out) (Kd.R_base ho35) hb)
                                    have n1_ := Aside0.mk (Kd.V_elder' (by (with_reducible repeat (first | apply Kd.V_alloc | apply Kd.V_drewN | apply Kd.V_drew)); exact HO129.out) (Kd.R_base ho35) hb)
                                    have n2_ := Aside0.mk (Kd.V_elder' (by (with_reducible repeat (first | apply Kd.V_alloc | apply Kd.V_drewN | apply Kd.V_drew)); exact HO143.out) (Kd.R_base ho35) hb)
                                    have n3_ := Aside0.mk (Kd.R_elder' (by (with_reducible repeat (first | apply Kd.R_alloc | apply Kd.R_drewN | apply Kd.R_drew)); exact HO135.out) (Kd.R_base ho35) hb)
                                    have n4_ := Aside0.mk (Kd.R_lower (Kd.R_new' (Kd.R_newM (M := fun k_ => (w.heap.size ≤ k_)) ho35 (below_size (by repeat (first | (with_reducible first | exact HB.out | apply below_alloc | apply pw_below_drewN | apply below_drew1) | exact HB.out))) (fun k_ h_ => h_)) (Kd.R_lt (by (with_reducible repeat (first | apply Kd.R_alloc | apply Kd.R_drewN | apply Kd.R_drew)); exact HO135.out))) (below_size (by repeat (first | (with_reducible first | exact HB.out | apply below_alloc | apply pw_below_drewN | apply below_drew1) | exact HB.out))))
                                    have n5_ := Aside0.mk (below_step (by repeat (first | (with_reducible first | exact HB.out | apply below_alloc | apply pw_below_drewN | apply below_drew1) | exact HB.out)) hb)
                                    clear HO_4
                                    clear HO129
                                    clear HO143
                                    clear HO135
                                    clear HB
                                    have HO_4 := n0_
                                    have HO129 := n1_
                                    have HO143 := n2_
                                    have HO135 := n3_
                                    have HO124 := n4_
                                    have HB := n5_
                                    clear n0_ n1_ n2_ n3_ n4_ n5_
                                    clear hb ho35
                                    refine hK.out _ _ trivial (fun hHeld => ?_)
                                    clear hK K
                                    refine norm_ (a' := ?_) ?_ ?_
                                    rotate_left
                                    · show Act.put _ (some 50) _ = _
                                      simp only [Act.put, List.setIfInBounds_toArray, List.set_cons_zero, List.set_cons_succ, i64_w, i32_w]
                                      rfl
                                    refine one_ (i := 4) (N := some 54) #[true, true, true, true, true, true, true, false, true, true, true, true, true, false, false] rfl rfl (one_of HT_.out (by kernel_rfl)) (by decide) (fun K hK => ?_)
                                    refine Kd.R_append_rows_step (Kd.int .u64) (w0 := w) w.heap.size (by rfl) (.tmp 50) (.tmp 53) 22 34 (.int .u64 0) 8 rfl Try.underlying22 info34 rfl (by decide) (by omega) v123 y122 y125 _ _ _ (fun k_ => (w.heap.size ≤ k_) ∧ some k_ ≠ (v134 : Value).ownBlock) (fun _ => False) rfl rfl ?aO ?aR (fun _ _ h => h) (fun _ h => h.elim) ?aF ?aB ?aS ?aL ?_
                                    (case aR => repeat (first | exact (Kd.V_reads' HO129.out).2.2 | (with_reducible refine Kd.C_alloc ?_ _) | (with_reducible refine Kd.C_drewN ?_ _) | (with_reducible refine Kd.C_drew ?_)))
                                    (case aB => exact (by repeat (first | (with_reducible first | exact HB.out | apply below_alloc | apply pw_below_drewN | apply below_drew1) | exact HB.out)))
                                    (case aF => exact (fun k_ hk => ⟨(Nat.le_trans (below_size (by repeat (first | (with_reducible first | exact HB.out | apply below_alloc | apply pw_below_drewN | apply below_drew1) | exact HB.out))) hk), Kd.fresh' (Kd.R_lt (by (with_reducible repeat (first | apply Kd.R_alloc | apply Kd.R_drewN | apply Kd.R_drew)); exact HO135.out)) k_ hk⟩))
                                    (case aO => exact (by (with_reducible repeat (first | apply Kd.R_alloc | apply Kd.R_drewN | apply Kd.R_drew)); exact Kd.R_mono HO124.out (fun _ hk => ⟨hk.1.1, hk.2⟩)))
                                    (case aS => exact (below_size (by repeat (first | (with_reducible first | exact HB.out | apply below_alloc | apply pw_below_drewN | apply below_drew1) | exact HB.out))))
                                    (case aL => have := LMc18.out; omega)
                                    intro v131 w36 ho hb hg hat
                                    rw [← Ny130.out] at ho
                                    have n0_ := Aside0.mk (Kd.V_afterv (ok := (fun k_ => (P4_ k_ ∨ w.heap.size ≤ k_) ∧ some k_ ≠ (v134 : Value).ownBlock)) (by (with_reducible repeat (first | apply Kd.V_alloc | apply Kd.V_drewN | apply Kd.V_drew)); exact HO_4.out) hg hat)
                                    have n1_ := Aside0.mk (Kd.V_afterv (ok := (fun k_ => (P4_ k_ ∨ w.heap.size ≤ k_) ∧ some k_ ≠ (v134 : Value).ownBlock)) (by (with_reducible repeat (first | apply Kd.V_alloc | apply Kd.V_drewN | apply Kd.V_drew)); exact HO129.out) hg hat)
                                    have n2_ := Aside0.mk (Kd.V_afterv (ok := (fun k_ => (P4_ k_ ∨ w.heap.size ≤ k_) ∧ some k_ ≠ (v134 : Value).ownBlock)) (by (with_reducible repeat (first | apply Kd.V_alloc | apply Kd.V_drewN | apply Kd.V_drew)); exact HO143.out) hg hat)
                                    have n3_ := Aside0.mk (Kd.R_after (ok := (fun k_ => (w.heap.size ≤ k_))) (by (with_reducible repeat (first | apply Kd.R_alloc | apply Kd.R_drewN | apply Kd.R_drew)); exact Kd.R_mono HO135.out (fun _ hk => ⟨hk.1.1, hk.2⟩)) hg hat)
                                    have n4_ := Aside0.mk (hb)
                                    have n5_ := Aside0.mk (ho)
                                    clear HO_4
                                    clear HO129
                                    clear HO143
                                    clear HO135
                                    clear HB
                                    clear HO124
                                    have HO_4 := n0_
                                    have HO129 := n1_
                                    have HO143 := n2_
                                    have HO135 := n3_
                                    have HB := n4_
                                    have HO132 := n5_
                                    clear n0_ n1_ n2_ n3_ n4_ n5_
                                    clear ho hb hg hat
                                    refine hK.out _ _ trivial (fun hHeld => ?_)
                                    clear hK K
                                    refine norm_ (a' := ?_) ?_ ?_
                                    rotate_left
                                    · show Act.put _ (some 54) _ = _
                                      simp only [Act.put, List.setIfInBounds_toArray, List.set_cons_zero, List.set_cons_succ, i64_w, i32_w]
                                      rfl
                                    exact norm_ (by simp only [putAll, Act.put, List.setIfInBounds_toArray, List.set_cons_zero, List.set_cons_succ]) (hCont (v123, v131, v134) _ ⟨(by (with_reducible repeat (first | apply Kd.V_alloc | apply Kd.V_drewN | apply Kd.V_drew)); exact Kd.V_mono HO129.out (fun _ hk => ⟨hk.1.1, ⟨hk.2, hk.1.2⟩⟩)), (by (with_reducible repeat (first | apply Kd.R_alloc | apply Kd.R_drewN | apply Kd.R_drew)); exact HO132.out), (by (with_reducible repeat (first | apply Kd.R_alloc | apply Kd.R_drewN | apply Kd.R_drew)); exact HO135.out), (by (with_reducible repeat (first | apply Kd.V_alloc | apply Kd.V_drewN | apply Kd.V_drew)); exact Kd.V_mono HO143.out (fun _ hk => ⟨hk.1.1, ⟨hk.2, hk.1.2⟩⟩)), (by (with_reducible repeat (first | apply Kd.V_alloc | apply Kd.V_drewN | apply Kd.V_drew)); exact Kd.V_mono HO_4.out (fun _ hk => ⟨hk.1.1, ⟨hk.2, hk.1.2⟩⟩)), (by repeat (first | (with_reducible first | exact HB.out | apply below_alloc | apply pw_below_drewN | apply below_drew1) | exact HB.out))⟩)
                                rintro ⟨v123, v131, v134⟩ w37 ⟨h0_, h1_, h2_, h3_, h4_, h5_⟩
                                have n0_ : Aside0 (Kd.V (Kd.int .u64) 34 w37 w.heap.size (fun k_ => (P4_ k_ ∨ w.heap.size ≤ k_) ∧ some k_ ≠ (v131 : Value).ownBlock ∧ some k_ ≠ (v134 : Value).ownBlock) (.slice Ao28 y125.length co28) y125) := ⟨h0_⟩
                                have n1_ : Aside0 (Kd.R (Kd.int .u64) 34 w37 w.heap.size (fun k_ => (w.heap.size ≤ k_) ∧ some k_ ≠ (v134 : Value).ownBlock) v131 y130) := ⟨h1_⟩
                                have n2_ : Aside0 (Kd.R (Kd.int .u64) 34 w37 w.heap.size (fun k_ => (w.heap.size ≤ k_) ∧ some k_ ≠ (v131 : Value).ownBlock) v134 y133) := ⟨h2_⟩
                                have n3_ : Aside0 (Kd.V (Kd.int .u64) 34 w37 w.heap.size (fun k_ => (P4_ k_ ∨ w.heap.size ≤ k_) ∧ some k_ ≠ (v131 : Value).ownBlock ∧ some k_ ≠ (v134 : Value).ownBlock) (.slice A31 y139.length c31) y139) := ⟨h3_⟩
                                have n4_ : Aside0 (Kd.V (Kd.int .u64) 34 w37 w.heap.size (fun k_ => (P4_ k_ ∨ w.heap.size ≤ k_) ∧ some k_ ≠ (v131 : Value).ownBlock ∧ some k_ ≠ (v134 : Value).ownBlock) (.slice Ao28 x4_2.length co28) x4_2) := ⟨h4_⟩
                                have n5_ : Aside0 (Below w.heap.size w w37) := ⟨h5_⟩
                                clear HO_4
                                clear HB
                                clear h0_ h1_ h2_ h3_ h4_ h5_
                                have HO129 := n0_
                                have HO132 := n1_
                                have HO135 := n2_
                                have HO143 := n3_
                                have HO_4 := n4_
                                have HB := n5_
                                clear n0_ n1_ n2_ n3_ n4_ n5_
                                have hHeld := trivial
                                obtain ⟨Ao39, co39, eo39⟩ := Kd.R_slice HO135.out
                                (first | subst eo39 | (injection eo39 with f1_ f2_ f3_; have f4_ := f1_.symm; have f5_ := f3_.symm; clear f1_ f2_ f3_; subst f4_; subst f5_))
                                refine norm_ (a' := ?_) ?_ ?_
                                rotate_left
                                · simp only [putAll, Act.put, List.setIfInBounds_toArray, List.set_cons_zero, List.set_cons_succ]
                                  rfl
                                refine one_ (i := 7) (N := some 57) #[true, true, true, true, true, true, true, true, true, true, true, true, true, false, false] rfl rfl (one_of HT_.out (by kernel_rfl)) (by decide) (fun K hK => ?_)
                                refine Kd.R_append_rows_step (Kd.int .u64) (w0 := w) w.heap.size (by rfl) (.tmp 54) (.tmp 56) 22 34 (.int .u64 0) 8 rfl Try.underlying22 info34 rfl (by decide) (by omega) v131 y130 y133 _ _ _ (fun k_ => (w.heap.size ≤ k_) ∧ some k_ ≠ (.slice Ao39 y133.length co39 : Value).ownBlock) (fun _ => False) rfl rfl ?aO ?aR (fun _ _ h => h) (fun _ h => h.elim) ?aF ?aB ?aS ?aL ?_
                                (case aR => repeat (first | exact (Kd.R_reads' HO135.out).2.2 | (with_reducible refine Kd.C_alloc ?_ _) | (with_reducible refine Kd.C_drewN ?_ _) | (with_reducible refine Kd.C_drew ?_)))
                                (case aB => exact (by repeat (first | (with_reducible first | exact HB.out | apply below_alloc | apply pw_below_drewN | apply below_drew1) | exact HB.out)))
                                (case aF => exact (fun k_ hk => ⟨(Nat.le_trans (below_size (by repeat (first | (with_reducible first | exact HB.out | apply below_alloc | apply pw_below_drewN | apply below_drew1) | exact HB.out))) hk), Kd.fresh' (Kd.R_lt (by (with_reducible repeat (first | apply Kd.R_alloc | apply Kd.R_drewN | apply Kd.R_drew)); exact HO135.out)) k_ hk⟩))
                                (case aO => exact (by (with_reducible repeat (first | apply Kd.R_alloc | apply Kd.R_drewN | apply Kd.R_drew)); exact HO132.out))
                                (case aS => exact (below_size (by repeat (first | (with_reducible first | exact HB.out | apply below_alloc | apply pw_below_drewN | apply below_drew1) | exact HB.out))))
                                (case aL => have := LMc19.out; omega)
                                intro v137 w38 ho hb hg hat
                                rw [← Ny136.out] at ho
                                have n0_ := Aside0.mk (Kd.V_afterv (ok := (fun k_ => (P4_ k_ ∨ w.heap.size ≤ k_) ∧ some k_ ≠ (.slice Ao39 y133.length co39 : Value).ownBlock)) (by (with_reducible repeat (first | apply Kd.V_alloc | apply Kd.V_drewN | apply Kd.V_drew)); exact Kd.V_mono HO_4.out (fun _ hk => ⟨⟨hk.1, hk.2.2⟩, hk.2.1⟩)) hg hat)
                                have n1_ := Aside0.mk (Kd.V_afterv (ok := (fun k_ => (P4_ k_ ∨ w.heap.size ≤ k_) ∧ some k_ ≠ (.slice Ao39 y133.length co39 : Value).ownBlock)) (by (with_reducible repeat (first | apply Kd.V_alloc | apply Kd.V_drewN | apply Kd.V_drew)); exact Kd.V_mono HO129.out (fun _ hk => ⟨⟨hk.1, hk.2.2⟩, hk.2.1⟩)) hg hat)
                                have n2_ := Aside0.mk (Kd.V_afterv (ok := (fun k_ => (P4_ k_ ∨ w.heap.size ≤ k_) ∧ some k_ ≠ (.slice Ao39 y133.length co39 : Value).ownBlock)) (by (with_reducible repeat (first | apply Kd.V_alloc | apply Kd.V_drewN | apply Kd.V_drew)); exact Kd.V_mono HO143.out (fun _ hk => ⟨⟨hk.1, hk.2.2⟩, hk.2.1⟩)) hg hat)
                                have n3_ := Aside0.mk (Kd.R_after (ok := (fun k_ => (w.heap.size ≤ k_))) (by (with_reducible repeat (first | apply Kd.R_alloc | apply Kd.R_drewN | apply Kd.R_drew)); exact HO135.out) hg hat)
                                have n4_ := Aside0.mk (hb)
                                have n5_ := Aside0.mk (ho)
                                clear HO_4
                                clear HO129
                                clear HO143
                                clear HO135
                                clear HB
                                clear HO132
                                have HO_4 := n0_
                                have HO129 := n1_
                                have HO143 := n2_
                                have HO135 := n3_
                                have HB := n4_
                                have HO138 := n5_
                                clear n0_ n1_ n2_ n3_ n4_ n5_
                                clear ho hb hg hat
                                refine hK.out _ _ trivial (fun hHeld => ?_)
                                clear hK K
                                refine norm_ (a' := ?_) ?_ ?_
                                rotate_left
                                · show Act.put _ (some 57) _ = _
                                  simp only [Act.put, List.setIfInBounds_toArray, List.set_cons_zero, List.set_cons_succ, i64_w, i32_w]
                                  rfl
                                refine one_ (i := 13) (N := some 63) #[true, true, true, true, true, true, true, true, true, true, true, true, true, true, false] rfl rfl (one_of HT_.out (by kernel_rfl)) (by decide) (fun K hK => ?_)
                                refine Kd.R_append_rows_step (Kd.int .u64) (w0 := w) w.heap.size (by rfl) (.tmp 57) (.tmp 62) 22 34 (.int .u64 0) 8 rfl Try.underlying22 info34 rfl (by decide) (by omega) v137 y136 y139 _ _ _ (fun k_ => (w.heap.size ≤ k_) ∧ some k_ ≠ (.slice Ao39 y133.length co39 : Value).ownBlock) (fun _ => False) rfl rfl ?aO ?aR (fun _ _ h => h) (fun _ h => h.elim) ?aF ?aB ?aS ?aL ?_
                                (case aR => repeat (first | exact (Kd.V_reads' HO143.out).2.2 | (with_reducible refine Kd.C_alloc ?_ _) | (with_reducible refine Kd.C_drewN ?_ _) | (with_reducible refine Kd.C_drew ?_)))
                                (case aB => exact (by repeat (first | (with_reducible first | exact HB.out | apply below_alloc | apply pw_below_drewN | apply below_drew1) | exact HB.out)))
                                (case aF => exact (fun k_ hk => ⟨(Nat.le_trans (below_size (by repeat (first | (with_reducible first | exact HB.out | apply below_alloc | apply pw_below_drewN | apply below_drew1) | exact HB.out))) hk), Kd.fresh' (Kd.R_lt (by (with_reducible repeat (first | apply Kd.R_alloc | apply Kd.R_drewN | apply Kd.R_drew)); exact HO135.out)) k_ hk⟩))
                                (case aO => exact (by (with_reducible repeat (first | apply Kd.R_alloc | apply Kd.R_drewN | apply Kd.R_drew)); exact HO138.out))
                                (case aS => exact (below_size (by repeat (first | (with_reducible first | exact HB.out | apply below_alloc | apply pw_below_drewN | apply below_drew1) | exact HB.out))))
                                (case aL => have := LMc23.out; omega)
                                intro v145 w40 ho hb hg hat
                                rw [← Ny144.out] at ho
                                have n0_ := Aside0.mk (Kd.V_afterv (ok := (fun k_ => (P4_ k_ ∨ w.heap.size ≤ k_) ∧ some k_ ≠ (.slice Ao39 y133.length co39 : Value).ownBlock)) (by (with_reducible repeat (first | apply Kd.V_alloc | apply Kd.V_drewN | apply Kd.V_drew)); exact HO_4.out) hg hat)
                                have n1_ := Aside0.mk (Kd.V_afterv (ok := (fun k_ => (P4_ k_ ∨ w.heap.size ≤ k_) ∧ some k_ ≠ (.slice Ao39 y133.length co39 : Value).ownBlock)) (by (with_reducible repeat (first | apply Kd.V_alloc | apply Kd.V_drewN | apply Kd.V_drew)); exact HO129.out) hg hat)
                                have n2_ := Aside0.mk (Kd.V_afterv (ok := (fun k_ => (P4_ k_ ∨ w.heap.size ≤ k_) ∧ some k_ ≠ (.slice Ao39 y133.length co39 : Value).ownBlock)) (by (with_reducible repeat (first | apply Kd.V_alloc | apply Kd.V_drewN | apply Kd.V_drew)); exact HO143.out) hg hat)
                                have n3_ := Aside0.mk (Kd.R_after (ok := (fun k_ => (w.heap.size ≤ k_))) (by (with_reducible repeat (first | apply Kd.R_alloc | apply Kd.R_drewN | apply Kd.R_drew)); exact HO135.out) hg hat)
                                have n4_ := Aside0.mk (hb)
                                have n5_ := Aside0.mk (ho)
                                clear HO_4
                                clear HO129
                                clear HO143
                                clear HO135
                                clear HB
                                clear HO138
                                have HO_4 := n0_
                                have HO129 := n1_
                                have HO143 := n2_
                                have HO135 := n3_
                                have HB := n4_
                                have HO146 := n5_
                                clear n0_ n1_ n2_ n3_ n4_ n5_
                                clear ho hb hg hat
                                refine hK.out _ _ trivial (fun hHeld => ?_)
                                clear hK K
                                refine norm_ (a' := ?_) ?_ ?_
                                rotate_left
                                · show Act.put _ (some 63) _ = _
                                  simp only [Act.put, List.setIfInBounds_toArray, List.set_cons_zero, List.set_cons_succ, i64_w, i32_w]
                                  rfl
                                refine pure_ (i := 14) (N := some 14) (v := ?_) (a' := ?_) #[true, true, true, true, true, true, true, true, true, true, true, true, true, true, true] rfl rfl (any_of HT_.out (by kernel_rfl)) (fun _ _ _ h => h) (Or.inl ⟨by rfl, ?_⟩) ?_ ?_
                                rotate_left
                                · intro w'
                                  go_simp
                                  with_reducible rfl
                                rotate_left
                                · simp only [Act.put, List.setIfInBounds_toArray, List.set_cons_zero, List.set_cons_succ, i64_w, i32_w]
                                  rfl
                                refine done_ (done_of HT_.out (by kernel_rfl)) ?_
                                try go_wp2
                                have n0_ := Aside0.mk (Kd.V_drew HO_4.out)
                                have n1_ := Aside0.mk (Kd.V_drew HO129.out)
                                have n2_ := Aside0.mk (Kd.V_drew HO143.out)
                                have n3_ := Aside0.mk (Kd.R_drew HO135.out)
                                have n4_ := Aside0.mk (Kd.R_drew HO146.out)
                                have n5_ := Aside0.mk (below_drew1 HB.out)
                                clear HO_4
                                clear HO129
                                clear HO143
                                clear HO135
                                clear HO146
                                clear HB
                                have HO_4 := n0_
                                have HO129 := n1_
                                have HO143 := n2_
                                have HO135 := n3_
                                have HO146 := n4_
                                have HB := n5_
                                clear n0_ n1_ n2_ n3_ n4_ n5_
                                have q42 : ((ji25) : Int) ≤ ((x4_2.length : Int) : Int) := of_decide_eq_true (by first | (with_reducible assumption) | assumption)
                                obtain ⟨i042, hi042, _, hsz42, _⟩ := info_parts info34
                                have hroom42 : x4_2.length ≤ co28 := (Kd.V_reads' HO_4.out).2.1
                                have hC42 : Kd.F (Kd.int .u64) _ _ Ao28 x4_2.length x4_2 := (Kd.V_at (base := w.heap.size) HO_4.out).2.2
                                have q042 : (0 : Int) ≤ ((ji25) : Int) := of_decide_eq_true (by first | (with_reducible assumption) | assumption)
                                have hcut42 := cut_from (P := Try.prog) 22 34 .i64 Try.underlying22 hi042 1 hsz42 Ao28 x4_2.length co28 (ji25) q042 q42
                                have hr42 := Kd.F_cut (m := ((ji25) : Int).toNat) (c := co28) hC42 (by omega) hroom42
                                obtain ⟨A42, hA42⟩ : ∃ A1, A1 = (if co28 = ((ji25) : Int).toNat then Ao28 else (Ao28 : Option Addr).map (·.add (((ji25) : Int).toNat * 1))) := ⟨_, rfl⟩
                                obtain ⟨c42, hc42⟩ : ∃ c1, c1 = co28 - ((ji25) : Int).toNat := ⟨_, rfl⟩
                                have hy42 : y148.length = x4_2.length - ((ji25) : Int).toNat := (by rw [Ny148.out, List.length_drop] <;> omega)
                                rw [show (x4_2).drop ((ji25) : Int).toNat = y148 from Ny148.out.symm] at hr42
                                replace hr42 : Kd.F (Kd.int .u64) _ _ A42 y148.length y148 := (by rw [hA42]; exact hr42)
                                rw [← hy42, ← hA42, ← hc42] at hcut42
                                have HO152 := Aside0.mk (show Kd.V (Kd.int .u64) 34 _ w.heap.size _ (.slice A42 y148.length c42) y148 from Kd.V_mk (by rw [hy42, hc42]; exact Nat.sub_le_sub_right hroom42 _) hr42)
                                have HC152 := Aside0.mk (show y148.length ≤ c42 from by rw [hy42, hc42]; exact Nat.sub_le_sub_right hroom42 _)
                                clear hr42 hC42 hroom42 hi042 hsz42 hc42
                                have KY42 := Aside0.mk hy42
                                have KA42 := Aside0.mk hA42
                                clear hy42 hA42
                                replace q42 := eq_true q42
                                obtain ⟨Ao43, co43, eo43⟩ := Kd.R_slice HO146.out
                                (first | subst eo43 | (injection eo43 with f1_ f2_ f3_; have f4_ := f1_.symm; have f5_ := f3_.symm; clear f1_ f2_ f3_; subst f4_; subst f5_))
                                refine start_ (n := 11) (S := fun w' => True) (ds := []) #[false, false, false, false, false, false, false, false, false, false, false] (by kernel_rfl) rfl rfl trivial (fun hHeld => ?_); refine with_tabW sumtree_Check.tab11 sumtree_Check.bits11 (fun HT_ HW_ => ?_)
                                generalize w40.drew = w41 at HO_4 HO129 HO143 HO135 HO146 HB HO152 hHeld ⊢
                                refine pure_ (i := 0) (N := some 64) (v := ?_) (a' := ?_) #[true, false, false, false, false, false, false, false, false, false, false] rfl rfl (any_of HT_.out (by kernel_rfl)) (fun _ _ _ h => h) (Or.inl ⟨by rfl, ?_⟩) ?_ ?_
                                rotate_left
                                · intro w'
                                  go_simp
                                  with_reducible rfl
                                rotate_left
                                · simp only [Act.put, List.setIfInBounds_toArray, List.set_cons_zero, List.set_cons_succ, i64_w, i32_w]
                                  rfl
                                refine pure_ (i := 2) (N := some 66) (v := ?_) (a' := ?_) #[true, false, true, false, false, false, false, false, false, false, false] rfl rfl (any_of HT_.out (by kernel_rfl)) (fun _ _ _ h => h) (Or.inl ⟨by rfl, ?_⟩) ?_ ?_
                                rotate_left
                                · intro w'
                                  go_simp
                                  with_reducible rfl
                                rotate_left
                                · simp only [Act.put, List.setIfInBounds_toArray, List.set_cons_zero, List.set_cons_succ, i64_w, i32_w]
                                  rfl
                                refine pure_ (i := 3) (N := some 67) (v := ?_) (a' := ?_) #[true, false, true, true, false, false, false, false, false, false, false] rfl rfl (any_of HT_.out (by kernel_rfl)) (fun _ _ _ h => h) (Or.inl ⟨by rfl, ?_⟩) ?_ ?_
                                rotate_left
                                · intro w'
                                  go_simp
                                  with_reducible rfl
                                rotate_left
                                · simp only [Act.put, List.setIfInBounds_toArray, List.set_cons_zero, List.set_cons_succ, i64_w, i32_w]
                                  rfl
                                refine pure_ (i := 4) (N := some 68) (v := ?_) (a' := ?_) #[true, false, true, true, true, false, false, false, false, false, false] rfl rfl (any_of HT_.out (by kernel_rfl)) (fun _ _ _ h => h) (Or.inl ⟨by rfl, ?_⟩) ?_ ?_
                                rotate_left
                                · intro w'
                                  go_simp
                                  with_reducible rfl
                                rotate_left
                                · simp only [Act.put, List.setIfInBounds_toArray, List.set_cons_zero, List.set_cons_succ, i64_w, i32_w]
                                  rfl
                                refine pure_ (i := 5) (N := some 69) (v := ?_) (a' := ?_) #[true, false, true, true, true, true, false, false, false, false, false] rfl rfl (any_of HT_.out (by kernel_rfl)) (fun _ _ _ h => h) (Or.inl ⟨by rfl, ?_⟩) ?_ ?_
                                rotate_left
                                · intro w'
                                  go_simp
                                  with_reducible rfl
                                rotate_left
                                · simp only [Act.put, List.setIfInBounds_toArray, List.set_cons_zero, List.set_cons_succ, i64_w, i32_w]
                                  rfl
                                refine pure_ (i := 6) (N := some 70) (v := ?_) (a' := ?_) #[true, false, true, true, true, true, true, false, false, false, false] rfl rfl (any_of HT_.out (by kernel_rfl)) (fun _ _ _ h => h) (Or.inl ⟨by rfl, ?_⟩) ?_ ?_
                                rotate_left
                                · intro w'
                                  go_simp
                                  with_reducible rfl
                                rotate_left
                                · simp only [Act.put, List.setIfInBounds_toArray, List.set_cons_zero, List.set_cons_succ, i64_w, i32_w]
                                  rfl
                                refine pure_ (i := 7) (N := some 71) (v := ?_) (a' := ?_) #[true, false, true, true, true, true, true, true, false, false, false] rfl rfl (any_of HT_.out (by kernel_rfl)) (fun _ _ _ h => h) (Or.inl ⟨by rfl, ?_⟩) ?_ ?_
                                rotate_left
                                · intro w'
                                  go_simp
                                  with_reducible rfl
                                rotate_left
                                · simp only [Act.put, List.setIfInBounds_toArray, List.set_cons_zero, List.set_cons_succ, i64_w, i32_w]
                                  rfl
                                refine one_ (i := 1) (N := some 65) #[true, true, true, true, true, true, true, true, false, false, false] rfl rfl (one_of HT_.out (by kernel_rfl)) (by decide) (fun K hK => ?_)
                                refine goes_ Try.func31 (by kernel_rfl) rfl #[.slice Ao43 y144.length co43] (by rfl) rfl rfl (by (try simp only [List.map_toArray, List.map_cons, List.map_nil]); first | done | rfl | (simp only [List.length_drop, List.length_take]; rfl)) ?_
                                with_reducible refine (sumtree_run.calls k2 _ _ y144 t147 _ ?side1 ?side2 A24.out).mono ?_
                                (case side1 => repeat (first | exact (Kd.R_reads' HO146.out).2.2 | (with_reducible refine Kd.C_alloc ?_ _) | (with_reducible refine Kd.C_drewN ?_ _) | (with_reducible refine Kd.C_drew ?_)))
                                (case side2 => exact (Kd.R_reads' HO146.out).2.1)
                                rintro e w44 ⟨rfl, hb⟩
                                refine ⟨_, rfl, ?_⟩
                                have n0_ := Aside0.mk (Kd.V_below (by (with_reducible repeat (first | apply Kd.V_alloc | apply Kd.V_drewN | apply Kd.V_drew)); exact HO_4.out) hb)
                                have n1_ := Aside0.mk (Kd.V_below (by (with_reducible repeat (first | apply Kd.V_alloc | apply Kd.V_drewN | apply Kd.V_drew)); exact HO129.out) hb)
                                have n2_ := Aside0.mk (Kd.V_below (by (with_reducible repeat (first | apply Kd.V_alloc | apply Kd.V_drewN | apply Kd.V_drew)); exact HO143.out) hb)
                                have n3_ := Aside0.mk (Kd.R_below (by (with_reducible repeat (first | apply Kd.R_alloc | apply Kd.R_drewN | apply Kd.R_drew)); exact HO135.out) hb)
                                have n4_ := Aside0.mk (Kd.R_below (by (with_reducible repeat (first | apply Kd.R_alloc | apply Kd.R_drewN | apply Kd.R_drew)); exact HO146.out) hb)
                                have n5_ := Aside0.mk (Kd.V_below (by (with_reducible repeat (first | apply Kd.V_alloc | apply Kd.V_drewN | apply Kd.V_drew)); exact HO152.out) hb)
                                have n6_ := Aside0.mk (below_step (by repeat (first | (with_reducible first | exact HB.out | apply below_alloc | apply pw_below_drewN | apply below_drew1) | exact HB.out)) hb)
                                clear HO_4
                                clear HO129
                                clear HO143
                                clear HO135
                                clear HO146
                                clear HO152
                                clear HB
                                have HO_4 := n0_
                                have HO129 := n1_
                                have HO143 := n2_
                                have HO135 := n3_
                                have HO146 := n4_
                                have HO152 := n5_
                                have HB := n6_
                                clear n0_ n1_ n2_ n3_ n4_ n5_ n6_
                                (try clear hb)
                                (try clear hb2)
                                (try clear hk)
                                (try clear hi)
                                refine hK.out _ _ trivial (fun hHeld => ?_)
                                clear hK K
                                refine norm_ (a' := ?_) ?_ ?_
                                rotate_left
                                · show Act.put _ (some 65) _ = _
                                  simp only [Act.put, List.setIfInBounds_toArray, List.set_cons_zero, List.set_cons_succ, i64_w, i32_w]
                                  rfl
                                refine pure_ (i := 8) (N := some 3) (v := ?_) (a' := ?_) #[true, true, true, true, true, true, true, true, true, false, false] rfl rfl (any_of HT_.out (by kernel_rfl)) (fun _ _ _ h => h) (Or.inl ⟨by rfl, ?_⟩) ?_ ?_
                                rotate_left
                                · intro w'
                                  go_simp
                                  with_reducible rfl
                                rotate_left
                                · simp only [Act.put, List.setIfInBounds_toArray, List.set_cons_zero, List.set_cons_succ, i64_w, i32_w]
                                  rfl
                                refine pure_ (i := 9) (N := some 4) (v := ?_) (a' := ?_) #[true, true, true, true, true, true, true, true, true, true, false] rfl rfl (any_of HT_.out (by kernel_rfl)) (fun _ _ _ h => h) (Or.inl ⟨by rfl, ?_⟩) ?_ ?_
                                rotate_left
                                · intro w'
                                  go_simp
                                  with_reducible rfl
                                rotate_left
                                · simp only [Act.put, List.setIfInBounds_toArray, List.set_cons_zero, List.set_cons_succ, i64_w, i32_w]
                                  rfl
                                refine pure_ (i := 10) (N := some 2) (v := ?_) (a' := ?_) #[true, true, true, true, true, true, true, true, true, true, true] rfl rfl (any_of HT_.out (by kernel_rfl)) (fun _ _ _ h => h) (Or.inl ⟨by rfl, ?_⟩) ?_ ?_
                                rotate_left
                                · intro w'
                                  go_simp
                                  with_reducible rfl
                                rotate_left
                                · simp only [Act.put, List.setIfInBounds_toArray, List.set_cons_zero, List.set_cons_succ, i64_w, i32_w]
                                  rfl
                                refine done_ (done_of HT_.out (by kernel_rfl)) ?_
                                try go_wp2
                                go_roundg k2
                                case measure => have := HJ5.out; have := HK2.out; omega
                                case rel => exact ⟨(wrap64 (Int.tdiv x2_2 4)), (t147), (y148), (wrap64 (Int.tdiv (wrap64 ((wrap64 (x11_2 + 4)) - 1)) 4)), (by first | rfl | (simp; done) | (simp [*]; done)), (by first | rfl | (simp; done) | (simp [*]; done)), (by first | rfl | (simp; done) | (simp [*]; done)), H', ⟨by have := HJ5.out; have := HK2.out; omega⟩, ⟨by (with_reducible repeat (first | apply Kd.V_alloc | apply Kd.V_drewN | apply Kd.V_drew)); exact Kd.V_mono HO152.out (fun _ hk => hk.1.1)⟩, ⟨by repeat (first | (with_reducible first | exact HB.out | apply below_alloc | apply pw_below_drewN | apply below_drew1) | exact HB.out)⟩⟩
                              · rw [if_neg c26] at H
                                exact absurd H (by simp)
                            · rw [if_neg c23] at H
                              exact absurd H (by simp)
                          · rw [if_neg c22] at H
                            exact absurd H (by simp)
                        · rw [if_neg c21] at H
                          exact absurd H (by simp)
                      · rw [if_neg c19] at H
                        exact absurd H (by simp)
                    · rw [if_neg c18] at H
                      exact absurd H (by simp)
                  · rw [if_neg c17] at H
                    exact absurd H (by simp)
                · rw [if_neg c16] at H
                  exact absurd H (by simp)
            · rw [if_neg c11] at H
              have c11b0 : decide (1 < x11_2) = false := decide_eq_false c11
              clear c11
              by_cases c45 : (x4_2.length : Int) = 0
              · rw [if_pos c45] at H
                have c45b0 : ((x4_2.length : Int) == 0) = true := beq_iff_eq.mpr c45
                have c45b1 : ((x4_2.length : Int) != 0) = false := bne_eq_false_iff_eq.mpr c45
                clear c45
                replace H := Option.bind_eq_some_iff.mp H
                obtain ⟨t153, A460, H⟩ := H
                replace H : (some (t153 == a0)) = some r := H
                have A46 := Aside0.mk A460
                clear A460
                obtain rfl := Option.some.inj H
                obtain ⟨Ao47, co47, eo47⟩ := Kd.V_slice HO_4.out
                subst eo47
                go_wp2_with (first | (go_at_call 32; (with_reducible refine (sumtree_root.calls k2 a1 x3_2 t153 _ A46.out).mono ?_); rintro e w48 ⟨rfl, hb⟩; have n0_ := Aside0.mk (Kd.V_below (by (with_reducible repeat (first | apply Kd.V_alloc | apply Kd.V_drewN | apply Kd.V_drew)); exact HO_4.out) hb); have n1_ := Aside0.mk (below_step (by repeat (first | (with_reducible first | exact HB.out | apply below_alloc | apply pw_below_drewN | apply below_drew1) | exact HB.out)) hb); clear HO_4; clear HB; have HO_4 := n0_; have HB := n1_; clear n0_ n1_; (try clear hb); (try clear hb2); (try clear hk); (try clear hi)))
                go_ret
                exact ⟨by first | rfl | (simp [errW_none, errW_some] <;> rfl) | (simp [*, errW_none, errW_some] <;> rfl), by repeat (first | (with_reducible first | exact HB.out | apply below_alloc | apply pw_below_drewN | apply below_drew1) | exact HB.out)⟩
              · rw [if_neg c45] at H
                have c45b0 : ((x4_2.length : Int) == 0) = false := beq_eq_false_iff_ne.mpr c45
                have c45b1 : ((x4_2.length : Int) != 0) = true := bne_iff_ne.mpr c45
                have c45b2 : ¬ (x4_2 = []) := fun h_ => c45 (by rw [h_]; rfl)
                obtain rfl := Option.some.inj H
                obtain ⟨Ao49, co49, eo49⟩ := Kd.V_slice HO_4.out
                subst eo49
                go_wp2
                go_ret
                exact ⟨by first | rfl | (simp [errW_none, errW_some] <;> rfl) | (simp [*, errW_none, errW_some] <;> rfl), by repeat (first | (with_reducible first | exact HB.out | apply below_alloc | apply pw_below_drewN | apply below_drew1) | exact HB.out)⟩

end Go.Proofs.Ytpofcknfnipkgaa.PS
