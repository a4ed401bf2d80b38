/- Functions of the seat, each as a plain Lean function, and the proof that its call answers what that function says (laid by a program). -/
import Derived.Test.YtpofcknfnipkgaaPSx0
import Derived.Test.YtpofcknfnipkgaaPSx3
import Derived.Test.YtpofcknfnipkgaaPSx4
namespace Go.Proofs.Ytpofcknfnipkgaa.PS
open Go.RowKit Go.Proofs.YtpofcknfnipkgaaW.PrintWords Go.Proofs.YtpofcknfnipkgaaW.PrintLast Go.Proofs.YtpofcknfnipkgaaW.PrintMore
attribute [local go_sem] max2_int min2_int max_two min_two max_three min_three max_four min_four   -- for this text's walks alone
set_option linter.unusedVariables false
set_option linter.unusedSimpArgs false

/-! ### tegularef26_Check: function 17 -/
mutual
def tegularef26_Check.j0 : Nat → Int → Int → Int → Int → List Int → Bool → Option (Bool)
  | 0, _, _, _, _, _, _ => none
  | k + 1, x0, x1, x2, x3, x4, x29 => if x29 = true then (some false) else (tegularef26_Check.l0 k x0 x1 x2 x3 x4 x1)
def tegularef26_Check.l0 : Nat → Int → Int → Int → Int → List Int → Int → Option (Bool)
  | 0, _, _, _, _, _, _ => none
  | k + 1, x0, x1, x2, x3, x4, x11 => if x11 > 1 then (if (x4.length : Int) < (wrap64 ((mn 4 (wrap64 (x11 - (wrap64 ((wrap64 (Int.tdiv x2 4)) * 4))))) - 1)) then (some false) else (if 0 ≤ (wrap64 (x2 - (wrap64 ((wrap64 (Int.tdiv x2 4)) * 4)))) then (if (wrap64 (x2 - (wrap64 ((wrap64 (Int.tdiv x2 4)) * 4)))) ≤ (x4.length : Int) then ((some (x4.take ((wrap64 (x2 - (wrap64 ((wrap64 (Int.tdiv x2 4)) * 4)))) : Int).toNat : List Int)).bind fun y214 => (if ([] : List Int).length + y214.length < 17592186044416 then ((some (([] : List Int) ++ y214 : List Int)).bind fun y219 => ((some (([x3] : List Int) : List Int)).bind fun y222 => (if y219.length + y222.length < 17592186044416 then ((some (y219 ++ y222 : List Int)).bind fun y225 => (if (wrap64 (x2 - (wrap64 ((wrap64 (Int.tdiv x2 4)) * 4)))) ≤ (wrap64 ((mn 4 (wrap64 (x11 - (wrap64 ((wrap64 (Int.tdiv x2 4)) * 4))))) - 1)) then (if (wrap64 ((mn 4 (wrap64 (x11 - (wrap64 ((wrap64 (Int.tdiv x2 4)) * 4))))) - 1)) ≤ (x4.length : Int) then ((some ((x4.take ((wrap64 ((mn 4 (wrap64 (x11 - (wrap64 ((wrap64 (Int.tdiv x2 4)) * 4))))) - 1)) : Int).toNat).drop ((wrap64 (x2 - (wrap64 ((wrap64 (Int.tdiv x2 4)) * 4)))) : Int).toNat : List Int)).bind fun y228 => (if y225.length + y228.length < 17592186044416 then (if 0 ≤ (wrap64 ((mn 4 (wrap64 (x11 - (wrap64 ((wrap64 (Int.tdiv x2 4)) * 4))))) - 1)) then ((tegularef26_run.f k (y225 ++ y228)).bind fun t241 => (tegularef26_Check.l0 k x0 x1 (wrap64 (Int.tdiv x2 4)) t241 (x4.drop ((wrap64 ((mn 4 (wrap64 (x11 - (wrap64 ((wrap64 (Int.tdiv x2 4)) * 4))))) - 1)) : Int).toNat) (wrap64 (Int.tdiv (wrap64 (x11 + 3)) 4)))) else (none)) else (none))) else (none)) else (none))) else (none)))) else (none))) else (none)) else (none))) else (if (x4.length : Int) = 0 then ((tegularef26_Top.f k x1 x3).bind fun t242 => (some (x0 == t242))) else (some false))
end
def tegularef26_Check.f (k : Nat) (a0 : Int) (a1 : Int) (a2 : Int) (a3 : Int) (l4 : List Int) : Option (Bool) := if a1 < 1 then (tegularef26_Check.j0 k a0 a1 a2 a3 l4 true) else (if a1 > 1048576 then (tegularef26_Check.j0 k a0 a1 a2 a3 l4 true) else (if a2 < 0 then (tegularef26_Check.j0 k a0 a1 a2 a3 l4 true) else (tegularef26_Check.j0 k a0 a1 a2 a3 l4 (decide (a2 ≥ a1)))))
theorem tegularef26_Check.mono_l : ∀ k, (∀ y0 y1 y2 y3 y4 y5, LeO (tegularef26_Check.j0 k y0 y1 y2 y3 y4 y5) (tegularef26_Check.j0 (k + 1) y0 y1 y2 y3 y4 y5)) ∧ (∀ y0 y1 y2 y3 y4 y5, LeO (tegularef26_Check.l0 k y0 y1 y2 y3 y4 y5) (tegularef26_Check.l0 (k + 1) y0 y1 y2 y3 y4 y5))
  | 0 => ⟨fun _ _ _ _ _ _ r h => by simp [tegularef26_Check.j0] at h, fun _ _ _ _ _ _ r h => by simp [tegularef26_Check.l0] at h⟩
  | k + 1 => by
    obtain ⟨ih0, ih1⟩ := tegularef26_Check.mono_l k
    refine ⟨?_, ?_⟩
    · intro y0 y1 y2 y3 y4 y5
      unfold tegularef26_Check.j0
      repeat' first
      | (with_reducible exact ih0 _ _ _ _ _ _)
      | (with_reducible exact ih1 _ _ _ _ _ _)
      | (with_reducible exact tegularef26_Top.mono _ _ _)
      | (with_reducible exact tegularef26_run.mono _ _)
      | (with_reducible exact LeO.refl _)
      | (with_reducible exact LeO.none _)
      | (with_reducible refine LeO.ite ?_ ?_)
      | (with_reducible refine LeO.bind ?_ (fun _ => ?_))
      | exact ih0 _ _ _ _ _ _
      | exact ih1 _ _ _ _ _ _
      | exact tegularef26_Top.mono _ _ _
      | exact tegularef26_run.mono _ _
      | exact LeO.none _
      | refine LeO.ite ?_ ?_
      | refine LeO.bind ?_ (fun _ => ?_)
    · intro y0 y1 y2 y3 y4 y5
      unfold tegularef26_Check.l0
      repeat' first
      | (with_reducible exact ih0 _ _ _ _ _ _)
      | (with_reducible exact ih1 _ _ _ _ _ _)
      | (with_reducible exact tegularef26_Top.mono _ _ _)
      | (with_reducible exact tegularef26_run.mono _ _)
      | (with_reducible exact LeO.refl _)
      | (with_reducible exact LeO.none _)
      | (with_reducible refine LeO.ite ?_ ?_)
      | (with_reducible refine LeO.bind ?_ (fun _ => ?_))
      | exact ih0 _ _ _ _ _ _
      | exact ih1 _ _ _ _ _ _
      | exact tegularef26_Top.mono _ _ _
      | exact tegularef26_run.mono _ _
      | exact LeO.none _
      | refine LeO.ite ?_ ?_
      | refine LeO.bind ?_ (fun _ => ?_)
theorem tegularef26_Check.mono : ∀ a0 a1 a2 a3 a4 k, LeO (tegularef26_Check.f k a0 a1 a2 a3 a4) (tegularef26_Check.f (k + 1) a0 a1 a2 a3 a4) := by
  intro a0 a1 a2 a3 a4 k
  obtain ⟨ih0, ih1⟩ := tegularef26_Check.mono_l k
  unfold tegularef26_Check.f
  repeat' first
      | (with_reducible exact ih0 _ _ _ _ _ _)
      | (with_reducible exact ih1 _ _ _ _ _ _)
      | (with_reducible exact tegularef26_Top.mono _ _ _)
      | (with_reducible exact tegularef26_run.mono _ _)
      | (with_reducible exact LeO.refl _)
      | (with_reducible exact LeO.none _)
      | (with_reducible refine LeO.ite ?_ ?_)
      | (with_reducible refine LeO.bind ?_ (fun _ => ?_))
      | exact ih0 _ _ _ _ _ _
      | exact ih1 _ _ _ _ _ _
      | exact tegularef26_Top.mono _ _ _
      | exact tegularef26_run.mono _ _
      | exact LeO.none _
      | refine LeO.ite ?_ ?_
      | refine LeO.bind ?_ (fun _ => ?_)
def tegularef26_Check.T10 : Bool × List (List Nat × List Nat) := (true, [([], []), ([], []), ([], []), ([], []), ([2, 3], [2, 3]), ([1, 4], [1, 4]), ([0, 5], [0, 5]), ([], []), ([7], [7]), ([6, 8, 6], [6, 8]), ([], []), ([], []), ([], []), ([11, 12], [11, 12]), ([], []), ([14], [14]), ([10, 13, 15], [10, 13, 15]), ([9, 16, 9], [9, 16]), ([17, 17, 0, 1, 2, 3, 4, 5, 6, 7, 8, 9, 10, 11, 12, 13, 14, 15, 16, 17], [0, 17])])
def tegularef26_Check.B10 : List Nat := [0, 0, 0, 0, 12, 30, 63, 0, 128, 511, 0, 0, 0, 6144, 0, 16384, 64512, 131071, 262143]
theorem tegularef26_Check.tab10 : rtab .any (opsOf Try.f17 10) = tegularef26_Check.T10 := by kernel_rfl
theorem tegularef26_Check.bits10 : waitsOk tegularef26_Check.T10.2 tegularef26_Check.B10 = true := by kernel_rfl
set_option maxHeartbeats 8000000 in
set_option maxRecDepth 100000 in
theorem tegularef26_Check.calls (k : Nat) (a0 : Int) (a1 : Int) (a2 : Int) (a3 : Int) (P4_ : Nat → Prop) (A4 : Option Addr) (c4 : Nat) (l4 : List Int) (r : Bool) (w : World) (hs4 : Kd.V (Kd.int .u64) 34 w w.heap.size (fun k_ => P4_ k_) (.slice A4 l4.length c4) l4) (h : tegularef26_Check.f k a0 a1 a2 a3 l4 = some r) :
    Calls Try.prog 17 #[.int .u64 a0, .int .i64 a1, .int .i64 a2, .int .u64 a3, .slice A4 l4.length c4] w fun e w' => e = .returned (.bool r) ∧ Below w.heap.size w w' := by
  have HO4 := Aside0.mk (show Kd.V (Kd.int .u64) 34 w w.heap.size (fun k_ => (P4_ k_ ∨ w.heap.size ≤ k_)) (.slice A4 l4.length c4) l4 from Kd.V_mono hs4 (fun k_ hk => .inl hk))
  have HB := Aside0.mk (Below.refl w.heap.size w)
  have H : (if a1 < 1 then (tegularef26_Check.j0 k a0 a1 a2 a3 l4 true) else (if a1 > 1048576 then (tegularef26_Check.j0 k a0 a1 a2 a3 l4 true) else (if a2 < 0 then (tegularef26_Check.j0 k a0 a1 a2 a3 l4 true) else (tegularef26_Check.j0 k a0 a1 a2 a3 l4 (decide (a2 ≥ a1)))))) = some r := h
  clear h
  have HC6 := Aside0.mk H
  clear H
  go_enter Try.func17, Try.ntmps17
  go_upto_region 1 with (fail)
  go_cut [29] (fun v29 wc => ∃ (kq : Nat) (x29_5 : Bool), v29 = .bool x29_5 ∧ Aside0 (tegularef26_Check.j0 kq a0 a1 a2 a3 l4 x29_5 = some r) ∧ Aside0 (kq ≤ k) ∧ Aside0 (Kd.V (Kd.int .u64) 34 wc w.heap.size (fun k_ => (P4_ k_ ∨ w.heap.size ≤ k_)) (.slice A4 l4.length c4) l4) ∧ Aside0 (Below w.heap.size w wc))
  case first =>
    have H := HC6.out
    clear HC6
    by_cases c7 : a1 < 1
    · rw [if_pos c7] at H
      have c7b0 : decide (a1 < 1) = true := decide_eq_true c7
      clear c7
      (first | rw [c7b0] | (simp only [i64_w, i32_w]; rw [c7b0]) | skip)
      have H' := Aside0.mk H
      clear H
      go_wp2
      go_meet
      case rel => exact ⟨_, (true), (by first | rfl | (simp; done) | (simp [*]; done)), H', ⟨by first | omega | exact Nat.le_refl _⟩, ⟨by (with_reducible repeat (first | apply Kd.V_alloc | apply Kd.V_drewN | apply Kd.V_drew)); exact HO4.out⟩, ⟨by repeat (first | (with_reducible first | exact HB.out | apply below_alloc | apply pw_below_drewN | apply below_drew1) | exact HB.out)⟩⟩
    · rw [if_neg c7] at H
      have c7b0 : decide (a1 < 1) = false := decide_eq_false c7
      clear c7
      (first | rw [c7b0] | (simp only [i64_w, i32_w]; rw [c7b0]) | skip)
      by_cases c8 : a1 > 1048576
      · rw [if_pos c8] at H
        have c8b0 : decide (1048576 < a1) = true := decide_eq_true c8
        clear c8
        have H' := Aside0.mk H
        clear H
        go_wp2
        go_meet
        case rel => exact ⟨_, (true), (by first | rfl | (simp; done) | (simp [*]; done)), H', ⟨by first | omega | exact Nat.le_refl _⟩, ⟨by (with_reducible repeat (first | apply Kd.V_alloc | apply Kd.V_drewN | apply Kd.V_drew)); exact HO4.out⟩, ⟨by repeat (first | (with_reducible first | exact HB.out | apply below_alloc | apply pw_below_drewN | apply below_drew1) | exact HB.out)⟩⟩
      · rw [if_neg c8] at H
        have c8b0 : decide (1048576 < a1) = false := decide_eq_false c8
        clear c8
        by_cases c9 : a2 < 0
        · rw [if_pos c9] at H
          have c9b0 : decide (a2 < 0) = true := decide_eq_true c9
          clear c9
          have H' := Aside0.mk H
          clear H
          go_wp2
          go_meet
          case rel => exact ⟨_, (true), (by first | rfl | (simp; done) | (simp [*]; done)), H', ⟨by first | omega | exact Nat.le_refl _⟩, ⟨by (with_reducible repeat (first | apply Kd.V_alloc | apply Kd.V_drewN | apply Kd.V_drew)); exact HO4.out⟩, ⟨by repeat (first | (with_reducible first | exact HB.out | apply below_alloc | apply pw_below_drewN | apply below_drew1) | exact HB.out)⟩⟩
        · rw [if_neg c9] at H
          have c9b0 : decide (a2 < 0) = false := decide_eq_false c9
          clear c9
          have H' := Aside0.mk H
          clear H
          go_wp2
          go_meet
          case rel => exact ⟨_, (decide (a2 ≥ a1)), (by first | rfl | (simp; done) | (simp [*]; done)), H', ⟨by first | omega | exact Nat.le_refl _⟩, ⟨by (with_reducible repeat (first | apply Kd.V_alloc | apply Kd.V_drewN | apply Kd.V_drew)); exact HO4.out⟩, ⟨by repeat (first | (with_reducible first | exact HB.out | apply below_alloc | apply pw_below_drewN | apply below_drew1) | exact HB.out)⟩⟩
  case rest =>
    clear HC6
    try clear c1
    try clear p2
    try clear c4
    try clear c7
    try clear c7b0
    try clear c8
    try clear c8b0
    try clear c9
    try clear c9b0
    obtain ⟨kq, x29_5, rfl, HA, HJ5, HO_4, HB⟩ := hcut
    cases kq with
    | zero => exact absurd HA.out (by simp [tegularef26_Check.j0])
    | succ kj5 =>
      have H := HA.out
      clear HA
      simp only [tegularef26_Check.j0] at H
      by_cases c10 : x29_5 = true
      · subst c10
        have H1 : (some false) = some r := by rw [if_pos rfl] at H; exact H
        clear H
        have H := H1
        clear H1
        obtain rfl := Option.some.inj H
        go_wp2
        go_ret
        exact ⟨by first | rfl | (simp [errW_none, errW_some] <;> rfl) | (simp [*, errW_none, errW_some] <;> rfl), by repeat (first | (with_reducible first | exact HB.out | apply below_alloc | apply pw_below_drewN | apply below_drew1) | exact HB.out)⟩
      · replace c10 := Bool.eq_false_iff.mpr c10
        subst c10
        have H1 : (tegularef26_Check.l0 kj5 a0 a1 a2 a3 l4 a1) = some r := by rw [if_neg (show ¬ (false = true) by decide)] at H; exact H
        clear H
        have H := H1
        clear H1
        have H' := Aside0.mk H
        clear H
        go_wp2
        go_loopg [2, 3, 4, 11] kj5 (fun kq v2 v3 v4 v11 w' => ∃ (x2_2 : Int) (x3_2 : Int) (x4_2 : List Int) (x11_2 : Int), v2 = .int .i64 x2_2 ∧ v3 = .int .u64 x3_2 ∧ v11 = .int .i64 x11_2 ∧ Aside0 (tegularef26_Check.l0 kq a0 a1 x2_2 x3_2 x4_2 x11_2 = some r) ∧ Aside0 (kq ≤ kj5) ∧ Aside0 (Kd.V (Kd.int .u64) 34 w' w.heap.size (fun k_ => (P4_ k_ ∨ w.heap.size ≤ k_)) v4 x4_2) ∧ Aside0 (Below w.heap.size w w'))
        case atStart => exact ⟨(a2), (a3), (l4), (a1), (by first | rfl | (simp; done) | (simp [*]; done)), (by first | rfl | (simp; done) | (simp [*]; done)), (by first | rfl | (simp; done) | (simp [*]; done)), H', ⟨Nat.le_refl _⟩, ⟨by (with_reducible repeat (first | apply Kd.V_alloc | apply Kd.V_drewN | apply Kd.V_drew)); exact HO_4.out⟩, ⟨by repeat (first | (with_reducible first | exact HB.out | apply below_alloc | apply pw_below_drewN | apply below_drew1) | exact HB.out)⟩⟩
        case round =>
          clear H'
          try clear c1
          try clear p2
          try clear c4
          try clear c7
          try clear c7b0
          try clear c8
          try clear c8b0
          try clear c9
          try clear c9b0
          try clear c10
          try clear p2
          obtain ⟨x2_2, x3_2, x4_2, x11_2, rfl, rfl, rfl, HA, HK2, HO_4, HB⟩ := hrel
          cases gk with
          | zero => exact absurd HA.out (by simp [tegularef26_Check.l0])
          | succ k2 =>
            have H := HA.out
            clear HA
            simp only [tegularef26_Check.l0] at H
            by_cases c11 : x11_2 > 1
            · rw [if_pos c11] at H
              have c11b0 : decide (1 < x11_2) = true := decide_eq_true c11
              clear c11
              obtain ⟨ji12, hji12⟩ : ∃ j_ : Int, (mn 4 (wrap64 (x11_2 - (wrap64 ((wrap64 (Int.tdiv x2_2 4)) * 4))))) = j_ := ⟨_, rfl⟩
              replace H : (if (x4_2.length : Int) < (wrap64 ((ji12) - 1)) then (some false) else (if 0 ≤ (wrap64 (x2_2 - (wrap64 ((wrap64 (Int.tdiv x2_2 4)) * 4)))) then (if (wrap64 (x2_2 - (wrap64 ((wrap64 (Int.tdiv x2_2 4)) * 4)))) ≤ (x4_2.length : Int) then ((some (x4_2.take ((wrap64 (x2_2 - (wrap64 ((wrap64 (Int.tdiv x2_2 4)) * 4)))) : Int).toNat : List Int)).bind fun y214 => (if ([] : List Int).length + y214.length < 17592186044416 then ((some (([] : List Int) ++ y214 : List Int)).bind fun y219 => ((some (([x3_2] : List Int) : List Int)).bind fun y222 => (if y219.length + y222.length < 17592186044416 then ((some (y219 ++ y222 : List Int)).bind fun y225 => (if (wrap64 (x2_2 - (wrap64 ((wrap64 (Int.tdiv x2_2 4)) * 4)))) ≤ (wrap64 ((ji12) - 1)) then (if (wrap64 ((ji12) - 1)) ≤ (x4_2.length : Int) then ((some ((x4_2.take ((wrap64 ((ji12) - 1)) : Int).toNat).drop ((wrap64 (x2_2 - (wrap64 ((wrap64 (Int.tdiv x2_2 4)) * 4)))) : Int).toNat : List Int)).bind fun y228 => (if y225.length + y228.length < 17592186044416 then (if 0 ≤ (wrap64 ((ji12) - 1)) then ((tegularef26_run.f k2 (y225 ++ y228)).bind fun t241 => (tegularef26_Check.l0 k2 a0 a1 (wrap64 (Int.tdiv x2_2 4)) t241 (x4_2.drop ((wrap64 ((ji12) - 1)) : Int).toNat) (wrap64 (Int.tdiv (wrap64 (x11_2 + 3)) 4)))) else (none)) else (none))) else (none)) else (none))) else (none)))) else (none))) else (none)) else (none))) = some r := by first | (rw [hji12] at H; exact H) | (simp only [hji12] at H ⊢; exact H)
              have hji12_ : (if (wrap64 (x11_2 - (wrap64 ((wrap64 (Int.tdiv x2_2 4)) * 4)))) < 4 then (wrap64 (x11_2 - (wrap64 ((wrap64 (Int.tdiv x2_2 4)) * 4)))) else 4) = ji12 := hji12
              by_cases c13 : (x4_2.length : Int) < (wrap64 ((ji12) - 1))
              · rw [if_pos c13] at H
                have c13b0 : decide ((x4_2.length : Int) < (wrap64 ((ji12) - 1))) = true := decide_eq_true c13
                clear c13
                obtain rfl := Option.some.inj H
                obtain ⟨Ao14, co14, eo14⟩ := Kd.V_slice HO_4.out
                subst eo14
                go_wp2
                go_ret
                exact ⟨by first | rfl | (simp [errW_none, errW_some] <;> rfl) | (simp only [← hji12]; first | rfl | (simp [errW_none, errW_some] <;> rfl)) | (simp [*, errW_none, errW_some] <;> rfl), by repeat (first | (with_reducible first | exact HB.out | apply below_alloc | apply pw_below_drewN | apply below_drew1) | exact HB.out)⟩
              · rw [if_neg c13] at H
                have c13b0 : decide ((x4_2.length : Int) < (wrap64 ((ji12) - 1))) = false := decide_eq_false c13
                clear c13
                obtain ⟨ji15, hji15⟩ : ∃ j_ : Int, (wrap64 (x2_2 - (wrap64 ((wrap64 (Int.tdiv x2_2 4)) * 4)))) = j_ := ⟨_, rfl⟩
                replace H : (if 0 ≤ (ji15) then (if (ji15) ≤ (x4_2.length : Int) then ((some (x4_2.take ((ji15) : Int).toNat : List Int)).bind fun y214 => (if ([] : List Int).length + y214.length < 17592186044416 then ((some (([] : List Int) ++ y214 : List Int)).bind fun y219 => ((some (([x3_2] : List Int) : List Int)).bind fun y222 => (if y219.length + y222.length < 17592186044416 then ((some (y219 ++ y222 : List Int)).bind fun y225 => (if (ji15) ≤ (wrap64 ((ji12) - 1)) then (if (wrap64 ((ji12) - 1)) ≤ (x4_2.length : Int) then ((some ((x4_2.take ((wrap64 ((ji12) - 1)) : Int).toNat).drop ((ji15) : Int).toNat : List Int)).bind fun y228 => (if y225.length + y228.length < 17592186044416 then (if 0 ≤ (wrap64 ((ji12) - 1)) then ((tegularef26_run.f k2 (y225 ++ y228)).bind fun t241 => (tegularef26_Check.l0 k2 a0 a1 (wrap64 (Int.tdiv x2_2 4)) t241 (x4_2.drop ((wrap64 ((ji12) - 1)) : Int).toNat) (wrap64 (Int.tdiv (wrap64 (x11_2 + 3)) 4)))) else (none)) else (none))) else (none)) else (none))) else (none)))) else (none))) else (none)) else (none)) = some r := by first | (rw [hji15] at H; exact H) | (simp only [hji15] at H ⊢; exact H)
                have hji15w : (IntKind.i64.wrap (x2_2 - (wrap64 ((wrap64 (Int.tdiv x2_2 4)) * 4)))) = ji15 := (i64_w _).trans hji15
                by_cases c16 : 0 ≤ (ji15)
                · rw [if_pos c16] at H
                  have c16b0 := eq_true c16
                  have c16b1 : decide (0 ≤ (ji15)) = true := decide_eq_true c16
                  clear c16
                  by_cases c17 : (ji15) ≤ (x4_2.length : Int)
                  · rw [if_pos c17] at H
                    have c17b0 := eq_true c17
                    have c17b1 : decide ((ji15) ≤ (x4_2.length : Int)) = true := decide_eq_true c17
                    clear c17
                    obtain ⟨y214, hy214⟩ : ∃ y_ : List Int, y_ = (x4_2.take ((ji15) : Int).toNat) := ⟨_, rfl⟩
                    replace H : (if ([] : List Int).length + y214.length < 17592186044416 then ((some (([] : List Int) ++ y214 : List Int)).bind fun y219 => ((some (([x3_2] : List Int) : List Int)).bind fun y222 => (if y219.length + y222.length < 17592186044416 then ((some (y219 ++ y222 : List Int)).bind fun y225 => (if (ji15) ≤ (wrap64 ((ji12) - 1)) then (if (wrap64 ((ji12) - 1)) ≤ (x4_2.length : Int) then ((some ((x4_2.take ((wrap64 ((ji12) - 1)) : Int).toNat).drop ((ji15) : Int).toNat : List Int)).bind fun y228 => (if y225.length + y228.length < 17592186044416 then (if 0 ≤ (wrap64 ((ji12) - 1)) then ((tegularef26_run.f k2 (y225 ++ y228)).bind fun t241 => (tegularef26_Check.l0 k2 a0 a1 (wrap64 (Int.tdiv x2_2 4)) t241 (x4_2.drop ((wrap64 ((ji12) - 1)) : Int).toNat) (wrap64 (Int.tdiv (wrap64 (x11_2 + 3)) 4)))) else (none)) else (none))) else (none)) else (none))) else (none)))) else (none)) = some r := by first | (rw [hy214]; with_reducible exact H) | (have H2_ := (Option.bind_some _ _).symm.trans H; rw [hy214]; with_reducible exact H2_) | (have H2_ := (Option.bind_some _ _).symm.trans H; with_reducible exact H2_) | with_reducible exact H | (rw [hy214]; exact H) | exact H
                    have Ny214 := Aside0.mk hy214
                    clear hy214
                    by_cases c18 : ([] : List Int).length + y214.length < 17592186044416
                    · rw [if_pos c18] at H
                      have LMc18 := Aside0.mk c18
                      clear c18
                      obtain ⟨y219, hy219⟩ : ∃ y_ : List Int, y_ = (([] : List Int) ++ y214) := ⟨_, rfl⟩
                      replace H : ((some (([x3_2] : List Int) : List Int)).bind fun y222 => (if y219.length + y222.length < 17592186044416 then ((some (y219 ++ y222 : List Int)).bind fun y225 => (if (ji15) ≤ (wrap64 ((ji12) - 1)) then (if (wrap64 ((ji12) - 1)) ≤ (x4_2.length : Int) then ((some ((x4_2.take ((wrap64 ((ji12) - 1)) : Int).toNat).drop ((ji15) : Int).toNat : List Int)).bind fun y228 => (if y225.length + y228.length < 17592186044416 then (if 0 ≤ (wrap64 ((ji12) - 1)) then ((tegularef26_run.f k2 (y225 ++ y228)).bind fun t241 => (tegularef26_Check.l0 k2 a0 a1 (wrap64 (Int.tdiv x2_2 4)) t241 (x4_2.drop ((wrap64 ((ji12) - 1)) : Int).toNat) (wrap64 (Int.tdiv (wrap64 (x11_2 + 3)) 4)))) else (none)) else (none))) else (none)) else (none))) else (none))) = some r := by first | (rw [hy219]; with_reducible exact H) | (have H2_ := (Option.bind_some _ _).symm.trans H; rw [hy219]; with_reducible exact H2_) | (have H2_ := (Option.bind_some _ _).symm.trans H; with_reducible exact H2_) | with_reducible exact H | (rw [hy219]; exact H) | exact H
                      have Ny219 := Aside0.mk hy219
                      clear hy219
                      obtain ⟨y222, hy222⟩ : ∃ y_ : List Int, y_ = (([x3_2] : List Int)) := ⟨_, rfl⟩
                      replace H : (if y219.length + y222.length < 17592186044416 then ((some (y219 ++ y222 : List Int)).bind fun y225 => (if (ji15) ≤ (wrap64 ((ji12) - 1)) then (if (wrap64 ((ji12) - 1)) ≤ (x4_2.length : Int) then ((some ((x4_2.take ((wrap64 ((ji12) - 1)) : Int).toNat).drop ((ji15) : Int).toNat : List Int)).bind fun y228 => (if y225.length + y228.length < 17592186044416 then (if 0 ≤ (wrap64 ((ji12) - 1)) then ((tegularef26_run.f k2 (y225 ++ y228)).bind fun t241 => (tegularef26_Check.l0 k2 a0 a1 (wrap64 (Int.tdiv x2_2 4)) t241 (x4_2.drop ((wrap64 ((ji12) - 1)) : Int).toNat) (wrap64 (Int.tdiv (wrap64 (x11_2 + 3)) 4)))) else (none)) else (none))) else (none)) else (none))) else (none)) = some r := by first | (rw [hy222]; with_reducible exact H) | (have H2_ := (Option.bind_some _ _).symm.trans H; rw [hy222]; with_reducible exact H2_) | (have H2_ := (Option.bind_some _ _).symm.trans H; with_reducible exact H2_) | with_reducible exact H | (rw [hy222]; exact H) | exact H
                      have Ny222 := Aside0.mk hy222
                      clear hy222
                      by_cases c19 : y219.length + y222.length < 17592186044416
                      · rw [if_pos c19] at H
                        have LMc19 := Aside0.mk c19
                        clear c19
                        obtain ⟨y225, hy225⟩ : ∃ y_ : List Int, y_ = (y219 ++ y222) := ⟨_, rfl⟩
                        replace H : (if (ji15) ≤ (wrap64 ((ji12) - 1)) then (if (wrap64 ((ji12) - 1)) ≤ (x4_2.length : Int) then ((some ((x4_2.take ((wrap64 ((ji12) - 1)) : Int).toNat).drop ((ji15) : Int).toNat : List Int)).bind fun y228 => (if y225.length + y228.length < 17592186044416 then (if 0 ≤ (wrap64 ((ji12) - 1)) then ((tegularef26_run.f k2 (y225 ++ y228)).bind fun t241 => (tegularef26_Check.l0 k2 a0 a1 (wrap64 (Int.tdiv x2_2 4)) t241 (x4_2.drop ((wrap64 ((ji12) - 1)) : Int).toNat) (wrap64 (Int.tdiv (wrap64 (x11_2 + 3)) 4)))) else (none)) else (none))) else (none)) else (none)) = some r := by first | (rw [hy225]; with_reducible exact H) | (have H2_ := (Option.bind_some _ _).symm.trans H; rw [hy225]; with_reducible exact H2_) | (have H2_ := (Option.bind_some _ _).symm.trans H; with_reducible exact H2_) | with_reducible exact H | (rw [hy225]; exact H) | exact H
                        have Ny225 := Aside0.mk hy225
                        clear hy225
                        have c20b0 := eq_true (of_decide_eq_true (by first | (with_reducible assumption) | assumption) : 0 ≤ (ji15))
                        by_cases c21 : (ji15) ≤ (wrap64 ((ji12) - 1))
                        · rw [if_pos c21] at H
                          have c21b0 := eq_true c21
                          have c21b1 : decide ((ji15) ≤ (wrap64 ((ji12) - 1))) = true := decide_eq_true c21
                          clear c21
                          by_cases c22 : (wrap64 ((ji12) - 1)) ≤ (x4_2.length : Int)
                          · rw [if_pos c22] at H
                            have c22b0 := eq_true c22
                            have c22b1 : decide ((wrap64 ((ji12) - 1)) ≤ (x4_2.length : Int)) = true := decide_eq_true c22
                            clear c22
                            obtain ⟨y228, hy228⟩ : ∃ y_ : List Int, y_ = ((x4_2.take ((wrap64 ((ji12) - 1)) : Int).toNat).drop ((ji15) : Int).toNat) := ⟨_, rfl⟩
                            replace H : (if y225.length + y228.length < 17592186044416 then (if 0 ≤ (wrap64 ((ji12) - 1)) then ((tegularef26_run.f k2 (y225 ++ y228)).bind fun t241 => (tegularef26_Check.l0 k2 a0 a1 (wrap64 (Int.tdiv x2_2 4)) t241 (x4_2.drop ((wrap64 ((ji12) - 1)) : Int).toNat) (wrap64 (Int.tdiv (wrap64 (x11_2 + 3)) 4)))) else (none)) else (none)) = some r := by first | (rw [hy228]; with_reducible exact H) | (have H2_ := (Option.bind_some _ _).symm.trans H; rw [hy228]; with_reducible exact H2_) | (have H2_ := (Option.bind_some _ _).symm.trans H; with_reducible exact H2_) | with_reducible exact H | (rw [hy228]; exact H) | exact H
                            have Ny228 := Aside0.mk hy228
                            clear hy228
                            by_cases c23 : y225.length + y228.length < 17592186044416
                            · rw [if_pos c23] at H
                              have LMc23 := Aside0.mk c23
                              clear c23
                              obtain ⟨y233, hy233⟩ : ∃ y_ : List Int, y_ = (y225 ++ y228) := ⟨_, rfl⟩
                              replace H : (if 0 ≤ (wrap64 ((ji12) - 1)) then ((tegularef26_run.f k2 y233).bind fun t241 => (tegularef26_Check.l0 k2 a0 a1 (wrap64 (Int.tdiv x2_2 4)) t241 (x4_2.drop ((wrap64 ((ji12) - 1)) : Int).toNat) (wrap64 (Int.tdiv (wrap64 (x11_2 + 3)) 4)))) else (none)) = some r := by first | (rw [hy233]; with_reducible exact H) | (have H2_ := (Option.bind_some _ _).symm.trans H; rw [hy233]; with_reducible exact H2_) | (have H2_ := (Option.bind_some _ _).symm.trans H; with_reducible exact H2_) | with_reducible exact H | (rw [hy233]; exact H) | exact H
                              have Ny233 := Aside0.mk hy233
                              clear hy233
                              obtain ⟨ji24, hji24⟩ : ∃ j_ : Int, (wrap64 ((ji12) - 1)) = j_ := ⟨_, rfl⟩
                              replace H : (if 0 ≤ (ji24) then ((tegularef26_run.f k2 y233).bind fun t241 => (tegularef26_Check.l0 k2 a0 a1 (wrap64 (Int.tdiv x2_2 4)) t241 (x4_2.drop ((ji24) : Int).toNat) (wrap64 (Int.tdiv (wrap64 (x11_2 + 3)) 4)))) else (none)) = some r := by first | (rw [hji24] at H; exact H) | (simp only [hji24] at H ⊢; exact H)
                              (try rw [hji24] at c13b0)
                              (try rw [hji24] at c21b0)
                              (try rw [hji24] at c21b1)
                              (try rw [hji24] at c22b0)
                              (try rw [hji24] at c22b1)
                              (try rw [hji24] at Ny228)
                              (try rw [hji24] at Ny228)
                              have hji24w : (IntKind.i64.wrap ((ji12) - 1)) = ji24 := (i64_w _).trans hji24
                              by_cases c25 : 0 ≤ (ji24)
                              · rw [if_pos c25] at H
                                have c25b0 := eq_true c25
                                have c25b1 : decide (0 ≤ (ji24)) = true := decide_eq_true c25
                                clear c25
                                have c26b0 := eq_true (of_decide_eq_true (by first | (with_reducible assumption) | assumption) : (ji24) ≤ (x4_2.length : Int))
                                obtain ⟨y236, hy236⟩ : ∃ y_ : List Int, y_ = (x4_2.drop ((ji24) : Int).toNat) := ⟨_, rfl⟩
                                replace H : ((tegularef26_run.f k2 y233).bind fun t241 => (tegularef26_Check.l0 k2 a0 a1 (wrap64 (Int.tdiv x2_2 4)) t241 y236 (wrap64 (Int.tdiv (wrap64 (x11_2 + 3)) 4)))) = some r := by first | (rw [hy236]; with_reducible exact H) | (have H2_ := (Option.bind_some _ _).symm.trans H; rw [hy236]; with_reducible exact H2_) | (have H2_ := (Option.bind_some _ _).symm.trans H; with_reducible exact H2_) | with_reducible exact H | (rw [hy236]; exact H) | exact H
                                have Ny236 := Aside0.mk hy236
                                clear hy236
                                replace H := Option.bind_eq_some_iff.mp H
                                obtain ⟨t241, A270, H⟩ := H
                                replace H : (tegularef26_Check.l0 k2 a0 a1 (wrap64 (Int.tdiv x2_2 4)) t241 y236 (wrap64 (Int.tdiv (wrap64 (x11_2 + 3)) 4))) = some r := H
                                have A27 := Aside0.mk A270
                                clear A270
                                have H' := Aside0.mk H
                                clear H
                                obtain ⟨Ao28, co28, eo28⟩ := Kd.V_slice HO_4.out
                                subst eo28
                                try go_wp2
                                have n0_ := Aside0.mk (Kd.V_drew HO_4.out)
                                have n1_ := Aside0.mk (below_drew1 HB.out)
                                clear HO_4
                                clear HB
                                have HO_4 := n0_
                                have HB := n1_
                                clear n0_ n1_
                                have q30 : ((ji15) : Int) ≤ ((x4_2.length : Int) : Int) := of_decide_eq_true (by first | (with_reducible assumption) | assumption)
                                obtain ⟨i030, hi030, _, hsz30, _⟩ := info_parts info34
                                have hroom30 : x4_2.length ≤ co28 := (Kd.V_reads' HO_4.out).2.1
                                have hC30 : Kd.F (Kd.int .u64) _ _ Ao28 x4_2.length x4_2 := (Kd.V_at (base := w.heap.size) HO_4.out).2.2
                                have hcut30 := cut_to (P := Try.prog) 22 34 .i64 Try.underlying22 hi030 Ao28 x4_2.length co28 (ji15) (of_decide_eq_true (by first | (with_reducible assumption) | assumption)) q30 hroom30
                                have hr30 := Kd.F_take (m := ((ji15) : Int).toNat) hC30 (by omega)
                                have hy30 : y214.length = ((ji15) : Int).toNat := (by rw [Ny214.out, List.length_take]; omega)
                                rw [← Ny214.out] at hr30
                                rw [← hy30] at hcut30
                                have HO218 := Aside0.mk (show Kd.V (Kd.int .u64) 34 _ w.heap.size _ (.slice Ao28 y214.length co28) y214 from Kd.V_mk (by omega) hr30)
                                have HC218 := Aside0.mk (show y214.length ≤ co28 from by omega)
                                clear hr30 hC30 hroom30 hi030 hsz30
                                have KY30 := Aside0.mk hy30
                                clear hy30
                                replace q30 := eq_true q30
                                have q31 : ((ji24) : Int) ≤ ((x4_2.length : Int) : Int) := of_decide_eq_true (by first | (with_reducible assumption) | assumption)
                                obtain ⟨i031, hi031, _, hsz31, _⟩ := info_parts info34
                                have hroom31 : x4_2.length ≤ co28 := (Kd.V_reads' HO_4.out).2.1
                                have hC31 : Kd.F (Kd.int .u64) _ _ Ao28 x4_2.length x4_2 := (Kd.V_at (base := w.heap.size) HO_4.out).2.2
                                have ql31 : ((ji15) : Int) ≤ ((ji24) : Int) := of_decide_eq_true (by first | (with_reducible assumption) | assumption)
                                have q031 : (0 : Int) ≤ ((ji15) : Int) := of_decide_eq_true (by first | (with_reducible assumption) | assumption)
                                have hcut31 := cut_mid (P := Try.prog) 22 34 .i64 .i64 Try.underlying22 hi031 1 hsz31 Ao28 x4_2.length co28 (ji15) (ji24) q031 ql31 q31 hroom31
                                have hr31 := Kd.F_mid (lo := ((ji15) : Int).toNat) (hi := ((ji24) : Int).toNat) (c := co28) hC31 (by omega) (by omega) hroom31
                                obtain ⟨A31, hA31⟩ : ∃ A1, A1 = (if co28 = ((ji15) : Int).toNat then Ao28 else (Ao28 : Option Addr).map (·.add (((ji15) : Int).toNat * 1))) := ⟨_, rfl⟩
                                obtain ⟨c31, hc31⟩ : ∃ c1, c1 = co28 - ((ji15) : Int).toNat := ⟨_, rfl⟩
                                have hy31 : y228.length = ((ji24) : Int).toNat - ((ji15) : Int).toNat := (by rw [Ny228.out, List.length_drop, List.length_take] <;> omega)
                                rw [show ((x4_2).take ((ji24) : Int).toNat).drop ((ji15) : Int).toNat = y228 from Ny228.out.symm] at hr31
                                replace hr31 : Kd.F (Kd.int .u64) _ _ A31 y228.length y228 := (by rw [hA31]; exact hr31)
                                rw [← hy31, ← hA31, ← hc31] at hcut31
                                have HO232 := Aside0.mk (show Kd.V (Kd.int .u64) 34 _ w.heap.size _ (.slice A31 y228.length c31) y228 from Kd.V_mk (by rw [hy31, hc31]; exact Nat.sub_le_sub_right (Nat.le_trans (by omega) hroom31) _) hr31)
                                have HC232 := Aside0.mk (show y228.length ≤ c31 from by rw [hy31, hc31]; exact Nat.sub_le_sub_right (Nat.le_trans (by omega) hroom31) _)
                                clear hr31 hC31 hroom31 hi031 hsz31 hc31
                                have KY31 := Aside0.mk hy31
                                have KA31 := Aside0.mk hA31
                                clear hy31 hA31
                                replace q31 := eq_true q31
                                refine start_ (n := 19) (S := fun w' => True) (ds := []) #[false, false, false, false, false, false, false, false, false, false, false, false, false, false, false, false, false, false, false] (by kernel_rfl) rfl rfl trivial (fun hHeld => ?_); refine with_tabW tegularef26_Check.tab10 tegularef26_Check.bits10 (fun HT_ HW_ => ?_)
                                generalize wr.drew = w29 at HO_4 HB HO218 HO232 hHeld ⊢
                                refine pure_ (i := 0) (N := some 45) (v := ?_) (a' := ?_) #[true, false, false, false, false, false, false, false, false, false, false, false, false, false, false, false, false, false, false] rfl rfl (any_of HT_.out (by kernel_rfl)) (fun _ _ _ h => h) (Or.inl ⟨by rfl, ?_⟩) ?_ ?_
                                rotate_left
                                · intro w'
                                  go_simp
                                  with_reducible rfl
                                rotate_left
                                · simp only [Act.put, List.setIfInBounds_toArray, List.set_cons_zero, List.set_cons_succ, i64_w, i32_w]
                                  rfl
                                refine pure_ (i := 1) (N := some 46) (v := ?_) (a' := ?_) #[true, true, false, false, false, false, false, false, false, false, false, false, false, false, false, false, false, false, false] rfl rfl (any_of HT_.out (by kernel_rfl)) (fun _ _ _ h => h) (Or.inl ⟨by rfl, ?_⟩) ?_ ?_
                                rotate_left
                                · intro w'
                                  go_simp
                                  with_reducible rfl
                                rotate_left
                                · simp only [Act.put, List.setIfInBounds_toArray, List.set_cons_zero, List.set_cons_succ, i64_w, i32_w]
                                  rfl
                                refine pure_ (i := 2) (N := some 47) (v := ?_) (a' := ?_) #[true, true, true, false, false, false, false, false, false, false, false, false, false, false, false, false, false, false, false] rfl rfl (any_of HT_.out (by kernel_rfl)) (fun _ _ _ h => h) (Or.inl ⟨by rfl, ?_⟩) ?_ ?_
                                rotate_left
                                · intro w'
                                  go_simp
                                  with_reducible rfl
                                rotate_left
                                · simp only [Act.put, List.setIfInBounds_toArray, List.set_cons_zero, List.set_cons_succ, i64_w, i32_w]
                                  rfl
                                refine pure_ (i := 3) (N := some 48) (v := ?_) (a' := ?_) #[true, true, true, true, false, false, false, false, false, false, false, false, false, false, false, false, false, false, false] rfl rfl (any_of HT_.out (by kernel_rfl)) (fun _ _ _ h => h) (Or.inl ⟨by rfl, ?_⟩) ?_ ?_
                                rotate_left
                                · intro w'
                                  go_simp
                                  with_reducible rfl
                                rotate_left
                                · simp only [Act.put, List.setIfInBounds_toArray, List.set_cons_zero, List.set_cons_succ, i64_w, i32_w]
                                  rfl
                                refine pure_ (i := 4) (N := some 49) (v := ?_) (a' := ?_) #[true, true, true, true, true, false, false, false, false, false, false, false, false, false, false, false, false, false, false] rfl rfl (any_of HT_.out (by kernel_rfl)) (fun _ _ _ h => h) (Or.inl ⟨by rfl, ?_⟩) ?_ ?_
                                rotate_left
                                · intro w'
                                  go_simp
                                  with_reducible rfl
                                rotate_left
                                · simp only [Act.put, List.setIfInBounds_toArray, List.set_cons_zero, List.set_cons_succ, i64_w, i32_w]
                                  rfl
                                refine pure_ (i := 5) (N := some 50) (v := ?_) (a' := ?_) #[true, true, true, true, true, true, false, false, false, false, false, false, false, false, false, false, false, false, false] rfl rfl (any_of HT_.out (by kernel_rfl)) (fun _ _ _ h => h) (Or.inl ⟨by rfl, ?_⟩) ?_ ?_
                                rotate_left
                                · intro w'
                                  go_simp
                                  with_reducible rfl
                                rotate_left
                                · simp only [Act.put, List.setIfInBounds_toArray, List.set_cons_zero, List.set_cons_succ, i64_w, i32_w]
                                  rfl
                                refine pure_ (i := 7) (N := some 52) (v := ?_) (a' := ?_) #[true, true, true, true, true, true, false, true, false, false, false, false, false, false, false, false, false, false, false] rfl rfl (any_of HT_.out (by kernel_rfl)) (fun _ _ _ h => h) (Or.inl ⟨by rfl, ?_⟩) ?_ ?_
                                rotate_left
                                · intro w'
                                  go_simp
                                  with_reducible rfl
                                rotate_left
                                · simp only [Act.put, List.setIfInBounds_toArray, List.set_cons_zero, List.set_cons_succ, i64_w, i32_w]
                                  rfl
                                refine pure_ (i := 10) (N := some 55) (v := ?_) (a' := ?_) #[true, true, true, true, true, true, false, true, false, false, true, false, false, false, false, false, false, false, false] rfl rfl (any_of HT_.out (by kernel_rfl)) (fun _ _ _ h => h) (Or.inl ⟨by rfl, ?_⟩) ?_ ?_
                                rotate_left
                                · intro w'
                                  go_simp
                                  with_reducible rfl
                                rotate_left
                                · simp only [Act.put, List.setIfInBounds_toArray, List.set_cons_zero, List.set_cons_succ, i64_w, i32_w]
                                  rfl
                                refine pure_ (i := 11) (N := some 56) (v := ?_) (a' := ?_) #[true, true, true, true, true, true, false, true, false, false, true, true, false, false, false, false, false, false, false] rfl rfl (any_of HT_.out (by kernel_rfl)) (fun _ _ _ h => h) (Or.inl ⟨by rfl, ?_⟩) ?_ ?_
                                rotate_left
                                · intro w'
                                  go_simp
                                  with_reducible rfl
                                rotate_left
                                · simp only [Act.put, List.setIfInBounds_toArray, List.set_cons_zero, List.set_cons_succ, i64_w, i32_w]
                                  rfl
                                refine pure_ (i := 12) (N := some 57) (v := ?_) (a' := ?_) #[true, true, true, true, true, true, false, true, false, false, true, true, true, false, false, false, false, false, false] rfl rfl (any_of HT_.out (by kernel_rfl)) (fun _ _ _ h => h) (Or.inl ⟨by rfl, ?_⟩) ?_ ?_
                                rotate_left
                                · intro w'
                                  go_simp
                                  with_reducible rfl
                                rotate_left
                                · simp only [Act.put, List.setIfInBounds_toArray, List.set_cons_zero, List.set_cons_succ, i64_w, i32_w]
                                  rfl
                                refine pure_ (i := 13) (N := some 58) (v := ?_) (a' := ?_) #[true, true, true, true, true, true, false, true, false, false, true, true, true, true, false, false, false, false, false] rfl rfl (any_of HT_.out (by kernel_rfl)) (fun _ _ _ h => h) (Or.inl ⟨by rfl, ?_⟩) ?_ ?_
                                rotate_left
                                · intro w'
                                  go_simp
                                  with_reducible rfl
                                rotate_left
                                · simp only [Act.put, List.setIfInBounds_toArray, List.set_cons_zero, List.set_cons_succ, i64_w, i32_w]
                                  rfl
                                refine pure_ (i := 14) (N := some 59) (v := ?_) (a' := ?_) #[true, true, true, true, true, true, false, true, false, false, true, true, true, true, true, false, false, false, false] rfl rfl (any_of HT_.out (by kernel_rfl)) (fun _ _ _ h => h) (Or.inl ⟨by rfl, ?_⟩) ?_ ?_
                                rotate_left
                                · intro w'
                                  go_simp
                                  with_reducible rfl
                                rotate_left
                                · simp only [Act.put, List.setIfInBounds_toArray, List.set_cons_zero, List.set_cons_succ, i64_w, i32_w]
                                  rfl
                                refine pure_ (i := 15) (N := some 60) (v := ?_) (a' := ?_) #[true, true, true, true, true, true, false, true, false, false, true, true, true, true, true, true, false, false, false] rfl rfl (any_of HT_.out (by kernel_rfl)) (fun _ _ _ h => h) (Or.inl ⟨by rfl, ?_⟩) ?_ ?_
                                rotate_left
                                · intro w'
                                  go_simp
                                  with_reducible rfl
                                rotate_left
                                · simp only [Act.put, List.setIfInBounds_toArray, List.set_cons_zero, List.set_cons_succ, i64_w, i32_w]
                                  rfl
                                refine pure_ (i := 16) (N := some 61) (v := ?_) (a' := ?_) #[true, true, true, true, true, true, false, true, false, false, true, true, true, true, true, true, true, false, false] rfl rfl (any_of HT_.out (by kernel_rfl)) (fun _ _ _ h => h) (Or.inl ⟨by rfl, ?_⟩) ?_ ?_
                                rotate_left
                                · intro w'
                                  go_simp
                                  with_reducible rfl
                                rotate_left
                                · simp only [Act.put, List.setIfInBounds_toArray, List.set_cons_zero, List.set_cons_succ, i64_w, i32_w]
                                  rfl
                                refine join_ (σ := Value × Value) 3 #[true, true, true, true, true, true, true, true, true, false, true, true, true, true, true, true, true, false, false] (fun s_ => [(51, s_.1), (53, s_.2)]) (fun s_ w' => (Kd.V (Kd.int .u64) 34 w' w.heap.size (fun k_ => (P4_ k_ ∨ w.heap.size ≤ k_) ∧ some k_ ≠ (s_.1 : Value).ownBlock ∧ some k_ ≠ (s_.2 : Value).ownBlock) (.slice Ao28 y214.length co28) y214) ∧ (Kd.R (Kd.int .u64) 34 w' w.heap.size (fun k_ => (w.heap.size ≤ k_) ∧ some k_ ≠ (s_.2 : Value).ownBlock) s_.1 y219) ∧ (Kd.R (Kd.int .u64) 34 w' w.heap.size (fun k_ => (w.heap.size ≤ k_) ∧ some k_ ≠ (s_.1 : Value).ownBlock) s_.2 y222) ∧ (Kd.V (Kd.int .u64) 34 w' w.heap.size (fun k_ => (P4_ k_ ∨ w.heap.size ≤ k_) ∧ some k_ ≠ (s_.1 : Value).ownBlock ∧ some k_ ≠ (s_.2 : Value).ownBlock) (.slice A31 y228.length c31) y228) ∧ (Kd.V (Kd.int .u64) 34 w' w.heap.size (fun k_ => (P4_ k_ ∨ w.heap.size ≤ k_) ∧ some k_ ≠ (s_.1 : Value).ownBlock ∧ some k_ ≠ (s_.2 : Value).ownBlock) (.slice Ao28 x4_2.length co28) x4_2) ∧ (Below w.heap.size w w')) ?_ ?_
                                rotate_left
                                · intro hCont
                                  refine two_ (i := 6) (j := 8) (Ni := some 51) (Nj := some 53) #[true, true, true, true, true, true, true, true, false, false, true, true, true, true, true, true, true, false, false] #[true, true, true, true, true, true, false, true, true, false, true, true, true, true, true, true, true, false, false] rfl rfl rfl rfl (two_of HT_.out (by kernel_rfl)) (by decide) (by decide) (fun K hK => ?_) (fun K hK => ?_)
                                  · skip
                                    refine Kd.R_append_rows_step (Kd.int .u64) (w0 := w) w.heap.size (by rfl) (.tmp 45) (.tmp 50) 22 34 (.int .u64 0) 8 rfl Try.underlying22 info34 rfl (by decide) (by omega) (.slice none 0 0) ([] : List Int) y214 _ _ _ (fun k_ => (w.heap.size ≤ k_)) (fun _ => False) rfl rfl ?aO ?aR (fun _ _ h => h) (fun _ h => h.elim) ?aF ?aB ?aS ?aL ?_
                                    (case aR => repeat (first | exact (Kd.V_reads' HO218.out).2.2 | (with_reducible refine Kd.C_alloc ?_ _) | (with_reducible refine Kd.C_drewN ?_ _) | (with_reducible refine Kd.C_drew ?_)))
                                    (case aB => exact (by repeat (first | (with_reducible first | exact HB.out | apply below_alloc | apply pw_below_drewN | apply below_drew1) | exact HB.out)))
                                    (case aF => exact (fun k_ hk => (Nat.le_trans (below_size (by repeat (first | (with_reducible first | exact HB.out | apply below_alloc | apply pw_below_drewN | apply below_drew1) | exact HB.out))) hk)))
                                    (case aO => exact ((Kd.R_nil _ _ _ _ (fun k_ => (w.heap.size ≤ k_)))))
                                    (case aS => exact (below_size (by repeat (first | (with_reducible first | exact HB.out | apply below_alloc | apply pw_below_drewN | apply below_drew1) | exact HB.out))))
                                    (case aL => have := LMc18.out; omega)
                                    intro v220 w32 ho hb hg hat
                                    rw [← Ny219.out] at ho
                                    have n0_ := Aside0.mk (Kd.V_afterv (Kd.V_apart_nil (by (with_reducible repeat (first | apply Kd.V_alloc | apply Kd.V_drewN | apply Kd.V_drew)); exact HO_4.out)) hg hat)
                                    have n1_ := Aside0.mk (Kd.V_afterv (Kd.V_apart_nil (by (with_reducible repeat (first | apply Kd.V_alloc | apply Kd.V_drewN | apply Kd.V_drew)); exact HO218.out)) hg hat)
                                    have n2_ := Aside0.mk (Kd.V_afterv (Kd.V_apart_nil (by (with_reducible repeat (first | apply Kd.V_alloc | apply Kd.V_drewN | apply Kd.V_drew)); exact HO232.out)) hg hat)
                                    have n3_ := Aside0.mk (hb)
                                    have n4_ := Aside0.mk (ho)
                                    clear HO_4
                                    clear HO218
                                    clear HO232
                                    clear HB
                                    have HO_4 := n0_
                                    have HO218 := n1_
                                    have HO232 := n2_
                                    have HB := n3_
                                    have HO221 := n4_
                                    clear n0_ n1_ n2_ n3_ n4_
                                    clear ho hb hg hat
                                    refine hK.out _ _ trivial (fun hHeld => ?_)
                                    clear hK K
                                    refine norm_ (a' := ?_) ?_ ?_
                                    rotate_left
                                    · show Act.put _ (some 51) _ = _
                                      simp only [Act.put, List.setIfInBounds_toArray, List.set_cons_zero, List.set_cons_succ, i64_w, i32_w]
                                      rfl
                                    refine one_ (i := 8) (N := some 53) #[true, true, true, true, true, true, true, true, true, false, true, true, true, true, true, true, true, false, false] rfl rfl (one_of HT_.out (by kernel_rfl)) (by decide) (fun K hK => ?_)
                                    refine Kd.R_lit_step (Kd.int .u64) _ 34 ?hg (N := 53) ?hd (xs := ([x3_2] : List Int)) (inner := [.int .u64 x3_2]) (ok := fun _ => True) (okp := fun _ => True) ?hr ?hp (fun _ hk => hk) trivial (Below.refl _ _) (Nat.le_refl _) (by simp) ?_; (case hd => rfl); (case hg => rfl); (case hr => first | (go_simp; done) | (go_simp; rfl)); (case hp => exact (Reps.one (show Kd.M (Kd.int .u64) _ _ _ x3_2 [.int .u64 x3_2] from rfl) (Reps.none _ _)))
                                    intro v223 w33 ho34 hb hg_ hnew_
                                    clear hg_ hnew_
                                    (first | rw [← Ny222.out] at ho34 | (simp only [Int.reduceToNat] at ho34; rw [← Ny222.out] at ho34))
                                    have n0_ := Aside0.mk (Kd.V_elder' (by (with_reducible repeat (first | apply Kd.V_alloc | apply Kd.V_drewN | apply Kd.V_drew)); exact HO_4.out) (Kd.R_base ho34) hb)
                                    have n1_ := Aside0.mk (Kd.V_elder' (by (with_reducible repeat (first | apply Kd.V_alloc | apply Kd.V_drewN | apply Kd.V_drew)); exact HO218.out) (Kd.R_base ho34) hb)
                                    have n2_ := Aside0.mk (Kd.V_elder' (by (with_reducible repeat (first | apply Kd.V_alloc | apply Kd.V_drewN | apply Kd.V_drew)); exact HO232.out) (Kd.R_base ho34) hb)
                                    have n3_ := Aside0.mk (Kd.R_elder' (by (with_reducible repeat (first | apply Kd.R_alloc | apply Kd.R_drewN | apply Kd.R_drew)); exact HO221.out) (Kd.R_base ho34) hb)
                                    have n4_ := Aside0.mk (Kd.R_lower (Kd.R_new' (Kd.R_newM (M := fun k_ => (w.heap.size ≤ k_)) ho34 (below_size (by repeat (first | (with_reducible first | exact HB.out | apply below_alloc | apply pw_below_drewN | apply below_drew1) | exact HB.out))) (fun k_ h_ => h_)) (Kd.R_lt (by (with_reducible repeat (first | apply Kd.R_alloc | apply Kd.R_drewN | apply Kd.R_drew)); exact HO221.out))) (below_size (by repeat (first | (with_reducible first | exact HB.out | apply below_alloc | apply pw_below_drewN | apply below_drew1) | exact HB.out))))
                                    have n5_ := Aside0.mk (below_step (by repeat (first | (with_reducible first | exact HB.out | apply below_alloc | apply pw_below_drewN | apply below_drew1) | exact HB.out)) hb)
                                    clear HO_4
                                    clear HO218
                                    clear HO232
                                    clear HO221
                                    clear HB
                                    have HO_4 := n0_
                                    have HO218 := n1_
                                    have HO232 := n2_
                                    have HO221 := n3_
                                    have HO224 := n4_
                                    have HB := n5_
                                    clear n0_ n1_ n2_ n3_ n4_ n5_
                                    clear hb ho34
                                    refine hK.out _ _ trivial (fun hHeld => ?_)
                                    clear hK K
                                    refine norm_ (a' := ?_) ?_ ?_
                                    rotate_left
                                    · show Act.put _ (some 53) _ = _
                                      simp only [Act.put, List.setIfInBounds_toArray, List.set_cons_zero, List.set_cons_succ, i64_w, i32_w]
                                      rfl
                                    exact norm_ (by simp only [putAll, Act.put, List.setIfInBounds_toArray, List.set_cons_zero, List.set_cons_succ]) (hCont (v220, v223) _ ⟨(by (with_reducible repeat (first | apply Kd.V_alloc | apply Kd.V_drewN | apply Kd.V_drew)); exact Kd.V_mono HO218.out (fun _ hk => ⟨hk.1.1, ⟨hk.1.2, hk.2⟩⟩)), (by (with_reducible repeat (first | apply Kd.R_alloc | apply Kd.R_drewN | apply Kd.R_drew)); exact HO221.out), (by (with_reducible repeat (first | apply Kd.R_alloc | apply Kd.R_drewN | apply Kd.R_drew)); exact Kd.R_mono HO224.out (fun _ hk => ⟨hk.1.1, hk.2⟩)), (by (with_reducible repeat (first | apply Kd.V_alloc | apply Kd.V_drewN | apply Kd.V_drew)); exact Kd.V_mono HO232.out (fun _ hk => ⟨hk.1.1, ⟨hk.1.2, hk.2⟩⟩)), (by (with_reducible repeat (first | apply Kd.V_alloc | apply Kd.V_drewN | apply Kd.V_drew)); exact Kd.V_mono HO_4.out (fun _ hk => ⟨hk.1.1, ⟨hk.1.2, hk.2⟩⟩)), (by repeat (first | (with_reducible first | exact HB.out | apply below_alloc | apply pw_below_drewN | apply below_drew1) | exact HB.out))⟩)
                                  · skip
                                    refine Kd.R_lit_step (Kd.int .u64) _ 34 ?hg (N := 53) ?hd (xs := ([x3_2] : List Int)) (inner := [.int .u64 x3_2]) (ok := fun _ => True) (okp := fun _ => True) ?hr ?hp (fun _ hk => hk) trivial (Below.refl _ _) (Nat.le_refl _) (by simp) ?_; (case hd => rfl); (case hg => rfl); (case hr => first | (go_simp; done) | (go_simp; rfl)); (case hp => exact (Reps.one (show Kd.M (Kd.int .u64) _ _ _ x3_2 [.int .u64 x3_2] from rfl) (Reps.none _ _)))
                                    intro v223 w32 ho33 hb hg_ hnew_
                                    clear hg_ hnew_
                                    (first | rw [← Ny222.out] at ho33 | (simp only [Int.reduceToNat] at ho33; rw [← Ny222.out] at ho33))
                                    have n0_ := Aside0.mk (Kd.V_elder' (by (with_reducible repeat (first | apply Kd.V_alloc | apply Kd.V_drewN | apply Kd.V_drew)); exact HO_4.out) (Kd.R_base ho33) hb)
                                    have n1_ := Aside0.mk (Kd.V_elder' (by (with_reducible repeat (first | apply Kd.V_alloc | apply Kd.V_drewN | apply Kd.V_drew)); exact HO218.out) (Kd.R_base ho33) hb)
                                    have n2_ := Aside0.mk (Kd.V_elder' (by (with_reducible repeat (first | apply Kd.V_alloc | apply Kd.V_drewN | apply Kd.V_drew)); exact HO232.out) (Kd.R_base ho33) hb)
                                    have n3_ := Aside0.mk (Kd.R_lower (Kd.R_newM (M := fun k_ => (w.heap.size ≤ k_)) ho33 (below_size (by repeat (first | (with_reducible first | exact HB.out | apply below_alloc | apply pw_below_drewN | apply below_drew1) | exact HB.out))) (fun k_ h_ => h_)) (below_size (by repeat (first | (with_reducible first | exact HB.out | apply below_alloc | apply pw_below_drewN | apply below_drew1) | exact HB.out))))
                                    have n4_ := Aside0.mk (below_step (by repeat (first | (with_reducible first | exact HB.out | apply below_alloc | apply pw_below_drewN | apply below_drew1) | exact HB.out)) hb)
                                    clear HO_4
                                    clear HO218
                                    clear HO232
                                    clear HB
                                    have HO_4 := n0_
                                    have HO218 := n1_
                                    have HO232 := n2_
                                    have HO224 := n3_
                                    have HB := n4_
                                    clear n0_ n1_ n2_ n3_ n4_
                                    clear hb ho33
                                    refine hK.out _ _ trivial (fun hHeld => ?_)
                                    clear hK K
                                    refine norm_ (a' := ?_) ?_ ?_
                                    rotate_left
                                    · show Act.put _ (some 53) _ = _
                                      simp only [Act.put, List.setIfInBounds_toArray, List.set_cons_zero, List.set_cons_succ, i64_w, i32_w]
                                      rfl
                                    refine one_ (i := 6) (N := some 51) #[true, true, true, true, true, true, true, true, true, false, true, true, true, true, true, true, true, false, false] rfl rfl (one_of HT_.out (by kernel_rfl)) (by decide) (fun K hK => ?_)
                                    refine Kd.R_append_rows_step (Kd.int .u64) (w0 := w) w.heap.size (by rfl) (.tmp 45) (.tmp 50) 22 34 (.int .u64 0) 8 rfl Try.underlying22 info34 rfl (by decide) (by omega) (.slice none 0 0) ([] : List Int) y214 _ _ _ (fun k_ => (w.heap.size ≤ k_) ∧ some k_ ≠ (v223 : Value).ownBlock) (fun _ => False) rfl rfl ?aO ?aR (fun _ _ h => h) (fun _ h => h.elim) ?aF ?aB ?aS ?aL ?_
                                    (case aR => repeat (first | exact (Kd.V_reads' HO218.out).2.2 | (with_reducible refine Kd.C_alloc ?_ _) | (with_reducible refine Kd.C_drewN ?_ _) | (with_reducible refine Kd.C_drew ?_)))
                                    (case aB => exact (by repeat (first | (with_reducible first | exact HB.out | apply below_alloc | apply pw_below_drewN | apply below_drew1) | exact HB.out)))
                                    (case aF => exact (fun k_ hk => ⟨(Nat.le_trans (below_size (by repeat (first | (with_reducible first | exact HB.out | apply below_alloc | apply pw_below_drewN | apply below_drew1) | exact HB.out))) hk), Kd.fresh' (Kd.R_lt (by (with_reducible repeat (first | apply Kd.R_alloc | apply Kd.R_drewN | apply Kd.R_drew)); exact HO224.out)) k_ hk⟩))
                                    (case aO => exact ((Kd.R_nil _ _ _ _ (fun k_ => (w.heap.size ≤ k_) ∧ some k_ ≠ (v223 : Value).ownBlock))))
                                    (case aS => exact (below_size (by repeat (first | (with_reducible first | exact HB.out | apply below_alloc | apply pw_below_drewN | apply below_drew1) | exact HB.out))))
                                    (case aL => have := LMc18.out; omega)
                                    intro v220 w34 ho hb hg hat
                                    rw [← Ny219.out] at ho
                                    have n0_ := Aside0.mk (Kd.V_afterv (Kd.V_apart_nil (by (with_reducible repeat (first | apply Kd.V_alloc | apply Kd.V_drewN | apply Kd.V_drew)); exact HO_4.out)) hg hat)
                                    have n1_ := Aside0.mk (Kd.V_afterv (Kd.V_apart_nil (by (with_reducible repeat (first | apply Kd.V_alloc | apply Kd.V_drewN | apply Kd.V_drew)); exact HO218.out)) hg hat)
                                    have n2_ := Aside0.mk (Kd.V_afterv (Kd.V_apart_nil (by (with_reducible repeat (first | apply Kd.V_alloc | apply Kd.V_drewN | apply Kd.V_drew)); exact HO232.out)) hg hat)
                                    have n3_ := Aside0.mk (Kd.R_after (Kd.R_apart_nil (by (with_reducible repeat (first | apply Kd.R_alloc | apply Kd.R_drewN | apply Kd.R_drew)); exact HO224.out)) hg hat)
                                    have n4_ := Aside0.mk (hb)
                                    have n5_ := Aside0.mk (ho)
                                    clear HO_4
                                    clear HO218
                                    clear HO232
                                    clear HO224
                                    clear HB
                                    have HO_4 := n0_
                                    have HO218 := n1_
                                    have HO232 := n2_
                                    have HO224 := n3_
                                    have HB := n4_
                                    have HO221 := n5_
                                    clear n0_ n1_ n2_ n3_ n4_ n5_
                                    clear ho hb hg hat
                                    refine hK.out _ _ trivial (fun hHeld => ?_)
                                    clear hK K
                                    refine norm_ (a' := ?_) ?_ ?_
                                    rotate_left
                                    · show Act.put _ (some 51) _ = _
                                      simp only [Act.put, List.setIfInBounds_toArray, List.set_cons_zero, List.set_cons_succ, i64_w, i32_w]
                                      rfl
                                    exact norm_ (by simp only [putAll, Act.put, List.setIfInBounds_toArray, List.set_cons_zero, List.set_cons_succ]) (hCont (v220, v223) _ ⟨(by (with_reducible repeat (first | apply Kd.V_alloc | apply Kd.V_drewN | apply Kd.V_drew)); exact Kd.V_mono HO218.out (fun _ hk => ⟨hk.1.1, ⟨hk.2, hk.1.2⟩⟩)), (by (with_reducible repeat (first | apply Kd.R_alloc | apply Kd.R_drewN | apply Kd.R_drew)); exact HO221.out), (by (with_reducible repeat (first | apply Kd.R_alloc | apply Kd.R_drewN | apply Kd.R_drew)); exact Kd.R_mono HO224.out (fun _ hk => ⟨hk.1.1, hk.2⟩)), (by (with_reducible repeat (first | apply Kd.V_alloc | apply Kd.V_drewN | apply Kd.V_drew)); exact Kd.V_mono HO232.out (fun _ hk => ⟨hk.1.1, ⟨hk.2, hk.1.2⟩⟩)), (by (with_reducible repeat (first | apply Kd.V_alloc | apply Kd.V_drewN | apply Kd.V_drew)); exact Kd.V_mono HO_4.out (fun _ hk => ⟨hk.1.1, ⟨hk.2, hk.1.2⟩⟩)), (by repeat (first | (with_reducible first | exact HB.out | apply below_alloc | apply pw_below_drewN | apply below_drew1) | exact HB.out))⟩)
                                rintro ⟨v220, v223⟩ w35 ⟨h0_, h1_, h2_, h3_, h4_, h5_⟩
                                have n0_ : Aside0 (Kd.V (Kd.int .u64) 34 w35 w.heap.size (fun k_ => (P4_ k_ ∨ w.heap.size ≤ k_) ∧ some k_ ≠ (v220 : Value).ownBlock ∧ some k_ ≠ (v223 : Value).ownBlock) (.slice Ao28 y214.length co28) y214) := ⟨h0_⟩
                                have n1_ : Aside0 (Kd.R (Kd.int .u64) 34 w35 w.heap.size (fun k_ => (w.heap.size ≤ k_) ∧ some k_ ≠ (v223 : Value).ownBlock) v220 y219) := ⟨h1_⟩
                                have n2_ : Aside0 (Kd.R (Kd.int .u64) 34 w35 w.heap.size (fun k_ => (w.heap.size ≤ k_) ∧ some k_ ≠ (v220 : Value).ownBlock) v223 y222) := ⟨h2_⟩
                                have n3_ : Aside0 (Kd.V (Kd.int .u64) 34 w35 w.heap.size (fun k_ => (P4_ k_ ∨ w.heap.size ≤ k_) ∧ some k_ ≠ (v220 : Value).ownBlock ∧ some k_ ≠ (v223 : Value).ownBlock) (.slice A31 y228.length c31) y228) := ⟨h3_⟩
                                have n4_ : Aside0 (Kd.V (Kd.int .u64) 34 w35 w.heap.size (fun k_ => (P4_ k_ ∨ w.heap.size ≤ k_) ∧ some k_ ≠ (v220 : Value).ownBlock ∧ some k_ ≠ (v223 : Value).ownBlock) (.slice Ao28 x4_2.length co28) x4_2) := ⟨h4_⟩
                                have n5_ : Aside0 (Below w.heap.size w w35) := ⟨h5_⟩
                                clear HO_4
                                clear HB
                                clear h0_ h1_ h2_ h3_ h4_ h5_
                                have HO218 := n0_
                                have HO221 := n1_
                                have HO224 := n2_
                                have HO232 := n3_
                                have HO_4 := n4_
                                have HB := n5_
                                clear n0_ n1_ n2_ n3_ n4_ n5_
                                have hHeld := trivial
                                obtain ⟨Ao37, co37, eo37⟩ := Kd.R_slice HO224.out
                                (first | subst eo37 | (injection eo37 with f1_ f2_ f3_; have f4_ := f1_.symm; have f5_ := f3_.symm; clear f1_ f2_ f3_; subst f4_; subst f5_))
                                refine norm_ (a' := ?_) ?_ ?_
                                rotate_left
                                · simp only [putAll, Act.put, List.setIfInBounds_toArray, List.set_cons_zero, List.set_cons_succ]
                                  rfl
                                refine one_ (i := 9) (N := some 54) #[true, true, true, true, true, true, true, true, true, true, true, true, true, true, true, true, true, false, false] rfl rfl (one_of HT_.out (by kernel_rfl)) (by decide) (fun K hK => ?_)
                                refine Kd.R_append_rows_step (Kd.int .u64) (w0 := w) w.heap.size (by rfl) (.tmp 51) (.tmp 53) 22 34 (.int .u64 0) 8 rfl Try.underlying22 info34 rfl (by decide) (by omega) v220 y219 y222 _ _ _ (fun k_ => (w.heap.size ≤ k_) ∧ some k_ ≠ (.slice Ao37 y222.length co37 : Value).ownBlock) (fun _ => False) rfl rfl ?aO ?aR (fun _ _ h => h) (fun _ h => h.elim) ?aF ?aB ?aS ?aL ?_
                                (case aR => repeat (first | exact (Kd.R_reads' HO224.out).2.2 | (with_reducible refine Kd.C_alloc ?_ _) | (with_reducible refine Kd.C_drewN ?_ _) | (with_reducible refine Kd.C_drew ?_)))
                                (case aB => exact (by repeat (first | (with_reducible first | exact HB.out | apply below_alloc | apply pw_below_drewN | apply below_drew1) | exact HB.out)))
                                (case aF => exact (fun k_ hk => ⟨(Nat.le_trans (below_size (by repeat (first | (with_reducible first | exact HB.out | apply below_alloc | apply pw_below_drewN | apply below_drew1) | exact HB.out))) hk), Kd.fresh' (Kd.R_lt (by (with_reducible repeat (first | apply Kd.R_alloc | apply Kd.R_drewN | apply Kd.R_drew)); exact HO224.out)) k_ hk⟩))
                                (case aO => exact (by (with_reducible repeat (first | apply Kd.R_alloc | apply Kd.R_drewN | apply Kd.R_drew)); exact HO221.out))
                                (case aS => exact (below_size (by repeat (first | (with_reducible first | exact HB.out | apply below_alloc | apply pw_below_drewN | apply below_drew1) | exact HB.out))))
                                (case aL => have := LMc19.out; omega)
                                intro v226 w36 ho hb hg hat
                                rw [← Ny225.out] at ho
                                have n0_ := Aside0.mk (Kd.V_afterv (ok := (fun k_ => (P4_ k_ ∨ w.heap.size ≤ k_) ∧ some k_ ≠ (.slice Ao37 y222.length co37 : Value).ownBlock)) (by (with_reducible repeat (first | apply Kd.V_alloc | apply Kd.V_drewN | apply Kd.V_drew)); exact Kd.V_mono HO_4.out (fun _ hk => ⟨⟨hk.1, hk.2.2⟩, hk.2.1⟩)) hg hat)
                                have n1_ := Aside0.mk (Kd.V_afterv (ok := (fun k_ => (P4_ k_ ∨ w.heap.size ≤ k_) ∧ some k_ ≠ (.slice Ao37 y222.length co37 : Value).ownBlock)) (by (with_reducible repeat (first | apply Kd.V_alloc | apply Kd.V_drewN | apply Kd.V_drew)); exact Kd.V_mono HO218.out (fun _ hk => ⟨⟨hk.1, hk.2.2⟩, hk.2.1⟩)) hg hat)
                                have n2_ := Aside0.mk (Kd.V_afterv (ok := (fun k_ => (P4_ k_ ∨ w.heap.size ≤ k_) ∧ some k_ ≠ (.slice Ao37 y222.length co37 : Value).ownBlock)) (by (with_reducible repeat (first | apply Kd.V_alloc | apply Kd.V_drewN | apply Kd.V_drew)); exact Kd.V_mono HO232.out (fun _ hk => ⟨⟨hk.1, hk.2.2⟩, hk.2.1⟩)) hg hat)
                                have n3_ := Aside0.mk (Kd.R_after (ok := (fun k_ => (w.heap.size ≤ k_))) (by (with_reducible repeat (first | apply Kd.R_alloc | apply Kd.R_drewN | apply Kd.R_drew)); exact HO224.out) hg hat)
                                have n4_ := Aside0.mk (hb)
                                have n5_ := Aside0.mk (ho)
                                clear HO_4
                                clear HO218
                                clear HO232
                                clear HO224
                                clear HB
                                clear HO221
                                have HO_4 := n0_
                                have HO218 := n1_
                                have HO232 := n2_
                                have HO224 := n3_
                                have HB := n4_
                                have HO227 := n5_
                                clear n0_ n1_ n2_ n3_ n4_ n5_
                                clear ho hb hg hat
                                refine hK.out _ _ trivial (fun hHeld => ?_)
                                clear hK K
                                refine norm_ (a' := ?_) ?_ ?_
                                rotate_left
                                · show Act.put _ (some 54) _ = _
                                  simp only [Act.put, List.setIfInBounds_toArray, List.set_cons_zero, List.set_cons_succ, i64_w, i32_w]
                                  rfl
                                refine one_ (i := 17) (N := some 62) #[true, true, true, true, true, true, true, true, true, true, true, true, true, true, true, true, true, true, false] rfl rfl (one_of HT_.out (by kernel_rfl)) (by decide) (fun K hK => ?_)
                                refine Kd.R_append_rows_step (Kd.int .u64) (w0 := w) w.heap.size (by rfl) (.tmp 54) (.tmp 61) 22 34 (.int .u64 0) 8 rfl Try.underlying22 info34 rfl (by decide) (by omega) v226 y225 y228 _ _ _ (fun k_ => (w.heap.size ≤ k_) ∧ some k_ ≠ (.slice Ao37 y222.length co37 : Value).ownBlock) (fun _ => False) rfl rfl ?aO ?aR (fun _ _ h => h) (fun _ h => h.elim) ?aF ?aB ?aS ?aL ?_
                                (case aR => repeat (first | exact (Kd.V_reads' HO232.out).2.2 | (with_reducible refine Kd.C_alloc ?_ _) | (with_reducible refine Kd.C_drewN ?_ _) | (with_reducible refine Kd.C_drew ?_)))
                                (case aB => exact (by repeat (first | (with_reducible first | exact HB.out | apply below_alloc | apply pw_below_drewN | apply below_drew1) | exact HB.out)))
                                (case aF => exact (fun k_ hk => ⟨(Nat.le_trans (below_size (by repeat (first | (with_reducible first | exact HB.out | apply below_alloc | apply pw_below_drewN | apply below_drew1) | exact HB.out))) hk), Kd.fresh' (Kd.R_lt (by (with_reducible repeat (first | apply Kd.R_alloc | apply Kd.R_drewN | apply Kd.R_drew)); exact HO224.out)) k_ hk⟩))
                                (case aO => exact (by (with_reducible repeat (first | apply Kd.R_alloc | apply Kd.R_drewN | apply Kd.R_drew)); exact HO227.out))
                                (case aS => exact (below_size (by repeat (first | (with_reducible first | exact HB.out | apply below_alloc | apply pw_below_drewN | apply below_drew1) | exact HB.out))))
                                (case aL => have := LMc23.out; omega)
                                intro v234 w38 ho hb hg hat
                                rw [← Ny233.out] at ho
                                have n0_ := Aside0.mk (Kd.V_afterv (ok := (fun k_ => (P4_ k_ ∨ w.heap.size ≤ k_) ∧ some k_ ≠ (.slice Ao37 y222.length co37 : Value).ownBlock)) (by (with_reducible repeat (first | apply Kd.V_alloc | apply Kd.V_drewN | apply Kd.V_drew)); exact HO_4.out) hg hat)
                                have n1_ := Aside0.mk (Kd.V_afterv (ok := (fun k_ => (P4_ k_ ∨ w.heap.size ≤ k_) ∧ some k_ ≠ (.slice Ao37 y222.length co37 : Value).ownBlock)) (by (with_reducible repeat (first | apply Kd.V_alloc | apply Kd.V_drewN | apply Kd.V_drew)); exact HO218.out) hg hat)
                                have n2_ := Aside0.mk (Kd.V_afterv (ok := (fun k_ => (P4_ k_ ∨ w.heap.size ≤ k_) ∧ some k_ ≠ (.slice Ao37 y222.length co37 : Value).ownBlock)) (by (with_reducible repeat (first | apply Kd.V_alloc | apply Kd.V_drewN | apply Kd.V_drew)); exact HO232.out) hg hat)
                                have n3_ := Aside0.mk (Kd.R_after (ok := (fun k_ => (w.heap.size ≤ k_))) (by (with_reducible repeat (first | apply Kd.R_alloc | apply Kd.R_drewN | apply Kd.R_drew)); exact HO224.out) hg hat)
                                have n4_ := Aside0.mk (hb)
                                have n5_ := Aside0.mk (ho)
                                clear HO_4
                                clear HO218
                                clear HO232
                                clear HO224
                                clear HB
                                clear HO227
                                have HO_4 := n0_
                                have HO218 := n1_
                                have HO232 := n2_
                                have HO224 := n3_
                                have HB := n4_
                                have HO235 := n5_
                                clear n0_ n1_ n2_ n3_ n4_ n5_
                                clear ho hb hg hat
                                refine hK.out _ _ trivial (fun hHeld => ?_)
                                clear hK K
                                refine norm_ (a' := ?_) ?_ ?_
                                rotate_left
                                · show Act.put _ (some 62) _ = _
                                  simp only [Act.put, List.setIfInBounds_toArray, List.set_cons_zero, List.set_cons_succ, i64_w, i32_w]
                                  rfl
                                refine pure_ (i := 18) (N := some 14) (v := ?_) (a' := ?_) #[true, true, true, true, true, true, true, true, true, true, true, true, true, true, true, true, true, true, true] rfl rfl (any_of HT_.out (by kernel_rfl)) (fun _ _ _ h => h) (Or.inl ⟨by rfl, ?_⟩) ?_ ?_
                                rotate_left
                                · intro w'
                                  go_simp
                                  with_reducible rfl
                                rotate_left
                                · simp only [Act.put, List.setIfInBounds_toArray, List.set_cons_zero, List.set_cons_succ, i64_w, i32_w]
                                  rfl
                                refine done_ (done_of HT_.out (by kernel_rfl)) ?_
                                have q39 : ((ji24) : Int) ≤ ((x4_2.length : Int) : Int) := of_decide_eq_true (by first | (with_reducible assumption) | assumption)
                                obtain ⟨i039, hi039, _, hsz39, _⟩ := info_parts info34
                                have hroom39 : x4_2.length ≤ co28 := (Kd.V_reads' HO_4.out).2.1
                                have hC39 : Kd.F (Kd.int .u64) _ _ Ao28 x4_2.length x4_2 := (Kd.V_at (base := w.heap.size) HO_4.out).2.2
                                have q039 : (0 : Int) ≤ ((ji24) : Int) := of_decide_eq_true (by first | (with_reducible assumption) | assumption)
                                have hcut39 := cut_from (P := Try.prog) 22 34 .i64 Try.underlying22 hi039 1 hsz39 Ao28 x4_2.length co28 (ji24) q039 q39
                                have hr39 := Kd.F_cut (m := ((ji24) : Int).toNat) (c := co28) hC39 (by omega) hroom39
                                obtain ⟨A39, hA39⟩ : ∃ A1, A1 = (if co28 = ((ji24) : Int).toNat then Ao28 else (Ao28 : Option Addr).map (·.add (((ji24) : Int).toNat * 1))) := ⟨_, rfl⟩
                                obtain ⟨c39, hc39⟩ : ∃ c1, c1 = co28 - ((ji24) : Int).toNat := ⟨_, rfl⟩
                                have hy39 : y236.length = x4_2.length - ((ji24) : Int).toNat := (by rw [Ny236.out, List.length_drop] <;> omega)
                                rw [show (x4_2).drop ((ji24) : Int).toNat = y236 from Ny236.out.symm] at hr39
                                replace hr39 : Kd.F (Kd.int .u64) _ _ A39 y236.length y236 := (by rw [hA39]; exact hr39)
                                rw [← hy39, ← hA39, ← hc39] at hcut39
                                have HO240 := Aside0.mk (show Kd.V (Kd.int .u64) 34 _ w.heap.size _ (.slice A39 y236.length c39) y236 from Kd.V_mk (by rw [hy39, hc39]; exact Nat.sub_le_sub_right hroom39 _) hr39)
                                have HC240 := Aside0.mk (show y236.length ≤ c39 from by rw [hy39, hc39]; exact Nat.sub_le_sub_right hroom39 _)
                                clear hr39 hC39 hroom39 hi039 hsz39 hc39
                                have KY39 := Aside0.mk hy39
                                have KA39 := Aside0.mk hA39
                                clear hy39 hA39
                                replace q39 := eq_true q39
                                obtain ⟨Ao40, co40, eo40⟩ := Kd.R_slice HO235.out
                                subst eo40
                                try go_wp2_with (first | ((with_reducible refine gate_callee (f := 33) rfl ?_); refine goesL_ (some 68) rfl rfl Try.func33 (by kernel_rfl) rfl #[.slice Ao40 y233.length co40] rfl (by (try simp only [List.map_toArray, List.map_cons, List.map_nil]); first | done | rfl | (simp only [List.length_drop, List.length_take]; rfl)) ?_; (with_reducible refine (tegularef26_run.calls k2 _ _ y233 t241 _ ?side1 ?side2 A27.out).mono ?_); (case side1 => repeat (first | exact (Kd.R_reads' HO235.out).2.2 | (with_reducible refine Kd.C_alloc ?_ _) | (with_reducible refine Kd.C_drewN ?_ _) | (with_reducible refine Kd.C_drew ?_))); (case side2 => exact (Kd.R_reads' HO235.out).2.1); rintro e w41 ⟨rfl, hb⟩; refine ⟨_, rfl, ?_⟩; have n0_ := Aside0.mk (Kd.V_below (by (with_reducible repeat (first | apply Kd.V_alloc | apply Kd.V_drewN | apply Kd.V_drew)); exact HO_4.out) hb); have n1_ := Aside0.mk (Kd.V_below (by (with_reducible repeat (first | apply Kd.V_alloc | apply Kd.V_drewN | apply Kd.V_drew)); exact HO218.out) hb); have n2_ := Aside0.mk (Kd.V_below (by (with_reducible repeat (first | apply Kd.V_alloc | apply Kd.V_drewN | apply Kd.V_drew)); exact HO232.out) hb); have n3_ := Aside0.mk (Kd.R_below (by (with_reducible repeat (first | apply Kd.R_alloc | apply Kd.R_drewN | apply Kd.R_drew)); exact HO224.out) hb); have n4_ := Aside0.mk (Kd.R_below (by (with_reducible repeat (first | apply Kd.R_alloc | apply Kd.R_drewN | apply Kd.R_drew)); exact HO235.out) hb); have n5_ := Aside0.mk (Kd.V_below (by (with_reducible repeat (first | apply Kd.V_alloc | apply Kd.V_drewN | apply Kd.V_drew)); exact HO240.out) hb); have n6_ := Aside0.mk (below_step (by repeat (first | (with_reducible first | exact HB.out | apply below_alloc | apply pw_below_drewN | apply below_drew1) | exact HB.out)) hb); clear HO_4; clear HO218; clear HO232; clear HO224; clear HO235; clear HO240; clear HB; have HO_4 := n0_; have HO218 := n1_; have HO232 := n2_; have HO224 := n3_; have HO235 := n4_; have HO240 := n5_; have HB := n6_; clear n0_ n1_ n2_ n3_ n4_ n5_ n6_; (try clear hb); (try clear hb2); (try clear hk); (try clear hi)))
                                go_roundg k2
                                case measure => have := HJ5.out; have := HK2.out; omega
                                case rel => exact ⟨(wrap64 (Int.tdiv x2_2 4)), (t241), (y236), (wrap64 (Int.tdiv (wrap64 (x11_2 + 3)) 4)), (by first | rfl | (simp; done) | (simp [*]; done)), (by first | rfl | (simp; done) | (simp [*]; done)), (by first | rfl | (simp; done) | (simp [*]; done)), H', ⟨by have := HJ5.out; have := HK2.out; omega⟩, ⟨by (with_reducible repeat (first | apply Kd.V_alloc | apply Kd.V_drewN | apply Kd.V_drew)); exact Kd.V_mono HO240.out (fun _ hk => hk.1.1)⟩, ⟨by repeat (first | (with_reducible first | exact HB.out | apply below_alloc | apply pw_below_drewN | apply below_drew1) | exact HB.out)⟩⟩
                              · rw [if_neg c25] at H
                                exact absurd H (by simp)
                            · rw [if_neg c23] at H
                              exact absurd H (by simp)
                          · rw [if_neg c22] at H
                            exact absurd H (by simp)
                        · rw [if_neg c21] at H
                          exact absurd H (by simp)
                      · rw [if_neg c19] at H
                        exact absurd H (by simp)
                    · rw [if_neg c18] at H
                      exact absurd H (by simp)
                  · rw [if_neg c17] at H
                    exact absurd H (by simp)
                · rw [if_neg c16] at H
                  exact absurd H (by simp)
            · rw [if_neg c11] at H
              have c11b0 : decide (1 < x11_2) = false := decide_eq_false c11
              clear c11
              by_cases c42 : (x4_2.length : Int) = 0
              · rw [if_pos c42] at H
                have c42b0 : ((x4_2.length : Int) == 0) = true := beq_iff_eq.mpr c42
                have c42b1 : ((x4_2.length : Int) != 0) = false := bne_eq_false_iff_eq.mpr c42
                clear c42
                replace H := Option.bind_eq_some_iff.mp H
                obtain ⟨t242, A430, H⟩ := H
                replace H : (some (a0 == t242)) = some r := H
                have A43 := Aside0.mk A430
                clear A430
                obtain rfl := Option.some.inj H
                obtain ⟨Ao44, co44, eo44⟩ := Kd.V_slice HO_4.out
                subst eo44
                go_wp2_with (first | (go_at_call 34; (with_reducible refine (tegularef26_Top.calls k2 a1 x3_2 t242 _ A43.out).mono ?_); rintro e w45 ⟨rfl, hb⟩; have n0_ := Aside0.mk (Kd.V_below (by (with_reducible repeat (first | apply Kd.V_alloc | apply Kd.V_drewN | apply Kd.V_drew)); exact HO_4.out) hb); have n1_ := Aside0.mk (below_step (by repeat (first | (with_reducible first | exact HB.out | apply below_alloc | apply pw_below_drewN | apply below_drew1) | exact HB.out)) hb); clear HO_4; clear HB; have HO_4 := n0_; have HB := n1_; clear n0_ n1_; (try clear hb); (try clear hb2); (try clear hk); (try clear hi)))
                go_ret
                exact ⟨by first | rfl | (simp [errW_none, errW_some] <;> rfl) | (simp [*, errW_none, errW_some] <;> rfl), by repeat (first | (with_reducible first | exact HB.out | apply below_alloc | apply pw_below_drewN | apply below_drew1) | exact HB.out)⟩
              · rw [if_neg c42] at H
                have c42b0 : ((x4_2.length : Int) == 0) = false := beq_eq_false_iff_ne.mpr c42
                have c42b1 : ((x4_2.length : Int) != 0) = true := bne_iff_ne.mpr c42
                have c42b2 : ¬ (x4_2 = []) := fun h_ => c42 (by rw [h_]; rfl)
                obtain rfl := Option.some.inj H
                obtain ⟨Ao46, co46, eo46⟩ := Kd.V_slice HO_4.out
                subst eo46
                go_wp2
                go_ret
                exact ⟨by first | rfl | (simp [errW_none, errW_some] <;> rfl) | (simp [*, errW_none, errW_some] <;> rfl), by repeat (first | (with_reducible first | exact HB.out | apply below_alloc | apply pw_below_drewN | apply below_drew1) | exact HB.out)⟩

-- NOT PRINTED: function 4 (tegulalaw26_SumtreeCheck)

-- NOT PRINTED: function 5 (tegulalaw26_SumtreeProves)

/-! ### tegularef26_Root: function 35 -/
def tegularef26_Root.f (k : Nat) (l0 : List Int) : Option (Int) := (tegularef26_Levels.f k l0).bind fun t244 => (if 0 ≤ (wrap64 ((t244.length : Int) - 1)) then (if (wrap64 ((t244.length : Int) - 1)) < (t244.length : Int) then (if ((rd_L2 t244 (wrap64 ((t244.length : Int) - 1))).length : Int) = 0 then ((tegularef26_Top.f k 0 0).bind fun t248 => (some t248)) else (if 0 < ((rd_L2 t244 (wrap64 ((t244.length : Int) - 1))).length : Int) then ((tegularef26_Top.f k (l0.length : Int) (rd (rd_L2 t244 (wrap64 ((t244.length : Int) - 1))) 0)).bind fun t250 => (some t250)) else (none))) else (none)) else (none))
theorem tegularef26_Root.mono : ∀ a0 k, LeO (tegularef26_Root.f k a0) (tegularef26_Root.f (k + 1) a0) := by
  intro a0 k
  unfold tegularef26_Root.f
  repeat' first
      | (with_reducible exact tegularef26_Levels.mono _ _)
      | (with_reducible exact tegularef26_Top.mono _ _ _)
      | (with_reducible exact LeO.refl _)
      | (with_reducible exact LeO.none _)
      | (with_reducible refine LeO.ite ?_ ?_)
      | (with_reducible refine LeO.bind ?_ (fun _ => ?_))
      | exact tegularef26_Levels.mono _ _
      | exact tegularef26_Top.mono _ _ _
      | exact LeO.none _
      | refine LeO.ite ?_ ?_
      | refine LeO.bind ?_ (fun _ => ?_)
set_option maxHeartbeats 8000000 in
set_option maxRecDepth 100000 in
theorem tegularef26_Root.calls (k : Nat) (A0 : Option Addr) (c0 : Nat) (l0 : List Int) (r : Int) (w : World) (hr0 : Kd.C (Kd.int .u64) w A0 l0.length l0) (hc0 : l0.length ≤ c0) (h : tegularef26_Root.f k l0 = some r) :
    Calls Try.prog 35 #[.slice A0 l0.length c0] w fun e w' => e = .returned (.int .u64 r) ∧ Below w.heap.size w w' := by
  have HR0 := Aside0.mk hr0
  have HC0 := Aside0.mk hc0
  clear hr0 hc0
  have HB := Aside0.mk (Below.refl w.heap.size w)
  have H : ((tegularef26_Levels.f k l0).bind fun t244 => (if 0 ≤ (wrap64 ((t244.length : Int) - 1)) then (if (wrap64 ((t244.length : Int) - 1)) < (t244.length : Int) then (if ((rd_L2 t244 (wrap64 ((t244.length : Int) - 1))).length : Int) = 0 then ((tegularef26_Top.f k 0 0).bind fun t248 => (some t248)) else (if 0 < ((rd_L2 t244 (wrap64 ((t244.length : Int) - 1))).length : Int) then ((tegularef26_Top.f k (l0.length : Int) (rd (rd_L2 t244 (wrap64 ((t244.length : Int) - 1))) 0)).bind fun t250 => (some t250)) else (none))) else (none)) else (none))) = some r := h
  clear h
  replace H := Option.bind_eq_some_iff.mp H
  obtain ⟨t244, A20, H⟩ := H
  replace H : (if 0 ≤ (wrap64 ((t244.length : Int) - 1)) then (if (wrap64 ((t244.length : Int) - 1)) < (t244.length : Int) then (if ((rd_L2 t244 (wrap64 ((t244.length : Int) - 1))).length : Int) = 0 then ((tegularef26_Top.f k 0 0).bind fun t248 => (some t248)) else (if 0 < ((rd_L2 t244 (wrap64 ((t244.length : Int) - 1))).length : Int) then ((tegularef26_Top.f k (l0.length : Int) (rd (rd_L2 t244 (wrap64 ((t244.length : Int) - 1))) 0)).bind fun t250 => (some t250)) else (none))) else (none)) else (none)) = some r := H
  have A2 := Aside0.mk A20
  clear A20
  obtain ⟨ji3, hji3⟩ : ∃ j_ : Int, (wrap64 ((t244.length : Int) - 1)) = j_ := ⟨_, rfl⟩
  replace H : (if 0 ≤ (ji3) then (if (ji3) < (t244.length : Int) then (if ((rd_L2 t244 (ji3)).length : Int) = 0 then ((tegularef26_Top.f k 0 0).bind fun t248 => (some t248)) else (if 0 < ((rd_L2 t244 (ji3)).length : Int) then ((tegularef26_Top.f k (l0.length : Int) (rd (rd_L2 t244 (ji3)) 0)).bind fun t250 => (some t250)) else (none))) else (none)) else (none)) = some r := by first | (rw [hji3] at H; exact H) | (simp only [hji3] at H ⊢; exact H)
  (try rw [hji3] at A2)
  have hji3w : (IntKind.i64.wrap ((t244.length : Int) - 1)) = ji3 := (i64_w _).trans hji3
  by_cases c4 : 0 ≤ (ji3)
  · rw [if_pos c4] at H
    have c4b0 : decide (0 ≤ (ji3)) = true := decide_eq_true c4
    clear c4
    by_cases c5 : (ji3) < (t244.length : Int)
    · rw [if_pos c5] at H
      have c5b0 : decide ((ji3) < (t244.length : Int)) = true := decide_eq_true c5
      clear c5
      by_cases c6 : ((rd_L2 t244 (ji3)).length : Int) = 0
      · rw [if_pos c6] at H
        have c6b0 : (((rd_L2 t244 (ji3)).length : Int) == 0) = true := beq_iff_eq.mpr c6
        have c6b1 : (((rd_L2 t244 (ji3)).length : Int) != 0) = false := bne_eq_false_iff_eq.mpr c6
        clear c6
        replace H := Option.bind_eq_some_iff.mp H
        obtain ⟨t248, A70, H⟩ := H
        replace H : (some t248) = some r := H
        have A7 := Aside0.mk A70
        clear A70
        obtain rfl := Option.some.inj H
        go_enter Try.func35, Try.ntmps35
        go_wp2_with (first | ((with_reducible refine gate_callee (f := 30) rfl ?_); refine goesL_ (some 6) rfl rfl Try.func30 (by kernel_rfl) rfl #[.slice A0 l0.length c0] rfl (by (try simp only [List.map_toArray, List.map_cons, List.map_nil]); first | done | rfl | (simp only [List.length_drop, List.length_take]; rfl)) ?_; (with_reducible refine (tegularef26_Levels.calls k _ _ l0 t244 _ ?side1 ?side2 A2.out).mono ?_); (case side1 => repeat (first | exact HR0.out | (with_reducible refine Kd.C_alloc ?_ _) | (with_reducible refine Kd.C_drewN ?_ _) | (with_reducible refine Kd.C_drew ?_))); (case side2 => exact HC0.out); rintro e w8 ⟨v245, rfl, ho0, hb⟩; refine ⟨_, rfl, ?_⟩; have n0_ := Aside0.mk (Kd.N_lower (Kd.N_mono (ok' := fun k_ => True) ho0 (fun k_ hk_ => trivial)) (below_size (by repeat (first | (with_reducible first | exact HB.out | apply below_alloc | apply pw_below_drewN | apply below_drew1) | exact HB.out)))); have n1_ := Aside0.mk (below_step (by repeat (first | (with_reducible first | exact HB.out | apply below_alloc | apply pw_below_drewN | apply below_drew1) | exact HB.out)) hb); clear HB; have HO246 := n0_; have HB := n1_; clear n0_ n1_; (try clear hb); (try clear hb2); (try clear hk); (try clear hi); (try clear ho0); obtain ⟨Ao9, co9, eo9⟩ := Kd.N_slice HO246.out; subst eo9; have p247 : 0 ≤ ((ji3) : Int) := of_decide_eq_true (by first | (with_reducible assumption) | assumption); have q247 : (ji3) < (t244.length : Int) := of_decide_eq_true (by first | (with_reducible assumption) | assumption); obtain ⟨ad247, A247_0, c247_0, e247, hx247_0, hl247_0, hi247_0⟩ := at_L2 (Kd.N_reads' HO246.out).2.2 (ji3) p247 q247; cases e247; obtain ⟨ce247, hce247, hMe247, hcc247⟩ := Kd.N_get HO246.out [] (ji3) p247 (by first | exact q247 | exact of_decide_eq_true (by first | (with_reducible assumption) | assumption) | (have e_ := (Kd.N_reads' HO246.out).1; omega)); obtain ⟨ua247_0, uc247_0, rfl, ul247_0, ge247_0⟩ := Kd.FK_slice_open hMe247; have hv247_0 := hcc247 0 _ rfl; rw [Nat.add_zero, show ((Kd.slice 34 (Kd.int .u64))).sz = 1 from rfl, Nat.mul_one] at hv247_0; replace hv247_0 := Option.some.inj (hv247_0.symm.trans hx247_0); injection hv247_0 with hva_ hvn_ hvc_; rw [hva_] at ge247_0; rw [hvc_] at ul247_0; have HL247_0 := Aside0.mk (show Kd.V (Kd.int .u64) 34 _ w.heap.size _ _ (rd_L2 t244 (ji3)) from Kd.V_mk ul247_0 ge247_0); clear hva_ hvn_ hvc_ ge247_0 ul247_0; clear hcc247 hce247; have HR247_0 := Aside0.mk hi247_0; have HC247_0 := Aside0.mk hl247_0; clear hi247_0 hl247_0; replace p247 := eq_true p247; replace q247 := eq_true q247) | ((with_reducible refine gate_callee (f := 34) rfl ?_); refine goesL_ (some 16) rfl rfl Try.func34 (by kernel_rfl) rfl #[.int .i64 0, .int .u64 0] rfl (by (try simp only [List.map_toArray, List.map_cons, List.map_nil]); first | done | rfl | (simp only [List.length_drop, List.length_take]; rfl)) ?_; (with_reducible refine (tegularef26_Top.calls k 0 0 t248 _ A7.out).mono ?_); rintro e w10 ⟨rfl, hb⟩; refine ⟨_, rfl, ?_⟩; have n0_ := Aside0.mk (Kd.N_below (by (with_reducible repeat (first | apply Kd.N_alloc | apply Kd.N_drewN | apply Kd.N_drew)); exact HO246.out) hb); have n1_ := Aside0.mk (Kd.V_below (by (with_reducible repeat (first | apply Kd.V_alloc | apply Kd.V_drewN | apply Kd.V_drew)); exact HL247_0.out) hb); have n2_ := Aside0.mk (Kd.C_below (by repeat (first | (with_reducible exact HR247_0.out) | (with_reducible refine Kd.C_alloc ?_ _) | (with_reducible refine Kd.C_drewN ?_ _) | (with_reducible refine Kd.C_drew ?_) | exact HR247_0.out)) hb); have n3_ := Aside0.mk (below_step (by repeat (first | (with_reducible first | exact HB.out | apply below_alloc | apply pw_below_drewN | apply below_drew1) | exact HB.out)) hb); clear HO246; clear HL247_0; clear HR247_0; clear HB; have HO246 := n0_; have HL247_0 := n1_; have HR247_0 := n2_; have HB := n3_; clear n0_ n1_ n2_ n3_; (try clear hb); (try clear hb2); (try clear hk); (try clear hi)))
        go_ret
        exact ⟨by first | rfl | (simp [errW_none, errW_some] <;> rfl) | (simp only [← hji3]; first | rfl | (simp [errW_none, errW_some] <;> rfl)) | (simp [*, errW_none, errW_some] <;> rfl), by repeat (first | (with_reducible first | exact HB.out | apply below_alloc | apply pw_below_drewN | apply below_drew1) | exact HB.out)⟩
      · rw [if_neg c6] at H
        have c6b0 : (((rd_L2 t244 (ji3)).length : Int) == 0) = false := beq_eq_false_iff_ne.mpr c6
        have c6b1 : (((rd_L2 t244 (ji3)).length : Int) != 0) = true := bne_iff_ne.mpr c6
        have c6b2 : ¬ ((rd_L2 t244 (ji3)) = []) := fun h_ => c6 (by rw [h_]; rfl)
        by_cases c11 : 0 < ((rd_L2 t244 (ji3)).length : Int)
        · rw [if_pos c11] at H
          have c11b0 : decide (0 < ((rd_L2 t244 (ji3)).length : Int)) = true := decide_eq_true c11
          have c11b1 : decide (0 < (rd_L2 t244 (ji3)).length) = true := decide_eq_true (by omega)
          clear c11
          replace H := Option.bind_eq_some_iff.mp H
          obtain ⟨t250, A120, H⟩ := H
          replace H : (some t250) = some r := H
          have A12 := Aside0.mk A120
          clear A120
          obtain rfl := Option.some.inj H
          go_enter Try.func35, Try.ntmps35
          go_wp2_with (first | ((with_reducible refine gate_callee (f := 30) rfl ?_); refine goesL_ (some 6) rfl rfl Try.func30 (by kernel_rfl) rfl #[.slice A0 l0.length c0] rfl (by (try simp only [List.map_toArray, List.map_cons, List.map_nil]); first | done | rfl | (simp only [List.length_drop, List.length_take]; rfl)) ?_; (with_reducible refine (tegularef26_Levels.calls k _ _ l0 t244 _ ?side1 ?side2 A2.out).mono ?_); (case side1 => repeat (first | exact HR0.out | (with_reducible refine Kd.C_alloc ?_ _) | (with_reducible refine Kd.C_drewN ?_ _) | (with_reducible refine Kd.C_drew ?_))); (case side2 => exact HC0.out); rintro e w13 ⟨v245, rfl, ho0, hb⟩; refine ⟨_, rfl, ?_⟩; have n0_ := Aside0.mk (Kd.N_lower (Kd.N_mono (ok' := fun k_ => True) ho0 (fun k_ hk_ => trivial)) (below_size (by repeat (first | (with_reducible first | exact HB.out | apply below_alloc | apply pw_below_drewN | apply below_drew1) | exact HB.out)))); have n1_ := Aside0.mk (below_step (by repeat (first | (with_reducible first | exact HB.out | apply below_alloc | apply pw_below_drewN | apply below_drew1) | exact HB.out)) hb); clear HB; have HO246 := n0_; have HB := n1_; clear n0_ n1_; (try clear hb); (try clear hb2); (try clear hk); (try clear hi); (try clear ho0); obtain ⟨Ao14, co14, eo14⟩ := Kd.N_slice HO246.out; subst eo14; have p247 : 0 ≤ ((ji3) : Int) := of_decide_eq_true (by first | (with_reducible assumption) | assumption); have q247 : (ji3) < (t244.length : Int) := of_decide_eq_true (by first | (with_reducible assumption) | assumption); obtain ⟨ad247, A247_0, c247_0, e247, hx247_0, hl247_0, hi247_0⟩ := at_L2 (Kd.N_reads' HO246.out).2.2 (ji3) p247 q247; cases e247; obtain ⟨ce247, hce247, hMe247, hcc247⟩ := Kd.N_get HO246.out [] (ji3) p247 (by first | exact q247 | exact of_decide_eq_true (by first | (with_reducible assumption) | assumption) | (have e_ := (Kd.N_reads' HO246.out).1; omega)); obtain ⟨ua247_0, uc247_0, rfl, ul247_0, ge247_0⟩ := Kd.FK_slice_open hMe247; have hv247_0 := hcc247 0 _ rfl; rw [Nat.add_zero, show ((Kd.slice 34 (Kd.int .u64))).sz = 1 from rfl, Nat.mul_one] at hv247_0; replace hv247_0 := Option.some.inj (hv247_0.symm.trans hx247_0); injection hv247_0 with hva_ hvn_ hvc_; rw [hva_] at ge247_0; rw [hvc_] at ul247_0; have HL247_0 := Aside0.mk (show Kd.V (Kd.int .u64) 34 _ w.heap.size _ _ (rd_L2 t244 (ji3)) from Kd.V_mk ul247_0 ge247_0); clear hva_ hvn_ hvc_ ge247_0 ul247_0; clear hcc247 hce247; have HR247_0 := Aside0.mk hi247_0; have HC247_0 := Aside0.mk hl247_0; clear hi247_0 hl247_0; replace p247 := eq_true p247; replace q247 := eq_true q247; have p249 : 0 ≤ (0 : Int) := (by omega); have q249 : 0 < ((rd_L2 t244 (ji3)).length : Int) := of_decide_eq_true (by first | (with_reducible assumption) | assumption); obtain ⟨ad249, e249, hx249_0⟩ := Kd.at_int (by repeat (first | (with_reducible exact HR247_0.out) | (with_reducible refine Kd.C_alloc ?_ _) | (with_reducible refine Kd.C_drewN ?_ _) | (with_reducible refine Kd.C_drew ?_) | exact HR247_0.out)) 0 p249 q249; cases e249; have qi249 : (0 < (rd_L2 t244 (ji3)).length) = True := eq_true (by omega); (try rw [show ((0 : Int)).toNat = 0 from rfl] at hx249_0); (try rw [Addr.add_zero'] at hx249_0); replace p249 := eq_true p249; replace q249 := eq_true q249) | ((with_reducible refine gate_callee (f := 34) rfl ?_); refine goesL_ (some 22) rfl rfl Try.func34 (by kernel_rfl) rfl #[.int .i64 (l0.length : Int), .int .u64 (rd (rd_L2 t244 (ji3)) 0)] rfl (by (try simp only [List.map_toArray, List.map_cons, List.map_nil]); first | done | (simp only [hji3]; rfl) | rfl | (simp only [List.length_drop, List.length_take]; rfl)) ?_; (with_reducible refine (tegularef26_Top.calls k (l0.length : Int) (rd (rd_L2 t244 (ji3)) 0) t250 _ A12.out).mono ?_); rintro e w15 ⟨rfl, hb⟩; refine ⟨_, rfl, ?_⟩; have n0_ := Aside0.mk (Kd.N_below (by (with_reducible repeat (first | apply Kd.N_alloc | apply Kd.N_drewN | apply Kd.N_drew)); exact HO246.out) hb); have n1_ := Aside0.mk (Kd.V_below (by (with_reducible repeat (first | apply Kd.V_alloc | apply Kd.V_drewN | apply Kd.V_drew)); exact HL247_0.out) hb); have n2_ := Aside0.mk (Kd.C_below (by repeat (first | (with_reducible exact HR247_0.out) | (with_reducible refine Kd.C_alloc ?_ _) | (with_reducible refine Kd.C_drewN ?_ _) | (with_reducible refine Kd.C_drew ?_) | exact HR247_0.out)) hb); have n3_ := Aside0.mk (below_step (by repeat (first | (with_reducible first | exact HB.out | apply below_alloc | apply pw_below_drewN | apply below_drew1) | exact HB.out)) hb); clear HO246; clear HL247_0; clear HR247_0; clear HB; have HO246 := n0_; have HL247_0 := n1_; have HR247_0 := n2_; have HB := n3_; clear n0_ n1_ n2_ n3_; (try clear hb); (try clear hb2); (try clear hk); (try clear hi)))
          go_ret
          exact ⟨by first | rfl | (simp [errW_none, errW_some] <;> rfl) | (simp only [← hji3]; first | rfl | (simp [errW_none, errW_some] <;> rfl)) | (simp [*, errW_none, errW_some] <;> rfl), by repeat (first | (with_reducible first | exact HB.out | apply below_alloc | apply pw_below_drewN | apply below_drew1) | exact HB.out)⟩
        · rw [if_neg c11] at H
          exact absurd H (by simp)
    · rw [if_neg c5] at H
      exact absurd H (by simp)
  · rw [if_neg c4] at H
    exact absurd H (by simp)

-- NOT PRINTED: function 36 (sumtree_Leaf)

-- NOT PRINTED: function 19 (tegulalaw26_same)

-- NOT PRINTED: function 6 (tegulalaw26_SumtreeBuild)

-- NOT PRINTED: function 37 (sumtree_diff)

-- NOT PRINTED: function 20 (sumtree_Diff)

end Go.Proofs.Ytpofcknfnipkgaa.PS
