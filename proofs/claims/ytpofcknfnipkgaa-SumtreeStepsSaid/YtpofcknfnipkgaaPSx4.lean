/- Functions of the seat, each as a plain Lean function, and the proof that its call answers what that function says (laid by a program). -/
import Derived.Test.YtpofcknfnipkgaaPSx0
import Derived.Test.YtpofcknfnipkgaaPSx3
namespace Go.Proofs.Ytpofcknfnipkgaa.PS
open Go.RowKit Go.Proofs.YtpofcknfnipkgaaW.PrintWords Go.Proofs.YtpofcknfnipkgaaW.PrintLast Go.Proofs.YtpofcknfnipkgaaW.PrintMore
attribute [local go_sem] max2_int min2_int max_two min_two max_three min_three max_four min_four   -- for this text's walks alone
set_option linter.unusedVariables false
set_option linter.unusedSimpArgs false

/-! ### tegularef26_Path: function 14 -/
mutual
def tegularef26_Path.j0 : Nat → List Int → Int → Bool → Option (List Int × Int)
  | 0, _, _, _ => none
  | k + 1, x0, x1, x18 => if x18 = true then (some (([] : List Int), 2)) else ((tegularef26_Levels.f k x0).bind fun t196 => (tegularef26_Path.l0 k x1 t196 ([] : List Int) 0))
def tegularef26_Path.l0 : Nat → Int → List (List Int) → List Int → Int → Option (List Int × Int)
  | 0, _, _, _, _ => none
  | k + 1, x1, x6, x7, x8 => if (wrap64 (x8 + 1)) < (x6.length : Int) then (tegularef26_Path.l1 k x1 x6 x7 x8 (wrap64 ((wrap64 (Int.tdiv x1 4)) * 4)) (wrap64 ((wrap64 (Int.tdiv x1 4)) * 4))) else (some (x7, 0))
def tegularef26_Path.l1 : Nat → Int → List (List Int) → List Int → Int → Int → Int → Option (List Int × Int)
  | 0, _, _, _, _, _, _ => none
  | k + 1, x1, x6, x7, x8, x9, x10 => if x10 < (wrap64 (x9 + 4)) then (if 0 ≤ x8 then (if x8 < (x6.length : Int) then (tegularef26_Path.j3 k x1 x6 x7 x8 x9 x10 (decide (x10 < ((rd_L2 x6 x8).length : Int)))) else (none)) else (none)) else (tegularef26_Path.j3 k x1 x6 x7 x8 x9 x10 false)
def tegularef26_Path.j3 : Nat → Int → List (List Int) → List Int → Int → Int → Int → Bool → Option (List Int × Int)
  | 0, _, _, _, _, _, _, _ => none
  | k + 1, x1, x6, x7, x8, x9, x10, x44 => if x44 = true then (if x10 = x1 then (tegularef26_Path.l1 k x1 x6 x7 x8 x9 (wrap64 (x10 + 1))) else (if 0 ≤ x8 then (if x8 < (x6.length : Int) then (if 0 ≤ x10 then (if x10 < ((rd_L2 x6 x8).length : Int) then (if x7.length < 17592186044416 then (tegularef26_Path.l1 k x1 x6 (x7 ++ [rd (rd_L2 x6 x8) x10]) x8 x9 (wrap64 (x10 + 1))) else (none)) else (none)) else (none)) else (none)) else (none))) else (tegularef26_Path.l0 k (wrap64 (Int.tdiv x1 4)) x6 x7 (wrap64 (x8 + 1)))
end
def tegularef26_Path.f (k : Nat) (l0 : List Int) (a1 : Int) : Option (List Int × Int) := if a1 < 0 then (tegularef26_Path.j0 k l0 a1 true) else (tegularef26_Path.j0 k l0 a1 (decide (a1 ≥ (l0.length : Int))))
theorem tegularef26_Path.mono_l : ∀ k, (∀ y0 y1 y2, LeO (tegularef26_Path.j0 k y0 y1 y2) (tegularef26_Path.j0 (k + 1) y0 y1 y2)) ∧ (∀ y0 y1 y2 y3, LeO (tegularef26_Path.l0 k y0 y1 y2 y3) (tegularef26_Path.l0 (k + 1) y0 y1 y2 y3)) ∧ (∀ y0 y1 y2 y3 y4 y5, LeO (tegularef26_Path.l1 k y0 y1 y2 y3 y4 y5) (tegularef26_Path.l1 (k + 1) y0 y1 y2 y3 y4 y5)) ∧ (∀ y0 y1 y2 y3 y4 y5 y6, LeO (tegularef26_Path.j3 k y0 y1 y2 y3 y4 y5 y6) (tegularef26_Path.j3 (k + 1) y0 y1 y2 y3 y4 y5 y6))
  | 0 => ⟨fun _ _ _ r h => by simp [tegularef26_Path.j0] at h, fun _ _ _ _ r h => by simp [tegularef26_Path.l0] at h, fun _ _ _ _ _ _ r h => by simp [tegularef26_Path.l1] at h, fun _ _ _ _ _ _ _ r h => by simp [tegularef26_Path.j3] at h⟩
  | k + 1 => by
    obtain ⟨ih0, ih1, ih2, ih3⟩ := tegularef26_Path.mono_l k
    refine ⟨?_, ?_, ?_, ?_⟩
    · intro y0 y1 y2
      unfold tegularef26_Path.j0
      repeat' first
      | (with_reducible exact ih0 _ _ _)
      | (with_reducible exact ih1 _ _ _ _)
      | (with_reducible exact ih2 _ _ _ _ _ _)
      | (with_reducible exact ih3 _ _ _ _ _ _ _)
      | (with_reducible exact tegularef26_Levels.mono _ _)
      | (with_reducible exact LeO.refl _)
      | (with_reducible exact LeO.none _)
      | (with_reducible refine LeO.ite ?_ ?_)
      | (with_reducible refine LeO.bind ?_ (fun _ => ?_))
      | exact ih0 _ _ _
      | exact ih1 _ _ _ _
      | exact ih2 _ _ _ _ _ _
      | exact ih3 _ _ _ _ _ _ _
      | exact tegularef26_Levels.mono _ _
      | exact LeO.none _
      | refine LeO.ite ?_ ?_
      | refine LeO.bind ?_ (fun _ => ?_)
    · intro y0 y1 y2 y3
      unfold tegularef26_Path.l0
      repeat' first
      | (with_reducible exact ih0 _ _ _)
      | (with_reducible exact ih1 _ _ _ _)
      | (with_reducible exact ih2 _ _ _ _ _ _)
      | (with_reducible exact ih3 _ _ _ _ _ _ _)
      | (with_reducible exact tegularef26_Levels.mono _ _)
      | (with_reducible exact LeO.refl _)
      | (with_reducible exact LeO.none _)
      | (with_reducible refine LeO.ite ?_ ?_)
      | (with_reducible refine LeO.bind ?_ (fun _ => ?_))
      | exact ih0 _ _ _
      | exact ih1 _ _ _ _
      | exact ih2 _ _ _ _ _ _
      | exact ih3 _ _ _ _ _ _ _
      | exact tegularef26_Levels.mono _ _
      | exact LeO.none _
      | refine LeO.ite ?_ ?_
      | refine LeO.bind ?_ (fun _ => ?_)
    · intro y0 y1 y2 y3 y4 y5
      unfold tegularef26_Path.l1
      repeat' first
      | (with_reducible exact ih0 _ _ _)
      | (with_reducible exact ih1 _ _ _ _)
      | (with_reducible exact ih2 _ _ _ _ _ _)
      | (with_reducible exact ih3 _ _ _ _ _ _ _)
      | (with_reducible exact tegularef26_Levels.mono _ _)
      | (with_reducible exact LeO.refl _)
      | (with_reducible exact LeO.none _)
      | (with_reducible refine LeO.ite ?_ ?_)
      | (with_reducible refine LeO.bind ?_ (fun _ => ?_))
      | exact ih0 _ _ _
      | exact ih1 _ _ _ _
      | exact ih2 _ _ _ _ _ _
      | exact ih3 _ _ _ _ _ _ _
      | exact tegularef26_Levels.mono _ _
      | exact LeO.none _
      | refine LeO.ite ?_ ?_
      | refine LeO.bind ?_ (fun _ => ?_)
    · intro y0 y1 y2 y3 y4 y5 y6
      unfold tegularef26_Path.j3
      repeat' first
      | (with_reducible exact ih0 _ _ _)
      | (with_reducible exact ih1 _ _ _ _)
      | (with_reducible exact ih2 _ _ _ _ _ _)
      | (with_reducible exact ih3 _ _ _ _ _ _ _)
      | (with_reducible exact tegularef26_Levels.mono _ _)
      | (with_reducible exact LeO.refl _)
      | (with_reducible exact LeO.none _)
      | (with_reducible refine LeO.ite ?_ ?_)
      | (with_reducible refine LeO.bind ?_ (fun _ => ?_))
      | exact ih0 _ _ _
      | exact ih1 _ _ _ _
      | exact ih2 _ _ _ _ _ _
      | exact ih3 _ _ _ _ _ _ _
      | exact tegularef26_Levels.mono _ _
      | exact LeO.none _
      | refine LeO.ite ?_ ?_
      | refine LeO.bind ?_ (fun _ => ?_)
theorem tegularef26_Path.mono : ∀ a0 a1 k, LeO (tegularef26_Path.f k a0 a1) (tegularef26_Path.f (k + 1) a0 a1) := by
  intro a0 a1 k
  obtain ⟨ih0, ih1, ih2, ih3⟩ := tegularef26_Path.mono_l k
  unfold tegularef26_Path.f
  repeat' first
      | (with_reducible exact ih0 _ _ _)
      | (with_reducible exact ih1 _ _ _ _)
      | (with_reducible exact ih2 _ _ _ _ _ _)
      | (with_reducible exact ih3 _ _ _ _ _ _ _)
      | (with_reducible exact tegularef26_Levels.mono _ _)
      | (with_reducible exact LeO.refl _)
      | (with_reducible exact LeO.none _)
      | (with_reducible refine LeO.ite ?_ ?_)
      | (with_reducible refine LeO.bind ?_ (fun _ => ?_))
      | exact ih0 _ _ _
      | exact ih1 _ _ _ _
      | exact ih2 _ _ _ _ _ _
      | exact ih3 _ _ _ _ _ _ _
      | exact tegularef26_Levels.mono _ _
      | exact LeO.none _
      | refine LeO.ite ?_ ?_
      | refine LeO.bind ?_ (fun _ => ?_)
set_option maxHeartbeats 8000000 in
set_option maxRecDepth 100000 in
theorem tegularef26_Path.calls (k : Nat) (A0 : Option Addr) (c0 : Nat) (l0 : List Int) (a1 : Int) (r1 : List Int) (r2 : Int) (w : World) (hr0 : Kd.C (Kd.int .u64) w A0 l0.length l0) (hc0 : l0.length ≤ c0) (h : tegularef26_Path.f k l0 a1 = some (r1, r2)) :
    Calls Try.prog 14 #[.slice A0 l0.length c0, .int .i64 a1] w fun e w' => ∃ v0_ : Value, e = .returned (.tuple #[v0_, .int .i64 r2]) ∧ Kd.R (Kd.int .u64) 34 w' w.heap.size (fun _ => True) v0_ r1 ∧ Below w.heap.size w w' := by
  have HR0 := Aside0.mk hr0
  have HC0 := Aside0.mk hc0
  clear hr0 hc0
  have HB := Aside0.mk (Below.refl w.heap.size w)
  have H : (if a1 < 0 then (tegularef26_Path.j0 k l0 a1 true) else (tegularef26_Path.j0 k l0 a1 (decide (a1 ≥ (l0.length : Int))))) = some (r1, r2) := h
  clear h
  have HC3 := Aside0.mk H
  clear H
  go_enter Try.func14, Try.ntmps14
  go_upto_region 1 with (fail)
  go_cut [18] (fun v18 wc => ∃ (kq : Nat) (x18_2 : Bool), v18 = .bool x18_2 ∧ Aside0 (tegularef26_Path.j0 kq l0 a1 x18_2 = some (r1, r2)) ∧ Aside0 (kq ≤ k) ∧ Aside0 (Below w.heap.size w wc))
  case first =>
    have H := HC3.out
    clear HC3
    by_cases c4 : a1 < 0
    · rw [if_pos c4] at H
      have c4b0 : decide (a1 < 0) = true := decide_eq_true c4
      clear c4
      (first | rw [c4b0] | (simp only [i64_w, i32_w]; rw [c4b0]) | skip)
      have H' := Aside0.mk H
      clear H
      go_wp2
      go_meet
      case rel => exact ⟨_, (true), (by first | rfl | (simp; done) | (simp [*]; done)), H', ⟨by first | omega | exact Nat.le_refl _⟩, ⟨by repeat (first | (with_reducible first | exact HB.out | apply below_alloc | apply pw_below_drewN | apply below_drew1) | exact HB.out)⟩⟩
    · rw [if_neg c4] at H
      have c4b0 : decide (a1 < 0) = false := decide_eq_false c4
      clear c4
      (first | rw [c4b0] | (simp only [i64_w, i32_w]; rw [c4b0]) | skip)
      have H' := Aside0.mk H
      clear H
      go_wp2
      go_meet
      case rel => exact ⟨_, (decide (a1 ≥ (l0.length : Int))), (by first | rfl | (simp; done) | (simp [*]; done)), H', ⟨by first | omega | exact Nat.le_refl _⟩, ⟨by repeat (first | (with_reducible first | exact HB.out | apply below_alloc | apply pw_below_drewN | apply below_drew1) | exact HB.out)⟩⟩
  case rest =>
    clear HC3
    try clear c1
    try clear p2
    try clear c4
    try clear c4b0
    obtain ⟨kq, x18_2, rfl, HA, HJ2, HB⟩ := hcut
    cases kq with
    | zero => exact absurd HA.out (by simp [tegularef26_Path.j0])
    | succ kj2 =>
      have H := HA.out
      clear HA
      simp only [tegularef26_Path.j0] at H
      by_cases c5 : x18_2 = true
      · subst c5
        have H1 : (some (([] : List Int), 2)) = some (r1, r2) := by rw [if_pos rfl] at H; exact H
        clear H
        have H := H1
        clear H1
        simp only [Option.some.injEq, Prod.mk.injEq] at H
        obtain ⟨rfl, rfl⟩ := H
        go_wp2
        go_ret2
        exact ⟨_, by first | rfl | (simp [errW_none, errW_some] <;> rfl) | (simp [*, errW_none, errW_some] <;> rfl), by first | exact Kd.R_nil _ _ _ _ _ | exact Kd.N_nil _ _ _ _ _ | exact Kd.V_nil _ _ _ _ _ | exact Kd.Q_nil _ _ _ _ _ | exact Kd.S_nil _ _ _ _ _, by repeat (first | (with_reducible first | exact HB.out | apply below_alloc | apply pw_below_drewN | apply below_drew1) | exact HB.out)⟩
      · replace c5 := Bool.eq_false_iff.mpr c5
        subst c5
        have H1 : ((tegularef26_Levels.f kj2 l0).bind fun t196 => (tegularef26_Path.l0 kj2 a1 t196 ([] : List Int) 0)) = some (r1, r2) := by rw [if_neg (show ¬ (false = true) by decide)] at H; exact H
        clear H
        have H := H1
        clear H1
        replace H := Option.bind_eq_some_iff.mp H
        obtain ⟨t196, A60, H⟩ := H
        replace H : (tegularef26_Path.l0 kj2 a1 t196 ([] : List Int) 0) = some (r1, r2) := H
        have A6 := Aside0.mk A60
        clear A60
        have H' := Aside0.mk H
        clear H
        go_wp2_with (first | ((with_reducible refine gate_callee (f := 30) rfl ?_); refine goesL_ (some 20) rfl rfl Try.func30 (by kernel_rfl) rfl #[.slice A0 l0.length c0] rfl (by (try simp only [List.map_toArray, List.map_cons, List.map_nil]); first | done | rfl | (simp only [List.length_drop, List.length_take]; rfl)) ?_; (with_reducible refine (tegularef26_Levels.calls kj2 _ _ l0 t196 _ ?side1 ?side2 A6.out).mono ?_); (case side1 => repeat (first | exact (Kd.C_below HR0.out HB.out) | (with_reducible refine Kd.C_alloc ?_ _) | (with_reducible refine Kd.C_drewN ?_ _) | (with_reducible refine Kd.C_drew ?_))); (case side2 => exact HC0.out); rintro e w7 ⟨v197, rfl, ho0, hb⟩; refine ⟨_, rfl, ?_⟩; have n0_ := Aside0.mk (Kd.N_lower (Kd.N_mono (ok' := fun k_ => True) ho0 (fun k_ hk_ => trivial)) (below_size (by repeat (first | (with_reducible first | exact HB.out | apply below_alloc | apply pw_below_drewN | apply below_drew1) | exact HB.out)))); have n1_ := Aside0.mk (below_step (by repeat (first | (with_reducible first | exact HB.out | apply below_alloc | apply pw_below_drewN | apply below_drew1) | exact HB.out)) hb); clear HB; have HO198 := n0_; have HB := n1_; clear n0_ n1_; (try clear hb); (try clear hb2); (try clear hk); (try clear hi); (try clear ho0)))
        go_loopg [1, 7, 8] kj2 (fun kq v1 v7 v8 w' => ∃ (x1_2 : Int) (x7_2 : List Int) (x8_2 : Int), v1 = .int .i64 x1_2 ∧ v8 = .int .i64 x8_2 ∧ Aside0 (tegularef26_Path.l0 kq x1_2 t196 x7_2 x8_2 = some (r1, r2)) ∧ Aside0 (kq ≤ kj2) ∧ Aside0 (Kd.N (Kd.slice 34 (Kd.int .u64)) 22 w' w.heap.size (fun k_ => some k_ ≠ (v7 : Value).ownBlock) v197 t196) ∧ Aside0 (Kd.R (Kd.int .u64) 34 w' w.heap.size (fun _ => True) v7 x7_2) ∧ Aside0 (Below w.heap.size w w'))
        case atStart => exact ⟨(a1), (([] : List Int)), (0), (by first | rfl | (simp; done) | (simp [*]; done)), (by first | rfl | (simp; done) | (simp [*]; done)), H', ⟨Nat.le_refl _⟩, ⟨by (with_reducible repeat (first | apply Kd.N_alloc | apply Kd.N_drewN | apply Kd.N_drew)); exact Kd.N_mono HO198.out (fun _ hk => (by simp [Value.ownBlock]))⟩, ⟨by first | exact Kd.R_nil _ _ _ _ _ | exact Kd.N_nil _ _ _ _ _ | exact Kd.V_nil _ _ _ _ _ | exact Kd.Q_nil _ _ _ _ _ | exact Kd.S_nil _ _ _ _ _⟩, ⟨by repeat (first | (with_reducible first | exact HB.out | apply below_alloc | apply pw_below_drewN | apply below_drew1) | exact HB.out)⟩⟩
        case round =>
          clear H'
          try clear c1
          try clear p2
          try clear c3
          try clear c4
          try clear c4b0
          try clear c5
          try clear p2
          obtain ⟨x1_2, x7_2, x8_2, rfl, rfl, HA, HK2, HO_6, HO_7, HB⟩ := hrel
          cases gk with
          | zero => exact absurd HA.out (by simp [tegularef26_Path.l0])
          | succ k2 =>
            have H := HA.out
            clear HA
            simp only [tegularef26_Path.l0] at H
            by_cases c8 : (wrap64 (x8_2 + 1)) < (t196.length : Int)
            · rw [if_pos c8] at H
              have c8b0 : decide ((wrap64 (x8_2 + 1)) < (t196.length : Int)) = true := decide_eq_true c8
              clear c8
              have H' := Aside0.mk H
              clear H
              obtain ⟨Ao9, co9, eo9⟩ := Kd.N_slice HO_6.out
              subst eo9
              go_wp2
              go_loopg [7, 10] k2 (fun kq v7 v10 w' => ∃ (x7_3 : List Int) (x10_3 : Int), v10 = .int .i64 x10_3 ∧ Aside0 (tegularef26_Path.l1 kq x1_2 t196 x7_3 x8_2 (wrap64 ((wrap64 (Int.tdiv x1_2 4)) * 4)) x10_3 = some (r1, r2)) ∧ Aside0 (kq ≤ k2) ∧ Aside0 (Kd.N (Kd.slice 34 (Kd.int .u64)) 22 w' w.heap.size (fun k_ => some k_ ≠ (v7 : Value).ownBlock) (.slice Ao9 t196.length co9) t196) ∧ Aside0 (Kd.R (Kd.int .u64) 34 w' w.heap.size (fun _ => True) v7 x7_3) ∧ Aside0 (Below w.heap.size w w'))
              case atStart => exact ⟨(x7_2), (wrap64 ((wrap64 (Int.tdiv x1_2 4)) * 4)), (by first | rfl | (simp; done) | (simp [*]; done)), H', ⟨Nat.le_refl _⟩, ⟨by (with_reducible repeat (first | apply Kd.N_alloc | apply Kd.N_drewN | apply Kd.N_drew)); exact HO_6.out⟩, ⟨by (with_reducible repeat (first | apply Kd.R_alloc | apply Kd.R_drewN | apply Kd.R_drew)); exact HO_7.out⟩, ⟨by repeat (first | (with_reducible first | exact HB.out | apply below_alloc | apply pw_below_drewN | apply below_drew1) | exact HB.out)⟩⟩
              case round =>
                clear H'
                try clear c1
                try clear p2
                try clear c3
                try clear c4
                try clear c4b0
                try clear c5
                try clear p6
                try clear c8
                try clear c8b0
                try clear p2
                obtain ⟨x7_3, x10_3, rfl, HA, HK3, HO_6, HO_7, HB⟩ := hrel
                cases gk with
                | zero => exact absurd HA.out (by simp [tegularef26_Path.l1])
                | succ k3 =>
                  have H := HA.out
                  clear HA
                  simp only [tegularef26_Path.l1] at H
                  have HC10 := Aside0.mk H
                  clear H
                  go_upto_region 10 with (fail)
                  go_cut [44] (fun v44 wc => ∃ (kq : Nat) (x44_9 : Bool), v44 = .bool x44_9 ∧ Aside0 (tegularef26_Path.j3 kq x1_2 t196 x7_3 x8_2 (wrap64 ((wrap64 (Int.tdiv x1_2 4)) * 4)) x10_3 x44_9 = some (r1, r2)) ∧ Aside0 (kq ≤ k3) ∧ Aside0 (Kd.N (Kd.slice 34 (Kd.int .u64)) 22 wc w.heap.size (fun k_ => some k_ ≠ (u7 : Value).ownBlock) (.slice Ao9 t196.length co9) t196) ∧ Aside0 (Kd.R (Kd.int .u64) 34 wc w.heap.size (fun _ => True) u7 x7_3) ∧ Aside0 (Below w.heap.size w wc))
                  case first =>
                    have H := HC10.out
                    clear HC10
                    by_cases c11 : x10_3 < (wrap64 ((wrap64 ((wrap64 (Int.tdiv x1_2 4)) * 4)) + 4))
                    · rw [if_pos c11] at H
                      have c11b0 : decide (x10_3 < (wrap64 ((wrap64 ((wrap64 (Int.tdiv x1_2 4)) * 4)) + 4))) = true := decide_eq_true c11
                      clear c11
                      (first | rw [c11b0] | (simp only [i64_w, i32_w]; rw [c11b0]) | skip)
                      by_cases c12 : 0 ≤ x8_2
                      · rw [if_pos c12] at H
                        have c12b0 : decide (0 ≤ x8_2) = true := decide_eq_true c12
                        clear c12
                        by_cases c13 : x8_2 < (t196.length : Int)
                        · rw [if_pos c13] at H
                          have c13b0 : decide (x8_2 < (t196.length : Int)) = true := decide_eq_true c13
                          clear c13
                          have H' := Aside0.mk H
                          clear H
                          have p199 : 0 ≤ (x8_2 : Int) := of_decide_eq_true (by first | (with_reducible assumption) | assumption)
                          have q199 : x8_2 < (t196.length : Int) := of_decide_eq_true (by first | (with_reducible assumption) | assumption)
                          obtain ⟨ad199, A199_0, c199_0, e199, hx199_0, hl199_0, hi199_0⟩ := at_L2 (Kd.N_reads' HO_6.out).2.2 x8_2 p199 q199
                          cases e199
                          obtain ⟨ce199, hce199, hMe199, hcc199⟩ := Kd.N_get HO_6.out [] x8_2 p199 (by first | exact q199 | exact of_decide_eq_true (by first | (with_reducible assumption) | assumption) | (have e_ := (Kd.N_reads' HO_6.out).1; omega))
                          obtain ⟨ua199_0, uc199_0, rfl, ul199_0, ge199_0⟩ := Kd.FK_slice_open hMe199
                          have hv199_0 := hcc199 0 _ rfl
                          rw [Nat.add_zero, show ((Kd.slice 34 (Kd.int .u64))).sz = 1 from rfl, Nat.mul_one] at hv199_0
                          replace hv199_0 := Option.some.inj (hv199_0.symm.trans hx199_0)
                          injection hv199_0 with hva_ hvn_ hvc_
                          rw [hva_] at ge199_0
                          rw [hvc_] at ul199_0
                          have HL199_0 := Aside0.mk (show Kd.V (Kd.int .u64) 34 _ w.heap.size _ _ (rd_L2 t196 x8_2) from Kd.V_mk ul199_0 ge199_0)
                          clear hva_ hvn_ hvc_ ge199_0 ul199_0
                          clear hcc199 hce199
                          have HR199_0 := Aside0.mk hi199_0
                          have HC199_0 := Aside0.mk hl199_0
                          clear hi199_0 hl199_0
                          replace p199 := eq_true p199
                          replace q199 := eq_true q199
                          go_wp2
                          go_meet
                          case rel => exact ⟨_, (decide (x10_3 < ((rd_L2 t196 x8_2).length : Int))), (by first | rfl | (simp; done) | (simp [*]; done)), H', ⟨by have := HJ2.out; have := HK2.out; have := HK3.out; first | omega | exact Nat.le_refl _⟩, ⟨by (with_reducible repeat (first | apply Kd.N_alloc | apply Kd.N_drewN | apply Kd.N_drew)); exact HO_6.out⟩, ⟨by (with_reducible repeat (first | apply Kd.R_alloc | apply Kd.R_drewN | apply Kd.R_drew)); exact HO_7.out⟩, ⟨by repeat (first | (with_reducible first | exact HB.out | apply below_alloc | apply pw_below_drewN | apply below_drew1) | exact HB.out)⟩⟩
                        · rw [if_neg c13] at H
                          exact absurd H (by simp)
                      · rw [if_neg c12] at H
                        exact absurd H (by simp)
                    · rw [if_neg c11] at H
                      have c11b0 : decide (x10_3 < (wrap64 ((wrap64 ((wrap64 (Int.tdiv x1_2 4)) * 4)) + 4))) = false := decide_eq_false c11
                      clear c11
                      (first | rw [c11b0] | (simp only [i64_w, i32_w]; rw [c11b0]) | skip)
                      have H' := Aside0.mk H
                      clear H
                      go_wp2
                      go_meet
                      case rel => exact ⟨_, (false), (by first | rfl | (simp; done) | (simp [*]; done)), H', ⟨by have := HJ2.out; have := HK2.out; have := HK3.out; first | omega | exact Nat.le_refl _⟩, ⟨by (with_reducible repeat (first | apply Kd.N_alloc | apply Kd.N_drewN | apply Kd.N_drew)); exact HO_6.out⟩, ⟨by (with_reducible repeat (first | apply Kd.R_alloc | apply Kd.R_drewN | apply Kd.R_drew)); exact HO_7.out⟩, ⟨by repeat (first | (with_reducible first | exact HB.out | apply below_alloc | apply pw_below_drewN | apply below_drew1) | exact HB.out)⟩⟩
                  case rest =>
                    clear HC10
                    try clear c1
                    try clear p1
                    try clear q1
                    try clear hx1
                    try clear p2
                    try clear c3
                    try clear c4
                    try clear c4b0
                    try clear c5
                    try clear p6
                    try clear c8
                    try clear c8b0
                    try clear c11
                    try clear c11b0
                    try clear c12
                    try clear c12b0
                    try clear c13
                    try clear c13b0
                    try clear hx199_0
                    try clear p199
                    try clear p2
                    try clear p6
                    try clear q199
                    obtain ⟨kq, x44_9, rfl, HA, HJ9, HO_6, HO_7, HB⟩ := hcut
                    cases kq with
                    | zero => exact absurd HA.out (by simp [tegularef26_Path.j3])
                    | succ kj9 =>
                      have H := HA.out
                      clear HA
                      simp only [tegularef26_Path.j3] at H
                      by_cases c14 : x44_9 = true
                      · subst c14
                        have H1 : (if x10_3 = x1_2 then (tegularef26_Path.l1 kj9 x1_2 t196 x7_3 x8_2 (wrap64 ((wrap64 (Int.tdiv x1_2 4)) * 4)) (wrap64 (x10_3 + 1))) else (if 0 ≤ x8_2 then (if x8_2 < (t196.length : Int) then (if 0 ≤ x10_3 then (if x10_3 < ((rd_L2 t196 x8_2).length : Int) then (if x7_3.length < 17592186044416 then (tegularef26_Path.l1 kj9 x1_2 t196 (x7_3 ++ [rd (rd_L2 t196 x8_2) x10_3]) x8_2 (wrap64 ((wrap64 (Int.tdiv x1_2 4)) * 4)) (wrap64 (x10_3 + 1))) else (none)) else (none)) else (none)) else (none)) else (none))) = some (r1, r2) := by rw [if_pos rfl] at H; exact H
                        clear H
                        have H := H1
                        clear H1
                        by_cases c15 : x10_3 = x1_2
                        · rw [if_pos c15] at H
                          have c15b0 : (x10_3 == x1_2) = true := beq_iff_eq.mpr c15
                          have c15b1 : (x10_3 != x1_2) = false := bne_eq_false_iff_eq.mpr c15
                          clear c15
                          have H' := Aside0.mk H
                          clear H
                          go_wp2
                          go_roundg kj9
                          case measure => have := HJ2.out; have := HK2.out; have := HK3.out; have := HJ9.out; omega
                          case rel => exact ⟨(x7_3), (wrap64 (x10_3 + 1)), (by first | rfl | (simp; done) | (simp [*]; done)), H', ⟨by have := HJ2.out; have := HK2.out; have := HK3.out; have := HJ9.out; omega⟩, ⟨by (with_reducible repeat (first | apply Kd.N_alloc | apply Kd.N_drewN | apply Kd.N_drew)); exact HO_6.out⟩, ⟨by (with_reducible repeat (first | apply Kd.R_alloc | apply Kd.R_drewN | apply Kd.R_drew)); exact HO_7.out⟩, ⟨by repeat (first | (with_reducible first | exact HB.out | apply below_alloc | apply pw_below_drewN | apply below_drew1) | exact HB.out)⟩⟩
                        · rw [if_neg c15] at H
                          have c15b0 : (x10_3 == x1_2) = false := beq_eq_false_iff_ne.mpr c15
                          have c15b1 : (x10_3 != x1_2) = true := bne_iff_ne.mpr c15
                          by_cases c16 : 0 ≤ x8_2
                          · rw [if_pos c16] at H
                            have c16b0 : decide (0 ≤ x8_2) = true := decide_eq_true c16
                            clear c16
                            by_cases c17 : x8_2 < (t196.length : Int)
                            · rw [if_pos c17] at H
                              have c17b0 : decide (x8_2 < (t196.length : Int)) = true := decide_eq_true c17
                              clear c17
                              by_cases c18 : 0 ≤ x10_3
                              · rw [if_pos c18] at H
                                have c18b0 : decide (0 ≤ x10_3) = true := decide_eq_true c18
                                clear c18
                                by_cases c19 : x10_3 < ((rd_L2 t196 x8_2).length : Int)
                                · rw [if_pos c19] at H
                                  have c19b0 : decide (x10_3 < ((rd_L2 t196 x8_2).length : Int)) = true := decide_eq_true c19
                                  clear c19
                                  by_cases c20 : x7_3.length < 17592186044416
                                  · rw [if_pos c20] at H
                                    have LMc20 := Aside0.mk c20
                                    clear c20
                                    obtain ⟨y202, hy202⟩ : ∃ y_ : List Int, y_ = (x7_3 ++ [rd (rd_L2 t196 x8_2) x10_3]) := ⟨_, rfl⟩
                                    replace H : (tegularef26_Path.l1 kj9 x1_2 t196 y202 x8_2 (wrap64 ((wrap64 (Int.tdiv x1_2 4)) * 4)) (wrap64 (x10_3 + 1))) = some (r1, r2) := by first | (rw [hy202]; with_reducible exact H) | (have H2_ := (Option.bind_some _ _).symm.trans H; rw [hy202]; with_reducible exact H2_) | (have H2_ := (Option.bind_some _ _).symm.trans H; with_reducible exact H2_) | with_reducible exact H | (rw [hy202]; exact H) | exact H
                                    have Ny202 := Aside0.mk hy202
                                    clear hy202
                                    have H' := Aside0.mk H
                                    clear H
                                    have p200 : 0 ≤ (x8_2 : Int) := of_decide_eq_true (by first | (with_reducible assumption) | assumption)
                                    have q200 : x8_2 < (t196.length : Int) := of_decide_eq_true (by first | (with_reducible assumption) | assumption)
                                    obtain ⟨ad200, A200_0, c200_0, e200, hx200_0, hl200_0, hi200_0⟩ := at_L2 (Kd.N_reads' HO_6.out).2.2 x8_2 p200 q200
                                    cases e200
                                    obtain ⟨ce200, hce200, hMe200, hcc200⟩ := Kd.N_get HO_6.out [] x8_2 p200 (by first | exact q200 | exact of_decide_eq_true (by first | (with_reducible assumption) | assumption) | (have e_ := (Kd.N_reads' HO_6.out).1; omega))
                                    obtain ⟨ua200_0, uc200_0, rfl, ul200_0, ge200_0⟩ := Kd.FK_slice_open hMe200
                                    have hv200_0 := hcc200 0 _ rfl
                                    rw [Nat.add_zero, show ((Kd.slice 34 (Kd.int .u64))).sz = 1 from rfl, Nat.mul_one] at hv200_0
                                    replace hv200_0 := Option.some.inj (hv200_0.symm.trans hx200_0)
                                    injection hv200_0 with hva_ hvn_ hvc_
                                    rw [hva_] at ge200_0
                                    rw [hvc_] at ul200_0
                                    have HL200_0 := Aside0.mk (show Kd.V (Kd.int .u64) 34 _ w.heap.size _ _ (rd_L2 t196 x8_2) from Kd.V_mk ul200_0 ge200_0)
                                    clear hva_ hvn_ hvc_ ge200_0 ul200_0
                                    clear hcc200 hce200
                                    have HR200_0 := Aside0.mk hi200_0
                                    have HC200_0 := Aside0.mk hl200_0
                                    clear hi200_0 hl200_0
                                    replace p200 := eq_true p200
                                    replace q200 := eq_true q200
                                    have p201 : 0 ≤ (x10_3 : Int) := of_decide_eq_true (by first | (with_reducible assumption) | assumption)
                                    have q201 : x10_3 < ((rd_L2 t196 x8_2).length : Int) := of_decide_eq_true (by first | (with_reducible assumption) | assumption)
                                    obtain ⟨ad201, e201, hx201_0⟩ := Kd.at_int (by repeat (first | (with_reducible exact HR200_0.out) | (with_reducible refine Kd.C_alloc ?_ _) | (with_reducible refine Kd.C_drewN ?_ _) | (with_reducible refine Kd.C_drew ?_) | exact HR200_0.out)) x10_3 p201 q201
                                    cases e201
                                    replace p201 := eq_true p201
                                    replace q201 := eq_true q201
                                    go_wp2_with (first | ((with_reducible refine gate_builtin (b := .append) (xs := #[.tmp 50, .tmp 58]) rfl ?_); (try (refine gate_guard (by rfl) ?_; dsimp only)); at_builtin; refine Kd.R_append (Kd.int .u64) (w0 := w) w.heap.size rfl (.tmp 50) (.tmp 58) 22 34 (.int .u64 0) 8 rfl Try.underlying22 info34 rfl (by decide) (by omega) u7 x7_3 (rd (rd_L2 t196 x8_2) x10_3) [.int .u64 (rd (rd_L2 t196 x8_2) x10_3)] (fun _ => True) (fun _ => False) rfl rfl ?aP (fun _ hk => hk.elim) ?aF ?aO ?aB ?aS ?aL ?_; (case aP => exact rfl); (case aB => exact (by repeat (first | (with_reducible first | exact HB.out | apply below_alloc | apply pw_below_drewN | apply below_drew1) | exact HB.out))); (case aF => exact (fun _ _ => trivial)); (case aO => exact (by (with_reducible repeat (first | apply Kd.R_alloc | apply Kd.R_drewN | apply Kd.R_drew)); exact HO_7.out)); (case aS => exact (below_size (by repeat (first | (with_reducible first | exact HB.out | apply below_alloc | apply pw_below_drewN | apply below_drew1) | exact HB.out)))); (case aL => have := LMc20.out; omega); intro v203 w21 ho hb hg hat; rw [← Ny202.out] at ho; have n0_ := Aside0.mk (Kd.N_afterv (ok := (fun _ => True)) (by (with_reducible repeat (first | apply Kd.N_alloc | apply Kd.N_drewN | apply Kd.N_drew)); exact Kd.N_mono HO_6.out (fun _ hk => ⟨trivial, hk⟩)) hg hat); have n1_ := Aside0.mk (Kd.V_afterv (ok := (fun k_ => some k_ ≠ (.slice (some ad200) t196.length co9 : Value).ownBlock)) (by (with_reducible repeat (first | apply Kd.V_alloc | apply Kd.V_drewN | apply Kd.V_drew)); exact Kd.V_mono HL200_0.out (fun _ hk => ⟨hk.2, hk.1⟩)) hg hat); have n2_ := Aside0.mk (hb); have n3_ := Aside0.mk (ho); clear HO_6; clear HL200_0; clear HB; clear HO_7; have HO_6 := n0_; have HL200_0 := n1_; have HB := n2_; have HO204 := n3_; clear n0_ n1_ n2_ n3_; clear ho hb hg hat))
                                    go_roundg kj9
                                    case measure => have := HJ2.out; have := HK2.out; have := HK3.out; have := HJ9.out; omega
                                    case rel => exact ⟨(y202), (wrap64 (x10_3 + 1)), (by first | rfl | (simp; done) | (simp [*]; done)), H', ⟨by have := HJ2.out; have := HK2.out; have := HK3.out; have := HJ9.out; omega⟩, ⟨by (with_reducible repeat (first | apply Kd.N_alloc | apply Kd.N_drewN | apply Kd.N_drew)); exact Kd.N_mono HO_6.out (fun _ hk => hk.2)⟩, ⟨by (with_reducible repeat (first | apply Kd.R_alloc | apply Kd.R_drewN | apply Kd.R_drew)); exact HO204.out⟩, ⟨by repeat (first | (with_reducible first | exact HB.out | apply below_alloc | apply pw_below_drewN | apply below_drew1) | exact HB.out)⟩⟩
                                  · rw [if_neg c20] at H
                                    exact absurd H (by simp)
                                · rw [if_neg c19] at H
                                  exact absurd H (by simp)
                              · rw [if_neg c18] at H
                                exact absurd H (by simp)
                            · rw [if_neg c17] at H
                              exact absurd H (by simp)
                          · rw [if_neg c16] at H
                            exact absurd H (by simp)
                      · replace c14 := Bool.eq_false_iff.mpr c14
                        subst c14
                        have H1 : (tegularef26_Path.l0 kj9 (wrap64 (Int.tdiv x1_2 4)) t196 x7_3 (wrap64 (x8_2 + 1))) = some (r1, r2) := by rw [if_neg (show ¬ (false = true) by decide)] at H; exact H
                        clear H
                        have H := H1
                        clear H1
                        have H' := Aside0.mk H
                        clear H
                        go_wp2
                        go_roundg kj9
                        case measure => have := HJ2.out; have := HK2.out; have := HK3.out; have := HJ9.out; omega
                        case rel => exact ⟨(wrap64 (Int.tdiv x1_2 4)), (x7_3), (wrap64 (x8_2 + 1)), (by first | rfl | (simp; done) | (simp [*]; done)), (by first | rfl | (simp; done) | (simp [*]; done)), H', ⟨by have := HJ2.out; have := HK2.out; have := HK3.out; have := HJ9.out; omega⟩, ⟨by (with_reducible repeat (first | apply Kd.N_alloc | apply Kd.N_drewN | apply Kd.N_drew)); exact HO_6.out⟩, ⟨by (with_reducible repeat (first | apply Kd.R_alloc | apply Kd.R_drewN | apply Kd.R_drew)); exact HO_7.out⟩, ⟨by repeat (first | (with_reducible first | exact HB.out | apply below_alloc | apply pw_below_drewN | apply below_drew1) | exact HB.out)⟩⟩
            · rw [if_neg c8] at H
              have c8b0 : decide ((wrap64 (x8_2 + 1)) < (t196.length : Int)) = false := decide_eq_false c8
              clear c8
              simp only [Option.some.injEq, Prod.mk.injEq] at H
              obtain ⟨rfl, rfl⟩ := H
              obtain ⟨Ao22, co22, eo22⟩ := Kd.N_slice HO_6.out
              subst eo22
              go_wp2
              go_ret2
              exact ⟨_, by first | rfl | (simp [errW_none, errW_some] <;> rfl) | (simp [*, errW_none, errW_some] <;> rfl), by (with_reducible repeat (first | apply Kd.R_alloc | apply Kd.R_drewN | apply Kd.R_drew)); exact HO_7.out, by repeat (first | (with_reducible first | exact HB.out | apply below_alloc | apply pw_below_drewN | apply below_drew1) | exact HB.out)⟩

/-! ### tegularef26_Uints: function 15 -/
def tegularef26_Uints.l0 : Nat → List Int → List Int → Int → Option (Bool)
  | 0, _, _, _ => none
  | k + 1, x0, x1, x5 => if x5 < (x0.length : Int) then (if 0 ≤ x5 then (if x5 < (x1.length : Int) then (if (rd x0 x5) = (rd x1 x5) then (tegularef26_Uints.l0 k x0 x1 (wrap64 (x5 + 1))) else (some false)) else (none)) else (none)) else (some true)
def tegularef26_Uints.f (k : Nat) (l0 : List Int) (l1 : List Int) : Option (Bool) := if (l0.length : Int) = (l1.length : Int) then (tegularef26_Uints.l0 k l0 l1 0) else (some false)
theorem tegularef26_Uints.mono_l : ∀ k, (∀ y0 y1 y2, LeO (tegularef26_Uints.l0 k y0 y1 y2) (tegularef26_Uints.l0 (k + 1) y0 y1 y2))
  | 0 => fun _ _ _ r h => by simp [tegularef26_Uints.l0] at h
  | k + 1 => by
    have ih0 := tegularef26_Uints.mono_l k
    · intro y0 y1 y2
      unfold tegularef26_Uints.l0
      repeat' first
      | (with_reducible exact ih0 _ _ _)
      | (with_reducible exact LeO.refl _)
      | (with_reducible exact LeO.none _)
      | (with_reducible refine LeO.ite ?_ ?_)
      | (with_reducible refine LeO.bind ?_ (fun _ => ?_))
      | exact ih0 _ _ _
      | exact LeO.none _
      | refine LeO.ite ?_ ?_
      | refine LeO.bind ?_ (fun _ => ?_)
theorem tegularef26_Uints.mono : ∀ a0 a1 k, LeO (tegularef26_Uints.f k a0 a1) (tegularef26_Uints.f (k + 1) a0 a1) := by
  intro a0 a1 k
  have ih0 := tegularef26_Uints.mono_l k
  unfold tegularef26_Uints.f
  repeat' first
      | (with_reducible exact ih0 _ _ _)
      | (with_reducible exact LeO.refl _)
      | (with_reducible exact LeO.none _)
      | (with_reducible refine LeO.ite ?_ ?_)
      | (with_reducible refine LeO.bind ?_ (fun _ => ?_))
      | exact ih0 _ _ _
      | exact LeO.none _
      | refine LeO.ite ?_ ?_
      | refine LeO.bind ?_ (fun _ => ?_)
set_option maxHeartbeats 8000000 in
set_option maxRecDepth 100000 in
theorem tegularef26_Uints.calls (k : Nat) (A0 : Option Addr) (c0 : Nat) (l0 : List Int) (A1 : Option Addr) (c1 : Nat) (l1 : List Int) (r : Bool) (w : World) (hr0 : Kd.C (Kd.int .u64) w A0 l0.length l0) (hc0 : l0.length ≤ c0) (hr1 : Kd.C (Kd.int .u64) w A1 l1.length l1) (hc1 : l1.length ≤ c1) (h : tegularef26_Uints.f k l0 l1 = some r) :
    Calls Try.prog 15 #[.slice A0 l0.length c0, .slice A1 l1.length c1] w fun e w' => e = .returned (.bool r) ∧ Drawn0 w w' := by
  have HR0 := Aside0.mk hr0
  have HC0 := Aside0.mk hc0
  clear hr0 hc0
  have HR1 := Aside0.mk hr1
  have HC1 := Aside0.mk hc1
  clear hr1 hc1
  have H : (if (l0.length : Int) = (l1.length : Int) then (tegularef26_Uints.l0 k l0 l1 0) else (some false)) = some r := h
  clear h
  by_cases c3 : (l0.length : Int) = (l1.length : Int)
  · rw [if_pos c3] at H
    have c3b0 : ((l0.length : Int) == (l1.length : Int)) = true := beq_iff_eq.mpr c3
    have c3b1 : ((l0.length : Int) != (l1.length : Int)) = false := bne_eq_false_iff_eq.mpr c3
    have c3b2 : (l0.length == l1.length) = true := by first | simpa using c3 | (simp at c3 ⊢; omega)
    clear c3
    have H' := Aside0.mk H
    clear H
    go_enter Try.func15, Try.ntmps15
    go_wp2
    repeat (go_quiet (fail); try go_wp2)
    go_loopg [5] k (fun kq v5 w' => ∃ (x5_1 : Int), v5 = .int .i64 x5_1 ∧ Aside0 (tegularef26_Uints.l0 kq l0 l1 x5_1 = some r) ∧ Aside0 (kq ≤ k) ∧ Drawn0 w w')
    case atStart => exact ⟨(0), (by first | rfl | (simp; done) | (simp [*]; done)), H', ⟨Nat.le_refl _⟩, by repeat (first | exact Drawn0.refl _ | apply Drawn0.step)⟩
    case round =>
      clear H'
      try clear c1
      try clear p2
      try clear c3
      try clear c3b0
      try clear c3b1
      try clear c3b2
      obtain ⟨x5_1, rfl, HA, HK1, ⟨m1, rfl⟩⟩ := hrel
      cases gk with
      | zero => exact absurd HA.out (by simp [tegularef26_Uints.l0])
      | succ k1 =>
        have H := HA.out
        clear HA
        simp only [tegularef26_Uints.l0] at H
        by_cases c4 : x5_1 < (l0.length : Int)
        · rw [if_pos c4] at H
          have c4b0 : decide (x5_1 < (l0.length : Int)) = true := decide_eq_true c4
          clear c4
          by_cases c5 : 0 ≤ x5_1
          · rw [if_pos c5] at H
            have c5b0 : decide (0 ≤ x5_1) = true := decide_eq_true c5
            clear c5
            by_cases c6 : x5_1 < (l1.length : Int)
            · rw [if_pos c6] at H
              have c6b0 : decide (x5_1 < (l1.length : Int)) = true := decide_eq_true c6
              clear c6
              by_cases c7 : (rd l0 x5_1) = (rd l1 x5_1)
              · rw [if_pos c7] at H
                have c7b0 : ((rd l0 x5_1) == (rd l1 x5_1)) = true := beq_iff_eq.mpr c7
                have c7b1 : ((rd l0 x5_1) != (rd l1 x5_1)) = false := bne_eq_false_iff_eq.mpr c7
                clear c7
                have H' := Aside0.mk H
                clear H
                have p205 : 0 ≤ (x5_1 : Int) := of_decide_eq_true (by first | (with_reducible assumption) | assumption)
                have q205 : x5_1 < (l0.length : Int) := of_decide_eq_true (by first | (with_reducible assumption) | assumption)
                obtain ⟨ad205, e205, hx205_0⟩ := Kd.at_int HR0.out x5_1 p205 q205
                cases e205
                replace p205 := eq_true p205
                replace q205 := eq_true q205
                have p206 : 0 ≤ (x5_1 : Int) := of_decide_eq_true (by first | (with_reducible assumption) | assumption)
                have q206 : x5_1 < (l1.length : Int) := of_decide_eq_true (by first | (with_reducible assumption) | assumption)
                obtain ⟨ad206, e206, hx206_0⟩ := Kd.at_int HR1.out x5_1 p206 q206
                cases e206
                replace p206 := eq_true p206
                replace q206 := eq_true q206
                go_wp2
                repeat (go_quiet (fail); try go_wp2)
                go_roundg k1
                case measure => have := HK1.out; omega
                case rel => exact ⟨(wrap64 (x5_1 + 1)), (by first | rfl | (simp; done) | (simp [*]; done)), H', ⟨by have := HK1.out; omega⟩, by repeat (first | exact Drawn0.refl _ | apply Drawn0.step)⟩
              · rw [if_neg c7] at H
                have c7b0 : ((rd l0 x5_1) == (rd l1 x5_1)) = false := beq_eq_false_iff_ne.mpr c7
                have c7b1 : ((rd l0 x5_1) != (rd l1 x5_1)) = true := bne_iff_ne.mpr c7
                obtain rfl := Option.some.inj H
                have p205 : 0 ≤ (x5_1 : Int) := of_decide_eq_true (by first | (with_reducible assumption) | assumption)
                have q205 : x5_1 < (l0.length : Int) := of_decide_eq_true (by first | (with_reducible assumption) | assumption)
                obtain ⟨ad205, e205, hx205_0⟩ := Kd.at_int HR0.out x5_1 p205 q205
                cases e205
                replace p205 := eq_true p205
                replace q205 := eq_true q205
                have p206 : 0 ≤ (x5_1 : Int) := of_decide_eq_true (by first | (with_reducible assumption) | assumption)
                have q206 : x5_1 < (l1.length : Int) := of_decide_eq_true (by first | (with_reducible assumption) | assumption)
                obtain ⟨ad206, e206, hx206_0⟩ := Kd.at_int HR1.out x5_1 p206 q206
                cases e206
                replace p206 := eq_true p206
                replace q206 := eq_true q206
                go_wp2
                repeat (go_quiet (fail); try go_wp2)
                go_ret
                exact ⟨by first | rfl | (simp; done) | (simp [*]; done), by repeat (first | exact Drawn0.refl _ | apply Drawn0.step)⟩
            · rw [if_neg c6] at H
              exact absurd H (by simp)
          · rw [if_neg c5] at H
            exact absurd H (by simp)
        · rw [if_neg c4] at H
          have c4b0 : decide (x5_1 < (l0.length : Int)) = false := decide_eq_false c4
          clear c4
          obtain rfl := Option.some.inj H
          go_wp2
          repeat (go_quiet (fail); try go_wp2)
          go_ret
          exact ⟨by first | rfl | (simp; done) | (simp [*]; done), by repeat (first | exact Drawn0.refl _ | apply Drawn0.step)⟩
  · rw [if_neg c3] at H
    have c3b0 : ((l0.length : Int) == (l1.length : Int)) = false := beq_eq_false_iff_ne.mpr c3
    have c3b1 : ((l0.length : Int) != (l1.length : Int)) = true := bne_iff_ne.mpr c3
    have c3b2 : (l0.length == l1.length) = false := by first | simpa using c3 | (simp at c3 ⊢; omega)
    obtain rfl := Option.some.inj H
    go_enter Try.func15, Try.ntmps15
    go_wp2
    repeat (go_quiet (fail); try go_wp2)
    go_ret
    exact ⟨by first | rfl | (simp; done) | (simp [*]; done), by repeat (first | exact Drawn0.refl _ | apply Drawn0.step)⟩

-- NOT PRINTED: function 3 (tegulalaw26_SumtreePath)

/-! ### tegularef26_Top: function 34 -/
def tegularef26_Top.f (k : Nat) (a0 : Int) (a1 : Int) : Option (Int) := (tegularef15_Put.f k ([] : List Int) (IntKind.u64.wrap (a0)) 8).bind fun t207 => ((tegularef15_Put.f k t207 a1 8).bind fun t210 => ((tegularef08_Sum.f k t210).bind fun t213 => (some t213)))
theorem tegularef26_Top.mono : ∀ a0 a1 k, LeO (tegularef26_Top.f k a0 a1) (tegularef26_Top.f (k + 1) a0 a1) := by
  intro a0 a1 k
  unfold tegularef26_Top.f
  repeat' first
      | (with_reducible exact tegularef08_Sum.mono _ _)
      | (with_reducible exact tegularef15_Put.mono _ _ _ _)
      | (with_reducible exact LeO.refl _)
      | (with_reducible exact LeO.none _)
      | (with_reducible refine LeO.ite ?_ ?_)
      | (with_reducible refine LeO.bind ?_ (fun _ => ?_))
      | exact tegularef08_Sum.mono _ _
      | exact tegularef15_Put.mono _ _ _ _
      | exact LeO.none _
      | refine LeO.ite ?_ ?_
      | refine LeO.bind ?_ (fun _ => ?_)
set_option maxHeartbeats 8000000 in
set_option maxRecDepth 100000 in
theorem tegularef26_Top.calls (k : Nat) (a0 : Int) (a1 : Int) (r : Int) (w : World) (h : tegularef26_Top.f k a0 a1 = some r) :
    Calls Try.prog 34 #[.int .i64 a0, .int .u64 a1] w fun e w' => e = .returned (.int .u64 r) ∧ Below w.heap.size w w' := by
  have HB := Aside0.mk (Below.refl w.heap.size w)
  have H : ((tegularef15_Put.f k ([] : List Int) (IntKind.u64.wrap (a0)) 8).bind fun t207 => ((tegularef15_Put.f k t207 a1 8).bind fun t210 => ((tegularef08_Sum.f k t210).bind fun t213 => (some t213)))) = some r := h
  clear h
  replace H := Option.bind_eq_some_iff.mp H
  obtain ⟨t207, A30, H⟩ := H
  replace H : ((tegularef15_Put.f k t207 a1 8).bind fun t210 => ((tegularef08_Sum.f k t210).bind fun t213 => (some t213))) = some r := H
  have A3 := Aside0.mk A30
  clear A30
  replace H := Option.bind_eq_some_iff.mp H
  obtain ⟨t210, A40, H⟩ := H
  replace H : ((tegularef08_Sum.f k t210).bind fun t213 => (some t213)) = some r := H
  have A4 := Aside0.mk A40
  clear A40
  replace H := Option.bind_eq_some_iff.mp H
  obtain ⟨t213, A50, H⟩ := H
  replace H : (some t213) = some r := H
  have A5 := Aside0.mk A50
  clear A50
  obtain rfl := Option.some.inj H
  go_enter Try.func34, Try.ntmps34
  go_wp2_with (first | ((with_reducible refine gate_callee (f := 42) rfl ?_); refine goesL_ (some 7) rfl rfl Try.func42 (by kernel_rfl) rfl #[.slice none 0 0, .int .u64 (IntKind.u64.wrap (a0)), .int .i64 8] rfl (by (try simp only [List.map_toArray, List.map_cons, List.map_nil]); first | done | rfl | (simp only [List.length_drop, List.length_take]; rfl)) ?_; (refine (tegularef15_Put.calls k _ _ ([] : List Int) (IntKind.u64.wrap (a0)) 8 t207 _ ?side1 ?side2 A3.out).mono ?_); (case side1 => exact Kd.C_nil _ _); (case side2 => exact Nat.le_refl _); rintro e w6 ⟨v208, rfl, ho0, hb⟩; refine ⟨_, rfl, ?_⟩; have n0_ := Aside0.mk (Kd.R_lower ho0 (below_size (by repeat (first | (with_reducible first | exact HB.out | apply below_alloc | apply pw_below_drewN | apply below_drew1) | exact HB.out)))); have n1_ := Aside0.mk (below_step (by repeat (first | (with_reducible first | exact HB.out | apply below_alloc | apply pw_below_drewN | apply below_drew1) | exact HB.out)) hb); clear HB; have HO209 := n0_; have HB := n1_; clear n0_ n1_; (try clear hb); (try clear hb2); (try clear hk); (try clear hi); (try clear ho0); obtain ⟨Ao7, co7, eo7⟩ := Kd.R_slice HO209.out; subst eo7) | ((with_reducible refine gate_callee (f := 42) rfl ?_); refine goesL_ (some 9) rfl rfl Try.func42 (by kernel_rfl) rfl #[.slice Ao7 t207.length co7, .int .u64 a1, .int .i64 8] rfl (by (try simp only [List.map_toArray, List.map_cons, List.map_nil]); first | done | rfl | (simp only [List.length_drop, List.length_take]; rfl)) ?_; (with_reducible refine (tegularef15_Put.calls k _ _ t207 a1 8 t210 _ ?side1 ?side2 A4.out).mono ?_); (case side1 => repeat (first | exact (Kd.R_reads' HO209.out).2.2 | (with_reducible refine Kd.C_alloc ?_ _) | (with_reducible refine Kd.C_drewN ?_ _) | (with_reducible refine Kd.C_drew ?_))); (case side2 => exact (Kd.R_reads' HO209.out).2.1); rintro e w8 ⟨v211, rfl, ho0, hb⟩; refine ⟨_, rfl, ?_⟩; have n0_ := Aside0.mk (Kd.R_elder' (by (with_reducible repeat (first | apply Kd.R_alloc | apply Kd.R_drewN | apply Kd.R_drew)); exact HO209.out) (Kd.R_base ho0) hb); have n1_ := Aside0.mk (Kd.R_lower (Kd.R_new' ho0 (Kd.R_lt (by (with_reducible repeat (first | apply Kd.R_alloc | apply Kd.R_drewN | apply Kd.R_drew)); exact HO209.out))) (below_size (by repeat (first | (with_reducible first | exact HB.out | apply below_alloc | apply pw_below_drewN | apply below_drew1) | exact HB.out)))); have n2_ := Aside0.mk (below_step (by repeat (first | (with_reducible first | exact HB.out | apply below_alloc | apply pw_below_drewN | apply below_drew1) | exact HB.out)) hb); clear HO209; clear HB; have HO209 := n0_; have HO212 := n1_; have HB := n2_; clear n0_ n1_ n2_; (try clear hb); (try clear hb2); (try clear hk); (try clear hi); (try clear ho0); obtain ⟨Ao9, co9, eo9⟩ := Kd.R_slice HO212.out; subst eo9) | ((with_reducible refine gate_callee (f := 43) rfl ?_); refine goesL_ (some 10) rfl rfl Try.func43 (by kernel_rfl) rfl #[.slice Ao9 t210.length co9] rfl (by (try simp only [List.map_toArray, List.map_cons, List.map_nil]); first | done | rfl | (simp only [List.length_drop, List.length_take]; rfl)) ?_; (with_reducible refine (tegularef08_Sum.calls k _ _ t210 t213 _ ?side1 ?side2 A5.out).mono ?_); (case side1 => repeat (first | exact (Kd.R_reads' HO212.out).2.2 | (with_reducible refine Kd.C_alloc ?_ _) | (with_reducible refine Kd.C_drewN ?_ _) | (with_reducible refine Kd.C_drew ?_))); (case side2 => exact (Kd.R_reads' HO212.out).2.1); rintro e w' ⟨rfl, ⟨nd, rfl⟩⟩; refine ⟨_, rfl, ?_⟩))
  go_ret
  exact ⟨by first | rfl | (simp [errW_none, errW_some] <;> rfl) | (simp [*, errW_none, errW_some] <;> rfl), by repeat (first | (with_reducible first | exact HB.out | apply below_alloc | apply pw_below_drewN | apply below_drew1) | exact HB.out)⟩

end Go.Proofs.Ytpofcknfnipkgaa.PS
