/- Functions of the seat, each as a plain Lean function, and the proof that its call answers what that function says (laid by a program). -/
import Derived.Test.YtgofecclceoeiaaDoorPFx0
import Derived.Test.YtgofecclceoeiaaDoorPFx2
import Derived.Test.YtgofecclceoeiaaDoorPFx3
import Derived.Test.YtgofecclceoeiaaDoorPFx4
namespace Go.Proofs.YtgofecclceoeiaaDoor.PF
open Go.RowKit Go.Proofs.YtgofecclceoeiaaDoorW.PrintWords Go.Proofs.YtgofecclceoeiaaDoorW.PrintLast Go.Proofs.YtgofecclceoeiaaDoorW.PrintMore
attribute [local go_sem] max2_int min2_int max_two min_two max_three min_three max_four min_four   -- for this text's walks alone
set_option linter.unusedVariables false
set_option linter.unusedSimpArgs false

/-! ### tegularef13_Text: function 13 -/
def tegularef13_Text.l0 : Nat → List (S32) → ByteArray → Int → Option (ByteArray)
  | 0, _, _, _ => none
  | k + 1, x0, x3, x4 => if x4 < (x0.length : Int) then (if x4 > 0 then (if x3.size + 2 ≤ 9223372036854775807 then (if 0 ≤ x4 then ((tegularef13_one.f k ((rd_T32 x0 x4).f0) ((rd_T32 x0 x4).f1) ((rd_T32 x0 x4).f2)).bind fun t140 => (if (x3 ++ (⟨#[59, 32]⟩ : ByteArray)).size + t140.size ≤ 9223372036854775807 then (tegularef13_Text.l0 k x0 ((x3 ++ (⟨#[59, 32]⟩ : ByteArray)) ++ t140) (wrap64 (x4 + 1))) else (none))) else (none)) else (none)) else (if 0 ≤ x4 then ((tegularef13_one.f k ((rd_T32 x0 x4).f0) ((rd_T32 x0 x4).f1) ((rd_T32 x0 x4).f2)).bind fun t142 => (if x3.size + t142.size ≤ 9223372036854775807 then (tegularef13_Text.l0 k x0 (x3 ++ t142) (wrap64 (x4 + 1))) else (none))) else (none))) else (some x3)
def tegularef13_Text.f (k : Nat) (l0 : List (S32)) : Option (ByteArray) := (tegularef13_Valid.f k l0).bind fun t138 => (if t138 = true then (tegularef13_Text.l0 k l0 (⟨#[]⟩ : ByteArray) 0) else (some (⟨#[]⟩ : ByteArray)))
theorem tegularef13_Text.mono_l : ∀ k, (∀ y0 y1 y2, LeO (tegularef13_Text.l0 k y0 y1 y2) (tegularef13_Text.l0 (k + 1) y0 y1 y2))
  | 0 => fun _ _ _ r h => by simp [tegularef13_Text.l0] at h
  | k + 1 => by
    have ih0 := tegularef13_Text.mono_l k
    · intro y0 y1 y2
      unfold tegularef13_Text.l0
      repeat' first
      | (with_reducible exact ih0 _ _ _)
      | (with_reducible exact tegularef13_Valid.mono _ _)
      | (with_reducible exact tegularef13_one.mono _ _ _ _)
      | (with_reducible exact LeO.refl _)
      | (with_reducible exact LeO.none _)
      | (with_reducible refine LeO.ite ?_ ?_)
      | (with_reducible refine LeO.bind ?_ (fun _ => ?_))
      | exact ih0 _ _ _
      | exact tegularef13_Valid.mono _ _
      | exact tegularef13_one.mono _ _ _ _
      | exact LeO.none _
      | refine LeO.ite ?_ ?_
      | refine LeO.bind ?_ (fun _ => ?_)
theorem tegularef13_Text.mono : ∀ a0 k, LeO (tegularef13_Text.f k a0) (tegularef13_Text.f (k + 1) a0) := by
  intro a0 k
  have ih0 := tegularef13_Text.mono_l k
  unfold tegularef13_Text.f
  repeat' first
      | (with_reducible exact ih0 _ _ _)
      | (with_reducible exact tegularef13_Valid.mono _ _)
      | (with_reducible exact tegularef13_one.mono _ _ _ _)
      | (with_reducible exact LeO.refl _)
      | (with_reducible exact LeO.none _)
      | (with_reducible refine LeO.ite ?_ ?_)
      | (with_reducible refine LeO.bind ?_ (fun _ => ?_))
      | exact ih0 _ _ _
      | exact tegularef13_Valid.mono _ _
      | exact tegularef13_one.mono _ _ _ _
      | exact LeO.none _
      | refine LeO.ite ?_ ?_
      | refine LeO.bind ?_ (fun _ => ?_)
set_option maxHeartbeats 8000000 in
set_option maxRecDepth 100000 in
theorem tegularef13_Text.calls (k : Nat) (A0 : Option Addr) (c0 : Nat) (l0 : List (S32)) (r : ByteArray) (w : World) (hr0 : Kd.C k32 w A0 l0.length l0) (hc0 : l0.length ≤ c0) (h : tegularef13_Text.f k l0 = some r) :
    Calls Tryd.prog 13 #[.slice A0 l0.length c0] w fun e w' => e = .returned (.string r) ∧ Below w.heap.size w w' := by
  have hu32 := Tryd.underlying32
  have HR0 := Aside0.mk hr0
  have HC0 := Aside0.mk hc0
  clear hr0 hc0
  have HB := Aside0.mk (Below.refl w.heap.size w)
  have H : ((tegularef13_Valid.f k l0).bind fun t138 => (if t138 = true then (tegularef13_Text.l0 k l0 (⟨#[]⟩ : ByteArray) 0) else (some (⟨#[]⟩ : ByteArray)))) = some r := h
  clear h
  replace H := Option.bind_eq_some_iff.mp H
  obtain ⟨t138, A20, H⟩ := H
  replace H : (if t138 = true then (tegularef13_Text.l0 k l0 (⟨#[]⟩ : ByteArray) 0) else (some (⟨#[]⟩ : ByteArray))) = some r := H
  have A2 := Aside0.mk A20
  clear A20
  by_cases c3 : t138 = true
  · subst c3
    have H1 : (tegularef13_Text.l0 k l0 (⟨#[]⟩ : ByteArray) 0) = some r := by rw [if_pos rfl] at H; exact H
    clear H
    have H := H1
    clear H1
    have H' := Aside0.mk H
    clear H
    go_enter Tryd.func13, Tryd.ntmps13
    go_wp2_with (first | ((with_reducible refine gate_callee (f := 11) rfl ?_); refine goesL_ (some 6) rfl rfl Tryd.func11 (by kernel_rfl) rfl #[.slice A0 l0.length c0] rfl (by (try simp only [List.map_toArray, List.map_cons, List.map_nil]); first | done | rfl | (simp only [List.length_drop, List.length_take]; rfl)) ?_; (with_reducible refine (tegularef13_Valid.calls k _ _ l0 true _ ?side1 ?side2 A2.out).mono ?_); (case side1 => repeat (first | exact HR0.out | (with_reducible refine Kd.C_alloc ?_ _) | (with_reducible refine Kd.C_drewN ?_ _) | (with_reducible refine Kd.C_drew ?_))); (case side2 => exact HC0.out); rintro e w4 ⟨rfl, hb⟩; refine ⟨_, rfl, ?_⟩; have n0_ := Aside0.mk (below_step (by repeat (first | (with_reducible first | exact HB.out | apply below_alloc | apply pw_below_drewN | apply below_drew1) | exact HB.out)) hb); clear HB; have HB := n0_; clear n0_; (try clear hb); (try clear hb2); (try clear hk); (try clear hi)))
    go_loopg [3, 4] k (fun kq v3 v4 w' => ∃ (x3_1 : ByteArray) (x4_1 : Int), v3 = .string x3_1 ∧ v4 = .int .i64 x4_1 ∧ Aside0 (tegularef13_Text.l0 kq l0 x3_1 x4_1 = some r) ∧ Aside0 (kq ≤ k) ∧ Aside0 (Below w.heap.size w w'))
    case atStart => exact ⟨((⟨#[]⟩ : ByteArray)), (0), (by first | rfl | (simp; done) | (simp [*]; done)), (by first | rfl | (simp; done) | (simp [*]; done)), H', ⟨Nat.le_refl _⟩, ⟨by repeat (first | (with_reducible first | exact HB.out | apply below_alloc | apply pw_below_drewN | apply below_drew1) | exact HB.out)⟩⟩
    case round =>
      clear H'
      try clear c1
      try clear p2
      try clear c3
      obtain ⟨x3_1, x4_1, rfl, rfl, HA, HK1, HB⟩ := hrel
      cases gk with
      | zero => exact absurd HA.out (by simp [tegularef13_Text.l0])
      | succ k1 =>
        have H := HA.out
        clear HA
        simp only [tegularef13_Text.l0] at H
        by_cases c5 : x4_1 < (l0.length : Int)
        · rw [if_pos c5] at H
          have c5b0 : decide (x4_1 < (l0.length : Int)) = true := decide_eq_true c5
          clear c5
          by_cases c6 : x4_1 > 0
          · rw [if_pos c6] at H
            have c6b0 : decide (0 < x4_1) = true := decide_eq_true c6
            clear c6
            by_cases c7 : x3_1.size + 2 ≤ 9223372036854775807
            · rw [if_pos c7] at H
              have c7b0 := eq_true c7
              have c7b1 : decide (x3_1.size + 2 ≤ 9223372036854775807) = true := decide_eq_true c7
              try have c7b2 : (9223372036854775807 < x3_1.size + 2) = False := eq_false (Nat.not_lt.2 c7)
              by_cases c8 : 0 ≤ x4_1
              · rw [if_pos c8] at H
                have c8b0 : decide (0 ≤ x4_1) = true := decide_eq_true c8
                clear c8
                replace H := Option.bind_eq_some_iff.mp H
                obtain ⟨t140, A90, H⟩ := H
                replace H : (if (x3_1 ++ (⟨#[59, 32]⟩ : ByteArray)).size + t140.size ≤ 9223372036854775807 then (tegularef13_Text.l0 k1 l0 ((x3_1 ++ (⟨#[59, 32]⟩ : ByteArray)) ++ t140) (wrap64 (x4_1 + 1))) else (none)) = some r := H
                have A9 := Aside0.mk A90
                clear A90
                by_cases c10 : (x3_1 ++ (⟨#[59, 32]⟩ : ByteArray)).size + t140.size ≤ 9223372036854775807
                · rw [if_pos c10] at H
                  have c10b0 := eq_true c10
                  have c10b1 : decide ((x3_1 ++ (⟨#[59, 32]⟩ : ByteArray)).size + t140.size ≤ 9223372036854775807) = true := decide_eq_true c10
                  try have c10b2 : (9223372036854775807 < (x3_1 ++ (⟨#[59, 32]⟩ : ByteArray)).size + t140.size) = False := eq_false (Nat.not_lt.2 c10)
                  try have c10b3 : (9223372036854775807 < x3_1.size + 2 + t140.size) = False := by
                        have z := c10
                        simp only [ByteArray.size_append] at z
                        refine eq_false (Nat.not_lt.2 (Nat.le_trans (Nat.le_of_eq ?_) z))
                        rfl
                  have H' := Aside0.mk H
                  clear H
                  have p139 : 0 ≤ (x4_1 : Int) := of_decide_eq_true (by first | (with_reducible assumption) | assumption)
                  have q139 : x4_1 < (l0.length : Int) := of_decide_eq_true (by first | (with_reducible assumption) | assumption)
                  obtain ⟨ad139, e139, hx139_0, hx139_1, hx139_2⟩ := at_T32 HR0.out x4_1 p139 q139
                  cases e139
                  replace hx139_0 := (HB.out.cell (World.block_lt_of_cell? w _ hx139_0)).trans hx139_0
                  replace hx139_1 := (HB.out.cell (World.block_lt_of_cell? w _ hx139_1)).trans hx139_1
                  replace hx139_2 := (HB.out.cell (World.block_lt_of_cell? w _ hx139_2)).trans hx139_2
                  replace p139 := eq_true p139
                  replace q139 := eq_true q139
                  go_wp2_with (first | ((with_reducible refine gate_callee (f := 25) rfl ?_); refine goesL_ (some 23) rfl rfl Tryd.func25 (by kernel_rfl) rfl #[.agg #[.int .i64 ((rd_T32 l0 x4_1).f0), .int .i64 ((rd_T32 l0 x4_1).f1), .int .i64 ((rd_T32 l0 x4_1).f2)]] rfl (by (try simp only [List.map_toArray, List.map_cons, List.map_nil]); first | done | rfl | (simp only [List.length_drop, List.length_take]; rfl)) ?_; (with_reducible refine (tegularef13_one.calls k1 ((rd_T32 l0 x4_1).f0) ((rd_T32 l0 x4_1).f1) ((rd_T32 l0 x4_1).f2) t140 _ A9.out).mono ?_); rintro e w11 ⟨rfl, hb⟩; refine ⟨_, rfl, ?_⟩; have n0_ := Aside0.mk (below_step (by repeat (first | (with_reducible first | exact HB.out | apply below_alloc | apply pw_below_drewN | apply below_drew1) | exact HB.out)) hb); clear HB; have HB := n0_; clear n0_; (try clear hb); (try clear hb2); (try clear hk); (try clear hi)))
                  go_roundg k1
                  case measure => have := HK1.out; omega
                  case rel => exact ⟨((x3_1 ++ (⟨#[59, 32]⟩ : ByteArray)) ++ t140), (wrap64 (x4_1 + 1)), (by first | rfl | (simp; done) | (simp [*]; done)), (by first | rfl | (simp; done) | (simp [*]; done)), H', ⟨by have := HK1.out; omega⟩, ⟨by repeat (first | (with_reducible first | exact HB.out | apply below_alloc | apply pw_below_drewN | apply below_drew1) | exact HB.out)⟩⟩
                · rw [if_neg c10] at H
                  exact absurd H (by simp)
              · rw [if_neg c8] at H
                exact absurd H (by simp)
            · rw [if_neg c7] at H
              exact absurd H (by simp)
          · rw [if_neg c6] at H
            have c6b0 : decide (0 < x4_1) = false := decide_eq_false c6
            clear c6
            by_cases c12 : 0 ≤ x4_1
            · rw [if_pos c12] at H
              have c12b0 : decide (0 ≤ x4_1) = true := decide_eq_true c12
              clear c12
              replace H := Option.bind_eq_some_iff.mp H
              obtain ⟨t142, A130, H⟩ := H
              replace H : (if x3_1.size + t142.size ≤ 9223372036854775807 then (tegularef13_Text.l0 k1 l0 (x3_1 ++ t142) (wrap64 (x4_1 + 1))) else (none)) = some r := H
              have A13 := Aside0.mk A130
              clear A130
              by_cases c14 : x3_1.size + t142.size ≤ 9223372036854775807
              · rw [if_pos c14] at H
                have c14b0 := eq_true c14
                have c14b1 : decide (x3_1.size + t142.size ≤ 9223372036854775807) = true := decide_eq_true c14
                try have c14b2 : (9223372036854775807 < x3_1.size + t142.size) = False := eq_false (Nat.not_lt.2 c14)
                have H' := Aside0.mk H
                clear H
                have p141 : 0 ≤ (x4_1 : Int) := of_decide_eq_true (by first | (with_reducible assumption) | assumption)
                have q141 : x4_1 < (l0.length : Int) := of_decide_eq_true (by first | (with_reducible assumption) | assumption)
                obtain ⟨ad141, e141, hx141_0, hx141_1, hx141_2⟩ := at_T32 HR0.out x4_1 p141 q141
                cases e141
                replace hx141_0 := (HB.out.cell (World.block_lt_of_cell? w _ hx141_0)).trans hx141_0
                replace hx141_1 := (HB.out.cell (World.block_lt_of_cell? w _ hx141_1)).trans hx141_1
                replace hx141_2 := (HB.out.cell (World.block_lt_of_cell? w _ hx141_2)).trans hx141_2
                replace p141 := eq_true p141
                replace q141 := eq_true q141
                go_wp2_with (first | ((with_reducible refine gate_callee (f := 25) rfl ?_); refine goesL_ (some 23) rfl rfl Tryd.func25 (by kernel_rfl) rfl #[.agg #[.int .i64 ((rd_T32 l0 x4_1).f0), .int .i64 ((rd_T32 l0 x4_1).f1), .int .i64 ((rd_T32 l0 x4_1).f2)]] rfl (by (try simp only [List.map_toArray, List.map_cons, List.map_nil]); first | done | rfl | (simp only [List.length_drop, List.length_take]; rfl)) ?_; (with_reducible refine (tegularef13_one.calls k1 ((rd_T32 l0 x4_1).f0) ((rd_T32 l0 x4_1).f1) ((rd_T32 l0 x4_1).f2) t142 _ A13.out).mono ?_); rintro e w15 ⟨rfl, hb⟩; refine ⟨_, rfl, ?_⟩; have n0_ := Aside0.mk (below_step (by repeat (first | (with_reducible first | exact HB.out | apply below_alloc | apply pw_below_drewN | apply below_drew1) | exact HB.out)) hb); clear HB; have HB := n0_; clear n0_; (try clear hb); (try clear hb2); (try clear hk); (try clear hi)))
                go_roundg k1
                case measure => have := HK1.out; omega
                case rel => exact ⟨(x3_1 ++ t142), (wrap64 (x4_1 + 1)), (by first | rfl | (simp; done) | (simp [*]; done)), (by first | rfl | (simp; done) | (simp [*]; done)), H', ⟨by have := HK1.out; omega⟩, ⟨by repeat (first | (with_reducible first | exact HB.out | apply below_alloc | apply pw_below_drewN | apply below_drew1) | exact HB.out)⟩⟩
              · rw [if_neg c14] at H
                exact absurd H (by simp)
            · rw [if_neg c12] at H
              exact absurd H (by simp)
        · rw [if_neg c5] at H
          have c5b0 : decide (x4_1 < (l0.length : Int)) = false := decide_eq_false c5
          clear c5
          obtain rfl := Option.some.inj H
          go_wp2
          go_ret
          exact ⟨by first | rfl | (simp [errW_none, errW_some] <;> rfl) | (simp [*, errW_none, errW_some] <;> rfl), by repeat (first | (with_reducible first | exact HB.out | apply below_alloc | apply pw_below_drewN | apply below_drew1) | exact HB.out)⟩
  · replace c3 := Bool.eq_false_iff.mpr c3
    subst c3
    have H1 : (some (⟨#[]⟩ : ByteArray)) = some r := by rw [if_neg (show ¬ (false = true) by decide)] at H; exact H
    clear H
    have H := H1
    clear H1
    obtain rfl := Option.some.inj H
    go_enter Tryd.func13, Tryd.ntmps13
    go_wp2_with (first | ((with_reducible refine gate_callee (f := 11) rfl ?_); refine goesL_ (some 6) rfl rfl Tryd.func11 (by kernel_rfl) rfl #[.slice A0 l0.length c0] rfl (by (try simp only [List.map_toArray, List.map_cons, List.map_nil]); first | done | rfl | (simp only [List.length_drop, List.length_take]; rfl)) ?_; (with_reducible refine (tegularef13_Valid.calls k _ _ l0 false _ ?side1 ?side2 A2.out).mono ?_); (case side1 => repeat (first | exact HR0.out | (with_reducible refine Kd.C_alloc ?_ _) | (with_reducible refine Kd.C_drewN ?_ _) | (with_reducible refine Kd.C_drew ?_))); (case side2 => exact HC0.out); rintro e w16 ⟨rfl, hb⟩; refine ⟨_, rfl, ?_⟩; have n0_ := Aside0.mk (below_step (by repeat (first | (with_reducible first | exact HB.out | apply below_alloc | apply pw_below_drewN | apply below_drew1) | exact HB.out)) hb); clear HB; have HB := n0_; clear n0_; (try clear hb); (try clear hb2); (try clear hk); (try clear hi)))
    go_ret
    exact ⟨by first | rfl | (simp [errW_none, errW_some] <;> rfl) | (simp [*, errW_none, errW_some] <;> rfl), by repeat (first | (with_reducible first | exact HB.out | apply below_alloc | apply pw_below_drewN | apply below_drew1) | exact HB.out)⟩

/-! ### tegularef13_read: function 31 -/
theorem cell_three (W : World) (g : Nat) (a b c d e u : Value) (n1 n2 : Nat) (h : W.cell? ⟨g, 2, none⟩ = some u) :
    (((((((W.setCell ⟨g, 0, none⟩ a).setCell ⟨g, 1, none⟩ b).setCell ⟨g, 2, none⟩ c).drewN n1).setCell ⟨g, 0, none⟩ d).drewN n2).setCell ⟨g, 2, none⟩ e).cell? ⟨g, 2, none⟩ = some e := by
  simp only [World.cell?, World.setCell, World.drewN, Array.getElem?_modify] at h ⊢
  cases hh : W.heap[g]? with
  | none => rw [hh] at h; cases h
  | some o =>
    rw [hh] at h
    cases o with
    | cells cs t f =>
      simp at h
      have hl : 2 < cs.size := by
        rcases Nat.lt_or_ge 2 cs.size with z | z
        · exact z
        · rw [Array.getElem?_eq_none z] at h; cases h
      simp [hl]
    | _ => simp at h
def tegularef13_read.l0 : Nat → ByteArray → Int → Option (Int × Int × Int × ByteArray × Bool)
  | 0, _, _ => none
  | k + 1, x0, x5 => if x5 ≤ 7 then ((tegularef13_word.f x5).bind fun t144 => (if t144.size + 1 ≤ 9223372036854775807 then ((tegularef13_begins.f x0 (t144 ++ (⟨#[32]⟩ : ByteArray))).bind fun t145 => (if t145 = true then (if 0 ≤ ((t144.size : Int) + 1) then (if ((t144.size : Int) + 1) ≤ (x0.size : Int) then ((tegularef13_number.f k (x0.extract (t144.size + 1) x0.size)).bind fun bt147 => ((tegularef13_begins.f bt147.2 (⟨#[32, 116, 111, 32]⟩ : ByteArray)).bind fun t149 => (if t149 = true then (if 4 ≤ (bt147.2.size : Int) then ((tegularef13_number.f k (bt147.2.extract 4 bt147.2.size)).bind fun bt150 => (some (bt147.1, x5, bt150.1, bt150.2, true))) else (none)) else (some (bt147.1, x5, 0, bt147.2, true))))) else (none)) else (none)) else (tegularef13_read.l0 k x0 (wrap64 (x5 + 1))))) else (none))) else (some (0, 0, 0, x0, false))
def tegularef13_read.f (k : Nat) (a0 : ByteArray) : Option (Int × Int × Int × ByteArray × Bool) := tegularef13_read.l0 k a0 1
theorem tegularef13_read.mono_l : ∀ k, (∀ y0 y1, LeO (tegularef13_read.l0 k y0 y1) (tegularef13_read.l0 (k + 1) y0 y1))
  | 0 => fun _ _ r h => by simp [tegularef13_read.l0] at h
  | k + 1 => by
    have ih0 := tegularef13_read.mono_l k
    · intro y0 y1
      unfold tegularef13_read.l0
      repeat' first
      | (with_reducible exact ih0 _ _)
      | (with_reducible exact tegularef13_number.mono _ _)
      | (with_reducible exact LeO.refl _)
      | (with_reducible exact LeO.none _)
      | (with_reducible refine LeO.ite ?_ ?_)
      | (with_reducible refine LeO.bind ?_ (fun _ => ?_))
      | exact ih0 _ _
      | exact tegularef13_number.mono _ _
      | exact LeO.none _
      | refine LeO.ite ?_ ?_
      | refine LeO.bind ?_ (fun _ => ?_)
theorem tegularef13_read.mono : ∀ a0 k, LeO (tegularef13_read.f k a0) (tegularef13_read.f (k + 1) a0) := by
  intro a0 k
  have ih0 := tegularef13_read.mono_l k
  unfold tegularef13_read.f
  repeat' first
      | (with_reducible exact ih0 _ _)
      | (with_reducible exact tegularef13_number.mono _ _)
      | (with_reducible exact LeO.refl _)
      | (with_reducible exact LeO.none _)
      | (with_reducible refine LeO.ite ?_ ?_)
      | (with_reducible refine LeO.bind ?_ (fun _ => ?_))
      | exact ih0 _ _
      | exact tegularef13_number.mono _ _
      | exact LeO.none _
      | refine LeO.ite ?_ ?_
      | refine LeO.bind ?_ (fun _ => ?_)
set_option maxHeartbeats 8000000 in
set_option maxRecDepth 100000 in
theorem tegularef13_read.calls (k : Nat) (a0 : ByteArray) (r1 : Int) (r2 : Int) (r3 : Int) (r4 : ByteArray) (r5 : Bool) (w : World) (h : tegularef13_read.f k a0 = some (r1, r2, r3, r4, r5)) :
    Calls Tryd.prog 31 #[.string a0] w fun e w' => e = .returned (.tuple #[.agg #[.int .i64 r1, .int .i64 r2, .int .i64 r3], .string r4, .bool r5]) ∧ Below w.heap.size w w' := by
  have hu32 := Tryd.underlying32
  have HB := Aside0.mk (Below.refl w.heap.size w)
  have H : (tegularef13_read.l0 k a0 1) = some (r1, r2, r3, r4, r5) := h
  clear h
  have H' := Aside0.mk H
  clear H
  go_enter Tryd.func31, Tryd.ntmps31
  go_wp2_with (first | ((with_reducible refine gate_dst (N := 2) rfl ?_); refine box_event ?hg (N := 2) ?hd (cs := #[.int .i64 0, .int .i64 0, .int .i64 0]) (t := 32) ?hr ?_; (case hd => rfl); (case hg => rfl); (case hr => first | (go_simp; done) | (go_simp; rfl)); intro gb143 hg w2 hbox hb; have n0_ := Aside0.mk (below_step (by repeat (first | (with_reducible first | exact HB.out | apply below_alloc | apply pw_below_drewN | apply below_drew1) | exact HB.out)) hb); have n1_ := Aside0.mk (hbox); have n2_ := Aside0.mk ((by rw [hg]; exact (below_size (by repeat (first | (with_reducible first | exact HB.out | apply below_alloc | apply pw_below_drewN | apply below_drew1) | exact HB.out))) : w.heap.size ≤ gb143)); have n3_ := Aside0.mk ((by rw [hg]; exact (below_size (by repeat (first | (with_reducible first | exact HB.out | apply below_alloc | apply pw_below_drewN | apply below_drew1) | exact HB.out))) : w.heap.size ≤ gb143)); clear HB; have HB := n0_; have BK143 := n1_; have GW143 := n2_; have GE143 := n3_; clear n0_ n1_ n2_ n3_; clear hb hbox hg))
  go_loopg [0, 5] k (fun kq v0 v5 w' => ∃ (x0_1 : ByteArray) (x5_1 : Int) (x144000_1 : Int) (x144001_1 : Int) (x144002_1 : Int), v0 = .string x0_1 ∧ v5 = .int .i64 x5_1 ∧ Aside0 (tegularef13_read.l0 kq x0_1 x5_1 = some (r1, r2, r3, r4, r5)) ∧ Aside0 (kq ≤ k) ∧ Aside0 (w'.heap[gb143]? = some (.cells #[.int .i64 x144000_1, .int .i64 x144001_1, .int .i64 x144002_1] 32 (0, 0))) ∧ Aside0 (Below w.heap.size w w'))
  case atStart => exact ⟨(a0), (1), (0), (0), (0), (by first | rfl | (simp; done) | (simp [*]; done)), (by first | rfl | (simp; done) | (simp [*]; done)), H', ⟨Nat.le_refl _⟩, ⟨by (with_reducible repeat (first | refine blk_drewN ?_ _ | refine blk_drew ?_ | refine blk_alloc ?_ _)); exact BK143.out⟩, ⟨by repeat (first | (with_reducible first | exact HB.out | apply below_alloc | apply pw_below_drewN | apply below_drew1 | refine below_set ?_ GE143.out) | exact HB.out)⟩⟩
  case round =>
    clear H'
    try clear p2
    obtain ⟨x0_1, x5_1, x144000_1, x144001_1, x144002_1, rfl, rfl, HA, HK1, BK143, HB⟩ := hrel
    cases gk with
    | zero => exact absurd HA.out (by simp [tegularef13_read.l0])
    | succ k1 =>
      have H := HA.out
      clear HA
      simp only [tegularef13_read.l0] at H
      by_cases c3 : x5_1 ≤ 7
      · rw [if_pos c3] at H
        have c3b0 : decide (x5_1 ≤ 7) = true := decide_eq_true c3
        clear c3
        replace H := Option.bind_eq_some_iff.mp H
        obtain ⟨t144, A40, H⟩ := H
        replace H : (if t144.size + 1 ≤ 9223372036854775807 then ((tegularef13_begins.f x0_1 (t144 ++ (⟨#[32]⟩ : ByteArray))).bind fun t145 => (if t145 = true then (if 0 ≤ ((t144.size : Int) + 1) then (if ((t144.size : Int) + 1) ≤ (x0_1.size : Int) then ((tegularef13_number.f k1 (x0_1.extract (t144.size + 1) x0_1.size)).bind fun bt147 => ((tegularef13_begins.f bt147.2 (⟨#[32, 116, 111, 32]⟩ : ByteArray)).bind fun t149 => (if t149 = true then (if 4 ≤ (bt147.2.size : Int) then ((tegularef13_number.f k1 (bt147.2.extract 4 bt147.2.size)).bind fun bt150 => (some (bt147.1, x5_1, bt150.1, bt150.2, true))) else (none)) else (some (bt147.1, x5_1, 0, bt147.2, true))))) else (none)) else (none)) else (tegularef13_read.l0 k1 x0_1 (wrap64 (x5_1 + 1))))) else (none)) = some (r1, r2, r3, r4, r5) := H
        have A4 := Aside0.mk A40
        clear A40
        by_cases c5 : t144.size + 1 ≤ 9223372036854775807
        · rw [if_pos c5] at H
          have c5b0 := eq_true c5
          have c5b1 : decide (t144.size + 1 ≤ 9223372036854775807) = true := decide_eq_true c5
          try have c5b2 : (9223372036854775807 < t144.size + 1) = False := eq_false (Nat.not_lt.2 c5)
          replace H := Option.bind_eq_some_iff.mp H
          obtain ⟨t145, A60, H⟩ := H
          replace H : (if t145 = true then (if 0 ≤ ((t144.size : Int) + 1) then (if ((t144.size : Int) + 1) ≤ (x0_1.size : Int) then ((tegularef13_number.f k1 (x0_1.extract (t144.size + 1) x0_1.size)).bind fun bt147 => ((tegularef13_begins.f bt147.2 (⟨#[32, 116, 111, 32]⟩ : ByteArray)).bind fun t149 => (if t149 = true then (if 4 ≤ (bt147.2.size : Int) then ((tegularef13_number.f k1 (bt147.2.extract 4 bt147.2.size)).bind fun bt150 => (some (bt147.1, x5_1, bt150.1, bt150.2, true))) else (none)) else (some (bt147.1, x5_1, 0, bt147.2, true))))) else (none)) else (none)) else (tegularef13_read.l0 k1 x0_1 (wrap64 (x5_1 + 1)))) = some (r1, r2, r3, r4, r5) := H
          have A6 := Aside0.mk A60
          clear A60
          by_cases c7 : t145 = true
          · subst c7
            have H1 : (if 0 ≤ ((t144.size : Int) + 1) then (if ((t144.size : Int) + 1) ≤ (x0_1.size : Int) then ((tegularef13_number.f k1 (x0_1.extract (t144.size + 1) x0_1.size)).bind fun bt147 => ((tegularef13_begins.f bt147.2 (⟨#[32, 116, 111, 32]⟩ : ByteArray)).bind fun t149 => (if t149 = true then (if 4 ≤ (bt147.2.size : Int) then ((tegularef13_number.f k1 (bt147.2.extract 4 bt147.2.size)).bind fun bt150 => (some (bt147.1, x5_1, bt150.1, bt150.2, true))) else (none)) else (some (bt147.1, x5_1, 0, bt147.2, true))))) else (none)) else (none)) = some (r1, r2, r3, r4, r5) := by rw [if_pos rfl] at H; exact H
            clear H
            have H := H1
            clear H1
            by_cases c8 : 0 ≤ ((t144.size : Int) + 1)
            · rw [if_pos c8] at H
              have c8b0 := eq_true c8
              have c8b1 : decide (0 ≤ ((t144.size : Int) + 1)) = true := decide_eq_true c8
              by_cases c9 : ((t144.size : Int) + 1) ≤ (x0_1.size : Int)
              · rw [if_pos c9] at H
                have c9b0 := eq_true c9
                have c9b1 : decide (((t144.size : Int) + 1) ≤ (x0_1.size : Int)) = true := decide_eq_true c9
                replace H := Option.bind_eq_some_iff.mp H
                obtain ⟨⟨t147, t148⟩, A100, H⟩ := H
                replace H : ((tegularef13_begins.f t148 (⟨#[32, 116, 111, 32]⟩ : ByteArray)).bind fun t149 => (if t149 = true then (if 4 ≤ (t148.size : Int) then ((tegularef13_number.f k1 (t148.extract 4 t148.size)).bind fun bt150 => (some (t147, x5_1, bt150.1, bt150.2, true))) else (none)) else (some (t147, x5_1, 0, t148, true)))) = some (r1, r2, r3, r4, r5) := H
                have A10 := Aside0.mk A100
                clear A100
                replace H := Option.bind_eq_some_iff.mp H
                obtain ⟨t149, A110, H⟩ := H
                replace H : (if t149 = true then (if 4 ≤ (t148.size : Int) then ((tegularef13_number.f k1 (t148.extract 4 t148.size)).bind fun bt150 => (some (t147, x5_1, bt150.1, bt150.2, true))) else (none)) else (some (t147, x5_1, 0, t148, true))) = some (r1, r2, r3, r4, r5) := H
                have A11 := Aside0.mk A110
                clear A110
                by_cases c12 : t149 = true
                · subst c12
                  have H1 : (if 4 ≤ (t148.size : Int) then ((tegularef13_number.f k1 (t148.extract 4 t148.size)).bind fun bt150 => (some (t147, x5_1, bt150.1, bt150.2, true))) else (none)) = some (r1, r2, r3, r4, r5) := by rw [if_pos rfl] at H; exact H
                  clear H
                  have H := H1
                  clear H1
                  by_cases c13 : 4 ≤ (t148.size : Int)
                  · rw [if_pos c13] at H
                    have c13b0 := eq_true c13
                    have c13b1 : decide (4 ≤ (t148.size : Int)) = true := decide_eq_true c13
                    clear c13
                    replace H := Option.bind_eq_some_iff.mp H
                    obtain ⟨⟨t150, t151⟩, A140, H⟩ := H
                    replace H : (some (t147, x5_1, t150, t151, true)) = some (r1, r2, r3, r4, r5) := H
                    have A14 := Aside0.mk A140
                    clear A140
                    simp only [Option.some.injEq, Prod.mk.injEq] at H
                    obtain ⟨rfl, rfl, rfl, rfl, rfl⟩ := H
                    have hz2 := cell_three
                    go_wp2_with (first | ((with_reducible refine gate_callee (f := 37) rfl ?_); refine goesL_ (some 13) rfl rfl Tryd.func37 (by kernel_rfl) rfl #[.int .i64 x5_1] rfl (by (try simp only [List.map_toArray, List.map_cons, List.map_nil]); first | done | rfl | (simp only [List.length_drop, List.length_take]; rfl)) ?_; (with_reducible refine (tegularef13_word.calls x5_1 t144 _ A4.out).mono ?_); rintro e w' ⟨rfl, ⟨nd, rfl⟩⟩; refine ⟨_, rfl, ?_⟩; (try (rw [drewN_self wr]; generalize hq_ : World.drewN wr _ = wr; have n0_ : Aside0 (wr.heap[gb143]? = some (.cells #[.int .i64 x144000_1, .int .i64 x144001_1, .int .i64 x144002_1] 32 (0, 0))) := ⟨by rw [← hq_]; exact (by (with_reducible repeat (first | refine blk_drewN ?_ _ | refine blk_drew ?_ | refine blk_alloc ?_ _)); exact BK143.out)⟩; have n1_ : Aside0 (Below w.heap.size w wr) := ⟨by rw [← hq_]; exact (by repeat (first | (with_reducible first | exact HB.out | apply below_alloc | apply pw_below_drewN | apply below_drew1 | refine below_set ?_ GE143.out) | exact HB.out))⟩; clear BK143 HB hq_; have BK143 := n0_; have HB := n1_; clear n0_ n1_))) | ((with_reducible refine gate_callee (f := 32) rfl ?_); refine goesL_ (some 17) rfl rfl Tryd.func32 (by kernel_rfl) rfl #[.string x0_1, .string (t144 ++ (⟨#[32]⟩ : ByteArray))] rfl (by (try simp only [List.map_toArray, List.map_cons, List.map_nil]); first | done | rfl | (simp only [List.length_drop, List.length_take]; rfl)) ?_; (with_reducible refine (tegularef13_begins.calls x0_1 (t144 ++ (⟨#[32]⟩ : ByteArray)) true _ A6.out).mono ?_); rintro e w' ⟨rfl, ⟨nd, rfl⟩⟩; refine ⟨_, rfl, ?_⟩; (try (rw [drewN_self wr]; generalize hq_ : World.drewN wr _ = wr; have n0_ : Aside0 (wr.heap[gb143]? = some (.cells #[.int .i64 x144000_1, .int .i64 x144001_1, .int .i64 x144002_1] 32 (0, 0))) := ⟨by rw [← hq_]; exact (by (with_reducible repeat (first | refine blk_drewN ?_ _ | refine blk_drew ?_ | refine blk_alloc ?_ _)); exact BK143.out)⟩; have n1_ : Aside0 (Below w.heap.size w wr) := ⟨by rw [← hq_]; exact (by repeat (first | (with_reducible first | exact HB.out | apply below_alloc | apply pw_below_drewN | apply below_drew1 | refine below_set ?_ GE143.out) | exact HB.out))⟩; clear BK143 HB hq_; have BK143 := n0_; have HB := n1_; clear n0_ n1_))) | ((with_reducible refine gate_dst (N := 7) rfl ?_); refine box_event ?hg (N := 7) ?hd (cs := #[.int .i64 0, .int .i64 0, .int .i64 0]) (t := 32) ?hr ?_; (case hd => rfl); (case hg => rfl); (case hr => first | (go_simp; done) | (go_simp; rfl)); intro gb146 hg w15 hbox hb; have n0_ := Aside0.mk (blk_below (g := gb143) (o := .cells #[.int .i64 x144000_1, .int .i64 x144001_1, .int .i64 x144002_1] 32 (0, 0)) (by (with_reducible repeat (first | refine blk_drewN ?_ _ | refine blk_drew ?_ | refine blk_alloc ?_ _)); exact BK143.out) hb); have n1_ := Aside0.mk (below_step (by repeat (first | (with_reducible first | exact HB.out | apply below_alloc | apply pw_below_drewN | apply below_drew1 | refine below_set ?_ GE143.out) | exact HB.out)) hb); have n2_ := Aside0.mk (hbox); have n3_ := Aside0.mk ((by rw [hg]; exact (below_size (by repeat (first | (with_reducible first | exact HB.out | apply below_alloc | apply pw_below_drewN | apply below_drew1 | refine below_set ?_ GE143.out) | exact HB.out))) : w.heap.size ≤ gb146)); have n4_ := Aside0.mk ((by rw [hg]; exact (below_size (by repeat (first | (with_reducible first | exact HB.out | apply below_alloc | apply pw_below_drewN | apply below_drew1 | refine below_set ?_ GE143.out) | exact HB.out))) : w.heap.size ≤ gb146)); have n5_ := Aside0.mk ((by rw [hg]; exact Nat.ne_of_lt (blk_lt (g := gb143) (o := .cells #[.int .i64 x144000_1, .int .i64 x144001_1, .int .i64 x144002_1] 32 (0, 0)) (by (with_reducible repeat (first | refine blk_drewN ?_ _ | refine blk_drew ?_ | refine blk_alloc ?_ _)); exact BK143.out)) : gb143 ≠ gb146)); have n6_ := Aside0.mk ((by rw [hg]; exact Nat.ne_of_gt (blk_lt (g := gb143) (o := .cells #[.int .i64 x144000_1, .int .i64 x144001_1, .int .i64 x144002_1] 32 (0, 0)) (by (with_reducible repeat (first | refine blk_drewN ?_ _ | refine blk_drew ?_ | refine blk_alloc ?_ _)); exact BK143.out)) : gb146 ≠ gb143)); clear BK143; clear HB; have BK143 := n0_; have HB := n1_; have BK146 := n2_; have GW146 := n3_; have GE146 := n4_; have NB143_146 := n5_; have NB146_143 := n6_; clear n0_ n1_ n2_ n3_ n4_ n5_ n6_; clear hb hbox hg; have hnb16 := NB146_143.out; have hnc16 := NB143_146.out; have hcz17_0 : w15.cell? ⟨gb146, 0, none⟩ = some (.int .i64 0) := (blk_cell BK146.out 0).trans rfl; have hcz17_1 : w15.cell? ⟨gb146, 1, none⟩ = some (.int .i64 0) := (blk_cell BK146.out 1).trans rfl; have hcz17_2 : w15.cell? ⟨gb146, 2, none⟩ = some (.int .i64 0) := (blk_cell BK146.out 2).trans rfl; have hfz17_0 := blk_frozen BK146.out 0; have hfz17_1 := blk_frozen BK146.out 1; have hfz17_2 := blk_frozen BK146.out 2) | ((with_reducible refine gate_callee (f := 43) rfl ?_); refine goesL_ (some 26) rfl rfl Tryd.func43 (by kernel_rfl) rfl #[.string (x0_1.extract (t144.size + 1) x0_1.size)] rfl (by (try simp only [List.map_toArray, List.map_cons, List.map_nil]); first | done | rfl | (simp only [List.length_drop, List.length_take]; rfl)) ?_; (with_reducible refine (tegularef13_number.calls k1 (x0_1.extract (t144.size + 1) x0_1.size) t147 t148 _ A10.out).mono ?_); rintro e w' ⟨rfl, ⟨nd, rfl⟩⟩; refine ⟨_, rfl, ?_⟩) | ((with_reducible refine gate_callee (f := 32) rfl ?_); refine goesL_ (some 31) rfl rfl Tryd.func32 (by kernel_rfl) rfl #[.string t148, .string (⟨#[32, 116, 111, 32]⟩ : ByteArray)] rfl (by (try simp only [List.map_toArray, List.map_cons, List.map_nil]); first | done | rfl | (simp only [List.length_drop, List.length_take]; rfl)) ?_; (with_reducible refine (tegularef13_begins.calls t148 (⟨#[32, 116, 111, 32]⟩ : ByteArray) true _ A11.out).mono ?_); rintro e w' ⟨rfl, ⟨nd, rfl⟩⟩; refine ⟨_, rfl, ?_⟩) | ((with_reducible refine gate_callee (f := 43) rfl ?_); refine goesL_ (some 35) rfl rfl Tryd.func43 (by kernel_rfl) rfl #[.string (t148.extract 4 t148.size)] rfl (by (try simp only [List.map_toArray, List.map_cons, List.map_nil]); first | done | rfl | (simp only [List.length_drop, List.length_take]; rfl)) ?_; (with_reducible refine (tegularef13_number.calls k1 (t148.extract 4 t148.size) t150 t151 _ A14.out).mono ?_); rintro e w' ⟨rfl, ⟨nd, rfl⟩⟩; refine ⟨_, rfl, ?_⟩; have hcz18_0 : w15.cell? ⟨gb143, 0, none⟩ = some (.int .i64 x144000_1) := (blk_cell BK143.out 0).trans rfl; have hcz18_1 : w15.cell? ⟨gb143, 1, none⟩ = some (.int .i64 x144001_1) := (blk_cell BK143.out 1).trans rfl; have hcz18_2 : w15.cell? ⟨gb143, 2, none⟩ = some (.int .i64 x144002_1) := (blk_cell BK143.out 2).trans rfl; have hfz18_0 := blk_frozen BK143.out 0; have hfz18_1 := blk_frozen BK143.out 1; have hfz18_2 := blk_frozen BK143.out 2))
                    refine bodyPost_ret (results_ctt rfl _ _ gb143 32 #[.int .i64 t147, .int .i64 x5_1, .int .i64 t150] (0, 0) _ rfl (by (with_reducible repeat (first | refine blk_drewN ?_ _ | refine blk_drew ?_ | refine blk_alloc ?_ _)); refine blk_put (cs := #[.int .i64 t147, .int .i64 x5_1, .int .i64 x144002_1]) ?_ 2 _ rfl; (with_reducible repeat (first | refine blk_drewN ?_ _ | refine blk_drew ?_ | refine blk_alloc ?_ _)); refine blk_put (cs := #[.int .i64 t147, .int .i64 x144001_1, .int .i64 x144002_1]) ?_ 1 _ rfl; (with_reducible repeat (first | refine blk_drewN ?_ _ | refine blk_drew ?_ | refine blk_alloc ?_ _)); refine blk_put (cs := #[.int .i64 x144000_1, .int .i64 x144001_1, .int .i64 x144002_1]) ?_ 0 _ rfl; (with_reducible repeat (first | refine blk_drewN ?_ _ | refine blk_drew ?_ | refine blk_alloc ?_ _)); refine blk_far ?_ NB143_146.out _; (with_reducible repeat (first | refine blk_drewN ?_ _ | refine blk_drew ?_ | refine blk_alloc ?_ _)); refine blk_far ?_ NB143_146.out _; (with_reducible repeat (first | refine blk_drewN ?_ _ | refine blk_drew ?_ | refine blk_alloc ?_ _)); refine blk_far ?_ NB143_146.out _; (with_reducible repeat (first | refine blk_drewN ?_ _ | refine blk_drew ?_ | refine blk_alloc ?_ _)); refine blk_far ?_ NB143_146.out _; (with_reducible repeat (first | refine blk_drewN ?_ _ | refine blk_drew ?_ | refine blk_alloc ?_ _)); refine blk_far ?_ NB143_146.out _; (with_reducible repeat (first | refine blk_drewN ?_ _ | refine blk_drew ?_ | refine blk_alloc ?_ _)); exact BK143.out) Tryd.underlying32 rfl (by kernel_rfl)) rfl ?_
                    exact ⟨by first | rfl | (simp [errW_none, errW_some] <;> rfl) | (simp [*, errW_none, errW_some] <;> rfl), by repeat (first | (with_reducible first | exact HB.out | apply below_alloc | apply pw_below_drewN | apply below_drew1 | refine below_set ?_ GE143.out | refine below_set ?_ GE146.out) | exact HB.out)⟩
                  · rw [if_neg c13] at H
                    exact absurd H (by simp)
                · replace c12 := Bool.eq_false_iff.mpr c12
                  subst c12
                  have H1 : (some (t147, x5_1, 0, t148, true)) = some (r1, r2, r3, r4, r5) := by rw [if_neg (show ¬ (false = true) by decide)] at H; exact H
                  clear H
                  have H := H1
                  clear H1
                  simp only [Option.some.injEq, Prod.mk.injEq] at H
                  obtain ⟨rfl, rfl, rfl, rfl, rfl⟩ := H
                  have hz2 := cell_three
                  go_wp2_with (first | ((with_reducible refine gate_callee (f := 37) rfl ?_); refine goesL_ (some 13) rfl rfl Tryd.func37 (by kernel_rfl) rfl #[.int .i64 x5_1] rfl (by (try simp only [List.map_toArray, List.map_cons, List.map_nil]); first | done | rfl | (simp only [List.length_drop, List.length_take]; rfl)) ?_; (with_reducible refine (tegularef13_word.calls x5_1 t144 _ A4.out).mono ?_); rintro e w' ⟨rfl, ⟨nd, rfl⟩⟩; refine ⟨_, rfl, ?_⟩; (try (rw [drewN_self wr]; generalize hq_ : World.drewN wr _ = wr; have n0_ : Aside0 (wr.heap[gb143]? = some (.cells #[.int .i64 x144000_1, .int .i64 x144001_1, .int .i64 x144002_1] 32 (0, 0))) := ⟨by rw [← hq_]; exact (by (with_reducible repeat (first | refine blk_drewN ?_ _ | refine blk_drew ?_ | refine blk_alloc ?_ _)); exact BK143.out)⟩; have n1_ : Aside0 (Below w.heap.size w wr) := ⟨by rw [← hq_]; exact (by repeat (first | (with_reducible first | exact HB.out | apply below_alloc | apply pw_below_drewN | apply below_drew1 | refine below_set ?_ GE143.out) | exact HB.out))⟩; clear BK143 HB hq_; have BK143 := n0_; have HB := n1_; clear n0_ n1_))) | ((with_reducible refine gate_callee (f := 32) rfl ?_); refine goesL_ (some 17) rfl rfl Tryd.func32 (by kernel_rfl) rfl #[.string x0_1, .string (t144 ++ (⟨#[32]⟩ : ByteArray))] rfl (by (try simp only [List.map_toArray, List.map_cons, List.map_nil]); first | done | rfl | (simp only [List.length_drop, List.length_take]; rfl)) ?_; (with_reducible refine (tegularef13_begins.calls x0_1 (t144 ++ (⟨#[32]⟩ : ByteArray)) true _ A6.out).mono ?_); rintro e w' ⟨rfl, ⟨nd, rfl⟩⟩; refine ⟨_, rfl, ?_⟩; (try (rw [drewN_self wr]; generalize hq_ : World.drewN wr _ = wr; have n0_ : Aside0 (wr.heap[gb143]? = some (.cells #[.int .i64 x144000_1, .int .i64 x144001_1, .int .i64 x144002_1] 32 (0, 0))) := ⟨by rw [← hq_]; exact (by (with_reducible repeat (first | refine blk_drewN ?_ _ | refine blk_drew ?_ | refine blk_alloc ?_ _)); exact BK143.out)⟩; have n1_ : Aside0 (Below w.heap.size w wr) := ⟨by rw [← hq_]; exact (by repeat (first | (with_reducible first | exact HB.out | apply below_alloc | apply pw_below_drewN | apply below_drew1 | refine below_set ?_ GE143.out) | exact HB.out))⟩; clear BK143 HB hq_; have BK143 := n0_; have HB := n1_; clear n0_ n1_))) | ((with_reducible refine gate_dst (N := 7) rfl ?_); refine box_event ?hg (N := 7) ?hd (cs := #[.int .i64 0, .int .i64 0, .int .i64 0]) (t := 32) ?hr ?_; (case hd => rfl); (case hg => rfl); (case hr => first | (go_simp; done) | (go_simp; rfl)); intro gb146 hg w19 hbox hb; have n0_ := Aside0.mk (blk_below (g := gb143) (o := .cells #[.int .i64 x144000_1, .int .i64 x144001_1, .int .i64 x144002_1] 32 (0, 0)) (by (with_reducible repeat (first | refine blk_drewN ?_ _ | refine blk_drew ?_ | refine blk_alloc ?_ _)); exact BK143.out) hb); have n1_ := Aside0.mk (below_step (by repeat (first | (with_reducible first | exact HB.out | apply below_alloc | apply pw_below_drewN | apply below_drew1 | refine below_set ?_ GE143.out) | exact HB.out)) hb); have n2_ := Aside0.mk (hbox); have n3_ := Aside0.mk ((by rw [hg]; exact (below_size (by repeat (first | (with_reducible first | exact HB.out | apply below_alloc | apply pw_below_drewN | apply below_drew1 | refine below_set ?_ GE143.out) | exact HB.out))) : w.heap.size ≤ gb146)); have n4_ := Aside0.mk ((by rw [hg]; exact (below_size (by repeat (first | (with_reducible first | exact HB.out | apply below_alloc | apply pw_below_drewN | apply below_drew1 | refine below_set ?_ GE143.out) | exact HB.out))) : w.heap.size ≤ gb146)); have n5_ := Aside0.mk ((by rw [hg]; exact Nat.ne_of_lt (blk_lt (g := gb143) (o := .cells #[.int .i64 x144000_1, .int .i64 x144001_1, .int .i64 x144002_1] 32 (0, 0)) (by (with_reducible repeat (first | refine blk_drewN ?_ _ | refine blk_drew ?_ | refine blk_alloc ?_ _)); exact BK143.out)) : gb143 ≠ gb146)); have n6_ := Aside0.mk ((by rw [hg]; exact Nat.ne_of_gt (blk_lt (g := gb143) (o := .cells #[.int .i64 x144000_1, .int .i64 x144001_1, .int .i64 x144002_1] 32 (0, 0)) (by (with_reducible repeat (first | refine blk_drewN ?_ _ | refine blk_drew ?_ | refine blk_alloc ?_ _)); exact BK143.out)) : gb146 ≠ gb143)); clear BK143; clear HB; have BK143 := n0_; have HB := n1_; have BK146 := n2_; have GW146 := n3_; have GE146 := n4_; have NB143_146 := n5_; have NB146_143 := n6_; clear n0_ n1_ n2_ n3_ n4_ n5_ n6_; clear hb hbox hg; have hnb20 := NB146_143.out; have hnc20 := NB143_146.out; have hcz21_0 : w19.cell? ⟨gb146, 0, none⟩ = some (.int .i64 0) := (blk_cell BK146.out 0).trans rfl; have hcz21_1 : w19.cell? ⟨gb146, 1, none⟩ = some (.int .i64 0) := (blk_cell BK146.out 1).trans rfl; have hcz21_2 : w19.cell? ⟨gb146, 2, none⟩ = some (.int .i64 0) := (blk_cell BK146.out 2).trans rfl; have hfz21_0 := blk_frozen BK146.out 0; have hfz21_1 := blk_frozen BK146.out 1; have hfz21_2 := blk_frozen BK146.out 2) | ((with_reducible refine gate_callee (f := 43) rfl ?_); refine goesL_ (some 26) rfl rfl Tryd.func43 (by kernel_rfl) rfl #[.string (x0_1.extract (t144.size + 1) x0_1.size)] rfl (by (try simp only [List.map_toArray, List.map_cons, List.map_nil]); first | done | rfl | (simp only [List.length_drop, List.length_take]; rfl)) ?_; (with_reducible refine (tegularef13_number.calls k1 (x0_1.extract (t144.size + 1) x0_1.size) t147 t148 _ A10.out).mono ?_); rintro e w' ⟨rfl, ⟨nd, rfl⟩⟩; refine ⟨_, rfl, ?_⟩) | ((with_reducible refine gate_callee (f := 32) rfl ?_); refine goesL_ (some 31) rfl rfl Tryd.func32 (by kernel_rfl) rfl #[.string t148, .string (⟨#[32, 116, 111, 32]⟩ : ByteArray)] rfl (by (try simp only [List.map_toArray, List.map_cons, List.map_nil]); first | done | rfl | (simp only [List.length_drop, List.length_take]; rfl)) ?_; (with_reducible refine (tegularef13_begins.calls t148 (⟨#[32, 116, 111, 32]⟩ : ByteArray) false _ A11.out).mono ?_); rintro e w' ⟨rfl, ⟨nd, rfl⟩⟩; refine ⟨_, rfl, ?_⟩; have hcz22_0 : w19.cell? ⟨gb143, 0, none⟩ = some (.int .i64 x144000_1) := (blk_cell BK143.out 0).trans rfl; have hcz22_1 : w19.cell? ⟨gb143, 1, none⟩ = some (.int .i64 x144001_1) := (blk_cell BK143.out 1).trans rfl; have hcz22_2 : w19.cell? ⟨gb143, 2, none⟩ = some (.int .i64 x144002_1) := (blk_cell BK143.out 2).trans rfl; have hfz22_0 := blk_frozen BK143.out 0; have hfz22_1 := blk_frozen BK143.out 1; have hfz22_2 := blk_frozen BK143.out 2))
                  refine bodyPost_ret (results_ctt rfl _ _ gb143 32 #[.int .i64 t147, .int .i64 x5_1, .int .i64 0] (0, 0) _ rfl (by (with_reducible repeat (first | refine blk_drewN ?_ _ | refine blk_drew ?_ | refine blk_alloc ?_ _)); refine blk_put (cs := #[.int .i64 t147, .int .i64 x5_1, .int .i64 x144002_1]) ?_ 2 _ rfl; (with_reducible repeat (first | refine blk_drewN ?_ _ | refine blk_drew ?_ | refine blk_alloc ?_ _)); refine blk_put (cs := #[.int .i64 t147, .int .i64 x144001_1, .int .i64 x144002_1]) ?_ 1 _ rfl; (with_reducible repeat (first | refine blk_drewN ?_ _ | refine blk_drew ?_ | refine blk_alloc ?_ _)); refine blk_put (cs := #[.int .i64 x144000_1, .int .i64 x144001_1, .int .i64 x144002_1]) ?_ 0 _ rfl; (with_reducible repeat (first | refine blk_drewN ?_ _ | refine blk_drew ?_ | refine blk_alloc ?_ _)); refine blk_far ?_ NB143_146.out _; (with_reducible repeat (first | refine blk_drewN ?_ _ | refine blk_drew ?_ | refine blk_alloc ?_ _)); refine blk_far ?_ NB143_146.out _; (with_reducible repeat (first | refine blk_drewN ?_ _ | refine blk_drew ?_ | refine blk_alloc ?_ _)); refine blk_far ?_ NB143_146.out _; (with_reducible repeat (first | refine blk_drewN ?_ _ | refine blk_drew ?_ | refine blk_alloc ?_ _)); refine blk_far ?_ NB143_146.out _; (with_reducible repeat (first | refine blk_drewN ?_ _ | refine blk_drew ?_ | refine blk_alloc ?_ _)); exact BK143.out) Tryd.underlying32 rfl (by kernel_rfl)) rfl ?_
                  exact ⟨by first | rfl | (simp [errW_none, errW_some] <;> rfl) | (simp [*, errW_none, errW_some] <;> rfl), by repeat (first | (with_reducible first | exact HB.out | apply below_alloc | apply pw_below_drewN | apply below_drew1 | refine below_set ?_ GE143.out | refine below_set ?_ GE146.out) | exact HB.out)⟩
              · rw [if_neg c9] at H
                exact absurd H (by simp)
            · rw [if_neg c8] at H
              exact absurd H (by simp)
          · replace c7 := Bool.eq_false_iff.mpr c7
            subst c7
            have H1 : (tegularef13_read.l0 k1 x0_1 (wrap64 (x5_1 + 1))) = some (r1, r2, r3, r4, r5) := by rw [if_neg (show ¬ (false = true) by decide)] at H; exact H
            clear H
            have H := H1
            clear H1
            have H' := Aside0.mk H
            clear H
            go_wp2_with (first | ((with_reducible refine gate_callee (f := 37) rfl ?_); refine goesL_ (some 13) rfl rfl Tryd.func37 (by kernel_rfl) rfl #[.int .i64 x5_1] rfl (by (try simp only [List.map_toArray, List.map_cons, List.map_nil]); first | done | rfl | (simp only [List.length_drop, List.length_take]; rfl)) ?_; (with_reducible refine (tegularef13_word.calls x5_1 t144 _ A4.out).mono ?_); rintro e w' ⟨rfl, ⟨nd, rfl⟩⟩; refine ⟨_, rfl, ?_⟩) | ((with_reducible refine gate_callee (f := 32) rfl ?_); refine goesL_ (some 17) rfl rfl Tryd.func32 (by kernel_rfl) rfl #[.string x0_1, .string (t144 ++ (⟨#[32]⟩ : ByteArray))] rfl (by (try simp only [List.map_toArray, List.map_cons, List.map_nil]); first | done | rfl | (simp only [List.length_drop, List.length_take]; rfl)) ?_; (with_reducible refine (tegularef13_begins.calls x0_1 (t144 ++ (⟨#[32]⟩ : ByteArray)) false _ A6.out).mono ?_); rintro e w' ⟨rfl, ⟨nd, rfl⟩⟩; refine ⟨_, rfl, ?_⟩))
            go_roundg k1
            case measure => have := HK1.out; omega
            case rel => exact ⟨(x0_1), (wrap64 (x5_1 + 1)), (x144000_1), (x144001_1), (x144002_1), (by first | rfl | (simp; done) | (simp [*]; done)), (by first | rfl | (simp; done) | (simp [*]; done)), H', ⟨by have := HK1.out; omega⟩, ⟨by (with_reducible repeat (first | refine blk_drewN ?_ _ | refine blk_drew ?_ | refine blk_alloc ?_ _)); exact BK143.out⟩, ⟨by repeat (first | (with_reducible first | exact HB.out | apply below_alloc | apply pw_below_drewN | apply below_drew1 | refine below_set ?_ GE143.out) | exact HB.out)⟩⟩
        · rw [if_neg c5] at H
          exact absurd H (by simp)
      · rw [if_neg c3] at H
        have c3b0 : decide (x5_1 ≤ 7) = false := decide_eq_false c3
        clear c3
        simp only [Option.some.injEq, Prod.mk.injEq] at H
        obtain ⟨rfl, rfl, rfl, rfl, rfl⟩ := H
        have hcz23_0 : wr.cell? ⟨gb143, 0, none⟩ = some (.int .i64 x144000_1) := (blk_cell BK143.out 0).trans rfl
        have hcz23_1 : wr.cell? ⟨gb143, 1, none⟩ = some (.int .i64 x144001_1) := (blk_cell BK143.out 1).trans rfl
        have hcz23_2 : wr.cell? ⟨gb143, 2, none⟩ = some (.int .i64 x144002_1) := (blk_cell BK143.out 2).trans rfl
        have hfz23_0 := blk_frozen BK143.out 0
        have hfz23_1 := blk_frozen BK143.out 1
        have hfz23_2 := blk_frozen BK143.out 2
        go_wp2
        refine bodyPost_ret (results_ctt rfl _ _ gb143 32 #[.int .i64 0, .int .i64 0, .int .i64 0] (0, 0) _ rfl (by (with_reducible repeat (first | refine blk_drewN ?_ _ | refine blk_drew ?_ | refine blk_alloc ?_ _)); refine blk_put (cs := #[.int .i64 0, .int .i64 0, .int .i64 x144002_1]) ?_ 2 _ rfl; (with_reducible repeat (first | refine blk_drewN ?_ _ | refine blk_drew ?_ | refine blk_alloc ?_ _)); refine blk_put (cs := #[.int .i64 0, .int .i64 x144001_1, .int .i64 x144002_1]) ?_ 1 _ rfl; (with_reducible repeat (first | refine blk_drewN ?_ _ | refine blk_drew ?_ | refine blk_alloc ?_ _)); refine blk_put (cs := #[.int .i64 x144000_1, .int .i64 x144001_1, .int .i64 x144002_1]) ?_ 0 _ rfl; (with_reducible repeat (first | refine blk_drewN ?_ _ | refine blk_drew ?_ | refine blk_alloc ?_ _)); exact BK143.out) Tryd.underlying32 rfl (by kernel_rfl)) rfl ?_
        exact ⟨by first | rfl | (simp [errW_none, errW_some] <;> rfl) | (simp [*, errW_none, errW_some] <;> rfl), by repeat (first | (with_reducible first | exact HB.out | apply below_alloc | apply pw_below_drewN | apply below_drew1 | refine below_set ?_ GE143.out) | exact HB.out)⟩

/-! ### tegularef13_Parse: function 16 -/
def tegularef13_Parse.l0 : Nat → ByteArray → List (S32) → ByteArray → Option ((List (S32)) × Int)
  | 0, _, _, _ => none
  | k + 1, x0, x4, x5 => if (x5.size : Int) > 0 then ((tegularef13_read.f k x5).bind fun bt152 => (if bt152.2.2.2.2 = true then (if x4.length < 5864062014805 then ((some (x4 ++ [(⟨bt152.1, bt152.2.1, bt152.2.2.1⟩ : S32)] : List (S32))).bind fun y158 => ((tegularef13_begins.f bt152.2.2.2.1 (⟨#[59, 32]⟩ : ByteArray)).bind fun t161 => (if t161 = true then (if 2 ≤ (bt152.2.2.2.1.size : Int) then (tegularef13_Parse.l0 k x0 y158 (bt152.2.2.2.1.extract 2 bt152.2.2.2.1.size)) else (none)) else (if (bt152.2.2.2.1.size : Int) > 0 then (some (([] : List (S32)), 4)) else (tegularef13_Parse.l0 k x0 y158 bt152.2.2.2.1))))) else (none)) else (some (([] : List (S32)), 4)))) else ((tegularef13_Valid.f k x4).bind fun t162 => (if t162 = true then ((tegularef13_Text.f k x4).bind fun t163 => (if t163.toList = x0.toList then (some (x4, 0)) else (some (([] : List (S32)), 4)))) else (some (([] : List (S32)), 4))))
def tegularef13_Parse.f (k : Nat) (a0 : ByteArray) : Option ((List (S32)) × Int) := tegularef13_Parse.l0 k a0 ([] : List (S32)) a0
theorem tegularef13_Parse.mono_l : ∀ k, (∀ y0 y1 y2, LeO (tegularef13_Parse.l0 k y0 y1 y2) (tegularef13_Parse.l0 (k + 1) y0 y1 y2))
  | 0 => fun _ _ _ r h => by simp [tegularef13_Parse.l0] at h
  | k + 1 => by
    have ih0 := tegularef13_Parse.mono_l k
    · intro y0 y1 y2
      unfold tegularef13_Parse.l0
      repeat' first
      | (with_reducible exact ih0 _ _ _)
      | (with_reducible exact tegularef13_Text.mono _ _)
      | (with_reducible exact tegularef13_Valid.mono _ _)
      | (with_reducible exact tegularef13_read.mono _ _)
      | (with_reducible exact LeO.refl _)
      | (with_reducible exact LeO.none _)
      | (with_reducible refine LeO.ite ?_ ?_)
      | (with_reducible refine LeO.bind ?_ (fun _ => ?_))
      | exact ih0 _ _ _
      | exact tegularef13_Text.mono _ _
      | exact tegularef13_Valid.mono _ _
      | exact tegularef13_read.mono _ _
      | exact LeO.none _
      | refine LeO.ite ?_ ?_
      | refine LeO.bind ?_ (fun _ => ?_)
theorem tegularef13_Parse.mono : ∀ a0 k, LeO (tegularef13_Parse.f k a0) (tegularef13_Parse.f (k + 1) a0) := by
  intro a0 k
  have ih0 := tegularef13_Parse.mono_l k
  unfold tegularef13_Parse.f
  repeat' first
      | (with_reducible exact ih0 _ _ _)
      | (with_reducible exact tegularef13_Text.mono _ _)
      | (with_reducible exact tegularef13_Valid.mono _ _)
      | (with_reducible exact tegularef13_read.mono _ _)
      | (with_reducible exact LeO.refl _)
      | (with_reducible exact LeO.none _)
      | (with_reducible refine LeO.ite ?_ ?_)
      | (with_reducible refine LeO.bind ?_ (fun _ => ?_))
      | exact ih0 _ _ _
      | exact tegularef13_Text.mono _ _
      | exact tegularef13_Valid.mono _ _
      | exact tegularef13_read.mono _ _
      | exact LeO.none _
      | refine LeO.ite ?_ ?_
      | refine LeO.bind ?_ (fun _ => ?_)
set_option maxHeartbeats 8000000 in
set_option maxRecDepth 100000 in
theorem tegularef13_Parse.calls (k : Nat) (a0 : ByteArray) (r1 : List (S32)) (r2 : Int) (w : World) (h : tegularef13_Parse.f k a0 = some (r1, r2)) :
    Calls Tryd.prog 16 #[.string a0] w fun e w' => ∃ v0_ : Value, e = .returned (.tuple #[v0_, .int .i64 r2]) ∧ Kd.R k32 32 w' w.heap.size (fun _ => True) v0_ r1 ∧ Below w.heap.size w w' := by
  have hu32 := Tryd.underlying32
  have HB := Aside0.mk (Below.refl w.heap.size w)
  have H : (tegularef13_Parse.l0 k a0 ([] : List (S32)) a0) = some (r1, r2) := h
  clear h
  have H' := Aside0.mk H
  clear H
  go_enter Tryd.func16, Tryd.ntmps16
  go_wp2
  go_loopg [4, 5] k (fun kq v4 v5 w' => ∃ (x4_1 : List (S32)) (x5_1 : ByteArray), v5 = .string x5_1 ∧ Aside0 (tegularef13_Parse.l0 kq a0 x4_1 x5_1 = some (r1, r2)) ∧ Aside0 (kq ≤ k) ∧ Aside0 (Kd.R k32 32 w' w.heap.size (fun _ => True) v4 x4_1) ∧ Aside0 (Below w.heap.size w w'))
  case atStart => exact ⟨(([] : List (S32))), (a0), (by first | rfl | (simp; done) | (simp [*]; done)), H', ⟨Nat.le_refl _⟩, ⟨by first | exact Kd.R_nil _ _ _ _ _ | exact Kd.N_nil _ _ _ _ _ | exact Kd.V_nil _ _ _ _ _ | exact Kd.Q_nil _ _ _ _ _ | exact Kd.S_nil _ _ _ _ _⟩, ⟨by repeat (first | (with_reducible first | exact HB.out | apply below_alloc | apply pw_below_drewN | apply below_drew1) | exact HB.out)⟩⟩
  case round =>
    clear H'
    try clear c1
    obtain ⟨x4_1, x5_1, rfl, HA, HK1, HO_4, HB⟩ := hrel
    cases gk with
    | zero => exact absurd HA.out (by simp [tegularef13_Parse.l0])
    | succ k1 =>
      have H := HA.out
      clear HA
      simp only [tegularef13_Parse.l0] at H
      by_cases c2 : (x5_1.size : Int) > 0
      · rw [if_pos c2] at H
        have c2b0 : decide (0 < (x5_1.size : Int)) = true := decide_eq_true c2
        have c2b1 : decide (0 < x5_1.size) = true := decide_eq_true (by omega)
        clear c2
        replace H := Option.bind_eq_some_iff.mp H
        obtain ⟨⟨t152, t153, t154, t155, t156⟩, A30, H⟩ := H
        replace H : (if t156 = true then (if x4_1.length < 5864062014805 then ((some (x4_1 ++ [(⟨t152, t153, t154⟩ : S32)] : List (S32))).bind fun y158 => ((tegularef13_begins.f t155 (⟨#[59, 32]⟩ : ByteArray)).bind fun t161 => (if t161 = true then (if 2 ≤ (t155.size : Int) then (tegularef13_Parse.l0 k1 a0 y158 (t155.extract 2 t155.size)) else (none)) else (if (t155.size : Int) > 0 then (some (([] : List (S32)), 4)) else (tegularef13_Parse.l0 k1 a0 y158 t155))))) else (none)) else (some (([] : List (S32)), 4))) = some (r1, r2) := H
        have A3 := Aside0.mk A30
        clear A30
        by_cases c4 : t156 = true
        · subst c4
          have H1 : (if x4_1.length < 5864062014805 then ((some (x4_1 ++ [(⟨t152, t153, t154⟩ : S32)] : List (S32))).bind fun y158 => ((tegularef13_begins.f t155 (⟨#[59, 32]⟩ : ByteArray)).bind fun t161 => (if t161 = true then (if 2 ≤ (t155.size : Int) then (tegularef13_Parse.l0 k1 a0 y158 (t155.extract 2 t155.size)) else (none)) else (if (t155.size : Int) > 0 then (some (([] : List (S32)), 4)) else (tegularef13_Parse.l0 k1 a0 y158 t155))))) else (none)) = some (r1, r2) := by rw [if_pos rfl] at H; exact H
          clear H
          have H := H1
          clear H1
          by_cases c5 : x4_1.length < 5864062014805
          · rw [if_pos c5] at H
            have LMc5 := Aside0.mk c5
            clear c5
            obtain ⟨y158, hy158⟩ : ∃ y_ : List (S32), y_ = (x4_1 ++ [(⟨t152, t153, t154⟩ : S32)]) := ⟨_, rfl⟩
            replace H : ((tegularef13_begins.f t155 (⟨#[59, 32]⟩ : ByteArray)).bind fun t161 => (if t161 = true then (if 2 ≤ (t155.size : Int) then (tegularef13_Parse.l0 k1 a0 y158 (t155.extract 2 t155.size)) else (none)) else (if (t155.size : Int) > 0 then (some (([] : List (S32)), 4)) else (tegularef13_Parse.l0 k1 a0 y158 t155)))) = some (r1, r2) := by first | (rw [hy158]; with_reducible exact H) | (have H2_ := (Option.bind_some _ _).symm.trans H; rw [hy158]; with_reducible exact H2_) | (have H2_ := (Option.bind_some _ _).symm.trans H; with_reducible exact H2_) | with_reducible exact H | (rw [hy158]; exact H) | exact H
            have Ny158 := Aside0.mk hy158
            clear hy158
            replace H := Option.bind_eq_some_iff.mp H
            obtain ⟨t161, A60, H⟩ := H
            replace H : (if t161 = true then (if 2 ≤ (t155.size : Int) then (tegularef13_Parse.l0 k1 a0 y158 (t155.extract 2 t155.size)) else (none)) else (if (t155.size : Int) > 0 then (some (([] : List (S32)), 4)) else (tegularef13_Parse.l0 k1 a0 y158 t155))) = some (r1, r2) := H
            have A6 := Aside0.mk A60
            clear A60
            by_cases c7 : t161 = true
            · subst c7
              have H1 : (if 2 ≤ (t155.size : Int) then (tegularef13_Parse.l0 k1 a0 y158 (t155.extract 2 t155.size)) else (none)) = some (r1, r2) := by rw [if_pos rfl] at H; exact H
              clear H
              have H := H1
              clear H1
              by_cases c8 : 2 ≤ (t155.size : Int)
              · rw [if_pos c8] at H
                have c8b0 := eq_true c8
                have c8b1 : decide (2 ≤ (t155.size : Int)) = true := decide_eq_true c8
                clear c8
                have H' := Aside0.mk H
                clear H
                go_wp2_with (first | ((with_reducible refine gate_callee (f := 31) rfl ?_); refine goesL_ (some 15) rfl rfl Tryd.func31 (by kernel_rfl) rfl #[.string x5_1] rfl (by (try simp only [List.map_toArray, List.map_cons, List.map_nil]); first | done | rfl | (simp only [List.length_drop, List.length_take]; rfl)) ?_; (with_reducible refine (tegularef13_read.calls k1 x5_1 t152 t153 t154 t155 true _ A3.out).mono ?_); rintro e w9 ⟨rfl, hb⟩; refine ⟨_, rfl, ?_⟩; have n0_ := Aside0.mk (Kd.R_below (by (with_reducible repeat (first | apply Kd.R_alloc | apply Kd.R_drewN | apply Kd.R_drew)); exact HO_4.out) hb); have n1_ := Aside0.mk (below_step (by repeat (first | (with_reducible first | exact HB.out | apply below_alloc | apply pw_below_drewN | apply below_drew1) | exact HB.out)) hb); clear HO_4; clear HB; have HO_4 := n0_; have HB := n1_; clear n0_ n1_; (try clear hb); (try clear hb2); (try clear hk); (try clear hi)) | ((with_reducible refine gate_dst (N := 6) rfl ?_); refine box_event ?hg (N := 6) ?hd (cs := #[.int .i64 0, .int .i64 0, .int .i64 0]) (t := 32) ?hr ?_; (case hd => rfl); (case hg => rfl); (case hr => first | (go_simp; done) | (go_simp; rfl)); intro gb157 hg w10 hbox hb; have n0_ := Aside0.mk (Kd.R_below (Kd.R_elderB (by (with_reducible repeat (first | apply Kd.R_alloc | apply Kd.R_drewN | apply Kd.R_drew)); exact HO_4.out) gb157 (Nat.le_of_eq hg.symm)) hb); have n1_ := Aside0.mk (below_step (by repeat (first | (with_reducible first | exact HB.out | apply below_alloc | apply pw_below_drewN | apply below_drew1) | exact HB.out)) hb); have n2_ := Aside0.mk (hbox); have n3_ := Aside0.mk ((by rw [hg]; exact (below_size (by repeat (first | (with_reducible first | exact HB.out | apply below_alloc | apply pw_below_drewN | apply below_drew1) | exact HB.out))) : w.heap.size ≤ gb157)); have n4_ := Aside0.mk ((by rw [hg]; exact (below_size (by repeat (first | (with_reducible first | exact HB.out | apply below_alloc | apply pw_below_drewN | apply below_drew1) | exact HB.out))) : w.heap.size ≤ gb157)); clear HO_4; clear HB; have HO_4 := n0_; have HB := n1_; have BK157 := n2_; have GW157 := n3_; have GE157 := n4_; clear n0_ n1_ n2_ n3_ n4_; clear hb hbox hg; have hcz11_0 : w10.cell? ⟨gb157, 0, none⟩ = some (.int .i64 0) := (blk_cell BK157.out 0).trans rfl; have hcz11_1 : w10.cell? ⟨gb157, 1, none⟩ = some (.int .i64 0) := (blk_cell BK157.out 1).trans rfl; have hcz11_2 : w10.cell? ⟨gb157, 2, none⟩ = some (.int .i64 0) := (blk_cell BK157.out 2).trans rfl; have hfz11_0 := blk_frozen BK157.out 0; have hfz11_1 := blk_frozen BK157.out 1; have hfz11_2 := blk_frozen BK157.out 2) | ((with_reducible refine gate_builtin (b := .append) (xs := #[.tmp 21, .tmp 23]) rfl ?_); at_builtin; refine Kd.R_append k32 (w0 := w) w.heap.size rfl (.tmp 21) (.tmp 23) 22 32 (.agg #[(.int .i64 0), (.int .i64 0), (.int .i64 0)]) 24 rfl Tryd.underlying22 info32 rfl (by decide) (by omega) u4 x4_1 (⟨t152, t153, t154⟩ : S32) [.int .i64 t152, .int .i64 t153, .int .i64 t154] (fun k_ => k_ ≠ gb157) (fun _ => False) rfl (by first | (go_simp; done) | (go_simp; rfl)) ?aP (fun _ hk => hk.elim) ?aF ?aO ?aB ?aS ?aL ?_; (case aP => exact k32_mkM _ _ _ (⟨t152, t153, t154⟩ : S32)); (case aB => exact (by repeat (first | (with_reducible first | exact HB.out | apply below_alloc | apply pw_below_drewN | apply below_drew1 | refine below_set ?_ GE157.out) | exact HB.out))); (case aF => exact (fun k_ hk => Kd.freshB (g := gb157) (o := .cells #[.int .i64 t152, .int .i64 t153, .int .i64 t154] 32 (0, 0)) (by (with_reducible repeat (first | refine blk_drewN ?_ _ | refine blk_drew ?_ | refine blk_alloc ?_ _)); refine blk_put (cs := #[.int .i64 t152, .int .i64 t153, .int .i64 0]) ?_ 2 _ rfl; (with_reducible repeat (first | refine blk_drewN ?_ _ | refine blk_drew ?_ | refine blk_alloc ?_ _)); refine blk_put (cs := #[.int .i64 t152, .int .i64 0, .int .i64 0]) ?_ 1 _ rfl; (with_reducible repeat (first | refine blk_drewN ?_ _ | refine blk_drew ?_ | refine blk_alloc ?_ _)); refine blk_put (cs := #[.int .i64 0, .int .i64 0, .int .i64 0]) ?_ 0 _ rfl; (with_reducible repeat (first | refine blk_drewN ?_ _ | refine blk_drew ?_ | refine blk_alloc ?_ _)); exact BK157.out) k_ hk)); (case aO => exact (by (with_reducible repeat (first | apply Kd.R_alloc | apply Kd.R_drewN | apply Kd.R_drew)); exact Kd.R_mono (Kd.R_far (p := ⟨gb157, 2, none⟩) (Kd.R_far (p := ⟨gb157, 1, none⟩) (Kd.R_far (p := ⟨gb157, 0, none⟩) (Kd.R_mono HO_4.out (fun k_ hk => (⟨hk, hk.2⟩ : _ ∧ k_ ≠ gb157))) (fun _ hk => hk.2) (.int .i64 t152)) (fun _ hk => hk.2) (.int .i64 t153)) (fun _ hk => hk.2) (.int .i64 t154)) (fun _ hk => hk.1.2))); (case aS => exact (below_size (by repeat (first | (with_reducible first | exact HB.out | apply below_alloc | apply pw_below_drewN | apply below_drew1 | refine below_set ?_ GE157.out) | exact HB.out)))); (case aL => have := LMc5.out; omega); intro v159 w12 ho hb hg hat; rw [← Ny158.out] at ho; have n0_ := Aside0.mk (blk_grown (g := gb157) (o := .cells #[.int .i64 t152, .int .i64 t153, .int .i64 t154] 32 (0, 0)) (by (with_reducible repeat (first | refine blk_drewN ?_ _ | refine blk_drew ?_ | refine blk_alloc ?_ _)); refine blk_put (cs := #[.int .i64 t152, .int .i64 t153, .int .i64 0]) ?_ 2 _ rfl; (with_reducible repeat (first | refine blk_drewN ?_ _ | refine blk_drew ?_ | refine blk_alloc ?_ _)); refine blk_put (cs := #[.int .i64 t152, .int .i64 0, .int .i64 0]) ?_ 1 _ rfl; (with_reducible repeat (first | refine blk_drewN ?_ _ | refine blk_drew ?_ | refine blk_alloc ?_ _)); refine blk_put (cs := #[.int .i64 0, .int .i64 0, .int .i64 0]) ?_ 0 _ rfl; (with_reducible repeat (first | refine blk_drewN ?_ _ | refine blk_drew ?_ | refine blk_alloc ?_ _)); exact BK157.out) hg (Kd.R_away HO_4.out (fun _ hk => hk.2))); have n1_ := Aside0.mk (hb); have n2_ := Aside0.mk (ho); clear BK157; clear HB; clear HO_4; have BK157 := n0_; have HB := n1_; have HO160 := n2_; clear n0_ n1_ n2_; clear ho hb hg hat) | ((with_reducible refine gate_callee (f := 32) rfl ?_); refine goesL_ (some 27) rfl rfl Tryd.func32 (by kernel_rfl) rfl #[.string t155, .string (⟨#[59, 32]⟩ : ByteArray)] rfl (by (try simp only [List.map_toArray, List.map_cons, List.map_nil]); first | done | rfl | (simp only [List.length_drop, List.length_take]; rfl)) ?_; (with_reducible refine (tegularef13_begins.calls t155 (⟨#[59, 32]⟩ : ByteArray) true _ A6.out).mono ?_); rintro e w' ⟨rfl, ⟨nd, rfl⟩⟩; refine ⟨_, rfl, ?_⟩))
                go_roundg k1
                case measure => have := HK1.out; omega
                case rel => exact ⟨(y158), (t155.extract 2 t155.size), (by first | rfl | (simp; done) | (simp [*]; done)), H', ⟨by have := HK1.out; omega⟩, ⟨by (with_reducible repeat (first | apply Kd.R_alloc | apply Kd.R_drewN | apply Kd.R_drew)); exact Kd.R_mono HO160.out (fun _ hk => trivial)⟩, ⟨by repeat (first | (with_reducible first | exact HB.out | apply below_alloc | apply pw_below_drewN | apply below_drew1 | refine below_set ?_ GE157.out) | exact HB.out)⟩⟩
              · rw [if_neg c8] at H
                exact absurd H (by simp)
            · replace c7 := Bool.eq_false_iff.mpr c7
              subst c7
              have H1 : (if (t155.size : Int) > 0 then (some (([] : List (S32)), 4)) else (tegularef13_Parse.l0 k1 a0 y158 t155)) = some (r1, r2) := by rw [if_neg (show ¬ (false = true) by decide)] at H; exact H
              clear H
              have H := H1
              clear H1
              by_cases c13 : (t155.size : Int) > 0
              · rw [if_pos c13] at H
                have c13b0 : decide (0 < (t155.size : Int)) = true := decide_eq_true c13
                have c13b1 : decide (0 < t155.size) = true := decide_eq_true (by omega)
                clear c13
                simp only [Option.some.injEq, Prod.mk.injEq] at H
                obtain ⟨rfl, rfl⟩ := H
                go_wp2_with (first | ((with_reducible refine gate_callee (f := 31) rfl ?_); refine goesL_ (some 15) rfl rfl Tryd.func31 (by kernel_rfl) rfl #[.string x5_1] rfl (by (try simp only [List.map_toArray, List.map_cons, List.map_nil]); first | done | rfl | (simp only [List.length_drop, List.length_take]; rfl)) ?_; (with_reducible refine (tegularef13_read.calls k1 x5_1 t152 t153 t154 t155 true _ A3.out).mono ?_); rintro e w14 ⟨rfl, hb⟩; refine ⟨_, rfl, ?_⟩; have n0_ := Aside0.mk (Kd.R_below (by (with_reducible repeat (first | apply Kd.R_alloc | apply Kd.R_drewN | apply Kd.R_drew)); exact HO_4.out) hb); have n1_ := Aside0.mk (below_step (by repeat (first | (with_reducible first | exact HB.out | apply below_alloc | apply pw_below_drewN | apply below_drew1) | exact HB.out)) hb); clear HO_4; clear HB; have HO_4 := n0_; have HB := n1_; clear n0_ n1_; (try clear hb); (try clear hb2); (try clear hk); (try clear hi)) | ((with_reducible refine gate_dst (N := 6) rfl ?_); refine box_event ?hg (N := 6) ?hd (cs := #[.int .i64 0, .int .i64 0, .int .i64 0]) (t := 32) ?hr ?_; (case hd => rfl); (case hg => rfl); (case hr => first | (go_simp; done) | (go_simp; rfl)); intro gb157 hg w15 hbox hb; have n0_ := Aside0.mk (Kd.R_below (Kd.R_elderB (by (with_reducible repeat (first | apply Kd.R_alloc | apply Kd.R_drewN | apply Kd.R_drew)); exact HO_4.out) gb157 (Nat.le_of_eq hg.symm)) hb); have n1_ := Aside0.mk (below_step (by repeat (first | (with_reducible first | exact HB.out | apply below_alloc | apply pw_below_drewN | apply below_drew1) | exact HB.out)) hb); have n2_ := Aside0.mk (hbox); have n3_ := Aside0.mk ((by rw [hg]; exact (below_size (by repeat (first | (with_reducible first | exact HB.out | apply below_alloc | apply pw_below_drewN | apply below_drew1) | exact HB.out))) : w.heap.size ≤ gb157)); have n4_ := Aside0.mk ((by rw [hg]; exact (below_size (by repeat (first | (with_reducible first | exact HB.out | apply below_alloc | apply pw_below_drewN | apply below_drew1) | exact HB.out))) : w.heap.size ≤ gb157)); clear HO_4; clear HB; have HO_4 := n0_; have HB := n1_; have BK157 := n2_; have GW157 := n3_; have GE157 := n4_; clear n0_ n1_ n2_ n3_ n4_; clear hb hbox hg; have hcz16_0 : w15.cell? ⟨gb157, 0, none⟩ = some (.int .i64 0) := (blk_cell BK157.out 0).trans rfl; have hcz16_1 : w15.cell? ⟨gb157, 1, none⟩ = some (.int .i64 0) := (blk_cell BK157.out 1).trans rfl; have hcz16_2 : w15.cell? ⟨gb157, 2, none⟩ = some (.int .i64 0) := (blk_cell BK157.out 2).trans rfl; have hfz16_0 := blk_frozen BK157.out 0; have hfz16_1 := blk_frozen BK157.out 1; have hfz16_2 := blk_frozen BK157.out 2) | ((with_reducible refine gate_builtin (b := .append) (xs := #[.tmp 21, .tmp 23]) rfl ?_); at_builtin; refine Kd.R_append k32 (w0 := w) w.heap.size rfl (.tmp 21) (.tmp 23) 22 32 (.agg #[(.int .i64 0), (.int .i64 0), (.int .i64 0)]) 24 rfl Tryd.underlying22 info32 rfl (by decide) (by omega) u4 x4_1 (⟨t152, t153, t154⟩ : S32) [.int .i64 t152, .int .i64 t153, .int .i64 t154] (fun k_ => k_ ≠ gb157) (fun _ => False) rfl (by first | (go_simp; done) | (go_simp; rfl)) ?aP (fun _ hk => hk.elim) ?aF ?aO ?aB ?aS ?aL ?_; (case aP => exact k32_mkM _ _ _ (⟨t152, t153, t154⟩ : S32)); (case aB => exact (by repeat (first | (with_reducible first | exact HB.out | apply below_alloc | apply pw_below_drewN | apply below_drew1 | refine below_set ?_ GE157.out) | exact HB.out))); (case aF => exact (fun k_ hk => Kd.freshB (g := gb157) (o := .cells #[.int .i64 t152, .int .i64 t153, .int .i64 t154] 32 (0, 0)) (by (with_reducible repeat (first | refine blk_drewN ?_ _ | refine blk_drew ?_ | refine blk_alloc ?_ _)); refine blk_put (cs := #[.int .i64 t152, .int .i64 t153, .int .i64 0]) ?_ 2 _ rfl; (with_reducible repeat (first | refine blk_drewN ?_ _ | refine blk_drew ?_ | refine blk_alloc ?_ _)); refine blk_put (cs := #[.int .i64 t152, .int .i64 0, .int .i64 0]) ?_ 1 _ rfl; (with_reducible repeat (first | refine blk_drewN ?_ _ | refine blk_drew ?_ | refine blk_alloc ?_ _)); refine blk_put (cs := #[.int .i64 0, .int .i64 0, .int .i64 0]) ?_ 0 _ rfl; (with_reducible repeat (first | refine blk_drewN ?_ _ | refine blk_drew ?_ | refine blk_alloc ?_ _)); exact BK157.out) k_ hk)); (case aO => exact (by (with_reducible repeat (first | apply Kd.R_alloc | apply Kd.R_drewN | apply Kd.R_drew)); exact Kd.R_mono (Kd.R_far (p := ⟨gb157, 2, none⟩) (Kd.R_far (p := ⟨gb157, 1, none⟩) (Kd.R_far (p := ⟨gb157, 0, none⟩) (Kd.R_mono HO_4.out (fun k_ hk => (⟨hk, hk.2⟩ : _ ∧ k_ ≠ gb157))) (fun _ hk => hk.2) (.int .i64 t152)) (fun _ hk => hk.2) (.int .i64 t153)) (fun _ hk => hk.2) (.int .i64 t154)) (fun _ hk => hk.1.2))); (case aS => exact (below_size (by repeat (first | (with_reducible first | exact HB.out | apply below_alloc | apply pw_below_drewN | apply below_drew1 | refine below_set ?_ GE157.out) | exact HB.out)))); (case aL => have := LMc5.out; omega); intro v159 w17 ho hb hg hat; rw [← Ny158.out] at ho; have n0_ := Aside0.mk (blk_grown (g := gb157) (o := .cells #[.int .i64 t152, .int .i64 t153, .int .i64 t154] 32 (0, 0)) (by (with_reducible repeat (first | refine blk_drewN ?_ _ | refine blk_drew ?_ | refine blk_alloc ?_ _)); refine blk_put (cs := #[.int .i64 t152, .int .i64 t153, .int .i64 0]) ?_ 2 _ rfl; (with_reducible repeat (first | refine blk_drewN ?_ _ | refine blk_drew ?_ | refine blk_alloc ?_ _)); refine blk_put (cs := #[.int .i64 t152, .int .i64 0, .int .i64 0]) ?_ 1 _ rfl; (with_reducible repeat (first | refine blk_drewN ?_ _ | refine blk_drew ?_ | refine blk_alloc ?_ _)); refine blk_put (cs := #[.int .i64 0, .int .i64 0, .int .i64 0]) ?_ 0 _ rfl; (with_reducible repeat (first | refine blk_drewN ?_ _ | refine blk_drew ?_ | refine blk_alloc ?_ _)); exact BK157.out) hg (Kd.R_away HO_4.out (fun _ hk => hk.2))); have n1_ := Aside0.mk (hb); have n2_ := Aside0.mk (ho); clear BK157; clear HB; clear HO_4; have BK157 := n0_; have HB := n1_; have HO160 := n2_; clear n0_ n1_ n2_; clear ho hb hg hat) | ((with_reducible refine gate_callee (f := 32) rfl ?_); refine goesL_ (some 27) rfl rfl Tryd.func32 (by kernel_rfl) rfl #[.string t155, .string (⟨#[59, 32]⟩ : ByteArray)] rfl (by (try simp only [List.map_toArray, List.map_cons, List.map_nil]); first | done | rfl | (simp only [List.length_drop, List.length_take]; rfl)) ?_; (with_reducible refine (tegularef13_begins.calls t155 (⟨#[59, 32]⟩ : ByteArray) false _ A6.out).mono ?_); rintro e w' ⟨rfl, ⟨nd, rfl⟩⟩; refine ⟨_, rfl, ?_⟩))
                go_ret2
                exact ⟨_, by first | rfl | (simp [errW_none, errW_some] <;> rfl) | (simp [*, errW_none, errW_some] <;> rfl), by first | exact Kd.R_nil _ _ _ _ _ | exact Kd.N_nil _ _ _ _ _ | exact Kd.V_nil _ _ _ _ _ | exact Kd.Q_nil _ _ _ _ _ | exact Kd.S_nil _ _ _ _ _, by repeat (first | (with_reducible first | exact HB.out | apply below_alloc | apply pw_below_drewN | apply below_drew1 | refine below_set ?_ GE157.out) | exact HB.out)⟩
              · rw [if_neg c13] at H
                have c13b0 : decide (0 < (t155.size : Int)) = false := decide_eq_false c13
                have c13b1 : decide (0 < t155.size) = false := decide_eq_false (by omega)
                clear c13
                have H' := Aside0.mk H
                clear H
                go_wp2_with (first | ((with_reducible refine gate_callee (f := 31) rfl ?_); refine goesL_ (some 15) rfl rfl Tryd.func31 (by kernel_rfl) rfl #[.string x5_1] rfl (by (try simp only [List.map_toArray, List.map_cons, List.map_nil]); first | done | rfl | (simp only [List.length_drop, List.length_take]; rfl)) ?_; (with_reducible refine (tegularef13_read.calls k1 x5_1 t152 t153 t154 t155 true _ A3.out).mono ?_); rintro e w18 ⟨rfl, hb⟩; refine ⟨_, rfl, ?_⟩; have n0_ := Aside0.mk (Kd.R_below (by (with_reducible repeat (first | apply Kd.R_alloc | apply Kd.R_drewN | apply Kd.R_drew)); exact HO_4.out) hb); have n1_ := Aside0.mk (below_step (by repeat (first | (with_reducible first | exact HB.out | apply below_alloc | apply pw_below_drewN | apply below_drew1) | exact HB.out)) hb); clear HO_4; clear HB; have HO_4 := n0_; have HB := n1_; clear n0_ n1_; (try clear hb); (try clear hb2); (try clear hk); (try clear hi)) | ((with_reducible refine gate_dst (N := 6) rfl ?_); refine box_event ?hg (N := 6) ?hd (cs := #[.int .i64 0, .int .i64 0, .int .i64 0]) (t := 32) ?hr ?_; (case hd => rfl); (case hg => rfl); (case hr => first | (go_simp; done) | (go_simp; rfl)); intro gb157 hg w19 hbox hb; have n0_ := Aside0.mk (Kd.R_below (Kd.R_elderB (by (with_reducible repeat (first | apply Kd.R_alloc | apply Kd.R_drewN | apply Kd.R_drew)); exact HO_4.out) gb157 (Nat.le_of_eq hg.symm)) hb); have n1_ := Aside0.mk (below_step (by repeat (first | (with_reducible first | exact HB.out | apply below_alloc | apply pw_below_drewN | apply below_drew1) | exact HB.out)) hb); have n2_ := Aside0.mk (hbox); have n3_ := Aside0.mk ((by rw [hg]; exact (below_size (by repeat (first | (with_reducible first | exact HB.out | apply below_alloc | apply pw_below_drewN | apply below_drew1) | exact HB.out))) : w.heap.size ≤ gb157)); have n4_ := Aside0.mk ((by rw [hg]; exact (below_size (by repeat (first | (with_reducible first | exact HB.out | apply below_alloc | apply pw_below_drewN | apply below_drew1) | exact HB.out))) : w.heap.size ≤ gb157)); clear HO_4; clear HB; have HO_4 := n0_; have HB := n1_; have BK157 := n2_; have GW157 := n3_; have GE157 := n4_; clear n0_ n1_ n2_ n3_ n4_; clear hb hbox hg; have hcz20_0 : w19.cell? ⟨gb157, 0, none⟩ = some (.int .i64 0) := (blk_cell BK157.out 0).trans rfl; have hcz20_1 : w19.cell? ⟨gb157, 1, none⟩ = some (.int .i64 0) := (blk_cell BK157.out 1).trans rfl; have hcz20_2 : w19.cell? ⟨gb157, 2, none⟩ = some (.int .i64 0) := (blk_cell BK157.out 2).trans rfl; have hfz20_0 := blk_frozen BK157.out 0; have hfz20_1 := blk_frozen BK157.out 1; have hfz20_2 := blk_frozen BK157.out 2) | ((with_reducible refine gate_builtin (b := .append) (xs := #[.tmp 21, .tmp 23]) rfl ?_); at_builtin; refine Kd.R_append k32 (w0 := w) w.heap.size rfl (.tmp 21) (.tmp 23) 22 32 (.agg #[(.int .i64 0), (.int .i64 0), (.int .i64 0)]) 24 rfl Tryd.underlying22 info32 rfl (by decide) (by omega) u4 x4_1 (⟨t152, t153, t154⟩ : S32) [.int .i64 t152, .int .i64 t153, .int .i64 t154] (fun k_ => k_ ≠ gb157) (fun _ => False) rfl (by first | (go_simp; done) | (go_simp; rfl)) ?aP (fun _ hk => hk.elim) ?aF ?aO ?aB ?aS ?aL ?_; (case aP => exact k32_mkM _ _ _ (⟨t152, t153, t154⟩ : S32)); (case aB => exact (by repeat (first | (with_reducible first | exact HB.out | apply below_alloc | apply pw_below_drewN | apply below_drew1 | refine below_set ?_ GE157.out) | exact HB.out))); (case aF => exact (fun k_ hk => Kd.freshB (g := gb157) (o := .cells #[.int .i64 t152, .int .i64 t153, .int .i64 t154] 32 (0, 0)) (by (with_reducible repeat (first | refine blk_drewN ?_ _ | refine blk_drew ?_ | refine blk_alloc ?_ _)); refine blk_put (cs := #[.int .i64 t152, .int .i64 t153, .int .i64 0]) ?_ 2 _ rfl; (with_reducible repeat (first | refine blk_drewN ?_ _ | refine blk_drew ?_ | refine blk_alloc ?_ _)); refine blk_put (cs := #[.int .i64 t152, .int .i64 0, .int .i64 0]) ?_ 1 _ rfl; (with_reducible repeat (first | refine blk_drewN ?_ _ | refine blk_drew ?_ | refine blk_alloc ?_ _)); refine blk_put (cs := #[.int .i64 0, .int .i64 0, .int .i64 0]) ?_ 0 _ rfl; (with_reducible repeat (first | refine blk_drewN ?_ _ | refine blk_drew ?_ | refine blk_alloc ?_ _)); exact BK157.out) k_ hk)); (case aO => exact (by (with_reducible repeat (first | apply Kd.R_alloc | apply Kd.R_drewN | apply Kd.R_drew)); exact Kd.R_mono (Kd.R_far (p := ⟨gb157, 2, none⟩) (Kd.R_far (p := ⟨gb157, 1, none⟩) (Kd.R_far (p := ⟨gb157, 0, none⟩) (Kd.R_mono HO_4.out (fun k_ hk => (⟨hk, hk.2⟩ : _ ∧ k_ ≠ gb157))) (fun _ hk => hk.2) (.int .i64 t152)) (fun _ hk => hk.2) (.int .i64 t153)) (fun _ hk => hk.2) (.int .i64 t154)) (fun _ hk => hk.1.2))); (case aS => exact (below_size (by repeat (first | (with_reducible first | exact HB.out | apply below_alloc | apply pw_below_drewN | apply below_drew1 | refine below_set ?_ GE157.out) | exact HB.out)))); (case aL => have := LMc5.out; omega); intro v159 w21 ho hb hg hat; rw [← Ny158.out] at ho; have n0_ := Aside0.mk (blk_grown (g := gb157) (o := .cells #[.int .i64 t152, .int .i64 t153, .int .i64 t154] 32 (0, 0)) (by (with_reducible repeat (first | refine blk_drewN ?_ _ | refine blk_drew ?_ | refine blk_alloc ?_ _)); refine blk_put (cs := #[.int .i64 t152, .int .i64 t153, .int .i64 0]) ?_ 2 _ rfl; (with_reducible repeat (first | refine blk_drewN ?_ _ | refine blk_drew ?_ | refine blk_alloc ?_ _)); refine blk_put (cs := #[.int .i64 t152, .int .i64 0, .int .i64 0]) ?_ 1 _ rfl; (with_reducible repeat (first | refine blk_drewN ?_ _ | refine blk_drew ?_ | refine blk_alloc ?_ _)); refine blk_put (cs := #[.int .i64 0, .int .i64 0, .int .i64 0]) ?_ 0 _ rfl; (with_reducible repeat (first | refine blk_drewN ?_ _ | refine blk_drew ?_ | refine blk_alloc ?_ _)); exact BK157.out) hg (Kd.R_away HO_4.out (fun _ hk => hk.2))); have n1_ := Aside0.mk (hb); have n2_ := Aside0.mk (ho); clear BK157; clear HB; clear HO_4; have BK157 := n0_; have HB := n1_; have HO160 := n2_; clear n0_ n1_ n2_; clear ho hb hg hat) | ((with_reducible refine gate_callee (f := 32) rfl ?_); refine goesL_ (some 27) rfl rfl Tryd.func32 (by kernel_rfl) rfl #[.string t155, .string (⟨#[59, 32]⟩ : ByteArray)] rfl (by (try simp only [List.map_toArray, List.map_cons, List.map_nil]); first | done | rfl | (simp only [List.length_drop, List.length_take]; rfl)) ?_; (with_reducible refine (tegularef13_begins.calls t155 (⟨#[59, 32]⟩ : ByteArray) false _ A6.out).mono ?_); rintro e w' ⟨rfl, ⟨nd, rfl⟩⟩; refine ⟨_, rfl, ?_⟩))
                go_roundg k1
                case measure => have := HK1.out; omega
                case rel => exact ⟨(y158), (t155), (by first | rfl | (simp; done) | (simp [*]; done)), H', ⟨by have := HK1.out; omega⟩, ⟨by (with_reducible repeat (first | apply Kd.R_alloc | apply Kd.R_drewN | apply Kd.R_drew)); exact Kd.R_mono HO160.out (fun _ hk => trivial)⟩, ⟨by repeat (first | (with_reducible first | exact HB.out | apply below_alloc | apply pw_below_drewN | apply below_drew1 | refine below_set ?_ GE157.out) | exact HB.out)⟩⟩
          · rw [if_neg c5] at H
            exact absurd H (by simp)
        · replace c4 := Bool.eq_false_iff.mpr c4
          subst c4
          have H1 : (some (([] : List (S32)), 4)) = some (r1, r2) := by rw [if_neg (show ¬ (false = true) by decide)] at H; exact H
          clear H
          have H := H1
          clear H1
          simp only [Option.some.injEq, Prod.mk.injEq] at H
          obtain ⟨rfl, rfl⟩ := H
          go_wp2_with (first | ((with_reducible refine gate_callee (f := 31) rfl ?_); refine goesL_ (some 15) rfl rfl Tryd.func31 (by kernel_rfl) rfl #[.string x5_1] rfl (by (try simp only [List.map_toArray, List.map_cons, List.map_nil]); first | done | rfl | (simp only [List.length_drop, List.length_take]; rfl)) ?_; (with_reducible refine (tegularef13_read.calls k1 x5_1 t152 t153 t154 t155 false _ A3.out).mono ?_); rintro e w22 ⟨rfl, hb⟩; refine ⟨_, rfl, ?_⟩; have n0_ := Aside0.mk (Kd.R_below (by (with_reducible repeat (first | apply Kd.R_alloc | apply Kd.R_drewN | apply Kd.R_drew)); exact HO_4.out) hb); have n1_ := Aside0.mk (below_step (by repeat (first | (with_reducible first | exact HB.out | apply below_alloc | apply pw_below_drewN | apply below_drew1) | exact HB.out)) hb); clear HO_4; clear HB; have HO_4 := n0_; have HB := n1_; clear n0_ n1_; (try clear hb); (try clear hb2); (try clear hk); (try clear hi)) | ((with_reducible refine gate_dst (N := 6) rfl ?_); refine box_event ?hg (N := 6) ?hd (cs := #[.int .i64 0, .int .i64 0, .int .i64 0]) (t := 32) ?hr ?_; (case hd => rfl); (case hg => rfl); (case hr => first | (go_simp; done) | (go_simp; rfl)); intro gb157 hg w23 hbox hb; have n0_ := Aside0.mk (Kd.R_below (Kd.R_elderB (by (with_reducible repeat (first | apply Kd.R_alloc | apply Kd.R_drewN | apply Kd.R_drew)); exact HO_4.out) gb157 (Nat.le_of_eq hg.symm)) hb); have n1_ := Aside0.mk (below_step (by repeat (first | (with_reducible first | exact HB.out | apply below_alloc | apply pw_below_drewN | apply below_drew1) | exact HB.out)) hb); have n2_ := Aside0.mk (hbox); have n3_ := Aside0.mk ((by rw [hg]; exact (below_size (by repeat (first | (with_reducible first | exact HB.out | apply below_alloc | apply pw_below_drewN | apply below_drew1) | exact HB.out))) : w.heap.size ≤ gb157)); have n4_ := Aside0.mk ((by rw [hg]; exact (below_size (by repeat (first | (with_reducible first | exact HB.out | apply below_alloc | apply pw_below_drewN | apply below_drew1) | exact HB.out))) : w.heap.size ≤ gb157)); clear HO_4; clear HB; have HO_4 := n0_; have HB := n1_; have BK157 := n2_; have GW157 := n3_; have GE157 := n4_; clear n0_ n1_ n2_ n3_ n4_; clear hb hbox hg; have hcz24_0 : w23.cell? ⟨gb157, 0, none⟩ = some (.int .i64 0) := (blk_cell BK157.out 0).trans rfl; have hcz24_1 : w23.cell? ⟨gb157, 1, none⟩ = some (.int .i64 0) := (blk_cell BK157.out 1).trans rfl; have hcz24_2 : w23.cell? ⟨gb157, 2, none⟩ = some (.int .i64 0) := (blk_cell BK157.out 2).trans rfl; have hfz24_0 := blk_frozen BK157.out 0; have hfz24_1 := blk_frozen BK157.out 1; have hfz24_2 := blk_frozen BK157.out 2))
          go_ret2
          exact ⟨_, by first | rfl | (simp [errW_none, errW_some] <;> rfl) | (simp [*, errW_none, errW_some] <;> rfl), by first | exact Kd.R_nil _ _ _ _ _ | exact Kd.N_nil _ _ _ _ _ | exact Kd.V_nil _ _ _ _ _ | exact Kd.Q_nil _ _ _ _ _ | exact Kd.S_nil _ _ _ _ _, by repeat (first | (with_reducible first | exact HB.out | apply below_alloc | apply pw_below_drewN | apply below_drew1 | refine below_set ?_ GE157.out) | exact HB.out)⟩
      · rw [if_neg c2] at H
        have c2b0 : decide (0 < (x5_1.size : Int)) = false := decide_eq_false c2
        have c2b1 : decide (0 < x5_1.size) = false := decide_eq_false (by omega)
        clear c2
        replace H := Option.bind_eq_some_iff.mp H
        obtain ⟨t162, A250, H⟩ := H
        replace H : (if t162 = true then ((tegularef13_Text.f k1 x4_1).bind fun t163 => (if t163.toList = a0.toList then (some (x4_1, 0)) else (some (([] : List (S32)), 4)))) else (some (([] : List (S32)), 4))) = some (r1, r2) := H
        have A25 := Aside0.mk A250
        clear A250
        by_cases c26 : t162 = true
        · subst c26
          have H1 : ((tegularef13_Text.f k1 x4_1).bind fun t163 => (if t163.toList = a0.toList then (some (x4_1, 0)) else (some (([] : List (S32)), 4)))) = some (r1, r2) := by rw [if_pos rfl] at H; exact H
          clear H
          have H := H1
          clear H1
          replace H := Option.bind_eq_some_iff.mp H
          obtain ⟨t163, A270, H⟩ := H
          replace H : (if t163.toList = a0.toList then (some (x4_1, 0)) else (some (([] : List (S32)), 4))) = some (r1, r2) := H
          have A27 := Aside0.mk A270
          clear A270
          by_cases c28 : t163.toList = a0.toList
          · rw [if_pos c28] at H
            have c28b0 : (t163.toList == a0.toList) = true := beq_iff_eq.mpr c28
            have c28b1 : (t163.toList != a0.toList) = false := bne_eq_false_iff_eq.mpr c28
            clear c28
            simp only [Option.some.injEq, Prod.mk.injEq] at H
            obtain ⟨rfl, rfl⟩ := H
            obtain ⟨Ao29, co29, eo29⟩ := Kd.R_slice HO_4.out
            subst eo29
            go_wp2_with (first | ((with_reducible refine gate_callee (f := 11) rfl ?_); refine goesL_ (some 34) rfl rfl Tryd.func11 (by kernel_rfl) rfl #[.slice Ao29 x4_1.length co29] rfl (by (try simp only [List.map_toArray, List.map_cons, List.map_nil]); first | done | rfl | (simp only [List.length_drop, List.length_take]; rfl)) ?_; (with_reducible refine (tegularef13_Valid.calls k1 _ _ x4_1 true _ ?side1 ?side2 A25.out).mono ?_); (case side1 => repeat (first | exact (Kd.R_reads' HO_4.out).2.2 | (with_reducible refine Kd.C_alloc ?_ _) | (with_reducible refine Kd.C_drewN ?_ _) | (with_reducible refine Kd.C_drew ?_))); (case side2 => exact (Kd.R_reads' HO_4.out).2.1); rintro e w30 ⟨rfl, hb⟩; refine ⟨_, rfl, ?_⟩; have n0_ := Aside0.mk (Kd.R_below (by (with_reducible repeat (first | apply Kd.R_alloc | apply Kd.R_drewN | apply Kd.R_drew)); exact HO_4.out) hb); have n1_ := Aside0.mk (below_step (by repeat (first | (with_reducible first | exact HB.out | apply below_alloc | apply pw_below_drewN | apply below_drew1) | exact HB.out)) hb); clear HO_4; clear HB; have HO_4 := n0_; have HB := n1_; clear n0_ n1_; (try clear hb); (try clear hb2); (try clear hk); (try clear hi)) | (go_at_call 13; (with_reducible refine (tegularef13_Text.calls k1 _ _ x4_1 t163 _ ?side1 ?side2 A27.out).mono ?_); (case side1 => repeat (first | exact (Kd.R_reads' HO_4.out).2.2 | (with_reducible refine Kd.C_alloc ?_ _) | (with_reducible refine Kd.C_drewN ?_ _) | (with_reducible refine Kd.C_drew ?_))); (case side2 => exact (Kd.R_reads' HO_4.out).2.1); rintro e w31 ⟨rfl, hb⟩; have n0_ := Aside0.mk (Kd.R_below (by (with_reducible repeat (first | apply Kd.R_alloc | apply Kd.R_drewN | apply Kd.R_drew)); exact HO_4.out) hb); have n1_ := Aside0.mk (below_step (by repeat (first | (with_reducible first | exact HB.out | apply below_alloc | apply pw_below_drewN | apply below_drew1) | exact HB.out)) hb); clear HO_4; clear HB; have HO_4 := n0_; have HB := n1_; clear n0_ n1_; (try clear hb); (try clear hb2); (try clear hk); (try clear hi)))
            go_ret2
            exact ⟨_, by first | rfl | (simp [errW_none, errW_some] <;> rfl) | (simp [*, errW_none, errW_some] <;> rfl), by (with_reducible repeat (first | apply Kd.R_alloc | apply Kd.R_drewN | apply Kd.R_drew)); exact HO_4.out, by repeat (first | (with_reducible first | exact HB.out | apply below_alloc | apply pw_below_drewN | apply below_drew1) | exact HB.out)⟩
          · rw [if_neg c28] at H
            have c28b0 : (t163.toList == a0.toList) = false := beq_eq_false_iff_ne.mpr c28
            have c28b1 : (t163.toList != a0.toList) = true := bne_iff_ne.mpr c28
            simp only [Option.some.injEq, Prod.mk.injEq] at H
            obtain ⟨rfl, rfl⟩ := H
            obtain ⟨Ao32, co32, eo32⟩ := Kd.R_slice HO_4.out
            subst eo32
            go_wp2_with (first | ((with_reducible refine gate_callee (f := 11) rfl ?_); refine goesL_ (some 34) rfl rfl Tryd.func11 (by kernel_rfl) rfl #[.slice Ao32 x4_1.length co32] rfl (by (try simp only [List.map_toArray, List.map_cons, List.map_nil]); first | done | rfl | (simp only [List.length_drop, List.length_take]; rfl)) ?_; (with_reducible refine (tegularef13_Valid.calls k1 _ _ x4_1 true _ ?side1 ?side2 A25.out).mono ?_); (case side1 => repeat (first | exact (Kd.R_reads' HO_4.out).2.2 | (with_reducible refine Kd.C_alloc ?_ _) | (with_reducible refine Kd.C_drewN ?_ _) | (with_reducible refine Kd.C_drew ?_))); (case side2 => exact (Kd.R_reads' HO_4.out).2.1); rintro e w33 ⟨rfl, hb⟩; refine ⟨_, rfl, ?_⟩; have n0_ := Aside0.mk (Kd.R_below (by (with_reducible repeat (first | apply Kd.R_alloc | apply Kd.R_drewN | apply Kd.R_drew)); exact HO_4.out) hb); have n1_ := Aside0.mk (below_step (by repeat (first | (with_reducible first | exact HB.out | apply below_alloc | apply pw_below_drewN | apply below_drew1) | exact HB.out)) hb); clear HO_4; clear HB; have HO_4 := n0_; have HB := n1_; clear n0_ n1_; (try clear hb); (try clear hb2); (try clear hk); (try clear hi)) | (go_at_call 13; (with_reducible refine (tegularef13_Text.calls k1 _ _ x4_1 t163 _ ?side1 ?side2 A27.out).mono ?_); (case side1 => repeat (first | exact (Kd.R_reads' HO_4.out).2.2 | (with_reducible refine Kd.C_alloc ?_ _) | (with_reducible refine Kd.C_drewN ?_ _) | (with_reducible refine Kd.C_drew ?_))); (case side2 => exact (Kd.R_reads' HO_4.out).2.1); rintro e w34 ⟨rfl, hb⟩; have n0_ := Aside0.mk (Kd.R_below (by (with_reducible repeat (first | apply Kd.R_alloc | apply Kd.R_drewN | apply Kd.R_drew)); exact HO_4.out) hb); have n1_ := Aside0.mk (below_step (by repeat (first | (with_reducible first | exact HB.out | apply below_alloc | apply pw_below_drewN | apply below_drew1) | exact HB.out)) hb); clear HO_4; clear HB; have HO_4 := n0_; have HB := n1_; clear n0_ n1_; (try clear hb); (try clear hb2); (try clear hk); (try clear hi)))
            go_ret2
            exact ⟨_, by first | rfl | (simp [errW_none, errW_some] <;> rfl) | (simp [*, errW_none, errW_some] <;> rfl), by first | exact Kd.R_nil _ _ _ _ _ | exact Kd.N_nil _ _ _ _ _ | exact Kd.V_nil _ _ _ _ _ | exact Kd.Q_nil _ _ _ _ _ | exact Kd.S_nil _ _ _ _ _, by repeat (first | (with_reducible first | exact HB.out | apply below_alloc | apply pw_below_drewN | apply below_drew1) | exact HB.out)⟩
        · replace c26 := Bool.eq_false_iff.mpr c26
          subst c26
          have H1 : (some (([] : List (S32)), 4)) = some (r1, r2) := by rw [if_neg (show ¬ (false = true) by decide)] at H; exact H
          clear H
          have H := H1
          clear H1
          simp only [Option.some.injEq, Prod.mk.injEq] at H
          obtain ⟨rfl, rfl⟩ := H
          obtain ⟨Ao35, co35, eo35⟩ := Kd.R_slice HO_4.out
          subst eo35
          go_wp2_with (first | ((with_reducible refine gate_callee (f := 11) rfl ?_); refine goesL_ (some 34) rfl rfl Tryd.func11 (by kernel_rfl) rfl #[.slice Ao35 x4_1.length co35] rfl (by (try simp only [List.map_toArray, List.map_cons, List.map_nil]); first | done | rfl | (simp only [List.length_drop, List.length_take]; rfl)) ?_; (with_reducible refine (tegularef13_Valid.calls k1 _ _ x4_1 false _ ?side1 ?side2 A25.out).mono ?_); (case side1 => repeat (first | exact (Kd.R_reads' HO_4.out).2.2 | (with_reducible refine Kd.C_alloc ?_ _) | (with_reducible refine Kd.C_drewN ?_ _) | (with_reducible refine Kd.C_drew ?_))); (case side2 => exact (Kd.R_reads' HO_4.out).2.1); rintro e w36 ⟨rfl, hb⟩; refine ⟨_, rfl, ?_⟩; have n0_ := Aside0.mk (Kd.R_below (by (with_reducible repeat (first | apply Kd.R_alloc | apply Kd.R_drewN | apply Kd.R_drew)); exact HO_4.out) hb); have n1_ := Aside0.mk (below_step (by repeat (first | (with_reducible first | exact HB.out | apply below_alloc | apply pw_below_drewN | apply below_drew1) | exact HB.out)) hb); clear HO_4; clear HB; have HO_4 := n0_; have HB := n1_; clear n0_ n1_; (try clear hb); (try clear hb2); (try clear hk); (try clear hi)))
          go_ret2
          exact ⟨_, by first | rfl | (simp [errW_none, errW_some] <;> rfl) | (simp [*, errW_none, errW_some] <;> rfl), by first | exact Kd.R_nil _ _ _ _ _ | exact Kd.N_nil _ _ _ _ _ | exact Kd.V_nil _ _ _ _ _ | exact Kd.Q_nil _ _ _ _ _ | exact Kd.S_nil _ _ _ _ _, by repeat (first | (with_reducible first | exact HB.out | apply below_alloc | apply pw_below_drewN | apply below_drew1) | exact HB.out)⟩

end Go.Proofs.YtgofecclceoeiaaDoor.PF
