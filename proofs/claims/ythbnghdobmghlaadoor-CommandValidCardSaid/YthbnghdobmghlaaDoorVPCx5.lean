import Derived.Test.YthbnghdobmghlaaDoorVPCx0
import Derived.Test.YthbnghdobmghlaaDoorVPCx4
namespace Go.Proofs.YthbnghdobmghlaaDoor.PC
open Go.RowKit Go.Proofs.YthbnghdobmghlaaDoorW.PrintWords Go.Proofs.YthbnghdobmghlaaDoorW.PrintLast Go.Proofs.YthbnghdobmghlaaDoorW.PrintMore
attribute [local go_sem] max2_int min2_int max_two min_two max_three min_three max_four min_four   -- for this text's walks alone
set_option linter.unusedVariables false
set_option linter.unusedSimpArgs false
mutual
def tegularef39_Valid.j0 : Nat → Bool → Int → Int → Int → Bool → ByteArray → ByteArray → Int → Int → List (S35) → Option (Bool)
  | 0, _, _, _, _, _, _, _, _, _, _ => none
  | k + 1, x22, x122000, x122001, x122002, x122003, x122004, x122005, x122006, x122007, x122008 => if x22 = true then (some false) else ((tegularef39_Name.f k x122004).bind fun t122 => (if x122005.toList = ([] : List UInt8) then (tegularef39_Valid.j1 k t122 ((x122008.length : Int) == 0) x122000 x122001 x122002 x122003 x122004 x122005 x122006 x122007 x122008) else (tegularef39_Valid.j1 k t122 false x122000 x122001 x122002 x122003 x122004 x122005 x122006 x122007 x122008)))
def tegularef39_Valid.j1 : Nat → Bool → Bool → Int → Int → Int → Bool → ByteArray → ByteArray → Int → Int → List (S35) → Option (Bool)
  | 0, _, _, _, _, _, _, _, _, _, _, _ => none
  | k + 1, x3, x4, x122000, x122001, x122002, x122003, x122004, x122005, x122006, x122007, x122008 => if x122001 = 1 then (if x3 = true then (if x4 = true then (if x122003 = true then (some false) else ((tegularef39_within.f x122006 x122007).bind fun t123 => (if t123 = true then (some (decide (x122007 ≤ 16))) else (some false)))) else (some false)) else (some false)) else (if x122001 = 2 then (if x3 = true then (if x122005.toList = ([] : List UInt8) then ((tegularef39_within.f x122006 x122007).bind fun t124 => (if t124 = true then (if x122007 ≤ 16 then (some ((x122008.length : Int) == x122007)) else (some false)) else (some false))) else (some false)) else (some false)) else (if x122001 = 3 then (if x3 = true then (if x4 = true then ((tegularef39_within.f x122006 x122007).bind fun t125 => (some t125)) else (some false)) else (some false)) else (if x122001 = 4 then (if x122004.toList = ([] : List UInt8) then (if x4 = true then (if x122003 = true then (some false) else (if x122006 = 0 then (some (x122007 == 0)) else (some false))) else (some false)) else (some false)) else (if x122001 = 5 then (if x3 = true then (if x4 = true then (if x122003 = true then (some false) else (if x122007 ≥ 1 then (if x122007 ≤ 65536 then (if x122006 ≥ 0 then (some (decide (x122006 ≤ x122007))) else (some false)) else (some false)) else (some false))) else (some false)) else (some false)) else (if x122001 = 6 then (if x3 = true then ((tegularef39_Name.f k x122005).bind fun t126 => (if t126 = true then (if x122005.toList = x122004.toList then (some false) else (if (x122008.length : Int) = 0 then (if x122003 = true then (some false) else (if x122006 = 0 then (some (x122007 == 0)) else (some false))) else (some false))) else (some false))) else (some false)) else (if x122001 = 7 then (if x3 = true then (if x4 = true then (if x122003 = true then (some false) else (if x122006 = 0 then (some (x122007 == 0)) else (some false))) else (some false)) else (some false)) else (some false)))))))
end
def tegularef39_Valid.f (k : Nat) (a0_0 : Int) (a0_1 : Int) (a0_2 : Int) (a0_3 : Bool) (a0_4 : ByteArray) (a0_5 : ByteArray) (a0_6 : Int) (a0_7 : Int) (l0_8 : List (S35)) : Option (Bool) := if a0_0 < 0 then (tegularef39_Valid.j0 k true a0_0 a0_1 a0_2 a0_3 a0_4 a0_5 a0_6 a0_7 l0_8) else (if a0_0 ≥ 2147483648 then (tegularef39_Valid.j0 k true a0_0 a0_1 a0_2 a0_3 a0_4 a0_5 a0_6 a0_7 l0_8) else (if a0_2 = 0 then (tegularef39_Valid.j0 k false a0_0 a0_1 a0_2 a0_3 a0_4 a0_5 a0_6 a0_7 l0_8) else (tegularef39_Valid.j0 k (a0_2 != 1) a0_0 a0_1 a0_2 a0_3 a0_4 a0_5 a0_6 a0_7 l0_8)))
set_option maxHeartbeats 8000000 in
set_option maxRecDepth 100000 in
theorem tegularef39_Valid.calls (k : Nat) (a0_0 : Int) (a0_1 : Int) (a0_2 : Int) (a0_3 : Bool) (a0_4 : ByteArray) (a0_5 : ByteArray) (a0_6 : Int) (a0_7 : Int) (A0_8 : Option Addr) (c0_8 : Nat) (l0_8 : List (S35)) (r : Bool) (w : World) (hr0_8 : Kd.C k35 w A0_8 l0_8.length l0_8) (hc0_8 : l0_8.length ≤ c0_8) (h : tegularef39_Valid.f k a0_0 a0_1 a0_2 a0_3 a0_4 a0_5 a0_6 a0_7 l0_8 = some r) :
    Calls Tryd.prog 12 #[.agg #[.int .i64 a0_0, .int .i64 a0_1, .int .i64 a0_2, .bool a0_3, .string a0_4, .string a0_5, .int .i64 a0_6, .int .i64 a0_7, .slice A0_8 l0_8.length c0_8]] w fun e w' => e = .returned (.bool r) ∧ Below w.heap.size w w' := by
  have hu24 := Tryd.underlying24
  have HR0_8 := Aside0.mk hr0_8
  have HC0_8 := Aside0.mk hc0_8
  clear hr0_8 hc0_8
  have HB := Aside0.mk (Below.refl w.heap.size w)
  have H : (if a0_0 < 0 then (tegularef39_Valid.j0 k true a0_0 a0_1 a0_2 a0_3 a0_4 a0_5 a0_6 a0_7 l0_8) else (if a0_0 ≥ 2147483648 then (tegularef39_Valid.j0 k true a0_0 a0_1 a0_2 a0_3 a0_4 a0_5 a0_6 a0_7 l0_8) else (if a0_2 = 0 then (tegularef39_Valid.j0 k false a0_0 a0_1 a0_2 a0_3 a0_4 a0_5 a0_6 a0_7 l0_8) else (tegularef39_Valid.j0 k (a0_2 != 1) a0_0 a0_1 a0_2 a0_3 a0_4 a0_5 a0_6 a0_7 l0_8)))) = some r := h
  clear h
  have HC2 := Aside0.mk H
  clear H
  go_enter Tryd.func12, Tryd.ntmps12
  go_upto_region 1 with (first | ((with_reducible refine gate_dst (N := 1) rfl ?_); (try (refine gate_guard (by rfl) ?_; dsimp only)); refine box_event ?hg (N := 1) ?hd (cs := #[.int .i64 a0_0, .int .i64 a0_1, .int .i64 a0_2, .bool a0_3, .string a0_4, .string a0_5, .int .i64 a0_6, .int .i64 a0_7, .slice A0_8 l0_8.length c0_8]) (t := 24) ?hr ?_; (case hd => rfl); (case hg => rfl); (case hr => first | (go_simp; done) | (go_simp; rfl)); intro gb121 hg w3 hbox hb; have n0_ := Aside0.mk (below_step (by repeat (first | (with_reducible first | exact HB.out | apply below_alloc | apply pw_below_drewN | apply below_drew1) | exact HB.out)) hb); have n1_ := Aside0.mk (hbox); have n2_ := Aside0.mk ((by rw [hg]; exact (below_size (by repeat (first | (with_reducible first | exact HB.out | apply below_alloc | apply pw_below_drewN | apply below_drew1) | exact HB.out))) : w.heap.size ≤ gb121)); have n3_ := Aside0.mk ((by rw [hg]; exact (below_size (by repeat (first | (with_reducible first | exact HB.out | apply below_alloc | apply pw_below_drewN | apply below_drew1) | exact HB.out))) : w.heap.size ≤ gb121)); clear HB; have HB := n0_; have BK121 := n1_; have GW121 := n2_; have GE121 := n3_; clear n0_ n1_ n2_ n3_; clear hb hbox hg))
  (try simp only [Act.put, List.setIfInBounds_toArray, List.set_cons_zero, List.set_cons_succ])
  go_cut [22] (fun v22 wc => ∃ (kq : Nat) (x22_1 : Bool), v22 = .bool x22_1 ∧ Aside0 (tegularef39_Valid.j0 kq x22_1 a0_0 a0_1 a0_2 a0_3 a0_4 a0_5 a0_6 a0_7 l0_8 = some r) ∧ Aside0 (kq ≤ k) ∧ Aside0 (wc.heap[gb121]? = some (.cells #[.int .i64 a0_0, .int .i64 a0_1, .int .i64 a0_2, .bool a0_3, .string a0_4, .string a0_5, .int .i64 a0_6, .int .i64 a0_7, (.slice A0_8 l0_8.length c0_8)] 24 (0, 0))) ∧ Aside0 (Below w.heap.size w wc))
  case first =>
    have H := HC2.out
    clear HC2
    by_cases c4 : a0_0 < 0
    · rw [if_pos c4] at H
      have c4b0 : decide (a0_0 < 0) = true := decide_eq_true c4
      clear c4
      (first | rw [c4b0] | (simp only [i64_w, i32_w]; rw [c4b0]) | skip)
      have H' := Aside0.mk H
      clear H
      have hcz5_0 : w3.cell? ⟨gb121, 0, none⟩ = some (.int .i64 a0_0) := (blk_cell BK121.out 0).trans rfl
      have hcz5_1 : w3.cell? ⟨gb121, 1, none⟩ = some (.int .i64 a0_1) := (blk_cell BK121.out 1).trans rfl
      have hcz5_2 : w3.cell? ⟨gb121, 2, none⟩ = some (.int .i64 a0_2) := (blk_cell BK121.out 2).trans rfl
      have hcz5_3 : w3.cell? ⟨gb121, 3, none⟩ = some (.bool a0_3) := (blk_cell BK121.out 3).trans rfl
      have hcz5_4 : w3.cell? ⟨gb121, 4, none⟩ = some (.string a0_4) := (blk_cell BK121.out 4).trans rfl
      have hcz5_5 : w3.cell? ⟨gb121, 5, none⟩ = some (.string a0_5) := (blk_cell BK121.out 5).trans rfl
      have hcz5_6 : w3.cell? ⟨gb121, 6, none⟩ = some (.int .i64 a0_6) := (blk_cell BK121.out 6).trans rfl
      have hcz5_7 : w3.cell? ⟨gb121, 7, none⟩ = some (.int .i64 a0_7) := (blk_cell BK121.out 7).trans rfl
      have hcz5_8 : w3.cell? ⟨gb121, 8, none⟩ = some (.slice A0_8 l0_8.length c0_8) := (blk_cell BK121.out 8).trans rfl
      have hfz5_0 := blk_frozen BK121.out 0
      have hfz5_1 := blk_frozen BK121.out 1
      have hfz5_2 := blk_frozen BK121.out 2
      have hfz5_3 := blk_frozen BK121.out 3
      have hfz5_4 := blk_frozen BK121.out 4
      have hfz5_5 := blk_frozen BK121.out 5
      have hfz5_6 := blk_frozen BK121.out 6
      have hfz5_7 := blk_frozen BK121.out 7
      have hfz5_8 := blk_frozen BK121.out 8
      go_wp2
      go_meet
      case rel => exact ⟨_, (true), (by first | rfl | (simp; done) | (simp [*]; done)), H', ⟨by first | omega | exact Nat.le_refl _⟩, ⟨by (with_reducible repeat (first | refine blk_drewN ?_ _ | refine blk_drew ?_ | refine blk_alloc ?_ _)); exact BK121.out⟩, ⟨by repeat (first | (with_reducible first | exact HB.out | apply below_alloc | apply pw_below_drewN | apply below_drew1 | refine below_set ?_ GE121.out) | exact HB.out)⟩⟩
    · rw [if_neg c4] at H
      have c4b0 : decide (a0_0 < 0) = false := decide_eq_false c4
      clear c4
      (first | rw [c4b0] | (simp only [i64_w, i32_w]; rw [c4b0]) | skip)
      by_cases c6 : a0_0 ≥ 2147483648
      · rw [if_pos c6] at H
        have c6b0 : decide (2147483648 ≤ a0_0) = true := decide_eq_true c6
        clear c6
        have H' := Aside0.mk H
        clear H
        have hcz7_0 : w3.cell? ⟨gb121, 0, none⟩ = some (.int .i64 a0_0) := (blk_cell BK121.out 0).trans rfl
        have hcz7_1 : w3.cell? ⟨gb121, 1, none⟩ = some (.int .i64 a0_1) := (blk_cell BK121.out 1).trans rfl
        have hcz7_2 : w3.cell? ⟨gb121, 2, none⟩ = some (.int .i64 a0_2) := (blk_cell BK121.out 2).trans rfl
        have hcz7_3 : w3.cell? ⟨gb121, 3, none⟩ = some (.bool a0_3) := (blk_cell BK121.out 3).trans rfl
        have hcz7_4 : w3.cell? ⟨gb121, 4, none⟩ = some (.string a0_4) := (blk_cell BK121.out 4).trans rfl
        have hcz7_5 : w3.cell? ⟨gb121, 5, none⟩ = some (.string a0_5) := (blk_cell BK121.out 5).trans rfl
        have hcz7_6 : w3.cell? ⟨gb121, 6, none⟩ = some (.int .i64 a0_6) := (blk_cell BK121.out 6).trans rfl
        have hcz7_7 : w3.cell? ⟨gb121, 7, none⟩ = some (.int .i64 a0_7) := (blk_cell BK121.out 7).trans rfl
        have hcz7_8 : w3.cell? ⟨gb121, 8, none⟩ = some (.slice A0_8 l0_8.length c0_8) := (blk_cell BK121.out 8).trans rfl
        have hfz7_0 := blk_frozen BK121.out 0
        have hfz7_1 := blk_frozen BK121.out 1
        have hfz7_2 := blk_frozen BK121.out 2
        have hfz7_3 := blk_frozen BK121.out 3
        have hfz7_4 := blk_frozen BK121.out 4
        have hfz7_5 := blk_frozen BK121.out 5
        have hfz7_6 := blk_frozen BK121.out 6
        have hfz7_7 := blk_frozen BK121.out 7
        have hfz7_8 := blk_frozen BK121.out 8
        go_wp2
        go_meet
        case rel => exact ⟨_, (true), (by first | rfl | (simp; done) | (simp [*]; done)), H', ⟨by first | omega | exact Nat.le_refl _⟩, ⟨by (with_reducible repeat (first | refine blk_drewN ?_ _ | refine blk_drew ?_ | refine blk_alloc ?_ _)); exact BK121.out⟩, ⟨by repeat (first | (with_reducible first | exact HB.out | apply below_alloc | apply pw_below_drewN | apply below_drew1 | refine below_set ?_ GE121.out) | exact HB.out)⟩⟩
      · rw [if_neg c6] at H
        have c6b0 : decide (2147483648 ≤ a0_0) = false := decide_eq_false c6
        clear c6
        by_cases c8 : a0_2 = 0
        · rw [if_pos c8] at H
          have c8b0 : (a0_2 == 0) = true := beq_iff_eq.mpr c8
          have c8b1 : (a0_2 != 0) = false := bne_eq_false_iff_eq.mpr c8
          clear c8
          have H' := Aside0.mk H
          clear H
          have hcz9_0 : w3.cell? ⟨gb121, 0, none⟩ = some (.int .i64 a0_0) := (blk_cell BK121.out 0).trans rfl
          have hcz9_1 : w3.cell? ⟨gb121, 1, none⟩ = some (.int .i64 a0_1) := (blk_cell BK121.out 1).trans rfl
          have hcz9_2 : w3.cell? ⟨gb121, 2, none⟩ = some (.int .i64 a0_2) := (blk_cell BK121.out 2).trans rfl
          have hcz9_3 : w3.cell? ⟨gb121, 3, none⟩ = some (.bool a0_3) := (blk_cell BK121.out 3).trans rfl
          have hcz9_4 : w3.cell? ⟨gb121, 4, none⟩ = some (.string a0_4) := (blk_cell BK121.out 4).trans rfl
          have hcz9_5 : w3.cell? ⟨gb121, 5, none⟩ = some (.string a0_5) := (blk_cell BK121.out 5).trans rfl
          have hcz9_6 : w3.cell? ⟨gb121, 6, none⟩ = some (.int .i64 a0_6) := (blk_cell BK121.out 6).trans rfl
          have hcz9_7 : w3.cell? ⟨gb121, 7, none⟩ = some (.int .i64 a0_7) := (blk_cell BK121.out 7).trans rfl
          have hcz9_8 : w3.cell? ⟨gb121, 8, none⟩ = some (.slice A0_8 l0_8.length c0_8) := (blk_cell BK121.out 8).trans rfl
          have hfz9_0 := blk_frozen BK121.out 0
          have hfz9_1 := blk_frozen BK121.out 1
          have hfz9_2 := blk_frozen BK121.out 2
          have hfz9_3 := blk_frozen BK121.out 3
          have hfz9_4 := blk_frozen BK121.out 4
          have hfz9_5 := blk_frozen BK121.out 5
          have hfz9_6 := blk_frozen BK121.out 6
          have hfz9_7 := blk_frozen BK121.out 7
          have hfz9_8 := blk_frozen BK121.out 8
          go_wp2
          go_meet
          case rel => exact ⟨_, (false), (by first | rfl | (simp; done) | (simp [*]; done)), H', ⟨by first | omega | exact Nat.le_refl _⟩, ⟨by (with_reducible repeat (first | refine blk_drewN ?_ _ | refine blk_drew ?_ | refine blk_alloc ?_ _)); exact BK121.out⟩, ⟨by repeat (first | (with_reducible first | exact HB.out | apply below_alloc | apply pw_below_drewN | apply below_drew1 | refine below_set ?_ GE121.out) | exact HB.out)⟩⟩
        · rw [if_neg c8] at H
          have c8b0 : (a0_2 == 0) = false := beq_eq_false_iff_ne.mpr c8
          have c8b1 : (a0_2 != 0) = true := bne_iff_ne.mpr c8
          have H' := Aside0.mk H
          clear H
          have hcz10_0 : w3.cell? ⟨gb121, 0, none⟩ = some (.int .i64 a0_0) := (blk_cell BK121.out 0).trans rfl
          have hcz10_1 : w3.cell? ⟨gb121, 1, none⟩ = some (.int .i64 a0_1) := (blk_cell BK121.out 1).trans rfl
          have hcz10_2 : w3.cell? ⟨gb121, 2, none⟩ = some (.int .i64 a0_2) := (blk_cell BK121.out 2).trans rfl
          have hcz10_3 : w3.cell? ⟨gb121, 3, none⟩ = some (.bool a0_3) := (blk_cell BK121.out 3).trans rfl
          have hcz10_4 : w3.cell? ⟨gb121, 4, none⟩ = some (.string a0_4) := (blk_cell BK121.out 4).trans rfl
          have hcz10_5 : w3.cell? ⟨gb121, 5, none⟩ = some (.string a0_5) := (blk_cell BK121.out 5).trans rfl
          have hcz10_6 : w3.cell? ⟨gb121, 6, none⟩ = some (.int .i64 a0_6) := (blk_cell BK121.out 6).trans rfl
          have hcz10_7 : w3.cell? ⟨gb121, 7, none⟩ = some (.int .i64 a0_7) := (blk_cell BK121.out 7).trans rfl
          have hcz10_8 : w3.cell? ⟨gb121, 8, none⟩ = some (.slice A0_8 l0_8.length c0_8) := (blk_cell BK121.out 8).trans rfl
          have hfz10_0 := blk_frozen BK121.out 0
          have hfz10_1 := blk_frozen BK121.out 1
          have hfz10_2 := blk_frozen BK121.out 2
          have hfz10_3 := blk_frozen BK121.out 3
          have hfz10_4 := blk_frozen BK121.out 4
          have hfz10_5 := blk_frozen BK121.out 5
          have hfz10_6 := blk_frozen BK121.out 6
          have hfz10_7 := blk_frozen BK121.out 7
          have hfz10_8 := blk_frozen BK121.out 8
          go_wp2
          go_meet
          case rel => exact ⟨_, ((a0_2 != 1)), (by first | rfl | (simp; done) | (simp [*]; done)), H', ⟨by first | omega | exact Nat.le_refl _⟩, ⟨by (with_reducible repeat (first | refine blk_drewN ?_ _ | refine blk_drew ?_ | refine blk_alloc ?_ _)); exact BK121.out⟩, ⟨by repeat (first | (with_reducible first | exact HB.out | apply below_alloc | apply pw_below_drewN | apply below_drew1 | refine below_set ?_ GE121.out) | exact HB.out)⟩⟩
  case rest =>
    clear HC2
    try clear c1
    try clear p2
    try clear c4
    try clear c4b0
    try clear c6
    try clear c6b0
    try clear c8
    try clear c8b0
    try clear c8b1
    try clear hcz10_0
    try clear hcz10_1
    try clear hcz10_2
    try clear hcz10_3
    try clear hcz10_4
    try clear hcz10_5
    try clear hcz10_6
    try clear hcz10_7
    try clear hcz10_8
    try clear hcz5_0
    try clear hcz5_1
    try clear hcz5_2
    try clear hcz5_3
    try clear hcz5_4
    try clear hcz5_5
    try clear hcz5_6
    try clear hcz5_7
    try clear hcz5_8
    try clear hcz7_0
    try clear hcz7_1
    try clear hcz7_2
    try clear hcz7_3
    try clear hcz7_4
    try clear hcz7_5
    try clear hcz7_6
    try clear hcz7_7
    try clear hcz7_8
    try clear hcz9_0
    try clear hcz9_1
    try clear hcz9_2
    try clear hcz9_3
    try clear hcz9_4
    try clear hcz9_5
    try clear hcz9_6
    try clear hcz9_7
    try clear hcz9_8
    try clear hfz10_0
    try clear hfz10_1
    try clear hfz10_2
    try clear hfz10_3
    try clear hfz10_4
    try clear hfz10_5
    try clear hfz10_6
    try clear hfz10_7
    try clear hfz10_8
    try clear hfz5_0
    try clear hfz5_1
    try clear hfz5_2
    try clear hfz5_3
    try clear hfz5_4
    try clear hfz5_5
    try clear hfz5_6
    try clear hfz5_7
    try clear hfz5_8
    try clear hfz7_0
    try clear hfz7_1
    try clear hfz7_2
    try clear hfz7_3
    try clear hfz7_4
    try clear hfz7_5
    try clear hfz7_6
    try clear hfz7_7
    try clear hfz7_8
    try clear hfz9_0
    try clear hfz9_1
    try clear hfz9_2
    try clear hfz9_3
    try clear hfz9_4
    try clear hfz9_5
    try clear hfz9_6
    try clear hfz9_7
    try clear hfz9_8
    obtain ⟨kq, x22_1, rfl, HA, HJ1, BK121, HB⟩ := hcut
    cases kq with
    | zero => exact absurd HA.out (by simp [tegularef39_Valid.j0])
    | succ kj1 =>
      have H := HA.out
      clear HA
      simp only [tegularef39_Valid.j0] at H
      by_cases c11 : x22_1 = true
      · subst c11
        have H1 : (some false) = some r := by rw [if_pos rfl] at H; exact H
        clear H
        have H := H1
        clear H1
        obtain rfl := Option.some.inj H
        go_wp2
        go_ret
        exact ⟨by first | rfl | (simp [errW_none, errW_some] <;> rfl) | (simp [*, errW_none, errW_some] <;> rfl), by repeat (first | (with_reducible first | exact HB.out | apply below_alloc | apply pw_below_drewN | apply below_drew1 | refine below_set ?_ GE121.out) | exact HB.out)⟩
      · replace c11 := Bool.eq_false_iff.mpr c11
        subst c11
        have H1 : ((tegularef39_Name.f kj1 a0_4).bind fun t122 => (if a0_5.toList = ([] : List UInt8) then (tegularef39_Valid.j1 kj1 t122 ((l0_8.length : Int) == 0) a0_0 a0_1 a0_2 a0_3 a0_4 a0_5 a0_6 a0_7 l0_8) else (tegularef39_Valid.j1 kj1 t122 false a0_0 a0_1 a0_2 a0_3 a0_4 a0_5 a0_6 a0_7 l0_8))) = some r := by rw [if_neg (show ¬ (false = true) by decide)] at H; exact H
        clear H
        have H := H1
        clear H1
        replace H := Option.bind_eq_some_iff.mp H
        obtain ⟨t122, A120, H⟩ := H
        replace H : (if a0_5.toList = ([] : List UInt8) then (tegularef39_Valid.j1 kj1 t122 ((l0_8.length : Int) == 0) a0_0 a0_1 a0_2 a0_3 a0_4 a0_5 a0_6 a0_7 l0_8) else (tegularef39_Valid.j1 kj1 t122 false a0_0 a0_1 a0_2 a0_3 a0_4 a0_5 a0_6 a0_7 l0_8)) = some r := H
        have A12 := Aside0.mk A120
        clear A120
        have HC13 := Aside0.mk H
        clear H
        have hcz14_0 : wc.cell? ⟨gb121, 0, none⟩ = some (.int .i64 a0_0) := (blk_cell BK121.out 0).trans rfl
        have hcz14_1 : wc.cell? ⟨gb121, 1, none⟩ = some (.int .i64 a0_1) := (blk_cell BK121.out 1).trans rfl
        have hcz14_2 : wc.cell? ⟨gb121, 2, none⟩ = some (.int .i64 a0_2) := (blk_cell BK121.out 2).trans rfl
        have hcz14_3 : wc.cell? ⟨gb121, 3, none⟩ = some (.bool a0_3) := (blk_cell BK121.out 3).trans rfl
        have hcz14_4 : wc.cell? ⟨gb121, 4, none⟩ = some (.string a0_4) := (blk_cell BK121.out 4).trans rfl
        have hcz14_5 : wc.cell? ⟨gb121, 5, none⟩ = some (.string a0_5) := (blk_cell BK121.out 5).trans rfl
        have hcz14_6 : wc.cell? ⟨gb121, 6, none⟩ = some (.int .i64 a0_6) := (blk_cell BK121.out 6).trans rfl
        have hcz14_7 : wc.cell? ⟨gb121, 7, none⟩ = some (.int .i64 a0_7) := (blk_cell BK121.out 7).trans rfl
        have hcz14_8 : wc.cell? ⟨gb121, 8, none⟩ = some (.slice A0_8 l0_8.length c0_8) := (blk_cell BK121.out 8).trans rfl
        have hfz14_0 := blk_frozen BK121.out 0
        have hfz14_1 := blk_frozen BK121.out 1
        have hfz14_2 := blk_frozen BK121.out 2
        have hfz14_3 := blk_frozen BK121.out 3
        have hfz14_4 := blk_frozen BK121.out 4
        have hfz14_5 := blk_frozen BK121.out 5
        have hfz14_6 := blk_frozen BK121.out 6
        have hfz14_7 := blk_frozen BK121.out 7
        have hfz14_8 := blk_frozen BK121.out 8
        go_upto_region 4 with (first | ((with_reducible refine gate_callee (f := 22) rfl ?_); refine goesL_ (some 25) rfl rfl Tryd.func22 (by kernel_rfl) rfl #[.string a0_4] rfl (by (try simp only [List.map_toArray, List.map_cons, List.map_nil]); first | done | rfl | (simp only [List.length_drop, List.length_take]; rfl)) ?_; (with_reducible refine (tegularef39_Name.calls kj1 a0_4 t122 _ A12.out).mono ?_); rintro e w' ⟨rfl, ⟨nd, rfl⟩⟩; refine ⟨_, rfl, ?_⟩))
        (try simp only [Act.put, List.setIfInBounds_toArray, List.set_cons_zero, List.set_cons_succ])
        go_cut [4] (fun v4 wc => ∃ (kq : Nat) (x4_12 : Bool), v4 = .bool x4_12 ∧ Aside0 (tegularef39_Valid.j1 kq t122 x4_12 a0_0 a0_1 a0_2 a0_3 a0_4 a0_5 a0_6 a0_7 l0_8 = some r) ∧ Aside0 (kq ≤ kj1) ∧ Aside0 (wc.heap[gb121]? = some (.cells #[.int .i64 a0_0, .int .i64 a0_1, .int .i64 a0_2, .bool a0_3, .string a0_4, .string a0_5, .int .i64 a0_6, .int .i64 a0_7, (.slice A0_8 l0_8.length c0_8)] 24 (0, 0))) ∧ Aside0 (Below w.heap.size w wc))
        case first =>
          have H := HC13.out
          clear HC13
          by_cases c15 : a0_5.toList = ([] : List UInt8)
          · rw [if_pos c15] at H
            have c15b0 : (a0_5.toList == ([] : List UInt8)) = true := beq_iff_eq.mpr c15
            have c15b1 : (a0_5.toList != ([] : List UInt8)) = false := bne_eq_false_iff_eq.mpr c15
            clear c15
            (first | rw [c15b0] | (simp only [i64_w, i32_w]; rw [c15b0]) | skip)
            have H' := Aside0.mk H
            clear H
            have hcz16_0 : wc.cell? ⟨gb121, 0, none⟩ = some (.int .i64 a0_0) := (blk_cell BK121.out 0).trans rfl
            have hcz16_1 : wc.cell? ⟨gb121, 1, none⟩ = some (.int .i64 a0_1) := (blk_cell BK121.out 1).trans rfl
            have hcz16_2 : wc.cell? ⟨gb121, 2, none⟩ = some (.int .i64 a0_2) := (blk_cell BK121.out 2).trans rfl
            have hcz16_3 : wc.cell? ⟨gb121, 3, none⟩ = some (.bool a0_3) := (blk_cell BK121.out 3).trans rfl
            have hcz16_4 : wc.cell? ⟨gb121, 4, none⟩ = some (.string a0_4) := (blk_cell BK121.out 4).trans rfl
            have hcz16_5 : wc.cell? ⟨gb121, 5, none⟩ = some (.string a0_5) := (blk_cell BK121.out 5).trans rfl
            have hcz16_6 : wc.cell? ⟨gb121, 6, none⟩ = some (.int .i64 a0_6) := (blk_cell BK121.out 6).trans rfl
            have hcz16_7 : wc.cell? ⟨gb121, 7, none⟩ = some (.int .i64 a0_7) := (blk_cell BK121.out 7).trans rfl
            have hcz16_8 : wc.cell? ⟨gb121, 8, none⟩ = some (.slice A0_8 l0_8.length c0_8) := (blk_cell BK121.out 8).trans rfl
            have hfz16_0 := blk_frozen BK121.out 0
            have hfz16_1 := blk_frozen BK121.out 1
            have hfz16_2 := blk_frozen BK121.out 2
            have hfz16_3 := blk_frozen BK121.out 3
            have hfz16_4 := blk_frozen BK121.out 4
            have hfz16_5 := blk_frozen BK121.out 5
            have hfz16_6 := blk_frozen BK121.out 6
            have hfz16_7 := blk_frozen BK121.out 7
            have hfz16_8 := blk_frozen BK121.out 8
            go_wp2
            go_meet
            case rel => exact ⟨_, (((l0_8.length : Int) == 0)), (by first | rfl | (simp; done) | (simp [*]; done)), H', ⟨by have := HJ1.out; first | omega | exact Nat.le_refl _⟩, ⟨by (with_reducible repeat (first | refine blk_drewN ?_ _ | refine blk_drew ?_ | refine blk_alloc ?_ _)); exact BK121.out⟩, ⟨by repeat (first | (with_reducible first | exact HB.out | apply below_alloc | apply pw_below_drewN | apply below_drew1 | refine below_set ?_ GE121.out) | exact HB.out)⟩⟩
          · rw [if_neg c15] at H
            have c15b0 : (a0_5.toList == ([] : List UInt8)) = false := beq_eq_false_iff_ne.mpr c15
            have c15b1 : (a0_5.toList != ([] : List UInt8)) = true := bne_iff_ne.mpr c15
            (first | rw [c15b0] | (simp only [i64_w, i32_w]; rw [c15b0]) | skip)
            have H' := Aside0.mk H
            clear H
            have hcz17_0 : wc.cell? ⟨gb121, 0, none⟩ = some (.int .i64 a0_0) := (blk_cell BK121.out 0).trans rfl
            have hcz17_1 : wc.cell? ⟨gb121, 1, none⟩ = some (.int .i64 a0_1) := (blk_cell BK121.out 1).trans rfl
            have hcz17_2 : wc.cell? ⟨gb121, 2, none⟩ = some (.int .i64 a0_2) := (blk_cell BK121.out 2).trans rfl
            have hcz17_3 : wc.cell? ⟨gb121, 3, none⟩ = some (.bool a0_3) := (blk_cell BK121.out 3).trans rfl
            have hcz17_4 : wc.cell? ⟨gb121, 4, none⟩ = some (.string a0_4) := (blk_cell BK121.out 4).trans rfl
            have hcz17_5 : wc.cell? ⟨gb121, 5, none⟩ = some (.string a0_5) := (blk_cell BK121.out 5).trans rfl
            have hcz17_6 : wc.cell? ⟨gb121, 6, none⟩ = some (.int .i64 a0_6) := (blk_cell BK121.out 6).trans rfl
            have hcz17_7 : wc.cell? ⟨gb121, 7, none⟩ = some (.int .i64 a0_7) := (blk_cell BK121.out 7).trans rfl
            have hcz17_8 : wc.cell? ⟨gb121, 8, none⟩ = some (.slice A0_8 l0_8.length c0_8) := (blk_cell BK121.out 8).trans rfl
            have hfz17_0 := blk_frozen BK121.out 0
            have hfz17_1 := blk_frozen BK121.out 1
            have hfz17_2 := blk_frozen BK121.out 2
            have hfz17_3 := blk_frozen BK121.out 3
            have hfz17_4 := blk_frozen BK121.out 4
            have hfz17_5 := blk_frozen BK121.out 5
            have hfz17_6 := blk_frozen BK121.out 6
            have hfz17_7 := blk_frozen BK121.out 7
            have hfz17_8 := blk_frozen BK121.out 8
            go_wp2
            go_meet
            case rel => exact ⟨_, (false), (by first | rfl | (simp; done) | (simp [*]; done)), H', ⟨by have := HJ1.out; first | omega | exact Nat.le_refl _⟩, ⟨by (with_reducible repeat (first | refine blk_drewN ?_ _ | refine blk_drew ?_ | refine blk_alloc ?_ _)); exact BK121.out⟩, ⟨by repeat (first | (with_reducible first | exact HB.out | apply below_alloc | apply pw_below_drewN | apply below_drew1 | refine below_set ?_ GE121.out) | exact HB.out)⟩⟩
        case rest =>
          clear HC13
          try clear c1
          try clear c2
          try clear p2
          try clear c4
          try clear c4b0
          try clear c6
          try clear c6b0
          try clear c8
          try clear c8b0
          try clear c8b1
          try clear c11
          try clear c12
          try clear c15
          try clear c15b0
          try clear c15b1
          try clear hcz10_0
          try clear hcz10_1
          try clear hcz10_2
          try clear hcz10_3
          try clear hcz10_4
          try clear hcz10_5
          try clear hcz10_6
          try clear hcz10_7
          try clear hcz10_8
          try clear hcz14_0
          try clear hcz14_1
          try clear hcz14_2
          try clear hcz14_3
          try clear hcz14_4
          try clear hcz14_5
          try clear hcz14_6
          try clear hcz14_7
          try clear hcz14_8
          try clear hcz16_0
          try clear hcz16_1
          try clear hcz16_2
          try clear hcz16_3
          try clear hcz16_4
          try clear hcz16_5
          try clear hcz16_6
          try clear hcz16_7
          try clear hcz16_8
          try clear hcz17_0
          try clear hcz17_1
          try clear hcz17_2
          try clear hcz17_3
          try clear hcz17_4
          try clear hcz17_5
          try clear hcz17_6
          try clear hcz17_7
          try clear hcz17_8
          try clear hcz5_0
          try clear hcz5_1
          try clear hcz5_2
          try clear hcz5_3
          try clear hcz5_4
          try clear hcz5_5
          try clear hcz5_6
          try clear hcz5_7
          try clear hcz5_8
          try clear hcz7_0
          try clear hcz7_1
          try clear hcz7_2
          try clear hcz7_3
          try clear hcz7_4
          try clear hcz7_5
          try clear hcz7_6
          try clear hcz7_7
          try clear hcz7_8
          try clear hcz9_0
          try clear hcz9_1
          try clear hcz9_2
          try clear hcz9_3
          try clear hcz9_4
          try clear hcz9_5
          try clear hcz9_6
          try clear hcz9_7
          try clear hcz9_8
          try clear hfz10_0
          try clear hfz10_1
          try clear hfz10_2
          try clear hfz10_3
          try clear hfz10_4
          try clear hfz10_5
          try clear hfz10_6
          try clear hfz10_7
          try clear hfz10_8
          try clear hfz14_0
          try clear hfz14_1
          try clear hfz14_2
          try clear hfz14_3
          try clear hfz14_4
          try clear hfz14_5
          try clear hfz14_6
          try clear hfz14_7
          try clear hfz14_8
          try clear hfz16_0
          try clear hfz16_1
          try clear hfz16_2
          try clear hfz16_3
          try clear hfz16_4
          try clear hfz16_5
          try clear hfz16_6
          try clear hfz16_7
          try clear hfz16_8
          try clear hfz17_0
          try clear hfz17_1
          try clear hfz17_2
          try clear hfz17_3
          try clear hfz17_4
          try clear hfz17_5
          try clear hfz17_6
          try clear hfz17_7
          try clear hfz17_8
          try clear hfz5_0
          try clear hfz5_1
          try clear hfz5_2
          try clear hfz5_3
          try clear hfz5_4
          try clear hfz5_5
          try clear hfz5_6
          try clear hfz5_7
          try clear hfz5_8
          try clear hfz7_0
          try clear hfz7_1
          try clear hfz7_2
          try clear hfz7_3
          try clear hfz7_4
          try clear hfz7_5
          try clear hfz7_6
          try clear hfz7_7
          try clear hfz7_8
          try clear hfz9_0
          try clear hfz9_1
          try clear hfz9_2
          try clear hfz9_3
          try clear hfz9_4
          try clear hfz9_5
          try clear hfz9_6
          try clear hfz9_7
          try clear hfz9_8
          try clear p2
          obtain ⟨kq, x4_12, rfl, HA, HJ12, BK121, HB⟩ := hcut
          cases kq with
          | zero => exact absurd HA.out (by simp [tegularef39_Valid.j1])
          | succ kj12 =>
            have H := HA.out
            clear HA
            simp only [tegularef39_Valid.j1] at H
            by_cases c18 : a0_1 = 1
            · rw [if_pos c18] at H
              have c18b0 : (a0_1 == 1) = true := beq_iff_eq.mpr c18
              have c18b1 : (a0_1 != 1) = false := bne_eq_false_iff_eq.mpr c18
              clear c18
              by_cases c19 : t122 = true
              · subst c19
                have H1 : (if x4_12 = true then (if a0_3 = true then (some false) else ((tegularef39_within.f a0_6 a0_7).bind fun t123 => (if t123 = true then (some (decide (a0_7 ≤ 16))) else (some false)))) else (some false)) = some r := by rw [if_pos rfl] at H; exact H
                clear H
                have H := H1
                clear H1
                by_cases c20 : x4_12 = true
                · subst c20
                  have H1 : (if a0_3 = true then (some false) else ((tegularef39_within.f a0_6 a0_7).bind fun t123 => (if t123 = true then (some (decide (a0_7 ≤ 16))) else (some false)))) = some r := by rw [if_pos rfl] at H; exact H
                  clear H
                  have H := H1
                  clear H1
                  by_cases c21 : a0_3 = true
                  · subst c21
                    have H1 : (some false) = some r := by rw [if_pos rfl] at H; exact H
                    clear H
                    have H := H1
                    clear H1
                    obtain rfl := Option.some.inj H
                    have hcz22_0 : wc.cell? ⟨gb121, 0, none⟩ = some (.int .i64 a0_0) := (blk_cell BK121.out 0).trans rfl
                    have hcz22_1 : wc.cell? ⟨gb121, 1, none⟩ = some (.int .i64 a0_1) := (blk_cell BK121.out 1).trans rfl
                    have hcz22_2 : wc.cell? ⟨gb121, 2, none⟩ = some (.int .i64 a0_2) := (blk_cell BK121.out 2).trans rfl
                    have hcz22_3 : wc.cell? ⟨gb121, 3, none⟩ = some (.bool true) := (blk_cell BK121.out 3).trans rfl
                    have hcz22_4 : wc.cell? ⟨gb121, 4, none⟩ = some (.string a0_4) := (blk_cell BK121.out 4).trans rfl
                    have hcz22_5 : wc.cell? ⟨gb121, 5, none⟩ = some (.string a0_5) := (blk_cell BK121.out 5).trans rfl
                    have hcz22_6 : wc.cell? ⟨gb121, 6, none⟩ = some (.int .i64 a0_6) := (blk_cell BK121.out 6).trans rfl
                    have hcz22_7 : wc.cell? ⟨gb121, 7, none⟩ = some (.int .i64 a0_7) := (blk_cell BK121.out 7).trans rfl
                    have hcz22_8 : wc.cell? ⟨gb121, 8, none⟩ = some (.slice A0_8 l0_8.length c0_8) := (blk_cell BK121.out 8).trans rfl
                    have hfz22_0 := blk_frozen BK121.out 0
                    have hfz22_1 := blk_frozen BK121.out 1
                    have hfz22_2 := blk_frozen BK121.out 2
                    have hfz22_3 := blk_frozen BK121.out 3
                    have hfz22_4 := blk_frozen BK121.out 4
                    have hfz22_5 := blk_frozen BK121.out 5
                    have hfz22_6 := blk_frozen BK121.out 6
                    have hfz22_7 := blk_frozen BK121.out 7
                    have hfz22_8 := blk_frozen BK121.out 8
                    go_wp2
                    go_ret
                    exact ⟨by first | rfl | (simp [errW_none, errW_some] <;> rfl) | (simp [*, errW_none, errW_some] <;> rfl), by repeat (first | (with_reducible first | exact HB.out | apply below_alloc | apply pw_below_drewN | apply below_drew1 | refine below_set ?_ GE121.out) | exact HB.out)⟩
                  · replace c21 := Bool.eq_false_iff.mpr c21
                    subst c21
                    have H1 : ((tegularef39_within.f a0_6 a0_7).bind fun t123 => (if t123 = true then (some (decide (a0_7 ≤ 16))) else (some false))) = some r := by rw [if_neg (show ¬ (false = true) by decide)] at H; exact H
                    clear H
                    have H := H1
                    clear H1
                    replace H := Option.bind_eq_some_iff.mp H
                    obtain ⟨t123, A230, H⟩ := H
                    replace H : (if t123 = true then (some (decide (a0_7 ≤ 16))) else (some false)) = some r := H
                    have A23 := Aside0.mk A230
                    clear A230
                    by_cases c24 : t123 = true
                    · subst c24
                      have H1 : (some (decide (a0_7 ≤ 16))) = some r := by rw [if_pos rfl] at H; exact H
                      clear H
                      have H := H1
                      clear H1
                      obtain rfl := Option.some.inj H
                      have hcz25_0 : wc.cell? ⟨gb121, 0, none⟩ = some (.int .i64 a0_0) := (blk_cell BK121.out 0).trans rfl
                      have hcz25_1 : wc.cell? ⟨gb121, 1, none⟩ = some (.int .i64 a0_1) := (blk_cell BK121.out 1).trans rfl
                      have hcz25_2 : wc.cell? ⟨gb121, 2, none⟩ = some (.int .i64 a0_2) := (blk_cell BK121.out 2).trans rfl
                      have hcz25_3 : wc.cell? ⟨gb121, 3, none⟩ = some (.bool false) := (blk_cell BK121.out 3).trans rfl
                      have hcz25_4 : wc.cell? ⟨gb121, 4, none⟩ = some (.string a0_4) := (blk_cell BK121.out 4).trans rfl
                      have hcz25_5 : wc.cell? ⟨gb121, 5, none⟩ = some (.string a0_5) := (blk_cell BK121.out 5).trans rfl
                      have hcz25_6 : wc.cell? ⟨gb121, 6, none⟩ = some (.int .i64 a0_6) := (blk_cell BK121.out 6).trans rfl
                      have hcz25_7 : wc.cell? ⟨gb121, 7, none⟩ = some (.int .i64 a0_7) := (blk_cell BK121.out 7).trans rfl
                      have hcz25_8 : wc.cell? ⟨gb121, 8, none⟩ = some (.slice A0_8 l0_8.length c0_8) := (blk_cell BK121.out 8).trans rfl
                      have hfz25_0 := blk_frozen BK121.out 0
                      have hfz25_1 := blk_frozen BK121.out 1
                      have hfz25_2 := blk_frozen BK121.out 2
                      have hfz25_3 := blk_frozen BK121.out 3
                      have hfz25_4 := blk_frozen BK121.out 4
                      have hfz25_5 := blk_frozen BK121.out 5
                      have hfz25_6 := blk_frozen BK121.out 6
                      have hfz25_7 := blk_frozen BK121.out 7
                      have hfz25_8 := blk_frozen BK121.out 8
                      go_wp2_with (first | (go_at_call 23; (with_reducible refine (tegularef39_within.calls a0_6 a0_7 true _ A23.out).mono ?_); rintro e w' ⟨rfl, ⟨nd, rfl⟩⟩))
                      go_ret
                      exact ⟨by first | rfl | (simp [errW_none, errW_some] <;> rfl) | (simp [*, errW_none, errW_some] <;> rfl), by repeat (first | (with_reducible first | exact HB.out | apply below_alloc | apply pw_below_drewN | apply below_drew1 | refine below_set ?_ GE121.out) | exact HB.out)⟩
                    · replace c24 := Bool.eq_false_iff.mpr c24
                      subst c24
                      have H1 : (some false) = some r := by rw [if_neg (show ¬ (false = true) by decide)] at H; exact H
                      clear H
                      have H := H1
                      clear H1
                      obtain rfl := Option.some.inj H
                      have hcz26_0 : wc.cell? ⟨gb121, 0, none⟩ = some (.int .i64 a0_0) := (blk_cell BK121.out 0).trans rfl
                      have hcz26_1 : wc.cell? ⟨gb121, 1, none⟩ = some (.int .i64 a0_1) := (blk_cell BK121.out 1).trans rfl
                      have hcz26_2 : wc.cell? ⟨gb121, 2, none⟩ = some (.int .i64 a0_2) := (blk_cell BK121.out 2).trans rfl
                      have hcz26_3 : wc.cell? ⟨gb121, 3, none⟩ = some (.bool false) := (blk_cell BK121.out 3).trans rfl
                      have hcz26_4 : wc.cell? ⟨gb121, 4, none⟩ = some (.string a0_4) := (blk_cell BK121.out 4).trans rfl
                      have hcz26_5 : wc.cell? ⟨gb121, 5, none⟩ = some (.string a0_5) := (blk_cell BK121.out 5).trans rfl
                      have hcz26_6 : wc.cell? ⟨gb121, 6, none⟩ = some (.int .i64 a0_6) := (blk_cell BK121.out 6).trans rfl
                      have hcz26_7 : wc.cell? ⟨gb121, 7, none⟩ = some (.int .i64 a0_7) := (blk_cell BK121.out 7).trans rfl
                      have hcz26_8 : wc.cell? ⟨gb121, 8, none⟩ = some (.slice A0_8 l0_8.length c0_8) := (blk_cell BK121.out 8).trans rfl
                      have hfz26_0 := blk_frozen BK121.out 0
                      have hfz26_1 := blk_frozen BK121.out 1
                      have hfz26_2 := blk_frozen BK121.out 2
                      have hfz26_3 := blk_frozen BK121.out 3
                      have hfz26_4 := blk_frozen BK121.out 4
                      have hfz26_5 := blk_frozen BK121.out 5
                      have hfz26_6 := blk_frozen BK121.out 6
                      have hfz26_7 := blk_frozen BK121.out 7
                      have hfz26_8 := blk_frozen BK121.out 8
                      go_wp2_with (first | (go_at_call 23; (with_reducible refine (tegularef39_within.calls a0_6 a0_7 false _ A23.out).mono ?_); rintro e w' ⟨rfl, ⟨nd, rfl⟩⟩))
                      go_ret
                      exact ⟨by first | rfl | (simp [errW_none, errW_some] <;> rfl) | (simp [*, errW_none, errW_some] <;> rfl), by repeat (first | (with_reducible first | exact HB.out | apply below_alloc | apply pw_below_drewN | apply below_drew1 | refine below_set ?_ GE121.out) | exact HB.out)⟩
                · replace c20 := Bool.eq_false_iff.mpr c20
                  subst c20
                  have H1 : (some false) = some r := by rw [if_neg (show ¬ (false = true) by decide)] at H; exact H
                  clear H
                  have H := H1
                  clear H1
                  obtain rfl := Option.some.inj H
                  have hcz27_0 : wc.cell? ⟨gb121, 0, none⟩ = some (.int .i64 a0_0) := (blk_cell BK121.out 0).trans rfl
                  have hcz27_1 : wc.cell? ⟨gb121, 1, none⟩ = some (.int .i64 a0_1) := (blk_cell BK121.out 1).trans rfl
                  have hcz27_2 : wc.cell? ⟨gb121, 2, none⟩ = some (.int .i64 a0_2) := (blk_cell BK121.out 2).trans rfl
                  have hcz27_3 : wc.cell? ⟨gb121, 3, none⟩ = some (.bool a0_3) := (blk_cell BK121.out 3).trans rfl
                  have hcz27_4 : wc.cell? ⟨gb121, 4, none⟩ = some (.string a0_4) := (blk_cell BK121.out 4).trans rfl
                  have hcz27_5 : wc.cell? ⟨gb121, 5, none⟩ = some (.string a0_5) := (blk_cell BK121.out 5).trans rfl
                  have hcz27_6 : wc.cell? ⟨gb121, 6, none⟩ = some (.int .i64 a0_6) := (blk_cell BK121.out 6).trans rfl
                  have hcz27_7 : wc.cell? ⟨gb121, 7, none⟩ = some (.int .i64 a0_7) := (blk_cell BK121.out 7).trans rfl
                  have hcz27_8 : wc.cell? ⟨gb121, 8, none⟩ = some (.slice A0_8 l0_8.length c0_8) := (blk_cell BK121.out 8).trans rfl
                  have hfz27_0 := blk_frozen BK121.out 0
                  have hfz27_1 := blk_frozen BK121.out 1
                  have hfz27_2 := blk_frozen BK121.out 2
                  have hfz27_3 := blk_frozen BK121.out 3
                  have hfz27_4 := blk_frozen BK121.out 4
                  have hfz27_5 := blk_frozen BK121.out 5
                  have hfz27_6 := blk_frozen BK121.out 6
                  have hfz27_7 := blk_frozen BK121.out 7
                  have hfz27_8 := blk_frozen BK121.out 8
                  go_wp2
                  go_ret
                  exact ⟨by first | rfl | (simp [errW_none, errW_some] <;> rfl) | (simp [*, errW_none, errW_some] <;> rfl), by repeat (first | (with_reducible first | exact HB.out | apply below_alloc | apply pw_below_drewN | apply below_drew1 | refine below_set ?_ GE121.out) | exact HB.out)⟩
              · replace c19 := Bool.eq_false_iff.mpr c19
                subst c19
                have H1 : (some false) = some r := by rw [if_neg (show ¬ (false = true) by decide)] at H; exact H
                clear H
                have H := H1
                clear H1
                obtain rfl := Option.some.inj H
                have hcz28_0 : wc.cell? ⟨gb121, 0, none⟩ = some (.int .i64 a0_0) := (blk_cell BK121.out 0).trans rfl
                have hcz28_1 : wc.cell? ⟨gb121, 1, none⟩ = some (.int .i64 a0_1) := (blk_cell BK121.out 1).trans rfl
                have hcz28_2 : wc.cell? ⟨gb121, 2, none⟩ = some (.int .i64 a0_2) := (blk_cell BK121.out 2).trans rfl
                have hcz28_3 : wc.cell? ⟨gb121, 3, none⟩ = some (.bool a0_3) := (blk_cell BK121.out 3).trans rfl
                have hcz28_4 : wc.cell? ⟨gb121, 4, none⟩ = some (.string a0_4) := (blk_cell BK121.out 4).trans rfl
                have hcz28_5 : wc.cell? ⟨gb121, 5, none⟩ = some (.string a0_5) := (blk_cell BK121.out 5).trans rfl
                have hcz28_6 : wc.cell? ⟨gb121, 6, none⟩ = some (.int .i64 a0_6) := (blk_cell BK121.out 6).trans rfl
                have hcz28_7 : wc.cell? ⟨gb121, 7, none⟩ = some (.int .i64 a0_7) := (blk_cell BK121.out 7).trans rfl
                have hcz28_8 : wc.cell? ⟨gb121, 8, none⟩ = some (.slice A0_8 l0_8.length c0_8) := (blk_cell BK121.out 8).trans rfl
                have hfz28_0 := blk_frozen BK121.out 0
                have hfz28_1 := blk_frozen BK121.out 1
                have hfz28_2 := blk_frozen BK121.out 2
                have hfz28_3 := blk_frozen BK121.out 3
                have hfz28_4 := blk_frozen BK121.out 4
                have hfz28_5 := blk_frozen BK121.out 5
                have hfz28_6 := blk_frozen BK121.out 6
                have hfz28_7 := blk_frozen BK121.out 7
                have hfz28_8 := blk_frozen BK121.out 8
                go_wp2
                go_ret
                exact ⟨by first | rfl | (simp [errW_none, errW_some] <;> rfl) | (simp [*, errW_none, errW_some] <;> rfl), by repeat (first | (with_reducible first | exact HB.out | apply below_alloc | apply pw_below_drewN | apply below_drew1 | refine below_set ?_ GE121.out) | exact HB.out)⟩
            · rw [if_neg c18] at H
              have c18b0 : (a0_1 == 1) = false := beq_eq_false_iff_ne.mpr c18
              have c18b1 : (a0_1 != 1) = true := bne_iff_ne.mpr c18
              by_cases c29 : a0_1 = 2
              · rw [if_pos c29] at H
                have c29b0 : (a0_1 == 2) = true := beq_iff_eq.mpr c29
                have c29b1 : (a0_1 != 2) = false := bne_eq_false_iff_eq.mpr c29
                clear c29
                by_cases c30 : t122 = true
                · subst c30
                  have H1 : (if a0_5.toList = ([] : List UInt8) then ((tegularef39_within.f a0_6 a0_7).bind fun t124 => (if t124 = true then (if a0_7 ≤ 16 then (some ((l0_8.length : Int) == a0_7)) else (some false)) else (some false))) else (some false)) = some r := by rw [if_pos rfl] at H; exact H
                  clear H
                  have H := H1
                  clear H1
                  by_cases c31 : a0_5.toList = ([] : List UInt8)
                  · rw [if_pos c31] at H
                    have c31b0 : (a0_5.toList == ([] : List UInt8)) = true := beq_iff_eq.mpr c31
                    have c31b1 : (a0_5.toList != ([] : List UInt8)) = false := bne_eq_false_iff_eq.mpr c31
                    clear c31
                    replace H := Option.bind_eq_some_iff.mp H
                    obtain ⟨t124, A320, H⟩ := H
                    replace H : (if t124 = true then (if a0_7 ≤ 16 then (some ((l0_8.length : Int) == a0_7)) else (some false)) else (some false)) = some r := H
                    have A32 := Aside0.mk A320
                    clear A320
                    by_cases c33 : t124 = true
                    · subst c33
                      have H1 : (if a0_7 ≤ 16 then (some ((l0_8.length : Int) == a0_7)) else (some false)) = some r := by rw [if_pos rfl] at H; exact H
                      clear H
                      have H := H1
                      clear H1
                      by_cases c34 : a0_7 ≤ 16
                      · rw [if_pos c34] at H
                        have c34b0 : decide (a0_7 ≤ 16) = true := decide_eq_true c34
                        clear c34
                        obtain rfl := Option.some.inj H
                        have hcz35_0 : wc.cell? ⟨gb121, 0, none⟩ = some (.int .i64 a0_0) := (blk_cell BK121.out 0).trans rfl
                        have hcz35_1 : wc.cell? ⟨gb121, 1, none⟩ = some (.int .i64 a0_1) := (blk_cell BK121.out 1).trans rfl
                        have hcz35_2 : wc.cell? ⟨gb121, 2, none⟩ = some (.int .i64 a0_2) := (blk_cell BK121.out 2).trans rfl
                        have hcz35_3 : wc.cell? ⟨gb121, 3, none⟩ = some (.bool a0_3) := (blk_cell BK121.out 3).trans rfl
                        have hcz35_4 : wc.cell? ⟨gb121, 4, none⟩ = some (.string a0_4) := (blk_cell BK121.out 4).trans rfl
                        have hcz35_5 : wc.cell? ⟨gb121, 5, none⟩ = some (.string a0_5) := (blk_cell BK121.out 5).trans rfl
                        have hcz35_6 : wc.cell? ⟨gb121, 6, none⟩ = some (.int .i64 a0_6) := (blk_cell BK121.out 6).trans rfl
                        have hcz35_7 : wc.cell? ⟨gb121, 7, none⟩ = some (.int .i64 a0_7) := (blk_cell BK121.out 7).trans rfl
                        have hcz35_8 : wc.cell? ⟨gb121, 8, none⟩ = some (.slice A0_8 l0_8.length c0_8) := (blk_cell BK121.out 8).trans rfl
                        have hfz35_0 := blk_frozen BK121.out 0
                        have hfz35_1 := blk_frozen BK121.out 1
                        have hfz35_2 := blk_frozen BK121.out 2
                        have hfz35_3 := blk_frozen BK121.out 3
                        have hfz35_4 := blk_frozen BK121.out 4
                        have hfz35_5 := blk_frozen BK121.out 5
                        have hfz35_6 := blk_frozen BK121.out 6
                        have hfz35_7 := blk_frozen BK121.out 7
                        have hfz35_8 := blk_frozen BK121.out 8
                        go_wp2_with (first | (go_at_call 23; (with_reducible refine (tegularef39_within.calls a0_6 a0_7 true _ A32.out).mono ?_); rintro e w' ⟨rfl, ⟨nd, rfl⟩⟩))
                        go_ret
                        exact ⟨by first | rfl | (simp [errW_none, errW_some] <;> rfl) | (simp [*, errW_none, errW_some] <;> rfl), by repeat (first | (with_reducible first | exact HB.out | apply below_alloc | apply pw_below_drewN | apply below_drew1 | refine below_set ?_ GE121.out) | exact HB.out)⟩
                      · rw [if_neg c34] at H
                        have c34b0 : decide (a0_7 ≤ 16) = false := decide_eq_false c34
                        clear c34
                        obtain rfl := Option.some.inj H
                        have hcz36_0 : wc.cell? ⟨gb121, 0, none⟩ = some (.int .i64 a0_0) := (blk_cell BK121.out 0).trans rfl
                        have hcz36_1 : wc.cell? ⟨gb121, 1, none⟩ = some (.int .i64 a0_1) := (blk_cell BK121.out 1).trans rfl
                        have hcz36_2 : wc.cell? ⟨gb121, 2, none⟩ = some (.int .i64 a0_2) := (blk_cell BK121.out 2).trans rfl
                        have hcz36_3 : wc.cell? ⟨gb121, 3, none⟩ = some (.bool a0_3) := (blk_cell BK121.out 3).trans rfl
                        have hcz36_4 : wc.cell? ⟨gb121, 4, none⟩ = some (.string a0_4) := (blk_cell BK121.out 4).trans rfl
                        have hcz36_5 : wc.cell? ⟨gb121, 5, none⟩ = some (.string a0_5) := (blk_cell BK121.out 5).trans rfl
                        have hcz36_6 : wc.cell? ⟨gb121, 6, none⟩ = some (.int .i64 a0_6) := (blk_cell BK121.out 6).trans rfl
                        have hcz36_7 : wc.cell? ⟨gb121, 7, none⟩ = some (.int .i64 a0_7) := (blk_cell BK121.out 7).trans rfl
                        have hcz36_8 : wc.cell? ⟨gb121, 8, none⟩ = some (.slice A0_8 l0_8.length c0_8) := (blk_cell BK121.out 8).trans rfl
                        have hfz36_0 := blk_frozen BK121.out 0
                        have hfz36_1 := blk_frozen BK121.out 1
                        have hfz36_2 := blk_frozen BK121.out 2
                        have hfz36_3 := blk_frozen BK121.out 3
                        have hfz36_4 := blk_frozen BK121.out 4
                        have hfz36_5 := blk_frozen BK121.out 5
                        have hfz36_6 := blk_frozen BK121.out 6
                        have hfz36_7 := blk_frozen BK121.out 7
                        have hfz36_8 := blk_frozen BK121.out 8
                        go_wp2_with (first | (go_at_call 23; (with_reducible refine (tegularef39_within.calls a0_6 a0_7 true _ A32.out).mono ?_); rintro e w' ⟨rfl, ⟨nd, rfl⟩⟩))
                        go_ret
                        exact ⟨by first | rfl | (simp [errW_none, errW_some] <;> rfl) | (simp [*, errW_none, errW_some] <;> rfl), by repeat (first | (with_reducible first | exact HB.out | apply below_alloc | apply pw_below_drewN | apply below_drew1 | refine below_set ?_ GE121.out) | exact HB.out)⟩
                    · replace c33 := Bool.eq_false_iff.mpr c33
                      subst c33
                      have H1 : (some false) = some r := by rw [if_neg (show ¬ (false = true) by decide)] at H; exact H
                      clear H
                      have H := H1
                      clear H1
                      obtain rfl := Option.some.inj H
                      have hcz37_0 : wc.cell? ⟨gb121, 0, none⟩ = some (.int .i64 a0_0) := (blk_cell BK121.out 0).trans rfl
                      have hcz37_1 : wc.cell? ⟨gb121, 1, none⟩ = some (.int .i64 a0_1) := (blk_cell BK121.out 1).trans rfl
                      have hcz37_2 : wc.cell? ⟨gb121, 2, none⟩ = some (.int .i64 a0_2) := (blk_cell BK121.out 2).trans rfl
                      have hcz37_3 : wc.cell? ⟨gb121, 3, none⟩ = some (.bool a0_3) := (blk_cell BK121.out 3).trans rfl
                      have hcz37_4 : wc.cell? ⟨gb121, 4, none⟩ = some (.string a0_4) := (blk_cell BK121.out 4).trans rfl
                      have hcz37_5 : wc.cell? ⟨gb121, 5, none⟩ = some (.string a0_5) := (blk_cell BK121.out 5).trans rfl
                      have hcz37_6 : wc.cell? ⟨gb121, 6, none⟩ = some (.int .i64 a0_6) := (blk_cell BK121.out 6).trans rfl
                      have hcz37_7 : wc.cell? ⟨gb121, 7, none⟩ = some (.int .i64 a0_7) := (blk_cell BK121.out 7).trans rfl
                      have hcz37_8 : wc.cell? ⟨gb121, 8, none⟩ = some (.slice A0_8 l0_8.length c0_8) := (blk_cell BK121.out 8).trans rfl
                      have hfz37_0 := blk_frozen BK121.out 0
                      have hfz37_1 := blk_frozen BK121.out 1
                      have hfz37_2 := blk_frozen BK121.out 2
                      have hfz37_3 := blk_frozen BK121.out 3
                      have hfz37_4 := blk_frozen BK121.out 4
                      have hfz37_5 := blk_frozen BK121.out 5
                      have hfz37_6 := blk_frozen BK121.out 6
                      have hfz37_7 := blk_frozen BK121.out 7
                      have hfz37_8 := blk_frozen BK121.out 8
                      go_wp2_with (first | (go_at_call 23; (with_reducible refine (tegularef39_within.calls a0_6 a0_7 false _ A32.out).mono ?_); rintro e w' ⟨rfl, ⟨nd, rfl⟩⟩))
                      go_ret
                      exact ⟨by first | rfl | (simp [errW_none, errW_some] <;> rfl) | (simp [*, errW_none, errW_some] <;> rfl), by repeat (first | (with_reducible first | exact HB.out | apply below_alloc | apply pw_below_drewN | apply below_drew1 | refine below_set ?_ GE121.out) | exact HB.out)⟩
                  · rw [if_neg c31] at H
                    have c31b0 : (a0_5.toList == ([] : List UInt8)) = false := beq_eq_false_iff_ne.mpr c31
                    have c31b1 : (a0_5.toList != ([] : List UInt8)) = true := bne_iff_ne.mpr c31
                    obtain rfl := Option.some.inj H
                    have hcz38_0 : wc.cell? ⟨gb121, 0, none⟩ = some (.int .i64 a0_0) := (blk_cell BK121.out 0).trans rfl
                    have hcz38_1 : wc.cell? ⟨gb121, 1, none⟩ = some (.int .i64 a0_1) := (blk_cell BK121.out 1).trans rfl
                    have hcz38_2 : wc.cell? ⟨gb121, 2, none⟩ = some (.int .i64 a0_2) := (blk_cell BK121.out 2).trans rfl
                    have hcz38_3 : wc.cell? ⟨gb121, 3, none⟩ = some (.bool a0_3) := (blk_cell BK121.out 3).trans rfl
                    have hcz38_4 : wc.cell? ⟨gb121, 4, none⟩ = some (.string a0_4) := (blk_cell BK121.out 4).trans rfl
                    have hcz38_5 : wc.cell? ⟨gb121, 5, none⟩ = some (.string a0_5) := (blk_cell BK121.out 5).trans rfl
                    have hcz38_6 : wc.cell? ⟨gb121, 6, none⟩ = some (.int .i64 a0_6) := (blk_cell BK121.out 6).trans rfl
                    have hcz38_7 : wc.cell? ⟨gb121, 7, none⟩ = some (.int .i64 a0_7) := (blk_cell BK121.out 7).trans rfl
                    have hcz38_8 : wc.cell? ⟨gb121, 8, none⟩ = some (.slice A0_8 l0_8.length c0_8) := (blk_cell BK121.out 8).trans rfl
                    have hfz38_0 := blk_frozen BK121.out 0
                    have hfz38_1 := blk_frozen BK121.out 1
                    have hfz38_2 := blk_frozen BK121.out 2
                    have hfz38_3 := blk_frozen BK121.out 3
                    have hfz38_4 := blk_frozen BK121.out 4
                    have hfz38_5 := blk_frozen BK121.out 5
                    have hfz38_6 := blk_frozen BK121.out 6
                    have hfz38_7 := blk_frozen BK121.out 7
                    have hfz38_8 := blk_frozen BK121.out 8
                    go_wp2
                    go_ret
                    exact ⟨by first | rfl | (simp [errW_none, errW_some] <;> rfl) | (simp [*, errW_none, errW_some] <;> rfl), by repeat (first | (with_reducible first | exact HB.out | apply below_alloc | apply pw_below_drewN | apply below_drew1 | refine below_set ?_ GE121.out) | exact HB.out)⟩
                · replace c30 := Bool.eq_false_iff.mpr c30
                  subst c30
                  have H1 : (some false) = some r := by rw [if_neg (show ¬ (false = true) by decide)] at H; exact H
                  clear H
                  have H := H1
                  clear H1
                  obtain rfl := Option.some.inj H
                  have hcz39_0 : wc.cell? ⟨gb121, 0, none⟩ = some (.int .i64 a0_0) := (blk_cell BK121.out 0).trans rfl
                  have hcz39_1 : wc.cell? ⟨gb121, 1, none⟩ = some (.int .i64 a0_1) := (blk_cell BK121.out 1).trans rfl
                  have hcz39_2 : wc.cell? ⟨gb121, 2, none⟩ = some (.int .i64 a0_2) := (blk_cell BK121.out 2).trans rfl
                  have hcz39_3 : wc.cell? ⟨gb121, 3, none⟩ = some (.bool a0_3) := (blk_cell BK121.out 3).trans rfl
                  have hcz39_4 : wc.cell? ⟨gb121, 4, none⟩ = some (.string a0_4) := (blk_cell BK121.out 4).trans rfl
                  have hcz39_5 : wc.cell? ⟨gb121, 5, none⟩ = some (.string a0_5) := (blk_cell BK121.out 5).trans rfl
                  have hcz39_6 : wc.cell? ⟨gb121, 6, none⟩ = some (.int .i64 a0_6) := (blk_cell BK121.out 6).trans rfl
                  have hcz39_7 : wc.cell? ⟨gb121, 7, none⟩ = some (.int .i64 a0_7) := (blk_cell BK121.out 7).trans rfl
                  have hcz39_8 : wc.cell? ⟨gb121, 8, none⟩ = some (.slice A0_8 l0_8.length c0_8) := (blk_cell BK121.out 8).trans rfl
                  have hfz39_0 := blk_frozen BK121.out 0
                  have hfz39_1 := blk_frozen BK121.out 1
                  have hfz39_2 := blk_frozen BK121.out 2
                  have hfz39_3 := blk_frozen BK121.out 3
                  have hfz39_4 := blk_frozen BK121.out 4
                  have hfz39_5 := blk_frozen BK121.out 5
                  have hfz39_6 := blk_frozen BK121.out 6
                  have hfz39_7 := blk_frozen BK121.out 7
                  have hfz39_8 := blk_frozen BK121.out 8
                  go_wp2
                  go_ret
                  exact ⟨by first | rfl | (simp [errW_none, errW_some] <;> rfl) | (simp [*, errW_none, errW_some] <;> rfl), by repeat (first | (with_reducible first | exact HB.out | apply below_alloc | apply pw_below_drewN | apply below_drew1 | refine below_set ?_ GE121.out) | exact HB.out)⟩
              · rw [if_neg c29] at H
                have c29b0 : (a0_1 == 2) = false := beq_eq_false_iff_ne.mpr c29
                have c29b1 : (a0_1 != 2) = true := bne_iff_ne.mpr c29
                by_cases c40 : a0_1 = 3
                · rw [if_pos c40] at H
                  have c40b0 : (a0_1 == 3) = true := beq_iff_eq.mpr c40
                  have c40b1 : (a0_1 != 3) = false := bne_eq_false_iff_eq.mpr c40
                  clear c40
                  by_cases c41 : t122 = true
                  · subst c41
                    have H1 : (if x4_12 = true then ((tegularef39_within.f a0_6 a0_7).bind fun t125 => (some t125)) else (some false)) = some r := by rw [if_pos rfl] at H; exact H
                    clear H
                    have H := H1
                    clear H1
                    by_cases c42 : x4_12 = true
                    · subst c42
                      have H1 : ((tegularef39_within.f a0_6 a0_7).bind fun t125 => (some t125)) = some r := by rw [if_pos rfl] at H; exact H
                      clear H
                      have H := H1
                      clear H1
                      replace H := Option.bind_eq_some_iff.mp H
                      obtain ⟨t125, A430, H⟩ := H
                      replace H : (some t125) = some r := H
                      have A43 := Aside0.mk A430
                      clear A430
                      obtain rfl := Option.some.inj H
                      have hcz44_0 : wc.cell? ⟨gb121, 0, none⟩ = some (.int .i64 a0_0) := (blk_cell BK121.out 0).trans rfl
                      have hcz44_1 : wc.cell? ⟨gb121, 1, none⟩ = some (.int .i64 a0_1) := (blk_cell BK121.out 1).trans rfl
                      have hcz44_2 : wc.cell? ⟨gb121, 2, none⟩ = some (.int .i64 a0_2) := (blk_cell BK121.out 2).trans rfl
                      have hcz44_3 : wc.cell? ⟨gb121, 3, none⟩ = some (.bool a0_3) := (blk_cell BK121.out 3).trans rfl
                      have hcz44_4 : wc.cell? ⟨gb121, 4, none⟩ = some (.string a0_4) := (blk_cell BK121.out 4).trans rfl
                      have hcz44_5 : wc.cell? ⟨gb121, 5, none⟩ = some (.string a0_5) := (blk_cell BK121.out 5).trans rfl
                      have hcz44_6 : wc.cell? ⟨gb121, 6, none⟩ = some (.int .i64 a0_6) := (blk_cell BK121.out 6).trans rfl
                      have hcz44_7 : wc.cell? ⟨gb121, 7, none⟩ = some (.int .i64 a0_7) := (blk_cell BK121.out 7).trans rfl
                      have hcz44_8 : wc.cell? ⟨gb121, 8, none⟩ = some (.slice A0_8 l0_8.length c0_8) := (blk_cell BK121.out 8).trans rfl
                      have hfz44_0 := blk_frozen BK121.out 0
                      have hfz44_1 := blk_frozen BK121.out 1
                      have hfz44_2 := blk_frozen BK121.out 2
                      have hfz44_3 := blk_frozen BK121.out 3
                      have hfz44_4 := blk_frozen BK121.out 4
                      have hfz44_5 := blk_frozen BK121.out 5
                      have hfz44_6 := blk_frozen BK121.out 6
                      have hfz44_7 := blk_frozen BK121.out 7
                      have hfz44_8 := blk_frozen BK121.out 8
                      go_wp2_with (first | (go_at_call 23; (with_reducible refine (tegularef39_within.calls a0_6 a0_7 t125 _ A43.out).mono ?_); rintro e w' ⟨rfl, ⟨nd, rfl⟩⟩))
                      go_ret
                      exact ⟨by first | rfl | (simp [errW_none, errW_some] <;> rfl) | (simp [*, errW_none, errW_some] <;> rfl), by repeat (first | (with_reducible first | exact HB.out | apply below_alloc | apply pw_below_drewN | apply below_drew1 | refine below_set ?_ GE121.out) | exact HB.out)⟩
                    · replace c42 := Bool.eq_false_iff.mpr c42
                      subst c42
                      have H1 : (some false) = some r := by rw [if_neg (show ¬ (false = true) by decide)] at H; exact H
                      clear H
                      have H := H1
                      clear H1
                      obtain rfl := Option.some.inj H
                      have hcz45_0 : wc.cell? ⟨gb121, 0, none⟩ = some (.int .i64 a0_0) := (blk_cell BK121.out 0).trans rfl
                      have hcz45_1 : wc.cell? ⟨gb121, 1, none⟩ = some (.int .i64 a0_1) := (blk_cell BK121.out 1).trans rfl
                      have hcz45_2 : wc.cell? ⟨gb121, 2, none⟩ = some (.int .i64 a0_2) := (blk_cell BK121.out 2).trans rfl
                      have hcz45_3 : wc.cell? ⟨gb121, 3, none⟩ = some (.bool a0_3) := (blk_cell BK121.out 3).trans rfl
                      have hcz45_4 : wc.cell? ⟨gb121, 4, none⟩ = some (.string a0_4) := (blk_cell BK121.out 4).trans rfl
                      have hcz45_5 : wc.cell? ⟨gb121, 5, none⟩ = some (.string a0_5) := (blk_cell BK121.out 5).trans rfl
                      have hcz45_6 : wc.cell? ⟨gb121, 6, none⟩ = some (.int .i64 a0_6) := (blk_cell BK121.out 6).trans rfl
                      have hcz45_7 : wc.cell? ⟨gb121, 7, none⟩ = some (.int .i64 a0_7) := (blk_cell BK121.out 7).trans rfl
                      have hcz45_8 : wc.cell? ⟨gb121, 8, none⟩ = some (.slice A0_8 l0_8.length c0_8) := (blk_cell BK121.out 8).trans rfl
                      have hfz45_0 := blk_frozen BK121.out 0
                      have hfz45_1 := blk_frozen BK121.out 1
                      have hfz45_2 := blk_frozen BK121.out 2
                      have hfz45_3 := blk_frozen BK121.out 3
                      have hfz45_4 := blk_frozen BK121.out 4
                      have hfz45_5 := blk_frozen BK121.out 5
                      have hfz45_6 := blk_frozen BK121.out 6
                      have hfz45_7 := blk_frozen BK121.out 7
                      have hfz45_8 := blk_frozen BK121.out 8
                      go_wp2
                      go_ret
                      exact ⟨by first | rfl | (simp [errW_none, errW_some] <;> rfl) | (simp [*, errW_none, errW_some] <;> rfl), by repeat (first | (with_reducible first | exact HB.out | apply below_alloc | apply pw_below_drewN | apply below_drew1 | refine below_set ?_ GE121.out) | exact HB.out)⟩
                  · replace c41 := Bool.eq_false_iff.mpr c41
                    subst c41
                    have H1 : (some false) = some r := by rw [if_neg (show ¬ (false = true) by decide)] at H; exact H
                    clear H
                    have H := H1
                    clear H1
                    obtain rfl := Option.some.inj H
                    have hcz46_0 : wc.cell? ⟨gb121, 0, none⟩ = some (.int .i64 a0_0) := (blk_cell BK121.out 0).trans rfl
                    have hcz46_1 : wc.cell? ⟨gb121, 1, none⟩ = some (.int .i64 a0_1) := (blk_cell BK121.out 1).trans rfl
                    have hcz46_2 : wc.cell? ⟨gb121, 2, none⟩ = some (.int .i64 a0_2) := (blk_cell BK121.out 2).trans rfl
                    have hcz46_3 : wc.cell? ⟨gb121, 3, none⟩ = some (.bool a0_3) := (blk_cell BK121.out 3).trans rfl
                    have hcz46_4 : wc.cell? ⟨gb121, 4, none⟩ = some (.string a0_4) := (blk_cell BK121.out 4).trans rfl
                    have hcz46_5 : wc.cell? ⟨gb121, 5, none⟩ = some (.string a0_5) := (blk_cell BK121.out 5).trans rfl
                    have hcz46_6 : wc.cell? ⟨gb121, 6, none⟩ = some (.int .i64 a0_6) := (blk_cell BK121.out 6).trans rfl
                    have hcz46_7 : wc.cell? ⟨gb121, 7, none⟩ = some (.int .i64 a0_7) := (blk_cell BK121.out 7).trans rfl
                    have hcz46_8 : wc.cell? ⟨gb121, 8, none⟩ = some (.slice A0_8 l0_8.length c0_8) := (blk_cell BK121.out 8).trans rfl
                    have hfz46_0 := blk_frozen BK121.out 0
                    have hfz46_1 := blk_frozen BK121.out 1
                    have hfz46_2 := blk_frozen BK121.out 2
                    have hfz46_3 := blk_frozen BK121.out 3
                    have hfz46_4 := blk_frozen BK121.out 4
                    have hfz46_5 := blk_frozen BK121.out 5
                    have hfz46_6 := blk_frozen BK121.out 6
                    have hfz46_7 := blk_frozen BK121.out 7
                    have hfz46_8 := blk_frozen BK121.out 8
                    go_wp2
                    go_ret
                    exact ⟨by first | rfl | (simp [errW_none, errW_some] <;> rfl) | (simp [*, errW_none, errW_some] <;> rfl), by repeat (first | (with_reducible first | exact HB.out | apply below_alloc | apply pw_below_drewN | apply below_drew1 | refine below_set ?_ GE121.out) | exact HB.out)⟩
                · rw [if_neg c40] at H
                  have c40b0 : (a0_1 == 3) = false := beq_eq_false_iff_ne.mpr c40
                  have c40b1 : (a0_1 != 3) = true := bne_iff_ne.mpr c40
                  by_cases c47 : a0_1 = 4
                  · rw [if_pos c47] at H
                    have c47b0 : (a0_1 == 4) = true := beq_iff_eq.mpr c47
                    have c47b1 : (a0_1 != 4) = false := bne_eq_false_iff_eq.mpr c47
                    clear c47
                    by_cases c48 : a0_4.toList = ([] : List UInt8)
                    · rw [if_pos c48] at H
                      have c48b0 : (a0_4.toList == ([] : List UInt8)) = true := beq_iff_eq.mpr c48
                      have c48b1 : (a0_4.toList != ([] : List UInt8)) = false := bne_eq_false_iff_eq.mpr c48
                      clear c48
                      by_cases c49 : x4_12 = true
                      · subst c49
                        have H1 : (if a0_3 = true then (some false) else (if a0_6 = 0 then (some (a0_7 == 0)) else (some false))) = some r := by rw [if_pos rfl] at H; exact H
                        clear H
                        have H := H1
                        clear H1
                        by_cases c50 : a0_3 = true
                        · subst c50
                          have H1 : (some false) = some r := by rw [if_pos rfl] at H; exact H
                          clear H
                          have H := H1
                          clear H1
                          obtain rfl := Option.some.inj H
                          have hcz51_0 : wc.cell? ⟨gb121, 0, none⟩ = some (.int .i64 a0_0) := (blk_cell BK121.out 0).trans rfl
                          have hcz51_1 : wc.cell? ⟨gb121, 1, none⟩ = some (.int .i64 a0_1) := (blk_cell BK121.out 1).trans rfl
                          have hcz51_2 : wc.cell? ⟨gb121, 2, none⟩ = some (.int .i64 a0_2) := (blk_cell BK121.out 2).trans rfl
                          have hcz51_3 : wc.cell? ⟨gb121, 3, none⟩ = some (.bool true) := (blk_cell BK121.out 3).trans rfl
                          have hcz51_4 : wc.cell? ⟨gb121, 4, none⟩ = some (.string a0_4) := (blk_cell BK121.out 4).trans rfl
                          have hcz51_5 : wc.cell? ⟨gb121, 5, none⟩ = some (.string a0_5) := (blk_cell BK121.out 5).trans rfl
                          have hcz51_6 : wc.cell? ⟨gb121, 6, none⟩ = some (.int .i64 a0_6) := (blk_cell BK121.out 6).trans rfl
                          have hcz51_7 : wc.cell? ⟨gb121, 7, none⟩ = some (.int .i64 a0_7) := (blk_cell BK121.out 7).trans rfl
                          have hcz51_8 : wc.cell? ⟨gb121, 8, none⟩ = some (.slice A0_8 l0_8.length c0_8) := (blk_cell BK121.out 8).trans rfl
                          have hfz51_0 := blk_frozen BK121.out 0
                          have hfz51_1 := blk_frozen BK121.out 1
                          have hfz51_2 := blk_frozen BK121.out 2
                          have hfz51_3 := blk_frozen BK121.out 3
                          have hfz51_4 := blk_frozen BK121.out 4
                          have hfz51_5 := blk_frozen BK121.out 5
                          have hfz51_6 := blk_frozen BK121.out 6
                          have hfz51_7 := blk_frozen BK121.out 7
                          have hfz51_8 := blk_frozen BK121.out 8
                          go_wp2
                          go_ret
                          exact ⟨by first | rfl | (simp [errW_none, errW_some] <;> rfl) | (simp [*, errW_none, errW_some] <;> rfl), by repeat (first | (with_reducible first | exact HB.out | apply below_alloc | apply pw_below_drewN | apply below_drew1 | refine below_set ?_ GE121.out) | exact HB.out)⟩
                        · replace c50 := Bool.eq_false_iff.mpr c50
                          subst c50
                          have H1 : (if a0_6 = 0 then (some (a0_7 == 0)) else (some false)) = some r := by rw [if_neg (show ¬ (false = true) by decide)] at H; exact H
                          clear H
                          have H := H1
                          clear H1
                          by_cases c52 : a0_6 = 0
                          · rw [if_pos c52] at H
                            have c52b0 : (a0_6 == 0) = true := beq_iff_eq.mpr c52
                            have c52b1 : (a0_6 != 0) = false := bne_eq_false_iff_eq.mpr c52
                            clear c52
                            obtain rfl := Option.some.inj H
                            have hcz53_0 : wc.cell? ⟨gb121, 0, none⟩ = some (.int .i64 a0_0) := (blk_cell BK121.out 0).trans rfl
                            have hcz53_1 : wc.cell? ⟨gb121, 1, none⟩ = some (.int .i64 a0_1) := (blk_cell BK121.out 1).trans rfl
                            have hcz53_2 : wc.cell? ⟨gb121, 2, none⟩ = some (.int .i64 a0_2) := (blk_cell BK121.out 2).trans rfl
                            have hcz53_3 : wc.cell? ⟨gb121, 3, none⟩ = some (.bool false) := (blk_cell BK121.out 3).trans rfl
                            have hcz53_4 : wc.cell? ⟨gb121, 4, none⟩ = some (.string a0_4) := (blk_cell BK121.out 4).trans rfl
                            have hcz53_5 : wc.cell? ⟨gb121, 5, none⟩ = some (.string a0_5) := (blk_cell BK121.out 5).trans rfl
                            have hcz53_6 : wc.cell? ⟨gb121, 6, none⟩ = some (.int .i64 a0_6) := (blk_cell BK121.out 6).trans rfl
                            have hcz53_7 : wc.cell? ⟨gb121, 7, none⟩ = some (.int .i64 a0_7) := (blk_cell BK121.out 7).trans rfl
                            have hcz53_8 : wc.cell? ⟨gb121, 8, none⟩ = some (.slice A0_8 l0_8.length c0_8) := (blk_cell BK121.out 8).trans rfl
                            have hfz53_0 := blk_frozen BK121.out 0
                            have hfz53_1 := blk_frozen BK121.out 1
                            have hfz53_2 := blk_frozen BK121.out 2
                            have hfz53_3 := blk_frozen BK121.out 3
                            have hfz53_4 := blk_frozen BK121.out 4
                            have hfz53_5 := blk_frozen BK121.out 5
                            have hfz53_6 := blk_frozen BK121.out 6
                            have hfz53_7 := blk_frozen BK121.out 7
                            have hfz53_8 := blk_frozen BK121.out 8
                            go_wp2
                            go_ret
                            exact ⟨by first | rfl | (simp [errW_none, errW_some] <;> rfl) | (simp [*, errW_none, errW_some] <;> rfl), by repeat (first | (with_reducible first | exact HB.out | apply below_alloc | apply pw_below_drewN | apply below_drew1 | refine below_set ?_ GE121.out) | exact HB.out)⟩
                          · rw [if_neg c52] at H
                            have c52b0 : (a0_6 == 0) = false := beq_eq_false_iff_ne.mpr c52
                            have c52b1 : (a0_6 != 0) = true := bne_iff_ne.mpr c52
                            obtain rfl := Option.some.inj H
                            have hcz54_0 : wc.cell? ⟨gb121, 0, none⟩ = some (.int .i64 a0_0) := (blk_cell BK121.out 0).trans rfl
                            have hcz54_1 : wc.cell? ⟨gb121, 1, none⟩ = some (.int .i64 a0_1) := (blk_cell BK121.out 1).trans rfl
                            have hcz54_2 : wc.cell? ⟨gb121, 2, none⟩ = some (.int .i64 a0_2) := (blk_cell BK121.out 2).trans rfl
                            have hcz54_3 : wc.cell? ⟨gb121, 3, none⟩ = some (.bool false) := (blk_cell BK121.out 3).trans rfl
                            have hcz54_4 : wc.cell? ⟨gb121, 4, none⟩ = some (.string a0_4) := (blk_cell BK121.out 4).trans rfl
                            have hcz54_5 : wc.cell? ⟨gb121, 5, none⟩ = some (.string a0_5) := (blk_cell BK121.out 5).trans rfl
                            have hcz54_6 : wc.cell? ⟨gb121, 6, none⟩ = some (.int .i64 a0_6) := (blk_cell BK121.out 6).trans rfl
                            have hcz54_7 : wc.cell? ⟨gb121, 7, none⟩ = some (.int .i64 a0_7) := (blk_cell BK121.out 7).trans rfl
                            have hcz54_8 : wc.cell? ⟨gb121, 8, none⟩ = some (.slice A0_8 l0_8.length c0_8) := (blk_cell BK121.out 8).trans rfl
                            have hfz54_0 := blk_frozen BK121.out 0
                            have hfz54_1 := blk_frozen BK121.out 1
                            have hfz54_2 := blk_frozen BK121.out 2
                            have hfz54_3 := blk_frozen BK121.out 3
                            have hfz54_4 := blk_frozen BK121.out 4
                            have hfz54_5 := blk_frozen BK121.out 5
                            have hfz54_6 := blk_frozen BK121.out 6
                            have hfz54_7 := blk_frozen BK121.out 7
                            have hfz54_8 := blk_frozen BK121.out 8
                            go_wp2
                            go_ret
                            exact ⟨by first | rfl | (simp [errW_none, errW_some] <;> rfl) | (simp [*, errW_none, errW_some] <;> rfl), by repeat (first | (with_reducible first | exact HB.out | apply below_alloc | apply pw_below_drewN | apply below_drew1 | refine below_set ?_ GE121.out) | exact HB.out)⟩
                      · replace c49 := Bool.eq_false_iff.mpr c49
                        subst c49
                        have H1 : (some false) = some r := by rw [if_neg (show ¬ (false = true) by decide)] at H; exact H
                        clear H
                        have H := H1
                        clear H1
                        obtain rfl := Option.some.inj H
                        have hcz55_0 : wc.cell? ⟨gb121, 0, none⟩ = some (.int .i64 a0_0) := (blk_cell BK121.out 0).trans rfl
                        have hcz55_1 : wc.cell? ⟨gb121, 1, none⟩ = some (.int .i64 a0_1) := (blk_cell BK121.out 1).trans rfl
                        have hcz55_2 : wc.cell? ⟨gb121, 2, none⟩ = some (.int .i64 a0_2) := (blk_cell BK121.out 2).trans rfl
                        have hcz55_3 : wc.cell? ⟨gb121, 3, none⟩ = some (.bool a0_3) := (blk_cell BK121.out 3).trans rfl
                        have hcz55_4 : wc.cell? ⟨gb121, 4, none⟩ = some (.string a0_4) := (blk_cell BK121.out 4).trans rfl
                        have hcz55_5 : wc.cell? ⟨gb121, 5, none⟩ = some (.string a0_5) := (blk_cell BK121.out 5).trans rfl
                        have hcz55_6 : wc.cell? ⟨gb121, 6, none⟩ = some (.int .i64 a0_6) := (blk_cell BK121.out 6).trans rfl
                        have hcz55_7 : wc.cell? ⟨gb121, 7, none⟩ = some (.int .i64 a0_7) := (blk_cell BK121.out 7).trans rfl
                        have hcz55_8 : wc.cell? ⟨gb121, 8, none⟩ = some (.slice A0_8 l0_8.length c0_8) := (blk_cell BK121.out 8).trans rfl
                        have hfz55_0 := blk_frozen BK121.out 0
                        have hfz55_1 := blk_frozen BK121.out 1
                        have hfz55_2 := blk_frozen BK121.out 2
                        have hfz55_3 := blk_frozen BK121.out 3
                        have hfz55_4 := blk_frozen BK121.out 4
                        have hfz55_5 := blk_frozen BK121.out 5
                        have hfz55_6 := blk_frozen BK121.out 6
                        have hfz55_7 := blk_frozen BK121.out 7
                        have hfz55_8 := blk_frozen BK121.out 8
                        go_wp2
                        go_ret
                        exact ⟨by first | rfl | (simp [errW_none, errW_some] <;> rfl) | (simp [*, errW_none, errW_some] <;> rfl), by repeat (first | (with_reducible first | exact HB.out | apply below_alloc | apply pw_below_drewN | apply below_drew1 | refine below_set ?_ GE121.out) | exact HB.out)⟩
                    · rw [if_neg c48] at H
                      have c48b0 : (a0_4.toList == ([] : List UInt8)) = false := beq_eq_false_iff_ne.mpr c48
                      have c48b1 : (a0_4.toList != ([] : List UInt8)) = true := bne_iff_ne.mpr c48
                      obtain rfl := Option.some.inj H
                      have hcz56_0 : wc.cell? ⟨gb121, 0, none⟩ = some (.int .i64 a0_0) := (blk_cell BK121.out 0).trans rfl
                      have hcz56_1 : wc.cell? ⟨gb121, 1, none⟩ = some (.int .i64 a0_1) := (blk_cell BK121.out 1).trans rfl
                      have hcz56_2 : wc.cell? ⟨gb121, 2, none⟩ = some (.int .i64 a0_2) := (blk_cell BK121.out 2).trans rfl
                      have hcz56_3 : wc.cell? ⟨gb121, 3, none⟩ = some (.bool a0_3) := (blk_cell BK121.out 3).trans rfl
                      have hcz56_4 : wc.cell? ⟨gb121, 4, none⟩ = some (.string a0_4) := (blk_cell BK121.out 4).trans rfl
                      have hcz56_5 : wc.cell? ⟨gb121, 5, none⟩ = some (.string a0_5) := (blk_cell BK121.out 5).trans rfl
                      have hcz56_6 : wc.cell? ⟨gb121, 6, none⟩ = some (.int .i64 a0_6) := (blk_cell BK121.out 6).trans rfl
                      have hcz56_7 : wc.cell? ⟨gb121, 7, none⟩ = some (.int .i64 a0_7) := (blk_cell BK121.out 7).trans rfl
                      have hcz56_8 : wc.cell? ⟨gb121, 8, none⟩ = some (.slice A0_8 l0_8.length c0_8) := (blk_cell BK121.out 8).trans rfl
                      have hfz56_0 := blk_frozen BK121.out 0
                      have hfz56_1 := blk_frozen BK121.out 1
                      have hfz56_2 := blk_frozen BK121.out 2
                      have hfz56_3 := blk_frozen BK121.out 3
                      have hfz56_4 := blk_frozen BK121.out 4
                      have hfz56_5 := blk_frozen BK121.out 5
                      have hfz56_6 := blk_frozen BK121.out 6
                      have hfz56_7 := blk_frozen BK121.out 7
                      have hfz56_8 := blk_frozen BK121.out 8
                      go_wp2
                      go_ret
                      exact ⟨by first | rfl | (simp [errW_none, errW_some] <;> rfl) | (simp [*, errW_none, errW_some] <;> rfl), by repeat (first | (with_reducible first | exact HB.out | apply below_alloc | apply pw_below_drewN | apply below_drew1 | refine below_set ?_ GE121.out) | exact HB.out)⟩
                  · rw [if_neg c47] at H
                    have c47b0 : (a0_1 == 4) = false := beq_eq_false_iff_ne.mpr c47
                    have c47b1 : (a0_1 != 4) = true := bne_iff_ne.mpr c47
                    by_cases c57 : a0_1 = 5
                    · rw [if_pos c57] at H
                      have c57b0 : (a0_1 == 5) = true := beq_iff_eq.mpr c57
                      have c57b1 : (a0_1 != 5) = false := bne_eq_false_iff_eq.mpr c57
                      clear c57
                      by_cases c58 : t122 = true
                      · subst c58
                        have H1 : (if x4_12 = true then (if a0_3 = true then (some false) else (if a0_7 ≥ 1 then (if a0_7 ≤ 65536 then (if a0_6 ≥ 0 then (some (decide (a0_6 ≤ a0_7))) else (some false)) else (some false)) else (some false))) else (some false)) = some r := by rw [if_pos rfl] at H; exact H
                        clear H
                        have H := H1
                        clear H1
                        by_cases c59 : x4_12 = true
                        · subst c59
                          have H1 : (if a0_3 = true then (some false) else (if a0_7 ≥ 1 then (if a0_7 ≤ 65536 then (if a0_6 ≥ 0 then (some (decide (a0_6 ≤ a0_7))) else (some false)) else (some false)) else (some false))) = some r := by rw [if_pos rfl] at H; exact H
                          clear H
                          have H := H1
                          clear H1
                          by_cases c60 : a0_3 = true
                          · subst c60
                            have H1 : (some false) = some r := by rw [if_pos rfl] at H; exact H
                            clear H
                            have H := H1
                            clear H1
                            obtain rfl := Option.some.inj H
                            have hcz61_0 : wc.cell? ⟨gb121, 0, none⟩ = some (.int .i64 a0_0) := (blk_cell BK121.out 0).trans rfl
                            have hcz61_1 : wc.cell? ⟨gb121, 1, none⟩ = some (.int .i64 a0_1) := (blk_cell BK121.out 1).trans rfl
                            have hcz61_2 : wc.cell? ⟨gb121, 2, none⟩ = some (.int .i64 a0_2) := (blk_cell BK121.out 2).trans rfl
                            have hcz61_3 : wc.cell? ⟨gb121, 3, none⟩ = some (.bool true) := (blk_cell BK121.out 3).trans rfl
                            have hcz61_4 : wc.cell? ⟨gb121, 4, none⟩ = some (.string a0_4) := (blk_cell BK121.out 4).trans rfl
                            have hcz61_5 : wc.cell? ⟨gb121, 5, none⟩ = some (.string a0_5) := (blk_cell BK121.out 5).trans rfl
                            have hcz61_6 : wc.cell? ⟨gb121, 6, none⟩ = some (.int .i64 a0_6) := (blk_cell BK121.out 6).trans rfl
                            have hcz61_7 : wc.cell? ⟨gb121, 7, none⟩ = some (.int .i64 a0_7) := (blk_cell BK121.out 7).trans rfl
                            have hcz61_8 : wc.cell? ⟨gb121, 8, none⟩ = some (.slice A0_8 l0_8.length c0_8) := (blk_cell BK121.out 8).trans rfl
                            have hfz61_0 := blk_frozen BK121.out 0
                            have hfz61_1 := blk_frozen BK121.out 1
                            have hfz61_2 := blk_frozen BK121.out 2
                            have hfz61_3 := blk_frozen BK121.out 3
                            have hfz61_4 := blk_frozen BK121.out 4
                            have hfz61_5 := blk_frozen BK121.out 5
                            have hfz61_6 := blk_frozen BK121.out 6
                            have hfz61_7 := blk_frozen BK121.out 7
                            have hfz61_8 := blk_frozen BK121.out 8
                            go_wp2
                            go_ret
                            exact ⟨by first | rfl | (simp [errW_none, errW_some] <;> rfl) | (simp [*, errW_none, errW_some] <;> rfl), by repeat (first | (with_reducible first | exact HB.out | apply below_alloc | apply pw_below_drewN | apply below_drew1 | refine below_set ?_ GE121.out) | exact HB.out)⟩
                          · replace c60 := Bool.eq_false_iff.mpr c60
                            subst c60
                            have H1 : (if a0_7 ≥ 1 then (if a0_7 ≤ 65536 then (if a0_6 ≥ 0 then (some (decide (a0_6 ≤ a0_7))) else (some false)) else (some false)) else (some false)) = some r := by rw [if_neg (show ¬ (false = true) by decide)] at H; exact H
                            clear H
                            have H := H1
                            clear H1
                            by_cases c62 : a0_7 ≥ 1
                            · rw [if_pos c62] at H
                              have c62b0 : decide (1 ≤ a0_7) = true := decide_eq_true c62
                              clear c62
                              by_cases c63 : a0_7 ≤ 65536
                              · rw [if_pos c63] at H
                                have c63b0 : decide (a0_7 ≤ 65536) = true := decide_eq_true c63
                                clear c63
                                by_cases c64 : a0_6 ≥ 0
                                · rw [if_pos c64] at H
                                  have c64b0 : decide (0 ≤ a0_6) = true := decide_eq_true c64
                                  clear c64
                                  obtain rfl := Option.some.inj H
                                  have hcz65_0 : wc.cell? ⟨gb121, 0, none⟩ = some (.int .i64 a0_0) := (blk_cell BK121.out 0).trans rfl
                                  have hcz65_1 : wc.cell? ⟨gb121, 1, none⟩ = some (.int .i64 a0_1) := (blk_cell BK121.out 1).trans rfl
                                  have hcz65_2 : wc.cell? ⟨gb121, 2, none⟩ = some (.int .i64 a0_2) := (blk_cell BK121.out 2).trans rfl
                                  have hcz65_3 : wc.cell? ⟨gb121, 3, none⟩ = some (.bool false) := (blk_cell BK121.out 3).trans rfl
                                  have hcz65_4 : wc.cell? ⟨gb121, 4, none⟩ = some (.string a0_4) := (blk_cell BK121.out 4).trans rfl
                                  have hcz65_5 : wc.cell? ⟨gb121, 5, none⟩ = some (.string a0_5) := (blk_cell BK121.out 5).trans rfl
                                  have hcz65_6 : wc.cell? ⟨gb121, 6, none⟩ = some (.int .i64 a0_6) := (blk_cell BK121.out 6).trans rfl
                                  have hcz65_7 : wc.cell? ⟨gb121, 7, none⟩ = some (.int .i64 a0_7) := (blk_cell BK121.out 7).trans rfl
                                  have hcz65_8 : wc.cell? ⟨gb121, 8, none⟩ = some (.slice A0_8 l0_8.length c0_8) := (blk_cell BK121.out 8).trans rfl
                                  have hfz65_0 := blk_frozen BK121.out 0
                                  have hfz65_1 := blk_frozen BK121.out 1
                                  have hfz65_2 := blk_frozen BK121.out 2
                                  have hfz65_3 := blk_frozen BK121.out 3
                                  have hfz65_4 := blk_frozen BK121.out 4
                                  have hfz65_5 := blk_frozen BK121.out 5
                                  have hfz65_6 := blk_frozen BK121.out 6
                                  have hfz65_7 := blk_frozen BK121.out 7
                                  have hfz65_8 := blk_frozen BK121.out 8
                                  go_wp2
                                  go_ret
                                  exact ⟨by first | rfl | (simp [errW_none, errW_some] <;> rfl) | (simp [*, errW_none, errW_some] <;> rfl), by repeat (first | (with_reducible first | exact HB.out | apply below_alloc | apply pw_below_drewN | apply below_drew1 | refine below_set ?_ GE121.out) | exact HB.out)⟩
                                · rw [if_neg c64] at H
                                  have c64b0 : decide (0 ≤ a0_6) = false := decide_eq_false c64
                                  clear c64
                                  obtain rfl := Option.some.inj H
                                  have hcz66_0 : wc.cell? ⟨gb121, 0, none⟩ = some (.int .i64 a0_0) := (blk_cell BK121.out 0).trans rfl
                                  have hcz66_1 : wc.cell? ⟨gb121, 1, none⟩ = some (.int .i64 a0_1) := (blk_cell BK121.out 1).trans rfl
                                  have hcz66_2 : wc.cell? ⟨gb121, 2, none⟩ = some (.int .i64 a0_2) := (blk_cell BK121.out 2).trans rfl
                                  have hcz66_3 : wc.cell? ⟨gb121, 3, none⟩ = some (.bool false) := (blk_cell BK121.out 3).trans rfl
                                  have hcz66_4 : wc.cell? ⟨gb121, 4, none⟩ = some (.string a0_4) := (blk_cell BK121.out 4).trans rfl
                                  have hcz66_5 : wc.cell? ⟨gb121, 5, none⟩ = some (.string a0_5) := (blk_cell BK121.out 5).trans rfl
                                  have hcz66_6 : wc.cell? ⟨gb121, 6, none⟩ = some (.int .i64 a0_6) := (blk_cell BK121.out 6).trans rfl
                                  have hcz66_7 : wc.cell? ⟨gb121, 7, none⟩ = some (.int .i64 a0_7) := (blk_cell BK121.out 7).trans rfl
                                  have hcz66_8 : wc.cell? ⟨gb121, 8, none⟩ = some (.slice A0_8 l0_8.length c0_8) := (blk_cell BK121.out 8).trans rfl
                                  have hfz66_0 := blk_frozen BK121.out 0
                                  have hfz66_1 := blk_frozen BK121.out 1
                                  have hfz66_2 := blk_frozen BK121.out 2
                                  have hfz66_3 := blk_frozen BK121.out 3
                                  have hfz66_4 := blk_frozen BK121.out 4
                                  have hfz66_5 := blk_frozen BK121.out 5
                                  have hfz66_6 := blk_frozen BK121.out 6
                                  have hfz66_7 := blk_frozen BK121.out 7
                                  have hfz66_8 := blk_frozen BK121.out 8
                                  go_wp2
                                  go_ret
                                  exact ⟨by first | rfl | (simp [errW_none, errW_some] <;> rfl) | (simp [*, errW_none, errW_some] <;> rfl), by repeat (first | (with_reducible first | exact HB.out | apply below_alloc | apply pw_below_drewN | apply below_drew1 | refine below_set ?_ GE121.out) | exact HB.out)⟩
                              · rw [if_neg c63] at H
                                have c63b0 : decide (a0_7 ≤ 65536) = false := decide_eq_false c63
                                clear c63
                                obtain rfl := Option.some.inj H
                                have hcz67_0 : wc.cell? ⟨gb121, 0, none⟩ = some (.int .i64 a0_0) := (blk_cell BK121.out 0).trans rfl
                                have hcz67_1 : wc.cell? ⟨gb121, 1, none⟩ = some (.int .i64 a0_1) := (blk_cell BK121.out 1).trans rfl
                                have hcz67_2 : wc.cell? ⟨gb121, 2, none⟩ = some (.int .i64 a0_2) := (blk_cell BK121.out 2).trans rfl
                                have hcz67_3 : wc.cell? ⟨gb121, 3, none⟩ = some (.bool false) := (blk_cell BK121.out 3).trans rfl
                                have hcz67_4 : wc.cell? ⟨gb121, 4, none⟩ = some (.string a0_4) := (blk_cell BK121.out 4).trans rfl
                                have hcz67_5 : wc.cell? ⟨gb121, 5, none⟩ = some (.string a0_5) := (blk_cell BK121.out 5).trans rfl
                                have hcz67_6 : wc.cell? ⟨gb121, 6, none⟩ = some (.int .i64 a0_6) := (blk_cell BK121.out 6).trans rfl
                                have hcz67_7 : wc.cell? ⟨gb121, 7, none⟩ = some (.int .i64 a0_7) := (blk_cell BK121.out 7).trans rfl
                                have hcz67_8 : wc.cell? ⟨gb121, 8, none⟩ = some (.slice A0_8 l0_8.length c0_8) := (blk_cell BK121.out 8).trans rfl
                                have hfz67_0 := blk_frozen BK121.out 0
                                have hfz67_1 := blk_frozen BK121.out 1
                                have hfz67_2 := blk_frozen BK121.out 2
                                have hfz67_3 := blk_frozen BK121.out 3
                                have hfz67_4 := blk_frozen BK121.out 4
                                have hfz67_5 := blk_frozen BK121.out 5
                                have hfz67_6 := blk_frozen BK121.out 6
                                have hfz67_7 := blk_frozen BK121.out 7
                                have hfz67_8 := blk_frozen BK121.out 8
                                go_wp2
                                go_ret
                                exact ⟨by first | rfl | (simp [errW_none, errW_some] <;> rfl) | (simp [*, errW_none, errW_some] <;> rfl), by repeat (first | (with_reducible first | exact HB.out | apply below_alloc | apply pw_below_drewN | apply below_drew1 | refine below_set ?_ GE121.out) | exact HB.out)⟩
                            · rw [if_neg c62] at H
                              have c62b0 : decide (1 ≤ a0_7) = false := decide_eq_false c62
                              clear c62
                              obtain rfl := Option.some.inj H
                              have hcz68_0 : wc.cell? ⟨gb121, 0, none⟩ = some (.int .i64 a0_0) := (blk_cell BK121.out 0).trans rfl
                              have hcz68_1 : wc.cell? ⟨gb121, 1, none⟩ = some (.int .i64 a0_1) := (blk_cell BK121.out 1).trans rfl
                              have hcz68_2 : wc.cell? ⟨gb121, 2, none⟩ = some (.int .i64 a0_2) := (blk_cell BK121.out 2).trans rfl
                              have hcz68_3 : wc.cell? ⟨gb121, 3, none⟩ = some (.bool false) := (blk_cell BK121.out 3).trans rfl
                              have hcz68_4 : wc.cell? ⟨gb121, 4, none⟩ = some (.string a0_4) := (blk_cell BK121.out 4).trans rfl
                              have hcz68_5 : wc.cell? ⟨gb121, 5, none⟩ = some (.string a0_5) := (blk_cell BK121.out 5).trans rfl
                              have hcz68_6 : wc.cell? ⟨gb121, 6, none⟩ = some (.int .i64 a0_6) := (blk_cell BK121.out 6).trans rfl
                              have hcz68_7 : wc.cell? ⟨gb121, 7, none⟩ = some (.int .i64 a0_7) := (blk_cell BK121.out 7).trans rfl
                              have hcz68_8 : wc.cell? ⟨gb121, 8, none⟩ = some (.slice A0_8 l0_8.length c0_8) := (blk_cell BK121.out 8).trans rfl
                              have hfz68_0 := blk_frozen BK121.out 0
                              have hfz68_1 := blk_frozen BK121.out 1
                              have hfz68_2 := blk_frozen BK121.out 2
                              have hfz68_3 := blk_frozen BK121.out 3
                              have hfz68_4 := blk_frozen BK121.out 4
                              have hfz68_5 := blk_frozen BK121.out 5
                              have hfz68_6 := blk_frozen BK121.out 6
                              have hfz68_7 := blk_frozen BK121.out 7
                              have hfz68_8 := blk_frozen BK121.out 8
                              go_wp2
                              go_ret
                              exact ⟨by first | rfl | (simp [errW_none, errW_some] <;> rfl) | (simp [*, errW_none, errW_some] <;> rfl), by repeat (first | (with_reducible first | exact HB.out | apply below_alloc | apply pw_below_drewN | apply below_drew1 | refine below_set ?_ GE121.out) | exact HB.out)⟩
                        · replace c59 := Bool.eq_false_iff.mpr c59
                          subst c59
                          have H1 : (some false) = some r := by rw [if_neg (show ¬ (false = true) by decide)] at H; exact H
                          clear H
                          have H := H1
                          clear H1
                          obtain rfl := Option.some.inj H
                          have hcz69_0 : wc.cell? ⟨gb121, 0, none⟩ = some (.int .i64 a0_0) := (blk_cell BK121.out 0).trans rfl
                          have hcz69_1 : wc.cell? ⟨gb121, 1, none⟩ = some (.int .i64 a0_1) := (blk_cell BK121.out 1).trans rfl
                          have hcz69_2 : wc.cell? ⟨gb121, 2, none⟩ = some (.int .i64 a0_2) := (blk_cell BK121.out 2).trans rfl
                          have hcz69_3 : wc.cell? ⟨gb121, 3, none⟩ = some (.bool a0_3) := (blk_cell BK121.out 3).trans rfl
                          have hcz69_4 : wc.cell? ⟨gb121, 4, none⟩ = some (.string a0_4) := (blk_cell BK121.out 4).trans rfl
                          have hcz69_5 : wc.cell? ⟨gb121, 5, none⟩ = some (.string a0_5) := (blk_cell BK121.out 5).trans rfl
                          have hcz69_6 : wc.cell? ⟨gb121, 6, none⟩ = some (.int .i64 a0_6) := (blk_cell BK121.out 6).trans rfl
                          have hcz69_7 : wc.cell? ⟨gb121, 7, none⟩ = some (.int .i64 a0_7) := (blk_cell BK121.out 7).trans rfl
                          have hcz69_8 : wc.cell? ⟨gb121, 8, none⟩ = some (.slice A0_8 l0_8.length c0_8) := (blk_cell BK121.out 8).trans rfl
                          have hfz69_0 := blk_frozen BK121.out 0
                          have hfz69_1 := blk_frozen BK121.out 1
                          have hfz69_2 := blk_frozen BK121.out 2
                          have hfz69_3 := blk_frozen BK121.out 3
                          have hfz69_4 := blk_frozen BK121.out 4
                          have hfz69_5 := blk_frozen BK121.out 5
                          have hfz69_6 := blk_frozen BK121.out 6
                          have hfz69_7 := blk_frozen BK121.out 7
                          have hfz69_8 := blk_frozen BK121.out 8
                          go_wp2
                          go_ret
                          exact ⟨by first | rfl | (simp [errW_none, errW_some] <;> rfl) | (simp [*, errW_none, errW_some] <;> rfl), by repeat (first | (with_reducible first | exact HB.out | apply below_alloc | apply pw_below_drewN | apply below_drew1 | refine below_set ?_ GE121.out) | exact HB.out)⟩
                      · replace c58 := Bool.eq_false_iff.mpr c58
                        subst c58
                        have H1 : (some false) = some r := by rw [if_neg (show ¬ (false = true) by decide)] at H; exact H
                        clear H
                        have H := H1
                        clear H1
                        obtain rfl := Option.some.inj H
                        have hcz70_0 : wc.cell? ⟨gb121, 0, none⟩ = some (.int .i64 a0_0) := (blk_cell BK121.out 0).trans rfl
                        have hcz70_1 : wc.cell? ⟨gb121, 1, none⟩ = some (.int .i64 a0_1) := (blk_cell BK121.out 1).trans rfl
                        have hcz70_2 : wc.cell? ⟨gb121, 2, none⟩ = some (.int .i64 a0_2) := (blk_cell BK121.out 2).trans rfl
                        have hcz70_3 : wc.cell? ⟨gb121, 3, none⟩ = some (.bool a0_3) := (blk_cell BK121.out 3).trans rfl
                        have hcz70_4 : wc.cell? ⟨gb121, 4, none⟩ = some (.string a0_4) := (blk_cell BK121.out 4).trans rfl
                        have hcz70_5 : wc.cell? ⟨gb121, 5, none⟩ = some (.string a0_5) := (blk_cell BK121.out 5).trans rfl
                        have hcz70_6 : wc.cell? ⟨gb121, 6, none⟩ = some (.int .i64 a0_6) := (blk_cell BK121.out 6).trans rfl
                        have hcz70_7 : wc.cell? ⟨gb121, 7, none⟩ = some (.int .i64 a0_7) := (blk_cell BK121.out 7).trans rfl
                        have hcz70_8 : wc.cell? ⟨gb121, 8, none⟩ = some (.slice A0_8 l0_8.length c0_8) := (blk_cell BK121.out 8).trans rfl
                        have hfz70_0 := blk_frozen BK121.out 0
                        have hfz70_1 := blk_frozen BK121.out 1
                        have hfz70_2 := blk_frozen BK121.out 2
                        have hfz70_3 := blk_frozen BK121.out 3
                        have hfz70_4 := blk_frozen BK121.out 4
                        have hfz70_5 := blk_frozen BK121.out 5
                        have hfz70_6 := blk_frozen BK121.out 6
                        have hfz70_7 := blk_frozen BK121.out 7
                        have hfz70_8 := blk_frozen BK121.out 8
                        go_wp2
                        go_ret
                        exact ⟨by first | rfl | (simp [errW_none, errW_some] <;> rfl) | (simp [*, errW_none, errW_some] <;> rfl), by repeat (first | (with_reducible first | exact HB.out | apply below_alloc | apply pw_below_drewN | apply below_drew1 | refine below_set ?_ GE121.out) | exact HB.out)⟩
                    · rw [if_neg c57] at H
                      have c57b0 : (a0_1 == 5) = false := beq_eq_false_iff_ne.mpr c57
                      have c57b1 : (a0_1 != 5) = true := bne_iff_ne.mpr c57
                      by_cases c71 : a0_1 = 6
                      · rw [if_pos c71] at H
                        have c71b0 : (a0_1 == 6) = true := beq_iff_eq.mpr c71
                        have c71b1 : (a0_1 != 6) = false := bne_eq_false_iff_eq.mpr c71
                        clear c71
                        by_cases c72 : t122 = true
                        · subst c72
                          have H1 : ((tegularef39_Name.f kj12 a0_5).bind fun t126 => (if t126 = true then (if a0_5.toList = a0_4.toList then (some false) else (if (l0_8.length : Int) = 0 then (if a0_3 = true then (some false) else (if a0_6 = 0 then (some (a0_7 == 0)) else (some false))) else (some false))) else (some false))) = some r := by rw [if_pos rfl] at H; exact H
                          clear H
                          have H := H1
                          clear H1
                          replace H := Option.bind_eq_some_iff.mp H
                          obtain ⟨t126, A730, H⟩ := H
                          replace H : (if t126 = true then (if a0_5.toList = a0_4.toList then (some false) else (if (l0_8.length : Int) = 0 then (if a0_3 = true then (some false) else (if a0_6 = 0 then (some (a0_7 == 0)) else (some false))) else (some false))) else (some false)) = some r := H
                          have A73 := Aside0.mk A730
                          clear A730
                          by_cases c74 : t126 = true
                          · subst c74
                            have H1 : (if a0_5.toList = a0_4.toList then (some false) else (if (l0_8.length : Int) = 0 then (if a0_3 = true then (some false) else (if a0_6 = 0 then (some (a0_7 == 0)) else (some false))) else (some false))) = some r := by rw [if_pos rfl] at H; exact H
                            clear H
                            have H := H1
                            clear H1
                            by_cases c75 : a0_5.toList = a0_4.toList
                            · rw [if_pos c75] at H
                              have c75b0 : (a0_5.toList == a0_4.toList) = true := beq_iff_eq.mpr c75
                              have c75b1 : (a0_5.toList != a0_4.toList) = false := bne_eq_false_iff_eq.mpr c75
                              clear c75
                              obtain rfl := Option.some.inj H
                              have hcz76_0 : wc.cell? ⟨gb121, 0, none⟩ = some (.int .i64 a0_0) := (blk_cell BK121.out 0).trans rfl
                              have hcz76_1 : wc.cell? ⟨gb121, 1, none⟩ = some (.int .i64 a0_1) := (blk_cell BK121.out 1).trans rfl
                              have hcz76_2 : wc.cell? ⟨gb121, 2, none⟩ = some (.int .i64 a0_2) := (blk_cell BK121.out 2).trans rfl
                              have hcz76_3 : wc.cell? ⟨gb121, 3, none⟩ = some (.bool a0_3) := (blk_cell BK121.out 3).trans rfl
                              have hcz76_4 : wc.cell? ⟨gb121, 4, none⟩ = some (.string a0_4) := (blk_cell BK121.out 4).trans rfl
                              have hcz76_5 : wc.cell? ⟨gb121, 5, none⟩ = some (.string a0_5) := (blk_cell BK121.out 5).trans rfl
                              have hcz76_6 : wc.cell? ⟨gb121, 6, none⟩ = some (.int .i64 a0_6) := (blk_cell BK121.out 6).trans rfl
                              have hcz76_7 : wc.cell? ⟨gb121, 7, none⟩ = some (.int .i64 a0_7) := (blk_cell BK121.out 7).trans rfl
                              have hcz76_8 : wc.cell? ⟨gb121, 8, none⟩ = some (.slice A0_8 l0_8.length c0_8) := (blk_cell BK121.out 8).trans rfl
                              have hfz76_0 := blk_frozen BK121.out 0
                              have hfz76_1 := blk_frozen BK121.out 1
                              have hfz76_2 := blk_frozen BK121.out 2
                              have hfz76_3 := blk_frozen BK121.out 3
                              have hfz76_4 := blk_frozen BK121.out 4
                              have hfz76_5 := blk_frozen BK121.out 5
                              have hfz76_6 := blk_frozen BK121.out 6
                              have hfz76_7 := blk_frozen BK121.out 7
                              have hfz76_8 := blk_frozen BK121.out 8
                              go_wp2_with (first | (go_at_call 22; (with_reducible refine (tegularef39_Name.calls kj12 a0_5 true _ A73.out).mono ?_); rintro e w' ⟨rfl, ⟨nd, rfl⟩⟩))
                              go_ret
                              exact ⟨by first | rfl | (simp [errW_none, errW_some] <;> rfl) | (simp [*, errW_none, errW_some] <;> rfl), by repeat (first | (with_reducible first | exact HB.out | apply below_alloc | apply pw_below_drewN | apply below_drew1 | refine below_set ?_ GE121.out) | exact HB.out)⟩
                            · rw [if_neg c75] at H
                              have c75b0 : (a0_5.toList == a0_4.toList) = false := beq_eq_false_iff_ne.mpr c75
                              have c75b1 : (a0_5.toList != a0_4.toList) = true := bne_iff_ne.mpr c75
                              by_cases c77 : (l0_8.length : Int) = 0
                              · rw [if_pos c77] at H
                                have c77b0 : ((l0_8.length : Int) == 0) = true := beq_iff_eq.mpr c77
                                have c77b1 : ((l0_8.length : Int) != 0) = false := bne_eq_false_iff_eq.mpr c77
                                clear c77
                                by_cases c78 : a0_3 = true
                                · subst c78
                                  have H1 : (some false) = some r := by rw [if_pos rfl] at H; exact H
                                  clear H
                                  have H := H1
                                  clear H1
                                  obtain rfl := Option.some.inj H
                                  have hcz79_0 : wc.cell? ⟨gb121, 0, none⟩ = some (.int .i64 a0_0) := (blk_cell BK121.out 0).trans rfl
                                  have hcz79_1 : wc.cell? ⟨gb121, 1, none⟩ = some (.int .i64 a0_1) := (blk_cell BK121.out 1).trans rfl
                                  have hcz79_2 : wc.cell? ⟨gb121, 2, none⟩ = some (.int .i64 a0_2) := (blk_cell BK121.out 2).trans rfl
                                  have hcz79_3 : wc.cell? ⟨gb121, 3, none⟩ = some (.bool true) := (blk_cell BK121.out 3).trans rfl
                                  have hcz79_4 : wc.cell? ⟨gb121, 4, none⟩ = some (.string a0_4) := (blk_cell BK121.out 4).trans rfl
                                  have hcz79_5 : wc.cell? ⟨gb121, 5, none⟩ = some (.string a0_5) := (blk_cell BK121.out 5).trans rfl
                                  have hcz79_6 : wc.cell? ⟨gb121, 6, none⟩ = some (.int .i64 a0_6) := (blk_cell BK121.out 6).trans rfl
                                  have hcz79_7 : wc.cell? ⟨gb121, 7, none⟩ = some (.int .i64 a0_7) := (blk_cell BK121.out 7).trans rfl
                                  have hcz79_8 : wc.cell? ⟨gb121, 8, none⟩ = some (.slice A0_8 l0_8.length c0_8) := (blk_cell BK121.out 8).trans rfl
                                  have hfz79_0 := blk_frozen BK121.out 0
                                  have hfz79_1 := blk_frozen BK121.out 1
                                  have hfz79_2 := blk_frozen BK121.out 2
                                  have hfz79_3 := blk_frozen BK121.out 3
                                  have hfz79_4 := blk_frozen BK121.out 4
                                  have hfz79_5 := blk_frozen BK121.out 5
                                  have hfz79_6 := blk_frozen BK121.out 6
                                  have hfz79_7 := blk_frozen BK121.out 7
                                  have hfz79_8 := blk_frozen BK121.out 8
                                  go_wp2_with (first | (go_at_call 22; (with_reducible refine (tegularef39_Name.calls kj12 a0_5 true _ A73.out).mono ?_); rintro e w' ⟨rfl, ⟨nd, rfl⟩⟩))
                                  go_ret
                                  exact ⟨by first | rfl | (simp [errW_none, errW_some] <;> rfl) | (simp [*, errW_none, errW_some] <;> rfl), by repeat (first | (with_reducible first | exact HB.out | apply below_alloc | apply pw_below_drewN | apply below_drew1 | refine below_set ?_ GE121.out) | exact HB.out)⟩
                                · replace c78 := Bool.eq_false_iff.mpr c78
                                  subst c78
                                  have H1 : (if a0_6 = 0 then (some (a0_7 == 0)) else (some false)) = some r := by rw [if_neg (show ¬ (false = true) by decide)] at H; exact H
                                  clear H
                                  have H := H1
                                  clear H1
                                  by_cases c80 : a0_6 = 0
                                  · rw [if_pos c80] at H
                                    have c80b0 : (a0_6 == 0) = true := beq_iff_eq.mpr c80
                                    have c80b1 : (a0_6 != 0) = false := bne_eq_false_iff_eq.mpr c80
                                    clear c80
                                    obtain rfl := Option.some.inj H
                                    have hcz81_0 : wc.cell? ⟨gb121, 0, none⟩ = some (.int .i64 a0_0) := (blk_cell BK121.out 0).trans rfl
                                    have hcz81_1 : wc.cell? ⟨gb121, 1, none⟩ = some (.int .i64 a0_1) := (blk_cell BK121.out 1).trans rfl
                                    have hcz81_2 : wc.cell? ⟨gb121, 2, none⟩ = some (.int .i64 a0_2) := (blk_cell BK121.out 2).trans rfl
                                    have hcz81_3 : wc.cell? ⟨gb121, 3, none⟩ = some (.bool false) := (blk_cell BK121.out 3).trans rfl
                                    have hcz81_4 : wc.cell? ⟨gb121, 4, none⟩ = some (.string a0_4) := (blk_cell BK121.out 4).trans rfl
                                    have hcz81_5 : wc.cell? ⟨gb121, 5, none⟩ = some (.string a0_5) := (blk_cell BK121.out 5).trans rfl
                                    have hcz81_6 : wc.cell? ⟨gb121, 6, none⟩ = some (.int .i64 a0_6) := (blk_cell BK121.out 6).trans rfl
                                    have hcz81_7 : wc.cell? ⟨gb121, 7, none⟩ = some (.int .i64 a0_7) := (blk_cell BK121.out 7).trans rfl
                                    have hcz81_8 : wc.cell? ⟨gb121, 8, none⟩ = some (.slice A0_8 l0_8.length c0_8) := (blk_cell BK121.out 8).trans rfl
                                    have hfz81_0 := blk_frozen BK121.out 0
                                    have hfz81_1 := blk_frozen BK121.out 1
                                    have hfz81_2 := blk_frozen BK121.out 2
                                    have hfz81_3 := blk_frozen BK121.out 3
                                    have hfz81_4 := blk_frozen BK121.out 4
                                    have hfz81_5 := blk_frozen BK121.out 5
                                    have hfz81_6 := blk_frozen BK121.out 6
                                    have hfz81_7 := blk_frozen BK121.out 7
                                    have hfz81_8 := blk_frozen BK121.out 8
                                    go_wp2_with (first | (go_at_call 22; (with_reducible refine (tegularef39_Name.calls kj12 a0_5 true _ A73.out).mono ?_); rintro e w' ⟨rfl, ⟨nd, rfl⟩⟩))
                                    go_ret
                                    exact ⟨by first | rfl | (simp [errW_none, errW_some] <;> rfl) | (simp [*, errW_none, errW_some] <;> rfl), by repeat (first | (with_reducible first | exact HB.out | apply below_alloc | apply pw_below_drewN | apply below_drew1 | refine below_set ?_ GE121.out) | exact HB.out)⟩
                                  · rw [if_neg c80] at H
                                    have c80b0 : (a0_6 == 0) = false := beq_eq_false_iff_ne.mpr c80
                                    have c80b1 : (a0_6 != 0) = true := bne_iff_ne.mpr c80
                                    obtain rfl := Option.some.inj H
                                    have hcz82_0 : wc.cell? ⟨gb121, 0, none⟩ = some (.int .i64 a0_0) := (blk_cell BK121.out 0).trans rfl
                                    have hcz82_1 : wc.cell? ⟨gb121, 1, none⟩ = some (.int .i64 a0_1) := (blk_cell BK121.out 1).trans rfl
                                    have hcz82_2 : wc.cell? ⟨gb121, 2, none⟩ = some (.int .i64 a0_2) := (blk_cell BK121.out 2).trans rfl
                                    have hcz82_3 : wc.cell? ⟨gb121, 3, none⟩ = some (.bool false) := (blk_cell BK121.out 3).trans rfl
                                    have hcz82_4 : wc.cell? ⟨gb121, 4, none⟩ = some (.string a0_4) := (blk_cell BK121.out 4).trans rfl
                                    have hcz82_5 : wc.cell? ⟨gb121, 5, none⟩ = some (.string a0_5) := (blk_cell BK121.out 5).trans rfl
                                    have hcz82_6 : wc.cell? ⟨gb121, 6, none⟩ = some (.int .i64 a0_6) := (blk_cell BK121.out 6).trans rfl
                                    have hcz82_7 : wc.cell? ⟨gb121, 7, none⟩ = some (.int .i64 a0_7) := (blk_cell BK121.out 7).trans rfl
                                    have hcz82_8 : wc.cell? ⟨gb121, 8, none⟩ = some (.slice A0_8 l0_8.length c0_8) := (blk_cell BK121.out 8).trans rfl
                                    have hfz82_0 := blk_frozen BK121.out 0
                                    have hfz82_1 := blk_frozen BK121.out 1
                                    have hfz82_2 := blk_frozen BK121.out 2
                                    have hfz82_3 := blk_frozen BK121.out 3
                                    have hfz82_4 := blk_frozen BK121.out 4
                                    have hfz82_5 := blk_frozen BK121.out 5
                                    have hfz82_6 := blk_frozen BK121.out 6
                                    have hfz82_7 := blk_frozen BK121.out 7
                                    have hfz82_8 := blk_frozen BK121.out 8
                                    go_wp2_with (first | (go_at_call 22; (with_reducible refine (tegularef39_Name.calls kj12 a0_5 true _ A73.out).mono ?_); rintro e w' ⟨rfl, ⟨nd, rfl⟩⟩))
                                    go_ret
                                    exact ⟨by first | rfl | (simp [errW_none, errW_some] <;> rfl) | (simp [*, errW_none, errW_some] <;> rfl), by repeat (first | (with_reducible first | exact HB.out | apply below_alloc | apply pw_below_drewN | apply below_drew1 | refine below_set ?_ GE121.out) | exact HB.out)⟩
                              · rw [if_neg c77] at H
                                have c77b0 : ((l0_8.length : Int) == 0) = false := beq_eq_false_iff_ne.mpr c77
                                have c77b1 : ((l0_8.length : Int) != 0) = true := bne_iff_ne.mpr c77
                                have c77b2 : ¬ (l0_8 = []) := fun h_ => c77 (by rw [h_]; rfl)
                                obtain rfl := Option.some.inj H
                                have hcz83_0 : wc.cell? ⟨gb121, 0, none⟩ = some (.int .i64 a0_0) := (blk_cell BK121.out 0).trans rfl
                                have hcz83_1 : wc.cell? ⟨gb121, 1, none⟩ = some (.int .i64 a0_1) := (blk_cell BK121.out 1).trans rfl
                                have hcz83_2 : wc.cell? ⟨gb121, 2, none⟩ = some (.int .i64 a0_2) := (blk_cell BK121.out 2).trans rfl
                                have hcz83_3 : wc.cell? ⟨gb121, 3, none⟩ = some (.bool a0_3) := (blk_cell BK121.out 3).trans rfl
                                have hcz83_4 : wc.cell? ⟨gb121, 4, none⟩ = some (.string a0_4) := (blk_cell BK121.out 4).trans rfl
                                have hcz83_5 : wc.cell? ⟨gb121, 5, none⟩ = some (.string a0_5) := (blk_cell BK121.out 5).trans rfl
                                have hcz83_6 : wc.cell? ⟨gb121, 6, none⟩ = some (.int .i64 a0_6) := (blk_cell BK121.out 6).trans rfl
                                have hcz83_7 : wc.cell? ⟨gb121, 7, none⟩ = some (.int .i64 a0_7) := (blk_cell BK121.out 7).trans rfl
                                have hcz83_8 : wc.cell? ⟨gb121, 8, none⟩ = some (.slice A0_8 l0_8.length c0_8) := (blk_cell BK121.out 8).trans rfl
                                have hfz83_0 := blk_frozen BK121.out 0
                                have hfz83_1 := blk_frozen BK121.out 1
                                have hfz83_2 := blk_frozen BK121.out 2
                                have hfz83_3 := blk_frozen BK121.out 3
                                have hfz83_4 := blk_frozen BK121.out 4
                                have hfz83_5 := blk_frozen BK121.out 5
                                have hfz83_6 := blk_frozen BK121.out 6
                                have hfz83_7 := blk_frozen BK121.out 7
                                have hfz83_8 := blk_frozen BK121.out 8
                                go_wp2_with (first | (go_at_call 22; (with_reducible refine (tegularef39_Name.calls kj12 a0_5 true _ A73.out).mono ?_); rintro e w' ⟨rfl, ⟨nd, rfl⟩⟩))
                                go_ret
                                exact ⟨by first | rfl | (simp [errW_none, errW_some] <;> rfl) | (simp [*, errW_none, errW_some] <;> rfl), by repeat (first | (with_reducible first | exact HB.out | apply below_alloc | apply pw_below_drewN | apply below_drew1 | refine below_set ?_ GE121.out) | exact HB.out)⟩
                          · replace c74 := Bool.eq_false_iff.mpr c74
                            subst c74
                            have H1 : (some false) = some r := by rw [if_neg (show ¬ (false = true) by decide)] at H; exact H
                            clear H
                            have H := H1
                            clear H1
                            obtain rfl := Option.some.inj H
                            have hcz84_0 : wc.cell? ⟨gb121, 0, none⟩ = some (.int .i64 a0_0) := (blk_cell BK121.out 0).trans rfl
                            have hcz84_1 : wc.cell? ⟨gb121, 1, none⟩ = some (.int .i64 a0_1) := (blk_cell BK121.out 1).trans rfl
                            have hcz84_2 : wc.cell? ⟨gb121, 2, none⟩ = some (.int .i64 a0_2) := (blk_cell BK121.out 2).trans rfl
                            have hcz84_3 : wc.cell? ⟨gb121, 3, none⟩ = some (.bool a0_3) := (blk_cell BK121.out 3).trans rfl
                            have hcz84_4 : wc.cell? ⟨gb121, 4, none⟩ = some (.string a0_4) := (blk_cell BK121.out 4).trans rfl
                            have hcz84_5 : wc.cell? ⟨gb121, 5, none⟩ = some (.string a0_5) := (blk_cell BK121.out 5).trans rfl
                            have hcz84_6 : wc.cell? ⟨gb121, 6, none⟩ = some (.int .i64 a0_6) := (blk_cell BK121.out 6).trans rfl
                            have hcz84_7 : wc.cell? ⟨gb121, 7, none⟩ = some (.int .i64 a0_7) := (blk_cell BK121.out 7).trans rfl
                            have hcz84_8 : wc.cell? ⟨gb121, 8, none⟩ = some (.slice A0_8 l0_8.length c0_8) := (blk_cell BK121.out 8).trans rfl
                            have hfz84_0 := blk_frozen BK121.out 0
                            have hfz84_1 := blk_frozen BK121.out 1
                            have hfz84_2 := blk_frozen BK121.out 2
                            have hfz84_3 := blk_frozen BK121.out 3
                            have hfz84_4 := blk_frozen BK121.out 4
                            have hfz84_5 := blk_frozen BK121.out 5
                            have hfz84_6 := blk_frozen BK121.out 6
                            have hfz84_7 := blk_frozen BK121.out 7
                            have hfz84_8 := blk_frozen BK121.out 8
                            go_wp2_with (first | (go_at_call 22; (with_reducible refine (tegularef39_Name.calls kj12 a0_5 false _ A73.out).mono ?_); rintro e w' ⟨rfl, ⟨nd, rfl⟩⟩))
                            go_ret
                            exact ⟨by first | rfl | (simp [errW_none, errW_some] <;> rfl) | (simp [*, errW_none, errW_some] <;> rfl), by repeat (first | (with_reducible first | exact HB.out | apply below_alloc | apply pw_below_drewN | apply below_drew1 | refine below_set ?_ GE121.out) | exact HB.out)⟩
                        · replace c72 := Bool.eq_false_iff.mpr c72
                          subst c72
                          have H1 : (some false) = some r := by rw [if_neg (show ¬ (false = true) by decide)] at H; exact H
                          clear H
                          have H := H1
                          clear H1
                          obtain rfl := Option.some.inj H
                          have hcz85_0 : wc.cell? ⟨gb121, 0, none⟩ = some (.int .i64 a0_0) := (blk_cell BK121.out 0).trans rfl
                          have hcz85_1 : wc.cell? ⟨gb121, 1, none⟩ = some (.int .i64 a0_1) := (blk_cell BK121.out 1).trans rfl
                          have hcz85_2 : wc.cell? ⟨gb121, 2, none⟩ = some (.int .i64 a0_2) := (blk_cell BK121.out 2).trans rfl
                          have hcz85_3 : wc.cell? ⟨gb121, 3, none⟩ = some (.bool a0_3) := (blk_cell BK121.out 3).trans rfl
                          have hcz85_4 : wc.cell? ⟨gb121, 4, none⟩ = some (.string a0_4) := (blk_cell BK121.out 4).trans rfl
                          have hcz85_5 : wc.cell? ⟨gb121, 5, none⟩ = some (.string a0_5) := (blk_cell BK121.out 5).trans rfl
                          have hcz85_6 : wc.cell? ⟨gb121, 6, none⟩ = some (.int .i64 a0_6) := (blk_cell BK121.out 6).trans rfl
                          have hcz85_7 : wc.cell? ⟨gb121, 7, none⟩ = some (.int .i64 a0_7) := (blk_cell BK121.out 7).trans rfl
                          have hcz85_8 : wc.cell? ⟨gb121, 8, none⟩ = some (.slice A0_8 l0_8.length c0_8) := (blk_cell BK121.out 8).trans rfl
                          have hfz85_0 := blk_frozen BK121.out 0
                          have hfz85_1 := blk_frozen BK121.out 1
                          have hfz85_2 := blk_frozen BK121.out 2
                          have hfz85_3 := blk_frozen BK121.out 3
                          have hfz85_4 := blk_frozen BK121.out 4
                          have hfz85_5 := blk_frozen BK121.out 5
                          have hfz85_6 := blk_frozen BK121.out 6
                          have hfz85_7 := blk_frozen BK121.out 7
                          have hfz85_8 := blk_frozen BK121.out 8
                          go_wp2
                          go_ret
                          exact ⟨by first | rfl | (simp [errW_none, errW_some] <;> rfl) | (simp [*, errW_none, errW_some] <;> rfl), by repeat (first | (with_reducible first | exact HB.out | apply below_alloc | apply pw_below_drewN | apply below_drew1 | refine below_set ?_ GE121.out) | exact HB.out)⟩
                      · rw [if_neg c71] at H
                        have c71b0 : (a0_1 == 6) = false := beq_eq_false_iff_ne.mpr c71
                        have c71b1 : (a0_1 != 6) = true := bne_iff_ne.mpr c71
                        by_cases c86 : a0_1 = 7
                        · rw [if_pos c86] at H
                          have c86b0 : (a0_1 == 7) = true := beq_iff_eq.mpr c86
                          have c86b1 : (a0_1 != 7) = false := bne_eq_false_iff_eq.mpr c86
                          clear c86
                          by_cases c87 : t122 = true
                          · subst c87
                            have H1 : (if x4_12 = true then (if a0_3 = true then (some false) else (if a0_6 = 0 then (some (a0_7 == 0)) else (some false))) else (some false)) = some r := by rw [if_pos rfl] at H; exact H
                            clear H
                            have H := H1
                            clear H1
                            by_cases c88 : x4_12 = true
                            · subst c88
                              have H1 : (if a0_3 = true then (some false) else (if a0_6 = 0 then (some (a0_7 == 0)) else (some false))) = some r := by rw [if_pos rfl] at H; exact H
                              clear H
                              have H := H1
                              clear H1
                              by_cases c89 : a0_3 = true
                              · subst c89
                                have H1 : (some false) = some r := by rw [if_pos rfl] at H; exact H
                                clear H
                                have H := H1
                                clear H1
                                obtain rfl := Option.some.inj H
                                have hcz90_0 : wc.cell? ⟨gb121, 0, none⟩ = some (.int .i64 a0_0) := (blk_cell BK121.out 0).trans rfl
                                have hcz90_1 : wc.cell? ⟨gb121, 1, none⟩ = some (.int .i64 a0_1) := (blk_cell BK121.out 1).trans rfl
                                have hcz90_2 : wc.cell? ⟨gb121, 2, none⟩ = some (.int .i64 a0_2) := (blk_cell BK121.out 2).trans rfl
                                have hcz90_3 : wc.cell? ⟨gb121, 3, none⟩ = some (.bool true) := (blk_cell BK121.out 3).trans rfl
                                have hcz90_4 : wc.cell? ⟨gb121, 4, none⟩ = some (.string a0_4) := (blk_cell BK121.out 4).trans rfl
                                have hcz90_5 : wc.cell? ⟨gb121, 5, none⟩ = some (.string a0_5) := (blk_cell BK121.out 5).trans rfl
                                have hcz90_6 : wc.cell? ⟨gb121, 6, none⟩ = some (.int .i64 a0_6) := (blk_cell BK121.out 6).trans rfl
                                have hcz90_7 : wc.cell? ⟨gb121, 7, none⟩ = some (.int .i64 a0_7) := (blk_cell BK121.out 7).trans rfl
                                have hcz90_8 : wc.cell? ⟨gb121, 8, none⟩ = some (.slice A0_8 l0_8.length c0_8) := (blk_cell BK121.out 8).trans rfl
                                have hfz90_0 := blk_frozen BK121.out 0
                                have hfz90_1 := blk_frozen BK121.out 1
                                have hfz90_2 := blk_frozen BK121.out 2
                                have hfz90_3 := blk_frozen BK121.out 3
                                have hfz90_4 := blk_frozen BK121.out 4
                                have hfz90_5 := blk_frozen BK121.out 5
                                have hfz90_6 := blk_frozen BK121.out 6
                                have hfz90_7 := blk_frozen BK121.out 7
                                have hfz90_8 := blk_frozen BK121.out 8
                                go_wp2
                                go_ret
                                exact ⟨by first | rfl | (simp [errW_none, errW_some] <;> rfl) | (simp [*, errW_none, errW_some] <;> rfl), by repeat (first | (with_reducible first | exact HB.out | apply below_alloc | apply pw_below_drewN | apply below_drew1 | refine below_set ?_ GE121.out) | exact HB.out)⟩
                              · replace c89 := Bool.eq_false_iff.mpr c89
                                subst c89
                                have H1 : (if a0_6 = 0 then (some (a0_7 == 0)) else (some false)) = some r := by rw [if_neg (show ¬ (false = true) by decide)] at H; exact H
                                clear H
                                have H := H1
                                clear H1
                                by_cases c91 : a0_6 = 0
                                · rw [if_pos c91] at H
                                  have c91b0 : (a0_6 == 0) = true := beq_iff_eq.mpr c91
                                  have c91b1 : (a0_6 != 0) = false := bne_eq_false_iff_eq.mpr c91
                                  clear c91
                                  obtain rfl := Option.some.inj H
                                  have hcz92_0 : wc.cell? ⟨gb121, 0, none⟩ = some (.int .i64 a0_0) := (blk_cell BK121.out 0).trans rfl
                                  have hcz92_1 : wc.cell? ⟨gb121, 1, none⟩ = some (.int .i64 a0_1) := (blk_cell BK121.out 1).trans rfl
                                  have hcz92_2 : wc.cell? ⟨gb121, 2, none⟩ = some (.int .i64 a0_2) := (blk_cell BK121.out 2).trans rfl
                                  have hcz92_3 : wc.cell? ⟨gb121, 3, none⟩ = some (.bool false) := (blk_cell BK121.out 3).trans rfl
                                  have hcz92_4 : wc.cell? ⟨gb121, 4, none⟩ = some (.string a0_4) := (blk_cell BK121.out 4).trans rfl
                                  have hcz92_5 : wc.cell? ⟨gb121, 5, none⟩ = some (.string a0_5) := (blk_cell BK121.out 5).trans rfl
                                  have hcz92_6 : wc.cell? ⟨gb121, 6, none⟩ = some (.int .i64 a0_6) := (blk_cell BK121.out 6).trans rfl
                                  have hcz92_7 : wc.cell? ⟨gb121, 7, none⟩ = some (.int .i64 a0_7) := (blk_cell BK121.out 7).trans rfl
                                  have hcz92_8 : wc.cell? ⟨gb121, 8, none⟩ = some (.slice A0_8 l0_8.length c0_8) := (blk_cell BK121.out 8).trans rfl
                                  have hfz92_0 := blk_frozen BK121.out 0
                                  have hfz92_1 := blk_frozen BK121.out 1
                                  have hfz92_2 := blk_frozen BK121.out 2
                                  have hfz92_3 := blk_frozen BK121.out 3
                                  have hfz92_4 := blk_frozen BK121.out 4
                                  have hfz92_5 := blk_frozen BK121.out 5
                                  have hfz92_6 := blk_frozen BK121.out 6
                                  have hfz92_7 := blk_frozen BK121.out 7
                                  have hfz92_8 := blk_frozen BK121.out 8
                                  go_wp2
                                  go_ret
                                  exact ⟨by first | rfl | (simp [errW_none, errW_some] <;> rfl) | (simp [*, errW_none, errW_some] <;> rfl), by repeat (first | (with_reducible first | exact HB.out | apply below_alloc | apply pw_below_drewN | apply below_drew1 | refine below_set ?_ GE121.out) | exact HB.out)⟩
                                · rw [if_neg c91] at H
                                  have c91b0 : (a0_6 == 0) = false := beq_eq_false_iff_ne.mpr c91
                                  have c91b1 : (a0_6 != 0) = true := bne_iff_ne.mpr c91
                                  obtain rfl := Option.some.inj H
                                  have hcz93_0 : wc.cell? ⟨gb121, 0, none⟩ = some (.int .i64 a0_0) := (blk_cell BK121.out 0).trans rfl
                                  have hcz93_1 : wc.cell? ⟨gb121, 1, none⟩ = some (.int .i64 a0_1) := (blk_cell BK121.out 1).trans rfl
                                  have hcz93_2 : wc.cell? ⟨gb121, 2, none⟩ = some (.int .i64 a0_2) := (blk_cell BK121.out 2).trans rfl
                                  have hcz93_3 : wc.cell? ⟨gb121, 3, none⟩ = some (.bool false) := (blk_cell BK121.out 3).trans rfl
                                  have hcz93_4 : wc.cell? ⟨gb121, 4, none⟩ = some (.string a0_4) := (blk_cell BK121.out 4).trans rfl
                                  have hcz93_5 : wc.cell? ⟨gb121, 5, none⟩ = some (.string a0_5) := (blk_cell BK121.out 5).trans rfl
                                  have hcz93_6 : wc.cell? ⟨gb121, 6, none⟩ = some (.int .i64 a0_6) := (blk_cell BK121.out 6).trans rfl
                                  have hcz93_7 : wc.cell? ⟨gb121, 7, none⟩ = some (.int .i64 a0_7) := (blk_cell BK121.out 7).trans rfl
                                  have hcz93_8 : wc.cell? ⟨gb121, 8, none⟩ = some (.slice A0_8 l0_8.length c0_8) := (blk_cell BK121.out 8).trans rfl
                                  have hfz93_0 := blk_frozen BK121.out 0
                                  have hfz93_1 := blk_frozen BK121.out 1
                                  have hfz93_2 := blk_frozen BK121.out 2
                                  have hfz93_3 := blk_frozen BK121.out 3
                                  have hfz93_4 := blk_frozen BK121.out 4
                                  have hfz93_5 := blk_frozen BK121.out 5
                                  have hfz93_6 := blk_frozen BK121.out 6
                                  have hfz93_7 := blk_frozen BK121.out 7
                                  have hfz93_8 := blk_frozen BK121.out 8
                                  go_wp2
                                  go_ret
                                  exact ⟨by first | rfl | (simp [errW_none, errW_some] <;> rfl) | (simp [*, errW_none, errW_some] <;> rfl), by repeat (first | (with_reducible first | exact HB.out | apply below_alloc | apply pw_below_drewN | apply below_drew1 | refine below_set ?_ GE121.out) | exact HB.out)⟩
                            · replace c88 := Bool.eq_false_iff.mpr c88
                              subst c88
                              have H1 : (some false) = some r := by rw [if_neg (show ¬ (false = true) by decide)] at H; exact H
                              clear H
                              have H := H1
                              clear H1
                              obtain rfl := Option.some.inj H
                              have hcz94_0 : wc.cell? ⟨gb121, 0, none⟩ = some (.int .i64 a0_0) := (blk_cell BK121.out 0).trans rfl
                              have hcz94_1 : wc.cell? ⟨gb121, 1, none⟩ = some (.int .i64 a0_1) := (blk_cell BK121.out 1).trans rfl
                              have hcz94_2 : wc.cell? ⟨gb121, 2, none⟩ = some (.int .i64 a0_2) := (blk_cell BK121.out 2).trans rfl
                              have hcz94_3 : wc.cell? ⟨gb121, 3, none⟩ = some (.bool a0_3) := (blk_cell BK121.out 3).trans rfl
                              have hcz94_4 : wc.cell? ⟨gb121, 4, none⟩ = some (.string a0_4) := (blk_cell BK121.out 4).trans rfl
                              have hcz94_5 : wc.cell? ⟨gb121, 5, none⟩ = some (.string a0_5) := (blk_cell BK121.out 5).trans rfl
                              have hcz94_6 : wc.cell? ⟨gb121, 6, none⟩ = some (.int .i64 a0_6) := (blk_cell BK121.out 6).trans rfl
                              have hcz94_7 : wc.cell? ⟨gb121, 7, none⟩ = some (.int .i64 a0_7) := (blk_cell BK121.out 7).trans rfl
                              have hcz94_8 : wc.cell? ⟨gb121, 8, none⟩ = some (.slice A0_8 l0_8.length c0_8) := (blk_cell BK121.out 8).trans rfl
                              have hfz94_0 := blk_frozen BK121.out 0
                              have hfz94_1 := blk_frozen BK121.out 1
                              have hfz94_2 := blk_frozen BK121.out 2
                              have hfz94_3 := blk_frozen BK121.out 3
                              have hfz94_4 := blk_frozen BK121.out 4
                              have hfz94_5 := blk_frozen BK121.out 5
                              have hfz94_6 := blk_frozen BK121.out 6
                              have hfz94_7 := blk_frozen BK121.out 7
                              have hfz94_8 := blk_frozen BK121.out 8
                              go_wp2
                              go_ret
                              exact ⟨by first | rfl | (simp [errW_none, errW_some] <;> rfl) | (simp [*, errW_none, errW_some] <;> rfl), by repeat (first | (with_reducible first | exact HB.out | apply below_alloc | apply pw_below_drewN | apply below_drew1 | refine below_set ?_ GE121.out) | exact HB.out)⟩
                          · replace c87 := Bool.eq_false_iff.mpr c87
                            subst c87
                            have H1 : (some false) = some r := by rw [if_neg (show ¬ (false = true) by decide)] at H; exact H
                            clear H
                            have H := H1
                            clear H1
                            obtain rfl := Option.some.inj H
                            have hcz95_0 : wc.cell? ⟨gb121, 0, none⟩ = some (.int .i64 a0_0) := (blk_cell BK121.out 0).trans rfl
                            have hcz95_1 : wc.cell? ⟨gb121, 1, none⟩ = some (.int .i64 a0_1) := (blk_cell BK121.out 1).trans rfl
                            have hcz95_2 : wc.cell? ⟨gb121, 2, none⟩ = some (.int .i64 a0_2) := (blk_cell BK121.out 2).trans rfl
                            have hcz95_3 : wc.cell? ⟨gb121, 3, none⟩ = some (.bool a0_3) := (blk_cell BK121.out 3).trans rfl
                            have hcz95_4 : wc.cell? ⟨gb121, 4, none⟩ = some (.string a0_4) := (blk_cell BK121.out 4).trans rfl
                            have hcz95_5 : wc.cell? ⟨gb121, 5, none⟩ = some (.string a0_5) := (blk_cell BK121.out 5).trans rfl
                            have hcz95_6 : wc.cell? ⟨gb121, 6, none⟩ = some (.int .i64 a0_6) := (blk_cell BK121.out 6).trans rfl
                            have hcz95_7 : wc.cell? ⟨gb121, 7, none⟩ = some (.int .i64 a0_7) := (blk_cell BK121.out 7).trans rfl
                            have hcz95_8 : wc.cell? ⟨gb121, 8, none⟩ = some (.slice A0_8 l0_8.length c0_8) := (blk_cell BK121.out 8).trans rfl
                            have hfz95_0 := blk_frozen BK121.out 0
                            have hfz95_1 := blk_frozen BK121.out 1
                            have hfz95_2 := blk_frozen BK121.out 2
                            have hfz95_3 := blk_frozen BK121.out 3
                            have hfz95_4 := blk_frozen BK121.out 4
                            have hfz95_5 := blk_frozen BK121.out 5
                            have hfz95_6 := blk_frozen BK121.out 6
                            have hfz95_7 := blk_frozen BK121.out 7
                            have hfz95_8 := blk_frozen BK121.out 8
                            go_wp2
                            go_ret
                            exact ⟨by first | rfl | (simp [errW_none, errW_some] <;> rfl) | (simp [*, errW_none, errW_some] <;> rfl), by repeat (first | (with_reducible first | exact HB.out | apply below_alloc | apply pw_below_drewN | apply below_drew1 | refine below_set ?_ GE121.out) | exact HB.out)⟩
                        · rw [if_neg c86] at H
                          have c86b0 : (a0_1 == 7) = false := beq_eq_false_iff_ne.mpr c86
                          have c86b1 : (a0_1 != 7) = true := bne_iff_ne.mpr c86
                          obtain rfl := Option.some.inj H
                          have hcz96_0 : wc.cell? ⟨gb121, 0, none⟩ = some (.int .i64 a0_0) := (blk_cell BK121.out 0).trans rfl
                          have hcz96_1 : wc.cell? ⟨gb121, 1, none⟩ = some (.int .i64 a0_1) := (blk_cell BK121.out 1).trans rfl
                          have hcz96_2 : wc.cell? ⟨gb121, 2, none⟩ = some (.int .i64 a0_2) := (blk_cell BK121.out 2).trans rfl
                          have hcz96_3 : wc.cell? ⟨gb121, 3, none⟩ = some (.bool a0_3) := (blk_cell BK121.out 3).trans rfl
                          have hcz96_4 : wc.cell? ⟨gb121, 4, none⟩ = some (.string a0_4) := (blk_cell BK121.out 4).trans rfl
                          have hcz96_5 : wc.cell? ⟨gb121, 5, none⟩ = some (.string a0_5) := (blk_cell BK121.out 5).trans rfl
                          have hcz96_6 : wc.cell? ⟨gb121, 6, none⟩ = some (.int .i64 a0_6) := (blk_cell BK121.out 6).trans rfl
                          have hcz96_7 : wc.cell? ⟨gb121, 7, none⟩ = some (.int .i64 a0_7) := (blk_cell BK121.out 7).trans rfl
                          have hcz96_8 : wc.cell? ⟨gb121, 8, none⟩ = some (.slice A0_8 l0_8.length c0_8) := (blk_cell BK121.out 8).trans rfl
                          have hfz96_0 := blk_frozen BK121.out 0
                          have hfz96_1 := blk_frozen BK121.out 1
                          have hfz96_2 := blk_frozen BK121.out 2
                          have hfz96_3 := blk_frozen BK121.out 3
                          have hfz96_4 := blk_frozen BK121.out 4
                          have hfz96_5 := blk_frozen BK121.out 5
                          have hfz96_6 := blk_frozen BK121.out 6
                          have hfz96_7 := blk_frozen BK121.out 7
                          have hfz96_8 := blk_frozen BK121.out 8
                          go_wp2
                          go_ret
                          exact ⟨by first | rfl | (simp [errW_none, errW_some] <;> rfl) | (simp [*, errW_none, errW_some] <;> rfl), by repeat (first | (with_reducible first | exact HB.out | apply below_alloc | apply pw_below_drewN | apply below_drew1 | refine below_set ?_ GE121.out) | exact HB.out)⟩
end Go.Proofs.YthbnghdobmghlaaDoor.PC
