/- The walks of the laws SumtreePath, SumtreeCheck and SumtreeProves. -/
import Derived.Test.YtpofcknfnipkgaaA9
namespace Go.Proofs.Ytpofcknfnipkgaa.ST
open Go.RowKit Go.Proofs.YtpofcknfnipkgaaW.PrintWords Go.Proofs.YtpofcknfnipkgaaW.PrintLast Go.Proofs.YtpofcknfnipkgaaW.PrintMore Go.Proofs.Ytpofcknfnipkgaa.PS
set_option linter.unusedVariables false
set_option linter.unusedSimpArgs false

theorem Rd.nil (w : World) : Rd w none 0 [] := ⟨Kd.C_nil _ _, Nat.le_refl _⟩
theorem topP_pos {n : Nat} (A : Nat → Nat → Nat) (h : 0 < n) : topP n A = .pointer (some ⟨A (ht n) 0, 0, none⟩) := if_neg (by omega)
set_option maxHeartbeats 1000000 in
theorem path_long (w : World) (A0 : Option Addr) (c0 : Nat) (l : List Int) (i : Int) (h : Rd w A0 c0 l) (hl : 100 < l.length) : Calls Try.prog 3 #[.slice A0 l.length c0, .int .i64 i] w fun e w' => e = .returned (.bool true) ∧ Below w.heap.size w w' := by
  have HR := Aside0.mk h
  have d1 : decide ((100 : Int) < (l.length : Int)) = true := decide_eq_true (by omega)
  have d2 : decide (100 < l.length) = true := decide_eq_true hl
  clear h
  go_enter Try.func3, Try.ntmps3
  go_wp2_with fail
  refine (awake_any _).mono ?_
  rintro e w1 ⟨rfl, hb⟩
  have HB1 := Aside0.mk hb
  clear hb
  go_wp2_with fail
  refine (awake_any _).mono ?_
  rintro e w2 ⟨rfl, hb⟩
  have HB2 := Aside0.mk (below_join hb HB1.out)
  clear hb
  go_wp2
  go_ret
  exact ⟨rfl, HB2.out⟩
set_option maxHeartbeats 1000000 in
theorem path_out (w : World) (A0 : Option Addr) (c0 : Nat) (l : List Int) (i : Int) (h : Rd w A0 c0 l) (hl : l.length ≤ 100) (hi : ¬ (0 ≤ i ∧ i < l.length)) : Calls Try.prog 3 #[.slice A0 l.length c0, .int .i64 i] w fun e w' => e = .returned (.bool true) ∧ Below w.heap.size w w' := by
  have HR := Aside0.mk h
  have d1 : decide ((100 : Int) < (l.length : Int)) = false := decide_eq_false (by omega)
  have d2 : decide (100 < l.length) = false := decide_eq_false (by omega)
  have HI := Lib.hid hi
  have HL := Aside0.mk hl
  clear h hi hl
  go_enter Try.func3, Try.ntmps3
  go_wp2_with fail
  refine (awake_any _).mono ?_
  rintro e w1 ⟨rfl, hb⟩
  have HB1 := Aside0.mk hb
  have HR1 := Aside0.mk (HR.out.below hb)
  clear hb HR
  go_wp2_with fail
  refine (build_any _ l A0 c0 (by have := HL.out; omega) HR1.out.2 HR1.out.1).mono ?_
  rintro e w2 ⟨A, rfl, hT, hb⟩
  have HB2 := Aside0.mk (below_join hb HB1.out)
  have HR2 := Aside0.mk (HR1.out.below hb)
  clear hb HR1 hT
  go_wp2_with fail
  refine (path_no _ l.length _ i HI.out).mono ?_
  rintro e w3 ⟨rfl, hb⟩
  have HB3 := Aside0.mk (below_join hb HB2.out)
  have HR3 := Aside0.mk (HR2.out.below hb)
  clear hb HR2
  go_wp2_with fail
  refine (refpath_any _ A0 c0 l i HR3.out (by have := HL.out; omega)).mono ?_
  rintro e w4 ⟨B, d, rfl, hR, hb⟩
  rw [if_neg HI.out] at hR
  simp only [if_neg HI.out]
  have HB4 := Aside0.mk (below_join hb HB3.out)
  have HP := Aside0.mk hR
  clear hb hR HR3
  go_wp2_with fail
  refine (uints_any _ none B 0 d [] [] (Rd.nil _) HP.out (by decide)).mono ?_
  rintro e w5 ⟨rfl, hb⟩
  have HB5 := Aside0.mk (below_join hb HB4.out)
  clear hb
  go_wp2
  go_ret
  exact ⟨rfl, HB5.out⟩
set_option maxHeartbeats 1000000 in
theorem path_in (w : World) (A0 : Option Addr) (c0 : Nat) (l : List Int) (i : Nat) (h : Rd w A0 c0 l) (hl : l.length ≤ 100) (hi : i < l.length) : Calls Try.prog 3 #[.slice A0 l.length c0, .int .i64 i] w fun e w' => e = .returned (.bool true) ∧ Below w.heap.size w w' := by
  have HR := Aside0.mk h
  have d1 : decide ((100 : Int) < (l.length : Int)) = false := decide_eq_false (by omega)
  have d2 : decide (100 < l.length) = false := decide_eq_false (by omega)
  have HI := Aside0.mk hi
  have HL := Aside0.mk hl
  clear h hi hl
  go_enter Try.func3, Try.ntmps3
  go_wp2_with fail
  refine (awake_any _).mono ?_
  rintro e w1 ⟨rfl, hb⟩
  have HB1 := Aside0.mk hb
  have HR1 := Aside0.mk (HR.out.below hb)
  clear hb HR
  go_wp2_with fail
  refine (build_any _ l A0 c0 (by have := HL.out; omega) HR1.out.2 HR1.out.1).mono ?_
  rintro e w2 ⟨A, rfl, hT, hb⟩
  have HB2 := Aside0.mk (below_join hb HB1.out)
  have HR2 := Aside0.mk (HR1.out.below hb)
  have HT2 := Aside0.mk hT
  clear hb HR1 hT
  rw [topP_pos A (by have := HI.out; omega)]
  go_wp2_with fail
  refine (path_yes _ l i A HT2.out HI.out (by have := HL.out; omega)).mono ?_
  rintro e w3 ⟨v, rfl, hv, hb⟩
  have HB3 := Aside0.mk (below_join hb HB2.out)
  have HR3 := Aside0.mk (HR2.out.below hb)
  obtain ⟨Ap, cp, rfl⟩ := Kd.R_slice hv
  have HP3 := Aside0.mk (Rd.of_R hv)
  clear hb HR2 hv
  go_wp2_with fail
  refine (refpath_any _ A0 c0 l i HR3.out (by have := HL.out; omega)).mono ?_
  rintro e w4 ⟨B, d, rfl, hR, hb⟩
  have hii : (0 : Int) ≤ (i : Int) ∧ (i : Int) < l.length := ⟨by omega, by have := HI.out; omega⟩
  rw [if_pos hii, Int.toNat_natCast] at hR
  simp only [if_pos hii, Int.toNat_natCast]
  have HB4 := Aside0.mk (below_join hb HB3.out)
  have HP := Aside0.mk hR
  have HP4 := Aside0.mk (HP3.out.below hb)
  clear hb hR HR3 HP3 hii
  go_wp2_with fail
  refine (uints_any _ Ap B cp d (pathV l i) (pathV l i) HP4.out HP.out (by have := pth_length l i (ht l.length) 0; have := ht_le l.length; have := HL.out; unfold pathV; omega)).mono ?_
  rintro e w5 ⟨rfl, hb⟩
  have HB5 := Aside0.mk (below_join hb HB4.out)
  clear hb
  go_wp2
  go_ret
  exact ⟨by simp, HB5.out⟩
theorem path_walk (w : World) (A0 : Option Addr) (c0 : Nat) (l : List Int) (i : Int) (h : Rd w A0 c0 l) : Calls Try.prog 3 #[.slice A0 l.length c0, .int .i64 i] w fun e w' => e = .returned (.bool true) ∧ Below w.heap.size w w' := by
  rcases Nat.lt_or_ge 100 l.length with hl | hl
  · exact path_long w A0 c0 l i h hl
  · by_cases hi : 0 ≤ i ∧ i < l.length
    · obtain ⟨m, rfl⟩ := Int.eq_ofNat_of_zero_le hi.1
      exact path_in w A0 c0 l m h hl (by omega)
    · exact path_out w A0 c0 l i h hl hi
/-- A row of numbers, as the reading of an argument gives it. -/
def IsRow (k : IntKind) (w : World) (a : Option Addr) (len cap : Nat) (zs : List Int) : Prop :=
  (a = none ∧ len = 0 ∧ cap = 0 ∧ zs = []) ∨
  ∃ x, a = some x ∧ len ≤ cap ∧ cap ≤ maxLen ∧ zs.length = cap ∧ (∀ i, i < zs.length → w.cell? (x.add i) = some (.int k (zs.getD i 0))) ∧ ∀ n ∈ zs, (Lit.int k n).wf = true
theorem IsRow.rd {w : World} {a : Option Addr} {len cap : Nat} {zs : List Int} (h : IsRow .u64 w a len cap zs) : ∃ l : List Int, len = l.length ∧ Rd w a cap l := by
  obtain ⟨l, rfl, hr, hm, hw, hc⟩ := ReadsInt.ofRowC h
  exact ⟨l, rfl, Kd.C_of_reads (d := (0 : Int)) (h1 := fun _ => rfl) hr, hc⟩
theorem SumtreePath_row (a0 : Option Addr) (len0 cap0 : Nat) (z0 : List Int) (a1 : Int) (w : World) (w0 : IsRow .u64 w a0 len0 cap0 z0) (_y0 : len0 * 8 ≤ 140737488351232) (_w1 : (Lit.int .i64 a1).wf = true) :
    Calls Try.prog 3 #[.slice a0 len0 cap0, .int .i64 a1] w fun e w' => e = .returned (.bool true) ∧ Below w.heap.size w w' := by
  obtain ⟨l, rfl, h⟩ := w0.rd
  exact path_walk w a0 cap0 l a1 h
end Go.Proofs.Ytpofcknfnipkgaa.ST
