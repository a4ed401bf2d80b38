import Derived.Test.YthbnghdobmghlaaDoorVPCx0
import Derived.ChangeKeysEq
namespace Go.Proofs.YthbnghdobmghlaaDoor.PC
open Go.RowKit Go.Proofs.YthbnghdobmghlaaDoorW.PrintWords Go.Proofs.YthbnghdobmghlaaDoorW.PrintLast Go.Proofs.YthbnghdobmghlaaDoorW.PrintMore
attribute [local go_sem] max2_int min2_int max_two min_two max_three min_three max_four min_four   -- for this text's walks alone
set_option linter.unusedVariables false
set_option linter.unusedSimpArgs false
theorem ifstep (a b : Int) (r : Bool) (w : World) : (if a = b then Result.ok r w else Result.ok false w) = Result.ok ((a == b) && r) w := by
  by_cases h : a = b
  · rw [if_pos h, beq_iff_eq.2 h, Bool.true_and]
  · rw [if_neg h, beq_eq_false_iff_ne.2 h, Bool.false_and]
theorem eqA35 (d : Nat) (w : World) (x0 y0 : Int) (x1 y1 : Int) (x2 y2 : Int) (x3 y3 : Int) (x4 y4 : Int) (x5 y5 : Int) (x6 y6 : Int) (x7 y7 : Int) :
    (Op.equalIn (d + 2) 35 (.agg #[.int .u8 x0, .int .u8 x1, .int .u8 x2, .int .u8 x3, .int .u8 x4, .int .u8 x5, .int .u8 x6, .int .u8 x7]) (.agg #[.int .u8 y0, .int .u8 y1, .int .u8 y2, .int .u8 y3, .int .u8 y4, .int .u8 y5, .int .u8 y6, .int .u8 y7])).run Tryd.prog w = .ok (x0 == y0 && (x1 == y1 && (x2 == y2 && (x3 == y3 && (x4 == y4 && (x5 == y5 && (x6 == y6 && (x7 == y7)))))))) w := by
  have hi : ∃ i, Tryd.prog.info? 5 = some i := by
    have := info5
    cases h : Tryd.prog.info? 5 with
    | none => rw [h] at this; cases this
    | some i => exact ⟨i, rfl⟩
  obtain ⟨i, hi⟩ := hi
  refine (run_equalIn_array w (d+1) _ _ Tryd.underlying35 hi).trans ?_
  have hc : Tryd.prog.cellsOf 5 = 1 := by kernel_rfl
  rw [hc]
  have hu : Tryd.prog.underlying 5 = some (.int .u8) := Tryd.underlying5
  simp only [List.range, List.range.loop, Op.eqItems, Sem.run_bind]
  go_simp
  simp only [ifstep, Bool.and_true]
end Go.Proofs.YthbnghdobmghlaaDoor.PC
