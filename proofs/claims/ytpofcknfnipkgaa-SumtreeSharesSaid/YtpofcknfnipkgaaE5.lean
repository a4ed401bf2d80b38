/-  SumtreeShares, joined: every list, place and sum.  -/
import Derived.Test.YtpofcknfnipkgaaE4
namespace Go.Proofs.Ytpofcknfnipkgaa.ST
open Go.RowKit Go.Proofs.YtpofcknfnipkgaaW.PrintWords Go.Proofs.YtpofcknfnipkgaaW.PrintLast Go.Proofs.YtpofcknfnipkgaaW.PrintMore Go.Proofs.Ytpofcknfnipkgaa.PS
theorem SumtreeShares_row (a0 : Option Addr) (len0 cap0 : Nat) (z0 : List Int) (a1 a2 : Int) (w : World) (w0 : IsRow .u64 w a0 len0 cap0 z0) (_y0 : len0 * 8 ≤ 140737488351232) (_w1 : (Lit.int .i64 a1).wf = true) (_w2 : (Lit.int .u64 a2).wf = true) :
    Calls Try.prog 10 #[.slice a0 len0 cap0, .int .i64 a1, .int .u64 a2] w fun e w' => e = .returned (.bool true) ∧ Below w.heap.size w w' := by
  obtain ⟨l, rfl, h⟩ := w0.rd
  rcases Nat.lt_or_ge 100 l.length with hl | hl
  · exact shares_long w a0 cap0 l a1 a2 (by first | exact hl | exact Or.inl hl | omega)
  · by_cases hi : 0 ≤ a1 ∧ a1 < l.length
    · obtain ⟨m, rfl⟩ := Int.eq_ofNat_of_zero_le hi.1
      exact shares_in w a0 cap0 l m a2 h hl (by omega)
    · exact shares_long w a0 cap0 l a1 a2 (by omega)
end Go.Proofs.Ytpofcknfnipkgaa.ST
