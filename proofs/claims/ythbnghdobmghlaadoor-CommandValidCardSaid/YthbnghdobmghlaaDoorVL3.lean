import Derived.Test.YthbnghdobmghlaaDoorVL2
import Derived.Test.YthbnghdobmghlaaDoorVJ12
import Derived.Test.YthbnghdobmghlaaDoorVPCx11
namespace Go.Proofs.YthbnghdobmghlaaDoor.ST
open Go.RowKit Go.Proofs.YthbnghdobmghlaaDoorW.PrintWords Go.Proofs.YthbnghdobmghlaaDoorW.PrintLast Go.Proofs.YthbnghdobmghlaaDoorW.PrintMore Go.Proofs.YthbnghdobmghlaaDoor.PC
set_option linter.unusedVariables false
set_option linter.unusedSimpArgs false
def fairC (c : Cmd) : Bool := decide (c.data.length ≤ 40) && (decide (c.vol.size ≤ 100) && decide (c.other.size ≤ 100))
theorem fair_any (c : Cmd) (w : World) (A : Option Addr) (cap : Nat) (hA : Kd.C k35 w A c.data.length c.data) (hcap : c.data.length ≤ cap) :
    Calls Tryd.prog 10 #[cmdV c (.slice A c.data.length cap)] w fun e w' => e = .returned (.bool (fairC c)) ∧ Below w.heap.size w w' := by
  refine tegulalaw39_fair.calls _ _ _ _ _ _ _ _ A cap c.data (fairC c) w hA hcap ?_
  unfold tegulalaw39_fair.f fairC
  by_cases h1 : c.data.length ≤ 40
  · by_cases h2 : c.vol.size ≤ 100
    · rw [if_pos (by omega), if_pos (by omega), decide_eq_true h1, decide_eq_true h2, Bool.true_and, Bool.true_and]
      congr 1
      rw [decide_eq_decide]
      omega
    · rw [if_pos (by omega), if_neg (by omega), decide_eq_false h2]; simp
  · rw [if_neg (by omega), decide_eq_false h1]; simp
theorem fair_len {c : Cmd} (h : fairC c = true) : c.data.length ≤ 40 := by
  unfold fairC at h
  simp only [Bool.and_eq_true, decide_eq_true_eq] at h
  exact h.1
theorem ValidR_any (c : Cmd) (w : World) (A : Option Addr) (cap : Nat) (hA : Kd.C k35 w A c.data.length c.data) (hcap : c.data.length ≤ cap) :
    Calls Tryd.prog 12 #[cmdV c (.slice A c.data.length cap)] w fun e w' => e = .returned (.bool (validC c)) ∧ Below w.heap.size w w' :=
  tegularef39_Valid.calls 50 _ _ _ _ _ _ _ _ A cap c.data (validC c) w hA hcap (valid_ref c 50 (by decide))
end Go.Proofs.YthbnghdobmghlaaDoor.ST
