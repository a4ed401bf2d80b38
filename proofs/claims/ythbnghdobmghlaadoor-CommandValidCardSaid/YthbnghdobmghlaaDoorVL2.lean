import Derived.Test.YthbnghdobmghlaaDoorVL1
namespace Go.Proofs.YthbnghdobmghlaaDoor.ST
open Go.RowKit Go.Proofs.YthbnghdobmghlaaDoorW.PrintWords Go.Proofs.YthbnghdobmghlaaDoorW.PrintLast Go.Proofs.YthbnghdobmghlaaDoorW.PrintMore Go.Proofs.YthbnghdobmghlaaDoor.PC
set_option linter.unusedVariables false
set_option linter.unusedSimpArgs false
theorem cvalid (c : Cmd) (h : c.data.length ≤ 140737488355328) : command_Valid.f c.tag c.kind c.order c.force c.vol c.other c.pos c.len c.data = some (validC c) := by unfold command_Valid.f; rw [if_pos h]
def rangeC (c : Cmd) : ByteArray × Int × Int × Bool := if validC c = true ∧ c.kind ≤ 3 then (c.vol, c.pos, c.len, true) else (⟨#[]⟩, 0, 0, false)
theorem range_prog (c : Cmd) (h : c.data.length ≤ 140737488355328) : command_Range.f c.tag c.kind c.order c.force c.vol c.other c.pos c.len c.data = some (rangeC c) := by
  unfold command_Range.f rangeC
  rw [cvalid c h, Option.bind_some]
  cases validC c
  · simp
  · by_cases hk : c.kind > 3
    · rw [if_pos rfl, if_pos hk, if_neg (by omega)]
    · rw [if_pos rfl, if_neg hk, if_pos ⟨rfl, by omega⟩]
theorem range_ref (c : Cmd) (k : Nat) (hk : 40 ≤ k) : tegularef39_Range.f k c.tag c.kind c.order c.force c.vol c.other c.pos c.len c.data = some (rangeC c) := by
  unfold tegularef39_Range.f rangeC
  rw [valid_ref c k hk, Option.bind_some]
  cases hv : validC c
  · simp
  · have hb := (valid_bd hv).1
    rw [if_pos rfl]
    by_cases h1 : c.kind = 1
    · rw [if_pos h1, if_pos ⟨rfl, by omega⟩]
    by_cases h2 : c.kind = 2
    · rw [if_neg h1, if_pos h2, if_pos ⟨rfl, by omega⟩]
    by_cases h3 : c.kind = 3
    · rw [if_neg h1, if_neg h2, if_pos h3, if_pos ⟨rfl, by omega⟩]
    rw [if_neg h1, if_neg h2, if_neg h3, if_neg (by omega)]
end Go.Proofs.YthbnghdobmghlaaDoor.ST
