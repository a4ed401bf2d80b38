/- How long a slice of faults can be under the second form's bound. -/
import Derived.Test.YtgofecclceoeiaaDoorRows
namespace Go.Proofs.YtgofecclceoeiaaDoor.ST
open Go
theorem bulk_pos {H : Type} (d : DataW H) : 1 ≤ Rows.uptoBulk d := by
  cases d with
  | lit l => cases l <;> simp [Rows.uptoBulk]
  | _ => simp [Rows.uptoBulk]
theorem bulk_len {H : Type} : ∀ (l : List (DataW H)), l.length ≤ Rows.uptoBulkAll l
  | [] => by simp [Rows.uptoBulkAll]
  | d :: r => by
    have h1 := bulk_pos d
    have h2 := bulk_len r
    simp only [Rows.uptoBulkAll, List.length_cons]
    omega
theorem upto_len {H : Type} {d : DataW H} {len : Nat} (h : Rows.uptoSmall H ([d] ++ []) = true) (hd : d = .nil ∧ len = 0 ∨ ∃ el sp, d = .slice el sp ∧ el.length = len) : len ≤ 1048576 := by
  have h1 := of_decide_eq_true h
  rcases hd with ⟨_, rfl⟩ | ⟨el, sp, rfl, rfl⟩
  · exact Nat.zero_le _
  · have h2 := bulk_len el
    simp only [List.append_nil, Rows.uptoBulkAll, Rows.uptoBulk] at h1
    omega
end Go.Proofs.YtgofecclceoeiaaDoor.ST
