import Derived.Test.YthbnghdobmghlaaDoorQL1
namespace Go.Proofs.YthbnghdobmghlaaDoor.ST
open Go.RowKit Go.Proofs.YthbnghdobmghlaaDoorW.PrintWords Go.Proofs.YthbnghdobmghlaaDoorW.PrintLast Go.Proofs.YthbnghdobmghlaaDoorW.PrintMore Go.Proofs.YthbnghdobmghlaaDoor.PC
set_option linter.unusedVariables false
set_option linter.unusedSimpArgs false
def meetC (a b : Cmd) : Bool := decide (a.vol = b.vol) && (decide (a.pos < b.pos + b.len) && (decide (b.pos < a.pos + a.len) && (a.kind != 1 || b.kind != 1)))
def overC (a b : Cmd) : Bool := validC a && (validC b && (if 5 ≤ a.kind ∨ 5 ≤ b.kind then sharesB a.vol a.other b.vol b.other else (decide (a.kind ≤ 3) && (decide (b.kind ≤ 3) && meetC a b))))
theorem cvalid (c : Cmd) (h : c.data.length ≤ 140737488355328) : command_Valid.f c.tag c.kind c.order c.force c.vol c.other c.pos c.len c.data = some (validC c) := by unfold command_Valid.f; rw [if_pos h]
def rangeC (c : Cmd) : ByteArray × Int × Int × Bool := if validC c = true ∧ c.kind ≤ 3 then (c.vol, c.pos, c.len, true) else (⟨#[]⟩, 0, 0, false)
theorem range_prog (c : Cmd) (h : c.data.length ≤ 140737488355328) : command_Range.f c.tag c.kind c.order c.force c.vol c.other c.pos c.len c.data = some (rangeC c) := by
  unfold command_Range.f rangeC
  rw [cvalid c h, Option.bind_some]
  cases validC c
  · simp
  · by_cases hk : c.kind > 3
    · rw [if_pos rfl, if_pos hk, if_neg (by omega)]
    · rw [if_pos rfl, if_neg hk, if_pos ⟨rfl, by omega⟩]
theorem range_ref (c : Cmd) (k : Nat) (hk : 40 ≤ k) : tegularef39_Range.f k c.tag c.kind c.order c.force c.vol c.other c.pos c.len c.data = some (rangeC c) := by
  unfold tegularef39_Range.f rangeC
  rw [valid_ref c k hk, Option.bind_some]
  cases hv : validC c
  · simp
  · have hb := (valid_bd hv).1
    rw [if_pos rfl]
    by_cases h1 : c.kind = 1
    · rw [if_pos h1, if_pos ⟨rfl, by omega⟩]
    by_cases h2 : c.kind = 2
    · rw [if_neg h1, if_pos h2, if_pos ⟨rfl, by omega⟩]
    by_cases h3 : c.kind = 3
    · rw [if_neg h1, if_neg h2, if_pos h3, if_pos ⟨rfl, by omega⟩]
    rw [if_neg h1, if_neg h2, if_neg h3, if_neg (by omega)]
theorem range_yes {c : Cmd} (h : validC c = true) (hk : c.kind ≤ 3) : rangeC c = (c.vol, c.pos, c.len, true) := if_pos ⟨h, hk⟩
theorem range_no {c : Cmd} (hk : ¬ c.kind ≤ 3) : rangeC c = (⟨#[]⟩, 0, 0, false) := if_neg (fun q => hk q.2)
theorem sum_wrap {c : Cmd} (hv : validC c = true) : wrap64 (c.pos + c.len) = c.pos + c.len := by
  have h := valid_bd hv
  have hp := h.2.2.2.1
  have hl := h.2.2.2.2.1
  unfold wrap64
  omega
theorem meet_if (a b : Cmd) (ha : validC a = true) (hb : validC b = true) :
    (if a.vol.toList = b.vol.toList then (if a.pos < (wrap64 (b.pos + b.len)) then (if b.pos < (wrap64 (a.pos + a.len)) then (if a.kind = 1 then (some (b.kind != 1)) else (some true)) else (some false)) else (some false)) else (some false)) = some (meetC a b) := by
  rw [sum_wrap ha, sum_wrap hb]
  unfold meetC
  simp only [toList_eqv]
  by_cases h1 : a.vol = b.vol
  · rw [if_pos h1, decide_eq_true h1, Bool.true_and]
    by_cases h2 : a.pos < b.pos + b.len
    · rw [if_pos h2, decide_eq_true h2, Bool.true_and]
      by_cases h3 : b.pos < a.pos + a.len
      · rw [if_pos h3, decide_eq_true h3, Bool.true_and]
        by_cases h4 : a.kind = 1
        · rw [if_pos h4, h4]; simp
        · rw [if_neg h4, show (a.kind != 1) = true by simp [h4]]; simp
      · rw [if_neg h3, decide_eq_false h3, Bool.false_and]
    · rw [if_neg h2, decide_eq_false h2, Bool.false_and]
  · rw [if_neg h1, decide_eq_false h1, Bool.false_and]
theorem over_prog (a b : Cmd) (k : Nat) (hk : 3 ≤ k) (ha : a.data.length ≤ 140737488355328) (hb : b.data.length ≤ 140737488355328) :
    command_Overlap.f k a.tag a.kind a.order a.force a.vol a.other a.pos a.len a.data b.tag b.kind b.order b.force b.vol b.other b.pos b.len b.data = some (overC a b) := by
  obtain ⟨k, rfl⟩ : ∃ m, k = m + 2 := ⟨k - 2, by omega⟩
  unfold command_Overlap.f overC
  rw [cvalid a ha, cvalid b hb, Option.bind_some, Option.bind_some]
  cases hva : validC a
  · simp [command_Overlap.j0]
  cases hvb : validC b
  · simp [command_Overlap.j0]
  have hka := (valid_bd hva).1
  have hkb := (valid_bd hvb).1
  have hj1 : command_Overlap.j1 (k + 1) (decide (5 ≤ a.kind ∨ 5 ≤ b.kind)) a.tag a.kind a.order a.force a.vol a.other a.pos a.len a.data b.tag b.kind b.order b.force b.vol b.other b.pos b.len b.data = some (if 5 ≤ a.kind ∨ 5 ≤ b.kind then sharesB a.vol a.other b.vol b.other else (decide (a.kind ≤ 3) && (decide (b.kind ≤ 3) && meetC a b))) := by
    simp only [command_Overlap.j1]
    by_cases h5 : 5 ≤ a.kind ∨ 5 ≤ b.kind
    · rw [decide_eq_true h5, if_pos rfl, if_pos h5]
      rfl
    · rw [decide_eq_false h5, if_neg (by decide), if_neg h5, range_prog a ha, range_prog b hb, Option.bind_some, Option.bind_some]
      by_cases h3 : a.kind ≤ 3
      · by_cases h4 : b.kind ≤ 3
        · rw [range_yes hva h3, range_yes hvb h4, decide_eq_true h3, decide_eq_true h4, Bool.true_and, Bool.true_and]
          exact meet_if a b hva hvb
        · rw [range_yes hva h3, range_no h4, decide_eq_false h4]
          simp
      · rw [range_no h3, decide_eq_false h3]
        simp
  simp only [command_Overlap.j0, if_true, Bool.not_true, if_neg (show ¬ (false = true) by decide), Bool.true_and]
  by_cases h5 : a.kind ≥ 5
  · rw [if_pos h5, ← hj1, decide_eq_true (Or.inl h5)]
  · rw [if_neg h5, ← hj1]
    congr 1
    rw [decide_eq_decide]
    constructor
    · intro h; exact Or.inr h
    · rintro (h | h)
      · exact absurd h h5
      · exact h
theorem shares_iff (a4 a5 b4 b5 : ByteArray) : sharesB a4 a5 b4 b5 = true ↔ (a4 ≠ ⟨#[]⟩ ∧ (a4 = b4 ∨ a4 = b5)) ∨ (a5 ≠ ⟨#[]⟩ ∧ (a5 = b4 ∨ a5 = b5)) := by
  unfold sharesB share1
  simp only [Bool.or_eq_true, Bool.and_eq_true, toList_iff, Bool.not_eq_true', ← Bool.not_eq_true, empty_iff]
theorem names_iff (a : Cmd) (n : ByteArray) : ∃ r, tegularef39_names.f a.tag a.kind a.order a.force a.vol a.other a.pos a.len a.data n = some r ∧ (r = true ↔ n ≠ ⟨#[]⟩ ∧ (a.vol = n ∨ a.other = n)) := by
  unfold tegularef39_names.f
  simp only [toList_nil, toList_eqv]
  by_cases h1 : n = ⟨#[]⟩
  · exact ⟨false, by rw [if_pos h1], by simp [h1]⟩
  · by_cases h2 : a.vol = n
    · exact ⟨true, by rw [if_neg h1, if_pos h2], by simp [h1, h2]⟩
    · refine ⟨a.other.toList == n.toList, by rw [if_neg h1, if_neg h2], ?_⟩
      rw [toList_iff]
      simp [h1, h2]
theorem over_ref (a b : Cmd) (k : Nat) (hk : 45 ≤ k) :
    tegularef39_Overlap.f k a.tag a.kind a.order a.force a.vol a.other a.pos a.len a.data b.tag b.kind b.order b.force b.vol b.other b.pos b.len b.data = some (overC a b) := by
  obtain ⟨k, rfl⟩ : ∃ m, k = m + 3 := ⟨k - 3, by omega⟩
  unfold tegularef39_Overlap.f overC
  rw [valid_ref a _ (by omega), valid_ref b _ (by omega), Option.bind_some, Option.bind_some]
  cases hva : validC a
  · simp [tegularef39_Overlap.j0]
  cases hvb : validC b
  · simp [tegularef39_Overlap.j0]
  have hka := (valid_bd hva).1
  have hkb := (valid_bd hvb).1
  have hj2 : tegularef39_Overlap.j2 (k + 1) false a.tag a.kind a.order a.force a.vol a.other a.pos a.len a.data b.tag b.kind b.order b.force b.vol b.other b.pos b.len b.data = some (sharesB a.vol a.other b.vol b.other) := by
    simp only [tegularef39_Overlap.j2, if_neg (show ¬ (false = true) by decide)]
    obtain ⟨r1, e1, h1⟩ := names_iff a b.vol
    obtain ⟨r2, e2, h2⟩ := names_iff a b.other
    rw [e1, e2, Option.bind_some, Option.bind_some]
    have hs := shares_iff a.vol a.other b.vol b.other
    cases r1
    · rw [if_neg (by decide)]
      congr 1
      rw [Bool.eq_iff_iff, h2, hs]
      have hn : ¬ (b.vol ≠ ⟨#[]⟩ ∧ (a.vol = b.vol ∨ a.other = b.vol)) := fun q => by have := h1.2 q; cases this
      constructor
      · rintro ⟨q, q1 | q1⟩
        · exact Or.inl ⟨by rw [q1]; exact q, Or.inr q1⟩
        · exact Or.inr ⟨by rw [q1]; exact q, Or.inr q1⟩
      · rintro (⟨q, q1 | q1⟩ | ⟨q, q1 | q1⟩)
        · exact absurd ⟨by rw [← q1]; exact q, Or.inl q1⟩ hn
        · exact ⟨by rw [← q1]; exact q, Or.inl q1⟩
        · exact absurd ⟨by rw [← q1]; exact q, Or.inr q1⟩ hn
        · exact ⟨by rw [← q1]; exact q, Or.inr q1⟩
    · rw [if_pos rfl]
      congr 1
      obtain ⟨q, q1⟩ := h1.1 rfl
      rw [eq_comm, hs]
      rcases q1 with q1 | q1
      · exact Or.inl ⟨by rw [q1]; exact q, Or.inl q1⟩
      · exact Or.inr ⟨by rw [q1]; exact q, Or.inl q1⟩
  have hj2t : tegularef39_Overlap.j2 (k + 1) true a.tag a.kind a.order a.force a.vol a.other a.pos a.len a.data b.tag b.kind b.order b.force b.vol b.other b.pos b.len b.data = some false := by
    simp only [tegularef39_Overlap.j2, if_true]
  simp only [tegularef39_Overlap.j0, if_true, Bool.not_true, if_neg (show ¬ (false = true) by decide), Bool.true_and, range_ref a (k + 2) (by omega), range_ref b (k + 2) (by omega), Option.bind_some]
  by_cases h3 : a.kind ≤ 3
  · by_cases h4 : b.kind ≤ 3
    · simp only [range_yes hva h3, range_yes hvb h4, if_true]
      rw [if_neg (show ¬ (5 ≤ a.kind ∨ 5 ≤ b.kind) by omega), decide_eq_true h3, decide_eq_true h4, Bool.true_and, Bool.true_and]
      simp only [tegularef39_Overlap.j1, if_true]
      exact meet_if a b hva hvb
    · simp only [range_yes hva h3, range_no h4, if_true]
      simp only [tegularef39_Overlap.j1, if_neg (show ¬ (false = true) by decide)]
      rw [if_pos (by omega)]
      by_cases h5 : b.kind < 5
      · rw [decide_eq_true h5, hj2t, if_neg (by omega), decide_eq_false h4]; simp
      · rw [decide_eq_false h5, hj2, if_pos (by omega)]
  · simp only [range_no h3, if_neg (show ¬ (false = true) by decide)]
    simp only [tegularef39_Overlap.j1, if_neg (show ¬ (false = true) by decide)]
    by_cases h6 : a.kind < 5
    · rw [if_pos h6]
      by_cases h5 : b.kind < 5
      · rw [decide_eq_true h5, hj2t, if_neg (by omega), decide_eq_false h3]; simp
      · rw [decide_eq_false h5, hj2, if_pos (by omega)]
    · rw [if_neg h6, hj2, if_pos (by omega)]
theorem over_symm (a b : Cmd) : overC a b = overC b a := by
  have hs : sharesB a.vol a.other b.vol b.other = sharesB b.vol b.other a.vol a.other := by
    rw [Bool.eq_iff_iff, shares_iff, shares_iff]
    constructor
    · rintro (⟨q, q1 | q1⟩ | ⟨q, q1 | q1⟩)
      · exact Or.inl ⟨by rw [← q1]; exact q, Or.inl q1.symm⟩
      · exact Or.inr ⟨by rw [← q1]; exact q, Or.inl q1.symm⟩
      · exact Or.inl ⟨by rw [← q1]; exact q, Or.inr q1.symm⟩
      · exact Or.inr ⟨by rw [← q1]; exact q, Or.inr q1.symm⟩
    · rintro (⟨q, q1 | q1⟩ | ⟨q, q1 | q1⟩)
      · exact Or.inl ⟨by rw [← q1]; exact q, Or.inl q1.symm⟩
      · exact Or.inr ⟨by rw [← q1]; exact q, Or.inl q1.symm⟩
      · exact Or.inl ⟨by rw [← q1]; exact q, Or.inr q1.symm⟩
      · exact Or.inr ⟨by rw [← q1]; exact q, Or.inr q1.symm⟩
  have hm : meetC a b = meetC b a := by
    unfold meetC
    rw [show decide (a.vol = b.vol) = decide (b.vol = a.vol) by rw [decide_eq_decide]; exact eq_comm]
    cases decide (b.vol = a.vol) <;> cases decide (a.pos < b.pos + b.len) <;> cases decide (b.pos < a.pos + a.len) <;> cases (a.kind != 1) <;> cases (b.kind != 1) <;> rfl
  unfold overC
  rw [hs, hm]
  simp only [or_comm]
  cases validC a <;> cases validC b <;> by_cases h : 5 ≤ b.kind ∨ 5 ≤ a.kind <;> simp [h, Bool.and_left_comm]
theorem over_self (c : Cmd) : overC c c = (validC c && (c.kind != 1 && c.kind != 4)) := by
  unfold overC
  cases hv : validC c
  · rfl
  simp only [Bool.true_and, or_self]
  have hb := valid_bd hv
  have hi := (valid_is c).1 hv
  by_cases h5 : 5 ≤ c.kind
  · rw [if_pos h5]
    have hn : nameB c.vol = true := by
      rcases hi.2.2 with h | h | h | h | h | h | h
      · exact h.2.1
      · exact h.2.1
      · exact h.2.1
      · have := h.1; omega
      · exact h.2.1
      · exact h.2.1
      · exact h.2.1
    have hne : c.vol ≠ ⟨#[]⟩ := fun e => by have := (name_bd hn).1; rw [e] at this; exact absurd this (by decide)
    have : sharesB c.vol c.other c.vol c.other = true := (shares_iff _ _ _ _).2 (Or.inl ⟨hne, Or.inl rfl⟩)
    rw [this, show (c.kind != 1) = true by simp; omega, show (c.kind != 4) = true by simp; omega]
    rfl
  · rw [if_neg h5]
    by_cases h4 : c.kind = 4
    · rw [decide_eq_false (by omega), show (c.kind != 4) = false by simp [h4]]; simp
    · rw [decide_eq_true (show c.kind ≤ 3 by omega), show (c.kind != 4) = true by simp [h4]]
      have hl : 1 ≤ c.len := by
        rcases hi.2.2 with h | h | h | h | h | h | h
        · exact ((inside_iff _ _).1 h.2.2.1).2.1
        · exact ((inside_iff _ _).1 h.2.2.1).2.1
        · exact ((inside_iff _ _).1 h.2.2.1).2.1
        all_goals (have := h.1; omega)
      unfold meetC
      rw [decide_eq_true (rfl : c.vol = c.vol), decide_eq_true (show c.pos < c.pos + c.len by omega)]
      cases (c.kind != 1) <;> rfl
end Go.Proofs.YthbnghdobmghlaaDoor.ST
