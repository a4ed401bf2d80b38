import Derived.Test.YthbnghdobmghlaaDoorQL2
namespace Go.Proofs.YthbnghdobmghlaaDoor.ST
set_option linter.unusedVariables false
def comm (p : Int) : Nat → Int → Int → Bool
  | 0, _, _ => false
  | k + 1, q, m => comm p k q m || (decide (q ≤ p + k) && decide (p + k < q + m))
theorem comm_iff (p q m : Int) : ∀ k, comm p k q m = true ↔ ∃ j : Nat, j < k ∧ q ≤ p + j ∧ p + j < q + m
  | 0 => by simp [comm]
  | k + 1 => by
    simp only [comm, Bool.or_eq_true, Bool.and_eq_true, decide_eq_true_eq, comm_iff p q m k]
    constructor
    · rintro (⟨j, h1, h2⟩ | h)
      · exact ⟨j, by omega, h2⟩
      · exact ⟨k, by omega, h⟩
    · rintro ⟨j, h1, h2⟩
      by_cases h : j = k
      · subst h; exact Or.inr h2
      · exact Or.inl ⟨j, by omega, h2⟩
theorem comm_all (p n q m : Int) (hn : 1 ≤ n) (hm : 1 ≤ m) : comm p n.toNat q m = (decide (p < q + m) && decide (q < p + n)) := by
  rw [Bool.eq_iff_iff, comm_iff]
  simp only [Bool.and_eq_true, decide_eq_true_eq]
  constructor
  · rintro ⟨j, h1, h2, h3⟩
    omega
  · rintro ⟨h1, h2⟩
    by_cases h : q ≤ p
    · exact ⟨0, by omega, by omega, by omega⟩
    · exact ⟨(q - p).toNat, by omega, by omega, by omega⟩
theorem valid_len {c : Cmd} (h : validC c = true) (h3 : c.kind ≤ 3) : 1 ≤ c.len := by
  rw [valid_is] at h
  obtain ⟨ht, ho, h⟩ := h
  rcases h with ⟨k, n, i, l, f, ot, d⟩ | ⟨k, n, i, l, dl, ot⟩ | ⟨k, n, i, ot, d⟩ | ⟨k, v, f, ot, p, l, d⟩ | ⟨k, n, i, f, ot, d⟩ | ⟨k, n, n2, ne, f, p, l, d⟩ | ⟨k, n, f, ot, p, l, d⟩
  · have := (inside_iff _ _).1 i; omega
  · have := (inside_iff _ _).1 i; omega
  · have := (inside_iff _ _).1 i; omega
  all_goals omega
theorem blocks_over {a b : Cmd} (ha : validC a = true) (hb : validC b = true) (h3 : a.kind ≤ 3) (h4 : b.kind ≤ 3) :
    overC a b = (decide (a.vol = b.vol) && (comm a.pos a.len.toNat b.pos b.len && (a.kind != 1 || b.kind != 1))) := by
  have la := valid_bd ha
  have lb := valid_bd hb
  unfold overC meetC
  rw [ha, hb, comm_all _ _ _ _ (valid_len ha h3) (valid_len hb h4), decide_eq_true h3, decide_eq_true h4, if_neg (by omega)]
  simp only [Bool.true_and, Bool.and_assoc]
end Go.Proofs.YthbnghdobmghlaaDoor.ST
