import Derived.Test.YthbnghdobmghlaaDoorVJ7
import Derived.Test.YthbnghdobmghlaaDoorVPCx0
import Derived.Test.YthbnghdobmghlaaDoorVPCx5
import Derived.Test.YthbnghdobmghlaaDoorVPCx6
import Derived.Test.YthbnghdobmghlaaDoorVPCx2
namespace Go.Proofs.YthbnghdobmghlaaDoor.ST
open Go.RowKit Go.Proofs.YthbnghdobmghlaaDoorW.PrintWords Go.Proofs.YthbnghdobmghlaaDoorW.PrintLast Go.Proofs.YthbnghdobmghlaaDoorW.PrintMore Go.Proofs.YthbnghdobmghlaaDoor.PC
set_option linter.unusedVariables false
set_option linter.unusedSimpArgs false
theorem bt_nat (s : ByteArray) (i : Nat) (h : i < s.size) : bt s i = ((s.data.toList[i]'(by rw [Array.length_toList]; exact h)).toNat : Int) := by
  have := bt_at s i h
  rw [← this]
  rfl
theorem alnum_iff (b : UInt8) : alnum b = true ↔ (97 ≤ (b.toNat : Int) ∧ (b.toNat : Int) ≤ 122) ∨ (48 ≤ (b.toNat : Int) ∧ (b.toNat : Int) ≤ 57) := by
  unfold alnum
  simp only [Bool.or_eq_true, Bool.and_eq_true, decide_eq_true_eq]
  omega
theorem name_loop (s : ByteArray) (hs : s.size ≤ 16) : ∀ (d k i : Nat), s.size - i = d → d < k → i ≤ s.size → tegularef39_Name.l0 k s (i : Int) = some ((s.data.toList.drop i).all alnum && (decide (i ≠ 0) || decide (s.size = 0) || (decide (97 ≤ bt s 0) && decide (bt s 0 ≤ 122))))
  | 0, k, i, hd, hk, hi => by
    obtain ⟨k, rfl⟩ : ∃ m, k = m + 1 := ⟨k - 1, by omega⟩
    have e : i = s.size := by omega
    simp only [tegularef39_Name.l0]
    rw [if_neg (by omega), List.drop_eq_nil_of_le (by rw [Array.length_toList]; show s.size ≤ i; omega)]
    have : (decide (i ≠ 0) || decide (s.size = 0)) = true := by
      by_cases h : s.size = 0
      · rw [decide_eq_true h, Bool.or_true]
      · rw [decide_eq_true (show i ≠ 0 by omega), Bool.true_or]
    rw [this]
    rfl
  | d + 1, k, i, hd, hk, hi => by
    obtain ⟨k, rfl⟩ : ∃ m, k = m + 1 := ⟨k - 1, by omega⟩
    have hlt : i < s.size := by omega
    have hl : i < s.data.toList.length := by rw [Array.length_toList]; exact hlt
    have ih := name_loop s hs d k (i + 1) (by omega) (by omega) (by omega)
    have hw : wrap64 ((i : Int) + 1) = ((i + 1 : Nat) : Int) := by unfold wrap64; omega
    simp only [tegularef39_Name.l0]
    rw [if_pos (by omega), if_pos (by omega), hw, ih, List.drop_eq_getElem_cons hl, List.all_cons]
    have hb := bt_nat s i hlt
    have ha := alnum_iff s.data.toList[i]
    rw [← hb] at ha
    generalize hq : alnum s.data.toList[i] = q at ha ⊢
    generalize (s.data.toList.drop (i + 1)).all alnum = T
    have e1 : (decide (i + 1 ≠ 0) || decide (s.size = 0) || (decide (97 ≤ bt s 0) && decide (bt s 0 ≤ 122))) = true := by rw [decide_eq_true (show i + 1 ≠ 0 by omega), Bool.true_or, Bool.true_or]
    rw [e1, Bool.and_true]
    have hz : decide (s.size = 0) = false := decide_eq_false (by omega)
    rw [hz, Bool.or_false]
    clear hq hb
    by_cases h0 : i = 0
    · subst h0
      have hd0 : decide ((0 : Nat) ≠ 0) = false := by decide
      rw [hd0, Bool.false_or]
      have hc : ((0 : Nat) : Int) = 0 := rfl
      rw [hc] at ha ⊢
      by_cases h1 : 97 ≤ bt s 0
      · by_cases h2 : bt s 0 ≤ 122
        · have hq : q = true := ha.2 (Or.inl ⟨h1, h2⟩)
          rw [if_pos h1, if_pos h2, hq, decide_eq_true h1, decide_eq_true h2]
          simp
        · rw [if_pos h1, if_neg h2, if_pos rfl, decide_eq_false h2]
          simp
      · rw [if_neg h1, if_pos rfl, decide_eq_false h1]
        simp
    · have hi0 : ¬ ((i : Int) = 0) := by omega
      have hd0 : decide (i ≠ 0) = true := decide_eq_true h0
      rw [hd0, Bool.true_or, Bool.and_true]
      by_cases h1 : 97 ≤ bt s i
      · by_cases h2 : bt s i ≤ 122
        · have hq : q = true := ha.2 (Or.inl ⟨h1, h2⟩)
          rw [if_pos h1, if_pos h2, hq, Bool.true_and]
        · have hq : q = false := by
            cases q
            · rfl
            · have := ha.1 rfl; omega
          rw [if_pos h1, if_neg h2, if_neg hi0, if_neg (by omega), if_pos (by omega), hq, Bool.false_and]
      · by_cases h3 : bt s i < 48
        · have hq : q = false := by
            cases q
            · rfl
            · have := ha.1 rfl; omega
          rw [if_neg h1, if_neg hi0, if_pos h3, hq, Bool.false_and]
        · by_cases h4 : bt s i > 57
          · have hq : q = false := by
              cases q
              · rfl
              · have := ha.1 rfl; omega
            rw [if_neg h1, if_neg hi0, if_neg h3, if_pos h4, hq, Bool.false_and]
          · have hq : q = true := ha.2 (Or.inr ⟨by omega, by omega⟩)
            rw [if_neg h1, if_neg hi0, if_neg h3, if_neg h4, hq, Bool.true_and]
theorem name_ref (s : ByteArray) (k : Nat) (hk : 30 ≤ k) : tegularef39_Name.f k s = some (nameB s) := by
  obtain ⟨k, rfl⟩ : ∃ m, k = m + 1 := ⟨k - 1, by omega⟩
  unfold tegularef39_Name.f nameB
  by_cases h1 : s.size < 1
  · rw [if_pos (by omega), decide_eq_false (show ¬ 1 ≤ s.size by omega)]
    simp [tegularef39_Name.j0]
  · rw [if_neg (by omega), decide_eq_true (show 1 ≤ s.size by omega)]
    by_cases h2 : s.size ≤ 16
    · rw [decide_eq_true h2, decide_eq_false (by omega)]
      simp only [tegularef39_Name.j0, if_neg (show ¬ (false = true) by decide)]
      have := name_loop s h2 s.size k 0 (by omega) (by omega) (by omega)
      rw [show ((0 : Nat) : Int) = 0 from rfl] at this
      rw [this]
      have hz : ¬ s.size = 0 := by omega
      simp [hz, Bool.and_comm, Bool.and_left_comm]
    · rw [decide_eq_false h2, decide_eq_true (by omega)]
      simp [tegularef39_Name.j0]
theorem within_ref (p n : Int) : tegularef39_within.f p n = some (insideB p n) := by
  unfold tegularef39_within.f insideB
  by_cases h0 : 0 ≤ p
  · by_cases h1 : 1 ≤ n
    · by_cases h2 : p ≤ 65536
      · by_cases h3 : n ≤ 65536
        · rw [if_pos (by omega), if_pos (by omega), if_pos h2, if_pos h3, decide_eq_true h0, decide_eq_true h1, decide_eq_true h2, Bool.true_and, Bool.true_and, Bool.true_and]
          congr 1
          have : wrap64 (p + n) = p + n := by unfold wrap64; omega
          rw [this, decide_eq_decide]
          omega
        · rw [if_pos (by omega), if_pos (by omega), if_pos h2, if_neg h3, decide_eq_false (show ¬ n ≤ 65536 - p by omega)]; simp
      · rw [if_pos (by omega), if_pos (by omega), if_neg h2, decide_eq_false h2]; simp
    · rw [if_pos (by omega), if_neg (by omega), decide_eq_false h1]; simp
  · rw [if_neg (by omega), decide_eq_false h0]; simp
theorem of_iff {c : Cmd} {b : Bool} (h : b = true ↔ isValid c) : some b = some (validC c) := by
  congr 1
  rw [Bool.eq_iff_iff, valid_is]
  exact h
theorem j1_ref (t kd o : Int) (f : Bool) (v ot : ByteArray) (p l : Int) (d : List S35) (k : Nat) (hk : 30 ≤ k) (bare : Bool) (hb : bare = true ↔ (ot = ⟨#[]⟩ ∧ d = [])) (ht : 0 ≤ t ∧ t ≤ 2147483647) (ho : o = 0 ∨ o = 1) :
    tegularef39_Valid.j1 (k + 1) (nameB v) bare t kd o f v ot p l d = some (validC ⟨t, kd, o, f, v, ot, p, l, d⟩) := by
  simp only [tegularef39_Valid.j1, within_ref, name_ref _ k hk, Option.bind_some, toList_eqv, toList_nil]
  by_cases k1 : kd = 1
  · subst k1
    rw [if_pos rfl]
    refine Eq.trans (b := some (nameB v && (bare && (!f && (insideB p l && decide (l ≤ 16)))))) ?_ (of_iff ?_)
    · cases nameB v <;> cases bare <;> cases f <;> cases insideB p l <;> simp
    · simp only [isValid, Bool.and_eq_true, hb, decide_eq_true_eq, Bool.not_eq_true']
      constructor
      · rintro ⟨h1, ⟨h2, h3⟩, h4, h5, h6⟩; exact ⟨ht, ho, Or.inl ⟨by trivial, h1, h5, h6, h4, h2, h3⟩⟩
      · rintro ⟨_, _, h | h | h | h | h | h | h⟩ <;> first | (exact ⟨h.2.1, ⟨h.2.2.2.2.2.1, h.2.2.2.2.2.2⟩, h.2.2.2.2.1, h.2.2.1, h.2.2.2.1⟩) | (have := h.1; omega)
  rw [if_neg k1]
  by_cases k2 : kd = 2
  · subst k2
    rw [if_pos rfl]
    refine Eq.trans (b := some (nameB v && (decide (ot = ⟨#[]⟩) && (insideB p l && (decide (l ≤ 16) && ((d.length : Int) == l)))))) ?_ (of_iff ?_)
    · cases nameB v <;> by_cases h : ot = ⟨#[]⟩ <;> cases insideB p l <;> by_cases h2 : l ≤ 16 <;> simp [h, h2]
    · simp only [isValid, Bool.and_eq_true, decide_eq_true_eq, beq_iff_eq]
      constructor
      · rintro ⟨h1, h2, h3, h4, h5⟩; exact ⟨ht, ho, Or.inr (Or.inl ⟨by trivial, h1, h3, h4, h5, h2⟩)⟩
      · rintro ⟨_, _, h | h | h | h | h | h | h⟩ <;> first | (exact ⟨h.2.1, h.2.2.2.2.2, h.2.2.1, h.2.2.2.1, h.2.2.2.2.1⟩) | (have := h.1; omega)
  rw [if_neg k2]
  by_cases k3 : kd = 3
  · subst k3
    rw [if_pos rfl]
    refine Eq.trans (b := some (nameB v && (bare && insideB p l))) ?_ (of_iff ?_)
    · cases nameB v <;> cases bare <;> cases insideB p l <;> simp
    · simp only [isValid, Bool.and_eq_true, hb]
      constructor
      · rintro ⟨h1, ⟨h2, h3⟩, h4⟩; exact ⟨ht, ho, Or.inr (Or.inr (Or.inl ⟨by trivial, h1, h4, h2, h3⟩))⟩
      · rintro ⟨_, _, h | h | h | h | h | h | h⟩ <;> first | (exact ⟨h.2.1, ⟨h.2.2.2.1, h.2.2.2.2⟩, h.2.2.1⟩) | (have := h.1; omega)
  rw [if_neg k3]
  by_cases k4 : kd = 4
  · subst k4
    rw [if_pos rfl]
    refine Eq.trans (b := some (decide (v = ⟨#[]⟩) && (bare && (!f && (decide (p = 0) && (l == 0)))))) ?_ (of_iff ?_)
    · by_cases h : v = ⟨#[]⟩ <;> cases bare <;> cases f <;> by_cases h2 : p = 0 <;> simp [h, h2]
    · simp only [isValid, Bool.and_eq_true, hb, decide_eq_true_eq, beq_iff_eq, Bool.not_eq_true']
      constructor
      · rintro ⟨h1, ⟨h2, h3⟩, h4, h5, h6⟩; exact ⟨ht, ho, Or.inr (Or.inr (Or.inr (Or.inl ⟨by trivial, h1, h4, h2, h5, h6, h3⟩)))⟩
      · rintro ⟨_, _, h | h | h | h | h | h | h⟩ <;> first | (exact ⟨h.2.1, ⟨h.2.2.2.1, h.2.2.2.2.2.2⟩, h.2.2.1, h.2.2.2.2.1, h.2.2.2.2.2.1⟩) | (have := h.1; omega)
  rw [if_neg k4]
  by_cases k5 : kd = 5
  · subst k5
    rw [if_pos rfl]
    refine Eq.trans (b := some (nameB v && (bare && (!f && (decide (1 ≤ l) && (decide (l ≤ 65536) && (decide (0 ≤ p) && decide (p ≤ l)))))))) ?_ (of_iff ?_)
    · cases nameB v <;> cases bare <;> cases f <;> by_cases h : 1 ≤ l <;> by_cases h2 : l ≤ 65536 <;> by_cases h3 : 0 ≤ p <;> simp [h, h2, h3]
    · simp only [isValid, Bool.and_eq_true, hb, decide_eq_true_eq, Bool.not_eq_true']
      constructor
      · rintro ⟨h1, ⟨h2, h3⟩, h4, h5, h6, h7, h8⟩; exact ⟨ht, ho, Or.inr (Or.inr (Or.inr (Or.inr (Or.inl ⟨by trivial, h1, ⟨h5, h6, h7, h8⟩, h4, h2, h3⟩))))⟩
      · rintro ⟨_, _, h | h | h | h | h | h | h⟩ <;> first | (exact ⟨h.2.1, ⟨h.2.2.2.2.1, h.2.2.2.2.2⟩, h.2.2.2.1, h.2.2.1⟩) | (have := h.1; omega)
  rw [if_neg k5]
  by_cases k6 : kd = 6
  · subst k6
    rw [if_pos rfl]
    refine Eq.trans (b := some (nameB v && (nameB ot && (!decide (ot = v) && (decide (d = []) && (!f && (decide (p = 0) && (l == 0)))))))) ?_ (of_iff ?_)
    · cases nameB v <;> cases nameB ot <;> by_cases h : ot = v <;> cases d <;> cases f <;> by_cases h2 : p = 0 <;> simp [h, h2]
      all_goals omega
    · simp only [isValid, Bool.and_eq_true, decide_eq_true_eq, beq_iff_eq, Bool.not_eq_true', decide_eq_false_iff_not]
      constructor
      · rintro ⟨h1, h2, h3, h4, h5, h6, h7⟩; exact ⟨ht, ho, Or.inr (Or.inr (Or.inr (Or.inr (Or.inr (Or.inl ⟨by trivial, h1, h2, h3, h5, h6, h7, h4⟩)))))⟩
      · rintro ⟨_, _, h | h | h | h | h | h | h⟩ <;> first | (exact ⟨h.2.1, h.2.2.1, h.2.2.2.1, h.2.2.2.2.2.2.2, h.2.2.2.2.1, h.2.2.2.2.2.1, h.2.2.2.2.2.2.1⟩) | (have := h.1; omega)
  rw [if_neg k6]
  by_cases k7 : kd = 7
  · subst k7
    rw [if_pos rfl]
    refine Eq.trans (b := some (nameB v && (bare && (!f && (decide (p = 0) && (l == 0)))))) ?_ (of_iff ?_)
    · cases nameB v <;> cases bare <;> cases f <;> by_cases h2 : p = 0 <;> simp [h2]
    · simp only [isValid, Bool.and_eq_true, hb, decide_eq_true_eq, beq_iff_eq, Bool.not_eq_true']
      constructor
      · rintro ⟨h1, ⟨h2, h3⟩, h4, h5, h6⟩; exact ⟨ht, ho, Or.inr (Or.inr (Or.inr (Or.inr (Or.inr (Or.inr ⟨by trivial, h1, h4, h2, h5, h6, h3⟩)))))⟩
      · rintro ⟨_, _, h | h | h | h | h | h | h⟩ <;> first | (exact ⟨h.2.1, ⟨h.2.2.2.1, h.2.2.2.2.2.2⟩, h.2.2.1, h.2.2.2.2.1, h.2.2.2.2.2.1⟩) | (have := h.1; omega)
  rw [if_neg k7]
  refine of_iff ⟨(fun h => by cases h), ?_⟩
  rintro ⟨_, _, h | h | h | h | h | h | h⟩ <;> exact absurd h.1 (by assumption)
theorem valid_ref (c : Cmd) (k : Nat) (hk : 40 ≤ k) : tegularef39_Valid.f k c.tag c.kind c.order c.force c.vol c.other c.pos c.len c.data = some (validC c) := by
  obtain ⟨k, rfl⟩ : ∃ m, k = m + 2 := ⟨k - 2, by omega⟩
  obtain ⟨t, kd, o, f, v, ot, p, l, d⟩ := c
  unfold tegularef39_Valid.f
  simp only
  by_cases h0 : t < 0
  · rw [if_pos h0]
    simp only [tegularef39_Valid.j0, if_true]
    exact of_iff ⟨(fun h => by cases h), fun h => by have := h.1.1; simp only at this; omega⟩
  by_cases h1 : t ≥ 2147483648
  · rw [if_neg h0, if_pos h1]
    simp only [tegularef39_Valid.j0, if_true]
    exact of_iff ⟨(fun h => by cases h), fun h => by have := h.1.2; simp only at this; omega⟩
  rw [if_neg h0, if_neg h1]
  have go : (o = 0 ∨ o = 1) → tegularef39_Valid.j0 (k + 2) false t kd o f v ot p l d = some (validC ⟨t, kd, o, f, v, ot, p, l, d⟩) := fun ho => by
    simp only [tegularef39_Valid.j0, if_neg (show ¬ (false = true) by decide), name_ref _ (k + 1) (show 30 ≤ k + 1 by omega), Option.bind_some, toList_nil]
    by_cases hot : ot = ⟨#[]⟩
    · rw [if_pos hot]
      refine j1_ref t kd o f v ot p l d k (by omega) _ ?_ ⟨by omega, by omega⟩ ho
      rw [beq_iff_eq]
      constructor
      · intro h; exact ⟨hot, List.length_eq_zero_iff.1 (by omega)⟩
      · rintro ⟨_, rfl⟩; rfl
    · rw [if_neg hot]
      refine j1_ref t kd o f v ot p l d k (by omega) _ ?_ ⟨by omega, by omega⟩ ho
      constructor
      · intro h; cases h
      · rintro ⟨h, _⟩; exact absurd h hot
  by_cases o0 : o = 0
  · rw [if_pos o0]; exact go (Or.inl o0)
  rw [if_neg o0]
  by_cases o1 : o = 1
  · rw [show (o != 1) = false by rw [o1]; rfl]; exact go (Or.inr o1)
  · rw [show (o != 1) = true by simp [o1]]
    simp only [tegularef39_Valid.j0, if_true]
    exact of_iff ⟨(fun h => by cases h), fun h => by have := h.2.1; simp only at this; omega⟩
end Go.Proofs.YthbnghdobmghlaaDoor.ST
