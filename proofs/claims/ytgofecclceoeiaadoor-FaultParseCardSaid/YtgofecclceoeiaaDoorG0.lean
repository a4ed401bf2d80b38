/- Valid lists of faults and their texts, as plain functions. -/
import Derived.Test.YtgofecclceoeiaaDoorPFx2
import Derived.Test.YtgofecclceoeiaaDoorPFx3
import Derived.Test.YtgofecclceoeiaaDoorPFx4
import Derived.Lib.Join
import Derived.Lib.ItoaNum
import Derived.Lib.ItoaLen
namespace Go.Proofs.YtgofecclceoeiaaDoor.ST
open Go.RowKit Go.Proofs.YtgofecclceoeiaaDoorW.PrintWords Go.Proofs.YtgofecclceoeiaaDoorW.PrintLast Go.Proofs.YtgofecclceoeiaaDoorW.PrintMore Go.Proofs.YtgofecclceoeiaaDoor.PF
set_option linter.unusedVariables false
set_option linter.unusedSimpArgs false

/-- A fault that may stand behind one with the number 'last'. -/
def good1 (last : Int) (x : S32) : Bool := decide (last < x.f0) && decide (1 ≤ x.f1) && decide (x.f1 ≤ 7) && decide (0 ≤ x.f2) && (x.f2 == 0 || x.f1 == 3 || x.f1 == 5)
def okAll : Int → List S32 → Bool
  | _, [] => true
  | last, x :: r => good1 last x && okAll x.f0 r

theorem rd_at (l : List S32) (i : Nat) (h : i < l.length) : rd_T32 l (i : Int) = l[i] := by
  unfold rd_T32
  rw [Int.toNat_natCast, List.getD_eq_getElem?_getD, List.getElem?_eq_getElem h]
  rfl
theorem aims_f (a : Int) : fault_aims.f a = some (a == 3 || a == 5) := by
  unfold fault_aims.f
  by_cases h : a = 3
  · rw [if_pos h]; subst h; rfl
  · rw [if_neg h, beq_eq_false_iff_ne.2 h, Bool.false_or]
theorem w64 (i n : Nat) (h : i < n) (hn : n ≤ 140737488355328) : wrap64 ((i : Int) + 1) = ((i + 1 : Nat) : Int) := by
  unfold wrap64; omega

theorem good1_iff (last : Int) (x : S32) : good1 last x = true ↔ last < x.f0 ∧ 1 ≤ x.f1 ∧ x.f1 ≤ 7 ∧ 0 ≤ x.f2 ∧ (x.f2 = 0 ∨ x.f1 = 3 ∨ x.f1 = 5) := by
  unfold good1
  simp only [Bool.and_eq_true, decide_eq_true_eq, Bool.or_eq_true, beq_iff_eq]
  constructor
  · rintro ⟨⟨⟨⟨h1, h2⟩, h3⟩, h4⟩, h5⟩
    exact ⟨h1, h2, h3, h4, by rcases h5 with (h | h) | h <;> simp [h]⟩
  · rintro ⟨h1, h2, h3, h4, h5⟩
    exact ⟨⟨⟨⟨h1, h2⟩, h3⟩, h4⟩, by rcases h5 with h | h | h <;> simp [h]⟩
theorem okAll_cons (last : Int) (x : S32) (r : List S32) : okAll last (x :: r) = (good1 last x && okAll x.f0 r) := rfl
theorem okAll_drop {last : Int} : ∀ {l : List S32} (i : Nat) (h : i < l.length), okAll last l = true → ∃ la, last ≤ la ∧ good1 la l[i] = true ∧ okAll la (l.drop i) = true
  | x :: r, 0, _, h => ⟨last, Int.le_refl _, by rw [okAll_cons, Bool.and_eq_true] at h; exact h.1, h⟩
  | x :: r, i + 1, hi, h => by
    rw [okAll_cons, Bool.and_eq_true] at h
    obtain ⟨la, h1, h2, h3⟩ := okAll_drop i (by simpa using hi) h.2
    refine ⟨la, ?_, by simpa using h2, by simpa using h3⟩
    have := ((good1_iff _ _).1 h.1).1
    omega
theorem okAll_get {l : List S32} (i : Nat) (h : i < l.length) (hv : okAll (-1) l = true) : 0 ≤ (l[i]).f0 ∧ 1 ≤ (l[i]).f1 ∧ (l[i]).f1 ≤ 7 ∧ 0 ≤ (l[i]).f2 ∧ ((l[i]).f2 = 0 ∨ (l[i]).f1 = 3 ∨ (l[i]).f1 = 5) := by
  obtain ⟨la, h1, h2, _⟩ := okAll_drop i h hv
  have := (good1_iff _ _).1 h2
  exact ⟨by omega, this.2⟩
/-- fault.Valid. -/
theorem valid_l0 (l : List S32) (hn : l.length ≤ 140737488355328) : ∀ (k i : Nat) (last : Int), i ≤ l.length → l.length - i < k → fault_Valid.l0 k last l (l.length : Int) (i : Int) = some (okAll last (l.drop i))
  | 0, i, last, hi, hk => by omega
  | k + 1, i, last, hi, hk => by
    simp only [fault_Valid.l0]
    by_cases h : i < l.length
    · have e : l.drop i = l[i] :: l.drop (i + 1) := List.drop_eq_getElem_cons h
      have ih := valid_l0 l hn k (i + 1) (l[i]).f0 h (by omega)
      rw [if_pos (by omega), if_pos (by omega), if_pos (by omega), rd_at l i h, w64 i l.length h hn, aims_f, e, okAll_cons, ih]
      simp only [good1, Option.bind_some]
      by_cases h1 : (l[i]).f0 ≤ last
      · rw [if_pos h1, decide_eq_false (show ¬ last < (l[i]).f0 by omega)]; rfl
      rw [if_neg h1, decide_eq_true (show last < (l[i]).f0 by omega)]
      by_cases h2 : (l[i]).f1 < 1
      · rw [if_pos h2, decide_eq_false (show ¬ 1 ≤ (l[i]).f1 by omega)]; rfl
      rw [if_neg h2, decide_eq_true (show 1 ≤ (l[i]).f1 by omega)]
      by_cases h3 : (l[i]).f1 > 7
      · rw [if_pos h3, decide_eq_false (show ¬ (l[i]).f1 ≤ 7 by omega)]; rfl
      rw [if_neg h3, decide_eq_true (show (l[i]).f1 ≤ 7 by omega)]
      by_cases h4 : (l[i]).f2 < 0
      · rw [if_pos h4, decide_eq_false (show ¬ 0 ≤ (l[i]).f2 by omega)]; rfl
      rw [if_neg h4, decide_eq_true (show 0 ≤ (l[i]).f2 by omega)]
      by_cases h5 : (l[i]).f2 = 0
      · rw [if_pos h5, beq_iff_eq.2 h5]; rfl
      rw [if_neg h5, beq_eq_false_iff_ne.2 h5]
      cases (l[i]).f1 == 3 <;> cases (l[i]).f1 == 5 <;> rfl
    · rw [if_neg (by omega), List.drop_of_length_le (by omega)]; rfl
theorem valid_f (l : List S32) (hn : l.length ≤ 140737488355328) : fault_Valid.f (l.length + 1) l = some (okAll (-1) l) := by
  have := valid_l0 l hn (l.length + 1) 0 (-1) (by omega) (by omega)
  simpa [fault_Valid.f] using this
/-- tegularef13.Valid. -/
theorem rvalid_l0 (l : List S32) (hn : l.length ≤ 140737488355328) : ∀ (k i : Nat) (last : Int), i ≤ l.length → l.length - i < k → (i = 0 → last = -1) → (∀ (h : 0 < i) (h2 : i - 1 < l.length), last = (l[i - 1]).f0 ∧ 0 ≤ last) → tegularef13_Valid.l0 k l (i : Int) = some (okAll last (l.drop i))
  | 0, i, last, hi, hk, _, _ => by omega
  | k + 1, i, last, hi, hk, h0, hp => by
    simp only [tegularef13_Valid.l0]
    by_cases h : i < l.length
    · have e : l.drop i = l[i] :: l.drop (i + 1) := List.drop_eq_getElem_cons h
      rw [if_pos (by omega), if_pos (by omega), rd_at l i h, w64 i l.length h hn, e, okAll_cons]
      have hlast : -1 ≤ last := by
        rcases Nat.eq_zero_or_pos i with z | z
        · rw [h0 z]; omega
        · have := (hp z (by omega)).2; omega
      by_cases h1 : (l[i]).f0 < 0
      · rw [if_pos h1]; simp only [good1]; rw [decide_eq_false (show ¬ last < (l[i]).f0 by omega)]; rfl
      rw [if_neg h1]
      have ih := rvalid_l0 l hn k (i + 1) (l[i]).f0 h (by omega) (by omega) (fun _ h2 => ⟨by simp, by omega⟩)
      have tail : ∀ b : Bool, decide (last < (l[i]).f0) = true → (if (l[i]).f1 < 1 then (some false) else (if (l[i]).f1 > 7 then (some false) else (if (l[i]).f2 < 0 then (some false) else (if (l[i]).f2 = 0 then tegularef13_Valid.l0 k l ((i + 1 : Nat) : Int) else (if (l[i]).f1 = 3 then tegularef13_Valid.l0 k l ((i + 1 : Nat) : Int) else (if (l[i]).f1 = 5 then tegularef13_Valid.l0 k l ((i + 1 : Nat) : Int) else (some false))))))) = some (good1 last l[i] && okAll (l[i]).f0 (l.drop (i + 1))) := by
        intro _ hd
        simp only [good1, hd, ih]
        by_cases h2 : (l[i]).f1 < 1
        · rw [if_pos h2, decide_eq_false (show ¬ 1 ≤ (l[i]).f1 by omega)]; rfl
        rw [if_neg h2, decide_eq_true (show 1 ≤ (l[i]).f1 by omega)]
        by_cases h3 : (l[i]).f1 > 7
        · rw [if_pos h3, decide_eq_false (show ¬ (l[i]).f1 ≤ 7 by omega)]; rfl
        rw [if_neg h3, decide_eq_true (show (l[i]).f1 ≤ 7 by omega)]
        by_cases h4 : (l[i]).f2 < 0
        · rw [if_pos h4, decide_eq_false (show ¬ 0 ≤ (l[i]).f2 by omega)]; rfl
        rw [if_neg h4, decide_eq_true (show 0 ≤ (l[i]).f2 by omega)]
        by_cases h5 : (l[i]).f2 = 0
        · rw [if_pos h5, beq_iff_eq.2 h5]; rfl
        rw [if_neg h5, beq_eq_false_iff_ne.2 h5]
        by_cases h6 : (l[i]).f1 = 3
        · rw [if_pos h6, beq_iff_eq.2 h6]; rfl
        rw [if_neg h6, beq_eq_false_iff_ne.2 h6]
        by_cases h7 : (l[i]).f1 = 5
        · rw [if_pos h7, beq_iff_eq.2 h7]; rfl
        rw [if_neg h7, beq_eq_false_iff_ne.2 h7]; rfl
      rcases Nat.eq_zero_or_pos i with z | z
      · rw [if_neg (by omega)]
        exact tail true (decide_eq_true (by rw [h0 z]; omega))
      · have hw : wrap64 ((i : Int) - 1) = ((i - 1 : Nat) : Int) := by unfold wrap64; omega
        rw [if_pos (by omega), hw, if_pos (by omega), if_pos (by omega), rd_at l (i - 1) (by omega)]
        have hq := (hp z (by omega)).1
        by_cases h8 : (l[i - 1]).f0 ≥ (l[i]).f0
        · rw [if_pos h8]; simp only [good1]; rw [decide_eq_false (show ¬ last < (l[i]).f0 by omega)]; rfl
        · rw [if_neg h8]
          exact tail true (decide_eq_true (by omega))
    · rw [if_neg (by omega), List.drop_of_length_le (by omega)]; rfl
theorem rvalid_f (l : List S32) (hn : l.length ≤ 140737488355328) : tegularef13_Valid.f (l.length + 1) l = some (okAll (-1) l) := by
  have := rvalid_l0 l hn (l.length + 1) 0 (-1) (by omega) (by omega) (fun _ => rfl) (fun h => by omega)
  simpa [tegularef13_Valid.f] using this
end Go.Proofs.YtgofecclceoeiaaDoor.ST
