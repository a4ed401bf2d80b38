/- Parse and Text: one gives back what the other has given. -/
import Derived.Test.YtgofecclceoeiaaDoorG7
namespace Go.Proofs.YtgofecclceoeiaaDoor.ST
open Go.RowKit Go.Proofs.YtgofecclceoeiaaDoorW.PrintWords Go.Proofs.YtgofecclceoeiaaDoorW.PrintLast Go.Proofs.YtgofecclceoeiaaDoorW.PrintMore Go.Proofs.YtgofecclceoeiaaDoor.PF
set_option linter.unusedVariables false
set_option linter.unusedSimpArgs false
def wordL (k : Int) : List UInt8 := (wordB k).data.toList
def oneL (x : S32) : List UInt8 := (oneB x).data.toList
theorem bdata (a b : ByteArray) : (a ++ b).data.toList = a.data.toList ++ b.data.toList := by simp
theorem oneL_plain {x : S32} (h : (x.f1 == 3 || x.f1 == 5) = false) : oneL x = wordL x.f1 ++ [32] ++ Lib.itoa x.f0 := by
  unfold oneL oneB
  rw [h, if_neg (by decide), bdata, bdata]
  rfl
theorem oneL_aims {x : S32} (h : (x.f1 == 3 || x.f1 == 5) = true) : oneL x = wordL x.f1 ++ [32] ++ (Lib.itoa x.f0 ++ [32, 116, 111, 32] ++ Lib.itoa x.f2) := by
  unfold oneL oneB
  rw [h, if_pos rfl, bdata, bdata, bdata, bdata]
  simp [wordL]
theorem kind_word {k : Int} (h1 : 1 ≤ k) (h2 : k ≤ 7) : kindOf (wordL k) = k := by
  have hn : k = 1 ∨ k = 2 ∨ k = 3 ∨ k = 4 ∨ k = 5 ∨ k = 6 ∨ k = 7 := by omega
  rcases hn with rfl | rfl | rfl | rfl | rfl | rfl | rfl <;> decide +kernel
theorem word_clean {k : Int} (h1 : 1 ≤ k) (h2 : k ≤ 7) : (32 : UInt8) ∉ wordL k ∧ (59 : UInt8) ∉ wordL k ∧ wordL k ≠ [] := by
  have hn : k = 1 ∨ k = 2 ∨ k = 3 ∨ k = 4 ∨ k = 5 ∨ k = 6 ∨ k = 7 := by omega
  rcases hn with rfl | rfl | rfl | rfl | rfl | rfl | rfl <;> decide +kernel
theorem kind_found (name : List UInt8) : ∀ n, kindUpto name n = 0 ∨ (1 ≤ kindUpto name n ∧ kindUpto name n < n ∧ wordL (kindUpto name n) = name)
  | 0 => .inl rfl
  | j + 1 => by
    unfold kindUpto
    split
    · rename_i h
      exact .inr ⟨by omega, by omega, h.2⟩
    · rcases kind_found name j with h | ⟨h1, h2, h3⟩
      · exact .inl h
      · exact .inr ⟨h1, by omega, h3⟩
theorem itoa_clean {n : Int} (h : 0 ≤ n) : (32 : UInt8) ∉ Lib.itoa n ∧ (59 : UInt8) ∉ Lib.itoa n := by
  rw [itoa_nat h]
  have hd := (dec_val n.toNat).2.1
  exact ⟨fun e => absurd (hd _ e) (by decide), fun e => absurd (hd _ e) (by decide)⟩
/-- A fault that a valid list may hold. -/
def fine (x : S32) : Prop := 0 ≤ x.f0 ∧ x.f0 ≤ 9223372036854775807 ∧ 1 ≤ x.f1 ∧ x.f1 ≤ 7 ∧ 0 ≤ x.f2 ∧ x.f2 ≤ 9223372036854775807 ∧ (x.f2 = 0 ∨ x.f1 = 3 ∨ x.f1 = 5)
theorem part_one {x : S32} (h : fine x) : partF (oneL x) = (x, true) := by
  obtain ⟨h0, h0', h1, h1', h2, h2', h3⟩ := h
  obtain ⟨c1, _, _⟩ := word_clean h1 h1'
  obtain ⟨n0, k0⟩ := num_itoa h0 h0'
  obtain ⟨n2, k2⟩ := num_itoa h2 h2'
  have hk := kind_word h1 h1'
  cases hb : (x.f1 == 3 || x.f1 == 5)
  · rw [oneL_plain hb]
    unfold partF
    rw [cut_at (wordL x.f1) (Lib.itoa x.f0) 32 [] c1]
    simp only [hk, hb, n0, k0]
    have hz : x.f2 = 0 := by
      rcases h3 with h | h | h
      · exact h
      · rw [h] at hb; cases hb
      · rw [h] at hb; cases hb
    rw [if_neg (by decide), ← hz]
    rfl
  · rw [oneL_aims hb]
    unfold partF
    rw [cut_at (wordL x.f1) _ 32 [] c1]
    simp only [hk, hb, if_true]
    rw [cut_at (Lib.itoa x.f0) (Lib.itoa x.f2) 32 [116, 111, 32] (itoa_clean h0).1]
    simp only [n0, k0, n2, k2]
    rfl
theorem one_clean {x : S32} (h : fine x) : (59 : UInt8) ∉ oneL x ∧ oneL x ≠ [] := by
  obtain ⟨h0, h0', h1, h1', h2, h2', h3⟩ := h
  obtain ⟨c1, c2, c3⟩ := word_clean h1 h1'
  have a0 := (itoa_clean h0).2
  have a2 := (itoa_clean h2).2
  cases hb : (x.f1 == 3 || x.f1 == 5)
  · rw [oneL_plain hb]; simp [c2, c3, a0]
  · rw [oneL_aims hb]; simp [c2, c3, a0, a2]
theorem part_back {p : List UInt8} (h : (partF p).2 = true) (hk : 1 ≤ (partF p).1.f1) : oneL (partF p).1 = p ∧ (partF p).1.f0 ≤ 9223372036854775807 ∧ (partF p).1.f2 ≤ 9223372036854775807 := by
  unfold partF at h hk ⊢
  obtain ⟨c1, c2, c3⟩ : ∃ c1 c2 c3, True := ⟨([] : List UInt8), ([] : List UInt8), true, trivial⟩
  cases hc : Lib.cut p [32] with
  | mk c1 c23 =>
    obtain ⟨c2, c3⟩ := c23
    rw [hc] at h hk
    simp only at h hk ⊢
    cases hb : (kindOf c1 == 3 || kindOf c1 == 5)
    · rw [hb] at h hk
      rw [if_neg (by decide)] at h hk ⊢
      simp only [Bool.and_eq_true] at h hk ⊢
      obtain ⟨rfl, hn⟩ := h
      obtain ⟨e1, e2⟩ := okNum_itoa hn
      rcases kind_found c1 8 with hz | ⟨_, _, hw⟩
      · rw [show kindOf c1 = 0 from hz] at hk; omega
      · refine ⟨?_, e2, by decide⟩
        rw [oneL_plain hb]
        rw [show wordL (kindOf c1) = c1 from hw]
        simp only
        rw [e1]
        exact (cut_found hc).symm
    · rw [hb] at h hk
      rw [if_pos rfl] at h hk ⊢
      cases hd : Lib.cut c2 [32, 116, 111, 32] with
      | mk d1 d23 =>
        obtain ⟨d2, d3⟩ := d23
        rw [hd] at h
        simp only [Bool.and_eq_true] at h hk ⊢
        obtain ⟨⟨⟨rfl, rfl⟩, hn1⟩, hn2⟩ := h
        obtain ⟨e1, e2⟩ := okNum_itoa hn1
        obtain ⟨e3, e4⟩ := okNum_itoa hn2
        rcases kind_found c1 8 with hz | ⟨_, _, hw⟩
        · rw [show kindOf c1 = 0 from hz] at hk; omega
        · refine ⟨?_, e2, e4⟩
          rw [oneL_aims hb]
          rw [show wordL (kindOf c1) = c1 from hw]
          simp only
          rw [e1, e3, ← cut_found hd]
          exact (cut_found hc).symm
end Go.Proofs.YtgofecclceoeiaaDoor.ST
