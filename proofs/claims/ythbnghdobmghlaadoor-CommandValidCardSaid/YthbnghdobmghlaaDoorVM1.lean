import Derived.Test.YthbnghdobmghlaaDoorVPCx9
import Derived.Test.YthbnghdobmghlaaDoorVJ7
namespace Go.Proofs.YthbnghdobmghlaaDoor.ST
open Go.RowKit Go.Proofs.YthbnghdobmghlaaDoorW.PrintWords Go.Proofs.YthbnghdobmghlaaDoorW.PrintLast Go.Proofs.YthbnghdobmghlaaDoorW.PrintMore Go.Proofs.YthbnghdobmghlaaDoor.PC
set_option linter.unusedVariables false
set_option linter.unusedSimpArgs false
def str (l : List UInt8) : ByteArray := ⟨l.toArray⟩
theorem str_size (l : List UInt8) : (str l).size = l.length := by simp [str, ByteArray.size]
theorem str_app (a b : List UInt8) : str a ++ str b = str (a ++ b) := by
  apply ByteArray.ext
  simp [str]
theorem digit_str (n : Int) (h0 : 0 ≤ n) (h1 : n < 10) : strOfNums [(wrap64 (48 + n)) % 256] = str [UInt8.ofNat (48 + n.toNat)] := by
  have e : (wrap64 (48 + n)) % 256 = 48 + n := by unfold wrap64; omega
  unfold strOfNums str
  rw [e]
  have e2 : (48 + n).toNat = 48 + n.toNat := by omega
  simp [e2]
theorem dec_len (u : Nat) (h : u < 10 ^ 19) : (Lib.decDigits u).length ≤ 19 := by
  rw [Lib.decDigits_length]
  rcases Nat.eq_zero_or_pos u with h0 | h0
  · subst h0; rw [Lib.nDigits_small (by decide)]; decide
  · rcases Nat.lt_or_ge 19 (Lib.nDigits u) with h2 | h2
    · exfalso
      obtain ⟨k, hk⟩ : ∃ k, Lib.nDigits u = k + 1 := ⟨Lib.nDigits u - 1, by omega⟩
      have hi : ∀ (k u : Nat), Lib.nDigits u = k + 1 → 0 < k → 10 ^ k ≤ u := by
        intro k
        induction k with
        | zero => intro u _ h; omega
        | succ k ih =>
          intro u hu _
          rcases Nat.lt_or_ge u 10 with h | h
          · rw [Lib.nDigits_small h] at hu; omega
          · rw [Lib.nDigits_big (by omega)] at hu
            rcases Nat.eq_zero_or_pos k with z | z
            · subst z; simpa using h
            · have := ih (u / 10) (by omega) z
              rw [Nat.pow_succ]
              omega
      have := hi k u hk (by omega)
      have h3 : 10 ^ 19 ≤ 10 ^ k := Nat.pow_le_pow_right (by decide) (by omega)
      omega
    · exact h2
theorem number_digits : ∀ (k : Nat) (n : Int), 0 ≤ n → n < (10 ^ (k + 1) : Nat) → n ≤ 9223372036854775807 → tegularef13_Number.f (k + 1) n = some (str (Lib.decDigits n.toNat))
  | 0, n, h0, h1, h2 => by
    have h10 : n < 10 := by simpa using h1
    simp only [tegularef13_Number.f]
    rw [if_pos h10, digit_str n h0 h10, Lib.decDigits_one (by omega)]
  | k + 1, n, h0, h1, h2 => by
    rw [tegularef13_Number.f]
    by_cases h10 : n < 10
    · rw [if_pos h10, digit_str n h0 h10, Lib.decDigits_one (by omega)]
    · have hd : Int.tdiv n 10 = n / 10 := Int.tdiv_eq_ediv_of_nonneg h0
      have hm : Int.tmod n 10 = n % 10 := Int.tmod_eq_emod_of_nonneg h0
      have hw : wrap64 (n / 10) = n / 10 := by unfold wrap64; omega
      have hlt : n / 10 < (10 ^ (k + 1) : Nat) := by
        have : n < (10 ^ (k + 1) * 10 : Nat) := by rw [← Nat.pow_succ]; exact h1
        omega
      have ih := number_digits k (n / 10) (by omega) hlt (by omega)
      have hl : (Lib.decDigits (n / 10).toNat).length ≤ 19 := dec_len _ (by
        have : (n / 10).toNat ≤ 922337203685477580 := by omega
        exact Nat.lt_of_le_of_lt this (by decide))
      rw [if_neg h10, hd, hw, ih, hm]
      simp only [Option.bind_some]
      rw [digit_str (n % 10) (by omega) (by omega)]
      rw [if_pos (by rw [str_size, str_size]; simp only [List.length_singleton]; omega), str_app]
      congr 2
      rw [Lib.decDigits.eq_def n.toNat, dif_neg (by omega)]
      have e1 : (n / 10).toNat = n.toNat / 10 := by omega
      have e2 : (n % 10).toNat = n.toNat % 10 := by omega
      rw [e1, e2]
theorem itoa_nat {n : Int} (h : 0 ≤ n) : Lib.itoa n = Lib.decDigits n.toNat := by
  unfold Lib.itoa
  rw [if_neg (by omega)]
theorem number_any_k (k : Nat) (hk : 19 ≤ k) (n : Int) (h0 : 0 ≤ n) (h1 : n ≤ 9223372036854775807) : tegularef13_Number.f k n = some (str (Lib.itoa n)) := by
  obtain ⟨j, rfl⟩ : ∃ j, k = j + 1 := ⟨k - 1, by omega⟩
  rw [itoa_nat h0]
  refine number_digits j n h0 ?_ h1
  have h3 : 10 ^ 19 ≤ 10 ^ (j + 1) := Nat.pow_le_pow_right (by decide) (by omega)
  omega
theorem number_ref (k : Nat) (hk : 19 ≤ k) (n : Int) (h0 : 0 ≤ n) (h1 : n ≤ 9223372036854775807) : tegularef13_Number.f k n = some (itoaB n) := number_any_k k hk n h0 h1
end Go.Proofs.YthbnghdobmghlaaDoor.ST
