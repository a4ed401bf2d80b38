/- The reference's text. -/
import Derived.Test.YtgofecclceoeiaaDoorG9
import Derived.Test.YtgofecclceoeiaaDoorPFx5
namespace Go.Proofs.YtgofecclceoeiaaDoor.ST
open Go.RowKit Go.Proofs.YtgofecclceoeiaaDoorW.PrintWords Go.Proofs.YtgofecclceoeiaaDoorW.PrintLast Go.Proofs.YtgofecclceoeiaaDoorW.PrintMore Go.Proofs.YtgofecclceoeiaaDoor.PF
set_option linter.unusedVariables false
set_option linter.unusedSimpArgs false
def str (l : List UInt8) : ByteArray := ⟨l.toArray⟩
theorem str_data (l : List UInt8) : (str l).data.toList = l := by simp [str]
theorem str_size (l : List UInt8) : (str l).size = l.length := bsize l
theorem str_app (a b : List UInt8) : str a ++ str b = str (a ++ b) := by
  apply ByteArray.ext
  simp [str]
theorem of_data (b : ByteArray) : b = str b.data.toList := by
  apply ByteArray.ext
  simp [str]
theorem digit_str (n : Int) (h0 : 0 ≤ n) (h1 : n < 10) : strOfNums [(wrap64 (48 + n)) % 256] = str [UInt8.ofNat (48 + n.toNat)] := by
  have e : (wrap64 (48 + n)) % 256 = 48 + n := by unfold wrap64; omega
  unfold strOfNums str
  rw [e]
  have e2 : (48 + n).toNat = 48 + n.toNat := by omega
  simp [e2]
theorem dec_len (u : Nat) (h : u < 10 ^ 19) : (Lib.decDigits u).length ≤ 19 := by
  rw [Lib.decDigits_length]
  rcases Nat.eq_zero_or_pos u with h0 | h0
  · subst h0; rw [Lib.nDigits_small (by decide)]; decide
  · rcases Nat.lt_or_ge 19 (Lib.nDigits u) with h2 | h2
    · exfalso
      obtain ⟨k, hk⟩ : ∃ k, Lib.nDigits u = k + 1 := ⟨Lib.nDigits u - 1, by omega⟩
      have hi : ∀ (k u : Nat), Lib.nDigits u = k + 1 → 0 < k → 10 ^ k ≤ u := by
        intro k
        induction k with
        | zero => intro u _ h; omega
        | succ k ih =>
          intro u hu _
          rcases Nat.lt_or_ge u 10 with h | h
          · rw [Lib.nDigits_small h] at hu; omega
          · rw [Lib.nDigits_big (by omega)] at hu
            rcases Nat.eq_zero_or_pos k with z | z
            · subst z; simpa using h
            · have := ih (u / 10) (by omega) z
              rw [Nat.pow_succ]
              omega
      have := hi k u hk (by omega)
      have h3 : 10 ^ 19 ≤ 10 ^ k := Nat.pow_le_pow_right (by decide) (by omega)
      omega
    · exact h2
theorem number_digits : ∀ (k : Nat) (n : Int), 0 ≤ n → n < (10 ^ (k + 1) : Nat) → n ≤ 9223372036854775807 → tegularef13_Number.f (k + 1) n = some (str (Lib.decDigits n.toNat))
  | 0, n, h0, h1, h2 => by
    have h10 : n < 10 := by simpa using h1
    simp only [tegularef13_Number.f]
    rw [if_pos h10, digit_str n h0 h10, Lib.decDigits_one (by omega)]
  | k + 1, n, h0, h1, h2 => by
    rw [tegularef13_Number.f]
    by_cases h10 : n < 10
    · rw [if_pos h10, digit_str n h0 h10, Lib.decDigits_one (by omega)]
    · have hd : Int.tdiv n 10 = n / 10 := Int.tdiv_eq_ediv_of_nonneg h0
      have hm : Int.tmod n 10 = n % 10 := Int.tmod_eq_emod_of_nonneg h0
      have hw : wrap64 (n / 10) = n / 10 := by unfold wrap64; omega
      have hlt : n / 10 < (10 ^ (k + 1) : Nat) := by
        have : n < (10 ^ (k + 1) * 10 : Nat) := by rw [← Nat.pow_succ]; exact h1
        omega
      have ih := number_digits k (n / 10) (by omega) hlt (by omega)
      have hl : (Lib.decDigits (n / 10).toNat).length ≤ 19 := dec_len _ (by
        have : (n / 10).toNat ≤ 922337203685477580 := by omega
        exact Nat.lt_of_le_of_lt this (by decide))
      rw [if_neg h10, hd, hw, ih, hm]
      simp only [Option.bind_some]
      rw [digit_str (n % 10) (by omega) (by omega)]
      rw [if_pos (by rw [str_size, str_size]; simp only [List.length_singleton]; omega), str_app]
      congr 2
      rw [Lib.decDigits.eq_def n.toNat, dif_neg (by omega)]
      have e1 : (n / 10).toNat = n.toNat / 10 := by omega
      have e2 : (n % 10).toNat = n.toNat % 10 := by omega
      rw [e1, e2]
theorem number_any_k (k : Nat) (hk : 19 ≤ k) (n : Int) (h0 : 0 ≤ n) (h1 : n ≤ 9223372036854775807) : tegularef13_Number.f k n = some (str (Lib.itoa n)) := by
  obtain ⟨j, rfl⟩ : ∃ j, k = j + 1 := ⟨k - 1, by omega⟩
  rw [itoa_nat h0]
  refine number_digits j n h0 ?_ h1
  have h3 : 10 ^ 19 ≤ 10 ^ (j + 1) := Nat.pow_le_pow_right (by decide) (by omega)
  omega
theorem itoa_len {n : Int} (h0 : 0 ≤ n) (h1 : n ≤ 9223372036854775807) : (Lib.itoa n).length ≤ 21 := Lib.itoa_length_le n (by omega) h1
theorem wordL_len {k : Int} (h1 : 1 ≤ k) (h2 : k ≤ 7) : (wordL k).length ≤ 5 := by
  have := wordB_size h1 h2
  unfold wordL
  rw [dsize]
  exact this
theorem oneL_len {x : S32} (h : fine x) : (oneL x).length ≤ 60 := by
  obtain ⟨h0, h0', h1, h1', h2, h2', h3⟩ := h
  have a := itoa_len h0 h0'
  have b := itoa_len h2 h2'
  have c := wordL_len h1 h1'
  cases hb : (x.f1 == 3 || x.f1 == 5)
  · rw [oneL_plain hb]; simp only [List.length_append, List.length_cons, List.length_nil]; omega
  · rw [oneL_aims hb]; simp only [List.length_append, List.length_cons, List.length_nil]; omega
/-- tegularef13.one. -/
theorem one_f {x : S32} (h : fine x) (k : Nat) (hk : 19 ≤ k) : tegularef13_one.f k x.f0 x.f1 x.f2 = some (str (oneL x)) := by
  obtain ⟨h0, h0', h1, h1', h2, h2', h3⟩ := h
  have a := itoa_len h0 h0'
  have b := itoa_len h2 h2'
  have c := wordL_len h1 h1'
  have hw : wordB x.f1 = str (wordL x.f1) := of_data _
  have e32 : (⟨#[32]⟩ : ByteArray) = str [32] := rfl
  have eto : (⟨#[32, 116, 111, 32]⟩ : ByteArray) = str [32, 116, 111, 32] := rfl
  unfold tegularef13_one.f
  rw [word_f h1 h1', hw]
  simp only [Option.bind_some]
  rw [if_pos (by rw [str_size]; omega), number_any_k k hk x.f0 h0 h0', e32, eto]
  simp only [Option.bind_some, str_app]
  rw [if_pos (by rw [str_size, str_size]; simp only [List.length_append, List.length_singleton]; omega)]
  have hs : (str (wordL x.f1 ++ [32] ++ Lib.itoa x.f0)).size + 4 ≤ 9223372036854775807 := by rw [str_size]; simp only [List.length_append, List.length_singleton]; omega
  rw [number_any_k k hk x.f2 h2 h2']
  simp only [Option.bind_some, str_app]
  have hs2 : (str (wordL x.f1 ++ [32] ++ Lib.itoa x.f0 ++ [32, 116, 111, 32])).size + (str (Lib.itoa x.f2)).size ≤ 9223372036854775807 := by rw [str_size, str_size]; simp only [List.length_append, List.length_cons, List.length_nil]; omega
  by_cases h3 : x.f1 = 3
  · rw [if_pos h3, if_pos hs, if_pos hs2, oneL_aims (by rw [h3]; rfl)]
    simp
  · rw [if_neg h3]
    by_cases h5 : x.f1 = 5
    · rw [if_pos h5, if_pos hs, if_pos hs2, oneL_aims (by rw [h5]; rfl)]
      simp
    · rw [if_neg h5, oneL_plain (by simp [h3, h5])]
theorem join_next (ls : List (List UInt8)) (y sep : List UInt8) (h : ls ≠ []) : Lib.join (ls ++ [y]) sep = Lib.join ls sep ++ sep ++ y := by
  cases ls with
  | nil => exact absurd rfl h
  | cons x r =>
    rw [List.cons_append, Lib.join_cons, Lib.join_cons]
    unfold Lib.joinTail
    simp
theorem join_len (ls : List (List UInt8)) (h : ∀ y ∈ ls, y.length ≤ 60) : (Lib.join ls [59, 32]).length ≤ 62 * ls.length := by
  induction ls with
  | nil => simp [Lib.join_nil]
  | cons x r ih =>
    have hx := h x (List.mem_cons_self ..)
    have ih' := ih fun y hy => h y (List.mem_cons_of_mem _ hy)
    cases r with
    | nil => rw [Lib.join_one]; simp only [List.length_cons, List.length_nil]; omega
    | cons y t =>
      rw [join_two]
      simp only [List.length_append, List.length_cons, List.length_nil] at ih' ⊢
      omega
theorem text_l0 (l : List S32) (hn : l.length ≤ 5864062014634) (hf : ∀ x ∈ l, fine x) : ∀ (k i : Nat), i ≤ l.length → l.length - i + 20 ≤ k → tegularef13_Text.l0 k l (str (Lib.join ((l.take i).map oneL) [59, 32])) (i : Int) = some (str (textL l))
  | 0, i, hi, hk => by omega
  | k + 1, i, hi, hk => by
    simp only [tegularef13_Text.l0]
    by_cases h : i < l.length
    · have hx := hf l[i] (List.getElem_mem h)
      have ho := oneL_len hx
      have ih := text_l0 l hn hf k (i + 1) h (by omega)
      have hlen := join_len ((l.take i).map oneL) (fun y hy => by
        obtain ⟨x, hx', rfl⟩ := List.mem_map.1 hy
        exact oneL_len (hf x (List.mem_of_mem_take hx')))
      rw [List.length_map, List.length_take] at hlen
      have e59 : (⟨#[59, 32]⟩ : ByteArray) = str [59, 32] := rfl
      rw [map_next oneL l i h rfl] at ih
      rw [if_pos (by omega), rd_at l i h, w64 i l.length h (by omega), one_f hx k (by omega)]
      simp only [Option.bind_some, e59, str_app]
      rcases Nat.eq_zero_or_pos i with z | z
      · subst z
        rw [if_neg (by omega), if_pos (by omega), if_pos (by rw [str_size, str_size]; omega)]
        have e0 : Lib.join ((l.take 0).map oneL) [59, 32] = [] := rfl
        rw [List.take_zero, List.map_nil, List.nil_append, Lib.join_one] at ih
        rw [e0, List.nil_append]
        exact ih
      · rw [if_pos (by omega), if_pos (by rw [str_size]; omega), if_pos (by omega), if_pos (by rw [str_size, str_size]; simp only [List.length_append, List.length_cons, List.length_nil]; omega)]
        rw [join_next _ _ _ (by
          intro e
          have := congrArg List.length e
          rw [List.length_map, List.length_take] at this
          simp only [List.length_nil] at this
          omega)] at ih
        exact ih
    · rw [if_neg (by omega), List.take_of_length_le (by omega)]; rfl
theorem rtext_f (l : List S32) (hn : l.length ≤ 5864062014634) (hw : ∀ x ∈ l, x.f0 ≤ 9223372036854775807 ∧ x.f2 ≤ 9223372036854775807) (k : Nat) (hk : l.length + 20 ≤ k) : tegularef13_Text.f k l = some (if okAll (-1) l = true then str (textL l) else str []) := by
  unfold tegularef13_Text.f
  have hv := rvalid_l0 l (by omega) k 0 (-1) (by omega) (by omega) (fun _ => rfl) (fun h => by omega)
  have hv2 : tegularef13_Valid.f k l = some (okAll (-1) l) := by simpa [tegularef13_Valid.f] using hv
  rw [hv2]
  simp only [Option.bind_some]
  by_cases h : okAll (-1) l = true
  · rw [if_pos h, if_pos h]
    have := text_l0 l hn (fine_of h hw) k 0 (by omega) (by omega)
    rw [List.take_zero, List.map_nil] at this
    exact this
  · rw [if_neg h, if_neg h]; rfl
end Go.Proofs.YtgofecclceoeiaaDoor.ST
