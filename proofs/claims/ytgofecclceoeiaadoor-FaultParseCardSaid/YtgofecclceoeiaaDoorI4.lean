/- The reference's read and Parse. -/
import Derived.Test.YtgofecclceoeiaaDoorI3
namespace Go.Proofs.YtgofecclceoeiaaDoor.ST
open Go.RowKit Go.Proofs.YtgofecclceoeiaaDoorW.PrintWords Go.Proofs.YtgofecclceoeiaaDoorW.PrintLast Go.Proofs.YtgofecclceoeiaaDoorW.PrintMore Go.Proofs.YtgofecclceoeiaaDoor.PF
set_option linter.unusedVariables false
set_option linter.unusedSimpArgs false
theorem word_prefix {j k : Int} (j1 : 1 ≤ j) (j2 : j ≤ 7) (k1 : 1 ≤ k) (k2 : k ≤ 7) (h : j ≠ k) (rest : List UInt8) : (wordL j ++ [32]).isPrefixOf (wordL k ++ [32] ++ rest) = false := by
  have hj : j = 1 ∨ j = 2 ∨ j = 3 ∨ j = 4 ∨ j = 5 ∨ j = 6 ∨ j = 7 := by omega
  have hk : k = 1 ∨ k = 2 ∨ k = 3 ∨ k = 4 ∨ k = 5 ∨ k = 6 ∨ k = 7 := by omega
  rcases hj with rfl | rfl | rfl | rfl | rfl | rfl | rfl <;> rcases hk with rfl | rfl | rfl | rfl | rfl | rfl | rfl <;> first | exact absurd rfl h | rfl
theorem word_str {k : Int} (h1 : 1 ≤ k) (h2 : k ≤ 7) : tegularef13_word.f k = some (str (wordL k)) := by rw [word_f h1 h2]; exact congrArg some (of_data _)
theorem e32 : (⟨#[32]⟩ : ByteArray) = str [32] := rfl
theorem eto : (⟨#[32, 116, 111, 32]⟩ : ByteArray) = str [32, 116, 111, 32] := rfl
theorem esep : (⟨#[59, 32]⟩ : ByteArray) = str [59, 32] := rfl
/-- tegularef13.read ends at every text. -/
theorem read_total (s : List UInt8) : ∀ (m : Nat) (j : Int) (k : Nat), 1 ≤ j → j + m = 8 → s.length + m + 2 ≤ k → ∃ f0 f1 f2 r ok, tegularef13_read.l0 k (str s) j = some (f0, f1, f2, str r, ok) ∧ (ok = true → r.length < s.length ∧ f0 ≤ 9223372036854775807 ∧ f2 ≤ 9223372036854775807)
  | m, j, 0, _, _, hk => by omega
  | 0, j, k + 1, h1, hj, hk => by
    simp only [tegularef13_read.l0]
    rw [if_neg (by omega)]
    exact ⟨0, 0, 0, s, false, rfl, fun h => by cases h⟩
  | m + 1, j, k + 1, h1, hj, hk => by
    have h7 : j ≤ 7 := by omega
    have hwl := wordL_len h1 h7
    simp only [tegularef13_read.l0]
    rw [if_pos h7, word_str h1 h7]
    simp only [Option.bind_some, e32, str_app, begins_f, str_size]
    rw [if_pos (by omega)]
    cases hp : (wordL j ++ [32]).isPrefixOf s
    · rw [if_neg (by decide)]
      have hw : wrap64 (j + 1) = j + 1 := by unfold wrap64; omega
      rw [hw]
      exact read_total s m (j + 1) k (by omega) (by omega) (by omega)
    · obtain ⟨t, ht⟩ := List.isPrefixOf_iff_prefix.1 hp
      have hsl : s.length = (wordL j).length + 1 + t.length := by rw [← ht]; simp; omega
      have hdr : s.drop ((wordL j).length + 1) = t := by
        rw [← ht, show (wordL j).length + 1 = (wordL j ++ [32]).length by simp, List.drop_left]
      have hext := ext_from s ((wordL j).length + 1)
      rw [str_size, hdr] at hext
      rw [if_pos rfl, if_pos (by omega), if_pos (by omega), hext]
      obtain ⟨v, q, h3, h4, h5⟩ := number_total t 0 k (by omega) (by omega)
      rw [show tegularef13_number.f k (str t) = some (v, str q) from h3]
      simp only [Option.bind_some, eto, begins_f, str_size]
      cases hq : ([32, 116, 111, 32] : List UInt8).isPrefixOf q
      · rw [if_neg (by decide)]
        exact ⟨v, j, 0, q, true, rfl, fun _ => ⟨by omega, h5, by decide⟩⟩
      · obtain ⟨u, hu⟩ := List.isPrefixOf_iff_prefix.1 hq
        have hql : q.length = 4 + u.length := by rw [← hu]; simp; omega
        have hdu : q.drop 4 = u := by rw [← hu]; rfl
        have hext2 := ext_from q 4
        rw [str_size, hdu] at hext2
        rw [if_pos rfl, if_pos (by omega), hext2]
        obtain ⟨v2, q2, h6, h7', h8⟩ := number_total u 0 k (by omega) (by omega)
        rw [show tegularef13_number.f k (str u) = some (v2, str q2) from h6]
        exact ⟨v, j, v2, q2, true, rfl, fun _ => ⟨by omega, h5, h8⟩⟩
/-- It reads a fault. -/
theorem read_one {x : S32} (hx : fine x) (r : List UInt8) (hr : r = [] ∨ ∃ t, r = 59 :: t) : ∀ (m : Nat) (j : Int) (k : Nat), 1 ≤ j → j + m = x.f1 → m + 24 ≤ k → tegularef13_read.l0 k (str (oneL x ++ r)) j = some (x.f0, x.f1, x.f2, str r, true)
  | m, j, 0, _, _, hk => by omega
  | m + 1, j, k + 1, h1, hj, hk => by
    have hx' := hx
    obtain ⟨h0, h0', x1, x7, h2, h2', h3⟩ := hx
    have h7 : j ≤ 7 := by omega
    have hwl := wordL_len h1 h7
    have hpre : ∃ rest, oneL x ++ r = wordL x.f1 ++ [32] ++ rest := by
      cases hb : (x.f1 == 3 || x.f1 == 5)
      · rw [oneL_plain hb]; exact ⟨_, by rw [List.append_assoc]⟩
      · rw [oneL_aims hb]; exact ⟨_, by rw [List.append_assoc]⟩
    obtain ⟨rest, hrest⟩ := hpre
    simp only [tegularef13_read.l0]
    rw [if_pos h7, word_str h1 h7]
    simp only [Option.bind_some, e32, str_app, begins_f, str_size]
    rw [if_pos (by omega), hrest, word_prefix h1 h7 x1 x7 (by omega) rest, if_neg (by decide), ← hrest]
    have hw : wrap64 (j + 1) = j + 1 := by unfold wrap64; omega
    rw [hw]
    exact read_one hx' r hr m (j + 1) k (by omega) (by omega) (by omega)
  | 0, j, k + 1, h1, hj, hk => by
    obtain ⟨h0, h0', x1, x7, h2, h2', h3⟩ := hx
    have ej : j = x.f1 := by omega
    subst ej
    have hwl := wordL_len x1 x7
    simp only [tegularef13_read.l0]
    rw [if_pos x7, word_str x1 x7]
    simp only [Option.bind_some, e32, str_app, begins_f, str_size]
    rw [if_pos (by omega)]
    have hnd : ∀ c t, r = c :: t → isDig c = false := by
      intro c t e
      rcases hr with rfl | ⟨t', rfl⟩
      · cases e
      · cases e; decide
    cases hb : (x.f1 == 3 || x.f1 == 5)
    · have hz : x.f2 = 0 := by
        rcases h3 with h | h | h
        · exact h
        · rw [h] at hb; cases hb
        · rw [h] at hb; cases hb
      have e : oneL x ++ r = (wordL x.f1 ++ [32]) ++ (Lib.itoa x.f0 ++ r) := by rw [oneL_plain hb, List.append_assoc]
      have hdr : (oneL x ++ r).drop ((wordL x.f1).length + 1) = Lib.itoa x.f0 ++ r := by
        rw [e, show (wordL x.f1).length + 1 = (wordL x.f1 ++ [32]).length by simp, List.drop_left]
      have hext := ext_from (oneL x ++ r) ((wordL x.f1).length + 1)
      rw [str_size, hdr] at hext
      have hp : (wordL x.f1 ++ [32]).isPrefixOf (oneL x ++ r) = true := by rw [List.isPrefixOf_iff_prefix, e]; exact List.prefix_append _ _
      have hlen : (oneL x ++ r).length = (wordL x.f1).length + 1 + (Lib.itoa x.f0 ++ r).length := by rw [e]; simp; omega
      rw [hp, if_pos rfl, if_pos (by omega), if_pos (by omega), hext, number_itoa h0 h0' r hnd k (by omega)]
      simp only [Option.bind_some, eto, begins_f]
      have hq : ([32, 116, 111, 32] : List UInt8).isPrefixOf r = false := by
        rcases hr with rfl | ⟨t', rfl⟩ <;> rfl
      rw [hq, if_neg (by decide), ← hz]
    · have e : oneL x ++ r = (wordL x.f1 ++ [32]) ++ (Lib.itoa x.f0 ++ ([32, 116, 111, 32] ++ (Lib.itoa x.f2 ++ r))) := by rw [oneL_aims hb]; simp
      have hdr : (oneL x ++ r).drop ((wordL x.f1).length + 1) = Lib.itoa x.f0 ++ ([32, 116, 111, 32] ++ (Lib.itoa x.f2 ++ r)) := by
        rw [e, show (wordL x.f1).length + 1 = (wordL x.f1 ++ [32]).length by simp, List.drop_left]
      have hext := ext_from (oneL x ++ r) ((wordL x.f1).length + 1)
      rw [str_size, hdr] at hext
      have hp : (wordL x.f1 ++ [32]).isPrefixOf (oneL x ++ r) = true := by rw [List.isPrefixOf_iff_prefix, e]; exact List.prefix_append _ _
      have hlen : (oneL x ++ r).length = (wordL x.f1).length + 1 + (Lib.itoa x.f0 ++ ([32, 116, 111, 32] ++ (Lib.itoa x.f2 ++ r))).length := by rw [e]; simp; omega
      rw [hp, if_pos rfl, if_pos (by omega), if_pos (by omega), hext, number_itoa h0 h0' _ (by intro c t e; cases e; decide) k (by omega)]
      simp only [Option.bind_some, eto, begins_f, str_size]
      have hq : ([32, 116, 111, 32] : List UInt8).isPrefixOf ([32, 116, 111, 32] ++ (Lib.itoa x.f2 ++ r)) = true := by rw [List.isPrefixOf_iff_prefix]; exact List.prefix_append _ _
      have hext2 := ext_from ([32, 116, 111, 32] ++ (Lib.itoa x.f2 ++ r)) 4
      rw [str_size, show (([32, 116, 111, 32] : List UInt8) ++ (Lib.itoa x.f2 ++ r)).drop 4 = Lib.itoa x.f2 ++ r from rfl] at hext2
      rw [hq, if_pos rfl, if_pos (by simp only [List.length_append, List.length_cons, List.length_nil]; omega), hext2, number_itoa h2 h2' r hnd k (by omega)]
      rfl
theorem rparse_end (x0 : ByteArray) (x4 : List S32) (k : Nat) (hl : x4.length ≤ 1000) (hw : ∀ x ∈ x4, x.f0 ≤ 9223372036854775807 ∧ x.f2 ≤ 9223372036854775807) (hk : x4.length + 39 ≤ k) :
    ∃ r1 r2, tegularef13_Parse.l0 (k + 1) x0 x4 (str []) = some (r1, r2) ∧ ((r2 = 0 ∧ okAll (-1) r1 = true ∧ textL r1 = x0.toList ∧ ∀ x ∈ r1, x.f0 ≤ 9223372036854775807 ∧ x.f2 ≤ 9223372036854775807) ∨ (r2 = 4 ∧ r1 = [])) := by
  have hv := rvalid_l0 x4 (by omega) k 0 (-1) (by omega) (by omega) (fun _ => rfl) (fun h => by omega)
  have hv2 : tegularef13_Valid.f k x4 = some (okAll (-1) x4) := by simpa [tegularef13_Valid.f] using hv
  have ht := rtext_f x4 (by omega) hw k (by omega)
  simp only [tegularef13_Parse.l0, str_size]
  rw [if_neg (by simp), hv2]
  simp only [Option.bind_some]
  cases hb : okAll (-1) x4
  · rw [if_neg (by decide)]
    exact ⟨[], 4, rfl, .inr ⟨rfl, rfl⟩⟩
  · rw [if_pos rfl, ht, hb, if_pos rfl]
    simp only [Option.bind_some, str_toList]
    by_cases he : textL x4 = x0.toList
    · rw [if_pos he]
      exact ⟨x4, 0, rfl, .inl ⟨rfl, hb, he, hw⟩⟩
    · rw [if_neg he]
      exact ⟨[], 4, rfl, .inr ⟨rfl, rfl⟩⟩
/-- tegularef13.Parse ends at every text. -/
theorem rparse_total (x0 : ByteArray) : ∀ (n : Nat) (s : List UInt8) (x4 : List S32) (k : Nat), s.length ≤ n → s.length + x4.length ≤ 1000 → (∀ x ∈ x4, x.f0 ≤ 9223372036854775807 ∧ x.f2 ≤ 9223372036854775807) → 2 * s.length + x4.length + 40 ≤ k →
    ∃ r1 r2, tegularef13_Parse.l0 k x0 x4 (str s) = some (r1, r2) ∧ ((r2 = 0 ∧ okAll (-1) r1 = true ∧ textL r1 = x0.toList ∧ ∀ x ∈ r1, x.f0 ≤ 9223372036854775807 ∧ x.f2 ≤ 9223372036854775807) ∨ (r2 = 4 ∧ r1 = [])) := by
  intro n
  induction n with
  | zero =>
    intro s x4 k hn hl hw hk
    obtain ⟨k, rfl⟩ : ∃ j, k = j + 1 := ⟨k - 1, by omega⟩
    obtain rfl : s = [] := List.length_eq_zero_iff.1 (by omega)
    exact rparse_end x0 x4 k (by simp only [List.length_nil] at hl; omega) hw (by simp only [List.length_nil] at hk; omega)
  | succ n ih =>
    intro s x4 k hn hl hw hk
    obtain ⟨k, rfl⟩ : ∃ j, k = j + 1 := ⟨k - 1, by omega⟩
    cases hs : s with
    | nil => exact rparse_end x0 x4 k (by omega) hw (by omega)
    | cons c t =>
      rw [← hs]
      have hpos : 0 < s.length := by rw [hs]; simp
      obtain ⟨f0, f1, f2, r, ok, hr, hok⟩ := read_total s 7 1 k (by omega) (by omega) (by omega)
      simp only [tegularef13_Parse.l0, str_size]
      rw [if_pos (by omega), show tegularef13_read.f k (str s) = some (f0, f1, f2, str r, ok) from hr]
      simp only [Option.bind_some]
      cases ok
      · rw [if_neg (by decide)]
        exact ⟨[], 4, rfl, .inr ⟨rfl, rfl⟩⟩
      · obtain ⟨hlt, hb0, hb2⟩ := hok rfl
        rw [if_pos rfl, if_pos (by omega)]
        simp only [Option.bind_some, esep, begins_f, str_size]
        have hw' : ∀ x ∈ x4 ++ [(⟨f0, f1, f2⟩ : S32)], x.f0 ≤ 9223372036854775807 ∧ x.f2 ≤ 9223372036854775807 := by
          intro x hx
          rcases List.mem_append.1 hx with hx | hx
          · exact hw x hx
          · rw [List.mem_singleton.1 hx]; exact ⟨hb0, hb2⟩
        cases hq : ([59, 32] : List UInt8).isPrefixOf r
        · rw [if_neg (by decide)]
          by_cases hz : (r.length : Int) > 0
          · rw [if_pos hz]
            exact ⟨[], 4, rfl, .inr ⟨rfl, rfl⟩⟩
          · rw [if_neg hz]
            exact ih r _ k (by omega) (by rw [List.length_append, List.length_singleton]; omega) hw' (by rw [List.length_append, List.length_singleton]; omega)
        · obtain ⟨u, hu⟩ := List.isPrefixOf_iff_prefix.1 hq
          have hul : r.length = 2 + u.length := by rw [← hu]; simp; omega
          have hext := ext_from r 2
          rw [str_size, show r.drop 2 = u by rw [← hu]; rfl] at hext
          rw [if_pos rfl, if_pos (by omega), hext]
          exact ih u _ k (by omega) (by rw [List.length_append, List.length_singleton]; omega) hw' (by rw [List.length_append, List.length_singleton]; omega)
end Go.Proofs.YtgofecclceoeiaaDoor.ST
