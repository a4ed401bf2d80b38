/- The reference's Parse: it ends at every text, and it gives back a valid list from its text. -/
import Derived.Test.YtgofecclceoeiaaDoorI1
namespace Go.Proofs.YtgofecclceoeiaaDoor.ST
open Go.RowKit Go.Proofs.YtgofecclceoeiaaDoorW.PrintWords Go.Proofs.YtgofecclceoeiaaDoorW.PrintLast Go.Proofs.YtgofecclceoeiaaDoorW.PrintMore Go.Proofs.YtgofecclceoeiaaDoor.PF
set_option linter.unusedVariables false
set_option linter.unusedSimpArgs false
theorem str_toList (l : List UInt8) : (str l).toList = l := by rw [ByteArray.toList_eq, str_data]
theorem ext_from (l : List UInt8) (a : Nat) : (str l).extract a (str l).size = str (l.drop a) := by
  rw [of_data ((str l).extract a (str l).size), Lib.extract_to_end, str_data]
theorem ext_upto (l : List UInt8) (a : Nat) : (str l).extract 0 a = str (l.take a) := by
  rw [of_data ((str l).extract 0 a), Lib.extract_from_zero, str_data]
theorem begins_f (s p : List UInt8) : tegularef13_begins.f (str s) (str p) = some (p.isPrefixOf s) := by
  unfold tegularef13_begins.f
  rw [str_size, str_size]
  by_cases h : (s.length : Int) ≥ (p.length : Int)
  · rw [if_pos h, if_pos (by omega), if_pos (by omega), Int.toNat_natCast, ext_upto, str_toList, str_toList]
    congr 1
    rw [Bool.eq_iff_iff, beq_iff_eq, List.isPrefixOf_iff_prefix]
    constructor
    · intro e; rw [← e]; exact List.take_prefix _ _
    · intro e; exact (List.prefix_iff_eq_take.1 e).symm
  · rw [if_neg h]
    congr 1
    symm
    rw [← Bool.not_eq_true, List.isPrefixOf_iff_prefix]
    intro e
    have := e.length_le
    omega
theorem bt_cons (c : UInt8) (r : List UInt8) : bt (str (c :: r)) 0 = (c.toNat : Int) := by
  unfold bt
  rw [dif_pos (show (0 : Int).toNat < (str (c :: r)).size by rw [str_size]; simp)]
  rfl
/-- The digits at the beginning. -/
theorem number_dig : ∀ (ds r : List UInt8) (acc k : Nat), (∀ c ∈ ds, isDig c = true) → (∀ c t, r = c :: t → isDig c = false) → val acc ds < 9223372036854775808 → ds.length < k → tegularef13_number.l0 k (str (ds ++ r)) (acc : Int) = some (((val acc ds : Nat) : Int), str r)
  | [], r, acc, 0, _, _, _, hk => by omega
  | [], r, acc, k + 1, _, hr, _, _ => by
    simp only [tegularef13_number.l0, List.nil_append, str_size]
    cases r with
    | nil => rw [if_neg (by simp)]; rfl
    | cons c t =>
      have hc := hr c t rfl
      unfold isDig at hc
      rw [if_pos (by simp only [List.length_cons]; omega), if_pos (by simp only [List.length_cons]; omega), bt_cons]
      by_cases h1 : (c.toNat : Int) ≥ 48
      · rw [if_pos h1]
        rw [decide_eq_true (show 48 ≤ c.toNat by omega), Bool.true_and, decide_eq_false_iff_not] at hc
        rw [if_neg (by omega)]; rfl
      · rw [if_neg h1]; rfl
  | c :: ds, r, acc, 0, _, _, _, hk => by omega
  | c :: ds, r, acc, k + 1, hd, hr, hv, hk => by
    have hc := hd c (List.mem_cons_self ..)
    unfold isDig at hc
    simp only [Bool.and_eq_true, decide_eq_true_eq] at hc
    have hle := val_le (acc * 10 + (c.toNat - 48)) ds
    have hv' : val (acc * 10 + (c.toNat - 48)) ds < 9223372036854775808 := hv
    simp only [tegularef13_number.l0, List.cons_append, str_size]
    rw [if_pos (by simp only [List.length_cons]; omega), if_pos (by simp only [List.length_cons]; omega), bt_cons, if_pos (by omega), if_pos (by omega), if_pos (by simp only [List.length_cons]; omega)]
    have e1 : wrap64 ((wrap64 ((acc : Int) * 10)) + (((c.toNat : Int) - 48) % 256)) = ((acc * 10 + (c.toNat - 48) : Nat) : Int) := by unfold wrap64; omega
    have e2 : (str (c :: (ds ++ r))).extract 1 (c :: (ds ++ r)).length = str (ds ++ r) := by
      have := ext_from (c :: (ds ++ r)) 1
      rw [str_size] at this
      exact this
    rw [e1, e2]
    exact number_dig ds r _ k (fun x hx => hd x (List.mem_cons_of_mem _ hx)) hr hv' (by simp only [List.length_cons] at hk; omega)
/-- It ends at every text. -/
theorem number_total : ∀ (s : List UInt8) (acc : Int) (k : Nat), s.length < k → -9223372036854775808 ≤ acc ∧ acc ≤ 9223372036854775807 → ∃ v r, tegularef13_number.l0 k (str s) acc = some (v, str r) ∧ r.length ≤ s.length ∧ v ≤ 9223372036854775807
  | s, acc, 0, hk, _ => by omega
  | [], acc, k + 1, _, ha => by
    refine ⟨acc, [], ?_, Nat.le_refl _, ha.2⟩
    simp only [tegularef13_number.l0, str_size]
    rw [if_neg (by simp)]
  | c :: r, acc, k + 1, hk, ha => by
    simp only [tegularef13_number.l0, str_size]
    rw [if_pos (by simp only [List.length_cons]; omega), if_pos (by simp only [List.length_cons]; omega), bt_cons]
    by_cases h1 : (c.toNat : Int) ≥ 48
    · rw [if_pos h1]
      by_cases h2 : (c.toNat : Int) ≤ 57
      · rw [if_pos h2, if_pos (by simp only [List.length_cons]; omega)]
        have e2 : (str (c :: r)).extract 1 (c :: r).length = str r := by
          have := ext_from (c :: r) 1
          rw [str_size] at this
          exact this
        rw [e2]
        obtain ⟨v, q, h3, h4, h5⟩ := number_total r (wrap64 ((wrap64 (acc * 10)) + (((c.toNat : Int) - 48) % 256))) k (by simp only [List.length_cons] at hk; omega) (by unfold wrap64; omega)
        exact ⟨v, q, h3, by simp only [List.length_cons]; omega, h5⟩
      · rw [if_neg h2]; exact ⟨acc, c :: r, rfl, Nat.le_refl _, ha.2⟩
    · rw [if_neg h1]; exact ⟨acc, c :: r, rfl, Nat.le_refl _, ha.2⟩
theorem number_itoa {n : Int} (h0 : 0 ≤ n) (h1 : n ≤ 9223372036854775807) (r : List UInt8) (hr : ∀ c t, r = c :: t → isDig c = false) (k : Nat) (hk : 22 ≤ k) : tegularef13_number.f k (str (Lib.itoa n ++ r)) = some (n, str r) := by
  have hl := itoa_len h0 h1
  rw [itoa_nat h0] at hl ⊢
  obtain ⟨d1, d2, d3⟩ := dec_val n.toNat
  have := number_dig (Lib.decDigits n.toNat) r 0 k d2 hr (by rw [d1]; omega) (by omega)
  rw [d1] at this
  unfold tegularef13_number.f
  rw [show (0 : Int) = ((0 : Nat) : Int) from rfl, this]
  congr 2
  omega
end Go.Proofs.YtgofecclceoeiaaDoor.ST
