/- The text of a valid list, read back: plain laws. -/
import Derived.Test.YtgofecclceoeiaaDoorG5
namespace Go.Proofs.YtgofecclceoeiaaDoor.ST
open Go.RowKit Go.Proofs.YtgofecclceoeiaaDoorW.PrintWords Go.Proofs.YtgofecclceoeiaaDoorW.PrintLast Go.Proofs.YtgofecclceoeiaaDoorW.PrintMore Go.Proofs.YtgofecclceoeiaaDoor.PF
set_option linter.unusedVariables false
set_option linter.unusedSimpArgs false
/-! ### The first place of a text -/
theorem index_at (a b : List UInt8) (h : UInt8) (t : List UInt8) (ha : h ∉ a) : Lib.index (a ++ (h :: t) ++ b) (h :: t) = a.length := by
  refine Lib.index_first (by simp) ?_ ?_
  · unfold Lib.occAt
    rw [List.append_assoc, List.drop_left]
    simp
  · intro j hj
    rw [← Bool.not_eq_true]
    intro e
    have := Lib.occAt_head rfl e
    rw [List.append_assoc, List.getElem?_append_left hj, List.getElem?_eq_getElem hj] at this
    exact ha ((Option.some.inj this) ▸ List.getElem_mem hj)
theorem index_no (a : List UInt8) (h : UInt8) (t : List UInt8) (ha : h ∉ a) : Lib.index a (h :: t) = -1 := by
  refine Lib.index_none fun j hj => ?_
  rw [← Bool.not_eq_true]
  intro e
  have := Lib.occAt_head rfl e
  obtain ⟨hj', he⟩ := List.getElem?_eq_some_iff.1 this
  exact ha (he ▸ List.getElem_mem hj')
theorem index_split (s sep : List UInt8) (h : 0 ≤ Lib.index s sep) : s = s.take (Lib.index s sep).toNat ++ sep ++ s.drop ((Lib.index s sep).toNat + sep.length) := by
  rcases Lib.index_spec s sep with ⟨h1, _⟩ | ⟨i, h1, h2, h3, _⟩
  · omega
  · rw [h1, Int.toNat_natCast]
    unfold Lib.occAt at h3
    obtain ⟨r, hr⟩ := List.isPrefixOf_iff_prefix.1 h3
    have e1 : s = s.take i ++ s.drop i := (List.take_append_drop i s).symm
    rw [← hr] at e1
    have e2 : s.drop (i + sep.length) = r := by
      rw [← List.drop_drop, ← hr, List.drop_left]
    rw [e2, List.append_assoc]
    exact e1
theorem cut_at (a b : List UInt8) (h : UInt8) (t : List UInt8) (ha : h ∉ a) : Lib.cut (a ++ (h :: t) ++ b) (h :: t) = (a, b, true) := by
  unfold Lib.cut
  rw [index_at a b h t ha, if_pos (by omega), Int.toNat_natCast, List.append_assoc, List.take_left, ← List.append_assoc]
  rw [show a.length + (h :: t).length = (a ++ (h :: t)).length by simp, List.drop_left]
theorem cut_found {s sep a b : List UInt8} (h : Lib.cut s sep = (a, b, true)) : s = a ++ sep ++ b := by
  unfold Lib.cut at h
  split at h
  · rename_i hi
    simp only [Prod.mk.injEq] at h
    obtain ⟨rfl, rfl, _⟩ := h
    exact index_split s sep hi
  · simp at h
/-! ### The parts -/
theorem join_two (x y : List UInt8) (r : List (List UInt8)) (sep : List UInt8) : Lib.join (x :: y :: r) sep = x ++ sep ++ Lib.join (y :: r) sep := by
  rw [Lib.join_cons, Lib.join_cons]
  simp [Lib.joinTail]
theorem splitK_ne (sep : List UInt8) (k : Nat) (s : List UInt8) : Lib.splitK sep 0 k s ≠ [] := by
  cases k with
  | zero => simp [Lib.splitK]
  | succ k => unfold Lib.splitK; split <;> simp
theorem join_split (sep : List UInt8) : ∀ (k : Nat) (s : List UInt8), Lib.join (Lib.splitK sep 0 k s) sep = s
  | 0, s => by simp [Lib.splitK, Lib.join_one]
  | k + 1, s => by
    unfold Lib.splitK
    split
    · exact Lib.join_one s sep
    · rename_i hi
      have h0 : 0 ≤ Lib.index s sep := by
        have := Lib.index_ge s sep
        have : Lib.index s sep ≠ -1 := fun e => hi (by rw [e]; rfl)
        omega
      have ih := join_split sep k (s.drop ((Lib.index s sep).toNat + sep.length))
      cases hr : Lib.splitK sep 0 k (s.drop ((Lib.index s sep).toNat + sep.length)) with
      | nil => exact absurd hr (splitK_ne _ _ _)
      | cons y r =>
        rw [hr] at ih
        rw [join_two, ih, Nat.add_zero]
        exact (index_split s sep h0).symm
theorem count_no (s : List UInt8) (h : UInt8) (t : List UInt8) (ha : h ∉ s) : Lib.count s (h :: t) = 0 := by
  unfold Lib.count
  unfold Lib.countFrom
  rw [index_no s h t ha]
  rfl
theorem split_join (h : UInt8) (t : List UInt8) : ∀ (l : List (List UInt8)), l ≠ [] → (∀ x ∈ l, h ∉ x) → Lib.splitK (h :: t) 0 (Lib.count (Lib.join l (h :: t)) (h :: t)) (Lib.join l (h :: t)) = l ∧ Lib.count (Lib.join l (h :: t)) (h :: t) + 1 = l.length
  | [], hne, _ => absurd rfl hne
  | [x], _, hx => by
    have hx' := hx x (List.mem_cons_self ..)
    rw [Lib.join_one, count_no x h t hx']
    exact ⟨rfl, rfl⟩
  | x :: y :: r, _, hx => by
    have hx' := hx x (List.mem_cons_self ..)
    obtain ⟨ih1, ih2⟩ := split_join h t (y :: r) (by simp) (fun z hz => hx z (List.mem_cons_of_mem _ hz))
    rw [join_two]
    have hi := index_at x (Lib.join (y :: r) (h :: t)) h t hx'
    have hd : (x ++ (h :: t) ++ Lib.join (y :: r) (h :: t)).drop (x.length + (h :: t).length) = Lib.join (y :: r) (h :: t) := by
      rw [show x.length + (h :: t).length = (x ++ (h :: t)).length by simp, List.drop_left]
    have hc := Lib.count_hit (s := x ++ (h :: t) ++ Lib.join (y :: r) (h :: t)) (sub := h :: t) (i := x.length) (by simp) hi
    rw [hd] at hc
    rw [hc, Nat.add_comm 1]
    refine ⟨?_, by simp only [List.length_cons] at ih2 ⊢; omega⟩
    unfold Lib.splitK
    rw [hi, if_neg (by simp), Int.toNat_natCast, hd, ih1, Nat.add_zero, List.append_assoc, List.take_left]
theorem split_len (sep : List UInt8) (hs : sep ≠ []) : ∀ (n : Nat) (s : List UInt8), s.length < n → (Lib.splitK sep 0 (Lib.count s sep) s).length = Lib.count s sep + 1
  | 0, s, h => by omega
  | n + 1, s, h => by
    by_cases hi : (Lib.index s sep == -1) = true
    · have e : Lib.count s sep = 0 := by
        unfold Lib.count Lib.countFrom
        rw [if_pos hi]
      rw [e]; rfl
    · have h0 : 0 ≤ Lib.index s sep := by
        have := Lib.index_ge s sep
        have : Lib.index s sep ≠ -1 := fun e => hi (by rw [e]; rfl)
        omega
      have hd := Lib.drop_shorter hs hi
      have hc := Lib.count_hit (s := s) (sub := sep) (i := (Lib.index s sep).toNat) hs (by omega)
      rw [hc, Nat.add_comm 1]
      unfold Lib.splitK
      rw [if_neg hi, List.length_cons, split_len sep hs n _ (by omega)]
/-! ### Numerals -/
def isDig (c : UInt8) : Bool := decide (48 ≤ c.toNat) && decide (c.toNat ≤ 57)
def val (acc : Nat) : List UInt8 → Nat
  | [] => acc
  | c :: r => val (acc * 10 + (c.toNat - 48)) r
theorem val_app (acc : Nat) (a b : List UInt8) : val acc (a ++ b) = val (val acc a) b := by
  induction a generalizing acc with
  | nil => rfl
  | cons c r ih => exact ih _
theorem val_le (acc : Nat) (a : List UInt8) : acc ≤ val acc a := by
  induction a generalizing acc with
  | nil => exact Nat.le_refl _
  | cons c r ih => exact Nat.le_trans (by omega) (ih _)
theorem dig_of (n : Nat) (h : n < 10) : (UInt8.ofNat (48 + n)).toNat = 48 + n := by
  rw [UInt8.toNat_ofNat']
  omega
theorem isDig_of (n : Nat) (h : n < 10) : isDig (UInt8.ofNat (48 + n)) = true := by
  unfold isDig
  rw [dig_of n h, decide_eq_true (by omega), decide_eq_true (by omega)]
  rfl
theorem dec_val (u : Nat) : val 0 (Lib.decDigits u) = u ∧ (∀ c ∈ Lib.decDigits u, isDig c = true) ∧ Lib.decDigits u ≠ [] := by
  induction u using Nat.strongRecOn with
  | _ u ih =>
    rcases Nat.lt_or_ge u 10 with h | h
    · rw [Lib.decDigits_one h]
      refine ⟨?_, ?_, by simp⟩
      · show 0 * 10 + ((UInt8.ofNat (48 + u)).toNat - 48) = u
        rw [dig_of u h]; omega
      · intro c hc
        rw [List.mem_singleton.1 hc]
        exact isDig_of u h
    · have e : Lib.decDigits u = Lib.decDigits (u / 10) ++ [UInt8.ofNat (48 + u % 10)] := by rw [Lib.decDigits, dif_neg (by omega)]
      rw [e]
      obtain ⟨h1, h2, h3⟩ := ih (u / 10) (by omega)
      have hm : u % 10 < 10 := Nat.mod_lt _ (by decide)
      refine ⟨?_, ?_, by simp⟩
      · rw [val_app, h1]
        show u / 10 * 10 + ((UInt8.ofNat (48 + u % 10)).toNat - 48) = u
        rw [dig_of _ hm]; omega
      · intro c hc
        rcases List.mem_append.1 hc with hc | hc
        · exact h2 c hc
        · rw [List.mem_singleton.1 hc]
          exact isDig_of _ hm
theorem parse_val : ∀ (ds : List UInt8) (acc : Nat), (∀ c ∈ ds, isDig c = true) → val acc ds < 9223372036854775808 → Lib.parseUint10 acc ds = .ok (val acc ds)
  | [], acc, _, _ => rfl
  | c :: r, acc, hd, hv => by
    have hc := hd c (List.mem_cons_self ..)
    unfold isDig at hc
    simp only [Bool.and_eq_true, decide_eq_true_eq] at hc
    have hle := val_le (acc * 10 + (c.toNat - 48)) r
    have hv' : val (acc * 10 + (c.toNat - 48)) r < 9223372036854775808 := hv
    unfold Lib.parseUint10
    rw [if_pos hc, if_neg (by omega), if_neg (by omega)]
    exact parse_val r _ (fun x hx => hd x (List.mem_cons_of_mem _ hx)) hv
theorem atoi_dec (u : Nat) (h : u < 9223372036854775808) : Lib.atoiAll (Lib.decDigits u) = .ok (u : Int) := by
  obtain ⟨h1, h2, h3⟩ := dec_val u
  cases hd : Lib.decDigits u with
  | nil => exact absurd hd h3
  | cons c r =>
    rw [hd] at h1 h2
    have hc := h2 c (List.mem_cons_self ..)
    unfold isDig at hc
    simp only [Bool.and_eq_true, decide_eq_true_eq] at hc
    have hp := parse_val (c :: r) 0 h2 (by rw [h1]; exact h)
    rw [h1] at hp
    unfold Lib.atoiAll
    have n1 : ¬ (c.toNat = 43 ∨ c.toNat = 45) := by omega
    have n2 : ¬ c.toNat = 45 := by omega
    have hp2 : Lib.parseMag (c :: r) = .ok u := by unfold Lib.parseMag; rw [if_neg (by simp), hp]
    simp only [if_neg n1, hp2]
    rw [if_neg (by omega), if_neg (fun e => n2 e.1), if_neg n2]
theorem itoa_nat {n : Int} (h : 0 ≤ n) : Lib.itoa n = Lib.decDigits n.toNat := by
  unfold Lib.itoa
  rw [if_neg (by omega)]
theorem num_itoa {n : Int} (h0 : 0 ≤ n) (h1 : n ≤ 9223372036854775807) : numOf (Lib.itoa n) = n ∧ okNum (Lib.itoa n) = true := by
  have e := atoi_dec n.toNat (by omega)
  rw [← itoa_nat h0] at e
  have e2 : ((n.toNat : Nat) : Int) = n := by omega
  rw [e2] at e
  unfold numOf okNum
  rw [e]
  simp
theorem okNum_itoa {w : List UInt8} (h : okNum w = true) : Lib.itoa (numOf w) = w ∧ numOf w ≤ 9223372036854775807 := by
  unfold okNum at h
  unfold numOf
  split at h
  · rename_i v hv
    rw [hv]
    exact ⟨beq_iff_eq.1 h, (Lib.atoiAll_bounds hv).2⟩
  · cases h
end Go.Proofs.YtgofecclceoeiaaDoor.ST
