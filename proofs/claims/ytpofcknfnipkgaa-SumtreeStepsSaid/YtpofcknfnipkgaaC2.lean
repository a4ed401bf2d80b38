/- The places at which two trees are found to differ, as a list; the reference's Diff answers the same. -/
import Derived.Test.YtpofcknfnipkgaaC1
namespace Go.Proofs.Ytpofcknfnipkgaa.ST
open Go.RowKit Go.Proofs.YtpofcknfnipkgaaW.PrintWords Go.Proofs.YtpofcknfnipkgaaW.PrintLast Go.Proofs.YtpofcknfnipkgaaW.PrintMore Go.Proofs.Ytpofcknfnipkgaa.PS
set_option linter.unusedVariables false
set_option linter.unusedSimpArgs false

theorem sz_iff (n : Nat) : ∀ k q, q < sz n k ↔ q * 4 ^ k < n
  | 0, q => by simp [sz]
  | k + 1, q => by
    have h := sz_iff n k (4 * q)
    have e : q * 4 ^ (k + 1) = 4 * q * 4 ^ k := by rw [Nat.pow_succ, Nat.mul_comm (4 ^ k) 4, ← Nat.mul_assoc, Nat.mul_comm q 4]
    rw [e, ← h]
    simp only [sz]
    omega
def dif (S S' : Nat → Nat → Int) : Nat → Nat → Bool
  | 0, q => S 0 q != S' 0 q
  | k + 1, q => dif S S' k q && S (k + 1) (q / 4 ^ (k + 1)) != S' (k + 1) (q / 4 ^ (k + 1))
def rng (a b : Nat) : List Nat := List.range' a (b - a)
theorem rng_append (a b c : Nat) (h1 : a ≤ b) (h2 : b ≤ c) : rng a b ++ rng b c = rng a c := by
  unfold rng
  have e : b = a + (b - a) := by omega
  conv => lhs; rw [show List.range' b (c - b) = List.range' (a + 1 * (b - a)) (c - b) from by rw [Nat.one_mul, ← e]]
  rw [List.range'_append]
  congr 1
  omega
theorem rng_empty (a b : Nat) (h : b ≤ a) : rng a b = [] := by unfold rng; rw [Nat.sub_eq_zero_of_le h]; rfl
theorem mem_rng {a b q : Nat} : q ∈ rng a b ↔ a ≤ q ∧ q < b := by unfold rng; rw [List.mem_range'_1]; omega
/-- The places of a subtree: a run. -/
theorem rng_kids (f : Nat → Bool) (n k p : Nat) (g : Nat → List Int) (hg : ∀ j, j < mm n k p → g j = ((rng ((4 * p + j) * 4 ^ k) (min ((4 * p + j + 1) * 4 ^ k) n)).filter f).map (fun q : Nat => (q : Int))) (hp : 4 * p < sz n k) :
    (List.range (mm n k p)).flatMap g = ((rng (4 * p * 4 ^ k) (min (4 * (p + 1) * 4 ^ k) n)).filter f).map (fun q : Nat => (q : Int)) := by
  have key : ∀ t, t ≤ mm n k p → (List.range t).flatMap g = ((rng (4 * p * 4 ^ k) (min ((4 * p + t) * 4 ^ k) n)).filter f).map (fun q : Nat => (q : Int)) := by
    intro t
    induction t with
    | zero => intro _; rw [Nat.add_zero, rng_empty _ _ (Nat.min_le_left _ _)]; rfl
    | succ t ih =>
      intro ht
      have hlt : 4 * p + t < sz n k := by unfold mm at ht; omega
      have hn := (sz_iff n k _).1 hlt
      have hmono : 4 * p * 4 ^ k ≤ (4 * p + t) * 4 ^ k := Nat.mul_le_mul_right _ (by omega)
      have hmono2 : (4 * p + t) * 4 ^ k ≤ (4 * p + t + 1) * 4 ^ k := Nat.mul_le_mul_right _ (by omega)
      rw [flat_snoc, ih (by omega), hg t (by omega), ← List.map_append, ← List.filter_append]
      congr 2
      rw [Nat.min_eq_left (Nat.le_of_lt hn)]
      exact rng_append _ _ _ hmono (by omega)
  rw [key _ (Nat.le_refl _)]
  congr 3
  have hm : mm n k p = 4 ∨ (4 * p + mm n k p = sz n k) := by unfold mm; omega
  rcases hm with hm | hm
  · rw [hm, show 4 * p + 4 = 4 * (p + 1) by omega]
  · have h1 : ¬ (4 * p + mm n k p) * 4 ^ k < n := fun h => by have := (sz_iff n k _).2 h; omega
    have h2 : (4 * p + mm n k p) * 4 ^ k ≤ 4 * (p + 1) * 4 ^ k := Nat.mul_le_mul_right _ (by have := mm_le n k p; omega)
    omega
theorem dfl_eq (n : Nat) (S S' : Nat → Nat → Int) : ∀ k p, p < sz n k → dfl n S S' k p ((p * 4 ^ k : Nat) : Int) = ((rng (p * 4 ^ k) (min ((p + 1) * 4 ^ k) n)).filter (dif S S' k)).map (fun q : Nat => (q : Int))
  | 0, p, hp => by
    have e : rng (p * 4 ^ 0) (min ((p + 1) * 4 ^ 0) n) = [p] := by
      simp only [sz] at hp
      unfold rng
      rw [show min ((p + 1) * 4 ^ 0) n - p * 4 ^ 0 = 1 by simp; omega]
      simp
    rw [e]
    unfold dfl
    by_cases h : S 0 p = S' 0 p
    · simp [h, dif]
    · simp [h, dif]
  | k + 1, p, hp => by
    have hk : 4 * p < sz n k := by simp only [sz] at hp; omega
    have e4 : p * 4 ^ (k + 1) = 4 * p * 4 ^ k := by rw [Nat.pow_succ, Nat.mul_comm (4 ^ k) 4, ← Nat.mul_assoc, Nat.mul_comm p 4]
    have e5 : (p + 1) * 4 ^ (k + 1) = 4 * (p + 1) * 4 ^ k := by rw [Nat.pow_succ, Nat.mul_comm (4 ^ k) 4, ← Nat.mul_assoc, Nat.mul_comm (p + 1) 4]
    have hdiv : ∀ q, q ∈ rng (p * 4 ^ (k + 1)) (min ((p + 1) * 4 ^ (k + 1)) n) → q / 4 ^ (k + 1) = p := fun q hq => by
      have h := mem_rng.1 hq
      have h2 : q < (p + 1) * 4 ^ (k + 1) := by omega
      exact Nat.div_eq_of_lt_le h.1 h2
    rw [dfl]
    by_cases h : S (k + 1) p = S' (k + 1) p
    · rw [if_pos h]
      rw [List.filter_eq_nil_iff.2 (fun q hq => by simp [dif, hdiv q hq, h])]
      rfl
    · rw [if_neg h]
      rw [List.filter_congr (q := dif S S' k) (fun q hq => by simp [dif, hdiv q hq, h])]
      rw [e4, e5]
      refine rng_kids _ n k p _ (fun j hj => ?_) hk
      have hlt : 4 * p + j < sz n k := by unfold mm at hj; omega
      rw [← dfl_eq n S S' k (4 * p + j) hlt]
      congr 1
      have : (4 : Int) ^ k = ((4 ^ k : Nat) : Int) := by norm_cast
      rw [this]
      push_cast
      rw [Int.add_mul]
def diffV (a b : List Int) : List Int := ((List.range a.length).filter (dif (SL a) (SL b) (ht a.length))).map (fun q : Nat => (q : Int))
theorem dfl_top (a b : List Int) (h : 0 < a.length) : dfl a.length (SL a) (SL b) (ht a.length) 0 0 = diffV a b := by
  have h0 := dfl_eq a.length (SL a) (SL b) (ht a.length) 0 (sz_pos h _)
  have hs := sz_ht a.length
  have hn : ¬ 1 * 4 ^ ht a.length < a.length := fun hlt => by have := (sz_iff _ _ _).2 hlt; omega
  rw [show ((0 * 4 ^ ht a.length : Nat) : Int) = 0 by simp] at h0
  rw [h0]
  unfold diffV rng
  rw [Nat.min_eq_right (by omega)]
  simp [List.range_eq_range']
/-! The reference's Diff. -/
def pre (S S' : Nat → Nat → Int) : Nat → Nat → Bool
  | 0, _ => true
  | c + 1, i => dif S S' c i
theorem pre_succ (S S' : Nat → Nat → Int) (c i : Nat) : pre S S' (c + 1) i = (pre S S' c i && S c (i / 4 ^ c) != S' c (i / 4 ^ c)) := by
  cases c with
  | zero => simp [pre, dif]
  | succ c => rfl
theorem rdiff_l1 (a b : List Int) (hab : a.length = b.length) (ha : a.length < 900) (i : Nat) (hi : i < a.length) (out : List Int) (ho : out.length < 100000) (r : List Int × Int)
    (h : Ev (fun k => tegularef26_Diff.l0 k a (lvs a (ht a.length)) (lvs b (ht a.length)) (if dif (SL a) (SL b) (ht a.length) i = true then out ++ [(i : Int)] else out) ((i + 1 : Nat) : Int)) r) (d : Nat) :
    ∀ c : Nat, c + d = ht a.length + 1 → Ev (fun k => tegularef26_Diff.l1 k a (lvs a (ht a.length)) (lvs b (ht a.length)) out i (pre (SL a) (SL b) c i) ((i / 4 ^ c : Nat) : Int) c) r := by
  have hh := ht_le a.length
  induction d with
  | zero =>
    intro c hc
    have hc' : c = ht a.length + 1 := by omega
    subst hc'
    have e1 : ∀ _ : Unit, wrap64 ((i : Int) + 1) = ((i + 1 : Nat) : Int) := fun _ => by rw [w64 (by omega) (by omega)]; simp
    refine Ev.step (fun k => ?_) h
    simp only [tegularef26_Diff.l1, e1 (), pre]
    rw [if_neg (by rw [lvs_length]; omega)]
    by_cases hd : dif (SL a) (SL b) (ht a.length) i = true
    · rw [if_pos hd, if_pos hd, if_pos (by omega)]
    · rw [if_neg hd, if_neg hd]
  | succ d ih =>
    intro c hc
    have hanc := sz_anc hi c
    have hle : i / 4 ^ c ≤ i := Nat.div_le_self _ _
    have e1 : ∀ _ : Unit, wrap64 ((c : Int) + 1) = ((c + 1 : Nat) : Int) := fun _ => by rw [w64 (by omega) (by omega)]; simp
    have e2 : ∀ _ : Unit, wrap64 (Int.tdiv ((i / 4 ^ c : Nat) : Int) 4) = ((i / 4 ^ (c + 1) : Nat) : Int) := fun _ => by rw [anc_succ, half_walk _ (by omega)]
    have la : rd_L2 (lvs a (ht a.length)) (c : Int) = lv a c := lvs_at a _ c (by omega)
    have lb : rd_L2 (lvs b (ht a.length)) (c : Int) = lv b c := lvs_at b _ c (by omega)
    refine Ev.step (fun k => ?_) (ih (c + 1) (by omega))
    rw [pre_succ]
    simp only [tegularef26_Diff.l1, e1 (), e2 (), la, lb, rd_at]
    rw [if_pos (by rw [lvs_length]; omega)]
    by_cases hp : pre (SL a) (SL b) c i = true
    · rw [if_pos hp, hp, Bool.true_and, if_pos (by omega), if_pos (Int.natCast_nonneg _), if_pos (Int.ofNat_lt.2 (by rw [lv_length]; exact hanc)), if_pos (by rw [lvs_length]; omega), if_pos (Int.ofNat_lt.2 (by rw [lv_length, ← hab]; exact hanc))]
      rfl
    · rw [if_neg hp, Bool.eq_false_iff.2 hp, Bool.false_and]
theorem rdiff_l0 (a b : List Int) (hab : a.length = b.length) (ha : a.length < 900) (d : Nat) : ∀ (i : Nat) (out : List Int), i + d = a.length → out.length ≤ i →
    Ev (fun k => tegularef26_Diff.l0 k a (lvs a (ht a.length)) (lvs b (ht a.length)) out i) (out ++ ((List.range' i d).filter (dif (SL a) (SL b) (ht a.length))).map (fun q : Nat => (q : Int)), 0) := by
  induction d with
  | zero =>
    intro i out hi ho
    refine Ev.step (f := fun _ => some (out ++ ((List.range' i 0).filter (dif (SL a) (SL b) (ht a.length))).map (fun q : Nat => (q : Int)), 0)) (fun k => ?_) (Ev.now _)
    simp only [tegularef26_Diff.l0]
    rw [if_neg (by omega)]
    simp
  | succ d ih =>
    intro i out hi ho
    have hl1 := rdiff_l1 a b hab ha i (by omega) out (by omega) (out ++ ((List.range' i (d + 1)).filter (dif (SL a) (SL b) (ht a.length))).map (fun q : Nat => (q : Int)), 0) (by
      rw [List.range'_succ, List.filter_cons]
      by_cases hd : dif (SL a) (SL b) (ht a.length) i = true
      · rw [if_pos hd, if_pos hd]
        have := ih (i + 1) (out ++ [(i : Int)]) (by omega) (by simp; omega)
        simpa using this
      · rw [if_neg hd, if_neg hd]
        exact ih (i + 1) out (by omega) (by omega)) (ht a.length + 1) 0 (by omega)
    refine Ev.step (fun k => ?_) hl1
    simp only [tegularef26_Diff.l0]
    rw [if_pos (by omega)]
    simp [pre]
theorem ref_diff_ev (a b : List Int) (ha : a.length < 900) (hb : b.length < 900) : Ev (fun k => tegularef26_Diff.f k a b) (if a.length = b.length then (diffV a b, 0) else ([], 1)) := by
  by_cases h : a.length = b.length
  · rw [if_pos h]
    have h0 := rdiff_l0 a b h ha a.length 0 [] (by omega) (by simp)
    refine Ev.congr (f := fun k => (tegularef26_Levels.f k a).bind fun t => (tegularef26_Levels.f k b).bind fun u => tegularef26_Diff.l0 k a t u [] 0) (fun k => ?_) (Ev.bind (levels_ev a ha) (Ev.bind (levels_ev b hb) ?_))
    · unfold tegularef26_Diff.f
      rw [if_pos (by omega)]
    · rw [← h]
      unfold diffV
      rw [List.range_eq_range']
      simpa using h0
  · rw [if_neg h]
    refine Ev.congr (f := fun _ => some ([], 1)) (fun k => ?_) (Ev.now _)
    unfold tegularef26_Diff.f
    rw [if_neg (by omega)]
end Go.Proofs.Ytpofcknfnipkgaa.ST
