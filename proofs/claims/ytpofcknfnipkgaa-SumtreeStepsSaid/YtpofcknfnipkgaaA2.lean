/- The levels of the tree of a list, and what the reference's functions answer: levels, root, path. -/
import Derived.Test.YtpofcknfnipkgaaA1
namespace Go.Proofs.Ytpofcknfnipkgaa.ST
open Go.RowKit Go.Proofs.YtpofcknfnipkgaaW.PrintWords Go.Proofs.YtpofcknfnipkgaaW.PrintLast Go.Proofs.YtpofcknfnipkgaaW.PrintMore Go.Proofs.Ytpofcknfnipkgaa.PS
set_option linter.unusedVariables false
set_option linter.unusedSimpArgs false

def sz (n : Nat) : Nat → Nat
  | 0 => n
  | k + 1 => (sz n k + 3) / 4
def ht (n : Nat) : Nat := if n ≤ 1 then 0 else ht ((n + 3) / 4) + 1
termination_by n
decreasing_by omega
theorem sz_up (n : Nat) : ∀ k, sz ((n + 3) / 4) k = sz n (k + 1)
  | 0 => rfl
  | k + 1 => by simp only [sz]; rw [sz_up n k]; rfl
theorem ht_one {n : Nat} (h : n ≤ 1) : ht n = 0 := by rw [ht, if_pos h]
theorem ht_more {n : Nat} (h : ¬ n ≤ 1) : ht n = ht ((n + 3) / 4) + 1 := by rw [ht, if_neg h]
theorem sz_ht (n : Nat) : sz n (ht n) ≤ 1 := by
  induction n using Nat.strongRecOn with
  | ind n ih =>
    by_cases h : n ≤ 1
    · rw [ht_one h]; exact h
    · rw [ht_more h, ← sz_up]; exact ih _ (by omega)
theorem sz_lt (n : Nat) : ∀ k, k < ht n → 1 < sz n k := by
  induction n using Nat.strongRecOn with
  | ind n ih =>
    intro k hk
    by_cases h : n ≤ 1
    · rw [ht_one h] at hk; omega
    · rw [ht_more h] at hk
      cases k with
      | zero => simp only [sz]; omega
      | succ k => rw [← sz_up]; exact ih _ (by omega) k (by omega)
theorem sz_pos {n : Nat} (h : 0 < n) : ∀ k, 0 < sz n k
  | 0 => h
  | k + 1 => by have := sz_pos h k; simp only [sz]; omega
theorem sz_le (n : Nat) : ∀ k, sz n k ≤ n
  | 0 => Nat.le_refl _
  | k + 1 => by have := sz_le n k; simp only [sz]; omega
theorem ht_le (n : Nat) : ht n ≤ n := by
  induction n using Nat.strongRecOn with
  | ind n ih =>
    by_cases h : n ≤ 1
    · rw [ht_one h]; omega
    · rw [ht_more h]; have := ih ((n + 3) / 4) (by omega); omega
theorem sz_zero : ∀ k, sz 0 k = 0
  | 0 => rfl
  | k + 1 => by simp only [sz]; rw [sz_zero k]
/-- The place above a place lies in the level above. -/
theorem sz_anc {n i : Nat} (h : i < n) : ∀ k, i / 4 ^ k < sz n k
  | 0 => by simpa [sz] using h
  | k + 1 => by
    have := sz_anc h k
    simp only [sz]
    rw [Nat.pow_succ, ← Nat.div_div_eq_div_mul]
    omega
theorem anc_succ (i k : Nat) : i / 4 ^ (k + 1) = i / 4 ^ k / 4 := by rw [Nat.pow_succ, ← Nat.div_div_eq_div_mul]

def nxt (l : List Int) : List Int := (List.range ((l.length + 3) / 4)).map fun p => runV ((l.take (4 * p + 4)).drop (4 * p))
def lv (l : List Int) : Nat → List Int
  | 0 => l
  | k + 1 => nxt (lv l k)
theorem nxt_length (l : List Int) : (nxt l).length = (l.length + 3) / 4 := by simp [nxt]
theorem lv_length (l : List Int) : ∀ k, (lv l k).length = sz l.length k
  | 0 => rfl
  | k + 1 => by simp only [lv, sz, nxt_length, lv_length l k]
def lvs (l : List Int) (k : Nat) : List (List Int) := (List.range (k + 1)).map (lv l)
theorem lvs_length (l : List Int) (k : Nat) : (lvs l k).length = k + 1 := by simp [lvs]
theorem lvs_succ (l : List Int) (k : Nat) : lvs l (k + 1) = lvs l k ++ [lv l (k + 1)] := by simp [lvs, List.range_succ]
theorem lvs_at (l : List Int) (k j : Nat) (h : j ≤ k) : rd_L2 (lvs l k) (j : Int) = lv l j := by
  have h' : j < k + 1 := by omega
  simp [rd_L2, lvs, List.getD_eq_getElem?_getD, h']

theorem nxt_take (l : List Int) (q : Nat) (hq : q < (l.length + 3) / 4) : (nxt l).take (q + 1) = (nxt l).take q ++ [runV ((l.take (4 * q + 4)).drop (4 * q))] := by
  rw [List.take_succ_eq_append_getElem (by rw [nxt_length]; exact hq)]
  simp [nxt]
theorem mn_nat (a b : Nat) : mn (a : Int) (b : Int) = ((min a b : Nat) : Int) := by unfold mn; split <;> omega
theorem levels_l1 (x3 : List (List Int)) (row : List Int) (r : List (List Int)) (h3 : x3.length < 1000) (hrow : row.length < 100000) (h : Ev (fun k => tegularef26_Levels.l0 k (x3 ++ [nxt row])) r) (d : Nat) :
    ∀ q : Nat, q + d = (row.length + 3) / 4 → Ev (fun k => tegularef26_Levels.l1 k x3 row ((nxt row).take q) ((4 * q : Nat) : Int)) r := by
  induction d with
  | zero =>
    intro q hq
    refine Ev.step (fun k => ?_) h
    simp only [tegularef26_Levels.l1]
    rw [if_neg (by omega), if_pos (by omega), List.take_of_length_le (by rw [nxt_length]; omega)]
  | succ d ih =>
    intro q hq
    refine Ev.step (f := fun k => (tegularef26_run.f k ((row.take (4 * q + 4)).drop (4 * q))).bind fun t => tegularef26_Levels.l1 k x3 row ((nxt row).take q ++ [t]) ((4 * (q + 1) : Nat) : Int)) (fun k => ?_) (Ev.bind (a := runV ((row.take (4 * q + 4)).drop (4 * q))) (ref_run_ev _ (by simp; omega)) ?_)
    · have e1 : wrap64 (((4 * q : Nat) : Int) + 4) = ((4 * q + 4 : Nat) : Int) := by rw [w64 (by omega) (by omega)]; simp
      simp only [tegularef26_Levels.l1, e1, mn_nat]
      rw [if_pos (by omega), if_pos (by omega), if_pos (by omega), if_pos (by omega)]
      have e2 : row.take ((min (4 * q + 4) row.length : Nat) : Int).toNat = row.take (4 * q + 4) := by
        rw [Int.toNat_natCast]
        rcases Nat.le_total (4 * q + 4) row.length with h | h
        · rw [Nat.min_eq_left h]
        · rw [Nat.min_eq_right h, List.take_of_length_le (Nat.le_refl _), List.take_of_length_le h]
      rw [e2, Int.toNat_natCast]
      congr 1
      funext t
      rw [if_pos (by rw [List.length_take, nxt_length]; omega)]
      congr 1
    · rw [← nxt_take row q (by omega)]
      exact ih (q + 1) (by omega)
theorem levels_l0 (l : List Int) (hl : l.length < 100000) (d : Nat) : ∀ k : Nat, k + d = ht l.length → k < 900 → ht l.length < 900 → Ev (fun n => tegularef26_Levels.l0 n (lvs l k)) (lvs l (ht l.length)) := by
  induction d with
  | zero =>
    intro k hk h9 h8
    have e1 : wrap64 (((lvs l k).length : Int) - 1) = (k : Int) := by rw [lvs_length, w64 (by omega) (by omega)]; simp
    have hs := sz_ht l.length
    refine Ev.step (f := fun _ => some (lvs l k)) (fun n => ?_) ?_
    · simp only [tegularef26_Levels.l0, e1]
      rw [if_pos (by omega), if_pos (by rw [lvs_length]; omega), lvs_at l k k (by omega), if_neg]
      rw [lv_length]
      have : k = ht l.length := by omega
      rw [this]; omega
    · have : k = ht l.length := by omega
      rw [this]; exact Ev.now _
  | succ d ih =>
    intro k hk h9 h8
    have e1 : wrap64 (((lvs l k).length : Int) - 1) = (k : Int) := by rw [lvs_length, w64 (by omega) (by omega)]; simp
    have hs := sz_lt l.length k (by omega)
    have hle := sz_le l.length k
    refine Ev.step (f := fun n => tegularef26_Levels.l1 n (lvs l k) (lv l k) [] 0) (fun n => ?_) ?_
    · simp only [tegularef26_Levels.l0, e1]
      rw [if_pos (by omega), if_pos (by rw [lvs_length]; omega), lvs_at l k k (by omega), if_pos]
      rw [lv_length]
      omega
    · have := levels_l1 (lvs l k) (lv l k) (lvs l (ht l.length)) (by rw [lvs_length]; omega) (by rw [lv_length]; omega) (by rw [← show lv l (k + 1) = nxt (lv l k) from rfl, ← lvs_succ]; exact ih (k + 1) (by omega) (by omega) h8) _ 0 (by rw [Nat.zero_add])
      simpa using this
theorem levels_ev (l : List Int) (hl : l.length < 900) : Ev (fun n => tegularef26_Levels.f n l) (lvs l (ht l.length)) := by
  have hh := ht_le l.length
  refine Ev.congr (f := fun n => tegularef26_Levels.l0 n (lvs l 0)) (fun n => ?_) (levels_l0 l (by omega) (ht l.length) 0 (by omega) (by omega) (by omega))
  unfold tegularef26_Levels.f
  simp only [Option.bind_some, List.length_nil, List.nil_append]
  rw [if_pos (by omega)]
  rfl

def rootV (l : List Int) : Int := if l = [] then topV 0 0 else topV l.length ((lv l (ht l.length)).getD 0 0)
theorem ref_root_ev (l : List Int) (hl : l.length < 900) : Ev (fun n => tegularef26_Root.f n l) (rootV l) := by
  have hh := ht_le l.length
  have e1 : wrap64 (((lvs l (ht l.length)).length : Int) - 1) = (ht l.length : Int) := by rw [lvs_length, w64 (by omega) (by omega)]; simp
  refine Ev.bind (levels_ev l hl) ?_
  simp only [e1]
  by_cases h0 : l = []
  · subst h0
    refine Ev.congr (f := fun n => (tegularef26_Top.f n 0 0).bind fun t => some t) (fun n => ?_) (Ev.bind (top_ev 0 0) (Ev.now _))
    rw [if_pos (by omega), if_pos (by rw [lvs_length]; omega), lvs_at _ _ _ (by omega), if_pos]
    rw [lv_length]
    simp [sz_zero]
  · have hp : 0 < l.length := List.length_pos_iff.2 h0
    have h1 := sz_ht l.length
    have h2 := sz_pos hp (ht l.length)
    unfold rootV
    rw [if_neg h0]
    refine Ev.congr (f := fun n => (tegularef26_Top.f n (l.length : Int) ((lv l (ht l.length)).getD 0 0)).bind fun t => some t) (fun n => ?_) (Ev.bind (top_ev _ _) (Ev.now _))
    rw [if_pos (by omega), if_pos (by rw [lvs_length]; omega), lvs_at _ _ _ (by omega), if_neg (by rw [lv_length]; omega), if_pos (by rw [lv_length]; omega)]
    rfl

/-- What stands beside place p in its group, from place j on. -/
def gat (row : List Int) (p : Nat) : Nat → Nat → List Int
  | 0, _ => []
  | d + 1, j => if j < row.length then (if j = p then gat row p d (j + 1) else row.getD j 0 :: gat row p d (j + 1)) else []
def sibs (row : List Int) (p : Nat) : List Int := gat row p 4 (p / 4 * 4)
def pth (l : List Int) (i : Nat) : Nat → Nat → List Int
  | 0, _ => []
  | d + 1, k => sibs (lv l k) (i / 4 ^ k) ++ pth l i d (k + 1)
def pathV (l : List Int) (i : Nat) : List Int := pth l i (ht l.length) 0
theorem gat_length (row : List Int) (p : Nat) : ∀ d j, (gat row p d j).length ≤ d
  | 0, _ => by simp [gat]
  | d + 1, j => by
    have := gat_length row p d (j + 1)
    unfold gat
    split
    · split
      · omega
      · simp; omega
    · simp
theorem pth_length (l : List Int) (i : Nat) : ∀ d k, (pth l i d k).length ≤ 4 * d
  | 0, _ => by simp [pth]
  | d + 1, k => by
    have := pth_length l i d (k + 1)
    have h2 := gat_length (lv l k) (i / 4 ^ k) 4 (i / 4 ^ k / 4 * 4)
    simp only [pth, sibs, List.length_append]
    omega
theorem tdiv4 (p : Nat) : Int.tdiv (p : Int) 4 = ((p / 4 : Nat) : Int) := by
  rw [Int.tdiv_eq_ediv_of_nonneg (by omega)]; omega
theorem path_l1 (p : Nat) (x6 : List (List Int)) (lev : Nat) (r : List Int × Int) (hp : p < 100000) (h6 : lev < x6.length) (h6' : x6.length < 10000) (d : Nat) :
    ∀ (j : Nat) (out : List Int), j + d = p / 4 * 4 + 4 → out.length + d < 1000000 → Ev (fun k => tegularef26_Path.l0 k ((p / 4 : Nat) : Int) x6 (out ++ gat (rd_L2 x6 lev) p d j) ((lev + 1 : Nat) : Int)) r →
      Ev (fun k => tegularef26_Path.l1 k p x6 out lev ((p / 4 * 4 : Nat) : Int) j) r := by
  have e0 : ∀ _ : Unit, wrap64 (Int.tdiv (p : Int) 4) = ((p / 4 : Nat) : Int) := fun _ => by rw [tdiv4, w64 (by omega) (by omega)]
  have e1 : ∀ _ : Unit, wrap64 ((lev : Int) + 1) = ((lev + 1 : Nat) : Int) := fun _ => by rw [w64 (by omega) (by omega)]; simp
  have e2 : ∀ _ : Unit, wrap64 (((p / 4 * 4 : Nat) : Int) + 4) = ((p / 4 * 4 + 4 : Nat) : Int) := fun _ => by rw [w64 (by omega) (by omega)]; simp
  have fin : ∀ (j : Nat) (out : List Int), Ev (fun k => tegularef26_Path.l0 k ((p / 4 : Nat) : Int) x6 out ((lev + 1 : Nat) : Int)) r → Ev (fun k => tegularef26_Path.j3 k p x6 out lev ((p / 4 * 4 : Nat) : Int) j false) r := by
    intro j out h
    refine Ev.step (fun k => ?_) h
    simp only [tegularef26_Path.j3, e0 (), e1 ()]
    rw [if_neg (by simp)]
  induction d with
  | zero =>
    intro j out hj ho h
    simp only [gat, List.append_nil] at h
    refine Ev.step (fun k => ?_) (fin j out h)
    simp only [tegularef26_Path.l1, e2 ()]
    rw [if_neg (by omega)]
  | succ d ih =>
    intro j out hj ho h
    have e3 : ∀ _ : Unit, wrap64 ((j : Int) + 1) = ((j + 1 : Nat) : Int) := fun _ => by rw [w64 (by omega) (by omega)]; simp
    by_cases hlt : j < (rd_L2 x6 lev).length
    · have hlt' : (j : Int) < ((rd_L2 x6 (lev : Int)).length : Int) := Int.ofNat_lt.2 hlt
      have d1 := decide_eq_true hlt'
      refine Ev.step (f := fun k => tegularef26_Path.j3 k p x6 out lev ((p / 4 * 4 : Nat) : Int) j true) (fun k => ?_) ?_
      · simp only [tegularef26_Path.l1, e2 ()]
        rw [if_pos (by omega), if_pos (by omega), if_pos (by omega), d1]
      · have hle' : (0 : Int) ≤ (lev : Int) := by omega
        have h6i : (lev : Int) < (x6.length : Int) := by omega
        have hj' : (0 : Int) ≤ (j : Int) := by omega
        have ho' : out.length < 17592186044416 := by omega
        by_cases hjp : j = p
        · refine Ev.step (f := fun k => tegularef26_Path.l1 k p x6 out lev ((p / 4 * 4 : Nat) : Int) ((j + 1 : Nat) : Int)) (fun k => ?_) (ih (j + 1) out (by omega) (by omega) ?_)
          · simp only [tegularef26_Path.j3, e3 ()]
            rw [if_pos trivial, if_pos (by omega)]
          · simp only [gat] at h
            rw [if_pos hlt, if_pos hjp] at h
            exact h
        · have hjp' : ¬ (j : Int) = (p : Int) := by omega
          refine Ev.step (f := fun k => tegularef26_Path.l1 k p x6 (out ++ [(rd_L2 x6 lev).getD j 0]) lev ((p / 4 * 4 : Nat) : Int) ((j + 1 : Nat) : Int)) (fun k => ?_) (ih (j + 1) _ (by omega) (by simp; omega) ?_)
          · simp only [tegularef26_Path.j3, e3 ()]
            rw [if_pos trivial, if_neg hjp', if_pos hle', if_pos h6i, if_pos hj', if_pos hlt', if_pos ho', rd_at]
          · simp only [gat] at h
            rw [if_pos hlt, if_neg hjp] at h
            simpa using h
    · have hlt' : ¬ (j : Int) < ((rd_L2 x6 (lev : Int)).length : Int) := fun h => hlt (Int.ofNat_lt.1 h)
      have d1 := decide_eq_false hlt'
      simp only [gat] at h
      rw [if_neg hlt, List.append_nil] at h
      refine Ev.step (fun k => ?_) (fin j out h)
      simp only [tegularef26_Path.l1, e2 ()]
      rw [if_pos (by omega), if_pos (by omega), if_pos (by omega), d1]
theorem path_l0 (l : List Int) (hl : l.length < 900) (i : Nat) (hi : i < l.length) (d : Nat) : ∀ (k : Nat) (out : List Int), k + d = ht l.length → out.length ≤ 4 * k →
    Ev (fun n => tegularef26_Path.l0 n ((i / 4 ^ k : Nat) : Int) (lvs l (ht l.length)) out k) (out ++ pth l i d k, 0) := by
  have hh := ht_le l.length
  induction d with
  | zero =>
    intro k out hk ho
    refine Ev.step (f := fun _ => some (out ++ pth l i 0 k, 0)) (fun n => ?_) (Ev.now _)
    simp only [tegularef26_Path.l0, pth, List.append_nil]
    rw [if_neg]
    rw [lvs_length, w64 (by omega) (by omega)]; omega
  | succ d ih =>
    intro k out hk ho
    have hile : i / 4 ^ k ≤ i := Nat.div_le_self _ _
    have e1 : wrap64 ((k : Int) + 1) = ((k + 1 : Nat) : Int) := by rw [w64 (by omega) (by omega)]; simp
    have hile2 : i / 4 ^ k < 900 := by omega
    have e0 : wrap64 ((wrap64 (Int.tdiv ((i / 4 ^ k : Nat) : Int) 4)) * 4) = ((i / 4 ^ k / 4 * 4 : Nat) : Int) := by
      generalize i / 4 ^ k = z at hile2 ⊢
      rw [tdiv4, w64 (n := ((z / 4 : Nat) : Int)) (by omega) (by omega), w64 (by omega) (by omega)]; simp
    refine Ev.step (f := fun n => tegularef26_Path.l1 n ((i / 4 ^ k : Nat) : Int) (lvs l (ht l.length)) out k ((i / 4 ^ k / 4 * 4 : Nat) : Int) ((i / 4 ^ k / 4 * 4 : Nat) : Int)) (fun n => ?_) (path_l1 (i / 4 ^ k) _ k _ (by omega) (by rw [lvs_length]; omega) (by rw [lvs_length]; omega) 4 _ out (by omega) (by omega) ?_)
    · simp only [tegularef26_Path.l0, e1, e0]
      rw [if_pos (by rw [lvs_length]; omega)]
    · rw [lvs_at _ _ _ (by omega)]
      have hg := gat_length (lv l k) (i / 4 ^ k) 4 (i / 4 ^ k / 4 * 4)
      have := ih (k + 1) (out ++ gat (lv l k) (i / 4 ^ k) 4 (i / 4 ^ k / 4 * 4)) (by omega) (by simp; omega)
      rw [show out ++ pth l i (d + 1) k = out ++ gat (lv l k) (i / 4 ^ k) 4 (i / 4 ^ k / 4 * 4) ++ pth l i d (k + 1) from by simp [pth, sibs]]
      rw [anc_succ] at this
      exact this
theorem ref_path_ev (l : List Int) (hl : l.length < 900) (i : Int) : Ev (fun n => tegularef26_Path.f n l i) (if 0 ≤ i ∧ i < l.length then (pathV l i.toNat, 0) else ([], 2)) := by
  by_cases h0 : 0 ≤ i
  · by_cases h1 : i < l.length
    · rw [if_pos ⟨h0, h1⟩]
      obtain ⟨m, rfl⟩ := Int.eq_ofNat_of_zero_le h0
      refine Ev.congr (f := fun n => tegularef26_Path.j0 n l m false) (fun n => ?_) ?_
      · unfold tegularef26_Path.f
        rw [if_neg (by omega)]
        congr 1
        simp; omega
      · refine Ev.step (f := fun n => (tegularef26_Levels.f n l).bind fun t => tegularef26_Path.l0 n m t [] 0) (fun n => ?_) (Ev.bind (levels_ev l hl) ?_)
        · simp only [tegularef26_Path.j0]
          rw [if_neg (by simp)]
        · have := path_l0 l hl m (by omega) (ht l.length) 0 [] (by omega) (by simp)
          simpa [pathV] using this
    · rw [if_neg (fun h => h1 h.2)]
      refine Ev.congr (f := fun n => tegularef26_Path.j0 n l i true) (fun n => ?_) (Ev.step (f := fun _ => some ([], 2)) (fun n => ?_) (Ev.now _))
      · unfold tegularef26_Path.f
        rw [if_neg (by omega)]
        congr 1
        simp; omega
      · simp only [tegularef26_Path.j0]; rw [if_pos trivial]
  · rw [if_neg (fun h => h0 h.1)]
    refine Ev.congr (f := fun n => tegularef26_Path.j0 n l i true) (fun n => ?_) (Ev.step (f := fun _ => some ([], 2)) (fun n => ?_) (Ev.now _))
    · unfold tegularef26_Path.f
      rw [if_pos (by omega)]
    · simp only [tegularef26_Path.j0]; rw [if_pos trivial]
end Go.Proofs.Ytpofcknfnipkgaa.ST
