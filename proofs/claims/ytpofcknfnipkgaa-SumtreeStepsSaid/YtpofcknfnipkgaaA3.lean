/- What both Checks answer, that the path of a sum is accepted, and what the reference's Uints and Nodes answer. -/
import Derived.Test.YtpofcknfnipkgaaA2
namespace Go.Proofs.Ytpofcknfnipkgaa.ST
open Go.RowKit Go.Proofs.YtpofcknfnipkgaaW.PrintWords Go.Proofs.YtpofcknfnipkgaaW.PrintLast Go.Proofs.YtpofcknfnipkgaaW.PrintMore Go.Proofs.Ytpofcknfnipkgaa.PS
set_option linter.unusedVariables false
set_option linter.unusedSimpArgs false

/-- One less than the number of nodes in the group of place i. -/
def kk (size i : Nat) : Nat := min 4 (size - i / 4 * 4) - 1
theorem kk_kid {size i : Nat} (h : i < size) : i % 4 ≤ kk size i := by unfold kk; omega
def chkL (size i : Nat) (s : Int) (path : List Int) : Option Int :=
  if size ≤ 1 then (if path.length = 0 then some s else none)
  else if path.length < kk size i then none
  else chkL ((size + 3) / 4) (i / 4) (runV (path.take (i % 4) ++ [s] ++ (path.take (kk size i)).drop (i % 4))) (path.drop (kk size i))
termination_by size
decreasing_by omega
def chkB (r : Int) (n : Int) : Option Int → Bool
  | some t => topV n t == r
  | none => false
theorem tmod4 (p : Nat) : Int.tmod (p : Int) 4 = ((p % 4 : Nat) : Int) := by
  rw [Int.tmod_eq_emod_of_nonneg (by omega)]; omega
theorem kk_walk (size i : Nat) (h : i < size) (hs : size < 10000000) : wrap64 ((mn 4 (wrap64 ((size : Int) - wrap64 ((i : Int) - ((i % 4 : Nat) : Int))))) - 1) = (kk size i : Int) := by
  rw [w64 (n := (i : Int) - ((i % 4 : Nat) : Int)) (by omega) (by omega), w64 (n := (size : Int) - ((i : Int) - ((i % 4 : Nat) : Int))) (by omega) (by omega)]
  have : (size : Int) - ((i : Int) - ((i % 4 : Nat) : Int)) = ((size - i / 4 * 4 : Nat) : Int) := by omega
  rw [this, show (4 : Int) = ((4 : Nat) : Int) from rfl, mn_nat]
  unfold kk
  generalize hz : size - i / 4 * 4 = z
  have hz1 : 1 ≤ z := by omega
  rw [w64 (by omega) (by omega)]
  omega
theorem up_walk (size : Nat) (hs : size < 10000000) : wrap64 (Int.tdiv (wrap64 (wrap64 ((size : Int) + 4) - 1)) 4) = (((size + 3) / 4 : Nat) : Int) := by
  rw [w64 (n := (size : Int) + 4) (by omega) (by omega), w64 (n := (size : Int) + 4 - 1) (by omega) (by omega)]
  rw [show ((size : Int) + 4 - 1) = ((size + 3 : Nat) : Int) from by omega, tdiv4, w64 (by omega) (by omega)]
theorem half_walk (i : Nat) (hi : i < 10000000) : wrap64 (Int.tdiv (i : Int) 4) = ((i / 4 : Nat) : Int) := by rw [tdiv4, w64 (by omega) (by omega)]
theorem check_l0 (r n : Int) (size : Nat) : ∀ (i : Nat) (s : Int) (path : List Int), i < size → size < 10000000 → path.length < 1000000 → Ev (fun k => sumtree_Check.l0 k r n i s path size) (chkB r n (chkL size i s path)) := by
  induction size using Nat.strongRecOn with
  | ind size ih =>
    intro i s path hi hs hp
    have hk := kk_kid hi
    have hk4 : kk size i ≤ 3 := by unfold kk; omega
    by_cases h1 : size ≤ 1
    · rw [chkL, if_pos h1]
      by_cases h0 : path.length = 0
      · rw [if_pos h0]
        refine Ev.step (f := fun k => (sumtree_root.f k n s).bind fun t => some (t == r)) (fun k => ?_) (Ev.bind (root_ev n s) (Ev.now _))
        simp only [sumtree_Check.l0]
        rw [if_neg (by omega), if_pos (by omega)]
      · rw [if_neg h0]
        refine Ev.step (f := fun k => some false) (fun k => ?_) (Ev.now _)
        simp only [sumtree_Check.l0]
        rw [if_neg (by omega), if_neg (by omega)]
    · rw [chkL, if_neg h1]
      by_cases h2 : path.length < kk size i
      · rw [if_pos h2]
        refine Ev.step (f := fun k => some false) (fun k => ?_) (Ev.now _)
        simp only [sumtree_Check.l0, tmod4, kk_walk size i hi hs]
        rw [if_pos (by omega), if_pos (by omega)]
      · rw [if_neg h2]
        have hlen : (path.take (i % 4) ++ [s] ++ (path.take (kk size i)).drop (i % 4)).length < 1000 := by simp; omega
        refine Ev.step (f := fun k => (sumtree_run.f k (path.take (i % 4) ++ [s] ++ (path.take (kk size i)).drop (i % 4))).bind fun t => sumtree_Check.l0 k r n ((i / 4 : Nat) : Int) t (path.drop (kk size i)) (((size + 3) / 4 : Nat) : Int)) (fun k => ?_) (Ev.bind (run_ev _ hlen) (ih _ (by omega) _ _ _ (by omega) (by omega) (by simp; omega)))
        simp only [sumtree_Check.l0, tmod4, kk_walk size i hi hs, up_walk size hs, half_walk i (Nat.lt_trans hi hs), Option.bind_some, Int.toNat_natCast, List.nil_append]
        rw [if_pos (by omega), if_neg (by omega), if_pos (by omega), if_pos (by omega), if_pos (by simp; omega), if_pos (by simp; omega), if_pos (by omega), if_pos (by omega), if_pos (by simp; omega)]
        simp only [if_pos (Int.natCast_nonneg (kk size i))]
def okB (n i : Int) : Bool := decide (1 ≤ n ∧ n ≤ 1048576 ∧ 0 ≤ i ∧ i < n)
def checkV (r n i s : Int) (path : List Int) : Bool := okB n i && chkB r n (chkL n.toNat i.toNat s path)
theorem check_ev (r n i s : Int) (path : List Int) (hp : path.length < 1000000) : Ev (fun k => sumtree_Check.f k r n i s path) (checkV r n i s path) := by
  have no : ∀ b : Bool, b = true → Ev (fun k => sumtree_Check.j0 k r n i s path b) false := by
    intro b hb
    refine Ev.step (f := fun _ => some false) (fun k => ?_) (Ev.now _)
    simp only [sumtree_Check.j0]; rw [if_pos hb]
  by_cases h : 1 ≤ n ∧ n ≤ 1048576 ∧ 0 ≤ i ∧ i < n
  · have ho : okB n i = true := decide_eq_true h
    unfold checkV
    rw [ho, Bool.true_and]
    obtain ⟨m, rfl⟩ := Int.eq_ofNat_of_zero_le (show 0 ≤ n by omega)
    obtain ⟨j, rfl⟩ := Int.eq_ofNat_of_zero_le h.2.2.1
    refine Ev.congr (f := fun k => sumtree_Check.j0 k r m j s path false) (fun k => ?_) (Ev.step (fun k => ?_) (check_l0 r m m j s path (by omega) (by omega) hp))
    · unfold sumtree_Check.f
      rw [if_neg (by omega), if_neg (by omega), if_neg (by omega)]
      congr 1
      exact decide_eq_false (by omega)
    · simp only [sumtree_Check.j0, Int.toNat_natCast]; rw [if_neg (by simp)]
  · have ho : okB n i = false := decide_eq_false h
    unfold checkV
    rw [ho, Bool.false_and]
    unfold sumtree_Check.f
    by_cases h1 : n < 1
    · exact Ev.congr (fun k => if_pos h1) (no _ rfl)
    · by_cases h2 : n > 1048576
      · exact Ev.congr (fun k => (if_neg h1).trans (if_pos h2)) (no _ rfl)
      · by_cases h3 : i < 0
        · exact Ev.congr (fun k => (if_neg h1).trans ((if_neg h2).trans (if_pos h3))) (no _ rfl)
        · exact Ev.congr (fun k => (if_neg h1).trans ((if_neg h2).trans (if_neg h3))) (no _ (decide_eq_true (by omega)))
theorem rkid_walk (i : Nat) (hi : i < 10000000) : wrap64 ((i : Int) - wrap64 (((i / 4 : Nat) : Int) * 4)) = ((i % 4 : Nat) : Int) := by
  rw [w64 (n := ((i / 4 : Nat) : Int) * 4) (by omega) (by omega), w64 (by omega) (by omega)]
  omega
theorem rkk_walk (size i : Nat) (h : i < size) (hs : size < 10000000) : wrap64 ((mn 4 (wrap64 ((size : Int) - wrap64 (((i / 4 : Nat) : Int) * 4)))) - 1) = (kk size i : Int) := by
  rw [w64 (n := ((i / 4 : Nat) : Int) * 4) (by omega) (by omega), w64 (n := (size : Int) - ((i / 4 : Nat) : Int) * 4) (by omega) (by omega)]
  have : (size : Int) - ((i / 4 : Nat) : Int) * 4 = ((size - i / 4 * 4 : Nat) : Int) := by omega
  rw [this, show (4 : Int) = ((4 : Nat) : Int) from rfl, mn_nat]
  unfold kk
  generalize hz : size - i / 4 * 4 = z
  have hz1 : 1 ≤ z := by omega
  rw [w64 (by omega) (by omega)]
  omega
theorem rup_walk (size : Nat) (hs : size < 10000000) : wrap64 (Int.tdiv (wrap64 ((size : Int) + 3)) 4) = (((size + 3) / 4 : Nat) : Int) := by
  rw [w64 (n := (size : Int) + 3) (by omega) (by omega), show ((size : Int) + 3) = ((size + 3 : Nat) : Int) from by omega, tdiv4, w64 (by omega) (by omega)]
theorem rcheck_l0 (r n : Int) (size : Nat) : ∀ (i : Nat) (s : Int) (path : List Int), i < size → size < 10000000 → path.length < 1000000 → Ev (fun k => tegularef26_Check.l0 k r n i s path size) (chkB r n (chkL size i s path)) := by
  induction size using Nat.strongRecOn with
  | ind size ih =>
    intro i s path hi hs hp
    have hk := kk_kid hi
    have hk4 : kk size i ≤ 3 := by unfold kk; omega
    have hi2 : i < 10000000 := by omega
    by_cases h1 : size ≤ 1
    · rw [chkL, if_pos h1]
      by_cases h0 : path.length = 0
      · rw [if_pos h0]
        refine Ev.step (f := fun k => (tegularef26_Top.f k n s).bind fun t => some (r == t)) (fun k => ?_) (Ev.bind (top_ev n s) ?_)
        · simp only [tegularef26_Check.l0]
          rw [if_neg (by omega), if_pos (by omega)]
        · have e : (r == topV n s) = chkB r n (some s) := by
            show (r == topV n s) = (topV n s == r)
            exact Bool.beq_comm
          rw [← e]; exact Ev.now _
      · rw [if_neg h0]
        refine Ev.step (f := fun k => some false) (fun k => ?_) (Ev.now _)
        simp only [tegularef26_Check.l0]
        rw [if_neg (by omega), if_neg (by omega)]
    · rw [chkL, if_neg h1]
      by_cases h2 : path.length < kk size i
      · rw [if_pos h2]
        refine Ev.step (f := fun k => some false) (fun k => ?_) (Ev.now _)
        simp only [tegularef26_Check.l0, half_walk i hi2, rkk_walk size i hi hs]
        rw [if_pos (by omega), if_pos (by omega)]
      · rw [if_neg h2]
        have hlen : (path.take (i % 4) ++ [s] ++ (path.take (kk size i)).drop (i % 4)).length < 1000 := by simp; omega
        refine Ev.step (f := fun k => (tegularef26_run.f k (path.take (i % 4) ++ [s] ++ (path.take (kk size i)).drop (i % 4))).bind fun t => tegularef26_Check.l0 k r n ((i / 4 : Nat) : Int) t (path.drop (kk size i)) (((size + 3) / 4 : Nat) : Int)) (fun k => ?_) (Ev.bind (ref_run_ev _ hlen) (ih _ (by omega) _ _ _ (by omega) (by omega) (by simp; omega)))
        simp only [tegularef26_Check.l0, rkk_walk size i hi hs, rkid_walk i hi2, rup_walk size hs, half_walk i hi2, Option.bind_some, Int.toNat_natCast, List.nil_append]
        rw [if_pos (by omega), if_neg (by omega), if_pos (by omega), if_pos (by omega), if_pos (by simp; omega), if_pos (by simp; omega), if_pos (by omega), if_pos (by omega), if_pos (by simp; omega), if_pos (by omega)]
theorem rcheck_ev (r n i s : Int) (path : List Int) (hp : path.length < 1000000) : Ev (fun k => tegularef26_Check.f k r n i s path) (checkV r n i s path) := by
  have no : ∀ b : Bool, b = true → Ev (fun k => tegularef26_Check.j0 k r n i s path b) false := by
    intro b hb
    refine Ev.step (f := fun _ => some false) (fun k => ?_) (Ev.now _)
    simp only [tegularef26_Check.j0]; rw [if_pos hb]
  by_cases h : 1 ≤ n ∧ n ≤ 1048576 ∧ 0 ≤ i ∧ i < n
  · have ho : okB n i = true := decide_eq_true h
    unfold checkV
    rw [ho, Bool.true_and]
    obtain ⟨m, rfl⟩ := Int.eq_ofNat_of_zero_le (show 0 ≤ n by omega)
    obtain ⟨j, rfl⟩ := Int.eq_ofNat_of_zero_le h.2.2.1
    refine Ev.congr (f := fun k => tegularef26_Check.j0 k r m j s path false) (fun k => ?_) (Ev.step (fun k => ?_) (rcheck_l0 r m m j s path (by omega) (by omega) hp))
    · unfold tegularef26_Check.f
      rw [if_neg (by omega), if_neg (by omega), if_neg (by omega)]
      congr 1
      exact decide_eq_false (by omega)
    · simp only [tegularef26_Check.j0, Int.toNat_natCast]; rw [if_neg (by simp)]
  · have ho : okB n i = false := decide_eq_false h
    unfold checkV
    rw [ho, Bool.false_and]
    unfold tegularef26_Check.f
    by_cases h1 : n < 1
    · exact Ev.congr (fun k => if_pos h1) (no _ rfl)
    · by_cases h2 : n > 1048576
      · exact Ev.congr (fun k => (if_neg h1).trans (if_pos h2)) (no _ rfl)
      · by_cases h3 : i < 0
        · exact Ev.congr (fun k => (if_neg h1).trans ((if_neg h2).trans (if_pos h3))) (no _ rfl)
        · exact Ev.congr (fun k => (if_neg h1).trans ((if_neg h2).trans (if_neg h3))) (no _ (decide_eq_true (by omega)))

/-! The path of a sum is accepted. -/
theorem gat_past (row : List Int) (p : Nat) : ∀ d j, p < j → gat row p d j = (row.take (j + d)).drop j
  | 0, j, _ => by simp [gat]
  | d + 1, j, h => by
    unfold gat
    by_cases hj : j < row.length
    · have e : (row.take (j + (d + 1))).drop j = row.getD j 0 :: (row.take (j + (d + 1))).drop (j + 1) := by
        rw [List.drop_eq_getElem_cons (by simp; omega)]; simp [List.getD_eq_getElem?_getD, hj]
      rw [if_pos hj, if_neg (by omega), gat_past row p d (j + 1) (by omega), e, show j + 1 + d = j + (d + 1) by omega]
    · rw [if_neg hj, List.drop_of_length_le (by simp; omega)]
theorem gat_all (row : List Int) (p : Nat) (hp : p < row.length) : ∀ d j, j ≤ p → p < j + d → gat row p d j = (row.take p).drop j ++ (row.take (j + d)).drop (p + 1)
  | 0, j, h, h' => by omega
  | d + 1, j, h, h' => by
    unfold gat
    rw [if_pos (by omega)]
    by_cases hj : j = p
    · subst hj
      have e : (row.take j).drop j = [] := List.drop_of_length_le (by simp; omega)
      rw [if_pos rfl, gat_past row j d (j + 1) (by omega), e, List.nil_append, show j + 1 + d = j + (d + 1) by omega]
    · rw [if_neg hj, gat_all row p hp d (j + 1) (by omega) (by omega), show j + 1 + d = j + (d + 1) by omega]
      rw [show (row.take p).drop j = row.getD j 0 :: (row.take p).drop (j + 1) from by rw [List.drop_eq_getElem_cons (by simp; omega)]; simp [List.getD_eq_getElem?_getD, show j < row.length by omega]]
      rfl
theorem sibs_eq (row : List Int) (p : Nat) (hp : p < row.length) : sibs row p = (row.take p).drop (p / 4 * 4) ++ (row.take (p / 4 * 4 + 4)).drop (p + 1) :=
  gat_all row p hp 4 (p / 4 * 4) (by omega) (by omega)
theorem sibs_length (row : List Int) (p : Nat) (hp : p < row.length) : (sibs row p).length = kk row.length p := by
  rw [sibs_eq row p hp]; unfold kk; simp; omega
theorem group_whole (row : List Int) (p : Nat) (hp : p < row.length) (rest : List Int) :
    (sibs row p ++ rest).take (p % 4) ++ [row.getD p 0] ++ ((sibs row p ++ rest).take (kk row.length p)).drop (p % 4) = (row.take (4 * (p / 4) + 4)).drop (4 * (p / 4)) := by
  have hl := sibs_length row p hp
  rw [List.take_append_of_le_length (by rw [hl]; exact kk_kid hp), List.take_append_of_le_length (by omega), List.take_of_length_le (Nat.le_of_eq hl)]
  rw [sibs_eq row p hp]
  have h1 : ((row.take p).drop (p / 4 * 4)).length = p % 4 := by simp; omega
  rw [List.take_append_of_le_length (by omega), List.take_of_length_le (by omega), List.drop_append_of_le_length (by omega), List.drop_of_length_le (l := (row.take p).drop (p / 4 * 4)) (by omega), List.nil_append]
  apply List.ext_getElem?
  intro j
  rw [show 4 * (p / 4) = p / 4 * 4 by omega]
  rcases Nat.lt_trichotomy j (p % 4) with h | h | h
  · rw [List.append_assoc, List.getElem?_append_left (by omega)]
    simp only [List.getElem?_drop, List.getElem?_take]
    rw [if_pos (by omega), if_pos (by omega)]
  · rw [List.append_assoc, List.getElem?_append_right (by omega), h1, h]
    simp only [List.getElem?_drop, List.getElem?_take, Nat.sub_self]
    rw [if_pos (by omega), show p / 4 * 4 + p % 4 = p by omega]
    simp [List.getD_eq_getElem?_getD, hp]
  · rw [List.getElem?_append_right (by simp; omega)]
    simp only [List.getElem?_drop, List.getElem?_take, List.length_append, h1, List.length_cons, List.length_nil]
    rw [show p + 1 + (j - (p % 4 + (0 + 1))) = p / 4 * 4 + j by omega]
theorem nxt_get (row : List Int) (q : Nat) (hq : q < (row.length + 3) / 4) : (nxt row).getD q 0 = runV ((row.take (4 * q + 4)).drop (4 * q)) := by
  simp [nxt, List.getD_eq_getElem?_getD, hq]
theorem chk_path (l : List Int) (i : Nat) (hi : i < l.length) (d : Nat) : ∀ k, k + d = ht l.length → chkL (sz l.length k) (i / 4 ^ k) ((lv l k).getD (i / 4 ^ k) 0) (pth l i d k) = some ((lv l (ht l.length)).getD 0 0) := by
  induction d with
  | zero =>
    intro k hk
    have hk' : k = ht l.length := by omega
    subst hk'
    have h1 := sz_ht l.length
    have h2 := sz_anc hi (ht l.length)
    rw [chkL, if_pos h1]
    simp only [pth, List.length_nil, if_true]
    have h3 : i / 4 ^ ht l.length = 0 := Nat.lt_one_iff.1 (Nat.lt_of_lt_of_le h2 h1)
    rw [h3]
  | succ d ih =>
    intro k hk
    have h1 := sz_lt l.length k (by omega)
    have h2 := sz_anc hi k
    have hrow : i / 4 ^ k < (lv l k).length := by rw [lv_length]; exact h2
    have hs := sibs_length (lv l k) (i / 4 ^ k) hrow
    rw [lv_length] at hs
    have hg := group_whole (lv l k) (i / 4 ^ k) hrow (pth l i d (k + 1))
    rw [lv_length] at hg
    rw [chkL, if_neg (by omega), if_neg (by simp only [pth, List.length_append]; omega)]
    simp only [pth]
    rw [hg, List.drop_append_of_le_length (by omega), List.drop_of_length_le (Nat.le_of_eq hs), List.nil_append, ← nxt_get (lv l k) _ (by rw [lv_length]; omega), ← anc_succ]
    exact ih (k + 1) (by omega)
theorem check_path (l : List Int) (i : Nat) (hi : i < l.length) (hl : l.length < 900) (r : Int) : checkV r l.length i (l.getD i 0) (pathV l i) = (r == rootV l) := by
  have h := chk_path l i hi (ht l.length) 0 (by omega)
  simp only [sz, Nat.pow_zero, Nat.div_one, lv] at h
  have ho : okB (l.length : Int) (i : Int) = true := decide_eq_true (by omega)
  have hne : l ≠ [] := fun e => by subst e; simp at hi
  unfold checkV
  rw [ho, Bool.true_and]
  simp only [Int.toNat_natCast]
  rw [pathV, h]
  unfold rootV
  rw [if_neg hne]
  show (topV _ _ == r) = (r == topV _ _)
  exact Bool.beq_comm

/-! Uints and Nodes. -/
theorem uints_l0 (a b : List Int) (hl : a.length = b.length) (hb : a.length < 1000000) (d : Nat) : ∀ i : Nat, i + d = a.length → Ev (fun k => tegularef26_Uints.l0 k a b i) (a.drop i == b.drop i) := by
  induction d with
  | zero =>
    intro i hi
    rw [List.drop_of_length_le (by omega), List.drop_of_length_le (by omega)]
    refine Ev.step (f := fun _ => some true) (fun k => ?_) (Ev.now _)
    simp only [tegularef26_Uints.l0]; rw [if_neg (by omega)]
  | succ d ih =>
    intro i hi
    have e : (a.drop i == b.drop i) = ((a.getD i 0 == b.getD i 0) && (a.drop (i + 1) == b.drop (i + 1))) := by
      rw [List.drop_eq_getElem_cons (show i < a.length by omega), List.drop_eq_getElem_cons (show i < b.length by omega), List.cons_beq_cons]
      simp [List.getD_eq_getElem?_getD, show i < a.length by omega, show i < b.length by omega]
    rw [e]
    by_cases hq : a.getD i 0 = b.getD i 0
    · rw [beq_iff_eq.2 hq, Bool.true_and]
      refine Ev.step (fun k => ?_) (ih (i + 1) (by omega))
      simp only [tegularef26_Uints.l0]
      rw [if_pos (by omega), if_pos (by omega), if_pos (by omega), rd_at, rd_at, if_pos hq, w64 (by omega) (by omega)]
      rfl
    · rw [beq_eq_false_iff_ne.2 hq, Bool.false_and]
      refine Ev.step (f := fun _ => some false) (fun k => ?_) (Ev.now _)
      simp only [tegularef26_Uints.l0]
      rw [if_pos (by omega), if_pos (by omega), if_pos (by omega), rd_at, rd_at, if_neg hq]
theorem uints_ev (a b : List Int) (hb : a.length < 1000000) : Ev (fun k => tegularef26_Uints.f k a b) (a == b) := by
  by_cases h : a.length = b.length
  · refine Ev.congr (fun k => ?_) (uints_l0 a b h hb a.length 0 (by omega))
    unfold tegularef26_Uints.f
    rw [if_pos (by omega)]
    rfl
  · have e : (a == b) = false := beq_eq_false_iff_ne.2 (fun e => h (by rw [e]))
    rw [e]
    refine Ev.congr (f := fun _ => some false) (fun k => ?_) (Ev.now _)
    unfold tegularef26_Uints.f
    rw [if_neg (by omega)]
def allN (n : Nat) : Nat := if n ≤ 1 then 0 else (n + 3) / 4 + allN ((n + 3) / 4)
termination_by n
decreasing_by omega
theorem allN_le (n : Nat) : allN n ≤ 3 * n := by
  induction n using Nat.strongRecOn with
  | ind n ih =>
    rw [allN]
    split
    · omega
    · have := ih ((n + 3) / 4) (by omega); omega
theorem nodes_l0 (n : Nat) : ∀ a p : Nat, n < 1000 → a + 3 * n < 10000000 → p + n < 10000000 → Ev (fun k => tegularef26_Nodes.l0 k n a p) (((a + allN n : Nat) : Int), ((p + ht n : Nat) : Int)) := by
  induction n using Nat.strongRecOn with
  | ind n ih =>
    intro a p hn ha hp
    by_cases h1 : n ≤ 1
    · rw [ht_one h1, allN, if_pos h1]
      refine Ev.step (f := fun _ => some ((a : Int), (p : Int))) (fun k => ?_) (Ev.now _)
      simp only [tegularef26_Nodes.l0]; rw [if_neg (by omega)]
    · have hall := allN_le n
      have e0 : (n : Int) + 3 = ((n + 3 : Nat) : Int) := by omega
      have e1 := rup_walk n (by omega)
      refine Ev.step (f := fun k => tegularef26_Nodes.l0 k (((n + 3) / 4 : Nat) : Int) ((a + (n + 3) / 4 : Nat) : Int) ((p + 1 : Nat) : Int)) (fun k => ?_) ?_
      · simp only [tegularef26_Nodes.l0, e1]
        rw [if_pos (by omega)]
        rw [show wrap64 ((a : Int) + (((n + 3) / 4 : Nat) : Int)) = ((a + (n + 3) / 4 : Nat) : Int) from by rw [w64 (by omega) (by omega)]; omega, show wrap64 ((p : Int) + 1) = ((p + 1 : Nat) : Int) from by rw [w64 (by omega) (by omega)]; omega]
      · rw [ht_more h1, allN, if_neg h1, show a + ((n + 3) / 4 + allN ((n + 3) / 4)) = a + (n + 3) / 4 + allN ((n + 3) / 4) by omega, show p + (ht ((n + 3) / 4) + 1) = p + 1 + ht ((n + 3) / 4) by omega]
        exact ih _ (by omega) _ _ (by omega) (by omega) (by omega)
theorem nodes_ev (n : Nat) (hn : n < 1000) : Ev (fun k => tegularef26_Nodes.f k n) ((allN n : Int), (ht n : Int)) := by
  have := nodes_l0 n 0 0 (by omega) (by omega) (by omega)
  simpa [tegularef26_Nodes.f] using this
end Go.Proofs.Ytpofcknfnipkgaa.ST
