/- The numbers of nodes, and of shared nodes: count, same and Same in a walk. -/
import Derived.Test.YtpofcknfnipkgaaC1
import Derived.Test.YtpofcknfnipkgaaD2
namespace Go.Proofs.Ytpofcknfnipkgaa.ST
open Go.RowKit Go.Proofs.YtpofcknfnipkgaaW.PrintWords Go.Proofs.YtpofcknfnipkgaaW.PrintLast Go.Proofs.YtpofcknfnipkgaaW.PrintMore Go.Proofs.Ytpofcknfnipkgaa.PS
set_option linter.unusedVariables false
set_option linter.unusedSimpArgs false

def sumN (f : Nat → Nat) : Nat → Nat
  | 0 => 0
  | m + 1 => sumN f m + f m
theorem sumN_add (f : Nat → Nat) (a : Nat) : ∀ b, sumN f (a + b) = sumN f a + sumN (fun j => f (a + j)) b
  | 0 => rfl
  | b + 1 => by
    have := sumN_add f a b
    rw [← Nat.add_assoc]
    simp only [sumN]
    rw [this]
    omega
theorem sumN_congr {f g : Nat → Nat} : ∀ m, (∀ j, j < m → f j = g j) → sumN f m = sumN g m
  | 0, _ => rfl
  | m + 1, h => by simp only [sumN]; rw [sumN_congr m (fun j hj => h j (by omega)), h m (by omega)]
theorem sumN_le {f : Nat → Nat} {c : Nat} (h : ∀ j, f j ≤ c) : ∀ m, sumN f m ≤ m * c
  | 0 => by simp [sumN]
  | m + 1 => by
    have := sumN_le h m
    have := h m
    simp only [sumN]
    rw [Nat.succ_mul]
    omega
def cnt (n : Nat) : Nat → Nat → Nat
  | 0, _ => 0
  | k + 1, p => 1 + sumN (fun j => cnt n k (4 * p + j)) (mm n k p)
def sm (n : Nat) (A A' : Nat → Nat → Nat) : Nat → Nat → Nat
  | 0, _ => 0
  | k + 1, p => if A (k + 1) p = A' (k + 1) p then cnt n (k + 1) p else sumN (fun j => sm n A A' k (4 * p + j)) (mm n k p)
theorem cnt_le (n : Nat) : ∀ k p, cnt n k p ≤ 2 * 4 ^ k - 1
  | 0, _ => by simp [cnt]
  | k + 1, p => by
    have h := sumN_le (f := fun j => cnt n k (4 * p + j)) (fun j => cnt_le n k _) (mm n k p)
    have h2 : mm n k p ≤ 4 := by unfold mm; omega
    have h3 : mm n k p * (2 * 4 ^ k - 1) ≤ 4 * (2 * 4 ^ k - 1) := Nat.mul_le_mul_right _ h2
    have h4 : 0 < 4 ^ k := Nat.pow_pos (by omega)
    unfold cnt
    rw [Nat.pow_succ]
    omega
theorem sm_le (n : Nat) (A A' : Nat → Nat → Nat) : ∀ k p, sm n A A' k p ≤ 2 * 4 ^ k
  | 0, _ => by simp [sm]
  | k + 1, p => by
    unfold sm
    split
    · have := cnt_le n (k + 1) p; omega
    · have h := sumN_le (f := fun j => sm n A A' k (4 * p + j)) (fun j => sm_le n A A' k _) (mm n k p)
      have h2 : mm n k p ≤ 4 := by unfold mm; omega
      have h3 : mm n k p * (2 * 4 ^ k) ≤ 4 * (2 * 4 ^ k) := Nat.mul_le_mul_right _ h2
      rw [Nat.pow_succ]
      omega
/-- All nodes above level 0. -/
theorem regroup (N : Nat) (f : Nat → Nat) : ∀ t, t ≤ (N + 3) / 4 → sumN (fun p => sumN (fun j => f (4 * p + j)) (min 4 (N - 4 * p))) t = sumN f (min (4 * t) N)
  | 0, _ => by simp [sumN]
  | t + 1, h => by
    have ih := regroup N f t (by omega)
    simp only [sumN]
    rw [ih, show min (4 * t) N = 4 * t by omega, show min (4 * (t + 1)) N = 4 * t + min 4 (N - 4 * t) by omega, sumN_add]
theorem tot_up (n k : Nat) : sumN (cnt n (k + 1)) (sz n (k + 1)) = sz n (k + 1) + sumN (cnt n k) (sz n k) := by
  have h := regroup (sz n k) (cnt n k) (sz n (k + 1)) (Nat.le_refl _)
  have e : ∀ m, sumN (cnt n (k + 1)) m = m + sumN (fun p => sumN (fun j => cnt n k (4 * p + j)) (min 4 (sz n k - 4 * p))) m := by
    intro m
    induction m with
    | zero => rfl
    | succ m ih =>
      have e1 : cnt n (k + 1) m = 1 + sumN (fun j => cnt n k (4 * m + j)) (min 4 (sz n k - 4 * m)) := rfl
      show sumN (cnt n (k + 1)) m + cnt n (k + 1) m = (m + 1) + (sumN _ m + _)
      rw [ih, e1]
      simp only []
      omega
  rw [e, h]
  congr 2
  simp only [sz]
  omega
def ssum (n : Nat) : Nat → Nat
  | 0 => 0
  | k + 1 => ssum n k + sz n (k + 1)
theorem tot_ssum (n : Nat) : ∀ k, sumN (cnt n k) (sz n k) = ssum n k
  | 0 => by
    have : ∀ m, sumN (cnt n 0) m = 0 := by
      intro m
      induction m with
      | zero => rfl
      | succ m ih => simp only [sumN]; rw [ih]; rfl
    exact this _
  | k + 1 => by rw [tot_up, tot_ssum n k]; simp only [ssum]; omega
theorem ssum_up (n : Nat) : ∀ k, ssum n (k + 1) = sz n 1 + ssum ((n + 3) / 4) k
  | 0 => by simp [ssum]
  | k + 1 => by
    have e := sz_up n (k + 1)
    have i := ssum_up n k
    show ssum n (k + 1) + sz n (k + 1 + 1) = sz n 1 + (ssum ((n + 3) / 4) k + sz ((n + 3) / 4) (k + 1))
    omega
theorem ssum_all (n : Nat) : ssum n (ht n) = allN n := by
  induction n using Nat.strongRecOn with
  | ind n ih =>
    by_cases h : n ≤ 1
    · rw [ht_one h, allN, if_pos h]; rfl
    · rw [ht_more h, allN, if_neg h, ssum_up, ih _ (by omega)]; rfl
theorem cnt_all (n : Nat) (h : 0 < n) : cnt n (ht n) 0 = allN n := by
  have h1 := tot_ssum n (ht n)
  have h2 := sz_ht n
  have h3 := sz_pos h (ht n)
  rw [show sz n (ht n) = 1 by omega] at h1
  rw [← ssum_all, ← h1]
  simp [sumN]
theorem sm_refl (n : Nat) (A : Nat → Nat → Nat) (k p : Nat) : sm n A A k p = cnt n k p := by
  cases k with
  | zero => rfl
  | succ k => unfold sm; rw [if_pos rfl]
theorem sm_off (n : Nat) (A : Nat → Nat → Nat) (P : Nat → Nat) (i k p : Nat) (h : p ≠ i / 4 ^ k) : sm n A (patch A P i) k p = cnt n k p := by
  cases k with
  | zero => rfl
  | succ k => unfold sm; rw [patch_off _ _ _ _ _ h, if_pos rfl]
theorem sumN_one {f g : Nat → Nat} {kd d : Nat} (h1 : f kd + d = g kd) (h2 : ∀ j, j ≠ kd → f j = g j) : ∀ m, kd < m → sumN f m + d = sumN g m
  | 0, h => by omega
  | m + 1, h => by
    simp only [sumN]
    by_cases e : m = kd
    · subst e
      rw [sumN_congr (g := g) m (fun j hj => h2 j (by omega))]
      omega
    · have := sumN_one h1 h2 m (by omega)
      rw [h2 m e]
      omega
theorem sm_on (n : Nat) (A : Nat → Nat → Nat) (P : Nat → Nat) (i : Nat) (hi : i < n) : ∀ k, (∀ j, j ≤ k → A j (i / 4 ^ j) ≠ P j) → sm n A (patch A P i) k (i / 4 ^ k) + k = cnt n k (i / 4 ^ k)
  | 0, _ => rfl
  | k + 1, h => by
    have ih := sm_on n A P i hi k (fun j hj => h j (by omega))
    unfold sm cnt
    rw [patch_on, if_neg (h (k + 1) (Nat.le_refl _))]
    have hk := kid_at i k
    have hs := sumN_one (f := fun j => sm n A (patch A P i) k (4 * (i / 4 ^ (k + 1)) + j)) (g := fun j => cnt n k (4 * (i / 4 ^ (k + 1)) + j)) (kd := i / 4 ^ k % 4) (d := k) (by simp only [hk]; exact ih) (fun j hj => sm_off n A P i k _ (by omega)) (mm n k (i / 4 ^ (k + 1))) (kid_lt hi k)
    omega
end Go.Proofs.Ytpofcknfnipkgaa.ST
