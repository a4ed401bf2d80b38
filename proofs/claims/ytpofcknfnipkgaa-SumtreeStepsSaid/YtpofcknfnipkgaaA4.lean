/- A tree in memory: by level and place. -/
import Derived.Test.YtpofcknfnipkgaaA3
import Derived.Lib.Hide
import Derived.WalkSpells
namespace Go.Proofs.Ytpofcknfnipkgaa.ST
open Go.RowKit Go.Proofs.YtpofcknfnipkgaaW.PrintWords Go.Proofs.YtpofcknfnipkgaaW.PrintLast Go.Proofs.YtpofcknfnipkgaaW.PrintMore Go.Proofs.Ytpofcknfnipkgaa.PS
set_option linter.unusedVariables false
set_option linter.unusedSimpArgs false

/-- The number of kids of a node of level k + 1. -/
def mm (n k p : Nat) : Nat := min 4 (sz n k - 4 * p)
def NodeB (w : World) (a : Nat) (s : Int) (kv : Value) : Prop := w.heap[a]? = some (.cells #[.int .u64 s, kv] 60 (0, 0))
def NodeOK (w : World) (n : Nat) (S : Nat → Nat → Int) (A : Nat → Nat → Nat) : Nat → Nat → Prop
  | 0, p => NodeB w (A 0 p) (S 0 p) (.slice none 0 0)
  | k + 1, p => ∃ (B off c : Nat) (cs : Array Value), NodeB w (A (k + 1) p) (S (k + 1) p) (.slice (some ⟨B, off, none⟩) (mm n k p) c) ∧ mm n k p ≤ c ∧ w.heap[B]? = some (.cells cs 27 (0, 0)) ∧ ∀ j, j < mm n k p → cs[off + j]? = some ((.pointer (some ⟨A k (4 * p + j), 0, none⟩)))
/-- A tree whose nodes are those of the levels up to h. -/
def Tr (w : World) (n : Nat) (S : Nat → Nat → Int) (A : Nat → Nat → Nat) (h : Nat) : Prop := ∀ k, k ≤ h → ∀ p, p < sz n k → NodeOK w n S A k p
/-- Nodes and rows of pointers are as they were. -/
def Keeps (w w' : World) : Prop := ∀ (g : Nat) (cs : Array Value) (t : TypeId), (t = 60 ∨ t = 27) → w.heap[g]? = some (.cells cs t (0, 0)) → w'.heap[g]? = some (.cells cs t (0, 0))
theorem Keeps.refl (w : World) : Keeps w w := fun _ _ _ _ h => h
theorem Keeps.trans {w w1 w2 : World} (h : Keeps w w1) (h' : Keeps w1 w2) : Keeps w w2 := fun g cs t ht hg => h' g cs t ht (h g cs t ht hg)
theorem Keeps.below {w w' : World} (h : Below w.heap.size w w') : Keeps w w' := fun g cs t _ hg => (h.block g (blk_lt hg)).trans hg
theorem NodeOK.keep {w w' : World} {n : Nat} {S : Nat → Nat → Int} {A : Nat → Nat → Nat} (hk : Keeps w w') : ∀ {k p : Nat}, NodeOK w n S A k p → NodeOK w' n S A k p
  | 0, p, h => hk _ _ _ (.inl rfl) h
  | k + 1, p, ⟨B, off, c, cs, h1, h2, h3, h4⟩ => ⟨B, off, c, cs, hk _ _ _ (.inl rfl) h1, h2, hk _ _ _ (.inr rfl) h3, h4⟩
theorem Tr.keep {w w' : World} {n h : Nat} {S : Nat → Nat → Int} {A : Nat → Nat → Nat} (hk : Keeps w w') (ht : Tr w n S A h) : Tr w' n S A h := fun k hk1 p hp => (ht k hk1 p hp).keep hk
theorem NodeOK.sum {w : World} {n : Nat} {S : Nat → Nat → Int} {A : Nat → Nat → Nat} {k p : Nat} (h : NodeOK w n S A k p) : w.cell? ⟨A k p, 0, none⟩ = some (.int .u64 (S k p)) := by
  cases k with
  | zero => exact (blk_cell h 0).trans rfl
  | succ k => obtain ⟨B, off, c, cs, h1, _⟩ := h; exact (blk_cell h1 0).trans rfl
theorem NodeOK.kids {w : World} {n : Nat} {S : Nat → Nat → Int} {A : Nat → Nat → Nat} {k p : Nat} (h : NodeOK w n S A (k + 1) p) :
    ∃ B off c, w.cell? ⟨A (k + 1) p, 1, none⟩ = some (.slice (some ⟨B, off, none⟩) (mm n k p) c) ∧ mm n k p ≤ c ∧ ∀ j, j < mm n k p → w.cell? ⟨B, off + j, none⟩ = some ((.pointer (some ⟨A k (4 * p + j), 0, none⟩))) := by
  obtain ⟨B, off, c, cs, h1, h2, h3, h4⟩ := h
  exact ⟨B, off, c, (blk_cell h1 1).trans rfl, h2, fun j hj => (blk_cell h3 (off + j)).trans (h4 j hj)⟩
/-- The value of a tree. -/
def treeV (n : Nat) (top : Value) : Value := .agg #[.int .i64 n, .int .i64 (ht n), top]

theorem shr_way (i k : Nat) (hk : k < 1000) : (i : Int) / 2 ^ (2 * k) = ((i / 4 ^ k : Nat) : Int) := by
  rw [show (2 : Int) ^ (2 * k) = ((4 ^ k : Nat) : Int) from by rw [Int.pow_mul]; norm_cast]
  norm_cast
theorem ht_small : ∀ (h n : Nat), n ≤ 4 ^ h → ht n ≤ h
  | 0, n, hn => by rw [ht_one (by simpa using hn)]; omega
  | h + 1, n, hn => by
    by_cases h1 : n ≤ 1
    · rw [ht_one h1]; omega
    · rw [ht_more h1]
      have := ht_small h ((n + 3) / 4) (by rw [Nat.pow_succ] at hn; omega)
      omega
theorem ht_5 {n : Nat} (hn : n ≤ 900) : ht n ≤ 5 := ht_small 5 n (by omega)
/-- The kid on the way to place i, as the walk has it. -/
theorem kid_way (i k : Nat) (hk : k ≤ 5) : ((i : Int) / 2 ^ (2 * k)).tmod 4 = ((i / 4 ^ k % 4 : Nat) : Int) := by
  rw [shr_way i k (by omega), tmod4]
theorem kid_lt {n i : Nat} (hi : i < n) (k : Nat) : i / 4 ^ k % 4 < mm n k (i / 4 ^ (k + 1)) := by
  have h := sz_anc hi k
  rw [anc_succ]
  unfold mm
  omega
theorem kid_at (i k : Nat) : 4 * (i / 4 ^ (k + 1)) + i / 4 ^ k % 4 = i / 4 ^ k := by rw [anc_succ]; omega
theorem leaf1_any (a b : Value) (w : World) : Calls Try.prog 44 #[a, b] w fun e w' => e = .returned (.tuple #[]) ∧ w = w' := by
  go_enter Try.func44, Try.ntmps44
  go_wp2
  go_end0
  exact ⟨rfl, rfl⟩
set_option maxHeartbeats 1000000 in
theorem way_leaf (w : World) (n i : Nat) (S : Nat → Nat → Int) (A : Nat → Nat → Nat) (hT : Tr w n S A (ht n)) (hi : i < n) (hn : n ≤ 900) :
    Calls Try.prog 27 #[treeV n ((.pointer (some ⟨A (ht n) 0, 0, none⟩))), .int .i64 i, .func (.func 44) #[] #[]] w fun e w' => e = .returned ((.pointer (some ⟨A 0 i, 0, none⟩))) ∧ Below w.heap.size w w' := by
  have HT := Lib.hid hT
  clear hT
  unfold treeV
  go_enter Try.func27, Try.ntmps27
  go_wp2
  go_loopw [7, 8, 9] (fun v l u wr => ∃ k : Nat, k ≤ ht n ∧ l = .int .i64 k ∧ v = Value.pointer (some ⟨A k (i / 4 ^ k), 0, none⟩) ∧ Below w.heap.size w wr) (fun _ l _ _ => (intOf l).toNat)
  case atStart =>
    have h3 : i / 4 ^ ht n = 0 := Nat.lt_one_iff.1 (Nat.lt_of_lt_of_le (sz_anc hi (ht n)) (sz_ht n))
    exact ⟨ht n, Nat.le_refl _, rfl, by rw [h3], (Below.refl _ _).alloc (Nat.le_refl _) _⟩
  case round =>
    obtain ⟨k, hk, rfl, rfl, hb⟩ := hrel
    have hh := ht_le n
    cases k with
    | zero =>
      go_wp2
      go_ret
      exact ⟨by simp, hb⟩
    | succ k =>
      have hN := (HT.out (k + 1) hk (i / 4 ^ (k + 1)) (sz_anc hi _)).keep (Keeps.below hb)
      obtain ⟨B, off, c, h1, h2, h3⟩ := hN.kids
      have h5 := ht_5 hn
      obtain ⟨kd, hkd⟩ : ∃ kd : Nat, ((i : Int) / 2 ^ (2 * k)).tmod 4 = (kd : Int) := ⟨_, kid_way i k (by omega)⟩
      have hkd2 : kd = i / 4 ^ k % 4 := by have := (kid_way i k (by omega)).symm.trans hkd; omega
      have hlt : kd < mm n k (i / 4 ^ (k + 1)) := by rw [hkd2]; exact kid_lt hi k
      have hcell := h3 kd hlt
      rw [show 4 * (i / 4 ^ (k + 1)) + kd = i / 4 ^ k by rw [hkd2]; exact kid_at i k] at hcell
      have h0 : (0 : Int) ≤ 2 * (k : Int) := by omega
      have h0' : decide ((0 : Int) ≤ 2 * (k : Int)) = true := decide_eq_true h0
      clear h3 hkd2
      go_wp2_with (go_at_call 44; refine (leaf1_any _ _ _).mono ?_; rintro e w' ⟨rfl, rfl⟩)
      go_roundw
      case rel => exact ⟨k, by omega, by go_num, rfl, hb⟩
      case measure => simp [intOf]
end Go.Proofs.Ytpofcknfnipkgaa.ST
