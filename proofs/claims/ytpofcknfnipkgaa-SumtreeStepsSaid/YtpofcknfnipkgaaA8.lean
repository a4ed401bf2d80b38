/- The example that each law asks first, and what the calls of Check, Uints and the reference's functions answer in a walk. -/
import Derived.Test.YtpofcknfnipkgaaA7
namespace Go.Proofs.Ytpofcknfnipkgaa.ST
open Go.RowKit Go.Proofs.YtpofcknfnipkgaaW.PrintWords Go.Proofs.YtpofcknfnipkgaaW.PrintLast Go.Proofs.YtpofcknfnipkgaaW.PrintMore Go.Proofs.Ytpofcknfnipkgaa.PS
set_option linter.unusedVariables false
set_option linter.unusedSimpArgs false

/-- A slice of sums that reads as a list. -/
def Rd (w : World) (A : Option Addr) (c : Nat) (l : List Int) : Prop := Kd.C (Kd.int .u64) w A l.length l ∧ l.length ≤ c
theorem Rd.below {w w1 : World} {A : Option Addr} {c : Nat} {l : List Int} (h : Rd w A c l) (hb : Below w.heap.size w w1) : Rd w1 A c l := ⟨Kd.C_below h.1 hb, h.2⟩
theorem Rd.of_R {w : World} {base : Nat} {ok : Nat → Prop} {A : Option Addr} {n c : Nat} {l : List Int} (h : Kd.R (Kd.int .u64) 34 w base ok (.slice A n c) l) : Rd w A c l := by
  obtain ⟨h1, h2, h3⟩ := Kd.R_reads' h
  exact ⟨h3, by omega⟩
theorem Rd.cell {w : World} {A : Option Addr} {c : Nat} {l : List Int} (h : Rd w A c l) (i : Nat) (hi : i < l.length) : ∃ ad, A = some ad ∧ w.cell? (ad.add i) = some (.int .u64 (l.getD i 0)) := by
  obtain ⟨ad, h1, h2⟩ := Kd.at_int h.1 (i : Int) (by omega) (by omega)
  rw [rd_at, Int.toNat_natCast] at h2
  exact ⟨ad, h1, h2⟩
theorem Rd.lit (w : World) (l : List Int) (hl : l.length ≤ 9223372036854775807) : Rd (w.alloc (.cells (nums .u64 l).toArray 34)) (some ⟨w.heap.size, 0, none⟩) l.length l := by
  have h := own_lit w w.heap.size 34 .u64 l (Nat.le_refl _) hl
  obtain ⟨A, c, he, hr⟩ := own_reads h
  injection he with h1 h2 h3
  subst h1
  exact ⟨Kd.C_of_reads (d := (0 : Int)) (h1 := fun _ => rfl) hr, Nat.le_refl _⟩
theorem check_any (w : World) (r n i s : Int) (A : Option Addr) (c : Nat) (path : List Int) (hr : Rd w A c path) (hp : path.length < 1000000) :
    Calls Try.prog 16 #[.int .u64 r, .int .i64 n, .int .i64 i, .int .u64 s, .slice A path.length c] w fun e w' => e = .returned (.bool (checkV r n i s path)) ∧ Below w.heap.size w w' := by
  obtain ⟨k, hk⟩ := (check_ev r n i s path hp).rounds
  exact sumtree_Check.calls k r n i s (fun k => k < w.heap.size) A c path _ w (Kd.V_mk hr.2 (Kd.C_F (Kd.heap_int _) hr.1)) hk
theorem rcheck_any (w : World) (r n i s : Int) (A : Option Addr) (c : Nat) (path : List Int) (hr : Rd w A c path) (hp : path.length < 1000000) :
    Calls Try.prog 17 #[.int .u64 r, .int .i64 n, .int .i64 i, .int .u64 s, .slice A path.length c] w fun e w' => e = .returned (.bool (checkV r n i s path)) ∧ Below w.heap.size w w' := by
  obtain ⟨k, hk⟩ := (rcheck_ev r n i s path hp).rounds
  exact tegularef26_Check.calls k r n i s (fun k => k < w.heap.size) A c path _ w (Kd.V_mk hr.2 (Kd.C_F (Kd.heap_int _) hr.1)) hk
theorem uints_any (w : World) (A B : Option Addr) (c d : Nat) (a b : List Int) (ha : Rd w A c a) (hb : Rd w B d b) (hl : a.length < 1000000) :
    Calls Try.prog 15 #[.slice A a.length c, .slice B b.length d] w fun e w' => e = .returned (.bool (a == b)) ∧ Below w.heap.size w w' := by
  obtain ⟨k, hk⟩ := (uints_ev a b hl).rounds
  exact (tegularef26_Uints.calls k A c a B d b _ w ha.1 ha.2 hb.1 hb.2 hk).mono fun e w' ⟨h1, h2⟩ => ⟨h1, h2.below⟩
theorem refpath_any (w : World) (A : Option Addr) (c : Nat) (l : List Int) (i : Int) (h : Rd w A c l) (hl : l.length < 900) :
    Calls Try.prog 14 #[.slice A l.length c, .int .i64 i] w fun e w' => ∃ B d, e = .returned (.tuple #[.slice B (if 0 ≤ i ∧ i < l.length then pathV l i.toNat else []).length d, .int .i64 (if 0 ≤ i ∧ i < l.length then 0 else 2)]) ∧ Rd w' B d (if 0 ≤ i ∧ i < l.length then pathV l i.toNat else []) ∧ Below w.heap.size w w' := by
  obtain ⟨k, hk⟩ := (ref_path_ev l hl i).rounds
  have e : (if 0 ≤ i ∧ i < l.length then (pathV l i.toNat, (0 : Int)) else ([], 2)) = ((if 0 ≤ i ∧ i < l.length then pathV l i.toNat else []), (if 0 ≤ i ∧ i < l.length then 0 else 2)) := by split <;> rfl
  rw [e] at hk
  refine (tegularef26_Path.calls k A c l i _ _ w h.1 h.2 hk).mono ?_
  rintro e w' ⟨v, rfl, hv, hb⟩
  obtain ⟨B, d, rfl⟩ := Kd.R_slice hv
  exact ⟨B, d, rfl, Rd.of_R hv, hb⟩
theorem refroot_any (w : World) (A : Option Addr) (c : Nat) (l : List Int) (h : Rd w A c l) (hl : l.length < 900) : Calls Try.prog 35 #[.slice A l.length c] w fun e w' => e = .returned (.int .u64 (rootV l)) ∧ Below w.heap.size w w' := by
  obtain ⟨k, hk⟩ := (ref_root_ev l hl).rounds
  exact tegularef26_Root.calls k A c l _ w h.1 h.2 hk
/-- Root of a tree in memory. -/
theorem root_any (w : World) (l : List Int) (A : Nat → Nat → Nat) (hT : Tr w l.length (SL l) A (ht l.length)) : Calls Try.prog 18 #[treeV l.length (topP l.length A)] w fun e w' => e = .returned (.int .u64 (rootV l)) ∧ Below w.heap.size w w' := by
  unfold topP rootV
  by_cases h : l.length = 0
  · have h' : l = [] := List.length_eq_zero_iff.1 h
    subst h'
    exact root_nil w 0
  · have h' : l ≠ [] := fun e => h (by rw [e]; rfl)
    rw [if_neg h, if_neg h']
    have := (hT (ht l.length) (Nat.le_refl _) 0 (sz_pos (by omega) _)).sum
    exact root_top w l.length _ _ this
theorem l5 : pathV [1, 2, 3, 4, 5] 1 = [1, 3, 4, runV [5]] := by
  have h : ht ([1, 2, 3, 4, 5] : List Int).length = 2 := by
    show ht 5 = 2
    rw [ht_more (by omega), ht_more (by omega), ht_one (by omega)]
  unfold pathV
  rw [h]
  simp [pth, sibs, gat, lv, nxt, List.range_succ]
theorem l5b : pathV [1, 2, 3, 4, 5] 4 = [runV [1, 2, 3, 4]] := by
  have h : ht ([1, 2, 3, 4, 5] : List Int).length = 2 := by
    show ht 5 = 2
    rw [ht_more (by omega), ht_more (by omega), ht_one (by omega)]
  unfold pathV
  rw [h]
  simp [pth, sibs, gat, lv, nxt, List.range_succ]
end Go.Proofs.Ytpofcknfnipkgaa.ST
