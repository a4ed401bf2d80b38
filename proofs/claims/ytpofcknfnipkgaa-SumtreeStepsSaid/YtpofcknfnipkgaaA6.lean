/- join, Len and Root: a new node above a run; the root of a tree in memory. -/
import Derived.Test.YtpofcknfnipkgaaA5
import Derived.Deep.RegionHeld3
namespace Go.Proofs.Ytpofcknfnipkgaa.ST
open Go.RowKit Go.Proofs.YtpofcknfnipkgaaW.PrintWords Go.Proofs.YtpofcknfnipkgaaW.PrintLast Go.Proofs.YtpofcknfnipkgaaW.PrintMore Go.Proofs.Ytpofcknfnipkgaa.PS
set_option linter.unusedVariables false
set_option linter.unusedSimpArgs false

theorem take_snoc0 (ss : List Int) (j : Nat) (h : j < ss.length) : ss.take (j + 1) = ss.take j ++ [ss.getD j 0] := by
  rw [List.take_succ_eq_append_getElem h]; simp [List.getD_eq_getElem?_getD, h]
set_option maxHeartbeats 2000000 in
theorem join_any (w : World) (B off m c : Nat) (an : Nat → Nat) (ss : List Int) (hm : ss.length = m) (hm4 : m ≤ 900) (hcell : ∀ j, j < m → w.cell? ⟨B, off + j, none⟩ = some (.pointer (some ⟨an j, 0, none⟩))) (hs : ∀ j, j < m → w.cell? ⟨an j, 0, none⟩ = some (.int .u64 (ss.getD j 0))) :
    Calls Try.prog 29 #[.slice (some ⟨B, off, none⟩) m c] w fun e w' => ∃ a, e = .returned (.pointer (some ⟨a, 0, none⟩)) ∧ w.heap.size ≤ a ∧ NodeB w' a (runV ss) (.slice (some ⟨B, off, none⟩) m c) ∧ Below w.heap.size w w' := by
  obtain ⟨kr, hkr⟩ := (run_ev ss (by omega)).rounds
  have HKR := Lib.hid hkr
  have HM := Lib.hid hm
  have HC := Lib.hid hcell
  have HS := Lib.hid hs
  clear hkr hm hcell hs
  go_enter Try.func29, Try.ntmps29
  go_wp2
  go_loopw [3, 8] (fun v i wr => ∃ (j : Nat), j ≤ m ∧ i = .int .i64 j ∧ Aside0 (Kd.R (Kd.int .u64) 34 wr w.heap.size (fun _ => True) v (ss.take j)) ∧ Aside0 (Below w.heap.size w wr)) (fun _ i _ => m - (intOf i).toNat)
  case atStart => exact ⟨0, by omega, rfl, ⟨by simpa using Kd.R_nil _ _ _ _ _⟩, ⟨Below.refl _ _⟩⟩
  case round =>
    obtain ⟨j, hj, rfl, HR, HB⟩ := hrel
    by_cases hlt : j < m
    · have hcj := pw_cell_below HB.out (HC.out j hlt)
      have hcs := pw_cell_below HB.out (HS.out j hlt)
      obtain ⟨s, hs⟩ : ∃ s, ss.getD j 0 = s := ⟨_, rfl⟩
      rw [hs] at hcs
      have Hs := Lib.hid hs
      clear hs
      have hlen := Aside0.mk (show (ss.take j).length ≤ 900 by simp; omega)
      obtain ⟨xs, hxs⟩ : ∃ xs, ss.take j = xs := ⟨_, rfl⟩
      rw [hxs] at HR hlen
      have Hxs := Lib.hid hxs
      clear hxs
      go_wp2_with ((with_reducible refine gate_builtin (b := .append) (xs := #[.tmp 12, .tmp 17]) rfl ?_); at_builtin; refine Kd.R_append (Kd.int .u64) (w0 := w) w.heap.size rfl (.tmp 12) (.tmp 17) 22 34 (.int .u64 0) 8 rfl Try.underlying22 info34 rfl (by decide) (by omega) _ xs s [.int .u64 s] (fun _ => True) (fun _ => False) rfl rfl ?aP (fun _ hk => hk.elim) (fun _ _ => trivial) ?aO ?aB ?aS ?aL ?_; (case aP => exact rfl); (case aB => exact HB.out); (case aO => exact HR.out); (case aS => exact (below_size HB.out)); (case aL => have := hlen.out; omega); intro v1 w1 ho hb1 _ _; have HR1 := Aside0.mk ho; have HB1 := Aside0.mk hb1; clear HR HB ho hb1)
      go_roundw
      case rel =>
        refine ⟨j + 1, by omega, by go_num, ⟨?_⟩, HB1⟩
        rw [take_snoc0 _ _ (by have := HM.out; omega), Hxs.out, Hs.out]
        exact HR1.out
      case measure => simp [intOf]; omega
    · have hjm : j = m := by omega
      obtain ⟨Ao, co, hv⟩ := Kd.R_slice HR.out
      have hx := HR.out
      rw [List.take_of_length_le (by rw [HM.out, hjm]; omega)] at hv hx
      subst hv
      have hge : ¬ (j : Int) < (m : Int) := by omega
      have Hx := Aside0.mk (Kd.R_reads' hx)
      clear hx HR
      go_wp2_with (go_at_call 31; refine (sumtree_run.calls kr _ _ ss _ _ Hx.out.2.2 Hx.out.2.1 HKR.out).mono ?_; rintro e w1 ⟨rfl, hb1⟩; have HB1 := Aside0.mk (below_then HB.out (below_size HB.out) hb1); clear hb1)
      go_ret
      exact ⟨_, rfl, below_size HB1.out, heap_alloc_new _ _, below_alloc HB1.out _⟩
theorem below_join {w wx w1 : World} (h1 : Below wx.heap.size wx w1) (h : Below w.heap.size w wx) : Below w.heap.size w w1 := below_then h (below_size h) h1
theorem len_any (w : World) (n : Nat) (a : Value) : Calls Try.prog 25 #[treeV n a] w fun e w' => e = .returned (.int .i64 n) ∧ Below w.heap.size w w' := by
  unfold treeV
  go_enter Try.func25, Try.ntmps25
  go_wp2
  go_ret
  exact ⟨rfl, (Below.refl _ _).alloc (Nat.le_refl _) _⟩
theorem root_nil (w : World) (n : Nat) : Calls Try.prog 18 #[treeV n (.pointer none)] w fun e w' => e = .returned (.int .u64 (topV n 0)) ∧ Below w.heap.size w w' := by
  obtain ⟨kr, hkr⟩ := (root_ev n 0).rounds
  have HKR := Lib.hid hkr
  clear hkr
  unfold treeV
  go_enter Try.func18, Try.ntmps18
  go_wp2_with (go_at_call 32; refine (sumtree_root.calls kr _ _ _ _ HKR.out).mono ?_; rintro e w1 ⟨rfl, hb1⟩; have HB1 := Aside0.mk (below_alloc_then hb1); clear hb1)
  go_ret
  exact ⟨rfl, HB1.out⟩
theorem root_top (w : World) (n a : Nat) (s : Int) (hs : w.cell? ⟨a, 0, none⟩ = some (.int .u64 s)) : Calls Try.prog 18 #[treeV n (.pointer (some ⟨a, 0, none⟩))] w fun e w' => e = .returned (.int .u64 (topV n s)) ∧ Below w.heap.size w w' := by
  obtain ⟨kr, hkr⟩ := (root_ev n s).rounds
  have HKR := Lib.hid hkr
  have halt := World.block_lt_of_cell? w _ hs
  clear hkr
  unfold treeV
  go_enter Try.func18, Try.ntmps18
  go_wp2_with fail
  have hs' : (w.alloc (.cells #[.int .i64 n, .int .i64 (ht n), .pointer (some ⟨a, 0, none⟩)] 29)).cell? ⟨a, 0, none⟩ = some (.int .u64 s) := by rw [← hs]; exact (below_alloc (Below.refl w.heap.size w) _).cell halt
  have hw0 := Aside0.mk (below_alloc (Below.refl w.heap.size w) (.cells #[.int .i64 n, .int .i64 (ht n), .pointer (some ⟨a, 0, none⟩)] 29))
  have c0 : (w.alloc (.cells #[.int .i64 n, .int .i64 (ht n), .pointer (some ⟨a, 0, none⟩)] 29)).cell? ⟨w.heap.size, 0, none⟩ = some (.int .i64 n) := by simp
  have c2 : (w.alloc (.cells #[.int .i64 n, .int .i64 (ht n), .pointer (some ⟨a, 0, none⟩)] 29)).cell? ⟨w.heap.size, 2, none⟩ = some (.pointer (some ⟨a, 0, none⟩)) := by simp
  generalize w.alloc (.cells #[.int .i64 n, .int .i64 (ht n), .pointer (some ⟨a, 0, none⟩)] 29) = wz at hs' hw0 c0 c2 ⊢
  clear hs
  replace hw0 := hw0.out
  go_region_held3 (fun w' => w'.cell? ⟨w.heap.size, 0, none⟩ = some (.int .i64 n) ∧ w'.cell? ⟨w.heap.size, 2, none⟩ = some (.pointer (some ⟨a, 0, none⟩)) ∧ w'.cell? ⟨a, 0, none⟩ = some (.int .u64 s) ∧ Below w.heap.size w w') (first | exact ⟨by assumption, by assumption, by assumption, by assumption⟩ | exact ⟨by simpa using c0, by simpa using c2, by simpa using hs', below_drew1 hw0⟩ | go_keep) (first | (go_at_call 32; refine (sumtree_root.calls kr _ _ _ _ HKR.out).mono ?_; rintro e w1 ⟨rfl, hb1⟩; have k0 : w1.cell? ⟨w.heap.size, 0, none⟩ = some (.int .i64 n) := pw_cell_below hb1 (by assumption); have k1 : w1.cell? ⟨w.heap.size, 2, none⟩ = some (.pointer (some ⟨a, 0, none⟩)) := pw_cell_below hb1 (by assumption); have k2 : w1.cell? ⟨a, 0, none⟩ = some (.int .u64 s) := pw_cell_below hb1 (by assumption); have k3 : Below w.heap.size w w1 := below_join hb1 (by first | assumption | exact below_drew1 hw0)))
  go_wp2
  go_ret
  exact ⟨rfl, by assumption⟩
end Go.Proofs.Ytpofcknfnipkgaa.ST
