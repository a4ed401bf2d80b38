/- count, same and Same in a walk. -/
import Derived.Test.YtpofcknfnipkgaaE2
import Derived.Test.YtpofcknfnipkgaaC3
namespace Go.Proofs.Ytpofcknfnipkgaa.ST
open Go.RowKit Go.Proofs.YtpofcknfnipkgaaW.PrintWords Go.Proofs.YtpofcknfnipkgaaW.PrintLast Go.Proofs.YtpofcknfnipkgaaW.PrintMore Go.Proofs.Ytpofcknfnipkgaa.PS
set_option linter.unusedVariables false
set_option linter.unusedSimpArgs false

theorem ptr_eq0 (w : World) (a b : Nat) (ha : ∃ cs, w.heap[a]? = some (.cells cs 60 (0, 0))) (hb : ∃ cs, w.heap[b]? = some (.cells cs 60 (0, 0))) :
    (binOp .eql 27 (.pointer (some ⟨a, 0, none⟩)) (.pointer (some ⟨b, 0, none⟩))).run Try.prog w = .ok (.bool (decide (a = b))) w := ptr_eq w a b ha hb 0
theorem i64_nat {c : Nat} (h : c < 9000000000) : IntKind.i64.wrap (c : Int) = c := IntWalk.i64_in _ ⟨by omega, by omega⟩
set_option maxHeartbeats 2000000 in
theorem count_any (w : World) (n : Nat) (S : Nat → Nat → Int) (A : Nat → Nat → Nat) (h : Nat) (h5 : h ≤ 5) (T : Tr w n S A h) : ∀ (k : Nat), k ≤ h → ∀ (p : Nat), p < sz n k →
    Calls Try.prog 45 #[.pointer (some ⟨A k p, 0, none⟩), .int .i64 k] w fun e w' => e = .returned (.int .i64 (cnt n k p)) ∧ w' = w := by
  intro k
  induction k with
  | zero =>
    intro hk p hp
    clear T
    go_enter Try.func45, Try.ntmps45
    go_wp2
    go_ret
    exact ⟨rfl, rfl⟩
  | succ k ih =>
    intro hk p hp
    obtain ⟨B, off, c, hk1, hk2, hk3⟩ := (T (k + 1) (by omega) p hp).kids
    obtain ⟨a, ha⟩ : ∃ a, A (k + 1) p = a := ⟨_, rfl⟩
    obtain ⟨m, hm⟩ : ∃ m, mm n k p = m := ⟨_, rfl⟩
    rw [ha, hm] at hk1
    rw [hm] at hk2 hk3
    rw [ha]
    have hm4 : m ≤ 4 := by rw [← hm]; exact mm_le n k p
    have hsz : ∀ j, j < m → 4 * p + j < sz n k := fun j hj => by rw [← hm] at hj; unfold mm at hj; omega
    have Hfin := Aside0.mk (show cnt n (k + 1) p = 1 + sumN (fun j => cnt n k (4 * p + j)) m by rw [cnt, hm])
    have Hk3 := Aside0.mk hk3
    have Hsz := Aside0.mk hsz
    have Hih := Lib.hid (fun p hp => ih (by omega) p hp)
    have hkne : (((k + 1 : Nat) : Int) == 0) = false := by rw [beq_eq_false_iff_ne]; omega
    have Hp4 := Aside0.mk (pow4 (show k ≤ 5 by omega))
    clear ha hm hk3 hsz ih T
    go_enter Try.func45, Try.ntmps45
    go_wp2_with fail
    go_loopw [5, 15] (fun v i wr => ∃ (j : Nat), j ≤ m ∧ i = .int .i64 j ∧ v = .int .i64 (1 + ((sumN (fun j => cnt n k (4 * p + j)) j : Nat) : Int)) ∧ wr = w) (fun _ i _ => m - (intOf i).toNat)
    case atStart => exact ⟨0, by omega, rfl, by simp [sumN], rfl⟩
    case round =>
      obtain ⟨j, hj, rfl, rfl, rfl⟩ := hrel
      obtain ⟨x, hx⟩ : ∃ x, sumN (fun j => cnt n k (4 * p + j)) j = x := ⟨_, rfl⟩
      have hx9 : x ≤ 4 * 2048 := by
        rw [← hx]
        have h1 := sumN_le (f := fun j => cnt n k (4 * p + j)) (c := 2048) (fun j => by have := cnt_le n k (4 * p + j); have := Hp4.out; omega) j
        exact Nat.le_trans h1 (Nat.mul_le_mul_right _ (by omega))
      have Hx := Aside0.mk hx
      rw [hx]
      clear hx
      by_cases hlt : j < m
      · have hltI : (j : Int) < (m : Int) := by omega
        have hc1 := Hk3.out j hlt
        have hk9 : k ≤ 4 := by omega
        have q1 : IntKind.i64.wrap (k : Int) = k := IntWalk.i64_in _ (by omega)
        obtain ⟨y, hy⟩ : ∃ y, cnt n k (4 * p + j) = y := ⟨_, rfl⟩
        have hy9 : y ≤ 2048 := by rw [← hy]; have := cnt_le n k (4 * p + j); have := Hp4.out; omega
        have HC := Hih.out (4 * p + j) (Hsz.out j hlt)
        rw [hy] at HC
        have HC := Lib.hid HC
        have Hy := Aside0.mk hy
        clear hy
        go_wp2_with fail
        refine HC.out.mono ?_
        rintro e w1 ⟨rfl, rfl⟩
        clear HC
        go_wp2
        go_roundw
        case rel =>
          have hs : sumN (fun j => cnt n k (4 * p + j)) (j + 1) = x + y := by simp only [sumN]; rw [Hx.out, Hy.out]
          repeat apply Exists.intro
          exact ⟨⟨j + 1, by omega, by go_num, by rw [hs]; push_cast; first | rfl | (congr 1; omega), trivial⟩, rfl⟩
        case measure => simp [intOf]; omega
      · have hge : ¬ (j : Int) < (m : Int) := by omega
        have hjm : j = m := by omega
        go_wp2
        go_ret
        rw [Hfin.out, ← hjm, Hx.out]
        exact ⟨rfl, rfl⟩
set_option maxHeartbeats 2000000 in
theorem same39 (w : World) (n : Nat) (S S' : Nat → Nat → Int) (A A' : Nat → Nat → Nat) (h : Nat) (h5 : h ≤ 5) (T : Tr w n S A h) (T' : Tr w n S' A' h) : ∀ (k : Nat), k ≤ h → ∀ (p : Nat), p < sz n k →
    Calls Try.prog 39 #[.pointer (some ⟨A k p, 0, none⟩), .pointer (some ⟨A' k p, 0, none⟩), .int .i64 k] w fun e w' => e = .returned (.int .i64 (sm n A A' k p)) ∧ w' = w := by
  intro k
  induction k with
  | zero =>
    intro hk p hp
    clear T T'
    go_enter Try.func39, Try.ntmps39
    go_wp2
    go_ret
    exact ⟨rfl, rfl⟩
  | succ k ih =>
    intro hk p hp
    have hpe := ptr_eq0 w (A (k + 1) p) (A' (k + 1) p) (node_block (T (k + 1) (by omega) p hp)) (node_block (T' (k + 1) (by omega) p hp))
    obtain ⟨B, off, c, hk1, hk2, hk3⟩ := (T (k + 1) (by omega) p hp).kids
    obtain ⟨B', off', c', hk1', hk2', hk3'⟩ := (T' (k + 1) (by omega) p hp).kids
    have HCn := Lib.hid (count_any w n S A h h5 T (k + 1) hk p hp)
    obtain ⟨a, ha⟩ : ∃ a, A (k + 1) p = a := ⟨_, rfl⟩
    obtain ⟨b, hb⟩ : ∃ b, A' (k + 1) p = b := ⟨_, rfl⟩
    obtain ⟨m, hm⟩ : ∃ m, mm n k p = m := ⟨_, rfl⟩
    rw [ha, hm] at hk1
    rw [hb, hm] at hk1'
    rw [hm] at hk2 hk3 hk2' hk3'
    rw [ha, hb] at hpe
    rw [ha] at HCn
    rw [ha, hb]
    have hm4 : m ≤ 4 := by rw [← hm]; exact mm_le n k p
    have hsz : ∀ j, j < m → 4 * p + j < sz n k := fun j hj => by rw [← hm] at hj; unfold mm at hj; omega
    have Hfin := Aside0.mk (show sm n A A' (k + 1) p = if a = b then cnt n (k + 1) p else sumN (fun j => sm n A A' k (4 * p + j)) m by rw [sm, hm, ha, hb])
    have Hk3 := Aside0.mk hk3
    have Hk3' := Aside0.mk hk3'
    have Hsz := Aside0.mk hsz
    have Hih := Lib.hid (fun p hp => ih (by omega) p hp)
    have hkne : (((k + 1 : Nat) : Int) == 0) = false := by rw [beq_eq_false_iff_ne]; omega
    have Hp4 := Aside0.mk (pow4 (show k ≤ 5 by omega))
    clear ha hb hm hk3 hk3' hsz ih T T'
    by_cases hab : a = b
    · have Hf := Aside0.mk (show sm n A A' (k + 1) p = cnt n (k + 1) p by rw [Hfin.out, if_pos hab])
      clear Hfin
      subst hab
      simp only [decide_true] at hpe
      go_enter Try.func39, Try.ntmps39
      go_wp2_with fail
      refine HCn.out.mono ?_
      rintro e w1 ⟨rfl, rfl⟩
      clear HCn
      go_wp2
      go_ret
      rw [Hf.out]
      exact ⟨rfl, rfl⟩
    · simp only [decide_eq_false hab] at hpe
      clear HCn
      go_enter Try.func39, Try.ntmps39
      go_wp2_with fail
      go_loopw [7, 23] (fun v i wr => ∃ (j : Nat), j ≤ m ∧ i = .int .i64 j ∧ v = .int .i64 ((sumN (fun j => sm n A A' k (4 * p + j)) j : Nat) : Int) ∧ wr = w) (fun _ i _ => m - (intOf i).toNat)
      case atStart => exact ⟨0, by omega, rfl, by simp [sumN], rfl⟩
      case round =>
        obtain ⟨j, hj, rfl, rfl, rfl⟩ := hrel
        obtain ⟨x, hx⟩ : ∃ x, sumN (fun j => sm n A A' k (4 * p + j)) j = x := ⟨_, rfl⟩
        have hx9 : x ≤ 4 * 2048 := by
          rw [← hx]
          have h1 := sumN_le (f := fun j => sm n A A' k (4 * p + j)) (c := 2048) (fun j => by have := sm_le n A A' k (4 * p + j); have := Hp4.out; omega) j
          exact Nat.le_trans h1 (Nat.mul_le_mul_right _ (by omega))
        have Hx := Aside0.mk hx
        rw [hx]
        clear hx
        by_cases hlt : j < m
        · have hltI : (j : Int) < (m : Int) := by omega
          have hc1 := Hk3.out j hlt
          have hc3 := Hk3'.out j hlt
          have hk9 : k ≤ 4 := by omega
          have q1 : IntKind.i64.wrap (k : Int) = k := IntWalk.i64_in _ (by omega)
          obtain ⟨y, hy⟩ : ∃ y, sm n A A' k (4 * p + j) = y := ⟨_, rfl⟩
          have hy9 : y ≤ 2048 := by rw [← hy]; have := sm_le n A A' k (4 * p + j); have := Hp4.out; omega
          have HC := Hih.out (4 * p + j) (Hsz.out j hlt)
          rw [hy] at HC
          have HC := Lib.hid HC
          have Hy := Aside0.mk hy
          clear hy
          go_wp2_with fail
          refine HC.out.mono ?_
          rintro e w1 ⟨rfl, rfl⟩
          clear HC
          go_wp2
          go_roundw
          case rel =>
            have hs : sumN (fun j => sm n A A' k (4 * p + j)) (j + 1) = x + y := by simp only [sumN]; rw [Hx.out, Hy.out]
            repeat apply Exists.intro
            exact ⟨⟨j + 1, by omega, by go_num, by rw [hs]; push_cast; first | rfl | (congr 1; omega), trivial⟩, rfl⟩
          case measure => simp [intOf]; omega
        · have hge : ¬ (j : Int) < (m : Int) := by omega
          have hjm : j = m := by omega
          go_wp2
          go_ret
          rw [Hfin.out, if_neg hab, ← hjm, Hx.out]
          exact ⟨rfl, rfl⟩
end Go.Proofs.Ytpofcknfnipkgaa.ST
