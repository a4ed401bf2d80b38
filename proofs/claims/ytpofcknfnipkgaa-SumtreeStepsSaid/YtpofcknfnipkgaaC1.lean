/- diff and Diff: the places at which two trees in memory are found to differ. -/
import Derived.Test.YtpofcknfnipkgaaB1
import Derived.Deep.RegionHeld3
import Derived.LaidEqlPtr
import Derived.Deep.QuietTactic
import Derived.BigQuiet
namespace Go.Proofs.Ytpofcknfnipkgaa.ST
open Go.RowKit Go.Proofs.YtpofcknfnipkgaaW.PrintWords Go.Proofs.YtpofcknfnipkgaaW.PrintLast Go.Proofs.YtpofcknfnipkgaaW.PrintMore Go.Proofs.Ytpofcknfnipkgaa.PS
set_option linter.unusedVariables false
set_option linter.unusedSimpArgs false

def dfl (n : Nat) (S S' : Nat → Nat → Int) : Nat → Nat → Int → List Int
  | 0, p, o => if S 0 p = S' 0 p then [] else [o]
  | k + 1, p, o => if S (k + 1) p = S' (k + 1) p then [] else (List.range (mm n k p)).flatMap fun j => dfl n S S' k (4 * p + j) (o + (j : Int) * 4 ^ k)
theorem mm_le (n k p : Nat) : mm n k p ≤ 4 := by unfold mm; omega
theorem flat_le {f : Nat → List Int} {c : Nat} (h : ∀ j, (f j).length ≤ c) : ∀ m, ((List.range m).flatMap f).length ≤ m * c
  | 0 => by simp
  | m + 1 => by
    have := flat_le h m
    have := h m
    rw [List.range_succ, List.flatMap_append, List.length_append, Nat.succ_mul]
    simp only [List.flatMap_cons, List.flatMap_nil, List.append_nil]
    omega
theorem dfl_length (n : Nat) (S S' : Nat → Nat → Int) : ∀ k p o, (dfl n S S' k p o).length ≤ 4 ^ k
  | 0, p, o => by unfold dfl; split <;> simp
  | k + 1, p, o => by
    unfold dfl
    split
    · simp
    · have h := flat_le (f := fun j => dfl n S S' k (4 * p + j) (o + (j : Int) * 4 ^ k)) (fun j => dfl_length n S S' k _ _) (mm n k p)
      have h2 := mm_le n k p
      have : mm n k p * 4 ^ k ≤ 4 * 4 ^ k := Nat.mul_le_mul_right _ h2
      rw [Nat.pow_succ]
      omega
theorem info60 : ∃ j, Try.prog.info? 60 = some j ∧ j.size ≠ 0 := by
  have h : (Try.prog.info? 60).map (fun i => i.size) = some 2 := by kernel_rfl
  obtain ⟨j, h1, h2⟩ := Option.map_eq_some_iff.1 h
  exact ⟨j, h1, by omega⟩
theorem info3 : (Try.prog.info? 3).map (fun i => (i.zero, i.size, i.bytes)) = some (some (.int .i64 0), 1, 8) := by kernel_rfl
theorem node_block {w : World} {n : Nat} {S : Nat → Nat → Int} {A : Nat → Nat → Nat} {k p : Nat} (h : NodeOK w n S A k p) : ∃ cs, w.heap[A k p]? = some (.cells cs 60 (0, 0)) := by
  cases k with
  | zero => exact ⟨_, h⟩
  | succ k => obtain ⟨B, off, c, cs, h1, _⟩ := h; exact ⟨_, h1⟩
/-- Two pointers to nodes, compared. -/
theorem ptr_eq (w : World) (a b : Nat) (ha : ∃ cs, w.heap[a]? = some (.cells cs 60 (0, 0))) (hb : ∃ cs, w.heap[b]? = some (.cells cs 60 (0, 0))) (nq : Nat) :
    (binOp .eql 27 (.pointer (some ⟨a, 0, none⟩)) (.pointer (some ⟨b, 0, none⟩))).run Try.prog (w.drewN nq) = .ok (.bool (decide (a = b))) (w.drewN nq) := by
  obtain ⟨j, hj, hsz⟩ := info60
  by_cases hab : a = b
  · subst hab
    rw [run_eql_ptr_same _ _ Try.underlying27 hj]
    simp
  · obtain ⟨ca, ha⟩ := ha
    obtain ⟨cb, hb⟩ := hb
    rw [run_eql_ptr_other (a := ⟨a, 0, none⟩) (b := ⟨b, 0, none⟩) (w.drewN nq) Try.underlying27 hj hsz (by simp [hab]) (ca := ca) (cb := cb) ha hb]
    simp [hab]
theorem NodeOK.same_sum {w : World} {n : Nat} {S S' : Nat → Nat → Int} {A A' : Nat → Nat → Nat} {k p : Nat} (h : NodeOK w n S A k p) (h' : NodeOK w n S' A' k p) (e : A k p = A' k p) : S k p = S' k p := by
  have s1 := h.sum
  rw [e, h'.sum] at s1
  injection s1 with s1
  injection s1 with _ s1
  exact s1.symm
theorem pow4 {k : Nat} (h : k ≤ 5) : 0 < 4 ^ k ∧ 4 ^ k ≤ 1024 := ⟨Nat.pow_pos (by omega), (Nat.pow_le_pow_right (by omega) h : 4 ^ k ≤ 4 ^ 5)⟩
theorem shl_way (o : Int) (j k : Nat) (hk : k ≤ 4) (hj : j ≤ 4) (h0 : 0 ≤ o) (h1 : o ≤ 1000000) : IntKind.i64.wrap (o + IntKind.i64.wrap ((j : Int) * 2 ^ (2 * (k : Int)).toNat)) = o + (j : Int) * 4 ^ k := by
  have hp := pow4 (show k ≤ 5 by omega)
  have e1 : (2 * (k : Int)).toNat = 2 * k := by omega
  have e2 : (2 : Int) ^ (2 * k) = ((4 ^ k : Nat) : Int) := by rw [Int.pow_mul]; norm_cast
  have e3 : (4 : Int) ^ k = ((4 ^ k : Nat) : Int) := by norm_cast
  rw [e1, e2, e3]
  generalize 4 ^ k = q at hp ⊢
  have h2 : (j : Int) * (q : Int) ≤ 4 * (q : Int) := Int.mul_le_mul_of_nonneg_right (by omega) (by omega)
  have h3 : 0 ≤ (j : Int) * (q : Int) := Int.mul_nonneg (by omega) (by omega)
  rw [IntWalk.i64_in ((j : Int) * (q : Int)) ⟨by omega, by omega⟩, IntWalk.i64_in _ ⟨by omega, by omega⟩]
theorem flat_snoc (f : Nat → List Int) (j : Nat) : (List.range (j + 1)).flatMap f = (List.range j).flatMap f ++ f j := by
  rw [List.range_succ, List.flatMap_append]; simp
set_option maxHeartbeats 2000000 in
theorem diff_any (w0 : World) (n : Nat) (S S' : Nat → Nat → Int) (A A' : Nat → Nat → Nat) (h : Nat) (h5 : h ≤ 5) (T : Tr w0 n S A h) (T' : Tr w0 n S' A' h) : ∀ (k : Nat), k ≤ h → ∀ (p : Nat), p < sz n k → ∀ (w : World) (v : Value) (xs : List Int) (o : Int),
    Below w0.heap.size w0 w → Kd.R (Kd.int .i64) 3 w w0.heap.size (fun _ => True) v xs → xs.length + 4 ^ k ≤ 100000 → 0 ≤ o → o + 4 ^ k ≤ 1000000 →
    Calls Try.prog 37 #[.pointer (some ⟨A k p, 0, none⟩), .pointer (some ⟨A' k p, 0, none⟩), .int .i64 o, .int .i64 k, v] w fun e w' => ∃ v', e = .returned v' ∧ Kd.R (Kd.int .i64) 3 w' w0.heap.size (fun _ => True) v' (xs ++ dfl n S S' k p o) ∧ Below w0.heap.size w0 w' := by
  intro k
  induction k with
  | zero =>
    intro hk p hp w v xs o hB hR hx ho0 ho1
    have hN := (T.keep (Keeps.below hB)) 0 (by omega) p hp
    have hN' := (T'.keep (Keeps.below hB)) 0 (by omega) p hp
    have s1 := hN.sum
    have s2 := hN'.sum
    have hpe := ptr_eq w (A 0 p) (A' 0 p) (node_block hN) (node_block hN')
    have Hs := Aside0.mk (fun e => hN.same_sum hN' e)
    have HB := Aside0.mk hB
    have HR := Aside0.mk hR
    have HX := Aside0.mk hx
    obtain ⟨a, ha⟩ : ∃ a, A 0 p = a := ⟨_, rfl⟩
    obtain ⟨b, hb⟩ : ∃ b, A' 0 p = b := ⟨_, rfl⟩
    obtain ⟨s, hs⟩ : ∃ s, S 0 p = s := ⟨_, rfl⟩
    obtain ⟨s', hs'⟩ : ∃ s', S' 0 p = s' := ⟨_, rfl⟩
    rw [ha, hs] at s1
    rw [hb, hs'] at s2
    rw [ha, hb] at hpe Hs ⊢
    rw [hs, hs'] at Hs
    have Hfin := Aside0.mk (show dfl n S S' 0 p o = if s = s' then [] else [o] by rw [dfl, hs, hs'])
    clear hN hN' ha hb hs hs' hB hR hx T T'
    by_cases hab : a = b
    · have hss := Hs.out hab
      subst hab
      simp only [decide_true] at hpe
      go_enter Try.func37, Try.ntmps37
      go_wp2_with fail
      go_quiet (fail)
      go_wp2
      go_ret
      refine ⟨v, rfl, ?_, pw_below_drewN HB.out _⟩
      rw [Hfin.out, if_pos hss, List.append_nil]
      exact Kd.R_drewN HR.out _
    · simp only [decide_eq_false hab] at hpe
      by_cases hs : s = s'
      · subst hs
        go_enter Try.func37, Try.ntmps37
        go_wp2_with fail
        go_quiet (fail)
        go_wp2
        go_ret
        refine ⟨v, rfl, ?_, pw_below_drewN HB.out _⟩
        rw [Hfin.out]
        simp only [if_true]
        rw [List.append_nil]
        exact Kd.R_drewN HR.out _
      · have hd : (s == s') = false := by simpa using hs
        go_enter Try.func37, Try.ntmps37
        go_wp2_with fail
        go_quiet (fail)
        have HRq := Aside0.mk (Kd.R_drewN HR.out nq)
        have HBq := Aside0.mk (pw_below_drewN HB.out nq)
        obtain ⟨wq, hwq⟩ : ∃ wq, w.drewN nq = wq := ⟨_, rfl⟩
        rw [hwq] at HRq HBq ⊢
        clear hwq HR HB hpe s1 s2
        go_wp2_with (first | ((with_reducible refine gate_builtin (b := .append) (xs := #[.tmp 32, .tmp 34]) rfl ?_); at_builtin; refine Kd.R_append (Kd.int .i64) (w0 := w0) w0.heap.size rfl (.tmp 32) (.tmp 34) 43 3 (.int .i64 0) 8 rfl Try.underlying43 info3 rfl (by decide) (by omega) v xs o [.int .i64 o] (fun _ => True) (fun _ => False) rfl rfl ?aP (fun _ hk => hk.elim) (fun _ _ => trivial) ?aO ?aB ?aS ?aL ?_; (case aP => exact rfl); (case aB => exact HBq.out); (case aO => exact HRq.out); (case aS => exact (below_size HBq.out)); (case aL => have := HX.out; omega); intro v1 w1 ho hb1 _ _; have HR1 := Aside0.mk ho; have HB1 := Aside0.mk hb1; clear ho hb1))
        go_ret
        refine ⟨v1, rfl, ?_, HB1.out⟩
        rw [Hfin.out, if_neg hs]
        exact HR1.out
  | succ k ih =>
    intro hk p hp w v xs o hB hR hx ho0 ho1
    have hN := (T.keep (Keeps.below hB)) (k + 1) (by omega) p hp
    have hN' := (T'.keep (Keeps.below hB)) (k + 1) (by omega) p hp
    have s1 := hN.sum
    have s2 := hN'.sum
    have hpe := ptr_eq w (A (k + 1) p) (A' (k + 1) p) (node_block hN) (node_block hN')
    have Hs := Aside0.mk (fun e => hN.same_sum hN' e)
    have HB := Aside0.mk hB
    have HR := Aside0.mk hR
    have HX := Aside0.mk hx
    obtain ⟨B, off, c, hk1, hk2, hk3⟩ := (T (k + 1) (by omega) p hp).kids
    obtain ⟨B', off', c', hk1', hk2', hk3'⟩ := (T' (k + 1) (by omega) p hp).kids
    obtain ⟨a, ha⟩ : ∃ a, A (k + 1) p = a := ⟨_, rfl⟩
    obtain ⟨b, hb⟩ : ∃ b, A' (k + 1) p = b := ⟨_, rfl⟩
    obtain ⟨s, hs⟩ : ∃ s, S (k + 1) p = s := ⟨_, rfl⟩
    obtain ⟨s', hs'⟩ : ∃ s', S' (k + 1) p = s' := ⟨_, rfl⟩
    obtain ⟨m, hm⟩ : ∃ m, mm n k p = m := ⟨_, rfl⟩
    rw [ha, hs] at s1
    rw [hb, hs'] at s2
    rw [ha, hb] at hpe Hs ⊢
    rw [hs, hs'] at Hs
    rw [ha, hm] at hk1
    rw [hb, hm] at hk1'
    rw [hm] at hk2 hk2' hk3 hk3'
    have hm4 : m ≤ 4 := by rw [← hm]; exact mm_le n k p
    have hsz : ∀ j, j < m → 4 * p + j < sz n k := fun j hj => by rw [← hm] at hj; unfold mm at hj; omega
    have Hfin := Aside0.mk (show dfl n S S' (k + 1) p o = if s = s' then [] else (List.range m).flatMap (fun j => dfl n S S' k (4 * p + j) (o + (j : Int) * 4 ^ k)) by rw [dfl, hs, hs', hm])
    have Hk1 := Aside0.mk hk1
    have Hk1' := Aside0.mk hk1'
    have Hk3 := Aside0.mk hk3
    have Hk3' := Aside0.mk hk3'
    have Hsz := Aside0.mk hsz
    have Hih := Lib.hid (fun p hp => ih (by omega) p hp)
    clear hN hN' ha hb hs hs' hB hR hx hm hk1 hk1' hk3 hk3' hsz ih
    by_cases hab : a = b
    · have hss := Hs.out hab
      subst hab
      simp only [decide_true] at hpe
      go_enter Try.func37, Try.ntmps37
      go_wp2_with fail
      go_quiet (fail)
      go_wp2
      go_ret
      refine ⟨v, rfl, ?_, pw_below_drewN HB.out _⟩
      rw [Hfin.out, if_pos hss, List.append_nil]
      exact Kd.R_drewN HR.out _
    · simp only [decide_eq_false hab] at hpe
      by_cases hs : s = s'
      · subst hs
        go_enter Try.func37, Try.ntmps37
        go_wp2_with fail
        go_quiet (fail)
        go_wp2
        go_ret
        refine ⟨v, rfl, ?_, pw_below_drewN HB.out _⟩
        rw [Hfin.out]
        simp only [if_true]
        rw [List.append_nil]
        exact Kd.R_drewN HR.out _
      · have hd : (s == s') = false := by simpa using hs
        have hkne : (((k + 1 : Nat) : Int) == 0) = false := by rw [beq_eq_false_iff_ne]; omega
        go_enter Try.func37, Try.ntmps37
        go_wp2_with fail
        go_quiet (fail)
        have HRq := Aside0.mk (Kd.R_drewN HR.out nq)
        have HBq := Aside0.mk (pw_below_drewN HB.out nq)
        obtain ⟨wq, hwq⟩ : ∃ wq, w.drewN nq = wq := ⟨_, rfl⟩
        rw [hwq] at HRq HBq ⊢
        clear hwq HR HB hpe s1 s2
        have hka := pw_cell_below HBq.out Hk1.out
        go_wp2_with fail
        go_loopw [4, 41] (fun v i wr => ∃ (j : Nat) (ys : List Int), j ≤ m ∧ i = .int .i64 j ∧ Aside0 (ys = xs ++ (List.range j).flatMap (fun j => dfl n S S' k (4 * p + j) (o + (j : Int) * 4 ^ k))) ∧ Aside0 (Kd.R (Kd.int .i64) 3 wr w0.heap.size (fun _ => True) v ys) ∧ Aside0 (Below w0.heap.size w0 wr)) (fun _ i _ => m - (intOf i).toNat)
        case atStart => exact ⟨0, xs, by omega, rfl, ⟨by simp⟩, HRq, HBq⟩
        case round =>
          obtain ⟨j, ys, hj, rfl, HY, HRr, HBr⟩ := hrel
          by_cases hlt : j < m
          · have hltI : (j : Int) < (m : Int) := by omega
            have hc1 := pw_cell_below HBr.out (Hk3.out j hlt)
            have hc2 := pw_cell_below HBr.out Hk1'.out
            have hc3 := pw_cell_below HBr.out (Hk3'.out j hlt)
            go_wp2_with fail
            have hk9 : k ≤ 4 := by omega
            have q1 : IntKind.i64.wrap (k : Int) = k := IntWalk.i64_in _ (by omega)
            have q2 : IntKind.i64.wrap (2 * (k : Int)) = 2 * k := IntWalk.i64_in _ (by omega)
            have q3 : (0 : Int) ≤ 2 * (k : Int) := by omega
            have q3' : decide ((0 : Int) ≤ 2 * (k : Int)) = true := decide_eq_true q3
            have hp4 := pow4 (show k ≤ 5 by omega)
            have hou0 : o + (4 * 4 ^ k : Nat) ≤ 1000000 := by have := ho1; rw [show (4 : Int) ^ (k + 1) = ((4 * 4 ^ k : Nat) : Int) from by rw [Int.pow_succ]; push_cast; omega] at this; exact this
            have hcast : (4 : Int) ^ k = ((4 ^ k : Nat) : Int) := by norm_cast
            have hjp : j * 4 ^ k ≤ 3 * 4 ^ k := Nat.mul_le_mul_right _ (by omega)
            have hcj : (j : Int) * ((4 ^ k : Nat) : Int) = ((j * 4 ^ k : Nat) : Int) := by push_cast; rfl
            have hfl := flat_le (f := fun j => dfl n S S' k (4 * p + j) (o + (j : Int) * 4 ^ k)) (fun j => dfl_length n S S' k _ _) j
            have hyl : ys.length + 4 ^ k ≤ 100000 := by rw [HY.out, List.length_append]; have := HX.out; rw [Nat.pow_succ] at this; omega
            have hol : 0 ≤ o + (j : Int) * 4 ^ k := by rw [hcast, hcj]; omega
            have hou : o + (j : Int) * 4 ^ k + 4 ^ k ≤ 1000000 := by rw [hcast, hcj]; omega
            have Hq := Aside0.mk (shl_way o j k hk9 (by omega) ho0 (by omega))
            have hsj := Hsz.out j hlt
            clear hou0 hcast hjp hcj hfl
            go_region_held3 (fun w' => w'.cell? ⟨b, 1, none⟩ = some (.slice (some ⟨B', off', none⟩) m c') ∧ w'.cell? ⟨B', off' + j, none⟩ = some (.pointer (some ⟨A' k (4 * p + j), 0, none⟩))) (first | exact ⟨by assumption, by assumption⟩ | go_keep) (first | (go_at_call 37; rw [Hq.out]; refine (Hih.out (4 * p + j) hsj _ _ ys _ (below_drew1 HBr.out) (Kd.R_drew HRr.out) hyl hol hou).mono ?_; rintro e w1 ⟨v1, rfl, hr1, hb1⟩; have k0 : w1.cell? ⟨b, 1, none⟩ = some (.slice (some ⟨B', off', none⟩) m c') := pw_cell_below hb1 Hk1'.out; have k1 : w1.cell? ⟨B', off' + j, none⟩ = some (.pointer (some ⟨A' k (4 * p + j), 0, none⟩)) := pw_cell_below hb1 (Hk3'.out j hlt); have HR1 := Aside0.mk hr1; have HB1 := Aside0.mk hb1; clear hr1 hb1))
            go_wp2
            go_roundw
            case rel =>
              have hY2 : ys ++ dfl n S S' k (4 * p + j) (o + (j : Int) * 4 ^ k) = xs ++ (List.range (j + 1)).flatMap (fun j => dfl n S S' k (4 * p + j) (o + (j : Int) * 4 ^ k)) := by rw [HY.out, flat_snoc, List.append_assoc]
              repeat apply Exists.intro
              exact ⟨⟨j + 1, _, by omega, by go_num, ⟨hY2⟩, HR1, HB1⟩, rfl⟩
            case measure => simp [intOf]; omega
          · have hge : ¬ (j : Int) < (m : Int) := by omega
            have hjm : j = m := by omega
            go_wp2
            go_ret
            refine ⟨_, rfl, ?_, HBr.out⟩
            rw [Hfin.out, if_neg hs, ← hjm, ← HY.out]
            exact HRr.out
end Go.Proofs.Ytpofcknfnipkgaa.ST
