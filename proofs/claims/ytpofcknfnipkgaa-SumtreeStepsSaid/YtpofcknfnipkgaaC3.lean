/- Diff in a walk; the walk of the law SumtreeDiff. -/
import Derived.Test.YtpofcknfnipkgaaC2
namespace Go.Proofs.Ytpofcknfnipkgaa.ST
open Go.RowKit Go.Proofs.YtpofcknfnipkgaaW.PrintWords Go.Proofs.YtpofcknfnipkgaaW.PrintLast Go.Proofs.YtpofcknfnipkgaaW.PrintMore Go.Proofs.Ytpofcknfnipkgaa.PS
set_option linter.unusedVariables false
set_option linter.unusedSimpArgs false

theorem topP_ptr (n : Nat) (A : Nat → Nat → Nat) : ∃ pa, topP n A = .pointer pa := by unfold topP; split <;> exact ⟨_, rfl⟩
set_option maxHeartbeats 1000000 in
theorem Diff_ne (w : World) (n n' : Nat) (t t' : Value) (h : n ≠ n') : Calls Try.prog 20 #[treeV n t, treeV n' t'] w fun e w' => e = .returned (.tuple #[.slice none 0 0, .int .i64 1]) ∧ Below w.heap.size w w' := by
  have d1 : ((n : Int) != (n' : Int)) = true := by rw [bne_iff_ne]; omega
  have d2 : ((n : Int) == (n' : Int)) = false := by rw [beq_eq_false_iff_ne]; omega
  unfold treeV
  go_enter Try.func20, Try.ntmps20
  go_wp2
  go_ret2
  exact ⟨rfl, below_alloc (below_alloc (Below.refl _ _) _) _⟩
set_option maxHeartbeats 1000000 in
theorem Diff_zero (w : World) (t t' : Value) : Calls Try.prog 20 #[treeV 0 t, treeV 0 t'] w fun e w' => e = .returned (.tuple #[.slice none 0 0, .int .i64 0]) ∧ Below w.heap.size w w' := by
  unfold treeV
  go_enter Try.func20, Try.ntmps20
  go_wp2
  go_ret2
  exact ⟨rfl, below_alloc (below_alloc (Below.refl _ _) _) _⟩
set_option maxHeartbeats 1000000 in
theorem Diff_some (w : World) (n : Nat) (S S' : Nat → Nat → Int) (A A' : Nat → Nat → Nat) (hn : 0 < n) (hn9 : n ≤ 900) (T : Tr w n S A (ht n)) (T' : Tr w n S' A' (ht n)) :
    Calls Try.prog 20 #[treeV n (topP n A), treeV n (topP n A')] w fun e w' => ∃ B d, e = .returned (.tuple #[.slice B (dfl n S S' (ht n) 0 0).length d, .int .i64 0]) ∧ Kd.R (Kd.int .i64) 3 w' w.heap.size (fun _ => True) (.slice B (dfl n S S' (ht n) 0 0).length d) (dfl n S S' (ht n) 0 0) ∧ Below w.heap.size w w' := by
  rw [topP_pos A hn, topP_pos A' hn]
  have d1 : ((n : Int) == 0) = false := by rw [beq_eq_false_iff_ne]; omega
  have HT := Aside0.mk T
  have HT' := Aside0.mk T'
  have h5 := ht_5 hn9
  have hp := pow4 h5
  clear T T'
  unfold treeV
  go_enter Try.func20, Try.ntmps20
  go_wp2_with fail
  have hw := Aside0.mk (below_alloc (below_alloc (Below.refl w.heap.size w) (.cells #[.int .i64 n, .int .i64 (ht n), .pointer (some ⟨A (ht n) 0, 0, none⟩)] 29)) (.cells #[.int .i64 n, .int .i64 (ht n), .pointer (some ⟨A' (ht n) 0, 0, none⟩)] 29))
  have hc : (4 : Int) ^ ht n = ((4 ^ ht n : Nat) : Int) := by norm_cast
  refine (diff_any w n S S' A A' (ht n) h5 HT.out HT'.out (ht n) (Nat.le_refl _) 0 (sz_pos hn _) _ (.slice none 0 0) [] 0 hw.out (Kd.R_nil _ _ _ _ _) (by simp; omega) (by omega) (by rw [hc]; omega)).mono ?_
  rintro e w1 ⟨v, rfl, hv, hb⟩
  rw [List.nil_append] at hv
  obtain ⟨B, d, rfl⟩ := Kd.R_slice hv
  have HV := Aside0.mk hv
  have HB := Aside0.mk hb
  clear hv hb
  go_wp2
  go_ret2
  exact ⟨B, d, rfl, HV.out, HB.out⟩
theorem refdiff_any (w : World) (A B : Option Addr) (c d : Nat) (a b : List Int) (ha : Rd w A c a) (hb : Rd w B d b) (h1 : a.length < 900) (h2 : b.length < 900) :
    Calls Try.prog 21 #[.slice A a.length c, .slice B b.length d] w fun e w' => ∃ C f, e = .returned (.tuple #[.slice C (if a.length = b.length then diffV a b else []).length f, .int .i64 (if a.length = b.length then 0 else 1)]) ∧
      Kd.R (Kd.int .i64) 3 w' w.heap.size (fun _ => True) (.slice C (if a.length = b.length then diffV a b else []).length f) (if a.length = b.length then diffV a b else []) ∧ Below w.heap.size w w' := by
  obtain ⟨k, hk⟩ := (ref_diff_ev a b h1 h2).rounds
  have e : (if a.length = b.length then (diffV a b, (0 : Int)) else ([], 1)) = ((if a.length = b.length then diffV a b else []), (if a.length = b.length then 0 else 1)) := by split <;> rfl
  rw [e] at hk
  refine (tegularef26_Diff.calls k A c a B d b _ _ w ha.1 ha.2 hb.1 hb.2 hk).mono ?_
  rintro e w' ⟨v, rfl, hv, hbw⟩
  obtain ⟨C, f, rfl⟩ := Kd.R_slice hv
  exact ⟨C, f, rfl, hv, hbw⟩
set_option maxHeartbeats 1000000 in
theorem difflaw_long (w : World) (A0 A1 : Option Addr) (c0 c1 : Nat) (a b : List Int) (h : 100 < a.length ∨ 100 < b.length) : Calls Try.prog 7 #[.slice A0 a.length c0, .slice A1 b.length c1] w fun e w' => e = .returned (.bool true) ∧ Below w.heap.size w w' := by
  by_cases h1 : 100 < a.length
  · have d1 : decide ((100 : Int) < (a.length : Int)) = true := decide_eq_true (by omega)
    have d2 : decide (100 < a.length) = true := decide_eq_true h1
    clear h
    go_enter Try.func7, Try.ntmps7
    go_wp2_with fail
    refine (awake_any _).mono ?_
    rintro e w1 ⟨rfl, hb⟩
    have HB1 := Aside0.mk hb
    clear hb
    go_wp2_with fail
    refine (awake_any _).mono ?_
    rintro e w2 ⟨rfl, hb⟩
    have HB2 := Aside0.mk (below_join hb HB1.out)
    clear hb
    go_wp2
    go_ret
    exact ⟨rfl, HB2.out⟩
  · have d1 : decide ((100 : Int) < (a.length : Int)) = false := decide_eq_false (by omega)
    have d2 : decide (100 < a.length) = false := decide_eq_false h1
    have h2 : 100 < b.length := by omega
    have d3 : decide ((100 : Int) < (b.length : Int)) = true := decide_eq_true (by omega)
    have d4 : decide (100 < b.length) = true := decide_eq_true h2
    clear h
    go_enter Try.func7, Try.ntmps7
    go_wp2_with fail
    refine (awake_any _).mono ?_
    rintro e w1 ⟨rfl, hb⟩
    have HB1 := Aside0.mk hb
    clear hb
    go_wp2_with fail
    refine (awake_any _).mono ?_
    rintro e w2 ⟨rfl, hb⟩
    have HB2 := Aside0.mk (below_join hb HB1.out)
    clear hb
    go_wp2
    go_ret
    exact ⟨rfl, HB2.out⟩
set_option maxHeartbeats 2000000 in
theorem difflaw_short (w : World) (A0 A1 : Option Addr) (c0 c1 : Nat) (a b : List Int) (ha : Rd w A0 c0 a) (hb0 : Rd w A1 c1 b) (h1 : a.length ≤ 100) (h2 : b.length ≤ 100) : Calls Try.prog 7 #[.slice A0 a.length c0, .slice A1 b.length c1] w fun e w' => e = .returned (.bool true) ∧ Below w.heap.size w w' := by
  have d1 : decide ((100 : Int) < (a.length : Int)) = false := decide_eq_false (by omega)
  have d2 : decide (100 < a.length) = false := decide_eq_false (by omega)
  have d3 : decide ((100 : Int) < (b.length : Int)) = false := decide_eq_false (by omega)
  have d4 : decide (100 < b.length) = false := decide_eq_false (by omega)
  have HA := Aside0.mk ha
  have HB0 := Aside0.mk hb0
  have H1 := Aside0.mk h1
  have H2 := Aside0.mk h2
  clear ha hb0 h1 h2
  go_enter Try.func7, Try.ntmps7
  go_wp2_with fail
  refine (awake_any _).mono ?_
  rintro e w1 ⟨rfl, hb⟩
  have HB1 := Aside0.mk hb
  have HA1 := Aside0.mk (HA.out.below hb)
  have HC1 := Aside0.mk (HB0.out.below hb)
  clear hb HA HB0
  go_wp2_with fail
  refine (build_any _ a A0 c0 (by have := H1.out; omega) HA1.out.2 HA1.out.1).mono ?_
  rintro e w2 ⟨A, rfl, hT, hb⟩
  have HB2 := Aside0.mk (below_join hb HB1.out)
  have HA2 := Aside0.mk (HA1.out.below hb)
  have HC2 := Aside0.mk (HC1.out.below hb)
  have HT2 := Aside0.mk hT
  clear hb hT HA1 HC1
  go_wp2_with fail
  refine (build_any _ b A1 c1 (by have := H2.out; omega) HC2.out.2 HC2.out.1).mono ?_
  rintro e w3 ⟨A', rfl, hT, hb⟩
  have HB3 := Aside0.mk (below_join hb HB2.out)
  have HA3 := Aside0.mk (HA2.out.below hb)
  have HC3 := Aside0.mk (HC2.out.below hb)
  have HT3 := Aside0.mk (HT2.out.keep (Keeps.below hb))
  have HT3' := Aside0.mk hT
  clear hb hT HA2 HC2 HT2
  have HD : Hid (Calls Try.prog 20 #[treeV a.length (topP a.length A), treeV b.length (topP b.length A')] w3 fun e w' => ∃ B d, e = .returned (.tuple #[.slice B (if a.length = b.length then diffV a b else []).length d, .int .i64 (if a.length = b.length then 0 else 1)]) ∧
      Kd.R (Kd.int .i64) 3 w' w3.heap.size (fun _ => True) (.slice B (if a.length = b.length then diffV a b else []).length d) (if a.length = b.length then diffV a b else []) ∧ Below w3.heap.size w3 w') := Lib.hid (by
    by_cases hab : a.length = b.length
    · rw [if_pos hab, if_pos hab]
      by_cases h0 : a.length = 0
      · have hz : diffV a b = [] := by unfold diffV; rw [h0]; rfl
        rw [hz, ← hab, h0]
        refine (Diff_zero w3 _ _).mono ?_
        rintro e w' ⟨rfl, hb⟩
        exact ⟨none, 0, rfl, Kd.R_nil _ _ _ _ _, hb⟩
      · have hT' := HT3'.out
        rw [← hab] at hT' ⊢
        have := Diff_some w3 a.length (SL a) (SL b) A A' (by omega) (by have := H1.out; omega) HT3.out hT'
        rw [dfl_top a b (by omega)] at this
        exact this
    · rw [if_neg hab, if_neg hab]
      refine (Diff_ne w3 _ _ _ _ hab).mono ?_
      rintro e w' ⟨rfl, hb⟩
      exact ⟨none, 0, rfl, Kd.R_nil _ _ _ _ _, hb⟩)
  obtain ⟨l, hl⟩ : ∃ l, (if a.length = b.length then diffV a b else []) = l := ⟨_, rfl⟩
  obtain ⟨er, her⟩ : ∃ er : Int, (if a.length = b.length then (0 : Int) else 1) = er := ⟨_, rfl⟩
  have HF := Aside0.mk (fun (W : World) (x : Rd W A0 c0 a) (y : Rd W A1 c1 b) => refdiff_any W A0 A1 c0 c1 a b x y (by have := H1.out; omega) (by have := H2.out; omega))
  have hl9 : l.length ≤ 100 := by
    rw [← hl]
    split
    · unfold diffV
      have := List.length_filter_le (dif (SL a) (SL b) (ht a.length)) (List.range a.length)
      simp at this ⊢
      have := H1.out
      omega
    · simp
  rw [hl, her] at HD HF
  clear hl her
  go_wp2_with fail
  refine HD.out.mono ?_
  rintro e w4 ⟨B, d, rfl, hv, hb⟩
  have HB4 := Aside0.mk (below_join hb HB3.out)
  have HA4 := Aside0.mk (HA3.out.below hb)
  have HC4 := Aside0.mk (HC3.out.below hb)
  have HV4 := Aside0.mk (Kd.R_reads' hv)
  clear hb hv HA3 HC3 HD HT3 HT3'
  go_wp2_with fail
  refine (HF.out w4 HA4.out HC4.out).mono ?_
  rintro e w5 ⟨B', d', rfl, hv, hb⟩
  have HB5 := Aside0.mk (below_join hb HB4.out)
  have HV5 := Aside0.mk (Kd.C_below HV4.out.2.2 hb)
  have HV5' := Aside0.mk (Kd.R_reads' hv)
  clear hb hv HA4 HC4 HF HV4
  go_wp2_with fail
  go_loopw [9] (fun i wr => ∃ j : Nat, j ≤ l.length ∧ i = .int .i64 j ∧ Aside0 (Below w5.heap.size w5 wr)) (fun i _ => l.length - (intOf i).toNat)
  case atStart => exact ⟨0, by omega, rfl, ⟨Below.refl _ _⟩⟩
  case round =>
    obtain ⟨j, hj, rfl, HBr⟩ := hrel
    by_cases hlt : j < l.length
    · have hltI : (j : Int) < (l.length : Int) := by omega
      have hj0 : (0 : Int) ≤ (j : Int) := by omega
      obtain ⟨ad, rfl, hc⟩ := Kd.at_int (Kd.C_below HV5.out HBr.out) (j : Int) (by omega) hltI
      obtain ⟨ad', rfl, hc'⟩ := Kd.at_int (Kd.C_below HV5'.out.2.2 HBr.out) (j : Int) (by omega) hltI
      rw [Int.toNat_natCast] at hc hc'
      obtain ⟨x, hx⟩ : ∃ x, rd l (j : Int) = x := ⟨_, rfl⟩
      rw [hx] at hc hc'
      clear hx
      go_wp2_with fail
      go_quiet (fail)
      go_wp2
      go_roundw
      case rel => exact ⟨j + 1, by omega, by go_num, ⟨pw_below_drewN HBr.out _⟩⟩
      case measure => simp [intOf]; omega
    · have hge : ¬ (j : Int) < (l.length : Int) := by omega
      go_wp2
      go_ret
      exact ⟨rfl, below_join HBr.out HB5.out⟩
theorem SumtreeDiff_row (a0 : Option Addr) (len0 cap0 : Nat) (z0 : List Int) (a1 : Option Addr) (len1 cap1 : Nat) (z1 : List Int) (w : World) (w0 : IsRow .u64 w a0 len0 cap0 z0) (_y0 : len0 * 8 ≤ 140737488351232) (w1 : IsRow .u64 w a1 len1 cap1 z1) (_y1 : len1 * 8 ≤ 140737488351232) :
    Calls Try.prog 7 #[.slice a0 len0 cap0, .slice a1 len1 cap1] w fun e w' => e = .returned (.bool true) ∧ Below w.heap.size w w' := by
  obtain ⟨a, rfl, ha⟩ := w0.rd
  obtain ⟨b, rfl, hb⟩ := w1.rd
  by_cases h : 100 < a.length ∨ 100 < b.length
  · exact difflaw_long w a0 a1 cap0 cap1 a b h
  · exact difflaw_short w a0 a1 cap0 cap1 a b ha hb (by omega) (by omega)
end Go.Proofs.Ytpofcknfnipkgaa.ST
