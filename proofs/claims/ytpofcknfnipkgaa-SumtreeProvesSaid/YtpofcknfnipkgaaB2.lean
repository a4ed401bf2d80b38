/- The walk of the law SumtreeProves. -/
import Derived.Test.YtpofcknfnipkgaaB1
namespace Go.Proofs.Ytpofcknfnipkgaa.ST
open Go.RowKit Go.Proofs.YtpofcknfnipkgaaW.PrintWords Go.Proofs.YtpofcknfnipkgaaW.PrintLast Go.Proofs.YtpofcknfnipkgaaW.PrintMore Go.Proofs.Ytpofcknfnipkgaa.PS
set_option linter.unusedVariables false
set_option linter.unusedSimpArgs false

set_option maxHeartbeats 1000000 in
theorem proves_out (w : World) (A0 : Option Addr) (c0 : Nat) (l : List Int) (i o : Int) (h : 100 < l.length ∨ i < 0 ∨ (l.length : Int) ≤ i) : Calls Try.prog 5 #[.slice A0 l.length c0, .int .i64 i, .int .u64 o] w fun e w' => e = .returned (.bool true) ∧ Below w.heap.size w w' := by
  by_cases h1 : 100 < l.length
  · have d1 : decide ((100 : Int) < (l.length : Int)) = true := decide_eq_true (by omega)
    have d2 : decide (100 < l.length) = true := decide_eq_true h1
    clear h
    go_enter Try.func5, Try.ntmps5
    go_wp2_with fail
    refine (awake_any _).mono ?_
    rintro e w1 ⟨rfl, hb⟩
    have HB1 := Aside0.mk hb
    clear hb
    go_wp2_with fail
    refine (awake_any _).mono ?_
    rintro e w2 ⟨rfl, hb⟩
    have HB2 := Aside0.mk (below_join hb HB1.out)
    clear hb
    go_wp2
    go_ret
    exact ⟨rfl, HB2.out⟩
  · have d1 : decide ((100 : Int) < (l.length : Int)) = false := decide_eq_false (by omega)
    have d2 : decide (100 < l.length) = false := decide_eq_false h1
    by_cases h2 : i < 0
    · have d3 : decide (i < 0) = true := decide_eq_true h2
      clear h
      go_enter Try.func5, Try.ntmps5
      go_wp2_with fail
      refine (awake_any _).mono ?_
      rintro e w1 ⟨rfl, hb⟩
      have HB1 := Aside0.mk hb
      clear hb
      go_wp2_with fail
      refine (awake_any _).mono ?_
      rintro e w2 ⟨rfl, hb⟩
      have HB2 := Aside0.mk (below_join hb HB1.out)
      clear hb
      go_wp2
      go_ret
      exact ⟨rfl, HB2.out⟩
    · have d3 : decide (i < 0) = false := decide_eq_false h2
      have h3 : (l.length : Int) ≤ i := by omega
      have d4 : decide ((l.length : Int) ≤ i) = true := decide_eq_true h3
      clear h
      go_enter Try.func5, Try.ntmps5
      go_wp2_with fail
      refine (awake_any _).mono ?_
      rintro e w1 ⟨rfl, hb⟩
      have HB1 := Aside0.mk hb
      clear hb
      go_wp2_with fail
      refine (awake_any _).mono ?_
      rintro e w2 ⟨rfl, hb⟩
      have HB2 := Aside0.mk (below_join hb HB1.out)
      clear hb
      go_wp2
      go_ret
      exact ⟨rfl, HB2.out⟩
theorem pathV_length (l : List Int) (i : Nat) (hl : l.length ≤ 900) : (pathV l i).length < 1000000 := by
  have h1 := pth_length l i (ht l.length) 0
  have h2 := ht_le l.length
  unfold pathV
  omega
set_option maxHeartbeats 2000000 in
theorem proves_in (w : World) (A0 : Option Addr) (c0 : Nat) (l : List Int) (i : Nat) (o : Int) (h : Rd w A0 c0 l) (hl : l.length ≤ 100) (hi : i < l.length) : Calls Try.prog 5 #[.slice A0 l.length c0, .int .i64 i, .int .u64 o] w fun e w' => e = .returned (.bool true) ∧ Below w.heap.size w w' := by
  have d1 : decide ((100 : Int) < (l.length : Int)) = false := decide_eq_false (by omega)
  have d2 : decide (100 < l.length) = false := decide_eq_false (by omega)
  have d3 : decide ((i : Int) < 0) = false := decide_eq_false (by omega)
  have d4 : decide ((l.length : Int) ≤ (i : Int)) = false := decide_eq_false (by omega)
  have d5 : decide (l.length ≤ i) = false := decide_eq_false (by omega)
  have hx0 : (0 : Int) ≤ (i : Int) := by omega
  have hx1 : (i : Int) < (l.length : Int) := by omega
  have HR := Aside0.mk h
  have HL := Aside0.mk hl
  clear h hl
  go_enter Try.func5, Try.ntmps5
  go_wp2_with fail
  refine (awake_any _).mono ?_
  rintro e w1 ⟨rfl, hb⟩
  have HB1 := Aside0.mk hb
  have HR1 := Aside0.mk (HR.out.below hb)
  clear hb HR
  go_wp2_with fail
  refine (build_any _ l A0 c0 (by have := HL.out; omega) HR1.out.2 HR1.out.1).mono ?_
  rintro e w2 ⟨A, rfl, hT, hb⟩
  have HB2 := Aside0.mk (below_join hb HB1.out)
  have HR2 := Aside0.mk (HR1.out.below hb)
  have HT2 := Aside0.mk hT
  clear hb HR1 hT
  rw [topP_pos A (by omega)]
  unfold treeV
  go_wp2_with fail
  have hW := Aside0.mk (below_alloc (Below.refl w2.heap.size w2) (.cells #[.int .i64 l.length, .int .i64 (ht l.length), .pointer (some ⟨A (ht l.length) 0, 0, none⟩)] 29))
  have hG := Aside0.mk (heap_alloc_new w2 (.cells #[.int .i64 l.length, .int .i64 (ht l.length), .pointer (some ⟨A (ht l.length) 0, 0, none⟩)] 29))
  have hW2 := Aside0.mk (below_join hW.out HB2.out)
  generalize w2.alloc (.cells #[.int .i64 l.length, .int .i64 (ht l.length), .pointer (some ⟨A (ht l.length) 0, 0, none⟩)] 29) = wb at hW hG hW2 ⊢
  have HT3 := Aside0.mk (HT2.out.keep (Keeps.below hW.out))
  have HR3 := Aside0.mk (HR2.out.below hW.out)
  clear HT2 HR2 hW HB2 HB1
  refine (path_yes _ l i A HT3.out hi (by have := HL.out; omega)).mono ?_
  rintro e w3 ⟨v, rfl, hv, hb⟩
  obtain ⟨Ap, cp, rfl⟩ := Kd.R_slice hv
  have HP4 := Aside0.mk (Rd.of_R hv)
  have HT4 := Aside0.mk (HT3.out.keep (Keeps.below hb))
  have HR4 := Aside0.mk (HR3.out.below hb)
  have HG4 := Aside0.mk ((hb.block _ (blk_lt hG.out)).trans hG.out)
  have HB4 := Aside0.mk (below_join hb hW2.out)
  clear hb hv HT3 HR3 hG hW2
  obtain ⟨c0', c1', c2'⟩ := cells3 HG4.out
  have htop : topP l.length A = .pointer (some ⟨A (ht l.length) 0, 0, none⟩) := topP_pos A (by omega)
  have Hroot := Lib.hid (root_any w3 l A HT4.out)
  rw [htop] at Hroot
  clear htop
  go_wp2_with fail
  refine Hroot.out.mono ?_
  rintro e w4 ⟨rfl, hb⟩
  have HP5 := Aside0.mk (HP4.out.below hb)
  have HR5 := Aside0.mk (HR4.out.below hb)
  have HB5 := Aside0.mk (below_join hb HB4.out)
  clear hb HP4 HR4 HB4 HT4 HG4 c0' c1' c2' Hroot
  obtain ⟨ad, rfl, hcell⟩ := HR5.out.cell i hi
  obtain ⟨x, hx⟩ : ∃ x, l.getD i 0 = x := ⟨_, rfl⟩
  rw [hx] at hcell
  have Hx := Lib.hid hx
  clear hx
  have hplen := pathV_length l i (by have := HL.out; omega)
  have Hplen := Aside0.mk hplen
  clear hplen
  go_wp2_with fail
  refine (check_any _ (rootV l) l.length i x Ap cp (pathV l i) HP5.out Hplen.out).mono ?_
  have hc : checkV (rootV l) l.length i x (pathV l i) = true := by rw [← Hx.out, check_path l i hi (by have := HL.out; omega)]; simp
  rw [hc]
  clear hc
  rintro e w5 ⟨rfl, hb⟩
  have HP6 := Aside0.mk (HP5.out.below hb)
  have HR6 := Aside0.mk (HR5.out.below hb)
  have HB6 := Aside0.mk (below_join hb HB5.out)
  clear hb HP5 HR5 HB5 hcell
  go_wp2_with fail
  refine (check_any _ (rootV l) l.length i o Ap cp (pathV l i) HP6.out Hplen.out).mono ?_
  obtain ⟨b, hbv⟩ : ∃ b, checkV (rootV l) l.length i o (pathV l i) = b := ⟨_, rfl⟩
  rw [hbv]
  have Hbv := Lib.hid hbv
  clear hbv
  rintro e w6 ⟨rfl, hb⟩
  have HP7 := Aside0.mk (HP6.out.below hb)
  have HR7 := Aside0.mk (HR6.out.below hb)
  have HB7 := Aside0.mk (below_join hb HB6.out)
  clear hb HP6 HR6 HB6
  go_wp2_with fail
  refine (rcheck_any _ (rootV l) l.length i o Ap cp (pathV l i) HP7.out Hplen.out).mono ?_
  rw [Hbv.out]
  rintro e w7 ⟨rfl, hb⟩
  have HP8 := Aside0.mk (HP7.out.below hb)
  have HR8 := Aside0.mk (HR7.out.below hb)
  have HB8 := Aside0.mk (below_join hb HB7.out)
  clear hb HP7 HR7 HB7
  have hcell : w7.cell? (ad.add i) = some (.int .u64 x) := by
    obtain ⟨ad2, e2, h2⟩ := HR8.out.cell i hi
    obtain rfl := Option.some.inj e2
    rw [Hx.out] at h2
    exact h2
  go_wp2_with fail
  refine (check_any _ o l.length i x Ap cp (pathV l i) HP8.out Hplen.out).mono ?_
  have hc : checkV o l.length i x (pathV l i) = (o == rootV l) := by rw [← Hx.out, check_path l i hi (by have := HL.out; omega)]
  rw [hc]
  clear hc
  rintro e w8 ⟨rfl, hb⟩
  have HB9 := Aside0.mk (below_join hb HB8.out)
  clear hb
  go_wp2
  go_ret
  exact ⟨by simp, HB9.out⟩
theorem proves_walk (w : World) (A0 : Option Addr) (c0 : Nat) (l : List Int) (i o : Int) (h : Rd w A0 c0 l) : Calls Try.prog 5 #[.slice A0 l.length c0, .int .i64 i, .int .u64 o] w fun e w' => e = .returned (.bool true) ∧ Below w.heap.size w w' := by
  by_cases h1 : 100 < l.length ∨ i < 0 ∨ (l.length : Int) ≤ i
  · exact proves_out w A0 c0 l i o h1
  · obtain ⟨m, rfl⟩ := Int.eq_ofNat_of_zero_le (show 0 ≤ i by omega)
    exact proves_in w A0 c0 l m o h (by omega) (by omega)
theorem SumtreeProves_row (a0 : Option Addr) (len0 cap0 : Nat) (z0 : List Int) (a1 a2 : Int) (w : World) (w0 : IsRow .u64 w a0 len0 cap0 z0) (_y0 : len0 * 8 ≤ 140737488351232) (_w1 : (Lit.int .i64 a1).wf = true) (_w2 : (Lit.int .u64 a2).wf = true) :
    Calls Try.prog 5 #[.slice a0 len0 cap0, .int .i64 a1, .int .u64 a2] w fun e w' => e = .returned (.bool true) ∧ Below w.heap.size w w' := by
  obtain ⟨l, rfl, h⟩ := w0.rd
  exact proves_walk w a0 cap0 l a1 a2 h
end Go.Proofs.Ytpofcknfnipkgaa.ST
