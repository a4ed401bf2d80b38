/- The walk of the law SumtreeSet. -/
import Derived.Test.YtpofcknfnipkgaaD2
namespace Go.Proofs.Ytpofcknfnipkgaa.ST
open Go.RowKit Go.Proofs.YtpofcknfnipkgaaW.PrintWords Go.Proofs.YtpofcknfnipkgaaW.PrintLast Go.Proofs.YtpofcknfnipkgaaW.PrintMore Go.Proofs.Ytpofcknfnipkgaa.PS
set_option linter.unusedVariables false
set_option linter.unusedSimpArgs false

theorem setlaw_long (w : World) (A0 : Option Addr) (c0 : Nat) (l : List Int) (i s : Int) (hl : 100 < l.length) : Calls Try.prog 8 #[.slice A0 l.length c0, .int .i64 i, .int .u64 s] w fun e w' => e = .returned (.bool true) ∧ Below w.heap.size w w' := by
  have d1 : decide ((100 : Int) < (l.length : Int)) = true := decide_eq_true (by omega)
  have d2 : decide (100 < l.length) = true := decide_eq_true hl
  go_enter Try.func8, Try.ntmps8
  go_wp2_with fail
  refine (awake_any _).mono ?_
  rintro e w1 ⟨rfl, hb⟩
  have HB1 := Aside0.mk hb
  clear hb
  go_wp2_with fail
  refine (awake_any _).mono ?_
  rintro e w2 ⟨rfl, hb⟩
  have HB2 := Aside0.mk (below_join hb HB1.out)
  clear hb
  go_wp2
  go_ret
  exact ⟨rfl, HB2.out⟩
set_option maxHeartbeats 2000000 in
theorem setlaw_out (w : World) (A0 : Option Addr) (c0 : Nat) (l : List Int) (i s : Int) (h : Rd w A0 c0 l) (hl : l.length ≤ 100) (hi : ¬ (0 ≤ i ∧ i < l.length)) : Calls Try.prog 8 #[.slice A0 l.length c0, .int .i64 i, .int .u64 s] w fun e w' => e = .returned (.bool true) ∧ Below w.heap.size w w' := by
  have d1 : decide ((100 : Int) < (l.length : Int)) = false := decide_eq_false (by omega)
  have d2 : decide (100 < l.length) = false := decide_eq_false (by omega)
  have HR := Aside0.mk h
  have HL := Aside0.mk hl
  have HI := Lib.hid hi
  have HI2 := Aside0.mk (show i < 0 ∨ ¬ i < 0 ∧ (l.length : Int) ≤ i by omega)
  clear h hl hi
  go_enter Try.func8, Try.ntmps8
  go_wp2_with fail
  refine (awake_any _).mono ?_
  rintro e w1 ⟨rfl, hb⟩
  have HB1 := Aside0.mk hb
  have HR1 := Aside0.mk (HR.out.below hb)
  clear hb HR
  go_wp2_with fail
  refine (build_any _ l A0 c0 (by have := HL.out; omega) HR1.out.2 HR1.out.1).mono ?_
  rintro e w2 ⟨A, rfl, hT, hb⟩
  have HB2 := Aside0.mk (below_join hb HB1.out)
  have HR2 := Aside0.mk (HR1.out.below hb)
  have HT2 := Aside0.mk hT
  clear hb HR1 hT
  obtain ⟨pa, hpa⟩ : ∃ pa, topP l.length A = .pointer pa := by unfold topP; split <;> exact ⟨_, rfl⟩
  rw [hpa]
  have Hpa := Lib.hid hpa
  clear hpa
  unfold treeV
  go_wp2_with fail
  have hW := Aside0.mk (below_alloc (Below.refl w2.heap.size w2) (.cells #[.int .i64 l.length, .int .i64 (ht l.length), .pointer pa] 29))
  have hG := Aside0.mk (heap_alloc_new w2 (.cells #[.int .i64 l.length, .int .i64 (ht l.length), .pointer pa] 29))
  have hW2 := Aside0.mk (below_join hW.out HB2.out)
  generalize w2.alloc (.cells #[.int .i64 l.length, .int .i64 (ht l.length), .pointer pa] 29) = wb at hW hG hW2 ⊢
  have HT3 := Aside0.mk (HT2.out.keep (Keeps.below hW.out))
  have HR3 := Aside0.mk (HR2.out.below hW.out)
  clear HT2 HR2 hW HB2 HB1
  refine (Set_no _ l.length (.pointer pa) i s HI.out).mono ?_
  rintro e w3 ⟨rfl, hb⟩
  have HB4 := Aside0.mk (below_join hb hW2.out)
  have HT4 := Aside0.mk (HT3.out.keep (Keeps.below hb))
  have HR4 := Aside0.mk (HR3.out.below hb)
  have HG4 := Aside0.mk ((hb.block _ (blk_lt hG.out)).trans hG.out)
  clear hb HT3 HR3 hG hW2
  have hW := Aside0.mk (below_alloc (Below.refl w3.heap.size w3) (.cells #[.int .i64 0, .int .i64 0, .pointer none] 29))
  have hG := Aside0.mk (heap_alloc_new w3 (.cells #[.int .i64 0, .int .i64 0, .pointer none] 29))
  have hsz3 := blk_lt HG4.out
  rcases HI2.out with hi0 | ⟨hi0, hi1⟩
  · have d3 : decide (i < 0) = true := decide_eq_true hi0
    go_wp2_with fail
    generalize w3.alloc (.cells #[.int .i64 0, .int .i64 0, .pointer none] 29) = wc at hW hG ⊢
    refine (same_nil _).mono ?_
    rintro e w4 ⟨rfl, hb⟩
    have hb' := below_join hb hW.out
    have HB5 := Aside0.mk (below_join hb' HB4.out)
    have HT5 := Aside0.mk (HT4.out.keep (Keeps.below hb'))
    have HR5 := Aside0.mk (HR4.out.below hb')
    obtain ⟨c0', c1', c2'⟩ := cells3 ((hb'.block _ (blk_lt HG4.out)).trans HG4.out)
    have Hs := Lib.hid (same_any w4 A0 c0 l A HT5.out HR5.out HL.out)
    rw [Hpa.out] at Hs
    clear hb hb'
    go_wp2_with fail
    refine Hs.out.mono ?_
    rintro e w5 ⟨rfl, hb⟩
    have HB6 := Aside0.mk (below_join hb HB5.out)
    clear hb
    go_wp2
    go_ret
    exact ⟨rfl, HB6.out⟩
  · have d3 : decide (i < 0) = false := decide_eq_false (by omega)
    have d4 : decide ((l.length : Int) ≤ i) = true := decide_eq_true hi1
    go_wp2_with fail
    generalize w3.alloc (.cells #[.int .i64 0, .int .i64 0, .pointer none] 29) = wc at hW hG ⊢
    refine (same_nil _).mono ?_
    rintro e w4 ⟨rfl, hb⟩
    have hb' := below_join hb hW.out
    have HB5 := Aside0.mk (below_join hb' HB4.out)
    have HT5 := Aside0.mk (HT4.out.keep (Keeps.below hb'))
    have HR5 := Aside0.mk (HR4.out.below hb')
    obtain ⟨c0', c1', c2'⟩ := cells3 ((hb'.block _ (blk_lt HG4.out)).trans HG4.out)
    have Hs := Lib.hid (same_any w4 A0 c0 l A HT5.out HR5.out HL.out)
    rw [Hpa.out] at Hs
    clear hb hb'
    go_wp2_with fail
    refine Hs.out.mono ?_
    rintro e w5 ⟨rfl, hb⟩
    have HB6 := Aside0.mk (below_join hb HB5.out)
    clear hb
    go_wp2
    go_ret
    exact ⟨rfl, HB6.out⟩
theorem set_row {w : World} {base g n cap i : Nat} {xs : List Int} (h : Kd.R (Kd.int .u64) 34 w base (fun _ => True) (.slice (some ⟨g, 0, none⟩) n cap) xs) (hl : n = xs.length) (s : Int) : Kd.R (Kd.int .u64) 34 (w.setCell ⟨g, i, none⟩ (.int .u64 s)) base (fun _ => True) (.slice (some ⟨g, 0, none⟩) n cap) (xs.set i s) := by
  subst hl
  have hp := (Kd.R_put h (i : Int) s).1
  rwa [Int.toNat_natCast] at hp
set_option maxHeartbeats 2000000 in
theorem setlaw_in (w : World) (A0 : Option Addr) (c0 : Nat) (l : List Int) (i : Nat) (s : Int) (h : Rd w A0 c0 l) (hl : l.length ≤ 100) (hi : i < l.length) : Calls Try.prog 8 #[.slice A0 l.length c0, .int .i64 i, .int .u64 s] w fun e w' => e = .returned (.bool true) ∧ Below w.heap.size w w' := by
  have d1 : decide ((100 : Int) < (l.length : Int)) = false := decide_eq_false (by omega)
  have d2 : decide (100 < l.length) = false := decide_eq_false (by omega)
  have d3 : decide ((i : Int) < 0) = false := decide_eq_false (by omega)
  have d4 : decide ((l.length : Int) ≤ (i : Int)) = false := decide_eq_false (by omega)
  have d5 : decide (l.length ≤ i) = false := decide_eq_false (by omega)
  have hx0 : (0 : Int) ≤ (i : Int) := by omega
  have hx1 : (i : Int) < (l.length : Int) := by omega
  have HR := Aside0.mk h
  have HL := Aside0.mk hl
  clear h hl
  go_enter Try.func8, Try.ntmps8
  go_wp2_with fail
  refine (awake_any _).mono ?_
  rintro e w1 ⟨rfl, hb⟩
  have HB1 := Aside0.mk hb
  have HR1 := Aside0.mk (HR.out.below hb)
  clear hb HR
  go_wp2_with fail
  refine (build_any _ l A0 c0 (by have := HL.out; omega) HR1.out.2 HR1.out.1).mono ?_
  rintro e w2 ⟨A, rfl, hT, hb⟩
  have HB2 := Aside0.mk (below_join hb HB1.out)
  have HR2 := Aside0.mk (HR1.out.below hb)
  have HT2 := Aside0.mk hT
  clear hb HR1 hT
  obtain ⟨pa, hpa⟩ : ∃ pa, topP l.length A = .pointer pa := by unfold topP; split <;> exact ⟨_, rfl⟩
  rw [hpa]
  have Hpa := Lib.hid hpa
  clear hpa
  unfold treeV
  go_wp2_with fail
  have hW := Aside0.mk (below_alloc (Below.refl w2.heap.size w2) (.cells #[.int .i64 l.length, .int .i64 (ht l.length), .pointer pa] 29))
  have hG := Aside0.mk (heap_alloc_new w2 (.cells #[.int .i64 l.length, .int .i64 (ht l.length), .pointer pa] 29))
  have hW2 := Aside0.mk (below_join hW.out HB2.out)
  generalize w2.alloc (.cells #[.int .i64 l.length, .int .i64 (ht l.length), .pointer pa] 29) = wb at hW hG hW2 ⊢
  have HT3 := Aside0.mk (HT2.out.keep (Keeps.below hW.out))
  have HR3 := Aside0.mk (HR2.out.below hW.out)
  clear HT2 HR2 hW HB2 HB1
  have hset := Set_yes wb l i s A HT3.out hi (by have := HL.out; omega)
  rw [Hpa.out] at hset
  refine hset.mono ?_
  clear hset
  rintro e w3 ⟨P, rfl, hT, _, hb⟩
  have HB4 := Aside0.mk (below_join hb hW2.out)
  have HT4 := Aside0.mk (HT3.out.keep (Keeps.below hb))
  have HT4' := Aside0.mk hT
  have HR4 := Aside0.mk (HR3.out.below hb)
  have HG4 := Aside0.mk ((hb.block _ (blk_lt hG.out)).trans hG.out)
  clear hb HT3 HR3 hG hW2 hT
  obtain ⟨pb, hpb⟩ : ∃ pb, topP l.length (patch A P i) = .pointer pb := by unfold topP; split <;> exact ⟨_, rfl⟩
  rw [hpb]
  have Hpb := Lib.hid hpb
  clear hpb
  unfold treeV
  have hW := Aside0.mk (below_alloc (Below.refl w3.heap.size w3) (.cells #[.int .i64 l.length, .int .i64 (ht l.length), .pointer pb] 29))
  have hG := Aside0.mk (heap_alloc_new w3 (.cells #[.int .i64 l.length, .int .i64 (ht l.length), .pointer pb] 29))
  have hsz3 := blk_lt HG4.out
  obtain ⟨wc, hwc⟩ : ∃ wc, wc = w3.alloc (.cells #[.int .i64 l.length, .int .i64 (ht l.length), .pointer pb] 29) := ⟨_, rfl⟩
  rw [← hwc] at hW hG
  have HWC := Lib.hid hwc
  clear hwc
  have HT5 := Aside0.mk (HT4.out.keep (Keeps.below hW.out))
  have HT5' := Aside0.mk (HT4'.out.keep (Keeps.below hW.out))
  have HR5 := Aside0.mk (HR4.out.below hW.out)
  have HG5 := Aside0.mk ((hW.out.block _ (blk_lt HG4.out)).trans HG4.out)
  have HB5 := Aside0.mk (below_join hW.out HB4.out)
  go_wp2_with (first | ((with_reducible refine gate_dst (N := 47) rfl ?_); rw [← HWC.out]; refine Kd.R_lit (Kd.int .u64) _ 34 ?hg (N := 47) ?hd (xs := ([] : List Int)) (inner := []) (ok := fun _ => True) (okp := fun _ => True) ?hr ?hp (fun _ hk => hk) trivial (Below.refl _ _) (Nat.le_refl _) (by simp) ?_; (case hd => rfl); (case hg => rfl); (case hr => first | (go_simp; done) | (go_simp; rfl)); (case hp => exact (Reps.none _ _)); intro v4 w4 ho hb _ _; have HO4 := Aside0.mk ho; have HB6 := Aside0.mk hb; clear ho hb) | ((with_reducible refine gate_builtin (b := .append) (xs := #[.tmp 47, .tmp 48]) rfl ?_); at_builtin; refine Kd.R_append_rows (Kd.int .u64) (w0 := wc) wc.heap.size rfl (.tmp 47) (.tmp 48) 22 34 (.int .u64 0) 8 rfl Try.underlying22 info34 rfl (by decide) (by omega) v4 [] l _ _ _ (fun _ => True) (fun _ => False) rfl rfl ?aO ?aR (fun _ _ h => h) (fun _ h => h.elim) (fun _ _ => trivial) ?aB ?aS ?aL ?_; (case aR => exact (HR5.out.below HB6.out).1); (case aB => exact HB6.out); (case aO => exact HO4.out); (case aS => exact below_size HB6.out); (case aL => have := HL.out; simp; omega); intro v5 w5 ho hb _ _; rw [List.nil_append] at ho; obtain ⟨g, cap, hv, hg1, hg2, _⟩ := Kd.R_form ho (by omega); subst hv; have hfg := (Kd.R_celln (0 : Int) ho (i : Int) hx0 hx1); rw [Int.toNat_natCast] at hfg; obtain ⟨hcg, hfg⟩ := hfg; obtain ⟨y, hy⟩ : ∃ y, rdOf (0 : Int) l (i : Int) = y := ⟨_, rfl⟩; rw [hy] at hcg; clear hy; have HO5 := Aside0.mk ho; have HB7 := Aside0.mk hb; have Hg1 := Aside0.mk hg1; have hG7 := (hb.block _ (blk_lt hG.out)).trans hG.out; have HG7 := Aside0.mk hG7; have HG7' := Aside0.mk ((hb.block _ (blk_lt HG5.out)).trans HG5.out); obtain ⟨b0, b1, b2⟩ := cells3 hG7; have hne1 : ¬ (w3.heap.size = g) := (by have := blk_lt hG.out; omega); have hne2 : ¬ (g = w3.heap.size) := (fun e => hne1 e.symm); clear HO4 HB6 ho hb hg1 hg2 hG7) | (fail))
  have hR8 := Aside0.mk (set_row (i := i) HO5.out rfl s)
  have HT8 := Aside0.mk ((HT5.out.keep (Keeps.below HB7.out)).keep (Keeps.setR HO5.out i (.int .u64 s)))
  have HT8' := Aside0.mk ((HT5'.out.keep (Keeps.below HB7.out)).keep (Keeps.setR HO5.out i (.int .u64 s)))
  have HG8 := Aside0.mk (blk_setR HO5.out HG7'.out i (.int .u64 s))
  have HB8' := Aside0.mk (HB7.out.setCell (p := ⟨g, i, none⟩) Hg1.out (.int .u64 s))
  have HR8 := Aside0.mk (HR5.out.below HB8'.out)
  have HB8 := Aside0.mk (below_join HB8'.out HB5.out)
  clear b0 b1 b2 hcg hfg
  generalize w5.setCell ⟨g, i, none⟩ (.int .u64 s) = w6 at hR8 HT8 HT8' HG8 HB8' HR8 HB8 ⊢
  have hll : (l.set i s).length = l.length := List.length_set
  have hs1 := same_any w6 (some ⟨g, 0, none⟩) cap (l.set i s) (patch A P i) (by rw [hll]; exact HT8'.out) (Rd.of_R hR8.out) (by rw [hll]; exact HL.out)
  rw [hll, Hpb.out] at hs1
  refine hs1.mono ?_
  clear hs1
  rintro e w7 ⟨rfl, hb⟩
  have HB9 := Aside0.mk (below_join hb HB8.out)
  have HT9 := Aside0.mk (HT8.out.keep (Keeps.below hb))
  have HR9 := Aside0.mk (HR8.out.below hb)
  obtain ⟨c0', c1', c2'⟩ := cells3 ((hb.block _ (blk_lt HG8.out)).trans HG8.out)
  have Hs := Lib.hid (same_any w7 A0 c0 l A HT9.out HR9.out HL.out)
  rw [Hpa.out] at Hs
  clear hb
  go_wp2_with fail
  refine Hs.out.mono ?_
  rintro e w8 ⟨rfl, hb⟩
  have HB10 := Aside0.mk (below_join hb HB9.out)
  clear hb
  go_wp2
  go_ret
  exact ⟨rfl, HB10.out⟩
theorem SumtreeSet_row (a0 : Option Addr) (len0 cap0 : Nat) (z0 : List Int) (a1 a2 : Int) (w : World) (w0 : IsRow .u64 w a0 len0 cap0 z0) (_y0 : len0 * 8 ≤ 140737488351232) (_w1 : (Lit.int .i64 a1).wf = true) (_w2 : (Lit.int .u64 a2).wf = true) :
    Calls Try.prog 8 #[.slice a0 len0 cap0, .int .i64 a1, .int .u64 a2] w fun e w' => e = .returned (.bool true) ∧ Below w.heap.size w w' := by
  obtain ⟨l, rfl, h⟩ := w0.rd
  rcases Nat.lt_or_ge 100 l.length with hl | hl
  · exact setlaw_long w a0 cap0 l a1 a2 hl
  · by_cases hi : 0 ≤ a1 ∧ a1 < l.length
    · obtain ⟨m, rfl⟩ := Int.eq_ofNat_of_zero_le hi.1
      exact setlaw_in w a0 cap0 l m a2 h hl (by omega)
    · exact setlaw_out w a0 cap0 l a1 a2 h hl hi
end Go.Proofs.Ytpofcknfnipkgaa.ST
