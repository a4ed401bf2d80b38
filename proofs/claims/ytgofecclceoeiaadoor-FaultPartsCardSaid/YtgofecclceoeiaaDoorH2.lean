/- The law FaultParts. -/
import Derived.Test.YtgofecclceoeiaaDoorH1
namespace Go.Proofs.YtgofecclceoeiaaDoor.ST
open Go.RowKit Go.Proofs.YtgofecclceoeiaaDoorW.PrintWords Go.Proofs.YtgofecclceoeiaaDoorW.PrintLast Go.Proofs.YtgofecclceoeiaaDoorW.PrintMore Go.Proofs.YtgofecclceoeiaaDoor.PF
set_option linter.unusedVariables false
set_option linter.unusedSimpArgs false
theorem okAll_above : ∀ {last : Int} {l : List S32}, okAll last l = true → ∀ y ∈ l, last < y.f0
  | last, [], _, y, hy => by cases hy
  | last, x :: r, h, y, hy => by
    rw [okAll_cons, Bool.and_eq_true] at h
    have h1 := ((good1_iff _ _).1 h.1).1
    rcases List.mem_cons.1 hy with rfl | hy
    · exact h1
    · have := okAll_above h.2 y hy
      omega
theorem winL_cons (a b : Int) (x : S32) (r : List S32) : winL a b (x :: r) = if a ≤ x.f0 ∧ x.f0 < b then x :: winL a b r else winL a b r := by
  unfold winL
  rw [List.filter_cons]
  by_cases h1 : a ≤ x.f0 <;> by_cases h2 : x.f0 < b <;> simp [h1, h2]
theorem winL_none {a b : Int} : ∀ {l : List S32}, (∀ y ∈ l, b ≤ y.f0) → winL a b l = []
  | [], _ => rfl
  | x :: r, h => by
    rw [winL_cons, if_neg (fun e => by have := h x (List.mem_cons_self ..); omega)]
    exact winL_none fun y hy => h y (List.mem_cons_of_mem _ hy)
theorem winL_all {a b : Int} : ∀ {l : List S32}, (∀ y ∈ l, a ≤ y.f0 ∧ y.f0 < b) → winL a b l = l
  | [], _ => rfl
  | x :: r, h => by
    rw [winL_cons, if_pos (h x (List.mem_cons_self ..)), winL_all fun y hy => h y (List.mem_cons_of_mem _ hy)]
theorem parts_cat (a : Int) : ∀ {l : List S32} {last : Int}, -1 ≤ last → okAll last l = true → (∀ y ∈ l, y.f0 < 9223372036854775807) → winL 0 a l ++ winL a 9223372036854775807 l = l
  | [], _, _, _, _ => rfl
  | x :: r, last, h0, h, hm => by
    rw [okAll_cons, Bool.and_eq_true] at h
    have h1 := ((good1_iff _ _).1 h.1).1
    have hx := hm x (List.mem_cons_self ..)
    have ih := parts_cat a (show -1 ≤ x.f0 by omega) h.2 (fun y hy => hm y (List.mem_cons_of_mem _ hy))
    rw [winL_cons, winL_cons]
    by_cases ha : x.f0 < a
    · rw [if_pos ⟨by omega, ha⟩, if_neg (fun e => by omega), List.cons_append, ih]
    · have hr := okAll_above h.2
      rw [if_neg (fun e => ha e.2), if_pos ⟨by omega, hx⟩, winL_none (fun y hy => by have := hr y hy; omega), winL_all (fun y hy => ⟨by have := hr y hy; omega, hm y (List.mem_cons_of_mem _ hy)⟩)]
      rfl
theorem parts_at (a : Int) : ∀ {l : List S32} {last : Int}, okAll last l = true → (atL a l).2.2.2 = decide ((winL a (a + 1) l).length = 1)
  | [], _, _ => rfl
  | x :: r, last, h => by
    rw [okAll_cons, Bool.and_eq_true] at h
    rw [winL_cons]
    simp only [atL]
    by_cases ha : x.f0 = a
    · have hr := okAll_above h.2
      rw [if_pos ha, if_pos ⟨by omega, by omega⟩, winL_none (fun y hy => by have := hr y hy; omega)]
      rfl
    · rw [if_neg ha, if_neg (fun e => by omega)]
      exact parts_at a h.2
theorem emp_F (W : World) (base : Nat) (h : base ≤ W.heap.size) : Kd.R k32 32 (W.alloc (.cells #[] 32)) base (fun _ => True) (.slice (some ⟨W.heap.size, 0, none⟩) 0 0) [] :=
  ⟨fun _ _ => trivial, [], ⟨rfl, Or.inr ⟨W.heap.size, 0, #[], rfl, h, heap_alloc_new W _, Nat.le_refl _, Nat.zero_le _, rfl, rfl⟩⟩, Reps.none _ _⟩
theorem okAll_last {last : Int} : ∀ {l : List S32} (n : Nat) (hn : l.length = n + 1), okAll last l = true → ∀ y ∈ l, y.f0 ≤ (l[n]'(by omega)).f0
  | [], n, hn, _, y, hy => by cases hy
  | x :: r, n, hn, h, y, hy => by
    rw [okAll_cons, Bool.and_eq_true] at h
    cases n with
    | zero =>
      have : r = [] := List.length_eq_zero_iff.1 (by simpa using hn)
      subst this
      rcases List.mem_cons.1 hy with rfl | hy
      · exact Int.le_refl _
      · cases hy
    | succ n =>
      have hr : r.length = n + 1 := by simpa using hn
      rcases List.mem_cons.1 hy with rfl | hy
      · have := okAll_above h.2 (r[n]'(by omega)) (List.getElem_mem _)
        simp only [List.getElem_cons_succ]
        omega
      · simpa using okAll_last n hr h.2 y hy
set_option maxHeartbeats 4000000 in
set_option maxRecDepth 100000 in
theorem FaultParts_law (w : World) (A0 : Option Addr) (c0 : Nat) (l : List S32) (a : Int) (hr0 : Kd.C k32 w A0 l.length l) (hc0 : l.length ≤ c0) (hL : Ld w) (hn : l.length ≤ 5864062014634) (hw : ∀ x ∈ l, x.f0 ≤ 9223372036854775807 ∧ x.f2 ≤ 9223372036854775807) (ha : (Lit.int .i64 a).wf = true) :
    Calls Tryd.prog 8 #[.slice A0 l.length c0, .int .i64 a] w fun e w' => e = .returned (.bool true) ∧ Below w.heap.size w w' := by
  have hu32 := Tryd.underlying32
  have ha' : -9223372036854775808 ≤ a ∧ a ≤ 9223372036854775807 := by simpa [Lit.wf, IntKind.min, IntKind.max, IntKind.signed, IntKind.bits] using ha
  have HA := Aside0.mk ha'
  have HN := Aside0.mk hn
  have HW := Aside0.mk hw
  have HR := Aside0.mk hr0
  have HC := Aside0.mk hc0
  obtain ⟨v, hv⟩ : ∃ v, okAll (-1) l = v := ⟨_, rfl⟩
  obtain ⟨b1, hb1⟩ : ∃ b, decide (a < 0) = b := ⟨_, rfl⟩
  obtain ⟨b2, hb2⟩ : ∃ b, (a == 9223372036854775807) = b := ⟨_, rfl⟩
  have HV := Lib.hid hv
  have HRV := Aside0.mk (show tegularef13_Valid.f (l.length + 1) l = some v by rw [rvalid_f l (by omega), hv])
  clear hn hw hr0 hc0 hv ha ha'
  have early : (v && !b1 && !b2) = false → Calls Tryd.prog 8 #[.slice A0 l.length c0, .int .i64 a] w fun e w' => e = .returned (.bool true) ∧ Below w.heap.size w w' := by
    intro hz
    cases v <;> cases b1 <;> cases b2 <;> first | (exact absurd hz (by decide)) | skip
    all_goals
      clear hz
      go_enter Tryd.func8, Tryd.ntmps8
      go_wp2_with fail
      refine (awake_any w hL).mono ?_
      rintro e w1 ⟨rfl, hb⟩
      have HB := Aside0.mk hb
      clear hb
      go_wp2_with fail
      refine (tegularef13_Valid.calls (l.length + 1) A0 c0 l _ w1 (Kd.C_below HR.out HB.out) HC.out HRV.out).mono ?_
      rintro e w2 ⟨rfl, hb⟩
      replace HB := Aside0.mk (below_step HB.out hb)
      clear hb
      go_wp2_with fail
      refine (awake_any w2 (hL.below HB.out)).mono ?_
      rintro e w3 ⟨rfl, hb⟩
      replace HB := Aside0.mk (below_step HB.out hb)
      clear hb
      go_wp2
      go_ret
      exact ⟨rfl, HB.out⟩
  by_cases hz : (v && !b1 && !b2) = false
  · exact early hz
  clear early
  obtain ⟨rfl, rfl, rfl⟩ : v = true ∧ b1 = false ∧ b2 = false := by cases v <;> cases b1 <;> cases b2 <;> simp at hz ⊢
  clear hz
  have ha0 : 0 ≤ a := by have := of_decide_eq_false hb1; omega
  have ham : a ≠ 9223372036854775807 := by simpa using hb2
  have H0 := Aside0.mk (And.intro ha0 ham)
  clear ha0 ham
  go_enter Tryd.func8, Tryd.ntmps8
  go_wp2_with fail
  refine (awake_any w hL).mono ?_
  rintro e w1 ⟨rfl, hb⟩
  have HB := Aside0.mk hb
  clear hb
  go_wp2_with fail
  refine (tegularef13_Valid.calls (l.length + 1) A0 c0 l _ w1 (Kd.C_below HR.out HB.out) HC.out HRV.out).mono ?_
  rintro e w2 ⟨rfl, hb⟩
  replace HB := Aside0.mk (below_step HB.out hb)
  clear hb
  go_wp2_with fail
  refine (fault_Within.calls (l.length + 1) A0 c0 l 0 a (winL 0 a l) w2 (Kd.C_below HR.out HB.out) HC.out (win_f l 0 a HN.out)).mono ?_
  rintro e w3 ⟨v1, rfl, hR1, hb⟩
  have R1 := Aside0.mk hR1
  replace HB := Aside0.mk (below_step HB.out hb)
  clear hb hR1
  go_wp2_with fail
  refine (fault_Within.calls (l.length + 1) A0 c0 l a 9223372036854775807 (winL a 9223372036854775807 l) w3 (Kd.C_below HR.out HB.out) HC.out (win_f l a 9223372036854775807 HN.out)).mono ?_
  rintro e w4 ⟨v2, rfl, hR2, hb⟩
  have R2 := Aside0.mk hR2
  replace R1 := Aside0.mk (Kd.R_below R1.out hb)
  replace HB := Aside0.mk (below_step HB.out hb)
  clear hb hR2
  rcases Nat.eq_zero_or_pos l.length with hl0 | hl0
  · have hl : l = [] := List.length_eq_zero_iff.1 hl0
    have d1 : decide ((0 : Int) < (l.length : Int)) = false := decide_eq_false (by omega)
    have d2 : decide (0 < l.length) = false := decide_eq_false (by omega)
    have HX := Aside0.mk (fun (y : S32) (hy : y ∈ l) => (show y.f0 < 9223372036854775807 by rw [hl] at hy; cases hy))
    clear hl hl0
    go_wp2_with fail
    obtain ⟨r1, r2, r3, r4, hat⟩ : ∃ r1 r2 r3 r4, atL a l = (r1, r2, r3, r4) := ⟨_, _, _, _, rfl⟩
    have HAT := Aside0.mk (show fault_At.f (l.length + 1) l a = some (r1, r2, r3, r4) by rw [at_f l a (by have := HN.out; omega), hat])
    have hr4 : r4 = decide ((winL a (a + 1) l).length = 1) := by rw [← parts_at a HV.out, hat]
    have hcat := parts_cat a (show (-1 : Int) ≤ -1 from Int.le_refl _) HV.out HX.out
    have HCAT := Lib.hid hcat
    have ha1 : wrap64 (a + 1) = a + 1 := by have := H0.out; have := HA.out; unfold wrap64; omega
    have HA1 := Aside0.mk (show fault_Within.f (l.length + 1) l a (wrap64 (a + 1)) = some (winL a (a + 1) l) by rw [ha1, win_f l a (a + 1) HN.out])
    have HX3 := Aside0.mk (show (winL 0 a l).length + (winL a 9223372036854775807 l).length = l.length by rw [← List.length_append, hcat])
    have hq1 : (((winL a (a + 1) l).length : Int) == 1) = r4 := by
      rw [hr4]
      by_cases h : (winL a (a + 1) l).length = 1
      · rw [h]; rfl
      · rw [decide_eq_false h, beq_eq_false_iff_ne]; omega
    have hq2 : ((winL a (a + 1) l).length == 1) = r4 := by
      rw [hr4]
      by_cases h : (winL a (a + 1) l).length = 1 <;> simp [h]
    clear hat hr4 hcat ha1
    refine (fault_At.calls (l.length + 1) A0 c0 l a r1 r2 r3 r4 w4 (Kd.C_below HR.out HB.out) HC.out HAT.out).mono ?_
    rintro e w5 ⟨rfl, hb⟩
    replace R1 := Aside0.mk (Kd.R_below R1.out hb)
    replace R2 := Aside0.mk (Kd.R_below R2.out hb)
    replace HB := Aside0.mk (below_step HB.out hb)
    clear hb
    obtain ⟨P1, d1, rfl, hle1, hC1⟩ := Kd.R_reads R1.out
    obtain ⟨P2, d2, rfl, hle2, hC2⟩ := Kd.R_reads R2.out
    have HC1 := Aside0.mk hC1
    have HC2 := Aside0.mk hC2
    clear hC1 hC2 hle1 hle2 R1 R2
    go_wp2_with (first
      | ((with_reducible refine gate_builtin (b := .append) (xs := #[.tmp 50, .tmp 51]) rfl ?_); at_builtin; refine Kd.R_append_rows k32 (w0 := w5.alloc (.cells #[.int .i64 r1, .int .i64 r2, .int .i64 r3] 32)) (w5.alloc (.cells #[.int .i64 r1, .int .i64 r2, .int .i64 r3] 32)).heap.size rfl (.tmp 50) (.tmp 51) 22 32 (.agg #[(.int .i64 0), (.int .i64 0), (.int .i64 0)]) 24 rfl Tryd.underlying22 info32 rfl (by decide) (by omega) (.slice (some ⟨(w5.alloc (.cells #[.int .i64 r1, .int .i64 r2, .int .i64 r3] 32)).heap.size, 0, none⟩) 0 0) [] (winL 0 a l) P1 (winL 0 a l).length d1 (fun _ => True) (fun _ => False) (by first | (go_simp; done) | (go_simp; rfl)) (by first | (go_simp; done) | (go_simp; rfl)) (emp_F _ _ (Nat.le_refl _)) (Kd.C_alloc (Kd.C_alloc HC1.out _) _) (fun x cs hx => by rw [k32_open hx]; exact k32_mkM _ _ _ _) (fun _ h => h.elim) (fun _ _ => trivial) (below_alloc (Below.refl _ _) _) (by simp) (by have := HX3.out; have := HN.out; simp only [List.length_nil]; omega) ?_; intro v3 w6 ho hb hg hat; have HO3 := Aside0.mk ho; have HB6 := Aside0.mk hb; clear ho hb hg hat)
      | ((with_reducible refine gate_builtin (b := .append) (xs := #[.tmp 52, .tmp 53]) rfl ?_); at_builtin; refine Kd.R_append_rows k32 (w0 := w5.alloc (.cells #[.int .i64 r1, .int .i64 r2, .int .i64 r3] 32)) (w5.alloc (.cells #[.int .i64 r1, .int .i64 r2, .int .i64 r3] 32)).heap.size rfl (.tmp 52) (.tmp 53) 22 32 (.agg #[(.int .i64 0), (.int .i64 0), (.int .i64 0)]) 24 rfl Tryd.underlying22 info32 rfl (by decide) (by omega) v3 ([] ++ winL 0 a l) (winL a 9223372036854775807 l) P2 (winL a 9223372036854775807 l).length d2 (fun _ => True) (fun _ => False) (by first | (go_simp; done) | (go_simp; rfl) | rfl) (by first | (go_simp; done) | (go_simp; rfl) | rfl) HO3.out (Kd.C_below (Kd.C_alloc HC2.out _) HB6.out) (fun x cs hx => by rw [k32_open hx]; exact k32_mkM _ _ _ _) (fun _ h => h.elim) (fun _ _ => trivial) HB6.out (below_size HB6.out) (by have := HX3.out; have := HN.out; simp only [List.nil_append]; omega) ?_; intro v4 w7 ho hb hg hat; rw [List.nil_append, HCAT.out] at ho; obtain ⟨P4, d4, rfl, hle4, hC4⟩ := Kd.R_reads ho; have HC4 := Aside0.mk hC4; have HE4 := Aside0.mk hle4; have HB7 := Aside0.mk (below_step (below_alloc HB.out _) hb); clear ho hb hg hat hle4 hC4)
      | (go_at_call 15; refine (tegularef13_Same.calls (l.length + 1) P4 d4 l A0 c0 l true _ HC4.out HE4.out (Kd.C_below HR.out HB7.out) HC.out (same_f l (by have := HN.out; omega))).mono ?_; rintro e w8 ⟨rfl, hd⟩; replace HB7 := Aside0.mk (below_step HB7.out hd.below); clear hd)
      | (go_at_call 19; refine (fault_Within.calls (l.length + 1) A0 c0 l a (wrap64 (a + 1)) (winL a (a + 1) l) _ (Kd.C_below HR.out HB7.out) HC.out HA1.out).mono ?_; rintro e w9 ⟨v5, rfl, hR5, hb⟩; obtain ⟨P5, d5, rfl, _, _⟩ := Kd.R_reads hR5; replace HB7 := Aside0.mk (below_step HB7.out hb); clear hR5 hb))
    go_ret
    exact ⟨by first | rfl | simp, HB7.out⟩
  · obtain ⟨n, hn1⟩ : ∃ n, l.length = n + 1 := ⟨l.length - 1, by omega⟩
    have hlt : n < l.length := by omega
    obtain ⟨ad, e115, hx0, hx1, hx2⟩ := at_T32 HR.out (n : Int) (by omega) (by omega)
    cases e115
    rw [rd_at l n hlt] at hx0
    rw [Int.toNat_natCast] at hx0
    have hx0' := (HB.out.cell (World.block_lt_of_cell? w _ hx0)).trans hx0
    clear hx0 hx1 hx2
    have hym := (HW.out _ (List.getElem_mem hlt)).1
    have hall := okAll_last n hn1 HV.out
    generalize l[n].f0 = y at hx0' hym hall
    have HYM := Aside0.mk hym
    have HALL := Aside0.mk hall
    have d1 : decide ((0 : Int) < (l.length : Int)) = true := decide_eq_true (by omega)
    have d2 : decide (0 < l.length) = true := decide_eq_true (by omega)
    have e1 : (l.length : Int) - 1 = (n : Int) := by omega
    have e2 : wrap64 (n : Int) = (n : Int) := by unfold wrap64; have := HN.out; omega
    have p1 : (0 ≤ (n : Int)) = True := eq_true (by omega)
    have p2 : ((n : Int) < (l.length : Int)) = True := eq_true (by omega)
    obtain ⟨b, hb⟩ : ∃ b, (y == 9223372036854775807) = b := ⟨_, rfl⟩
    clear hym hall hn1 hlt hl0
    cases b
    · have HX := Aside0.mk (fun (z : S32) (hz : z ∈ l) => (show z.f0 < 9223372036854775807 by have := HALL.out z hz; have := HYM.out; have : y ≠ 9223372036854775807 := by simpa using hb
                                                                                              omega))
      go_wp2_with fail
      obtain ⟨r1, r2, r3, r4, hat⟩ : ∃ r1 r2 r3 r4, atL a l = (r1, r2, r3, r4) := ⟨_, _, _, _, rfl⟩
      have HAT := Aside0.mk (show fault_At.f (l.length + 1) l a = some (r1, r2, r3, r4) by rw [at_f l a (by have := HN.out; omega), hat])
      have hr4 : r4 = decide ((winL a (a + 1) l).length = 1) := by rw [← parts_at a HV.out, hat]
      have hcat := parts_cat a (show (-1 : Int) ≤ -1 from Int.le_refl _) HV.out HX.out
      have HCAT := Lib.hid hcat
      have ha1 : wrap64 (a + 1) = a + 1 := by have := H0.out; have := HA.out; unfold wrap64; omega
      have HA1 := Aside0.mk (show fault_Within.f (l.length + 1) l a (wrap64 (a + 1)) = some (winL a (a + 1) l) by rw [ha1, win_f l a (a + 1) HN.out])
      have HX3 := Aside0.mk (show (winL 0 a l).length + (winL a 9223372036854775807 l).length = l.length by rw [← List.length_append, hcat])
      have hq1 : (((winL a (a + 1) l).length : Int) == 1) = r4 := by
        rw [hr4]
        by_cases h : (winL a (a + 1) l).length = 1
        · rw [h]; rfl
        · rw [decide_eq_false h, beq_eq_false_iff_ne]; omega
      have hq2 : ((winL a (a + 1) l).length == 1) = r4 := by
        rw [hr4]
        by_cases h : (winL a (a + 1) l).length = 1 <;> simp [h]
      clear hat hr4 hcat ha1
      refine (fault_At.calls (l.length + 1) (some ad) c0 l a r1 r2 r3 r4 w4 (Kd.C_below HR.out HB.out) HC.out HAT.out).mono ?_
      rintro e w5 ⟨rfl, hb⟩
      replace R1 := Aside0.mk (Kd.R_below R1.out hb)
      replace R2 := Aside0.mk (Kd.R_below R2.out hb)
      replace HB := Aside0.mk (below_step HB.out hb)
      clear hb
      obtain ⟨P1, d1, rfl, hle1, hC1⟩ := Kd.R_reads R1.out
      obtain ⟨P2, d2, rfl, hle2, hC2⟩ := Kd.R_reads R2.out
      have HC1 := Aside0.mk hC1
      have HC2 := Aside0.mk hC2
      clear hC1 hC2 hle1 hle2 R1 R2
      go_wp2_with (first
        | ((with_reducible refine gate_builtin (b := .append) (xs := #[.tmp 50, .tmp 51]) rfl ?_); at_builtin; refine Kd.R_append_rows k32 (w0 := w5.alloc (.cells #[.int .i64 r1, .int .i64 r2, .int .i64 r3] 32)) (w5.alloc (.cells #[.int .i64 r1, .int .i64 r2, .int .i64 r3] 32)).heap.size rfl (.tmp 50) (.tmp 51) 22 32 (.agg #[(.int .i64 0), (.int .i64 0), (.int .i64 0)]) 24 rfl Tryd.underlying22 info32 rfl (by decide) (by omega) (.slice (some ⟨(w5.alloc (.cells #[.int .i64 r1, .int .i64 r2, .int .i64 r3] 32)).heap.size, 0, none⟩) 0 0) [] (winL 0 a l) P1 (winL 0 a l).length d1 (fun _ => True) (fun _ => False) (by first | (go_simp; done) | (go_simp; rfl)) (by first | (go_simp; done) | (go_simp; rfl)) (emp_F _ _ (Nat.le_refl _)) (Kd.C_alloc (Kd.C_alloc HC1.out _) _) (fun x cs hx => by rw [k32_open hx]; exact k32_mkM _ _ _ _) (fun _ h => h.elim) (fun _ _ => trivial) (below_alloc (Below.refl _ _) _) (by simp) (by have := HX3.out; have := HN.out; simp only [List.length_nil]; omega) ?_; intro v3 w6 ho hb hg hat; have HO3 := Aside0.mk ho; have HB6 := Aside0.mk hb; clear ho hb hg hat)
        | ((with_reducible refine gate_builtin (b := .append) (xs := #[.tmp 52, .tmp 53]) rfl ?_); at_builtin; refine Kd.R_append_rows k32 (w0 := w5.alloc (.cells #[.int .i64 r1, .int .i64 r2, .int .i64 r3] 32)) (w5.alloc (.cells #[.int .i64 r1, .int .i64 r2, .int .i64 r3] 32)).heap.size rfl (.tmp 52) (.tmp 53) 22 32 (.agg #[(.int .i64 0), (.int .i64 0), (.int .i64 0)]) 24 rfl Tryd.underlying22 info32 rfl (by decide) (by omega) v3 ([] ++ winL 0 a l) (winL a 9223372036854775807 l) P2 (winL a 9223372036854775807 l).length d2 (fun _ => True) (fun _ => False) (by first | (go_simp; done) | (go_simp; rfl) | rfl) (by first | (go_simp; done) | (go_simp; rfl) | rfl) HO3.out (Kd.C_below (Kd.C_alloc HC2.out _) HB6.out) (fun x cs hx => by rw [k32_open hx]; exact k32_mkM _ _ _ _) (fun _ h => h.elim) (fun _ _ => trivial) HB6.out (below_size HB6.out) (by have := HX3.out; have := HN.out; simp only [List.nil_append]; omega) ?_; intro v4 w7 ho hb hg hat; rw [List.nil_append, HCAT.out] at ho; obtain ⟨P4, d4, rfl, hle4, hC4⟩ := Kd.R_reads ho; have HC4 := Aside0.mk hC4; have HE4 := Aside0.mk hle4; have HB7 := Aside0.mk (below_step (below_alloc HB.out _) hb); clear ho hb hg hat hle4 hC4)
        | (go_at_call 15; refine (tegularef13_Same.calls (l.length + 1) P4 d4 l (some ad) c0 l true _ HC4.out HE4.out (Kd.C_below HR.out HB7.out) HC.out (same_f l (by have := HN.out; omega))).mono ?_; rintro e w8 ⟨rfl, hd⟩; replace HB7 := Aside0.mk (below_step HB7.out hd.below); clear hd)
        | (go_at_call 19; refine (fault_Within.calls (l.length + 1) (some ad) c0 l a (wrap64 (a + 1)) (winL a (a + 1) l) _ (Kd.C_below HR.out HB7.out) HC.out HA1.out).mono ?_; rintro e w9 ⟨v5, rfl, hR5, hb⟩; obtain ⟨P5, d5, rfl, _, _⟩ := Kd.R_reads hR5; replace HB7 := Aside0.mk (below_step HB7.out hb); clear hR5 hb))
      go_ret
      exact ⟨by first | rfl | simp, HB7.out⟩
    · go_wp2
      go_ret
      exact ⟨rfl, HB.out⟩
end Go.Proofs.YtgofecclceoeiaaDoor.ST
