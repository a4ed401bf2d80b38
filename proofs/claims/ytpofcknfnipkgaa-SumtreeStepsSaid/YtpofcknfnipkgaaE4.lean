/- Same in a walk; the law SumtreeShares. -/
import Derived.Test.YtpofcknfnipkgaaE3
import Derived.Test.YtpofcknfnipkgaaD3
namespace Go.Proofs.Ytpofcknfnipkgaa.ST
open Go.RowKit Go.Proofs.YtpofcknfnipkgaaW.PrintWords Go.Proofs.YtpofcknfnipkgaaW.PrintLast Go.Proofs.YtpofcknfnipkgaaW.PrintMore Go.Proofs.Ytpofcknfnipkgaa.PS
set_option linter.unusedVariables false
set_option linter.unusedSimpArgs false

set_option maxHeartbeats 1000000 in
theorem Same_ne (w : World) (n n' : Nat) (p p' : Option Addr) (h : n ≠ n') : Calls Try.prog 24 #[.agg #[.int .i64 n, .int .i64 (ht n), .pointer p], .agg #[.int .i64 n', .int .i64 (ht n'), .pointer p']] w fun e w' => e = .returned (.int .i64 0) ∧ Below w.heap.size w w' := by
  have d1 : ((n : Int) != (n' : Int)) = true := by rw [bne_iff_ne]; omega
  have d2 : ((n : Int) == (n' : Int)) = false := by rw [beq_eq_false_iff_ne]; omega
  clear h
  go_enter Try.func24, Try.ntmps24
  go_wp2
  go_ret
  exact ⟨rfl, below_alloc (below_alloc (Below.refl _ _) _) _⟩
set_option maxHeartbeats 1000000 in
theorem Same_some (w : World) (n : Nat) (S S' : Nat → Nat → Int) (A A' : Nat → Nat → Nat) (hn : 0 < n) (hn9 : n ≤ 900) (T : Tr w n S A (ht n)) (T' : Tr w n S' A' (ht n)) :
    Calls Try.prog 24 #[treeV n (topP n A), treeV n (topP n A')] w fun e w' => e = .returned (.int .i64 (sm n A A' (ht n) 0)) ∧ Below w.heap.size w w' := by
  rw [topP_pos A hn, topP_pos A' hn]
  have d1 : ((n : Int) == 0) = false := by rw [beq_eq_false_iff_ne]; omega
  have h5 := ht_5 hn9
  have hw := Aside0.mk (below_alloc (below_alloc (Below.refl w.heap.size w) (.cells #[.int .i64 n, .int .i64 (ht n), .pointer (some ⟨A (ht n) 0, 0, none⟩)] 29)) (.cells #[.int .i64 n, .int .i64 (ht n), .pointer (some ⟨A' (ht n) 0, 0, none⟩)] 29))
  have HC := fun W (k : Below w.heap.size w W) => same39 W n S S' A A' (ht n) h5 (T.keep (Keeps.below k)) (T'.keep (Keeps.below k)) (ht n) (Nat.le_refl _) 0 (sz_pos hn _)
  obtain ⟨x, hx⟩ : ∃ x, sm n A A' (ht n) 0 = x := ⟨_, rfl⟩
  rw [hx] at HC ⊢
  have HC := Lib.hid HC
  clear T T' hx
  unfold treeV
  go_enter Try.func24, Try.ntmps24
  go_wp2_with fail
  refine (HC.out _ hw.out).mono ?_
  rintro e w1 ⟨rfl, rfl⟩
  go_wp2
  go_ret
  exact ⟨rfl, hw.out⟩
theorem refnodes_any (w : World) (n : Nat) (hn : n < 1000) : Calls Try.prog 23 #[.int .i64 n] w fun e w' => e = .returned (.tuple #[.int .i64 (allN n), .int .i64 (ht n)]) ∧ Below w.heap.size w w' := by
  obtain ⟨k, hk⟩ := (nodes_ev n hn).rounds
  refine (tegularef26_Nodes.calls k n _ _ w hk).mono ?_
  rintro e w' ⟨rfl, m, rfl⟩
  exact ⟨rfl, pw_below_drewN (Below.refl _ _) _⟩
set_option maxHeartbeats 1000000 in
theorem shares_long (w : World) (A0 : Option Addr) (c0 : Nat) (l : List Int) (i s : Int) (h : 100 < l.length ∨ i < 0 ∨ (l.length : Int) ≤ i) : Calls Try.prog 10 #[.slice A0 l.length c0, .int .i64 i, .int .u64 s] w fun e w' => e = .returned (.bool true) ∧ Below w.heap.size w w' := by
  have fin : ∀ (b1 b2 b3 : Bool), decide ((100 : Int) < (l.length : Int)) = b1 → decide (100 < l.length) = b1 → decide (i < 0) = b2 → decide ((l.length : Int) ≤ i) = b3 → (b1 || b2 || b3) = true → Calls Try.prog 10 #[.slice A0 l.length c0, .int .i64 i, .int .u64 s] w fun e w' => e = .returned (.bool true) ∧ Below w.heap.size w w' := by
    intro b1 b2 b3 d1 d2 d3 d4 hb
    cases b1 <;> cases b2 <;> cases b3 <;> first | (exact absurd hb (by decide)) | skip
    all_goals
      clear hb h
      go_enter Try.func10, Try.ntmps10
      go_wp2_with fail
      refine (awake_any _).mono ?_
      rintro e w1 ⟨rfl, hb⟩
      have HB1 := Aside0.mk hb
      clear hb
      go_wp2_with fail
      refine (awake_any _).mono ?_
      rintro e w2 ⟨rfl, hb⟩
      have HB2 := Aside0.mk (below_join hb HB1.out)
      clear hb
      go_wp2
      go_ret
      exact ⟨rfl, HB2.out⟩
  refine fin _ _ _ rfl ?_ rfl rfl ?_
  · simp; omega
  · rcases h with h | h | h
    · rw [decide_eq_true (show (100 : Int) < (l.length : Int) by omega)]; rfl
    · rw [decide_eq_true h]; simp
    · rw [decide_eq_true h]; simp
theorem below_join2 {w wx w1 : World} (h1 : Below wx.drew.heap.size wx.drew w1) (h : Below w.heap.size w wx) : Below w.heap.size w w1 := below_join h1 (below_drew1 h)
theorem emp_R (W : World) (base : Nat) (h : base ≤ W.heap.size) : Kd.R (Kd.int .u64) 34 (W.alloc (.cells #[] 34)) base (fun _ => True) (.slice (some ⟨W.heap.size, 0, none⟩) 0 0) [] :=
  Kd.R_of_own (own_lit W base 34 .u64 [] h (by decide)) (fun _ _ => trivial)
theorem emp_R1 (W : World) (o : Obj) (base : Nat) (h : base ≤ W.heap.size) : Kd.R (Kd.int .u64) 34 ((W.alloc o).alloc (.cells #[] 34)) base (fun _ => True) (.slice (some ⟨W.heap.size + 1, 0, none⟩) 0 0) [] := by
  have e : (W.alloc o).heap.size = W.heap.size + 1 := Array.size_push ..
  have k := emp_R (W.alloc o) base (by omega)
  rw [e] at k
  exact k
theorem Rd.one {w : World} {g : Nat} (h : w.cell? ⟨g, 0, none⟩ = some (.int .u64 1)) : Rd w (some ⟨g, 0, none⟩) 1 [1] := by
  refine ⟨⟨rfl, by decide, fun _ => ⟨_, rfl, fun j p hj => ?_⟩⟩, Nat.le_refl _⟩
  cases j with
  | zero =>
    injection hj with hj
    subst hj
    refine ⟨[.int .u64 1], rfl, rfl, fun i u hi => ?_⟩
    cases i with
    | zero => injection hi with hi; subst hi; exact h
    | succ i => cases hi
  | succ j => cases hj
theorem one_b {wn w1 : World} (hg : ((wn.alloc (.cells #[] 34)).alloc (.cells #[.int .u64 1] 34)).grownBy w1 (some wn.heap.size)) : Rd w1 (some ⟨wn.heap.size + 1, 0, none⟩) 1 [1] := by
  refine Rd.one (hg.cell ?_ (by simp))
  have h := (Rd.lit (wn.alloc (.cells #[] 34)) [1] (by decide)).cell 0 (by decide)
  obtain ⟨ad, e, h⟩ := h
  injection e with e
  subst e
  have e : (wn.alloc (.cells #[] 34)).heap.size = wn.heap.size + 1 := Array.size_push ..
  rw [e] at h
  exact h
theorem one_c {wn w1 : World} (hg : ((wn.alloc (.cells #[.int .u64 1] 34)).alloc (.cells #[] 34)).grownBy w1 (some (wn.heap.size + 1))) : Rd w1 (some ⟨wn.heap.size, 0, none⟩) 1 [1] := by
  refine Rd.one (hg.cell ?_ (by simp))
  obtain ⟨ad, e, h⟩ := ((Rd.lit wn [1] (by decide)).below (below_alloc (Below.refl _ _) (.cells #[] 34))).cell 0 (by decide)
  injection e with e
  subst e
  exact h
set_option maxHeartbeats 4000000 in
theorem shares_in (w : World) (A0 : Option Addr) (c0 : Nat) (l : List Int) (i : Nat) (s : Int) (h : Rd w A0 c0 l) (hl : l.length ≤ 100) (hi : i < l.length) : Calls Try.prog 10 #[.slice A0 l.length c0, .int .i64 i, .int .u64 s] w fun e w' => e = .returned (.bool true) ∧ Below w.heap.size w w' := by
  have d1 : decide ((100 : Int) < (l.length : Int)) = false := decide_eq_false (by omega)
  have d2 : decide (100 < l.length) = false := decide_eq_false (by omega)
  have d3 : decide ((i : Int) < 0) = false := decide_eq_false (by omega)
  have d4 : decide ((l.length : Int) ≤ (i : Int)) = false := decide_eq_false (by omega)
  have d5 : decide (l.length ≤ i) = false := decide_eq_false (by omega)
  have hx0 : (0 : Int) ≤ (i : Int) := by omega
  have hx1 : (i : Int) < (l.length : Int) := by omega
  have HR := Aside0.mk h
  have HL := Aside0.mk hl
  clear h hl
  go_enter Try.func10, Try.ntmps10
  go_wp2_with fail
  refine (awake_any _).mono ?_
  rintro e w1 ⟨rfl, hb⟩
  have HB1 := Aside0.mk hb
  have HR1 := Aside0.mk (HR.out.below hb)
  clear hb HR
  go_wp2_with fail
  refine (build_any _ l A0 c0 (by have := HL.out; omega) HR1.out.2 HR1.out.1).mono ?_
  rintro e w2 ⟨A, rfl, hT, hb⟩
  have HB2 := Aside0.mk (below_join hb HB1.out)
  have HR2 := Aside0.mk (HR1.out.below hb)
  have HT2 := Aside0.mk hT
  clear hb HR1 hT
  obtain ⟨pa, hpa⟩ : ∃ pa, topP l.length A = .pointer pa := by unfold topP; split <;> exact ⟨_, rfl⟩
  rw [hpa]
  have Hpa := Lib.hid hpa
  clear hpa
  unfold treeV
  go_wp2_with fail
  have hW := Aside0.mk (below_alloc (Below.refl w2.heap.size w2) (.cells #[.int .i64 l.length, .int .i64 (ht l.length), .pointer pa] 29))
  have hG := Aside0.mk (heap_alloc_new w2 (.cells #[.int .i64 l.length, .int .i64 (ht l.length), .pointer pa] 29))
  have hW2 := Aside0.mk (below_join hW.out HB2.out)
  generalize w2.alloc (.cells #[.int .i64 l.length, .int .i64 (ht l.length), .pointer pa] 29) = wb at hW hG hW2 ⊢
  have HT3 := Aside0.mk (HT2.out.keep (Keeps.below hW.out))
  have HR3 := Aside0.mk (HR2.out.below hW.out)
  clear HT2 HR2 hW HB2 HB1
  have hset := Set_yes wb l i s A HT3.out hi (by have := HL.out; omega)
  rw [Hpa.out] at hset
  refine hset.mono ?_
  clear hset
  rintro e w3 ⟨P, rfl, hT, hP, hb⟩
  have HP := Aside0.mk (fun (j : Nat) (hj : j ≤ ht l.length) => (show A j (i / 4 ^ j) ≠ P j from fun e => by
    obtain ⟨cs, hcs⟩ := node_block (HT3.out j hj (i / 4 ^ j) (sz_anc hi j))
    have := blk_lt hcs
    have := hP j hj
    omega))
  have HB4 := Aside0.mk (below_join hb hW2.out)
  have HT4 := Aside0.mk (HT3.out.keep (Keeps.below hb))
  have HT4' := Aside0.mk hT
  have HR4 := Aside0.mk (HR3.out.below hb)
  have HG4 := Aside0.mk ((hb.block _ (blk_lt hG.out)).trans hG.out)
  clear hb HT3 HR3 hG hW2 hT hP
  obtain ⟨pb, hpb⟩ : ∃ pb, topP l.length (patch A P i) = .pointer pb := by unfold topP; split <;> exact ⟨_, rfl⟩
  rw [hpb]
  have Hpb := Lib.hid hpb
  clear hpb
  unfold treeV
  go_wp2_with fail
  have hW := Aside0.mk (below_alloc (Below.refl w3.heap.size w3) (.cells #[.int .i64 l.length, .int .i64 (ht l.length), .pointer pb] 29))
  have hG := Aside0.mk (heap_alloc_new w3 (.cells #[.int .i64 l.length, .int .i64 (ht l.length), .pointer pb] 29))
  have hsz3 := blk_lt HG4.out
  generalize w3.alloc (.cells #[.int .i64 l.length, .int .i64 (ht l.length), .pointer pb] 29) = wc at hW hG ⊢
  have HT5 := Aside0.mk (HT4.out.keep (Keeps.below hW.out))
  have HT5' := Aside0.mk (HT4'.out.keep (Keeps.below hW.out))
  have HR5 := Aside0.mk (HR4.out.below hW.out)
  have HG5 := Aside0.mk ((hW.out.block _ (blk_lt HG4.out)).trans HG4.out)
  have HB5 := Aside0.mk (below_join hW.out HB4.out)
  clear HT4 HT4' HR4 HG4 HB4 hW
  refine (refnodes_any _ l.length (by have := HL.out; omega)).mono ?_
  rintro e w6 ⟨rfl, hb⟩
  have HT6 := Aside0.mk (HT5.out.keep (Keeps.below hb))
  have HT6' := Aside0.mk (HT5'.out.keep (Keeps.below hb))
  have HR6 := Aside0.mk (HR5.out.below hb)
  have HG6 := Aside0.mk ((hb.block _ (blk_lt HG5.out)).trans HG5.out)
  have HH6 := Aside0.mk ((hb.block _ (blk_lt hG.out)).trans hG.out)
  have HB6 := Aside0.mk (below_join hb HB5.out)
  clear hb HT5 HT5' HR5 HG5 HB5 hG
  have hall := cnt_all l.length (by omega)
  have hon := sm_on l.length A P i hi (ht l.length) HP.out
  have hz : i / 4 ^ ht l.length = 0 := Nat.lt_one_iff.1 (Nat.lt_of_lt_of_le (sz_anc hi (ht l.length)) (sz_ht l.length))
  rw [hz, hall] at hon
  have HS1 := Lib.hid (fun W (k : Below w6.heap.size w6 W) => Same_some W l.length (SL l) (SL l) A A (by omega) (by have := HL.out; omega) (HT6.out.keep (Keeps.below k)) (HT6.out.keep (Keeps.below k)))
  have HS2 := Lib.hid (fun W (k : Below w6.heap.size w6 W) => Same_some W l.length (SL l) (SL (l.set i s)) A (patch A P i) (by omega) (by have := HL.out; omega) (HT6.out.keep (Keeps.below k)) (HT6'.out.keep (Keeps.below k)))
  rw [sm_refl, hall, Hpa.out] at HS1
  rw [Hpa.out, Hpb.out] at HS2
  unfold treeV at HS1 HS2
  have hall9 := cnt_le l.length (ht l.length) 0
  rw [hall] at hall9
  have h5 := pow4 (ht_5 (n := l.length) (by have := HL.out; omega))
  obtain ⟨d, hd⟩ : ∃ d, sm l.length A (patch A P i) (ht l.length) 0 = d := ⟨_, rfl⟩
  rw [hd] at hon HS2
  obtain ⟨al, hal⟩ : ∃ al, allN l.length = al := ⟨_, rfl⟩
  rw [hal] at hon HS1 hall9 ⊢
  obtain ⟨hh, hhh⟩ : ∃ hh, ht l.length = hh := ⟨_, rfl⟩
  have q1 : IntKind.i64.wrap ((al : Int) - (ht l.length : Int)) = (d : Int) := by rw [IntWalk.i64_in _ ⟨by omega, by omega⟩]; omega
  clear hall hall9 h5 hd hal hon hhh hz HP HT6'
  obtain ⟨ad, e1, hcell⟩ := HR6.out.cell i hi
  subst e1
  obtain ⟨x, hx⟩ : ∃ x, l.getD i 0 = x := ⟨_, rfl⟩
  rw [hx] at hcell
  clear hx
  obtain ⟨u0, u1, u2⟩ := cells3 HG6.out
  obtain ⟨v0, v1, v2⟩ := cells3 HH6.out
  have hB := Below.refl w6.heap.size w6
  have HSS := Lib.hid (fun W (k : Below w6.heap.size w6 W) => (show W.cell? ⟨w2.heap.size, 0, none⟩ = some (.int .i64 l.length) ∧ W.cell? ⟨w2.heap.size, 1, none⟩ = some (.int .i64 (ht l.length)) ∧ W.cell? ⟨w2.heap.size, 2, none⟩ = some (.pointer pa) ∧
      W.cell? ⟨w3.heap.size, 0, none⟩ = some (.int .i64 l.length) ∧ W.cell? ⟨w3.heap.size, 1, none⟩ = some (.int .i64 (ht l.length)) ∧ W.cell? ⟨w3.heap.size, 2, none⟩ = some (.pointer pb) ∧ W.cell? (ad.add i) = some (.int .u64 x) from
    ⟨pw_cell_below k u0, pw_cell_below k u1, pw_cell_below k u2, pw_cell_below k v0, pw_cell_below k v1, pw_cell_below k v2, pw_cell_below k hcell⟩))
  obtain ⟨b, hsx⟩ : ∃ b, (s == x) = b := ⟨_, rfl⟩
  have hss : ∀ y : Int, (y == y) = true := fun y => beq_self_eq_true y
  cases b
  case true =>
    go_wp2_with fail
    refine wp_region_noPanic ?_
    refine wp_region_held_drew (S := (fun W => W.cell? ⟨w2.heap.size, 0, none⟩ = some (.int .i64 l.length) ∧ W.cell? ⟨w2.heap.size, 1, none⟩ = some (.int .i64 (ht l.length)) ∧ W.cell? ⟨w2.heap.size, 2, none⟩ = some (.pointer pa) ∧
      W.cell? ⟨w3.heap.size, 0, none⟩ = some (.int .i64 l.length) ∧ W.cell? ⟨w3.heap.size, 1, none⟩ = some (.int .i64 (ht l.length)) ∧ W.cell? ⟨w3.heap.size, 2, none⟩ = some (.pointer pb) ∧ W.cell? (ad.add i) = some (.int .u64 x))) (by kernel_rfl) (HSS.out _ (below_drew1 hB)) (fun hHeld => ?_)
    refine wpAnyH_take (i := 0) (oi := ?o1) (v := ?v1) ?hi1 (by kernel_rfl) (by kernel_rfl) (by kernel_rfl) (fun _ _ _ h => h) (Or.inl ⟨?hw1, ?hy1⟩) hHeld ?re1
    case hi1 => simp only [List.getElem?_toArray, List.getElem?_cons_succ, List.getElem?_cons_zero]; rfl
    case hw1 => rfl
    case hy1 =>
      intro W hSw
      try dsimp only at hSw
      go_split_ands
      first | (go_simp; done) | (go_simp; with_reducible rfl)
    try simp only [Act.put, List.setIfInBounds_toArray, List.set_cons_zero, List.set_cons_succ]
    refine wpAnyH_take (i := 1) (oi := ?o2) (v := ?v2) ?hi2 (by kernel_rfl) (by kernel_rfl) (by kernel_rfl) (fun _ _ _ h => h) (Or.inl ⟨?hw2, ?hy2⟩) hHeld ?re2
    case hi2 => simp only [List.getElem?_toArray, List.getElem?_cons_succ, List.getElem?_cons_zero]; rfl
    case hw2 => rfl
    case hy2 =>
      intro W hSw
      try dsimp only at hSw
      go_split_ands
      first | (go_simp; done) | (go_simp; with_reducible rfl)
    try simp only [Act.put, List.setIfInBounds_toArray, List.set_cons_zero, List.set_cons_succ]
    refine wpAnyH_take (i := 2) (oi := ?o3) (v := ?v3) ?hi3 (by kernel_rfl) (by kernel_rfl) (by kernel_rfl) (fun _ _ _ h => h) (Or.inl ⟨?hw3, ?hy3⟩) hHeld ?re3
    case hi3 => simp only [List.getElem?_toArray, List.getElem?_cons_succ, List.getElem?_cons_zero]; rfl
    case hw3 => rfl
    case hy3 =>
      intro W hSw
      try dsimp only at hSw
      go_split_ands
      first | (go_simp; done) | (go_simp; with_reducible rfl)
    try simp only [Act.put, List.setIfInBounds_toArray, List.set_cons_zero, List.set_cons_succ]
    refine wpAnyH_take (i := 3) (oi := ?o4) (v := ?v4) ?hi4 (by kernel_rfl) (by kernel_rfl) (by kernel_rfl) (fun _ _ _ h => h) (Or.inl ⟨?hw4, ?hy4⟩) hHeld ?re4
    case hi4 => simp only [List.getElem?_toArray, List.getElem?_cons_succ, List.getElem?_cons_zero]; rfl
    case hw4 => rfl
    case hy4 =>
      intro W hSw
      try dsimp only at hSw
      go_split_ands
      first | (go_simp; done) | (go_simp; with_reducible rfl)
    try simp only [Act.put, List.setIfInBounds_toArray, List.set_cons_zero, List.set_cons_succ]
    refine wpAnyH_take (i := 4) (oi := ?o5) (v := ?v5) ?hi5 (by kernel_rfl) (by kernel_rfl) (by kernel_rfl) (fun _ _ _ h => h) (Or.inl ⟨?hw5, ?hy5⟩) hHeld ?re5
    case hi5 => simp only [List.getElem?_toArray, List.getElem?_cons_succ, List.getElem?_cons_zero]; rfl
    case hw5 => rfl
    case hy5 =>
      intro W hSw
      try dsimp only at hSw
      go_split_ands
      first | (go_simp; done) | (go_simp; with_reducible rfl)
    try simp only [Act.put, List.setIfInBounds_toArray, List.set_cons_zero, List.set_cons_succ]
    refine wpAnyH_take (i := 6) (oi := ?o6) (v := ?v6) ?hi6 (by kernel_rfl) (by kernel_rfl) (by kernel_rfl) (fun _ _ _ h => h) (Or.inl ⟨?hw6, ?hy6⟩) hHeld ?re6
    case hi6 => simp only [List.getElem?_toArray, List.getElem?_cons_succ, List.getElem?_cons_zero]; rfl
    case hw6 => rfl
    case hy6 =>
      intro W hSw
      try dsimp only at hSw
      go_split_ands
      first | (go_simp; done) | (go_simp; with_reducible rfl)
    try simp only [Act.put, List.setIfInBounds_toArray, List.set_cons_zero, List.set_cons_succ]
    refine wpAnyH_ready (rs := [5]) (by kernel_rfl) (by simp) ?_
    refine AllReadyH.cons (o := ?o7) ?hi7 (fun K hK => ?_) AllReadyH.nil
    case hi7 => simp only [List.getElem?_toArray, List.getElem?_cons_succ, List.getElem?_cons_zero]; rfl
    clear hHeld
    go_simp
    (go_at_call 24; with_reducible (refine Calls.mono (HS1.out _ ?_) ?_); (· with_reducible first | exact hB | exact below_drew1 hB); rintro e wn ⟨rfl, hb⟩; replace hB := (by with_reducible first | exact below_join hb hB | exact below_join2 hb hB : Below w6.heap.size w6 wn); clear hb)
    try go_wp2_with fail
    refine hK.out _ _ ?_ (fun hHeld => ?_)
    · exact HSS.out _ hB
    clear hK K
    try simp only [Act.put, List.setIfInBounds_toArray, List.set_cons_zero, List.set_cons_succ]
    refine wpAnyH_take (i := 7) (oi := ?o8) (v := ?v8) ?hi8 (by kernel_rfl) (by kernel_rfl) (by kernel_rfl) (fun _ _ _ h => h) (Or.inl ⟨?hw8, ?hy8⟩) hHeld ?re8
    case hi8 => simp only [List.getElem?_toArray, List.getElem?_cons_succ, List.getElem?_cons_zero]; rfl
    case hw8 => rfl
    case hy8 =>
      intro W hSw
      try dsimp only at hSw
      go_split_ands
      first | (go_simp; done) | (go_simp; with_reducible rfl)
    try simp only [Act.put, List.setIfInBounds_toArray, List.set_cons_zero, List.set_cons_succ]
    refine wpAnyH_take (i := 8) (oi := ?o9) (v := ?v9) ?hi9 (by kernel_rfl) (by kernel_rfl) (by kernel_rfl) (fun _ _ _ h => h) (Or.inl ⟨?hw9, ?hy9⟩) hHeld ?re9
    case hi9 => simp only [List.getElem?_toArray, List.getElem?_cons_succ, List.getElem?_cons_zero]; rfl
    case hw9 => rfl
    case hy9 =>
      intro W hSw
      try dsimp only at hSw
      go_split_ands
      first | (go_simp; done) | (go_simp; with_reducible rfl)
    try simp only [Act.put, List.setIfInBounds_toArray, List.set_cons_zero, List.set_cons_succ]
    refine wpAnyH_take (i := 9) (oi := ?o10) (v := ?v10) ?hi10 (by kernel_rfl) (by kernel_rfl) (by kernel_rfl) (fun _ _ _ h => h) (Or.inl ⟨?hw10, ?hy10⟩) hHeld ?re10
    case hi10 => simp only [List.getElem?_toArray, List.getElem?_cons_succ, List.getElem?_cons_zero]; rfl
    case hw10 => rfl
    case hy10 =>
      intro W hSw
      try dsimp only at hSw
      go_split_ands
      first | (go_simp; done) | (go_simp; with_reducible rfl)
    try simp only [Act.put, List.setIfInBounds_toArray, List.set_cons_zero, List.set_cons_succ]
    refine wpAnyH_take (i := 10) (oi := ?o11) (v := ?v11) ?hi11 (by kernel_rfl) (by kernel_rfl) (by kernel_rfl) (fun _ _ _ h => h) (Or.inl ⟨?hw11, ?hy11⟩) hHeld ?re11
    case hi11 => simp only [List.getElem?_toArray, List.getElem?_cons_succ, List.getElem?_cons_zero]; rfl
    case hw11 => rfl
    case hy11 =>
      intro W hSw
      try dsimp only at hSw
      go_split_ands
      first | (go_simp; done) | (go_simp; with_reducible rfl)
    try simp only [Act.put, List.setIfInBounds_toArray, List.set_cons_zero, List.set_cons_succ]
    refine wpAnyH_take (i := 11) (oi := ?o12) (v := ?v12) ?hi12 (by kernel_rfl) (by kernel_rfl) (by kernel_rfl) (fun _ _ _ h => h) (Or.inl ⟨?hw12, ?hy12⟩) hHeld ?re12
    case hi12 => simp only [List.getElem?_toArray, List.getElem?_cons_succ, List.getElem?_cons_zero]; rfl
    case hw12 => rfl
    case hy12 =>
      intro W hSw
      try dsimp only at hSw
      go_split_ands
      first | (go_simp; done) | (go_simp; with_reducible rfl)
    try simp only [Act.put, List.setIfInBounds_toArray, List.set_cons_zero, List.set_cons_succ]
    refine wpAnyH_take (i := 13) (oi := ?o13) (v := ?v13) ?hi13 (by kernel_rfl) (by kernel_rfl) (by kernel_rfl) (fun _ _ _ h => h) (Or.inl ⟨?hw13, ?hy13⟩) hHeld ?re13
    case hi13 => simp only [List.getElem?_toArray, List.getElem?_cons_succ, List.getElem?_cons_zero]; rfl
    case hw13 => rfl
    case hy13 =>
      intro W hSw
      try dsimp only at hSw
      go_split_ands
      first | (go_simp; done) | (go_simp; with_reducible rfl)
    try simp only [Act.put, List.setIfInBounds_toArray, List.set_cons_zero, List.set_cons_succ]
    refine wpAnyH_take (i := 14) (oi := ?o14) (v := ?v14) ?hi14 (by kernel_rfl) (by kernel_rfl) (by kernel_rfl) (fun _ _ _ h => h) (Or.inl ⟨?hw14, ?hy14⟩) hHeld ?re14
    case hi14 => simp only [List.getElem?_toArray, List.getElem?_cons_succ, List.getElem?_cons_zero]; rfl
    case hw14 => rfl
    case hy14 =>
      intro W hSw
      try dsimp only at hSw
      go_split_ands
      first | (go_simp; done) | (go_simp; with_reducible rfl)
    try simp only [Act.put, List.setIfInBounds_toArray, List.set_cons_zero, List.set_cons_succ]
    refine wpAnyH_take (i := 15) (oi := ?o15) (v := ?v15) ?hi15 (by kernel_rfl) (by kernel_rfl) (by kernel_rfl) (fun _ _ _ h => h) (Or.inl ⟨?hw15, ?hy15⟩) hHeld ?re15
    case hi15 => simp only [List.getElem?_toArray, List.getElem?_cons_succ, List.getElem?_cons_zero]; rfl
    case hw15 => rfl
    case hy15 =>
      intro W hSw
      try dsimp only at hSw
      go_split_ands
      first | (go_simp; done) | (go_simp; with_reducible rfl)
    try simp only [Act.put, List.setIfInBounds_toArray, List.set_cons_zero, List.set_cons_succ]
    refine wpAnyH_ready (rs := [12]) (by kernel_rfl) (by simp) ?_
    refine AllReadyH.cons (o := ?o16) ?hi16 (fun K hK => ?_) AllReadyH.nil
    case hi16 => simp only [List.getElem?_toArray, List.getElem?_cons_succ, List.getElem?_cons_zero]; rfl
    clear hHeld
    go_simp
    (go_at_call 24; with_reducible (refine Calls.mono (HS2.out _ ?_) ?_); (· with_reducible first | exact hB | exact below_drew1 hB); rintro e wn ⟨rfl, hb⟩; replace hB := (by with_reducible first | exact below_join hb hB | exact below_join2 hb hB : Below w6.heap.size w6 wn); clear hb)
    try go_wp2_with fail
    refine hK.out _ _ ?_ (fun hHeld => ?_)
    · exact HSS.out _ hB
    clear hK K
    try simp only [Act.put, List.setIfInBounds_toArray, List.set_cons_zero, List.set_cons_succ]
    refine wpAnyH_take (i := 16) (oi := ?o17) (v := ?v17) ?hi17 (by kernel_rfl) (by kernel_rfl) (by kernel_rfl) (fun _ _ _ h => h) (Or.inl ⟨?hw17, ?hy17⟩) hHeld ?re17
    case hi17 => simp only [List.getElem?_toArray, List.getElem?_cons_succ, List.getElem?_cons_zero]; rfl
    case hw17 => rfl
    case hy17 =>
      intro W hSw
      try dsimp only at hSw
      go_split_ands
      first | (go_simp; done) | (go_simp; with_reducible rfl)
    try simp only [Act.put, List.setIfInBounds_toArray, List.set_cons_zero, List.set_cons_succ]
    refine wpAnyH_take (i := 17) (oi := ?o18) (v := ?v18) ?hi18 (by kernel_rfl) (by kernel_rfl) (by kernel_rfl) (fun _ _ _ h => h) (Or.inl ⟨?hw18, ?hy18⟩) hHeld ?re18
    case hi18 => simp only [List.getElem?_toArray, List.getElem?_cons_succ, List.getElem?_cons_zero]; rfl
    case hw18 => rfl
    case hy18 =>
      intro W hSw
      try dsimp only at hSw
      go_split_ands
      first | (go_simp; done) | (go_simp; with_reducible rfl)
    try simp only [Act.put, List.setIfInBounds_toArray, List.set_cons_zero, List.set_cons_succ]
    refine wpAnyH_take (i := 18) (oi := ?o19) (v := ?v19) ?hi19 (by kernel_rfl) (by kernel_rfl) (by kernel_rfl) (fun _ _ _ h => h) (Or.inl ⟨?hw19, ?hy19⟩) hHeld ?re19
    case hi19 => simp only [List.getElem?_toArray, List.getElem?_cons_succ, List.getElem?_cons_zero]; rfl
    case hw19 => rfl
    case hy19 =>
      intro W hSw
      try dsimp only at hSw
      go_split_ands
      first | (go_simp; done) | (go_simp; with_reducible rfl)
    try simp only [Act.put, List.setIfInBounds_toArray, List.set_cons_zero, List.set_cons_succ]
    refine wpAnyH_take (i := 19) (oi := ?o20) (v := ?v20) ?hi20 (by kernel_rfl) (by kernel_rfl) (by kernel_rfl) (fun _ _ _ h => h) (Or.inl ⟨?hw20, ?hy20⟩) hHeld ?re20
    case hi20 => simp only [List.getElem?_toArray, List.getElem?_cons_succ, List.getElem?_cons_zero]; rfl
    case hw20 => rfl
    case hy20 =>
      intro W hSw
      try dsimp only at hSw
      go_split_ands
      first | (go_simp; done) | (go_simp; with_reducible rfl)
    try simp only [Act.put, List.setIfInBounds_toArray, List.set_cons_zero, List.set_cons_succ]
    refine wpAnyH_take (i := 20) (oi := ?o21) (v := ?v21) ?hi21 (by kernel_rfl) (by kernel_rfl) (by kernel_rfl) (fun _ _ _ h => h) (Or.inl ⟨?hw21, ?hy21⟩) hHeld ?re21
    case hi21 => simp only [List.getElem?_toArray, List.getElem?_cons_succ, List.getElem?_cons_zero]; rfl
    case hw21 => rfl
    case hy21 =>
      intro W hSw
      try dsimp only at hSw
      go_split_ands
      first | (go_simp; done) | (go_simp; with_reducible rfl)
    try simp only [Act.put, List.setIfInBounds_toArray, List.set_cons_zero, List.set_cons_succ]
    refine wpAnyH_take (i := 21) (oi := ?o22) (v := ?v22) ?hi22 (by kernel_rfl) (by kernel_rfl) (by kernel_rfl) (fun _ _ _ h => h) (Or.inl ⟨?hw22, ?hy22⟩) hHeld ?re22
    case hi22 => simp only [List.getElem?_toArray, List.getElem?_cons_succ, List.getElem?_cons_zero]; rfl
    case hw22 => rfl
    case hy22 =>
      intro W hSw
      try dsimp only at hSw
      go_split_ands
      first | (go_simp; done) | (go_simp; with_reducible rfl)
    try simp only [Act.put, List.setIfInBounds_toArray, List.set_cons_zero, List.set_cons_succ]
    refine wpAnyH_take (i := 22) (oi := ?o23) (v := ?v23) ?hi23 (by kernel_rfl) (by kernel_rfl) (by kernel_rfl) (fun _ _ _ h => h) (Or.inl ⟨?hw23, ?hy23⟩) hHeld ?re23
    case hi23 => simp only [List.getElem?_toArray, List.getElem?_cons_succ, List.getElem?_cons_zero]; rfl
    case hw23 => rfl
    case hy23 =>
      intro W hSw
      try dsimp only at hSw
      go_split_ands
      first | (go_simp; done) | (go_simp; with_reducible rfl)
    try simp only [Act.put, List.setIfInBounds_toArray, List.set_cons_zero, List.set_cons_succ]
    refine wpAnyH_take (i := 23) (oi := ?o24) (v := ?v24) ?hi24 (by kernel_rfl) (by kernel_rfl) (by kernel_rfl) (fun _ _ _ h => h) (Or.inl ⟨?hw24, ?hy24⟩) hHeld ?re24
    case hi24 => simp only [List.getElem?_toArray, List.getElem?_cons_succ, List.getElem?_cons_zero]; rfl
    case hw24 => rfl
    case hy24 =>
      intro W hSw
      try dsimp only at hSw
      go_split_ands
      first | (go_simp; done) | (go_simp; with_reducible rfl)
    try simp only [Act.put, List.setIfInBounds_toArray, List.set_cons_zero, List.set_cons_succ]
    refine wpAnyH_take (i := 24) (oi := ?o25) (v := ?v25) ?hi25 (by kernel_rfl) (by kernel_rfl) (by kernel_rfl) (fun _ _ _ h => h) (Or.inl ⟨?hw25, ?hy25⟩) hHeld ?re25
    case hi25 => simp only [List.getElem?_toArray, List.getElem?_cons_succ, List.getElem?_cons_zero]; rfl
    case hw25 => rfl
    case hy25 =>
      intro W hSw
      try dsimp only at hSw
      go_split_ands
      first | (go_simp; done) | (go_simp; with_reducible rfl)
    try simp only [Act.put, List.setIfInBounds_toArray, List.set_cons_zero, List.set_cons_succ]
    refine wpAnyH_take (i := 25) (oi := ?o26) (v := ?v26) ?hi26 (by kernel_rfl) (by kernel_rfl) (by kernel_rfl) (fun _ _ _ h => h) (Or.inl ⟨?hw26, ?hy26⟩) hHeld ?re26
    case hi26 => simp only [List.getElem?_toArray, List.getElem?_cons_succ, List.getElem?_cons_zero]; rfl
    case hw26 => rfl
    case hy26 =>
      intro W hSw
      try dsimp only at hSw
      go_split_ands
      first | (go_simp; done) | (go_simp; with_reducible rfl)
    try simp only [Act.put, List.setIfInBounds_toArray, List.set_cons_zero, List.set_cons_succ]
    refine wpAnyH_take (i := 26) (oi := ?o27) (v := undef) ?hi27 (by kernel_rfl) (by kernel_rfl) (by kernel_rfl) (fun _ _ _ h => h) (Or.inr ⟨?hw27, rfl⟩) hHeld ?re27
    case hi27 => simp only [List.getElem?_toArray, List.getElem?_cons_succ, List.getElem?_cons_zero]; rfl
    case hw27 => rfl
    try simp only [Act.put, List.setIfInBounds_toArray, List.set_cons_zero, List.set_cons_succ]
    refine wpAnyH_take (i := 27) (oi := ?o28) (v := undef) ?hi28 (by kernel_rfl) (by kernel_rfl) (by kernel_rfl) (fun _ _ _ h => h) (Or.inr ⟨?hw28, rfl⟩) hHeld ?re28
    case hi28 => simp only [List.getElem?_toArray, List.getElem?_cons_succ, List.getElem?_cons_zero]; rfl
    case hw28 => rfl
    try simp only [Act.put, List.setIfInBounds_toArray, List.set_cons_zero, List.set_cons_succ]
    refine wpAnyH_take (i := 29) (oi := ?o29) (v := undef) ?hi29 (by kernel_rfl) (by kernel_rfl) (by kernel_rfl) (fun _ _ _ h => h) (Or.inr ⟨?hw29, rfl⟩) hHeld ?re29
    case hi29 => simp only [List.getElem?_toArray, List.getElem?_cons_succ, List.getElem?_cons_zero]; rfl
    case hw29 => rfl
    try simp only [Act.put, List.setIfInBounds_toArray, List.set_cons_zero, List.set_cons_succ]
    refine wpAnyH_take (i := 30) (oi := ?o30) (v := undef) ?hi30 (by kernel_rfl) (by kernel_rfl) (by kernel_rfl) (fun _ _ _ h => h) (Or.inr ⟨?hw30, rfl⟩) hHeld ?re30
    case hi30 => simp only [List.getElem?_toArray, List.getElem?_cons_succ, List.getElem?_cons_zero]; rfl
    case hw30 => rfl
    try simp only [Act.put, List.setIfInBounds_toArray, List.set_cons_zero, List.set_cons_succ]
    refine wpAnyH_take (i := 31) (oi := ?o31) (v := undef) ?hi31 (by kernel_rfl) (by kernel_rfl) (by kernel_rfl) (fun _ _ _ h => h) (Or.inr ⟨?hw31, rfl⟩) hHeld ?re31
    case hi31 => simp only [List.getElem?_toArray, List.getElem?_cons_succ, List.getElem?_cons_zero]; rfl
    case hw31 => rfl
    try simp only [Act.put, List.setIfInBounds_toArray, List.set_cons_zero, List.set_cons_succ]
    refine wpAnyH_take (i := 28) (oi := ?o32) (v := undef) ?hi32 (by kernel_rfl) (by kernel_rfl) (by kernel_rfl) (fun _ _ _ h => h) (Or.inr ⟨?hw32, rfl⟩) hHeld ?re32
    case hi32 => simp only [List.getElem?_toArray, List.getElem?_cons_succ, List.getElem?_cons_zero]; rfl
    case hw32 => rfl
    try simp only [Act.put, List.setIfInBounds_toArray, List.set_cons_zero, List.set_cons_succ]
    refine wpAnyH_take (i := 32) (oi := ?o33) (v := undef) ?hi33 (by kernel_rfl) (by kernel_rfl) (by kernel_rfl) (fun _ _ _ h => h) (Or.inr ⟨?hw33, rfl⟩) hHeld ?re33
    case hi33 => simp only [List.getElem?_toArray, List.getElem?_cons_succ, List.getElem?_cons_zero]; rfl
    case hw33 => rfl
    try simp only [Act.put, List.setIfInBounds_toArray, List.set_cons_zero, List.set_cons_succ]
    refine wpAnyH_take (i := 33) (oi := ?o34) (v := ?v34) ?hi34 (by kernel_rfl) (by kernel_rfl) (by kernel_rfl) (fun _ _ _ h => h) (Or.inl ⟨?hw34, ?hy34⟩) hHeld ?re34
    case hi34 => simp only [List.getElem?_toArray, List.getElem?_cons_succ, List.getElem?_cons_zero]; rfl
    case hw34 => rfl
    case hy34 =>
      intro W hSw
      try dsimp only at hSw
      go_split_ands
      first | (go_simp; done) | (go_simp; with_reducible rfl)
    try simp only [Act.put, List.setIfInBounds_toArray, List.set_cons_zero, List.set_cons_succ]
    refine wpAnyH_take (i := 34) (oi := ?o35) (v := ?v35) ?hi35 (by kernel_rfl) (by kernel_rfl) (by kernel_rfl) (fun _ _ _ h => h) (Or.inl ⟨?hw35, ?hy35⟩) hHeld ?re35
    case hi35 => simp only [List.getElem?_toArray, List.getElem?_cons_succ, List.getElem?_cons_zero]; rfl
    case hw35 => rfl
    case hy35 =>
      intro W hSw
      try dsimp only at hSw
      go_split_ands
      first | (go_simp; done) | (go_simp; with_reducible rfl)
    try simp only [Act.put, List.setIfInBounds_toArray, List.set_cons_zero, List.set_cons_succ]
    refine wpAnyH_take (i := 35) (oi := ?o36) (v := ?v36) ?hi36 (by kernel_rfl) (by kernel_rfl) (by kernel_rfl) (fun _ _ _ h => h) (Or.inl ⟨?hw36, ?hy36⟩) hHeld ?re36
    case hi36 => simp only [List.getElem?_toArray, List.getElem?_cons_succ, List.getElem?_cons_zero]; rfl
    case hw36 => rfl
    case hy36 =>
      intro W hSw
      try dsimp only at hSw
      go_split_ands
      first | (go_simp; done) | (go_simp; with_reducible rfl)
    try simp only [Act.put, List.setIfInBounds_toArray, List.set_cons_zero, List.set_cons_succ]
    refine wpAnyH_take (i := 36) (oi := ?o37) (v := ?v37) ?hi37 (by kernel_rfl) (by kernel_rfl) (by kernel_rfl) (fun _ _ _ h => h) (Or.inl ⟨?hw37, ?hy37⟩) hHeld ?re37
    case hi37 => simp only [List.getElem?_toArray, List.getElem?_cons_succ, List.getElem?_cons_zero]; rfl
    case hw37 => rfl
    case hy37 =>
      intro W hSw
      try dsimp only at hSw
      go_split_ands
      first | (go_simp; done) | (go_simp; with_reducible rfl)
    try simp only [Act.put, List.setIfInBounds_toArray, List.set_cons_zero, List.set_cons_succ]
    refine wpAnyH_take (i := 38) (oi := ?o38) (v := ?v38) ?hi38 (by kernel_rfl) (by kernel_rfl) (by kernel_rfl) (fun _ _ _ h => h) (Or.inl ⟨?hw38, ?hy38⟩) hHeld ?re38
    case hi38 => simp only [List.getElem?_toArray, List.getElem?_cons_succ, List.getElem?_cons_zero]; rfl
    case hw38 => rfl
    case hy38 =>
      intro W hSw
      try dsimp only at hSw
      go_split_ands
      first | (go_simp; done) | (go_simp; with_reducible rfl)
    try simp only [Act.put, List.setIfInBounds_toArray, List.set_cons_zero, List.set_cons_succ]
    refine wpAnyH_ready (rs := [37, 40]) (by kernel_rfl) (by simp) ?_
    refine AllReadyH.cons (o := ?o39a) ?hi39a (fun K hK => ?_) (AllReadyH.cons (o := ?o39b) ?hi39b (fun K hK => ?_) AllReadyH.nil)
    case hi39a => simp only [List.getElem?_toArray, List.getElem?_cons_succ, List.getElem?_cons_zero]; rfl
    case hi39b => simp only [List.getElem?_toArray, List.getElem?_cons_succ, List.getElem?_cons_zero]; rfl
    · clear hHeld
      go_simp
      refine hK.out _ _ ?_ (fun hHeld => ?_)
      · exact (by first | exact HSS.out _ (below_alloc hB _) | exact HSS.out _ (below_alloc (below_alloc hB _) _))
      clear hK K
      try simp only [Act.put, List.setIfInBounds_toArray, List.set_cons_zero, List.set_cons_succ]
      refine wpAnyH_ready (rs := [39, 40]) (by kernel_rfl) (by simp) ?_
      refine AllReadyH.cons (o := ?o40a) ?hi40a (fun K hK => ?_) (AllReadyH.cons (o := ?o40b) ?hi40b (fun K hK => ?_) AllReadyH.nil)
      case hi40a => simp only [List.getElem?_toArray, List.getElem?_cons_succ, List.getElem?_cons_zero]; rfl
      case hi40b => simp only [List.getElem?_toArray, List.getElem?_cons_succ, List.getElem?_cons_zero]; rfl
      · clear hHeld
        ((refine Kd.R_append_rows_step (Kd.int .u64) (w0 := w6) w6.heap.size rfl (.tmp 82) (.tmp 83) 22 34 (.int .u64 0) 8 rfl Try.underlying22 info34 rfl (by decide) (by omega) _ [] l (some ad) l.length c0 (fun _ => True) (fun _ => False) rfl rfl ?_ ?_ (fun _ _ h => h) (fun _ h => h.elim) (fun _ _ => trivial) ?_ ?_ ?_ ?_); (· first | exact emp_R _ _ (below_size hB) | exact Kd.R_below (emp_R _ _ (below_size hB)) (below_alloc (Below.refl _ _) _) | exact emp_R1 _ _ _ (below_size hB)); (· first | exact (HR6.out.below (below_alloc hB _)).1 | exact (HR6.out.below (below_alloc (below_alloc hB _) _)).1); (· first | exact below_alloc hB _ | exact below_alloc (below_alloc hB _) _); (· first | exact below_size (below_alloc hB _) | exact below_size (below_alloc (below_alloc hB _) _)); (· have := HL.out; simp; omega); intro v1 w1 ho hb hg _; (first | (have hone := one_b hg) | (have hone := one_c hg) | skip); rw [List.nil_append] at ho; have hR84 := ho; replace hB := hb; clear ho hb hg)
        refine hK.out _ _ ?_ (fun hHeld => ?_)
        · exact HSS.out _ hB
        clear hK K
        try simp only [Act.put, List.setIfInBounds_toArray, List.set_cons_zero, List.set_cons_succ]
        refine wpAnyH_ready (rs := [40]) (by kernel_rfl) (by simp) ?_
        refine AllReadyH.cons (o := ?o41) ?hi41 (fun K hK => ?_) AllReadyH.nil
        case hi41 => simp only [List.getElem?_toArray, List.getElem?_cons_succ, List.getElem?_cons_zero]; rfl
        clear hHeld
        go_simp
        refine hK.out _ _ ?_ (fun hHeld => ?_)
        · exact (by first | exact HSS.out _ (below_alloc hB _) | exact HSS.out _ (below_alloc (below_alloc hB _) _))
        clear hK K
        try simp only [Act.put, List.setIfInBounds_toArray, List.set_cons_zero, List.set_cons_succ]
        refine wpAnyH_ready (rs := [41]) (by kernel_rfl) (by simp) ?_
        refine AllReadyH.cons (o := ?o42) ?hi42 (fun K hK => ?_) AllReadyH.nil
        case hi42 => simp only [List.getElem?_toArray, List.getElem?_cons_succ, List.getElem?_cons_zero]; rfl
        clear hHeld
        ((refine Kd.R_append_step (Kd.int .u64) (w0 := w6) w6.heap.size rfl (.tmp 84) (.tmp 85) 22 34 (.int .u64 0) 8 rfl Try.underlying22 info34 rfl (by decide) (by omega) _ l 1 [.int .u64 1] (fun _ => True) (fun _ => False) rfl rfl rfl (fun _ hk => hk.elim) (fun _ _ => trivial) hR84 hB (below_size hB) (by have := HL.out; omega) ?_); intro v3 w8 ho hb _ _; obtain ⟨l2, hl2, hl3⟩ : ∃ l2 : List Int, l ++ [1] = l2 ∧ l2.length = l.length + 1 := ⟨_, rfl, by simp⟩; rw [hl2] at ho; clear hl2; have HL3 := Aside0.mk hl3; clear hl3; obtain ⟨Ao, co, rfl⟩ := Kd.R_slice ho; obtain ⟨hRd1, hRd2⟩ := Rd.of_R ho; replace hB := hb; clear ho hb)
        refine hK.out _ _ ?_ (fun hHeld => ?_)
        · exact HSS.out _ hB
        clear hK K
        try simp only [Act.put, List.setIfInBounds_toArray, List.set_cons_zero, List.set_cons_succ]
        refine wpAnyH_ready (rs := [42]) (by kernel_rfl) (by simp) ?_
        refine AllReadyH.cons (o := ?o43) ?hi43 (fun K hK => ?_) AllReadyH.nil
        case hi43 => simp only [List.getElem?_toArray, List.getElem?_cons_succ, List.getElem?_cons_zero]; rfl
        clear hHeld
        go_simp
        (go_at_call 13; with_reducible (refine Calls.mono (build_any _ l2 Ao co (by have := HL.out; have := HL3.out; omega) hRd2 hRd1) ?_); rintro e w9 ⟨A9, rfl, hT9, hb⟩; obtain ⟨pc, hpc⟩ := topP_ptr l2.length A9; rw [hpc]; unfold treeV; replace hB := below_join hb hB; clear hb hT9 hRd1 hRd2 hpc)
        try go_wp2_with fail
        refine hK.out _ _ ?_ (fun hHeld => ?_)
        · exact HSS.out _ hB
        clear hK K
        try simp only [Act.put, List.setIfInBounds_toArray, List.set_cons_zero, List.set_cons_succ]
        refine wpAnyH_ready (rs := [43]) (by kernel_rfl) (by simp) ?_
        refine AllReadyH.cons (o := ?o44) ?hi44 (fun K hK => ?_) AllReadyH.nil
        case hi44 => simp only [List.getElem?_toArray, List.getElem?_cons_succ, List.getElem?_cons_zero]; rfl
        clear hHeld
        go_simp
        (go_at_call 24; with_reducible (refine Calls.mono (Same_ne _ l.length l2.length pa pc (by have := HL3.out; omega)) ?_); rintro e wm ⟨rfl, hb⟩; replace hB := below_join hb hB; clear hb)
        try go_wp2_with fail
        refine hK.out _ _ ?_ (fun hHeld => ?_)
        · exact HSS.out _ hB
        clear hK K
        try simp only [Act.put, List.setIfInBounds_toArray, List.set_cons_zero, List.set_cons_succ]
        refine wpAnyH_take (i := 44) (oi := ?o45) (v := ?v45) ?hi45 (by kernel_rfl) (by kernel_rfl) (by kernel_rfl) (fun _ _ _ h => h) (Or.inl ⟨?hw45, ?hy45⟩) hHeld ?re45
        case hi45 => simp only [List.getElem?_toArray, List.getElem?_cons_succ, List.getElem?_cons_zero]; rfl
        case hw45 => rfl
        case hy45 =>
          intro W hSw
          try dsimp only at hSw
          go_split_ands
          first | (go_simp; done) | (go_simp; with_reducible rfl)
        try simp only [Act.put, List.setIfInBounds_toArray, List.set_cons_zero, List.set_cons_succ]
        refine wpAnyH_take (i := 45) (oi := ?o46) (v := ?v46) ?hi46 (by kernel_rfl) (by kernel_rfl) (by kernel_rfl) (fun _ _ _ h => h) (Or.inl ⟨?hw46, ?hy46⟩) hHeld ?re46
        case hi46 => simp only [List.getElem?_toArray, List.getElem?_cons_succ, List.getElem?_cons_zero]; rfl
        case hw46 => rfl
        case hy46 =>
          intro W hSw
          try dsimp only at hSw
          go_split_ands
          first | (go_simp; done) | (go_simp; with_reducible rfl)
        try simp only [Act.put, List.setIfInBounds_toArray, List.set_cons_zero, List.set_cons_succ]
        refine wpAnyH_take (i := 46) (oi := ?o47) (v := ?v47) ?hi47 (by kernel_rfl) (by kernel_rfl) (by kernel_rfl) (fun _ _ _ h => h) (Or.inl ⟨?hw47, ?hy47⟩) hHeld ?re47
        case hi47 => simp only [List.getElem?_toArray, List.getElem?_cons_succ, List.getElem?_cons_zero]; rfl
        case hw47 => rfl
        case hy47 =>
          intro W hSw
          try dsimp only at hSw
          go_split_ands
          first | (go_simp; done) | (go_simp; with_reducible rfl)
        try simp only [Act.put, List.setIfInBounds_toArray, List.set_cons_zero, List.set_cons_succ]
        refine wpAnyH_done (by kernel_rfl) ?_ _
        refine NoPanic.normal ?_
        go_wp2
        go_ret
        exact ⟨rfl, below_join hB HB6.out⟩
      · clear hHeld
        go_simp
        refine hK.out _ _ ?_ (fun hHeld => ?_)
        · exact (by first | exact HSS.out _ (below_alloc hB _) | exact HSS.out _ (below_alloc (below_alloc hB _) _))
        clear hK K
        try simp only [Act.put, List.setIfInBounds_toArray, List.set_cons_zero, List.set_cons_succ]
        refine wpAnyH_ready (rs := [39]) (by kernel_rfl) (by simp) ?_
        refine AllReadyH.cons (o := ?o48) ?hi48 (fun K hK => ?_) AllReadyH.nil
        case hi48 => simp only [List.getElem?_toArray, List.getElem?_cons_succ, List.getElem?_cons_zero]; rfl
        clear hHeld
        ((refine Kd.R_append_rows_step (Kd.int .u64) (w0 := w6) w6.heap.size rfl (.tmp 82) (.tmp 83) 22 34 (.int .u64 0) 8 rfl Try.underlying22 info34 rfl (by decide) (by omega) _ [] l (some ad) l.length c0 (fun _ => True) (fun _ => False) rfl rfl ?_ ?_ (fun _ _ h => h) (fun _ h => h.elim) (fun _ _ => trivial) ?_ ?_ ?_ ?_); (· first | exact emp_R _ _ (below_size hB) | exact Kd.R_below (emp_R _ _ (below_size hB)) (below_alloc (Below.refl _ _) _) | exact emp_R1 _ _ _ (below_size hB)); (· first | exact (HR6.out.below (below_alloc hB _)).1 | exact (HR6.out.below (below_alloc (below_alloc hB _) _)).1); (· first | exact below_alloc hB _ | exact below_alloc (below_alloc hB _) _); (· first | exact below_size (below_alloc hB _) | exact below_size (below_alloc (below_alloc hB _) _)); (· have := HL.out; simp; omega); intro v1 w1 ho hb hg _; (first | (have hone := one_b hg) | (have hone := one_c hg) | skip); rw [List.nil_append] at ho; have hR84 := ho; replace hB := hb; clear ho hb hg)
        refine hK.out _ _ ?_ (fun hHeld => ?_)
        · exact HSS.out _ hB
        clear hK K
        try simp only [Act.put, List.setIfInBounds_toArray, List.set_cons_zero, List.set_cons_succ]
        refine wpAnyH_ready (rs := [41]) (by kernel_rfl) (by simp) ?_
        refine AllReadyH.cons (o := ?o49) ?hi49 (fun K hK => ?_) AllReadyH.nil
        case hi49 => simp only [List.getElem?_toArray, List.getElem?_cons_succ, List.getElem?_cons_zero]; rfl
        clear hHeld
        ((refine Kd.R_append_rows_step (Kd.int .u64) (w0 := w6) w6.heap.size rfl (.tmp 84) (.tmp 85) 22 34 (.int .u64 0) 8 rfl Try.underlying22 info34 rfl (by decide) (by omega) _ l [1] _ 1 1 (fun _ => True) (fun _ => False) rfl rfl hR84 hone.1 (fun _ _ h => h) (fun _ h => h.elim) (fun _ _ => trivial) hB (below_size hB) (by have := HL.out; omega) ?_); intro v3 w8 ho hb _ _; obtain ⟨l2, hl2, hl3⟩ : ∃ l2 : List Int, l ++ [1] = l2 ∧ l2.length = l.length + 1 := ⟨_, rfl, by simp⟩; rw [hl2] at ho; clear hl2; have HL3 := Aside0.mk hl3; clear hl3; obtain ⟨Ao, co, rfl⟩ := Kd.R_slice ho; obtain ⟨hRd1, hRd2⟩ := Rd.of_R ho; replace hB := hb; clear ho hb)
        refine hK.out _ _ ?_ (fun hHeld => ?_)
        · exact HSS.out _ hB
        clear hK K
        try simp only [Act.put, List.setIfInBounds_toArray, List.set_cons_zero, List.set_cons_succ]
        refine wpAnyH_ready (rs := [42]) (by kernel_rfl) (by simp) ?_
        refine AllReadyH.cons (o := ?o50) ?hi50 (fun K hK => ?_) AllReadyH.nil
        case hi50 => simp only [List.getElem?_toArray, List.getElem?_cons_succ, List.getElem?_cons_zero]; rfl
        clear hHeld
        go_simp
        (go_at_call 13; with_reducible (refine Calls.mono (build_any _ l2 Ao co (by have := HL.out; have := HL3.out; omega) hRd2 hRd1) ?_); rintro e w9 ⟨A9, rfl, hT9, hb⟩; obtain ⟨pc, hpc⟩ := topP_ptr l2.length A9; rw [hpc]; unfold treeV; replace hB := below_join hb hB; clear hb hT9 hRd1 hRd2 hpc)
        try go_wp2_with fail
        refine hK.out _ _ ?_ (fun hHeld => ?_)
        · exact HSS.out _ hB
        clear hK K
        try simp only [Act.put, List.setIfInBounds_toArray, List.set_cons_zero, List.set_cons_succ]
        refine wpAnyH_ready (rs := [43]) (by kernel_rfl) (by simp) ?_
        refine AllReadyH.cons (o := ?o51) ?hi51 (fun K hK => ?_) AllReadyH.nil
        case hi51 => simp only [List.getElem?_toArray, List.getElem?_cons_succ, List.getElem?_cons_zero]; rfl
        clear hHeld
        go_simp
        (go_at_call 24; with_reducible (refine Calls.mono (Same_ne _ l.length l2.length pa pc (by have := HL3.out; omega)) ?_); rintro e wm ⟨rfl, hb⟩; replace hB := below_join hb hB; clear hb)
        try go_wp2_with fail
        refine hK.out _ _ ?_ (fun hHeld => ?_)
        · exact HSS.out _ hB
        clear hK K
        try simp only [Act.put, List.setIfInBounds_toArray, List.set_cons_zero, List.set_cons_succ]
        refine wpAnyH_take (i := 44) (oi := ?o52) (v := ?v52) ?hi52 (by kernel_rfl) (by kernel_rfl) (by kernel_rfl) (fun _ _ _ h => h) (Or.inl ⟨?hw52, ?hy52⟩) hHeld ?re52
        case hi52 => simp only [List.getElem?_toArray, List.getElem?_cons_succ, List.getElem?_cons_zero]; rfl
        case hw52 => rfl
        case hy52 =>
          intro W hSw
          try dsimp only at hSw
          go_split_ands
          first | (go_simp; done) | (go_simp; with_reducible rfl)
        try simp only [Act.put, List.setIfInBounds_toArray, List.set_cons_zero, List.set_cons_succ]
        refine wpAnyH_take (i := 45) (oi := ?o53) (v := ?v53) ?hi53 (by kernel_rfl) (by kernel_rfl) (by kernel_rfl) (fun _ _ _ h => h) (Or.inl ⟨?hw53, ?hy53⟩) hHeld ?re53
        case hi53 => simp only [List.getElem?_toArray, List.getElem?_cons_succ, List.getElem?_cons_zero]; rfl
        case hw53 => rfl
        case hy53 =>
          intro W hSw
          try dsimp only at hSw
          go_split_ands
          first | (go_simp; done) | (go_simp; with_reducible rfl)
        try simp only [Act.put, List.setIfInBounds_toArray, List.set_cons_zero, List.set_cons_succ]
        refine wpAnyH_take (i := 46) (oi := ?o54) (v := ?v54) ?hi54 (by kernel_rfl) (by kernel_rfl) (by kernel_rfl) (fun _ _ _ h => h) (Or.inl ⟨?hw54, ?hy54⟩) hHeld ?re54
        case hi54 => simp only [List.getElem?_toArray, List.getElem?_cons_succ, List.getElem?_cons_zero]; rfl
        case hw54 => rfl
        case hy54 =>
          intro W hSw
          try dsimp only at hSw
          go_split_ands
          first | (go_simp; done) | (go_simp; with_reducible rfl)
        try simp only [Act.put, List.setIfInBounds_toArray, List.set_cons_zero, List.set_cons_succ]
        refine wpAnyH_done (by kernel_rfl) ?_ _
        refine NoPanic.normal ?_
        go_wp2
        go_ret
        exact ⟨rfl, below_join hB HB6.out⟩
    · clear hHeld
      go_simp
      refine hK.out _ _ ?_ (fun hHeld => ?_)
      · exact (by first | exact HSS.out _ (below_alloc hB _) | exact HSS.out _ (below_alloc (below_alloc hB _) _))
      clear hK K
      try simp only [Act.put, List.setIfInBounds_toArray, List.set_cons_zero, List.set_cons_succ]
      refine wpAnyH_ready (rs := [37]) (by kernel_rfl) (by simp) ?_
      refine AllReadyH.cons (o := ?o55) ?hi55 (fun K hK => ?_) AllReadyH.nil
      case hi55 => simp only [List.getElem?_toArray, List.getElem?_cons_succ, List.getElem?_cons_zero]; rfl
      clear hHeld
      go_simp
      refine hK.out _ _ ?_ (fun hHeld => ?_)
      · exact (by first | exact HSS.out _ (below_alloc hB _) | exact HSS.out _ (below_alloc (below_alloc hB _) _))
      clear hK K
      try simp only [Act.put, List.setIfInBounds_toArray, List.set_cons_zero, List.set_cons_succ]
      refine wpAnyH_ready (rs := [39]) (by kernel_rfl) (by simp) ?_
      refine AllReadyH.cons (o := ?o56) ?hi56 (fun K hK => ?_) AllReadyH.nil
      case hi56 => simp only [List.getElem?_toArray, List.getElem?_cons_succ, List.getElem?_cons_zero]; rfl
      clear hHeld
      ((refine Kd.R_append_rows_step (Kd.int .u64) (w0 := w6) w6.heap.size rfl (.tmp 82) (.tmp 83) 22 34 (.int .u64 0) 8 rfl Try.underlying22 info34 rfl (by decide) (by omega) _ [] l (some ad) l.length c0 (fun _ => True) (fun _ => False) rfl rfl ?_ ?_ (fun _ _ h => h) (fun _ h => h.elim) (fun _ _ => trivial) ?_ ?_ ?_ ?_); (· first | exact emp_R _ _ (below_size hB) | exact Kd.R_below (emp_R _ _ (below_size hB)) (below_alloc (Below.refl _ _) _) | exact emp_R1 _ _ _ (below_size hB)); (· first | exact (HR6.out.below (below_alloc hB _)).1 | exact (HR6.out.below (below_alloc (below_alloc hB _) _)).1); (· first | exact below_alloc hB _ | exact below_alloc (below_alloc hB _) _); (· first | exact below_size (below_alloc hB _) | exact below_size (below_alloc (below_alloc hB _) _)); (· have := HL.out; simp; omega); intro v1 w1 ho hb hg _; (first | (have hone := one_b hg) | (have hone := one_c hg) | skip); rw [List.nil_append] at ho; have hR84 := ho; replace hB := hb; clear ho hb hg)
      refine hK.out _ _ ?_ (fun hHeld => ?_)
      · exact HSS.out _ hB
      clear hK K
      try simp only [Act.put, List.setIfInBounds_toArray, List.set_cons_zero, List.set_cons_succ]
      refine wpAnyH_ready (rs := [41]) (by kernel_rfl) (by simp) ?_
      refine AllReadyH.cons (o := ?o57) ?hi57 (fun K hK => ?_) AllReadyH.nil
      case hi57 => simp only [List.getElem?_toArray, List.getElem?_cons_succ, List.getElem?_cons_zero]; rfl
      clear hHeld
      ((refine Kd.R_append_rows_step (Kd.int .u64) (w0 := w6) w6.heap.size rfl (.tmp 84) (.tmp 85) 22 34 (.int .u64 0) 8 rfl Try.underlying22 info34 rfl (by decide) (by omega) _ l [1] _ 1 1 (fun _ => True) (fun _ => False) rfl rfl hR84 hone.1 (fun _ _ h => h) (fun _ h => h.elim) (fun _ _ => trivial) hB (below_size hB) (by have := HL.out; omega) ?_); intro v3 w8 ho hb _ _; obtain ⟨l2, hl2, hl3⟩ : ∃ l2 : List Int, l ++ [1] = l2 ∧ l2.length = l.length + 1 := ⟨_, rfl, by simp⟩; rw [hl2] at ho; clear hl2; have HL3 := Aside0.mk hl3; clear hl3; obtain ⟨Ao, co, rfl⟩ := Kd.R_slice ho; obtain ⟨hRd1, hRd2⟩ := Rd.of_R ho; replace hB := hb; clear ho hb)
      refine hK.out _ _ ?_ (fun hHeld => ?_)
      · exact HSS.out _ hB
      clear hK K
      try simp only [Act.put, List.setIfInBounds_toArray, List.set_cons_zero, List.set_cons_succ]
      refine wpAnyH_ready (rs := [42]) (by kernel_rfl) (by simp) ?_
      refine AllReadyH.cons (o := ?o58) ?hi58 (fun K hK => ?_) AllReadyH.nil
      case hi58 => simp only [List.getElem?_toArray, List.getElem?_cons_succ, List.getElem?_cons_zero]; rfl
      clear hHeld
      go_simp
      (go_at_call 13; with_reducible (refine Calls.mono (build_any _ l2 Ao co (by have := HL.out; have := HL3.out; omega) hRd2 hRd1) ?_); rintro e w9 ⟨A9, rfl, hT9, hb⟩; obtain ⟨pc, hpc⟩ := topP_ptr l2.length A9; rw [hpc]; unfold treeV; replace hB := below_join hb hB; clear hb hT9 hRd1 hRd2 hpc)
      try go_wp2_with fail
      refine hK.out _ _ ?_ (fun hHeld => ?_)
      · exact HSS.out _ hB
      clear hK K
      try simp only [Act.put, List.setIfInBounds_toArray, List.set_cons_zero, List.set_cons_succ]
      refine wpAnyH_ready (rs := [43]) (by kernel_rfl) (by simp) ?_
      refine AllReadyH.cons (o := ?o59) ?hi59 (fun K hK => ?_) AllReadyH.nil
      case hi59 => simp only [List.getElem?_toArray, List.getElem?_cons_succ, List.getElem?_cons_zero]; rfl
      clear hHeld
      go_simp
      (go_at_call 24; with_reducible (refine Calls.mono (Same_ne _ l.length l2.length pa pc (by have := HL3.out; omega)) ?_); rintro e wm ⟨rfl, hb⟩; replace hB := below_join hb hB; clear hb)
      try go_wp2_with fail
      refine hK.out _ _ ?_ (fun hHeld => ?_)
      · exact HSS.out _ hB
      clear hK K
      try simp only [Act.put, List.setIfInBounds_toArray, List.set_cons_zero, List.set_cons_succ]
      refine wpAnyH_take (i := 44) (oi := ?o60) (v := ?v60) ?hi60 (by kernel_rfl) (by kernel_rfl) (by kernel_rfl) (fun _ _ _ h => h) (Or.inl ⟨?hw60, ?hy60⟩) hHeld ?re60
      case hi60 => simp only [List.getElem?_toArray, List.getElem?_cons_succ, List.getElem?_cons_zero]; rfl
      case hw60 => rfl
      case hy60 =>
        intro W hSw
        try dsimp only at hSw
        go_split_ands
        first | (go_simp; done) | (go_simp; with_reducible rfl)
      try simp only [Act.put, List.setIfInBounds_toArray, List.set_cons_zero, List.set_cons_succ]
      refine wpAnyH_take (i := 45) (oi := ?o61) (v := ?v61) ?hi61 (by kernel_rfl) (by kernel_rfl) (by kernel_rfl) (fun _ _ _ h => h) (Or.inl ⟨?hw61, ?hy61⟩) hHeld ?re61
      case hi61 => simp only [List.getElem?_toArray, List.getElem?_cons_succ, List.getElem?_cons_zero]; rfl
      case hw61 => rfl
      case hy61 =>
        intro W hSw
        try dsimp only at hSw
        go_split_ands
        first | (go_simp; done) | (go_simp; with_reducible rfl)
      try simp only [Act.put, List.setIfInBounds_toArray, List.set_cons_zero, List.set_cons_succ]
      refine wpAnyH_take (i := 46) (oi := ?o62) (v := ?v62) ?hi62 (by kernel_rfl) (by kernel_rfl) (by kernel_rfl) (fun _ _ _ h => h) (Or.inl ⟨?hw62, ?hy62⟩) hHeld ?re62
      case hi62 => simp only [List.getElem?_toArray, List.getElem?_cons_succ, List.getElem?_cons_zero]; rfl
      case hw62 => rfl
      case hy62 =>
        intro W hSw
        try dsimp only at hSw
        go_split_ands
        first | (go_simp; done) | (go_simp; with_reducible rfl)
      try simp only [Act.put, List.setIfInBounds_toArray, List.set_cons_zero, List.set_cons_succ]
      refine wpAnyH_done (by kernel_rfl) ?_ _
      refine NoPanic.normal ?_
      go_wp2
      go_ret
      exact ⟨rfl, below_join hB HB6.out⟩
  case false =>
    go_wp2_with fail
    go_region_held3 (fun W => W.cell? ⟨w2.heap.size, 0, none⟩ = some (.int .i64 l.length) ∧ W.cell? ⟨w2.heap.size, 1, none⟩ = some (.int .i64 (ht l.length)) ∧ W.cell? ⟨w2.heap.size, 2, none⟩ = some (.pointer pa) ∧
      W.cell? ⟨w3.heap.size, 0, none⟩ = some (.int .i64 l.length) ∧ W.cell? ⟨w3.heap.size, 1, none⟩ = some (.int .i64 (ht l.length)) ∧ W.cell? ⟨w3.heap.size, 2, none⟩ = some (.pointer pb) ∧ W.cell? (ad.add i) = some (.int .u64 x)) (first | exact HSS.out _ hB | exact HSS.out _ (below_drew1 hB) | exact HSS.out _ (below_alloc (below_drew1 hB) _) | exact HSS.out _ (below_alloc hB _) | exact HSS.out _ (below_alloc (below_alloc hB _) _))
      (first
        | (go_at_call 24; with_reducible (refine Calls.mono (HS1.out _ ?_) ?_); (· with_reducible first | exact hB | exact below_drew1 hB); rintro e wn ⟨rfl, hb⟩; replace hB := (by with_reducible first | exact below_join hb hB | exact below_join2 hb hB : Below w6.heap.size w6 wn); clear hb)
        | (go_at_call 24; with_reducible (refine Calls.mono (HS2.out _ ?_) ?_); (· with_reducible first | exact hB | exact below_drew1 hB); rintro e wn ⟨rfl, hb⟩; replace hB := (by with_reducible first | exact below_join hb hB | exact below_join2 hb hB : Below w6.heap.size w6 wn); clear hb)
        | ((refine Kd.R_append_rows_step (Kd.int .u64) (w0 := w6) w6.heap.size rfl (.tmp 82) (.tmp 83) 22 34 (.int .u64 0) 8 rfl Try.underlying22 info34 rfl (by decide) (by omega) _ [] l (some ad) l.length c0 (fun _ => True) (fun _ => False) rfl rfl ?_ ?_ (fun _ _ h => h) (fun _ h => h.elim) (fun _ _ => trivial) ?_ ?_ ?_ ?_); (· first | exact emp_R _ _ (below_size hB) | exact Kd.R_below (emp_R _ _ (below_size hB)) (below_alloc (Below.refl _ _) _) | exact emp_R1 _ _ _ (below_size hB)); (· first | exact (HR6.out.below (below_alloc hB _)).1 | exact (HR6.out.below (below_alloc (below_alloc hB _) _)).1); (· first | exact below_alloc hB _ | exact below_alloc (below_alloc hB _) _); (· first | exact below_size (below_alloc hB _) | exact below_size (below_alloc (below_alloc hB _) _)); (· have := HL.out; simp; omega); intro v1 w1 ho hb hg _; (first | (have hone := one_b hg) | (have hone := one_c hg) | skip); rw [List.nil_append] at ho; have hR84 := ho; replace hB := hb; clear ho hb hg)
        | ((refine Kd.R_append_step (Kd.int .u64) (w0 := w6) w6.heap.size rfl (.tmp 84) (.tmp 85) 22 34 (.int .u64 0) 8 rfl Try.underlying22 info34 rfl (by decide) (by omega) _ l 1 [.int .u64 1] (fun _ => True) (fun _ => False) rfl rfl rfl (fun _ hk => hk.elim) (fun _ _ => trivial) hR84 hB (below_size hB) (by have := HL.out; omega) ?_); intro v3 w8 ho hb _ _; obtain ⟨l2, hl2, hl3⟩ : ∃ l2 : List Int, l ++ [1] = l2 ∧ l2.length = l.length + 1 := ⟨_, rfl, by simp⟩; rw [hl2] at ho; clear hl2; have HL3 := Aside0.mk hl3; clear hl3; obtain ⟨Ao, co, rfl⟩ := Kd.R_slice ho; obtain ⟨hRd1, hRd2⟩ := Rd.of_R ho; replace hB := hb; clear ho hb)
        | ((refine Kd.R_append_rows_step (Kd.int .u64) (w0 := w6) w6.heap.size rfl (.tmp 84) (.tmp 85) 22 34 (.int .u64 0) 8 rfl Try.underlying22 info34 rfl (by decide) (by omega) _ l [1] _ 1 1 (fun _ => True) (fun _ => False) rfl rfl hR84 hone.1 (fun _ _ h => h) (fun _ h => h.elim) (fun _ _ => trivial) hB (below_size hB) (by have := HL.out; omega) ?_); intro v3 w8 ho hb _ _; obtain ⟨l2, hl2, hl3⟩ : ∃ l2 : List Int, l ++ [1] = l2 ∧ l2.length = l.length + 1 := ⟨_, rfl, by simp⟩; rw [hl2] at ho; clear hl2; have HL3 := Aside0.mk hl3; clear hl3; obtain ⟨Ao, co, rfl⟩ := Kd.R_slice ho; obtain ⟨hRd1, hRd2⟩ := Rd.of_R ho; replace hB := hb; clear ho hb)
        | (go_at_call 13; with_reducible (refine Calls.mono (build_any _ l2 Ao co (by have := HL.out; have := HL3.out; omega) hRd2 hRd1) ?_); rintro e w9 ⟨A9, rfl, hT9, hb⟩; obtain ⟨pc, hpc⟩ := topP_ptr l2.length A9; rw [hpc]; unfold treeV; replace hB := below_join hb hB; clear hb hT9 hRd1 hRd2 hpc)
        | (go_at_call 24; with_reducible (refine Calls.mono (Same_ne _ l.length l2.length pa pc (by have := HL3.out; omega)) ?_); rintro e wm ⟨rfl, hb⟩; replace hB := below_join hb hB; clear hb))
    all_goals
      go_wp2
      go_ret
      exact ⟨rfl, below_join hB HB6.out⟩
end Go.Proofs.Ytpofcknfnipkgaa.ST
