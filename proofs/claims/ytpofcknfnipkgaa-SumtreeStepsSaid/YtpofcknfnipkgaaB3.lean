/- A tree in memory is that of its list (same); the walk of the law SumtreeBuild. -/
import Derived.Test.YtpofcknfnipkgaaB1
namespace Go.Proofs.Ytpofcknfnipkgaa.ST
open Go.RowKit Go.Proofs.YtpofcknfnipkgaaW.PrintWords Go.Proofs.YtpofcknfnipkgaaW.PrintLast Go.Proofs.YtpofcknfnipkgaaW.PrintMore Go.Proofs.Ytpofcknfnipkgaa.PS
set_option linter.unusedVariables false
set_option linter.unusedSimpArgs false

theorem leaf_in (w : World) (l : List Int) (A : Nat → Nat → Nat) (hT : Tr w l.length (SL l) A (ht l.length)) (x : Int) (h0 : 0 ≤ x) (h1 : x < l.length) (hn : l.length ≤ 900) :
    Calls Try.prog 36 #[treeV l.length (topP l.length A), .int .i64 x] w fun e w' => e = .returned (.tuple #[.int .u64 (l.getD x.toNat 0), .int .i64 0]) ∧ Below w.heap.size w w' := by
  obtain ⟨m, rfl⟩ := Int.eq_ofNat_of_zero_le h0
  rw [topP_pos A (by omega), Int.toNat_natCast]
  exact leaf_yes w l.length m (SL l) A hT (by omega) hn
set_option maxHeartbeats 2000000 in
theorem same_any (w : World) (A0 : Option Addr) (c0 : Nat) (l : List Int) (A : Nat → Nat → Nat) (hT : Tr w l.length (SL l) A (ht l.length)) (h : Rd w A0 c0 l) (hl : l.length ≤ 100) :
    Calls Try.prog 19 #[treeV l.length (topP l.length A), .slice A0 l.length c0] w fun e w' => e = .returned (.bool true) ∧ Below w.heap.size w w' := by
  have HT := Aside0.mk hT
  have HR := Aside0.mk h
  have HL := Aside0.mk hl
  clear hT h
  obtain ⟨top, htop⟩ : ∃ top, topP l.length A = top := ⟨_, rfl⟩
  rw [htop]
  have Htop := Lib.hid htop
  clear htop
  unfold treeV
  go_enter Try.func19, Try.ntmps19
  go_wp2_with fail
  have hW := Aside0.mk (below_alloc (Below.refl w.heap.size w) (.cells #[.int .i64 l.length, .int .i64 (ht l.length), top] 29))
  have hG := Aside0.mk (heap_alloc_new w (.cells #[.int .i64 l.length, .int .i64 (ht l.length), top] 29))
  generalize w.alloc (.cells #[.int .i64 l.length, .int .i64 (ht l.length), top] 29) = wb at hW hG ⊢
  have HT1 := Aside0.mk (HT.out.keep (Keeps.below hW.out))
  have HR1 := Aside0.mk (HR.out.below hW.out)
  clear HT HR
  refine (len_any _ l.length top).mono ?_
  rintro e w1 ⟨rfl, hb⟩
  have HT2 := Aside0.mk (HT1.out.keep (Keeps.below hb))
  have HR2 := Aside0.mk (HR1.out.below hb)
  have HG2 := Aside0.mk ((hb.block _ (blk_lt hG.out)).trans hG.out)
  have HB2 := Aside0.mk (below_join hb hW.out)
  clear hb HT1 HR1 hG hW
  obtain ⟨c0', c1', c2'⟩ := cells3 HG2.out
  have Hroot := Lib.hid (root_any w1 l A HT2.out)
  rw [Htop.out] at Hroot
  go_wp2_with fail
  refine Hroot.out.mono ?_
  rintro e w2 ⟨rfl, hb⟩
  have HT3 := Aside0.mk (HT2.out.keep (Keeps.below hb))
  have HR3 := Aside0.mk (HR2.out.below hb)
  have HG3 := Aside0.mk ((hb.block _ (blk_lt HG2.out)).trans HG2.out)
  have HB3 := Aside0.mk (below_join hb HB2.out)
  clear hb HT2 HR2 HG2 HB2 c0' c1' c2' Hroot
  go_wp2_with fail
  refine (refroot_any _ A0 c0 l HR3.out (by omega)).mono ?_
  rintro e w3 ⟨rfl, hb⟩
  have HT4 := Aside0.mk (HT3.out.keep (Keeps.below hb))
  have HR4 := Aside0.mk (HR3.out.below hb)
  have HG4 := Aside0.mk ((hb.block _ (blk_lt HG3.out)).trans HG3.out)
  have HB4 := Aside0.mk (below_join hb HB3.out)
  clear hb HT3 HR3 HG3 HB3
  go_wp2_with fail
  go_loopw [5] (fun i wr => ∃ x : Int, -1 ≤ x ∧ x ≤ l.length + 1 ∧ i = .int .i64 x ∧ Aside0 (Below w3.heap.size w3 wr)) (fun i _ => ((l.length : Int) + 1 - intOf i).toNat)
  case atStart => exact ⟨-1, by omega, by omega, rfl, ⟨Below.refl _ _⟩⟩
  case round =>
    obtain ⟨x, hx0, hx1, rfl, HB⟩ := hrel
    have HTr := Aside0.mk (HT4.out.keep (Keeps.below HB.out))
    obtain ⟨c0', c1', c2'⟩ := cells3 ((HB.out.block _ (blk_lt HG4.out)).trans HG4.out)
    by_cases hle : x ≤ l.length
    · have hd0 : decide (x ≤ (l.length : Int)) = true := decide_eq_true hle
      by_cases hin : 0 ≤ x ∧ x < l.length
      · obtain ⟨hi0, hi1⟩ := hin
        have hc := Lib.hid (leaf_in wr l A HTr.out x hi0 hi1 (by omega))
        rw [Htop.out] at hc
        have hne : (x == (l.length : Int)) = false := by rw [beq_eq_false_iff_ne]; omega
        have hlt : decide (x < 0) = false := decide_eq_false (by omega)
        obtain ⟨ad, e1, hcell⟩ := (HR4.out.below HB.out).cell x.toNat (by omega)
        subst e1
        obtain ⟨s, hs⟩ : ∃ s, l.getD x.toNat 0 = s := ⟨_, rfl⟩
        rw [hs] at hcell hc
        clear hs
        go_wp2_with fail
        refine hc.out.mono ?_
        rintro e w5 ⟨rfl, hb⟩
        have HB5 := Aside0.mk (below_join hb HB.out)
        have hcell5 : w5.cell? (ad.add x.toNat) = some (.int .u64 s) := pw_cell_below hb hcell
        clear hb hcell hc c0' c1' c2'
        go_wp2
        go_roundw
        case rel => exact ⟨x + 1, by omega, by omega, rfl, HB5⟩
        case measure => simp [intOf]; omega
      · have hc := Lib.hid (leaf_no wr l.length top x hin)
        by_cases hlt : x < 0
        · have hd1 : decide (x < 0) = true := decide_eq_true hlt
          clear hin
          go_wp2_with fail
          refine hc.out.mono ?_
          rintro e w5 ⟨rfl, hb⟩
          have HB5 := Aside0.mk (below_join hb HB.out)
          clear hb hc c0' c1' c2'
          go_wp2
          go_roundw
          case rel => exact ⟨x + 1, by omega, by omega, rfl, HB5⟩
          case measure => simp [intOf]; omega
        · have hd1 : decide (x < 0) = false := decide_eq_false hlt
          have heq : (x == (l.length : Int)) = true := by rw [beq_iff_eq]; omega
          clear hin
          go_wp2_with fail
          refine hc.out.mono ?_
          rintro e w5 ⟨rfl, hb⟩
          have HB5 := Aside0.mk (below_join hb HB.out)
          clear hb hc c0' c1' c2'
          go_wp2
          go_roundw
          case rel => exact ⟨x + 1, by omega, by omega, rfl, HB5⟩
          case measure => simp [intOf]; omega
    · have hd0 : decide (x ≤ (l.length : Int)) = false := decide_eq_false hle
      go_wp2
      go_ret
      exact ⟨rfl, below_join HB.out HB4.out⟩
theorem same_nil (w : World) : Calls Try.prog 19 #[.agg #[.int .i64 0, .int .i64 0, .pointer none], .slice none 0 0] w fun e w' => e = .returned (.bool true) ∧ Below w.heap.size w w' := by
  have h := same_any w none 0 [] (fun _ _ => 0) (fun k _ p hp => absurd hp (by simp [sz_zero])) (Rd.nil w) (by decide)
  have e : treeV ([] : List Int).length (topP ([] : List Int).length (fun _ _ => 0)) = .agg #[.int .i64 0, .int .i64 0, .pointer none] := by
    unfold treeV topP
    rw [show ht ([] : List Int).length = 0 from ht_one (by decide)]
    rfl
  rw [e] at h
  exact h
theorem Keeps.setR {w : World} {base : Nat} {ok : Nat → Prop} {g n cap : Nat} {xs : List Int} (h : Kd.R (Kd.int .u64) 34 w base ok (.slice (some ⟨g, 0, none⟩) n cap) xs) (j : Nat) (u : Value) : Keeps w (w.setCell ⟨g, j, none⟩ u) := fun g' cs t ht hg => by
  obtain ⟨cells, hc⟩ := Kd.R_typed h g rfl
  exact blk_far hg (fun e => by
    subst e
    rw [hc] at hg
    injection hg with hg
    injection hg with _ hg _
    rcases ht with rfl | rfl <;> cases hg) u
theorem blk_setR {w : World} {base : Nat} {ok : Nat → Prop} {g n cap b : Nat} {xs : List Int} {cs : Array Value} (h : Kd.R (Kd.int .u64) 34 w base ok (.slice (some ⟨g, 0, none⟩) n cap) xs) (hb : w.heap[b]? = some (.cells cs 29 (0, 0))) (j : Nat) (u : Value) : (w.setCell ⟨g, j, none⟩ u).heap[b]? = some (.cells cs 29 (0, 0)) := by
  obtain ⟨cells, hc⟩ := Kd.R_typed h g rfl
  exact blk_far hb (fun e => by
    subst e
    rw [hc] at hb
    injection hb with hb
    injection hb with _ hb _
    cases hb) u
theorem build_long (w : World) (A0 : Option Addr) (c0 : Nat) (l : List Int) (hl : 100 < l.length) : Calls Try.prog 6 #[.slice A0 l.length c0] w fun e w' => e = .returned (.bool true) ∧ Below w.heap.size w w' := by
  have d1 : decide ((100 : Int) < (l.length : Int)) = true := decide_eq_true (by omega)
  have d2 : decide (100 < l.length) = true := decide_eq_true hl
  go_enter Try.func6, Try.ntmps6
  go_wp2_with fail
  refine (awake_any _).mono ?_
  rintro e w1 ⟨rfl, hb⟩
  have HB1 := Aside0.mk hb
  clear hb
  go_wp2_with fail
  refine (awake_any _).mono ?_
  rintro e w2 ⟨rfl, hb⟩
  have HB2 := Aside0.mk (below_join hb HB1.out)
  clear hb
  go_wp2
  go_ret
  exact ⟨rfl, HB2.out⟩
set_option maxHeartbeats 2000000 in
theorem build_short (w : World) (A0 : Option Addr) (c0 : Nat) (l : List Int) (h : Rd w A0 c0 l) (hl : l.length ≤ 100) : Calls Try.prog 6 #[.slice A0 l.length c0] w fun e w' => e = .returned (.bool true) ∧ Below w.heap.size w w' := by
  have d1 : decide ((100 : Int) < (l.length : Int)) = false := decide_eq_false (by omega)
  have d2 : decide (100 < l.length) = false := decide_eq_false (by omega)
  have HR := Aside0.mk h
  have HL := Aside0.mk hl
  clear h hl
  go_enter Try.func6, Try.ntmps6
  go_wp2_with fail
  refine (awake_any _).mono ?_
  rintro e w1 ⟨rfl, hb⟩
  have HB1 := Aside0.mk hb
  have HR1 := Aside0.mk (HR.out.below hb)
  clear hb HR
  go_wp2_with (first | ((with_reducible refine gate_dst (N := 14) rfl ?_); refine Kd.R_lit (Kd.int .u64) _ 34 ?hg (N := 14) ?hd (xs := ([] : List Int)) (inner := []) (ok := fun _ => True) (okp := fun _ => True) ?hr ?hp (fun _ hk => hk) trivial (Below.refl _ _) (Nat.le_refl _) (by simp) ?_; (case hd => rfl); (case hg => rfl); (case hr => first | (go_simp; done) | (go_simp; rfl)); (case hp => exact (Reps.none _ _)); intro v2 w2 ho hb _ _; have HO2 := Aside0.mk ho; have HB2 := Aside0.mk hb; clear ho hb) | ((with_reducible refine gate_builtin (b := .append) (xs := #[.tmp 14, .tmp 15]) rfl ?_); at_builtin; refine Kd.R_append_rows (Kd.int .u64) (w0 := w1) w1.heap.size rfl (.tmp 14) (.tmp 15) 22 34 (.int .u64 0) 8 rfl Try.underlying22 info34 rfl (by decide) (by omega) v2 [] l _ _ _ (fun _ => True) (fun _ => False) rfl rfl ?aO ?aR (fun _ _ h => h) (fun _ h => h.elim) (fun _ _ => trivial) ?aB ?aS ?aL ?_; (case aR => exact (HR1.out.below HB2.out).1); (case aB => exact HB2.out); (case aO => exact HO2.out); (case aS => exact below_size HB2.out); (case aL => have := HL.out; simp; omega); intro v3 w3 ho hb _ _; have HO3 := Aside0.mk ho; have HB3 := Aside0.mk hb; clear HO2 HB2 ho hb) | (fail))
  have hO3 := HO3.out
  rw [List.nil_append] at hO3
  obtain ⟨Ao, co, rfl⟩ := Kd.R_slice hO3
  have HO := Aside0.mk hO3
  have HRo := Aside0.mk (Rd.of_R hO3)
  clear hO3 HO3
  refine (build_any _ l Ao co (by have := HL.out; omega) HRo.out.2 HRo.out.1).mono ?_
  rintro e w4 ⟨A, rfl, hT, hb⟩
  have HT4 := Aside0.mk hT
  have HO4 := Aside0.mk (Kd.R_below HO.out hb)
  have HB4 := Aside0.mk (below_join hb HB3.out)
  clear hT hb HO HRo HB3
  obtain ⟨top, htop, hsh⟩ : ∃ top, topP l.length A = top ∧ (top = .pointer none ∨ ∃ a, top = .pointer (some a)) := ⟨_, rfl, by unfold topP; split; exact .inl rfl; exact .inr ⟨_, rfl⟩⟩
  rw [htop]
  have Htop := Lib.hid htop
  clear htop
  unfold treeV
  obtain ⟨pa, rfl⟩ : ∃ pa, top = .pointer pa := by rcases hsh with rfl | ⟨a, rfl⟩; exact ⟨_, rfl⟩; exact ⟨_, rfl⟩
  clear hsh
  go_wp2_with fail
  have hW := Aside0.mk (below_alloc (Below.refl w4.heap.size w4) (.cells #[.int .i64 l.length, .int .i64 (ht l.length), .pointer pa] 29))
  have hG := Aside0.mk (heap_alloc_new w4 (.cells #[.int .i64 l.length, .int .i64 (ht l.length), .pointer pa] 29))
  generalize w4.alloc (.cells #[.int .i64 l.length, .int .i64 (ht l.length), .pointer pa] 29) = wb at hW hG ⊢
  have HT5 := Aside0.mk (HT4.out.keep (Keeps.below hW.out))
  have HO5 := Aside0.mk (Kd.R_below HO4.out hW.out)
  have HB5 := Aside0.mk (hW.out.size |> fun _ => (HB4.out.trans (Below.mono hW.out (below_size HB4.out))))
  clear HT4 HO4 HB4 hW
  go_loopw [5] (fun i wr => ∃ (j : Nat) (xs : List Int), j ≤ l.length ∧ i = .int .i64 j ∧ Aside0 (xs.length = l.length) ∧ Aside0 (Kd.R (Kd.int .u64) 34 wr w1.heap.size (fun _ => True) (.slice Ao l.length co) xs) ∧ Aside0 (Tr wr l.length (SL l) A (ht l.length)) ∧ Aside0 (wr.heap[w4.heap.size]? = some (.cells #[.int .i64 l.length, .int .i64 (ht l.length), .pointer pa] 29 (0, 0))) ∧ Aside0 (Below w1.heap.size w1 wr)) (fun i _ => l.length - (intOf i).toNat)
  case atStart => exact ⟨0, l, by omega, rfl, ⟨rfl⟩, HO5, HT5, hG, HB5⟩
  case round =>
    obtain ⟨j, xs, hj, rfl, HX, HOx, HTx, HGx, HBx⟩ := hrel
    by_cases hlt : j < l.length
    · have hltI : (j : Int) < (l.length : Int) := by omega
      obtain ⟨g, cap, hv, hg1, hg2, _⟩ := Kd.R_form HOx.out (by rw [HX.out]; omega)
      injection hv with hv1 hv2 hv3
      subst hv1
      subst hv3
      have hcf := Kd.R_celln (0 : Int) HOx.out (j : Int) (by omega) hltI
      rw [Int.toNat_natCast] at hcf
      obtain ⟨x, hx⟩ : ∃ x, rdOf (0 : Int) xs (j : Int) = x := ⟨_, rfl⟩
      rw [hx] at hcf
      clear hx
      obtain ⟨hc, hf⟩ := hcf
      have Hg1 := Aside0.mk hg1
      clear hg1 hg2 hv2
      have hj9 : j ≤ 100 := by have := HL.out; omega
      go_wp2
      go_roundw
      case rel =>
        refine ⟨j + 1, xs.set j (IntKind.u64.wrap (x + 1)), by omega, by go_num, ⟨by rw [List.length_set]; exact HX.out⟩, ⟨?_⟩, ⟨HTx.out.keep (Keeps.setR HOx.out j _)⟩, ⟨blk_setR HOx.out HGx.out j _⟩, ⟨HBx.out.setCell (p := ⟨g, j, none⟩) Hg1.out _⟩⟩
        have h' := HOx.out
        rw [← HX.out] at h'
        have hp := (Kd.R_put h' (j : Int) (IntKind.u64.wrap (x + 1))).1
        rw [HX.out, Int.toNat_natCast] at hp
        exact hp
      case measure => simp [intOf]; omega
    · have hge : ¬ (j : Int) < (l.length : Int) := by omega
      obtain ⟨c0', c1', c2'⟩ := cells3 HGx.out
      have Hsame := Lib.hid (same_any wr A0 c0 l A HTx.out (HR1.out.below HBx.out) HL.out)
      rw [Htop.out] at Hsame
      go_wp2_with fail
      refine Hsame.out.mono ?_
      rintro e w6 ⟨rfl, hb⟩
      have HB6 := Aside0.mk (below_join hb (below_join HBx.out HB1.out))
      clear hb c0' c1' c2' Hsame
      go_wp2_with fail
      refine (same_nil _).mono ?_
      rintro e w7 ⟨rfl, hb⟩
      have HB7 := Aside0.mk (below_join hb HB6.out)
      clear hb
      go_wp2
      go_ret
      exact ⟨rfl, HB7.out⟩
theorem SumtreeBuild_row (a0 : Option Addr) (len0 cap0 : Nat) (z0 : List Int) (w : World) (w0 : IsRow .u64 w a0 len0 cap0 z0) (_y0 : len0 * 8 ≤ 140737488351232) :
    Calls Try.prog 6 #[.slice a0 len0 cap0] w fun e w' => e = .returned (.bool true) ∧ Below w.heap.size w w' := by
  obtain ⟨l, rfl, h⟩ := w0.rd
  rcases Nat.lt_or_ge 100 l.length with hl | hl
  · exact build_long w a0 cap0 l hl
  · exact build_short w a0 cap0 l h hl
end Go.Proofs.Ytpofcknfnipkgaa.ST
