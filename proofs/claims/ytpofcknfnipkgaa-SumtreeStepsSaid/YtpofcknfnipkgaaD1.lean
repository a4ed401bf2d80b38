/- set: the nodes above a sum are made anew. -/
import Derived.Test.YtpofcknfnipkgaaB3
namespace Go.Proofs.Ytpofcknfnipkgaa.ST
open Go.RowKit Go.Proofs.YtpofcknfnipkgaaW.PrintWords Go.Proofs.YtpofcknfnipkgaaW.PrintLast Go.Proofs.YtpofcknfnipkgaaW.PrintMore Go.Proofs.Ytpofcknfnipkgaa.PS
set_option linter.unusedVariables false
set_option linter.unusedSimpArgs false

theorem lv_set (l : List Int) (i : Nat) (s : Int) : ∀ k q, q ≠ i / 4 ^ k → (lv (l.set i s) k)[q]? = (lv l k)[q]?
  | 0, q, h => by
    simp only [Nat.pow_zero, Nat.div_one] at h
    simp only [lv]
    rw [List.getElem?_set_ne (fun e => h e.symm)]
  | k + 1, q, h => by
    have hl : (lv (l.set i s) k).length = (lv l k).length := by rw [lv_length, lv_length, List.length_set]
    have hg : ((lv (l.set i s) k).take (4 * q + 4)).drop (4 * q) = ((lv l k).take (4 * q + 4)).drop (4 * q) := by
      apply List.ext_getElem?
      intro j
      simp only [List.getElem?_drop, List.getElem?_take]
      by_cases hj : 4 * q + j < 4 * q + 4
      · rw [if_pos hj, if_pos hj]
        refine lv_set l i s k (4 * q + j) (fun e => h ?_)
        rw [anc_succ, ← e]
        omega
      · rw [if_neg hj, if_neg hj]
    show (nxt (lv (l.set i s) k))[q]? = (nxt (lv l k))[q]?
    unfold nxt
    rw [hl]
    by_cases hq : q < ((lv l k).length + 3) / 4
    · simp only [List.getElem?_map]
      rw [List.getElem?_range hq]
      simp only [Option.map_some]
      rw [hg]
    · rw [List.getElem?_eq_none (by simp; omega), List.getElem?_eq_none (by simp; omega)]
theorem SL_set (l : List Int) (i : Nat) (s : Int) (k q : Nat) (h : q ≠ i / 4 ^ k) : SL (l.set i s) k q = SL l k q := by
  unfold SL
  rw [List.getD_eq_getElem?_getD, lv_set l i s k q h, List.getD_eq_getElem?_getD]
/-- Nodes in blocks from base on. -/
def NodeNew (w : World) (base : Nat) (n : Nat) (S : Nat → Nat → Int) (A : Nat → Nat → Nat) : Nat → Nat → Prop
  | 0, p => base ≤ A 0 p ∧ NodeB w (A 0 p) (S 0 p) (.slice none 0 0)
  | k + 1, p => base ≤ A (k + 1) p ∧ ∃ (B off c : Nat) (cs : Array Value), base ≤ B ∧ NodeB w (A (k + 1) p) (S (k + 1) p) (.slice (some ⟨B, off, none⟩) (mm n k p) c) ∧ mm n k p ≤ c ∧ w.heap[B]? = some (.cells cs 27 (0, 0)) ∧ ∀ j, j < mm n k p → cs[off + j]? = some (.pointer (some ⟨A k (4 * p + j), 0, none⟩))
section
variable {w w' : World} {base base' n : Nat} {S : Nat → Nat → Int} {A A' : Nat → Nat → Nat}
theorem NodeNew.ok : ∀ {k p : Nat}, NodeNew w base n S A k p → NodeOK w n S A k p
  | 0, _, h => h.2
  | _ + 1, _, ⟨_, B, off, c, cs, _, h1, h2, h3, h4⟩ => ⟨B, off, c, cs, h1, h2, h3, h4⟩
theorem NodeNew.new : ∀ {k p : Nat}, NodeNew w base n S A k p → base ≤ A k p
  | 0, _, h => h.1
  | _ + 1, _, h => h.1
theorem NodeNew.lower (hb : base' ≤ base) : ∀ {k p : Nat}, NodeNew w base n S A k p → NodeNew w base' n S A k p
  | 0, _, h => ⟨Nat.le_trans hb h.1, h.2⟩
  | _ + 1, _, ⟨h0, B, off, c, cs, hB, h1, h2, h3, h4⟩ => ⟨Nat.le_trans hb h0, B, off, c, cs, Nat.le_trans hb hB, h1, h2, h3, h4⟩
theorem NodeNew.move (hm : ∀ g, base ≤ g → g < w.heap.size → w'.heap[g]? = w.heap[g]?) : ∀ {k p : Nat}, NodeNew w base n S A k p → NodeNew w' base n S A k p
  | 0, _, h => ⟨h.1, (hm _ h.1 (blk_lt h.2)).trans h.2⟩
  | _ + 1, _, ⟨h0, B, off, c, cs, hB, h1, h2, h3, h4⟩ => ⟨h0, B, off, c, cs, hB, (hm _ h0 (blk_lt h1)).trans h1, h2, (hm _ hB (blk_lt h3)).trans h3, h4⟩
theorem NodeNew.congr : ∀ {k p : Nat}, (∀ j, j ≤ k → A j = A' j) → NodeNew w base n S A k p → NodeNew w base n S A' k p
  | 0, p, h, hN => by
    obtain ⟨h1, h2⟩ := hN
    rw [h 0 (Nat.le_refl _)] at h1 h2
    exact ⟨h1, h2⟩
  | k + 1, p, h, hN => by
    obtain ⟨h0, B, off, c, cs, hB, h1, h2, h3, h4⟩ := hN
    exact ⟨by rw [← h (k + 1) (Nat.le_refl _)]; exact h0, B, off, c, cs, hB, by rw [← h (k + 1) (Nat.le_refl _)]; exact h1, h2, h3, fun j hj => by rw [← h k (by omega)]; exact h4 j hj⟩
end
/-- The addresses of the changed tree: those above place i are new. -/
def patch (A : Nat → Nat → Nat) (P : Nat → Nat) (i : Nat) : Nat → Nat → Nat := fun k q => if q = i / 4 ^ k then P k else A k q
theorem row_C (W : World) (B off m : Nat) (xs : List Nat) (hx : xs.length = m) (hm : m ≤ 1000) (h : ∀ j, j < m → W.cell? ⟨B, off + j, none⟩ = some (.pointer (some ⟨xs.getD j 0, 0, none⟩))) : pk.C W (some ⟨B, off, none⟩) m xs :=
  Kd.C_of_reads (d := (0 : Nat)) ⟨hx, by omega, fun _ => ⟨_, rfl, fun j hj => by rw [add_at]; exact h j hj⟩⟩
theorem patch_on (A : Nat → Nat → Nat) (P : Nat → Nat) (i k : Nat) : patch A P i k (i / 4 ^ k) = P k := by unfold patch; rw [if_pos rfl]
theorem patch_off (A : Nat → Nat → Nat) (P : Nat → Nat) (i k q : Nat) (h : q ≠ i / 4 ^ k) : patch A P i k q = A k q := by unfold patch; rw [if_neg h]
/-- What the store of the new kid leaves. -/
theorem stored_row {w4 : World} {base g m cap kd : Nat} {ks : List Nat} (h : pk.R 27 w4 base (fun _ => True) (.slice (some ⟨g, 0, none⟩) m cap) ks) (hl : ks.length = m) (x : Nat) : pk.R 27 (w4.setCell ⟨g, kd, none⟩ (.pointer (some ⟨x, 0, none⟩))) base (fun _ => True) (.slice (some ⟨g, 0, none⟩) m cap) (ks.set kd x) := by
  subst hl
  have hp := (Kd.R_put h (kd : Int) x).1
  rwa [Int.toNat_natCast] at hp
theorem set_get (ks : List Nat) (kd x j : Nat) (hj : j < ks.length) : (ks.set kd x).getD j 0 = if j = kd then x else ks.getD j 0 := by
  rw [List.getD_eq_getElem?_getD, List.getD_eq_getElem?_getD, List.getElem?_set]
  by_cases h : kd = j
  · subst h; simp [hj]
  · rw [if_neg h, if_neg (fun e => h e.symm)]
theorem group_get (row : List Int) (q j : Nat) (hj : j < 4) : ((row.take (4 * q + 4)).drop (4 * q)).getD j 0 = row.getD (4 * q + j) 0 := by
  simp [List.getD_eq_getElem?_getD, List.getElem?_drop, List.getElem?_take, hj]
theorem set_step (l : List Int) (i : Nat) (s : Int) (A : Nat → Nat → Nat) (P : Nat → Nat) (k : Nat) (w w3 w4 : World) (g m cap kd : Nat) (ks : List Nat) (hi : i < l.length) (hk : k + 1 ≤ ht l.length)
    (hT : Tr w l.length (SL l) A (ht l.length)) (hm : mm l.length k (i / 4 ^ (k + 1)) = m) (hkl : ks.length = m) (hkg : ∀ j, j < m → ks.getD j 0 = A k (4 * (i / 4 ^ (k + 1)) + j)) (hkd : kd = i / 4 ^ k % 4) (hlt : kd < m)
    (hP : ∀ j, j ≤ k → NodeNew w4 w3.heap.size l.length (SL (l.set i s)) (patch A P i) j (i / 4 ^ j)) (hO4 : pk.R 27 w4 w.heap.size (fun _ => True) (.slice (some ⟨g, 0, none⟩) m cap) ks) (hb4 : Below w.heap.size w w4) (hg1 : w.heap.size ≤ g) (hg2 : g < w3.heap.size) (h34 : w.heap.size ≤ w3.heap.size) :
    Calls Try.prog 29 #[.slice (some ⟨g, 0, none⟩) m cap] (w4.setCell ⟨g, kd, none⟩ (.pointer (some ⟨P k, 0, none⟩))) fun e w' => ∃ a, e = .returned (.pointer (some ⟨a, 0, none⟩)) ∧
      (∀ j, j ≤ k + 1 → NodeNew w' w.heap.size l.length (SL (l.set i s)) (patch A (fun j => if j = k + 1 then a else P j) i) j (i / 4 ^ j)) ∧ Below w.heap.size w w' := by
  have hm4 : m ≤ 4 := by rw [← hm]; unfold mm; omega
  have hll : (l.set i s).length = l.length := List.length_set
  have hO5 := stored_row (kd := kd) hO4 hkl (P k)
  have hb5 := hb4.setCell (p := ⟨g, kd, none⟩) hg1 (.pointer (some ⟨P k, 0, none⟩))
  have hP5 : ∀ j, j ≤ k → NodeNew (w4.setCell ⟨g, kd, none⟩ (.pointer (some ⟨P k, 0, none⟩))) w3.heap.size l.length (SL (l.set i s)) (patch A P i) j (i / 4 ^ j) := fun j hj => (hP j hj).move (fun g' hg' _ => Below.heap_setCell w4 ⟨g, kd, none⟩ _ g' (by simp; omega))
  generalize w4.setCell ⟨g, kd, none⟩ (.pointer (some ⟨P k, 0, none⟩)) = ws at hO5 hb5 hP5 ⊢
  have hat : ∀ j, (4 * (i / 4 ^ (k + 1)) + j = i / 4 ^ k) ↔ j = kd := fun j => by
    have := kid_at i k
    constructor <;> intro h <;> omega
  have han : ∀ j, j < m → (ks.set kd (P k)).getD j 0 = patch A P i k (4 * (i / 4 ^ (k + 1)) + j) := fun j hj => by
    rw [set_get _ _ _ _ (by omega)]
    unfold patch
    by_cases h : j = kd
    · rw [if_pos h, if_pos ((hat j).2 h)]
    · rw [if_neg h, if_neg (fun e => h ((hat j).1 e)), hkg j hj]
  have hss : (((lv (l.set i s) k).take (4 * (i / 4 ^ (k + 1)) + 4)).drop (4 * (i / 4 ^ (k + 1)))).length = m := by
    rw [← hm]; simp [lv_length, mm]; omega
  have hsz : ∀ j, j < m → 4 * (i / 4 ^ (k + 1)) + j < sz l.length k := fun j hj => by rw [← hm] at hj; unfold mm at hj; omega
  refine (join_any ws g 0 m cap (fun j => (ks.set kd (P k)).getD j 0) _ hss (by omega) (fun j hj => ?_) (fun j hj => ?_)).mono ?_
  · rw [Nat.zero_add]; exact pk_cell hO5 j hj
  · rw [group_get _ _ _ (by omega)]
    show ws.cell? ⟨(ks.set kd (P k)).getD j 0, 0, none⟩ = some (.int .u64 (SL (l.set i s) k (4 * (i / 4 ^ (k + 1)) + j)))
    rw [han j hj]
    by_cases h : 4 * (i / 4 ^ (k + 1)) + j = i / 4 ^ k
    · rw [h]
      exact (hP5 k (Nat.le_refl _)).ok.sum
    · rw [patch_off _ _ _ _ _ h, SL_set _ _ _ _ _ h]
      exact ((hT.keep (Keeps.below hb5)) k (by omega) _ (hsz j hj)).sum
  · rintro e w6 ⟨a, rfl, ha, hN, hb⟩
    refine ⟨a, rfl, fun j hj => ?_, below_join hb hb5⟩
    have hcong : ∀ j', j' ≤ k → patch A P i j' = patch A (fun j => if j = k + 1 then a else P j) i j' := fun j' hj' => by
      funext q
      unfold patch
      by_cases hq : q = i / 4 ^ j'
      · rw [if_pos hq, if_pos hq]
        simp only [if_neg (show ¬ j' = k + 1 by omega)]
      · rw [if_neg hq, if_neg hq]
    rcases Nat.lt_or_ge j (k + 1) with hjk | hjk
    · exact (((hP5 j (by omega)).move (fun g' _ hlt => hb.block g' hlt)).lower h34).congr (fun j' hj' => hcong j' (by omega))
    · obtain rfl : j = k + 1 := by omega
      have hO6 := Kd.R_below hO5 hb
      obtain ⟨cs, hcs1, _, hcs2⟩ := pk_block hO6
      have hsl : SL (l.set i s) (k + 1) (i / 4 ^ (k + 1)) = runV (((lv (l.set i s) k).take (4 * (i / 4 ^ (k + 1)) + 4)).drop (4 * (i / 4 ^ (k + 1)))) := SL_up (l.set i s) k _ (by rw [hll]; exact sz_anc hi _)
      have hcap : m ≤ cap := (Kd.R_reads' hO6).2.1
      refine ⟨?_, g, 0, cap, cs, hg1, ?_, by rw [hm]; exact hcap, hcs1, fun j hj => ?_⟩
      · rw [patch_on]
        simp only [if_true]
        exact Nat.le_trans (below_size hb5) ha
      · rw [patch_on, hsl, hm]
        simp only [if_true]
        exact hN
      · rw [hm] at hj
        rw [Nat.zero_add, hcs2 j hj, han j hj, hcong k (Nat.le_refl _)]
set_option maxHeartbeats 4000000 in
theorem set_any (l : List Int) (i : Nat) (s : Int) (A : Nat → Nat → Nat) (hi : i < l.length) (hn : l.length ≤ 900) : ∀ (k : Nat), k ≤ ht l.length → ∀ (w : World), Tr w l.length (SL l) A (ht l.length) →
    Calls Try.prog 38 #[.pointer (some ⟨A k (i / 4 ^ k), 0, none⟩), .int .i64 k, .int .i64 i, .int .u64 s] w fun e w' => ∃ P : Nat → Nat, e = .returned (.pointer (some ⟨P k, 0, none⟩)) ∧
      (∀ j, j ≤ k → NodeNew w' w.heap.size l.length (SL (l.set i s)) (patch A P i) j (i / 4 ^ j)) ∧ Below w.heap.size w w' := by
  intro k
  induction k with
  | zero =>
    intro hk w hT
    clear hT
    go_enter Try.func38, Try.ntmps38
    go_wp2
    go_ret
    refine ⟨fun _ => w.heap.size, rfl, fun j hj => ?_, below_alloc (Below.refl _ _) _⟩
    obtain rfl : j = 0 := by omega
    have hs : SL (l.set i s) 0 (i / 4 ^ 0) = s := by
      simp only [SL, lv, Nat.pow_zero, Nat.div_one]
      rw [List.getD_eq_getElem?_getD, List.getElem?_set_self hi]
      rfl
    refine ⟨by rw [patch_on]; exact Nat.le_refl _, ?_⟩
    rw [patch_on, hs]
    exact heap_alloc_new _ _
  | succ k ih =>
    intro hk w hT
    have h5 := ht_5 hn
    have HT := Aside0.mk hT
    have Hih := Lib.hid (fun w h => ih (by omega) w h)
    obtain ⟨B, off, c, hk1, hk2, hk3⟩ := (hT (k + 1) hk (i / 4 ^ (k + 1)) (sz_anc hi _)).kids
    obtain ⟨m, hm⟩ : ∃ m, mm l.length k (i / 4 ^ (k + 1)) = m := ⟨_, rfl⟩
    rw [hm] at hk1 hk2 hk3
    have hm4 : m ≤ 4 := by rw [← hm]; unfold mm; omega
    obtain ⟨kd, hkd⟩ : ∃ kd : Nat, ((i : Int) / 2 ^ (2 * k)).tmod 4 = (kd : Int) := ⟨_, kid_way i k (by omega)⟩
    have hkd2 : kd = i / 4 ^ k % 4 := by have := (kid_way i k (by omega)).symm.trans hkd; omega
    have hlt : kd < m := by rw [← hm, hkd2]; exact kid_lt hi k
    obtain ⟨ks, hks⟩ : ∃ ks, (List.range m).map (fun j => A k (4 * (i / 4 ^ (k + 1)) + j)) = ks := ⟨_, rfl⟩
    have hkl : ks.length = m := by rw [← hks]; simp
    have hkg : ∀ j, j < m → ks.getD j 0 = A k (4 * (i / 4 ^ (k + 1)) + j) := fun j hj => by rw [← hks]; simp [List.getD_eq_getElem?_getD, hj]
    have HC := Aside0.mk (row_C w B off m ks hkl (by omega) (fun j hj => by rw [hkg j hj]; exact hk3 j hj))
    have hkk : ks.getD kd 0 = A k (i / 4 ^ k) := by rw [hkg kd hlt, hkd2, kid_at]
    have Hkk := Lib.hid hkk
    have Hkl := Lib.hid hkl
    have Hkg := Aside0.mk hkg
    have Hkd2 := Lib.hid hkd2
    have Hm := Lib.hid hm
    have Hk1 := Aside0.mk hk1
    have h0 : (0 : Int) ≤ 2 * (k : Int) := by omega
    have h0' : decide ((0 : Int) ≤ 2 * (k : Int)) = true := decide_eq_true h0
    have hkne : (((k + 1 : Nat) : Int) == 0) = false := by rw [beq_eq_false_iff_ne]; omega
    have hkd0 : (0 : Int) ≤ (kd : Int) := by omega
    have hkd1 : (kd : Int) < (m : Int) := by omega
    have halt := World.block_lt_of_cell? w _ hk1
    clear hT ih hk3 hm hkd2 hks hkl hkg hkk
    go_enter Try.func38, Try.ntmps38
    go_wp2_with (first | ((with_reducible refine gate_dst (N := 22) rfl ?_); refine Kd.R_lit pk _ 27 ?hg (N := 22) ?hd (xs := ([] : List Nat)) (inner := []) (ok := fun _ => True) (okp := fun _ => True) ?hr ?hp (fun _ hk => hk) trivial (Below.refl _ _) (Nat.le_refl _) (by simp) ?_; (case hd => rfl); (case hg => rfl); (case hr => first | (go_simp; done) | (go_simp; rfl)); (case hp => exact (Reps.none _ _)); intro v2 w2 ho hb _ _; have HO2 := Aside0.mk ho; have HB2 := Aside0.mk hb; have hk12 := pw_cell_below hb Hk1.out; clear ho hb) | ((with_reducible refine gate_builtin (b := .append) (xs := #[.tmp 22, .tmp 26]) rfl ?_); at_builtin; refine Kd.R_append_rows pk (w0 := w) w.heap.size rfl (.tmp 22) (.tmp 26) 58 27 (.pointer none) 8 rfl Try.underlying58 info27 rfl (by decide) (by omega) v2 [] ks _ _ _ (fun _ => True) (fun _ => False) rfl rfl ?aO ?aR (fun _ _ h => h) (fun _ h => h.elim) (fun _ _ => trivial) ?aB ?aS ?aL ?_; (case aR => exact (Kd.C_below HC.out HB2.out)); (case aB => exact HB2.out); (case aO => exact HO2.out); (case aS => exact below_size HB2.out); (case aL => simp; omega); intro v3 w3 ho hb _ _; rw [List.nil_append] at ho; obtain ⟨g, cap, hv, hg1, hg2, _⟩ := Kd.R_form ho (by rw [Hkl.out]; omega); rw [Hkl.out] at hv; subst hv; have hcg := pk_cell ho kd hlt; rw [Hkk.out] at hcg; have HO3 := Aside0.mk ho; have HB3 := Aside0.mk hb; have HG1 := Aside0.mk hg1; have HG2 := Aside0.mk hg2; clear HO2 HB2 hk12 ho hb hg1 hg2) | (fail))
    refine (Hih.out w3 (HT.out.keep (Keeps.below HB3.out))).mono ?_
    rintro e w4 ⟨P, rfl, hP, hb⟩
    have HP := Aside0.mk hP
    have HO4 := Aside0.mk (Kd.R_below HO3.out hb)
    have HB4' := Aside0.mk hb
    have HB4 := Aside0.mk (below_join hb HB3.out)
    have hfg : w4.frozen? ⟨g, kd, none⟩ = false := by
      have := (Kd.R_celln (0 : Nat) HO4.out (kd : Int) hkd0 hkd1).2
      rwa [Int.toNat_natCast] at this
    have hcg4 := pk_cell HO4.out kd hlt
    clear hP hb hcg HO3
    go_wp2_with fail
    refine (set_step l i s A P k w w3 w4 g m cap kd ks hi hk HT.out Hm.out Hkl.out Hkg.out Hkd2.out hlt HP.out HO4.out HB4.out HG1.out HG2.out (below_size HB3.out)).mono ?_
    rintro e w6 ⟨a, rfl, hN, hb⟩
    have HN := Aside0.mk hN
    have HB6 := Aside0.mk hb
    clear hN hb
    go_wp2
    go_ret
    exact ⟨fun j => if j = k + 1 then a else P j, by simp, HN.out, HB6.out⟩
end Go.Proofs.Ytpofcknfnipkgaa.ST
