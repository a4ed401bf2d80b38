/- Path and Leaf: the walk down a tree in memory. -/
import Derived.Test.YtpofcknfnipkgaaA4
namespace Go.Proofs.Ytpofcknfnipkgaa.ST
open Go.RowKit Go.Proofs.YtpofcknfnipkgaaW.PrintWords Go.Proofs.YtpofcknfnipkgaaW.PrintLast Go.Proofs.YtpofcknfnipkgaaW.PrintMore Go.Proofs.Ytpofcknfnipkgaa.PS
set_option linter.unusedVariables false
set_option linter.unusedSimpArgs false

def SL (l : List Int) (k q : Nat) : Int := (lv l k).getD q 0
/-- As Below, but for one block. -/
structure KB (w w' : World) (b : Nat) : Prop where
  os : w'.os = w.os
  tape : w'.tape = w.tape
  output : w'.output = w.output
  size : w.heap.size ≤ w'.heap.size
  block : ∀ i, i < w.heap.size → i ≠ b → w'.heap[i]? = w.heap[i]?
theorem KB.of_below {w w' : World} (h : Below w.heap.size w w') (b : Nat) : KB w w' b := ⟨h.os, h.tape, h.output, h.size, fun i hi _ => h.block i hi⟩
theorem KB.trans {w w1 w2 : World} {b : Nat} (h : KB w w1 b) (k : KB w1 w2 b) : KB w w2 b := ⟨k.os.trans h.os, k.tape.trans h.tape, k.output.trans h.output, Nat.le_trans h.size k.size, fun i hi hb => (k.block i (Nat.lt_of_lt_of_le hi h.size) hb).trans (h.block i hi hb)⟩
theorem KB.set_ {w w1 : World} {b : Nat} (h : KB w w1 b) (j : Nat) (u : Value) : KB w (w1.setCell ⟨b, j, none⟩ u) b := by
  have hk := KeepBut.set_ (w := w) (w1 := w1) (g := b) (row := none) ⟨h.size, fun i hi hb _ => h.block i hi hb⟩ j u
  have hb := (Below.refl b w1).setCell (p := ⟨b, j, none⟩) (Nat.le_refl _) u
  exact ⟨hb.os.trans h.os, hb.tape.trans h.tape, hb.output.trans h.output, hk.1, fun i hi hne => hk.2 i hi hne (by simp)⟩
theorem KB.to_below {w w' : World} {b B : Nat} (h : KB w w' b) (hb : B ≤ b) (hB : B ≤ w.heap.size) : Below B w w' := ⟨h.os, h.tape, h.output, h.size, fun i hi => h.block i (by omega) (by omega)⟩
theorem Keeps.keepBut {w w' : World} {b : Nat} {x : Array Value} (hb : w.heap[b]? = some (.cells x 22 (0, 0))) (h : KB w w' b) : Keeps w w' := fun g cs t ht hg => by
  have hne : g ≠ b := by
    intro e
    subst e
    rw [hb] at hg
    injection hg with hg
    injection hg with _ hg _
    rcases ht with rfl | rfl <;> cases hg
  exact (h.block g (blk_lt hg) hne).trans hg
theorem gat_step (row : List Int) (P d j : Nat) (h : j < row.length) : gat row P (d + 1) j = if j = P then gat row P d (j + 1) else row.getD j 0 :: gat row P d (j + 1) := by
  rw [gat, if_pos h]
theorem gat_end (row : List Int) (P m p : Nat) (hm : m = min 4 (row.length - 4 * p)) (hp : 4 * p < row.length) : gat row P (4 - m) (4 * p + m) = [] := by
  by_cases h4 : m = 4
  · rw [h4]; rfl
  · cases h : 4 - m with
    | zero => rfl
    | succ d => rw [gat, if_neg (by omega)]
set_option maxHeartbeats 2000000 in
theorem path1_any (w : World) (l : List Int) (A : Nat → Nat → Nat) (k p kid b c0 : Nat) (A0 : Option Addr) (out : List Int) (hl : l.length ≤ 900) (hN : NodeOK w l.length (SL l) A (k + 1) p) (hK : ∀ j, j < mm l.length k p → NodeOK w l.length (SL l) A k (4 * p + j))
    (hp : 4 * p < sz l.length k) (hkid : kid < 4) (hout : out.length ≤ 1000) (hc0 : out.length ≤ c0) (hC : Kd.C (Kd.int .u64) w A0 out.length out) (hb : w.heap[b]? = some (.cells #[.slice A0 out.length c0] 22 (0, 0))) :
    Calls Try.prog 28 #[.pointer (some ⟨A (k + 1) p, 0, none⟩), .int .i64 kid, .pointer (some ⟨b, 0, none⟩)] w fun e w' => e = .returned (.tuple #[]) ∧ ∃ v1, Kd.R (Kd.int .u64) 34 w' w.heap.size (fun _ => True) v1 (gat (lv l k) (4 * p + kid) 4 (4 * p) ++ out) ∧
      w'.heap[b]? = some (.cells #[v1] 22 (0, 0)) ∧ KB w w' b := by
  obtain ⟨B, off, c, h1, h2, h3⟩ := hN.kids
  have hm4 : mm l.length k p ≤ 4 := by unfold mm; omega
  have hm1 : mm l.length k p = min 4 ((lv l k).length - 4 * p) := by rw [lv_length]; rfl
  have HK := Lib.hid hK
  have HC := Lib.hid hC
  have HB0 := Lib.hid hb
  have hcb : w.cell? ⟨b, 0, none⟩ = some (.slice A0 out.length c0) := (blk_cell hb 0).trans rfl
  have hfb : w.frozen? ⟨b, 0, none⟩ = false := blk_frozen hb 0
  have hblt := blk_lt hb
  have hplt : A (k + 1) p < w.heap.size := World.block_lt_of_cell? w _ h1
  obtain ⟨m, hm⟩ : ∃ m, m = mm l.length k p := ⟨_, rfl⟩
  rw [← hm] at h1 h2 h3 hm4 hm1 HK
  have Hm1 := Lib.hid hm1
  have H3 := Lib.hid h3
  clear hN hK hC hb hm hm1 h3
  go_enter Try.func28, Try.ntmps28
  go_wp2
  go_loopw [5, 13] (fun v i wr => ∃ (j : Nat) (xs : List Int), j ≤ m ∧ i = .int .i64 j ∧ Aside0 (xs ++ gat (lv l k) (4 * p + kid) (4 - j) (4 * p + j) = gat (lv l k) (4 * p + kid) 4 (4 * p)) ∧ Aside0 (xs.length ≤ j) ∧ Aside0 (Kd.R (Kd.int .u64) 34 wr w.heap.size (fun _ => True) v xs) ∧ Aside0 (Below w.heap.size w wr)) (fun _ i _ => m - (intOf i).toNat)
  case atStart => exact ⟨0, [], by omega, rfl, ⟨by simp⟩, ⟨by simp⟩, ⟨Kd.R_nil _ _ _ _ _⟩, ⟨Below.refl _ _⟩⟩
  case round =>
    obtain ⟨j, xs, hj, rfl, HG, HX, HR, HB⟩ := hrel
    by_cases hlt : j < m
    · have hcj : wr.cell? ⟨B, off + j, none⟩ = some (.pointer (some ⟨A k (4 * p + j), 0, none⟩)) := pw_cell_below HB.out (H3.out j hlt)
      have hcs : wr.cell? ⟨A k (4 * p + j), 0, none⟩ = some (.int .u64 (SL l k (4 * p + j))) := pw_cell_below HB.out (HK.out j hlt).sum
      obtain ⟨s, hs⟩ : ∃ s, SL l k (4 * p + j) = s := ⟨_, rfl⟩
      rw [hs] at hcs
      have Hs := Lib.hid hs
      clear hs
      have Hj := Aside0.mk (show j < (lv l k).length - 4 * p by have := Hm1.out; omega)
      by_cases hk : j = kid
      · have hne : ((j : Int) != (kid : Int)) = false := by simp [hk]
        have Hk := Lib.hid hk
        clear hk
        go_wp2
        go_roundw
        case rel =>
          refine ⟨j + 1, xs, by omega, by go_num, ⟨?_⟩, ⟨by have := HX.out; omega⟩, HR, HB⟩
          have := HG.out
          rw [show 4 - j = (4 - (j + 1)) + 1 by omega, gat_step _ _ _ _ (by have := Hj.out; omega), if_pos (by rw [Hk.out])] at this
          exact this
        case measure => simp [intOf]; omega
      · have hne : ((j : Int) != (kid : Int)) = true := by rw [bne_iff_ne]; omega
        have Hk := Lib.hid hk
        clear hk
        go_wp2_with ((with_reducible refine gate_builtin (b := .append) (xs := #[.tmp 21, .tmp 26]) rfl ?_); at_builtin; refine Kd.R_append (Kd.int .u64) (w0 := w) w.heap.size rfl (.tmp 21) (.tmp 26) 22 34 (.int .u64 0) 8 rfl Try.underlying22 info34 rfl (by decide) (by omega) _ xs s [.int .u64 s] (fun _ => True) (fun _ => False) rfl rfl ?aP (fun _ hk => hk.elim) (fun _ _ => trivial) ?aO ?aB ?aS ?aL ?_; (case aP => exact rfl); (case aB => exact HB.out); (case aO => exact HR.out); (case aS => exact (below_size HB.out)); (case aL => have := HX.out; omega); intro v1 w1 ho hb1 _ _; have HR1 := Aside0.mk ho; have HB1 := Aside0.mk hb1; clear HR HB ho hb1)
        go_roundw
        case rel =>
          refine ⟨j + 1, xs ++ [s], by omega, by go_num, ⟨?_⟩, ⟨by have := HX.out; simp; omega⟩, HR1, HB1⟩
          have := HG.out
          rw [show 4 - j = (4 - (j + 1)) + 1 by omega, gat_step _ _ _ _ (by have := Hj.out; omega), if_neg (by have := Hk.out; omega)] at this
          rw [← this, ← Hs.out]
          simp [SL, Nat.add_assoc]
        case measure => simp [intOf]; omega
    · have hjm : j = m := by omega
      obtain ⟨Ao, co, rfl⟩ := Kd.R_slice HR.out
      have hcb1 : wr.cell? ⟨b, 0, none⟩ = some (.slice A0 out.length c0) := pw_cell_below HB.out hcb
      have hfb1 : wr.frozen? ⟨b, 0, none⟩ = false := blk_frozen ((HB.out.block b hblt).trans HB0.out) 0
      have hge : ¬ (j : Int) < (m : Int) := by omega
      go_wp2_with ((with_reducible refine gate_builtin (b := .append) (xs := #[.tmp 29, .tmp 30]) rfl ?_); at_builtin; refine Kd.R_append_rows (Kd.int .u64) (w0 := w) w.heap.size rfl (.tmp 29) (.tmp 30) 22 34 (.int .u64 0) 8 rfl Try.underlying22 info34 rfl (by decide) (by omega) _ xs out _ _ _ (fun _ => True) (fun _ => False) rfl rfl ?aO ?aR (fun _ _ h => h) (fun _ h => h.elim) (fun _ _ => trivial) ?aB ?aS ?aL ?_; (case aR => exact (Kd.C_below HC.out HB.out)); (case aB => exact HB.out); (case aO => exact HR.out); (case aS => exact (below_size HB.out)); (case aL => have := HX.out; omega); intro v1 w1 ho hb1 hg hat; obtain ⟨A2, c2, rfl⟩ := Kd.R_slice ho; have hcb2 := pw_cell_below hb1 hcb; have hfb2 : w1.frozen? ⟨b, 0, none⟩ = false := blk_frozen ((hb1.block b hblt).trans HB0.out) 0; have HR1 := Aside0.mk ho; have HB1 := Aside0.mk hb1; clear HR HB ho hb1 hg hat)
      go_end0
      have hgat : xs ++ out = gat (lv l k) (4 * p + kid) 4 (4 * p) ++ out := by
        have := HG.out
        rw [hjm, gat_end _ _ m p Hm1.out (by rw [lv_length]; exact hp), List.append_nil] at this
        rw [this]
      have hb1 : w1.heap[b]? = some (.cells #[.slice A0 out.length c0] 22 (0, 0)) := (HB1.out.block b hblt).trans HB0.out
      refine ⟨rfl, _, ?_, (blk_set hb1 0 _).trans rfl, (KB.of_below HB1.out b).set_ 0 _⟩
      rw [← hgat]
      have hfin := Kd.R_set HR1.out hb1 (by decide) 0 (.slice A2 (xs ++ out).length c2)
      rw [List.length_append] at hfin
      exact hfin
theorem sibs_gat (l : List Int) (i k : Nat) : gat (lv l k) (4 * (i / 4 ^ (k + 1)) + i / 4 ^ k % 4) 4 (4 * (i / 4 ^ (k + 1))) = sibs (lv l k) (i / 4 ^ k) := by
  rw [kid_at, anc_succ, Nat.mul_comm 4]; rfl
set_option maxHeartbeats 2000000 in
theorem way_path (w : World) (l : List Int) (A : Nat → Nat → Nat) (i b : Nat) (hT : Tr w l.length (SL l) A (ht l.length)) (hi : i < l.length) (hn : l.length ≤ 900) (hb0 : w.heap[b]? = some (.cells #[.slice none 0 0] 22 (0, 0))) :
    Calls Try.prog 27 #[treeV l.length (.pointer (some ⟨A (ht l.length) 0, 0, none⟩)), .int .i64 i, .func (.func 28) #[] #[.pointer (some ⟨b, 0, none⟩)]] w fun e w' => e = .returned (.pointer (some ⟨A 0 i, 0, none⟩)) ∧
      ∃ v1, Kd.R (Kd.int .u64) 34 w' w.heap.size (fun _ => True) v1 (pathV l i) ∧ w'.heap[b]? = some (.cells #[v1] 22 (0, 0)) ∧ KB w w' b := by
  have HT := Lib.hid hT
  have HB0 := Lib.hid hb0
  have hblt := blk_lt hb0
  clear hT hb0
  unfold treeV
  go_enter Try.func27, Try.ntmps27
  go_wp2
  go_loopw [7, 8, 9] (fun v lev u wr => ∃ (k : Nat) (vo : Value), k ≤ ht l.length ∧ lev = .int .i64 k ∧ v = Value.pointer (some ⟨A k (i / 4 ^ k), 0, none⟩) ∧ Aside0 (Kd.R (Kd.int .u64) 34 wr w.heap.size (fun _ => True) vo (pth l i (ht l.length - k) k)) ∧ Aside0 (wr.heap[b]? = some (.cells #[vo] 22 (0, 0))) ∧ Aside0 (KB w wr b)) (fun _ lev _ _ => (intOf lev).toNat)
  case atStart =>
    have h3 : i / 4 ^ ht l.length = 0 := Nat.lt_one_iff.1 (Nat.lt_of_lt_of_le (sz_anc hi (ht l.length)) (sz_ht l.length))
    exact ⟨ht l.length, .slice none 0 0, Nat.le_refl _, rfl, by rw [h3], ⟨by rw [Nat.sub_self]; exact Kd.R_nil _ _ _ _ _⟩, ⟨(((Below.refl w.heap.size w).alloc (Nat.le_refl _) _).block b hblt).trans HB0.out⟩, ⟨KB.of_below ((Below.refl _ _).alloc (Nat.le_refl _) _) b⟩⟩
  case round =>
    obtain ⟨k, vo, hk, rfl, rfl, HR, HBb, HKB⟩ := hrel
    have hh := ht_le l.length
    cases k with
    | zero =>
      go_wp2
      go_ret
      exact ⟨by simp, vo, HR.out, HBb.out, HKB.out⟩
    | succ k =>
      have hTr := HT.out.keep (Keeps.keepBut HB0.out HKB.out)
      have hN := hTr (k + 1) hk (i / 4 ^ (k + 1)) (sz_anc hi _)
      have hNK : ∀ j, j < mm l.length k (i / 4 ^ (k + 1)) → NodeOK wr l.length (SL l) A k (4 * (i / 4 ^ (k + 1)) + j) := fun j hj => hTr k (by omega) _ (by unfold mm at hj; omega)
      obtain ⟨B, off, c, cs, n1, h2, n3, n4⟩ := hN
      have h1 : wr.cell? ⟨A (k + 1) (i / 4 ^ (k + 1)), 1, none⟩ = some (.slice (some ⟨B, off, none⟩) (mm l.length k (i / 4 ^ (k + 1))) c) := (blk_cell n1 1).trans rfl
      have h5 := ht_5 hn
      obtain ⟨kd, hkd⟩ : ∃ kd : Nat, ((i : Int) / 2 ^ (2 * k)).tmod 4 = (kd : Int) := ⟨_, kid_way i k (by omega)⟩
      have hkd2 : kd = i / 4 ^ k % 4 := by have := (kid_way i k (by omega)).symm.trans hkd; omega
      have hlt : kd < mm l.length k (i / 4 ^ (k + 1)) := by rw [hkd2]; exact kid_lt hi k
      have hcell := (blk_cell n3 (off + kd)).trans (n4 kd hlt)
      rw [show 4 * (i / 4 ^ (k + 1)) + kd = i / 4 ^ k by rw [hkd2]; exact kid_at i k] at hcell
      have h0 : (0 : Int) ≤ 2 * (k : Int) := by omega
      have h0' : decide ((0 : Int) ≤ 2 * (k : Int)) = true := decide_eq_true h0
      obtain ⟨A0, c0, rfl⟩ := Kd.R_slice HR.out
      have hrd := Kd.R_reads' HR.out
      have hp4 : 4 * (i / 4 ^ (k + 1)) < sz l.length k := by have := sz_anc hi k; rw [anc_succ]; omega
      have hC1 := Lib.hid (path1_any wr l A k (i / 4 ^ (k + 1)) kd b c0 A0 (pth l i (ht l.length - (k + 1)) (k + 1)) hn (hTr (k + 1) hk (i / 4 ^ (k + 1)) (sz_anc hi _)) hNK hp4 (by rw [hkd2]; omega) (by have := pth_length l i (ht l.length - (k + 1)) (k + 1); omega) hrd.2.1 hrd.2.2 HBb.out)
      have hn4 := n4 kd hlt
      rw [show 4 * (i / 4 ^ (k + 1)) + kd = i / 4 ^ k by rw [hkd2]; exact kid_at i k] at hn4
      have N1 := Aside0.mk n1
      have N3 := Aside0.mk n3
      have N4 := Aside0.mk hn4
      have HKD2 := Lib.hid hkd2
      have hwr := HKB.out.size
      clear hkd2 hTr hNK hrd n1 n3 n4 hn4
      go_wp2_with (go_at_call 28; refine hC1.out.mono ?_; rintro e w1 ⟨rfl, v1, hv1, hb1, hkb1⟩; have h1' : w1.cell? ⟨A (k + 1) (i / 4 ^ (k + 1)), 1, none⟩ = some (.slice (some ⟨B, off, none⟩) (mm l.length k (i / 4 ^ (k + 1))) c) := (blk_cell (Keeps.keepBut HBb.out hkb1 _ _ _ (.inl rfl) N1.out) 1).trans rfl; have hcell' : w1.cell? ⟨B, off + kd, none⟩ = some (.pointer (some ⟨A k (i / 4 ^ k), 0, none⟩)) := (blk_cell (Keeps.keepBut HBb.out hkb1 _ _ _ (.inr rfl) N3.out) (off + kd)).trans N4.out; have HV1 := Aside0.mk hv1; have HB1 := Aside0.mk hb1; have HK1 := Aside0.mk hkb1; clear hv1 hb1 hkb1)
      go_roundw
      case rel =>
        refine ⟨k, v1, by omega, by go_num, rfl, ⟨?_⟩, HB1, ⟨HKB.out.trans HK1.out⟩⟩
        have h := Kd.R_lower HV1.out hwr
        rw [HKD2.out, sibs_gat] at h
        rw [show ht l.length - k = (ht l.length - (k + 1)) + 1 by omega]
        exact h
      case measure => simp [intOf]

theorem has_yes (w : World) (n : Nat) (a : Value) (i : Int) (h : 0 ≤ i) (h' : i < n) : Calls Try.prog 26 #[treeV n a, .int .i64 i] w fun e w' => e = .returned (.bool true) ∧ Below w.heap.size w w' := by
  unfold treeV
  have d0 := decide_eq_true h
  have d1 := decide_eq_true h'
  go_enter Try.func26, Try.ntmps26
  go_wp2
  go_ret
  exact ⟨by simp [h'], (Below.refl _ _).alloc (Nat.le_refl _) _⟩
theorem has_low (w : World) (n : Nat) (a : Value) (i : Int) (h : ¬ 0 ≤ i) : Calls Try.prog 26 #[treeV n a, .int .i64 i] w fun e w' => e = .returned (.bool false) ∧ Below w.heap.size w w' := by
  unfold treeV
  have d0 : decide (0 ≤ i) = false := decide_eq_false h
  go_enter Try.func26, Try.ntmps26
  go_wp2
  go_ret
  exact ⟨rfl, (Below.refl _ _).alloc (Nat.le_refl _) _⟩
theorem has_high (w : World) (n : Nat) (a : Value) (i : Int) (h : 0 ≤ i) (h' : ¬ i < n) : Calls Try.prog 26 #[treeV n a, .int .i64 i] w fun e w' => e = .returned (.bool false) ∧ Below w.heap.size w w' := by
  unfold treeV
  have d0 := decide_eq_true h
  have d1 : decide (i < n) = false := decide_eq_false h'
  go_enter Try.func26, Try.ntmps26
  go_wp2
  go_ret
  exact ⟨by simp [h'], (Below.refl _ _).alloc (Nat.le_refl _) _⟩
theorem has_no (w : World) (n : Nat) (a : Value) (i : Int) (h : ¬ (0 ≤ i ∧ i < n)) : Calls Try.prog 26 #[treeV n a, .int .i64 i] w fun e w' => e = .returned (.bool false) ∧ Below w.heap.size w w' := by
  by_cases h0 : 0 ≤ i
  · exact has_high w n a i h0 (fun h1 => h ⟨h0, h1⟩)
  · exact has_low w n a i h0
theorem bcell {W w1 : World} (hb : Below W.heap.size W w1) : (∀ b o, b < W.heap.size → w1.cell? ⟨b, o, none⟩ = W.cell? ⟨b, o, none⟩) ∧ (∀ b o, b < W.heap.size → w1.frozen? ⟨b, o, none⟩ = W.frozen? ⟨b, o, none⟩) :=
  ⟨fun b o h => hb.cell (p := ⟨b, o, none⟩) h, fun b o h => hb.frozen (p := ⟨b, o, none⟩) h⟩
theorem below_alloc_then {w w1 : World} {o : Obj} (h : Below (w.alloc o).heap.size (w.alloc o) w1) : Below w.heap.size w w1 := below_then ((Below.refl _ _).alloc (Nat.le_refl _) _) (by simp) h
theorem leaf_no (w : World) (n : Nat) (a : Value) (i : Int) (h : ¬ (0 ≤ i ∧ i < n)) : Calls Try.prog 36 #[treeV n a, .int .i64 i] w fun e w' => e = .returned (.tuple #[.int .u64 0, .int .i64 2]) ∧ Below w.heap.size w w' := by
  have H := Lib.hid h
  clear h
  unfold treeV
  go_enter Try.func36, Try.ntmps36
  go_wp2_with (go_at_call 26; refine (has_no _ n a i H.out).mono ?_; rintro e w1 ⟨rfl, hb1⟩; have HB1 := Aside0.mk hb1; clear hb1)
  go_ret2
  exact ⟨rfl, below_alloc_then HB1.out⟩
theorem leaf_yes (w : World) (n i : Nat) (S : Nat → Nat → Int) (A : Nat → Nat → Nat) (hT : Tr w n S A (ht n)) (hi : i < n) (hn : n ≤ 900) :
    Calls Try.prog 36 #[treeV n (.pointer (some ⟨A (ht n) 0, 0, none⟩)), .int .i64 i] w fun e w' => e = .returned (.tuple #[.int .u64 (S 0 i), .int .i64 0]) ∧ Below w.heap.size w w' := by
  have HT := Lib.hid hT
  clear hT
  unfold treeV
  go_enter Try.func36, Try.ntmps36
  go_wp2_with (first | (go_at_call 26; refine (has_yes _ n _ i (by omega) (by omega)).mono ?_; rintro e w1 ⟨rfl, hb1⟩; have HB1 := Aside0.mk (below_alloc_then hb1); obtain ⟨hc1, hf1⟩ := bcell hb1; clear hb1) | (go_at_call 27; refine (way_leaf _ n i S A (HT.out.keep (Keeps.below HB1.out)) hi hn).mono ?_; rintro e w2 ⟨rfl, hb2⟩; have HB2 := Aside0.mk (below_then HB1.out (below_size HB1.out) hb2); have hs := ((HT.out.keep (Keeps.below HB2.out)) 0 (Nat.zero_le _) i hi).sum; clear hb2 hc1 hf1))
  go_ret2
  exact ⟨rfl, HB2.out⟩
theorem path_no (w : World) (n : Nat) (a : Value) (i : Int) (h : ¬ (0 ≤ i ∧ i < n)) : Calls Try.prog 12 #[treeV n a, .int .i64 i] w fun e w' => e = .returned (.tuple #[.slice none 0 0, .int .i64 2]) ∧ Below w.heap.size w w' := by
  have H := Lib.hid h
  clear h
  unfold treeV
  go_enter Try.func12, Try.ntmps12
  go_wp2_with (go_at_call 26; refine (has_no _ n a i H.out).mono ?_; rintro e w1 ⟨rfl, hb1⟩; have HB1 := Aside0.mk hb1; clear hb1)
  go_ret2
  exact ⟨rfl, below_alloc_then HB1.out⟩
theorem path_yes (w : World) (l : List Int) (i : Nat) (A : Nat → Nat → Nat) (hT : Tr w l.length (SL l) A (ht l.length)) (hi : i < l.length) (hn : l.length ≤ 900) :
    Calls Try.prog 12 #[treeV l.length (.pointer (some ⟨A (ht l.length) 0, 0, none⟩)), .int .i64 i] w fun e w' => ∃ v, e = .returned (.tuple #[v, .int .i64 0]) ∧ Kd.R (Kd.int .u64) 34 w' w.heap.size (fun _ => True) v (pathV l i) ∧ Below w.heap.size w w' := by
  have HT := Lib.hid hT
  clear hT
  have hmf : ∀ (fn : Fn) (first cap : Array Value) (w : World), (Instr.makeFunc fn first cap).run Try.prog w = .ok (.func fn first cap) w := fun _ _ _ _ => rfl
  unfold treeV
  go_enter Try.func12, Try.ntmps12
  go_wp2_with (first | (go_at_call 26; refine (has_yes _ l.length _ i (by omega) (by omega)).mono ?_; rintro e w1 ⟨rfl, hb1⟩; have HB1 := Aside0.mk (below_alloc_then hb1); obtain ⟨hc1, hf1⟩ := bcell hb1; have hz1 : w.heap.size < w1.heap.size := (by have := below_size hb1; simp at this; omega); clear hb1) | (go_at_call 27; refine (way_path _ l A i w1.heap.size (HT.out.keep (Keeps.below (below_then HB1.out (below_size HB1.out) (Below.refl _ _ |>.alloc (Nat.le_refl _) _)))) hi hn (heap_alloc_new _ _)).mono ?_; rintro e w2 ⟨rfl, v1, hv1, hb2, hk2⟩; obtain ⟨A2, c2, rfl⟩ := Kd.R_slice hv1; have hcb : w2.cell? ⟨w1.heap.size, 0, none⟩ = some _ := (blk_cell hb2 0).trans rfl; have HV := Aside0.mk (Kd.R_lower (base' := w.heap.size) hv1 (by simp; omega)); have HB2 := Aside0.mk (below_then HB1.out (below_size HB1.out) ((below_alloc (Below.refl _ _) _).trans (hk2.to_below (Nat.le_refl _) (by simp)))); clear hv1 hb2 hk2 hc1 hf1))
  go_ret2
  exact ⟨_, rfl, HV.out, HB2.out⟩
end Go.Proofs.Ytpofcknfnipkgaa.ST
