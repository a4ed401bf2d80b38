/- Build: the tree of a list is laid in memory. -/
import Derived.Test.YtpofcknfnipkgaaA6
namespace Go.Proofs.Ytpofcknfnipkgaa.ST
open Go.RowKit Go.Proofs.YtpofcknfnipkgaaW.PrintWords Go.Proofs.YtpofcknfnipkgaaW.PrintLast Go.Proofs.YtpofcknfnipkgaaW.PrintMore Go.Proofs.Ytpofcknfnipkgaa.PS
attribute [local go_sem] max2_int min2_int max_two min_two
set_option linter.unusedVariables false
set_option linter.unusedSimpArgs false

/-- Rows of pointers to blocks. -/
abbrev pk : Kd Nat := Kd.scalar (fun a => .pointer (some ⟨a, 0, none⟩)) (fun _ => rfl)
theorem info27 : (Try.prog.info? 27).map (fun i => (i.zero, i.size, i.bytes)) = some (some (.pointer none), 1, 8) := by kernel_rfl
theorem blk_keep {W w1 : World} {g : Nat} {t : TypeId} {cs : Array Value} {base : Nat} {ok : Nat → Prop} {v : Value} {xs : List Nat} (h : W.heap[g]? = some (.cells cs t (0, 0))) (HO : pk.R 27 W base ok v xs) (ht : t ≠ 27) (hg : W.grownBy w1 v.ownBlock) : w1.heap[g]? = some (.cells cs t (0, 0)) :=
  blk_grown h hg (fun e => by
    obtain ⟨cells, hc⟩ := Kd.R_typed HO g e.symm
    rw [h] at hc
    injection hc with hc
    injection hc with _ hc _
    exact ht hc)
def topP (n : Nat) (A : Nat → Nat → Nat) : Value := if n = 0 then .pointer none else .pointer (some ⟨A (ht n) 0, 0, none⟩)
theorem SL_zero (l : List Int) (p : Nat) : SL l 0 p = l.getD p 0 := rfl
theorem SL_up (l : List Int) (k q : Nat) (h : q < sz l.length (k + 1)) : SL l (k + 1) q = runV (((lv l k).take (4 * q + 4)).drop (4 * q)) := by
  have h' : q < ((lv l k).length + 3) / 4 := by rw [lv_length]; exact h
  unfold SL
  rw [show lv l (k + 1) = nxt (lv l k) from rfl, nxt_get _ _ h']
/-- A group of a row of pointers, in memory. -/
theorem pk_cell {W : World} {base : Nat} {ok : Nat → Prop} {g len cap : Nat} {xs : List Nat} (h : pk.R 27 W base ok (.slice (some ⟨g, 0, none⟩) len cap) xs) (i : Nat) (hi : i < len) : W.cell? ⟨g, i, none⟩ = some (.pointer (some ⟨xs.getD i 0, 0, none⟩)) := by
  have := (Kd.R_celln (0 : Nat) h (i : Int) (by omega) (by omega)).1
  rw [Int.toNat_natCast] at this
  rw [this]
  simp [rdOf]
theorem pk_block {W : World} {base : Nat} {ok : Nat → Prop} {g len cap : Nat} {xs : List Nat} (h : pk.R 27 W base ok (.slice (some ⟨g, 0, none⟩) len cap) xs) : ∃ cs, W.heap[g]? = some (.cells cs 27 (0, 0)) ∧ base ≤ g ∧ ∀ i, i < len → cs[i]? = some (.pointer (some ⟨xs.getD i 0, 0, none⟩)) := by
  obtain ⟨cs, hcs⟩ := Kd.R_typed h g rfl
  exact ⟨cs, hcs, Kd.R_base h g rfl, fun i hi => (blk_cell hcs i).symm.trans (pk_cell h i hi)⟩
theorem cut58 (B m cap p4 e : Nat) (hi : Int) (he : hi = e) (h1 : p4 < m) (h2 : p4 ≤ e) (h3 : e ≤ m) (h4 : m ≤ cap) : ∀ W : World, (Instr.slice 58 (.slice (some ⟨B, 0, none⟩) m cap) (some (.int .i64 p4)) (some (.int .i64 hi)) none).run Try.prog W = .ok (.slice (some ⟨B, p4, none⟩) (e - p4) (cap - p4)) W := by
  intro W
  obtain ⟨i0, hi0, _, hsz, _⟩ := info_parts info27
  have h := cut_mid (P := Try.prog) 58 27 .i64 .i64 Try.underlying58 hi0 1 hsz (some ⟨B, 0, none⟩) m cap (p4 : Int) hi (by omega) (by omega) (by omega) h4 W
  rw [h, if_neg (by omega)]
  subst he
  simp [add_plain]
theorem NodeOK.congr {w : World} {n : Nat} {S : Nat → Nat → Int} {A A' : Nat → Nat → Nat} : ∀ {k p : Nat}, (∀ j, j ≤ k → A j = A' j) → NodeOK w n S A k p → NodeOK w n S A' k p
  | 0, p, h, hN => by show NodeB w (A' 0 p) _ _; rw [← h 0 (Nat.le_refl _)]; exact hN
  | k + 1, p, h, hN => by
    obtain ⟨B, off, c, cs, h1, h2, h3, h4⟩ := hN
    exact ⟨B, off, c, cs, by rw [← h (k + 1) (Nat.le_refl _)]; exact h1, h2, h3, fun j hj => by rw [← h k (by omega)]; exact h4 j hj⟩
theorem Keeps.set29 {w : World} {b : Nat} {x : Array Value} (hb : w.heap[b]? = some (.cells x 29 (0, 0))) (j : Nat) (u : Value) : Keeps w (w.setCell ⟨b, j, none⟩ u) := fun g cs t ht hg =>
  blk_far hg (fun e => by
    subst e
    rw [hb] at hg
    injection hg with hg
    injection hg with _ hg _
    rcases ht with rfl | rfl <;> cases hg) u
theorem fin29 {w : World} {b : Nat} {x : Array Value} (hb : w.heap[b]? = some (.cells x 29 (0, 0))) (u0 u1 u2 : Value) : Keeps w (((w.setCell ⟨b, 0, none⟩ u0).setCell ⟨b, 1, none⟩ u1).setCell ⟨b, 2, none⟩ u2) :=
  ((Keeps.set29 hb 0 u0).trans (Keeps.set29 (blk_set hb 0 u0) 1 u1)).trans (Keeps.set29 (blk_set (blk_set hb 0 u0) 1 u1) 2 u2)
theorem fin29b {w0 w : World} {B b : Nat} (h : Below B w0 w) (hb : B ≤ b) (u0 u1 u2 : Value) : Below B w0 (((w.setCell ⟨b, 0, none⟩ u0).setCell ⟨b, 1, none⟩ u1).setCell ⟨b, 2, none⟩ u2) :=
  ((h.setCell (p := ⟨b, 0, none⟩) hb u0).setCell (p := ⟨b, 1, none⟩) hb u1).setCell (p := ⟨b, 2, none⟩) hb u2
/-- The nodes of the next level that have been made. -/
def Made (w : World) (l : List Int) (k B c : Nat) (A1 : Nat → Nat) (q : Nat) : Prop := ∀ p, p < q → NodeB w (A1 p) (SL l (k + 1) p) (.slice (some ⟨B, 4 * p, none⟩) (mm l.length k p) (c - 4 * p))
set_option maxHeartbeats 4000000 in
theorem build_any (w : World) (l : List Int) (A0 : Option Addr) (c0 : Nat) (hl : l.length ≤ 900) (hc0 : l.length ≤ c0) (hC : Kd.C (Kd.int .u64) w A0 l.length l) :
    Calls Try.prog 13 #[.slice A0 l.length c0] w fun e w' => ∃ A, e = .returned (treeV l.length (topP l.length A)) ∧ Tr w' l.length (SL l) A (ht l.length) ∧ Below w.heap.size w w' := by
  have HC := Lib.hid hC
  clear hC
  go_enter Try.func13, Try.ntmps13
  go_wp2
  have HW := Aside0.mk (below_alloc (Below.refl w.heap.size w) (.cells #[.int .i64 0, .int .i64 0, .pointer none] 29))
  have HB0 := Aside0.mk (heap_alloc_new w (.cells #[.int .i64 0, .int .i64 0, .pointer none] 29))
  have hwz : w.heap.size < (w.alloc (.cells #[.int .i64 0, .int .i64 0, .pointer none] 29)).heap.size := by simp
  generalize w.alloc (.cells #[.int .i64 0, .int .i64 0, .pointer none] 29) = wa at HW HB0 hwz ⊢
  go_loopw [3, 11] (fun v i wr => ∃ (j : Nat) (A : Nat → Nat), j ≤ l.length ∧ i = .int .i64 j ∧ Aside0 (pk.R 27 wr wa.heap.size (fun _ => True) v ((List.range j).map A)) ∧ Aside0 (∀ p, p < j → NodeB wr (A p) (l.getD p 0) (.slice none 0 0)) ∧ Aside0 (Below wa.heap.size wa wr)) (fun _ i _ => l.length - (intOf i).toNat)
  case atStart => exact ⟨0, fun _ => 0, by omega, rfl, ⟨Kd.R_nil _ _ _ _ _⟩, ⟨fun p hp => absurd hp (by omega)⟩, ⟨Below.refl _ _⟩⟩
  case round =>
    obtain ⟨j, A, hj, rfl, HR, HN, HB⟩ := hrel
    by_cases hlt : j < l.length
    · obtain ⟨ad, rfl, had⟩ := Kd.at_int (Kd.C_below HC.out (HW.out.trans (Below.mono HB.out (Nat.le_of_lt hwz)))) (j : Int) (by omega) (by omega)
      rw [Int.toNat_natCast] at had
      obtain ⟨s, hs⟩ : ∃ s, rd l (j : Int) = s := ⟨_, rfl⟩
      rw [hs] at had
      have Hs := Lib.hid hs
      clear hs
      obtain ⟨xs, hxs⟩ : ∃ xs, (List.range j).map A = xs := ⟨_, rfl⟩
      rw [hxs] at HR
      have hlen := Aside0.mk (show xs.length = j by rw [← hxs]; simp)
      have Hxs := Lib.hid hxs
      clear hxs
      go_wp2_with ((with_reducible refine gate_builtin (b := .append) (xs := #[.tmp 15, .tmp 19]) rfl ?_); at_builtin; refine Kd.R_append pk (w0 := wa) wa.heap.size rfl (.tmp 15) (.tmp 19) 58 27 (.pointer none) 8 rfl Try.underlying58 info27 rfl (by decide) (by omega) _ xs wr.heap.size [.pointer (some ⟨wr.heap.size, 0, none⟩)] (fun _ => True) (fun _ => False) rfl ?hx ?aP (fun _ hk => hk.elim) (fun _ _ => trivial) ?aO ?aB ?aS ?aL ?_; go_must ((case hx => go_simp); (case aP => exact rfl)); (case aB => exact HB.out.alloc (below_size HB.out) _); (case aO => exact Kd.R_alloc HR.out _); (case aS => exact (below_size (HB.out.alloc (below_size HB.out) _))); (case aL => have := hlen.out; omega); intro v1 w1 ho hb1 hg _; have HR1 := Aside0.mk ho; have HB1 := Aside0.mk hb1; have HG1 := Aside0.mk hg; clear ho hb1 hg)
      go_roundw
      case rel =>
        refine ⟨j + 1, fun p => if p = j then wr.heap.size else A p, by omega, by go_num, ⟨?_⟩, ⟨?_⟩, HB1⟩
        · have e : (List.range (j + 1)).map (fun p => if p = j then wr.heap.size else A p) = xs ++ [wr.heap.size] := by
            rw [List.range_succ, List.map_append, ← Hxs.out]
            congr 1
            · exact List.map_congr_left (fun p hp => by have := List.mem_range.1 hp; rw [if_neg (by omega)])
            · simp
          rw [e]
          exact HR1.out
        · intro p hp
          by_cases hpj : p = j
          · subst hpj
            simp only [if_true]
            have : l.getD p 0 = s := by rw [← Hs.out, rd_at]
            rw [this]
            exact blk_keep (heap_alloc_new _ _) (Kd.R_alloc HR.out _) (by decide) HG1.out
          · simp only [if_neg hpj]
            have h1 := HN.out p (by omega)
            exact blk_keep (((Below.refl wr.heap.size wr).alloc (Nat.le_refl _) _).block _ (blk_lt h1) |>.trans h1) (Kd.R_alloc HR.out _) (by decide) HG1.out
      case measure => simp [intOf]; omega
    · have hjl : j = l.length := by omega
      have hge : ¬ (j : Int) < (l.length : Int) := by omega
      obtain ⟨wp, rfl⟩ : ∃ wp : World, wp = wr := ⟨_, rfl⟩
      subst hjl
      have HWp := Aside0.mk (HW.out.trans (Below.mono HB.out (Nat.le_of_lt hwz)))
      have hb0lt : w.heap.size < wp.heap.size := Nat.lt_of_lt_of_le hwz (below_size HB.out)
      have Hb0 := Aside0.mk ((HB.out.block w.heap.size hwz).trans HB0.out)
      have hwle := Aside0.mk (below_size HB.out)
      go_wp2
      have hb1 := Aside0.mk (heap_alloc_new wp (.cells #[.int .i64 l.length, .int .i64 0, .pointer none] 29))
      have hbw := Aside0.mk ((Below.refl wp.heap.size wp).alloc (Nat.le_refl _) (.cells #[.int .i64 l.length, .int .i64 0, .pointer none] 29))
      have hR0 := Aside0.mk (Kd.R_alloc HR.out (.cells #[.int .i64 l.length, .int .i64 0, .pointer none] 29))
      have hsz1 : wp.heap.size < (wp.alloc (.cells #[.int .i64 l.length, .int .i64 0, .pointer none] 29)).heap.size := by simp
      generalize wp.alloc (.cells #[.int .i64 l.length, .int .i64 0, .pointer none] 29) = wb at hb1 hbw hR0 hsz1 ⊢
      go_loopg [3] (ht l.length) (fun g v wr => ∃ (k : Nat) (A : Nat → Nat → Nat), Aside0 (g + k = ht l.length) ∧ Aside0 (pk.R 27 wr w.heap.size (fun _ => True) v ((List.range (sz l.length k)).map (A k))) ∧ Aside0 (Tr wr l.length (SL l) A k) ∧ Aside0 (wr.heap[wp.heap.size]? = some (.cells #[.int .i64 l.length, .int .i64 k, .pointer none] 29 (0, 0))) ∧ Aside0 (wr.heap[w.heap.size]? = some (.cells #[.int .i64 0, .int .i64 0, .pointer none] 29 (0, 0))) ∧ Aside0 (Below w.heap.size w wr))
      case atStart =>
        refine ⟨0, fun _ => A, ⟨rfl⟩, ⟨Kd.R_lower hR0.out (Nat.le_of_lt hwz)⟩, ⟨?_⟩, hb1, ⟨(hbw.out.block _ hb0lt).trans Hb0.out⟩, ⟨HWp.out.trans (Below.mono hbw.out (by omega))⟩⟩
        intro k hk p hp
        obtain rfl : k = 0 := by omega
        exact (hbw.out.block _ (blk_lt (HN.out p hp))).trans (HN.out p hp)
      case round =>
        obtain ⟨k, A2, HG, HR2, HT2, Hb1, Hb0', HB2⟩ := hrel
        obtain ⟨go, rfl⟩ : ∃ go, go = gk := ⟨_, rfl⟩
        obtain ⟨m, hm⟩ : ∃ m, sz l.length k = m := ⟨_, rfl⟩
        rw [hm] at HR2
        have hm9 : m ≤ 900 := by have := sz_le l.length k; omega
        have Hm := Lib.hid hm
        clear hm
        by_cases h1 : 1 < m
        · obtain ⟨B, cap, rfl, hbB, hBl, cellsB, hcB⟩ := Kd.R_form HR2.out (by simp; omega)
          have HR2' : Aside0 (pk.R 27 wr w.heap.size (fun _ => True) (.slice (some ⟨B, 0, none⟩) m cap) ((List.range m).map (A2 k))) := ⟨by simpa using HR2.out⟩
          have hlen : ((List.range m).map (A2 k)).length = m := by simp
          rw [hlen]
          clear hlen HR2
          obtain ⟨wO, rfl⟩ : ∃ wO : World, wO = wr := ⟨_, rfl⟩
          have h1' : (1 : Int) < (m : Int) := by omega
          have hkl : k < ht l.length := by
            rcases Nat.lt_or_ge k (ht l.length) with h | h
            · exact h
            · have h2 := sz_ht l.length
              have h3 : k = ht l.length := by have := HG.out; omega
              rw [← h3, Hm.out] at h2
              omega
          go_wp2
          go_loopg [7, 8] ((m + 3) / 4) (fun g v i wi => ∃ (q : Nat) (A1 : Nat → Nat), Aside0 (g + q = (m + 3) / 4) ∧ i = .int .i64 ((4 * q : Nat) : Int) ∧ Aside0 (pk.R 27 wi wO.heap.size (fun _ => True) v ((List.range q).map A1)) ∧ Aside0 (Made wi l k B cap A1 q) ∧ Aside0 (Below wO.heap.size wO wi))
          case atStart => exact ⟨0, fun _ => 0, ⟨by omega⟩, by simp, ⟨Kd.R_nil _ _ _ _ _⟩, ⟨fun p hp => absurd hp (by omega)⟩, ⟨Below.refl _ _⟩⟩
          case round =>
            obtain ⟨wi, rfl⟩ : ∃ wi : World, wi = wr := ⟨_, rfl⟩
            obtain ⟨q, A1, HG2, rfl, HR3, HM, HB3⟩ := hrel
            have hmcap : m ≤ cap := (Kd.R_reads' HR2'.out).2.1
            obtain ⟨p4, hp4⟩ : ∃ p4, 4 * q = p4 := ⟨_, rfl⟩
            rw [hp4]
            have Hp4 := Lib.hid hp4
            clear hp4
            by_cases hlt : p4 < m
            · obtain ⟨mq, hmq⟩ : ∃ mq, mm l.length k q = mq := ⟨_, rfl⟩
              have hmq2 : mq = min 4 (m - p4) := by rw [← hmq, ← Hp4.out]; unfold mm; rw [Hm.out]
              have hss : (((lv l k).take (4 * q + 4)).drop (4 * q)).length = mq := by rw [hmq2]; simp [lv_length, Hm.out, ← Hp4.out]; omega
              obtain ⟨cs, hcs1, _, hcs2⟩ := pk_block HR2'.out
              have hcs3 : wi.heap[B]? = some (.cells cs 27 (0, 0)) := (HB3.out.block _ (blk_lt hcs1)).trans hcs1
              have HJ := Lib.hid (join_any wi B p4 mq (cap - p4) (fun j => A2 k (p4 + j)) (((lv l k).take (4 * q + 4)).drop (4 * q)) hss (by omega)
                (fun j hj => by
                  rw [blk_cell hcs3, hcs2 (p4 + j) (by omega)]
                  simp [List.getD_eq_getElem?_getD, show p4 + j < m by omega])
                (fun j hj => by
                  have h := ((HT2.out.keep (Keeps.below HB3.out)) k (Nat.le_refl _) (p4 + j) (by rw [Hm.out]; omega)).sum
                  rw [h]
                  have hj4 : j < 4 := by omega
                  simp [SL, List.getD_eq_getElem?_getD, List.getElem?_drop, List.getElem?_take, ← Hp4.out, hj4]))
              have hcut : (p4 + 4 ≤ m → ∀ W : World, (Instr.slice 58 (.slice (some ⟨B, 0, none⟩) m cap) (some (.int .i64 p4)) (some (.int .i64 ((p4 : Int) + 4))) none).run Try.prog W = .ok (.slice (some ⟨B, p4, none⟩) mq (cap - p4)) W) ∧ (¬ p4 + 4 ≤ m → ∀ W : World, (Instr.slice 58 (.slice (some ⟨B, 0, none⟩) m cap) (some (.int .i64 p4)) (some (.int .i64 (m : Int))) none).run Try.prog W = .ok (.slice (some ⟨B, p4, none⟩) mq (cap - p4)) W) := by
                refine ⟨fun h => ?_, fun h => ?_⟩
                · rw [show mq = p4 + 4 - p4 by omega]; exact cut58 B m cap p4 (p4 + 4) _ (by omega) hlt (by omega) h hmcap
                · rw [show mq = m - p4 by omega]; exact cut58 B m cap p4 m _ rfl hlt (by omega) (Nat.le_refl _) hmcap
              have Hmq := Lib.hid hmq
              have Hcs := Aside0.mk hcs1
              have hltI : (p4 : Int) < (m : Int) := by omega
              obtain ⟨xs, hxs⟩ : ∃ xs, (List.range q).map A1 = xs := ⟨_, rfl⟩
              rw [hxs] at HR3
              have hlen := Aside0.mk (show xs.length ≤ 900 by rw [← hxs]; simp; have := Hp4.out; omega)
              have Hxs := Lib.hid hxs
              have Hcut := Aside0.mk hcut
              have hq := Aside0.mk (show q < (m + 3) / 4 by have := Hp4.out; omega)
              have hnum := Aside0.mk (show (p4 : Int) + 4 = ((4 * (q + 1) : Nat) : Int) by have := Hp4.out; omega)
              have hgm := Aside0.mk (show gk - 1 < gk by have := hq.out; have := HG2.out; omega)
              have hgs := Aside0.mk (show gk - 1 + (q + 1) = (m + 3) / 4 by have := hq.out; have := HG2.out; omega)
              clear hmq hss hcs1 hcs2 hcs3 hmq2 hxs hcut
              by_cases h4 : p4 + 4 ≤ m
              all_goals
                first | (have hc4 := Hcut.out.1 h4; have hd4 : (p4 : Int) + 4 ≤ (m : Int) := by omega) | (have hc4 := Hcut.out.2 h4; have hd4 : (m : Int) < (p4 : Int) + 4 := by omega)
                clear Hcut
                have H4 := Aside0.mk h4
                clear h4
                go_wp2_with (first | (go_at_call 29; refine HJ.out.mono ?_; rintro e w1 ⟨a, rfl, ha, hn1, hb1⟩; have Ha := Aside0.mk ha; have HN1 := Aside0.mk hn1; have HB4 := Aside0.mk hb1; clear ha hn1 hb1) | ((with_reducible refine gate_builtin (b := .append) (xs := #[.tmp 34, .tmp 44]) rfl ?_); at_builtin; refine Kd.R_append pk (w0 := wO) wO.heap.size rfl (.tmp 34) (.tmp 44) 58 27 (.pointer none) 8 rfl Try.underlying58 info27 rfl (by decide) (by omega) _ xs a [.pointer (some ⟨a, 0, none⟩)] (fun _ => True) (fun _ => False) rfl ?hx ?aP (fun _ hk => hk.elim) (fun _ _ => trivial) ?aO ?aB ?aS ?aL ?_; go_must ((case hx => go_simp); (case aP => exact rfl)); (case aB => exact below_join HB4.out HB3.out); (case aO => exact Kd.R_below HR3.out HB4.out); (case aS => exact (below_size (below_join HB4.out HB3.out))); (case aL => have := hlen.out; omega); intro v1 w2 ho hb1 hg _; have HR1 := Aside0.mk ho; have HB1 := Aside0.mk hb1; have HG1 := Aside0.mk hg; clear ho hb1 hg))
                go_roundg (gk - 1)
                case measure => exact hgm.out
                case rel =>
                  refine ⟨q + 1, fun p => if p = q then a else A1 p, hgs, congrArg (Value.int .i64) hnum.out, ⟨?_⟩, ⟨?_⟩, HB1⟩
                  · have e : (List.range (q + 1)).map (fun p => if p = q then a else A1 p) = xs ++ [a] := by
                      rw [List.range_succ, List.map_append, ← Hxs.out]
                      congr 1
                      · exact List.map_congr_left (fun p hp => by have := List.mem_range.1 hp; rw [if_neg (by omega)])
                      · simp
                    rw [e]
                    exact HR1.out
                  · intro p hp
                    by_cases hpq : p = q
                    · subst hpq
                      simp only [if_true]
                      rw [SL_up l k p (by simp only [sz]; rw [Hm.out]; exact hq.out), Hmq.out, Hp4.out]
                      have hn1 := HN1.out
                      rw [Hp4.out] at hn1
                      exact blk_keep hn1 (Kd.R_below HR3.out HB4.out) (by decide) HG1.out
                    · simp only [if_neg hpq]
                      have h1 := HM.out p (by omega)
                      exact blk_keep ((HB4.out.block _ (blk_lt h1)).trans h1) (Kd.R_below HR3.out HB4.out) (by decide) HG1.out
            · have hge : ¬ (p4 : Int) < (m : Int) := by omega
              have hq : q = (m + 3) / 4 := by have := Hp4.out; have := HG2.out; omega
              have hb1i : wi.heap[wp.heap.size]? = some (.cells #[.int .i64 l.length, .int .i64 k, .pointer none] 29 (0, 0)) := (HB3.out.block _ (blk_lt Hb1.out)).trans Hb1.out
              have Hb1i := Aside0.mk hb1i
              have hc1 : wi.cell? ⟨wp.heap.size, 1, none⟩ = some (.int .i64 k) := (blk_cell hb1i 1).trans rfl
              have hf1 : wi.frozen? ⟨wp.heap.size, 1, none⟩ = false := blk_frozen hb1i 1
              have Hq := Lib.hid hq
              have hk9 : k < 900 := by have := ht_le l.length; omega
              clear hq hb1i
              go_wp2
              go_roundg (go - 1)
              case measure => have := HG.out; omega
              case rel =>
                have hszk : sz l.length (k + 1) = q := by simp only [sz]; rw [Hm.out, Hq.out]
                have hle := below_size HB2.out
                refine ⟨k + 1, fun k' => if k' = k + 1 then A1 else A2 k', ⟨by have := HG.out; omega⟩, ⟨?_⟩, ⟨?_⟩, ⟨?_⟩, ⟨?_⟩, ⟨?_⟩⟩
                · rw [hszk]
                  simp only [if_true]
                  exact Kd.R_lower (Kd.R_set HR3.out Hb1i.out (by decide) 1 _) hle
                · intro k' hk' p hp
                  have hkeep := (Keeps.below HB3.out).trans (Keeps.set29 Hb1i.out 1 (.int .i64 ((k : Int) + 1)))
                  by_cases hkk : k' = k + 1
                  · subst hkk
                    obtain ⟨cs, hcs1, _, hcs2⟩ := pk_block HR2'.out
                    have h1 := HM.out p (by rw [← hszk]; exact hp)
                    have hmcap : m ≤ cap := (Kd.R_reads' HR2'.out).2.1
                    have hmm : mm l.length k p = min 4 (m - 4 * p) := by unfold mm; rw [Hm.out]
                    refine ⟨B, 4 * p, cap - 4 * p, cs, ?_, by omega, hkeep _ _ _ (.inr rfl) hcs1, fun j hj => ?_⟩
                    · simp only [if_true]
                      exact Keeps.set29 Hb1i.out 1 _ _ _ _ (.inl rfl) h1
                    · simp only [if_neg (show ¬ k = k + 1 by omega)]
                      rw [hcs2 (4 * p + j) (by omega)]
                      simp [List.getD_eq_getElem?_getD, show 4 * p + j < m by omega]
                  · exact ((HT2.out k' (by omega) p hp).keep hkeep).congr (fun j hj => by rw [if_neg (by omega)])
                · exact (blk_set Hb1i.out 1 _).trans (by simp)
                · exact blk_far ((HB3.out.block _ (blk_lt Hb0'.out)).trans Hb0'.out) (by simp; omega) _
                · exact Below.setCell (HB2.out.trans (Below.mono HB3.out hle)) (by simp; omega) _
        · have h1' : ¬ (1 : Int) < (m : Int) := by omega
          obtain ⟨Av, cv, hv⟩ := Kd.R_slice HR2.out
          have hkh : k = ht l.length := by
            rcases Nat.lt_or_ge k (ht l.length) with h | h
            · have := sz_lt l.length k h; rw [Hm.out] at this; omega
            · have := HG.out; omega
          have Hkh := Lib.hid hkh
          clear hkh
          have hc0 : wr.cell? ⟨wp.heap.size, 0, none⟩ = some (.int .i64 l.length) := (blk_cell Hb1.out 0).trans rfl
          have hc1 : wr.cell? ⟨wp.heap.size, 1, none⟩ = some (.int .i64 k) := (blk_cell Hb1.out 1).trans rfl
          have hc2 : wr.cell? ⟨wp.heap.size, 2, none⟩ = some (.pointer none) := (blk_cell Hb1.out 2).trans rfl
          have hf2 : wr.frozen? ⟨wp.heap.size, 2, none⟩ = false := blk_frozen Hb1.out 2
          have hd0 : wr.cell? ⟨w.heap.size, 0, none⟩ = some (.int .i64 0) := (blk_cell Hb0'.out 0).trans rfl
          have hd1 : wr.cell? ⟨w.heap.size, 1, none⟩ = some (.int .i64 0) := (blk_cell Hb0'.out 1).trans rfl
          have hd2 : wr.cell? ⟨w.heap.size, 2, none⟩ = some (.pointer none) := (blk_cell Hb0'.out 2).trans rfl
          have he0 : ∀ j, wr.frozen? ⟨w.heap.size, j, none⟩ = false := fun j => blk_frozen Hb0'.out j
          have hbne : w.heap.size ≠ wp.heap.size := by omega
          by_cases hm0 : m = 0
          · subst hm0
            simp only [List.range_zero, List.map_nil, List.length_nil] at hv
            subst hv
            go_wp2
            have hn0 : l.length = 0 := by
              rcases Nat.eq_zero_or_pos l.length with h | h
              · exact h
              · have := sz_pos h k; rw [Hm.out] at this; omega
            refine bodyPost_ret (v := .agg #[.int .i64 l.length, .int .i64 k, .pointer none]) (by simp [results, Try.results13, go_sem, *]) rfl ⟨A2, ?_, ?_, fin29b HB2.out (Nat.le_refl _) _ _ _⟩
            · unfold treeV topP
              rw [if_pos hn0, ← Hkh.out]
            · rw [← Hkh.out]
              exact HT2.out.keep (fin29 Hb0'.out _ _ _)
          · obtain rfl : m = 1 := by omega
            obtain ⟨B, cap, hv2, hbB, hBl, cellsB, hcB⟩ := Kd.R_form HR2.out (by simp)
            have hR1 := HR2.out
            rw [hv2] at hR1
            have hcell := pk_cell hR1 0 (by simp)
            rw [show ((List.range 1).map (A2 k)).getD 0 0 = A2 k 0 from rfl] at hcell
            subst hv2
            simp only [List.length_map, List.length_range]
            clear hv hcB hR1
            go_wp2
            have hb1' := Keeps.set29 Hb1.out 2 (.pointer (some ⟨A2 k 0, 0, none⟩))
            have hb0' : (wr.setCell ⟨wp.heap.size, 2, none⟩ (.pointer (some ⟨A2 k 0, 0, none⟩))).heap[w.heap.size]? = some (.cells #[.int .i64 0, .int .i64 0, .pointer none] 29 (0, 0)) := blk_far Hb0'.out (by simp; omega) _
            have hn0 : ¬ l.length = 0 := by
              intro h
              have := sz_zero k
              rw [← h, Hm.out] at this
              omega
            refine bodyPost_ret (v := .agg #[.int .i64 l.length, .int .i64 k, .pointer (some ⟨A2 k 0, 0, none⟩)]) (by simp [results, Try.results13, go_sem, *]) rfl ⟨A2, ?_, ?_, fin29b (HB2.out.setCell (p := ⟨wp.heap.size, 2, none⟩) (by simp; omega) _) (Nat.le_refl _) _ _ _⟩
            · unfold treeV topP
              rw [if_neg hn0, ← Hkh.out]
            · rw [← Hkh.out]
              exact HT2.out.keep (hb1'.trans (fin29 hb0' _ _ _))
end Go.Proofs.Ytpofcknfnipkgaa.ST
