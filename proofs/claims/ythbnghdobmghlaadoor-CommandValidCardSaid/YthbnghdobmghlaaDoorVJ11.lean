import Derived.Test.YthbnghdobmghlaaDoorVJ10
import Derived.Deep.RegionHeld3
import Derived.RegionTactic
import Derived.BigRegion
namespace Go.Proofs.YthbnghdobmghlaaDoor.ST
open Go.RowKit Go.Proofs.YthbnghdobmghlaaDoorW.PrintWords Go.Proofs.YthbnghdobmghlaaDoorW.PrintLast Go.Proofs.YthbnghdobmghlaaDoorW.PrintMore Go.Proofs.YthbnghdobmghlaaDoor.PC
set_option linter.unusedVariables false
set_option linter.unusedSimpArgs false
structure Ps (w : World) (g2 g4 : Nat) (v : Value) (W : World) : Prop where
  h2 : W.heap[g2]? = some (.cells (cmdA zeroC (.slice none 0 0)) 24 (0, 0))
  h4 : W.heap[g4]? = some (.cells #[v] 38 (0, 0))
  hb : Below w.heap.size w W
  n2 : w.heap.size ≤ g2
  n4 : w.heap.size ≤ g4
theorem Ps.below {w W W' : World} {g2 g4 : Nat} {v : Value} (h : Ps w g2 g4 v W) (hb : Below W.heap.size W W') : Ps w g2 g4 v W' :=
  ⟨blk_below h.h2 hb, blk_below h.h4 hb, below_step h.hb hb, h.n2, h.n4⟩
theorem Ps.set4 {w W : World} {g2 g4 : Nat} {v : Value} (h : Ps w g2 g4 v W) (u : Value) : Ps w g2 g4 u (W.setCell ⟨g4, 0, none⟩ u) :=
  ⟨blk_far h.h2 (p := ⟨g4, 0, none⟩) (blk_ne h.h2 h.h4 (by decide)) u, blk_put h.h4 0 u rfl, below_set h.hb h.n4, h.n2, h.n4⟩
theorem Ps.far {w W : World} {g2 g4 g : Nat} {v : Value} (h : Ps w g2 g4 v W) (n2 : g2 ≠ g) (n4 : g4 ≠ g) (hg : w.heap.size ≤ g) (i : Nat) (u : Value) : Ps w g2 g4 v (W.setCell ⟨g, i, none⟩ u) :=
  ⟨blk_far h.h2 (p := ⟨g, i, none⟩) n2 u, blk_far h.h4 (p := ⟨g, i, none⟩) n4 u, below_set h.hb hg, h.n2, h.n4⟩
theorem Ps.drew {w W : World} {g2 g4 : Nat} {v : Value} (h : Ps w g2 g4 v W) : Ps w g2 g4 v W.drew := ⟨blk_drew h.h2, blk_drew h.h4, below_drew1 h.hb, h.n2, h.n4⟩
theorem Wd.drew {W : World} {gl : Nat} {L : List ByteArray} (h : Wd W gl L) : Wd W.drew gl L := h
theorem Ps.start (w : World) : Ps w w.heap.size (w.heap.size + 1) (.slice none 0 0) ((w.alloc (.cells (cmdA zeroC (.slice none 0 0)) 24)).alloc (.cells #[.slice none 0 0] 38)) := by
  have q := blk_new (w.alloc (.cells (cmdA zeroC (.slice none 0 0)) 24)) (.cells #[.slice none 0 0] 38)
  rw [show (w.alloc (.cells (cmdA zeroC (.slice none 0 0)) 24)).heap.size = w.heap.size + 1 by simp] at q
  exact ⟨blk_alloc (blk_new w _) _, q, below_alloc (below_alloc (Below.refl _ _) _) _, Nat.le_refl _, by omega⟩
theorem cut_le (s sep : List UInt8) : (Lib.cut s sep).1.length ≤ s.length ∧ (Lib.cut s sep).2.1.length ≤ s.length := by
  unfold Lib.cut
  split
  · simp only [List.length_take, List.length_drop]; omega
  · simp
theorem bsize (l : List UInt8) : (mkB l).size = l.length := by simp [mkB, ByteArray.size]
theorem dsize (p : ByteArray) : p.data.toList.length = p.size := by rw [Array.length_toList]; rfl
theorem Cut_any (s : ByteArray) (w : World) (hL : Ld w) (hs : s.size < 4294967281) :
    Calls Tryd.prog 24 #[.string s, .string ⟨#[32]⟩] w fun e w' => e = .returned (.tuple #[.string (mkB (Lib.cut s.data.toList [32]).1), .string (mkB (Lib.cut s.data.toList [32]).2.1), .bool (Lib.cut s.data.toList [32]).2.2]) ∧ Below w.heap.size w w' := by
  obtain ⟨m, hm⟩ := hL.mx
  refine (Tryd.strings_Cut s ⟨#[32]⟩ m _ hs hm).mono ?_
  rintro e w1 ⟨rfl, n, rfl⟩
  exact ⟨rfl, pw_below_drewN (Below.refl _ _) n⟩
theorem Wd_of_R {W : World} {base : Nat} {ok : Nat → Prop} {v : Value} {xs : List ByteArray} (h : Kd.R Kd.string 9 W base ok v xs) (z : 0 < xs.length) : ∃ g cap, v = .slice (some ⟨g, 0, none⟩) xs.length cap ∧ xs.length ≤ cap ∧ Wd W g xs := by
  obtain ⟨A, c0, he0, hle0, hC⟩ := Kd.R_reads h
  obtain ⟨inner, hown⟩ := Kd.R_own h
  rcases hown.2 with ⟨rfl, h0⟩ | ⟨g, cap, cur, rfl, hg, hh, hle, _⟩
  · omega
  · refine ⟨g, cap, rfl, hle, cur, hh, ?_⟩
    cases he0
    obtain ⟨ad, he, hc⟩ := (Kd.R_reads' h).2.2.2.2 z
    cases he
    intro j x hx
    obtain ⟨c, hl, hk, hcell⟩ := hc j x hx
    have e : c = [.string x] := hk
    subst e
    have := hcell 0 (.string x) rfl
    rw [show j * Kd.string.sz + 0 = j from by rw [show Kd.string.sz = 1 from rfl]; omega] at this
    have h2 : W.cell? ⟨g, j, none⟩ = some (.string x) := by
      rcases j with _ | j <;> simpa [Addr.add] using this
    rw [blk_cell hh j] at h2
    exact h2
theorem ordered_list : orderedB.toList = [111, 114, 100, 101, 114, 101, 100] := by rw [ByteArray.toList_eq]; rfl
theorem force_list : forceB.toList = [102, 111, 114, 99, 101] := by rw [ByteArray.toList_eq]; rfl
theorem wAt_size (s : ByteArray) (hs : s.size < 4294967281) (n i : Nat) : (wAt (splB s) n i).size < 4294967281 := by
  have h : ∀ (k : Nat) (s : List UInt8), ∀ x ∈ Lib.splitK [32] 0 k s, x.length ≤ s.length := by
    intro k
    induction k with
    | zero => intro s x hx; rw [List.mem_singleton.1 hx]; exact Nat.le_refl _
    | succ k ih =>
      intro s x hx
      unfold Lib.splitK at hx
      split at hx
      · rw [List.mem_singleton.1 hx]; exact Nat.le_refl _
      · rcases List.mem_cons.1 hx with rfl | hx
        · rw [List.length_take]; omega
        · have := ih _ x hx; rw [List.length_drop] at this; omega
  unfold wAt
  split
  · rw [List.getD_eq_getElem?_getD]
    cases hq : (splB s)[i]? with
    | none => decide
    | some x =>
      obtain ⟨l, hl, rfl⟩ := List.mem_map.1 (List.mem_of_getElem? hq)
      have h2 := h _ _ l hl
      rw [dsize] at h2
      show (mkB l).size < _
      rw [bsize]
      omega
  · decide
theorem at_lit (W : World) (g4 gl n cap : Nat) (i : Int) (k : Nat) (hi : i = k) (L : List ByteArray) (h4 : W.heap[g4]? = some (.cells #[.slice (some ⟨gl, 0, none⟩) n cap] 38 (0, 0))) (hw : Wd W gl L) (hn : n ≤ L.length) (hl : L.length ≤ 4294967290) :
    Calls Tryd.prog 26 #[.int .i64 i, .pointer (some ⟨g4, 0, none⟩)] W fun e w' => e = .returned (.string (wAt L n k)) ∧ W = w' := by rw [hi]; exact at_any W g4 gl n cap k L h4 hw hn hl
theorem base_of {L : List ByteArray} {n1 n2 : Nat} {kk : Int} (h1 : n1 = nO L) (h2 : n2 = nF L n1) (hk : kindUpto (L.getD 0 eB) 8 = kk) : baseC L =
    ⟨numB (wAt L n2 1), kk, oO L, fF L n1, wAt L n2 2, if kk = 6 then wAt L n2 3 else eB, if kk = 1 ∨ kk = 3 ∨ kk = 2 then numB (wAt L n2 3) else if kk = 5 then numB (wAt L n2 4) else 0,
      if kk = 1 ∨ kk = 3 then numB (wAt L n2 4) else if kk = 2 then (if kk = 2 then ((L.take n2).drop 4).map blkOf else []).length else if kk = 5 then numB (wAt L n2 3) else 0, if kk = 2 then ((L.take n2).drop 4).map blkOf else []⟩ := by
  subst hk h2 h1
  rfl
theorem R_put24 {w : World} {g base : Nat} {ok : Nat → Prop} {v : Value} {xs : List S35} {y0 y1 y2 y3 y4 y5 y6 y7 y8 : Value} (h : Kd.R k35 35 w base ok v xs) (hg : w.heap[g]? = some (.cells #[y0, y1, y2, y3, y4, y5, y6, y7, y8] 24 (0, 0))) (x0 x1 x2 x3 x4 x5 x6 x7 x8 : Value) : Kd.R k35 35 (((((((((w.setCell ⟨g, 0, none⟩ x0).setCell ⟨g, 1, none⟩ x1).setCell ⟨g, 2, none⟩ x2).setCell ⟨g, 3, none⟩ x3).setCell ⟨g, 4, none⟩ x4).setCell ⟨g, 5, none⟩ x5).setCell ⟨g, 6, none⟩ x6).setCell ⟨g, 7, none⟩ x7).setCell ⟨g, 8, none⟩ x8) base ok v xs := by
  have h1 := blk_put (cs' := #[x0, y1, y2, y3, y4, y5, y6, y7, y8]) hg 0 x0 rfl
  have r1 := Kd.R_set h hg (by decide) 0 x0
  have h2 := blk_put (cs' := #[x0, x1, y2, y3, y4, y5, y6, y7, y8]) h1 1 x1 rfl
  have r2 := Kd.R_set r1 h1 (by decide) 1 x1
  have h3 := blk_put (cs' := #[x0, x1, x2, y3, y4, y5, y6, y7, y8]) h2 2 x2 rfl
  have r3 := Kd.R_set r2 h2 (by decide) 2 x2
  have h4 := blk_put (cs' := #[x0, x1, x2, x3, y4, y5, y6, y7, y8]) h3 3 x3 rfl
  have r4 := Kd.R_set r3 h3 (by decide) 3 x3
  have h5 := blk_put (cs' := #[x0, x1, x2, x3, x4, y5, y6, y7, y8]) h4 4 x4 rfl
  have r5 := Kd.R_set r4 h4 (by decide) 4 x4
  have h6 := blk_put (cs' := #[x0, x1, x2, x3, x4, x5, y6, y7, y8]) h5 5 x5 rfl
  have r6 := Kd.R_set r5 h5 (by decide) 5 x5
  have h7 := blk_put (cs' := #[x0, x1, x2, x3, x4, x5, x6, y7, y8]) h6 6 x6 rfl
  have r7 := Kd.R_set r6 h6 (by decide) 6 x6
  have h8 := blk_put (cs' := #[x0, x1, x2, x3, x4, x5, x6, x7, y8]) h7 7 x7 rfl
  have r8 := Kd.R_set r7 h7 (by decide) 7 x7
  have h9 := blk_put (cs' := #[x0, x1, x2, x3, x4, x5, x6, x7, x8]) h8 8 x8 rfl
  have r9 := Kd.R_set r8 h8 (by decide) 8 x8
  exact r9
theorem base_ok (L : List ByteArray) : ∀ x ∈ (baseC L).data, ok35 x = true := by
  intro x hx
  unfold baseC at hx
  simp only at hx
  split at hx
  · obtain ⟨y, _, rfl⟩ := List.mem_map.1 hx
    exact blk_ok y
  · cases hx
theorem base_len (L : List ByteArray) : (baseC L).data.length ≤ L.length := by
  unfold baseC
  simp only
  split
  · rw [List.length_map, List.length_drop, List.length_take]; omega
  · simp
theorem info35b : (Tryd.prog.info? 35).map (fun i => (i.zero, i.size, i.bytes)) = some (some (.agg #[.int .u8 0, .int .u8 0, .int .u8 0, .int .u8 0, .int .u8 0, .int .u8 0, .int .u8 0, .int .u8 0]), 8, 8) := by kernel_rfl
theorem farA_R35 {w : World} {g e base : Nat} {ok : Nat → Prop} {v : Value} {xs : List S35} (h : Kd.R k35 e w base ok v xs) (hok : ∀ k, ok k → k ≠ g) (x0 x1 x2 x3 x4 x5 x6 x7 : Value) : Kd.R k35 e ((((((((w.setCell ⟨g, 0, none⟩ x0).setCell ⟨g, 1, none⟩ x1).setCell ⟨g, 2, none⟩ x2).setCell ⟨g, 3, none⟩ x3).setCell ⟨g, 4, none⟩ x4).setCell ⟨g, 5, none⟩ x5).setCell ⟨g, 6, none⟩ x6).setCell ⟨g, 7, none⟩ x7) base ok v xs := (Kd.R_far (p := ⟨g, 7, none⟩) (Kd.R_far (p := ⟨g, 6, none⟩) (Kd.R_far (p := ⟨g, 5, none⟩) (Kd.R_far (p := ⟨g, 4, none⟩) (Kd.R_far (p := ⟨g, 3, none⟩) (Kd.R_far (p := ⟨g, 2, none⟩) (Kd.R_far (p := ⟨g, 1, none⟩) (Kd.R_far (p := ⟨g, 0, none⟩) h hok x0) hok x1) hok x2) hok x3) hok x4) hok x5) hok x6) hok x7)
theorem Ps.farA {w W : World} {g2 g4 g : Nat} {v : Value} (h : Ps w g2 g4 v W) (n2 : g2 ≠ g) (n4 : g4 ≠ g) (hg : w.heap.size ≤ g) (x0 x1 x2 x3 x4 x5 x6 x7 : Value) : Ps w g2 g4 v ((((((((W.setCell ⟨g, 0, none⟩ x0).setCell ⟨g, 1, none⟩ x1).setCell ⟨g, 2, none⟩ x2).setCell ⟨g, 3, none⟩ x3).setCell ⟨g, 4, none⟩ x4).setCell ⟨g, 5, none⟩ x5).setCell ⟨g, 6, none⟩ x6).setCell ⟨g, 7, none⟩ x7) := ((((((((h.far n2 n4 hg 0 x0).far n2 n4 hg 1 x1).far n2 n4 hg 2 x2).far n2 n4 hg 3 x3).far n2 n4 hg 4 x4).far n2 n4 hg 5 x5).far n2 n4 hg 6 x6).far n2 n4 hg 7 x7)
theorem Wd.farA {W : World} {gl : Nat} {L : List ByteArray} (h : Wd W gl L) {g : Nat} (hne : gl ≠ g) (x0 x1 x2 x3 x4 x5 x6 x7 : Value) : Wd ((((((((W.setCell ⟨g, 0, none⟩ x0).setCell ⟨g, 1, none⟩ x1).setCell ⟨g, 2, none⟩ x2).setCell ⟨g, 3, none⟩ x3).setCell ⟨g, 4, none⟩ x4).setCell ⟨g, 5, none⟩ x5).setCell ⟨g, 6, none⟩ x6).setCell ⟨g, 7, none⟩ x7) gl L := ((((((((h.far hne 0 x0).far hne 1 x1).far hne 2 x2).far hne 3 x3).far hne 4 x4).far hne 5 x5).far hne 6 x6).far hne 7 x7)
theorem Wd.grown {W W' : World} {gl base : Nat} {L : List ByteArray} (h : Wd W gl L) {ok : Nat → Prop} {v : Value} {xs : List S35} (hr : Kd.R k35 35 W base ok v xs) (hg : W.grownBy W' v.ownBlock) : Wd W' gl L := by
  obtain ⟨cur, h1, h2⟩ := h
  exact ⟨cur, blk_grown h1 hg (fun e => ((Kd.R_types hr h1 (by decide)).1 _ e.symm).2 rfl), h2⟩
theorem data_next (L : List ByteArray) (i : Nat) (h4 : 4 ≤ i) (hi : i < L.length) : ((L.take (i + 1)).drop 4).map blkOf = ((L.take i).drop 4).map blkOf ++ [blkOf (L.getD i eB)] := by
  rw [List.take_add_one, List.getElem?_eq_getElem hi, List.drop_append_of_le_length (by rw [List.length_take]; omega), List.map_append, List.getD_eq_getElem?_getD, List.getElem?_eq_getElem hi]
  rfl
set_option maxHeartbeats 16000000 in
set_option maxRecDepth 100000 in
theorem Parse_any (s : ByteArray) (w : World) (hL : Ld w) (hs : s.size < 4294967281) :
    Calls Tryd.prog 14 #[.string s] w fun e w' => isR w' (parseC s) e ∧ Below w.heap.size w w' := by
  have hmf : ∀ (fn : Fn) (first cap : Array Value) (w : World), (Instr.makeFunc fn first cap).run Tryd.prog w = .ok (.func fn first cap) w := fun _ _ _ _ => rfl
  have hu24 := Tryd.underlying24
  have HLD := Aside0.mk hL
  have HS := Aside0.mk hs
  clear hL hs
  go_enter Tryd.func14, Tryd.ntmps14
  go_wp2
  have q : Ps w w.heap.size (w.heap.size + 1) (.slice none 0 0) ((w.alloc (.cells #[.int .i64 0, .int .i64 0, .int .i64 0, .bool false, .string ⟨#[]⟩, .string ⟨#[]⟩, .int .i64 0, .int .i64 0, .slice none 0 0] 24)).alloc (.cells #[.slice none 0 0] 38)) := Ps.start w
  generalize (w.alloc (.cells #[.int .i64 0, .int .i64 0, .int .i64 0, .bool false, .string ⟨#[]⟩, .string ⟨#[]⟩, .int .i64 0, .int .i64 0, .slice none 0 0] 24)).alloc (.cells #[.slice none 0 0] 38) = w1 at q ⊢
  generalize hg4 : w.heap.size + 1 = g4 at q ⊢
  have HP := Aside0.mk q
  have G4 : Aside0 (w.heap.size ≠ g4) := ⟨by omega⟩
  clear q hg4
  go_loopg [5, 6] (s.data.toList.length + 1) (fun kq v5 v6 w' => ∃ (r : List UInt8) (m : Bool) (v : Value) (acc : List ByteArray), v5 = .string (mkB r) ∧ v6 = .bool m ∧ Aside0 (r.length ≤ s.size ∧ kq = if m = true then r.length + 1 else 0) ∧ Aside0 (splB s = acc ++ (if m = true then (spl r).map mkB else [])) ∧ Aside0 (Kd.R Kd.string 9 w' w.heap.size (fun k => k ≠ g4) v acc) ∧ Aside0 (Ps w w.heap.size g4 v w'))
  case atStart => exact ⟨s.data.toList, true, .slice none 0 0, [], rfl, rfl, ⟨by rw [dsize]; exact Nat.le_refl _, rfl⟩, ⟨by simp only [List.nil_append, if_true]; rfl⟩, ⟨Kd.R_nil _ _ _ _ _⟩, HP⟩
  case round =>
    clear HP
    obtain ⟨r, m, v, acc, rfl, rfl, HI, HSP, HR, HP⟩ := hrel
    cases m
    · have hsp : splB s = acc := by rw [HSP.out]; simp
      have hz := spl_pos s
      rw [hsp] at hz
      obtain ⟨gl, cap, hv, hcap, hwd⟩ := Wd_of_R HR.out hz
      subst hv
      have NG : Aside0 (gl ≠ g4) := ⟨fun e => HR.out.1 gl rfl e⟩
      rw [← hsp] at hcap hwd hz HP
      have HW := Aside0.mk hwd
      have HZ := Aside0.mk hz
      have HBD := Aside0.mk (spl_bd s HS.out)
      have HCP := Aside0.mk hcap
      clear HR HSP HI hcap hwd hz
      generalize hL : splB s = L at *
      have HL := Lib.hid hL
      clear hL hsp acc
      go_wp2_with fail
      have h8 := blk_new wr (.cells #[.int .i64 0, .int .i64 0, .int .i64 0, .bool false, .string ⟨#[]⟩, .string ⟨#[]⟩, .int .i64 0, .int .i64 0, .slice none 0 0] 24)
      have hp8 := HP.out.below (below_allocs wr (.cells #[.int .i64 0, .int .i64 0, .int .i64 0, .bool false, .string ⟨#[]⟩, .string ⟨#[]⟩, .int .i64 0, .int .i64 0, .slice none 0 0] 24))
      have hw8 := HW.out.below (below_allocs wr (.cells #[.int .i64 0, .int .i64 0, .int .i64 0, .bool false, .string ⟨#[]⟩, .string ⟨#[]⟩, .int .i64 0, .int .i64 0, .slice none 0 0] 24))
      have N2 : Aside0 (w.heap.size ≠ wr.heap.size) := ⟨by have := blk_lt HP.out.h2; omega⟩
      have N4 : Aside0 (g4 ≠ wr.heap.size) := ⟨by have := blk_lt HP.out.h4; omega⟩
      have NL : Aside0 (gl ≠ wr.heap.size) := ⟨by have := HW.out.lt; omega⟩
      have GE8 : Aside0 (w.heap.size ≤ wr.heap.size) := ⟨below_size HP.out.hb⟩
      generalize wr.alloc (.cells #[.int .i64 0, .int .i64 0, .int .i64 0, .bool false, .string ⟨#[]⟩, .string ⟨#[]⟩, .int .i64 0, .int .i64 0, .slice none 0 0] 24) = w5 at h8 hp8 hw8 ⊢
      generalize wr.heap.size = g8 at N2 N4 NL GE8 h8 ⊢
      refine (kinds_any w5).mono ?_
      rintro e w6 ⟨rfl, hb⟩
      replace HP := Aside0.mk (hp8.below hb)
      replace HW := Aside0.mk (hw8.below hb)
      have H8 := Aside0.mk (blk_below h8 hb)
      clear h8 hp8 hw8 hb
      go_wp2
      go_loopg [30] 8 (fun kq v30 w' => ∃ i : Nat, v30 = .int .i64 i ∧ Aside0 (i ≤ 8 ∧ kq = 8 - i) ∧ Aside0 (w'.heap[g8]? = some (.cells #[.int .i64 0, .int .i64 (kindUpto (L.getD 0 eB) i), .int .i64 0, .bool false, .string ⟨#[]⟩, .string ⟨#[]⟩, .int .i64 0, .int .i64 0, .slice none 0 0] 24 (0, 0))) ∧ Aside0 (Ps w w.heap.size g4 (.slice (some ⟨gl, 0, none⟩) L.length cap) w') ∧ Aside0 (Wd w' gl L))
      case atStart => exact ⟨0, rfl, ⟨by omega, rfl⟩, H8, HP, HW⟩
      case round =>
        clear HP HW H8
        obtain ⟨i, rfl, HI, H8, HP, HW⟩ := hrel
        by_cases h : i < 8
        · have d1 : decide ((i : Int) < 8) = true := decide_eq_true (by omega)
          have p1 : (0 ≤ (i : Int)) = True := eq_true (by omega)
          have p2 : ((i : Int) < 8) = True := eq_true (by omega)
          have hix : ∀ w, (Instr.index 41 kindsV (.int .i64 i)).run Tryd.prog w = .ok (.string (kindB i)) w := fun w => kinds_index i h w
          have c4 := (blk_cell HP.out.h4 0).trans (show _ = some (Value.slice (some ⟨gl, 0, none⟩) L.length cap) from rfl)
          have z1 : ((0 : Int) < (L.length : Int)) = True := eq_true (by have := HZ.out; omega)
          have z2 : (0 < L.length) = True := eq_true HZ.out
          have hc0 := HW.out.at 0 HZ.out
          obtain ⟨x1, hx1⟩ : ∃ x, x = L.getD 0 eB := ⟨_, rfl⟩
          rw [← hx1] at hc0 H8
          have HX1 := Lib.hid hx1
          have hku : kindUpto x1 (i + 1) = if kindB i = x1 then (i : Int) else kindUpto x1 i := rfl
          have HKU := Lib.hid hku
          obtain ⟨c0, c1, c2, c3, c4', c5, c6, c7, c8⟩ := cells24 H8.out
          obtain ⟨f0, f1, f2, f3, f4, f5, f6, f7, f8⟩ := frozen24 H8.out
          clear hx1 hku
          generalize hkb : kindB i = kb at hix
          have HKB := Lib.hid hkb
          clear hkb
          cases heq : kb.toList == x1.toList
          · have hne : ¬ kb = x1 := fun e => by rw [e] at heq; simp at heq
            have HNE := Aside0.mk hne
            clear hne
            go_wp2
            go_roundg (8 - (i + 1))
            case measure => have := HI.out; omega
            case rel =>
              refine ⟨i + 1, by first | rfl | (simp; omega) | (unfold wrap64; simp; omega), ⟨by omega, rfl⟩, ⟨?_⟩, HP, HW⟩
              rw [← HX1.out, HKU.out, HKB.out, if_neg HNE.out]
              exact H8.out
          · have hne : kb = x1 := bytes_ext (beq_iff_eq.1 heq)
            have HNE := Aside0.mk hne
            clear hne
            go_wp2
            go_roundg (8 - (i + 1))
            case measure => have := HI.out; omega
            case rel =>
              refine ⟨i + 1, by first | rfl | (simp; omega) | (unfold wrap64; simp; omega), ⟨by omega, rfl⟩, ⟨?_⟩, ⟨HP.out.far N2.out N4.out GE8.out 1 _⟩, ⟨HW.out.far NL.out 1 _⟩⟩
              rw [← HX1.out, HKU.out, HKB.out, if_pos HNE.out]
              exact blk_put H8.out 1 _ rfl
        · have hi8 : i = 8 := by have := HI.out; omega
          subst hi8
          have d1 : decide (((8 : Nat) : Int) < 8) = false := by decide
          generalize hkk : kindUpto (L.getD 0 eB) 8 = kk at H8
          have HKK := Lib.hid hkk
          clear hkk
          have c4 := (blk_cell HP.out.h4 0).trans (show _ = some (Value.slice (some ⟨gl, 0, none⟩) L.length cap) from rfl)
          obtain ⟨bO, hbO⟩ : ∃ b, b = decide (1 < L.length ∧ L.getD (L.length - 1) eB = orderedB) := ⟨_, rfl⟩
          have HBO := Lib.hid hbO
          clear hbO
          go_upto_region 15 with (fail)
          go_cut [53] from 44 to 52 (fun s53 wx => s53 = .bool bO ∧ wx = wr)
          case first =>
            have hcl := HW.out.at (L.length - 1) (by have := HZ.out; omega)
            obtain ⟨x1, hx1⟩ : ∃ x, x = L.getD (L.length - 1) eB := ⟨_, rfl⟩
            rw [← hx1] at hcl
            have HX1 := Lib.hid hx1
            clear hx1
            have q1 : (((L.length : Int) - 1)).toNat = L.length - 1 := by have := HZ.out; omega
            have q2 : (0 ≤ ((L.length : Int) - 1)) = True := eq_true (by have := HZ.out; omega)
            have q3 : (((L.length : Int) - 1) < (L.length : Int)) = True := eq_true (by omega)
            have q5 : (1 ≤ (L.length : Int)) = True := eq_true (by have := HZ.out; omega)
            have q6 : (1 ≤ L.length) = True := eq_true HZ.out
            have q4 : (L.length : Int) ≤ 4294967290 := by have := HBD.out; omega
            by_cases h1 : 1 < L.length
            · have e1 : decide ((1 : Int) < (L.length : Int)) = true := decide_eq_true (by omega)
              have e1n : decide (1 < L.length) = true := decide_eq_true h1
              have H1 := Aside0.mk h1
              clear h1
              cases heq : x1.toList == [111, 114, 100, 101, 114, 101, 100]
              · have hb : bO = false := by
                  rw [HBO.out, ← HX1.out]
                  refine decide_eq_false (fun q => ?_)
                  rw [q.2, ordered_list] at heq
                  exact absurd heq (by decide)
                have HB1 := Lib.hid hb
                clear hb
                go_wp2_with fail
                go_meet
                exact ⟨by rw [HB1.out], rfl⟩
              · have hb : bO = true := by
                  rw [HBO.out, ← HX1.out]
                  refine decide_eq_true ⟨H1.out, bytes_ext ?_⟩
                  rw [beq_iff_eq.1 heq, ordered_list]
                have HB1 := Lib.hid hb
                clear hb
                go_wp2_with fail
                go_meet
                exact ⟨by rw [HB1.out], rfl⟩
            · have e1 : decide ((1 : Int) < (L.length : Int)) = false := decide_eq_false (by omega)
              have e1n : decide (1 < L.length) = false := decide_eq_false h1
              have hb : bO = false := by rw [HBO.out]; exact decide_eq_false (fun q => h1 q.1)
              have HB1 := Lib.hid hb
              clear hb h1
              go_wp2_with fail
              go_meet
              exact ⟨by rw [HB1.out], rfl⟩
          case rest =>
          obtain ⟨rfl, rfl⟩ := hcut
          generalize wc = w7 at *
          have hno : nO L = if bO = true then L.length - 1 else L.length := by unfold nO; rw [HBO.out]; simp
          have hoo : oO L = if bO = true then 1 else 0 := by unfold oO; rw [HBO.out]; simp
          obtain ⟨n1, hn1⟩ : ∃ n, n = nO L := ⟨_, rfl⟩
          rw [← hn1] at hno
          have HN1 := Lib.hid hn1
          have HNO := Lib.hid hno
          have HOO := Lib.hid hoo
          clear hno hoo hn1
          clear c4
          go_upto_if 53 with (fail)
          go_cut [] from 54 to 58 (fun wx => Aside0 (wx.heap[g8]? = some (.cells #[.int .i64 0, .int .i64 kk, .int .i64 (oO L), .bool false, .string ⟨#[]⟩, .string ⟨#[]⟩, .int .i64 0, .int .i64 0, .slice none 0 0] 24 (0, 0))) ∧ Aside0 (Ps w w.heap.size g4 (.slice (some ⟨gl, 0, none⟩) n1 cap) wx) ∧ Aside0 (Wd wx gl L))
          case first =>
            cases bO
            · have e1 : oO L = 0 := by rw [HOO.out]; rfl
              have e2 : n1 = L.length := by rw [HNO.out]; rfl
              have E1 := Lib.hid e1
              have E2 := Lib.hid e2
              clear e1 e2
              go_wp2_with fail
              go_meet
              rw [E1.out, E2.out]
              exact ⟨H8, HP, HW⟩
            · have e1 : oO L = 1 := by rw [HOO.out]; rfl
              have e2 : n1 = L.length - 1 := by rw [HNO.out]; rfl
              have E1 := Lib.hid e1
              have E2 := Lib.hid e2
              clear e1 e2
              have q1 : (((L.length : Int) - 1)).toNat = L.length - 1 := by have := HZ.out; omega
              have q2 : (0 ≤ ((L.length : Int) - 1)) = True := eq_true (by have := HZ.out; omega)
              have q3 : (((L.length : Int) - 1) ≤ (cap : Int)) = True := eq_true (by have := HCP.out; omega)
              have q5 : (1 ≤ (L.length : Int)) = True := eq_true (by have := HZ.out; omega)
              have q6 : (1 ≤ L.length) = True := eq_true HZ.out
              have q4 : (L.length : Int) ≤ 4294967290 := by have := HBD.out; omega
              have c4 := (blk_cell HP.out.h4 0).trans (show _ = some (Value.slice (some ⟨gl, 0, none⟩) L.length cap) from rfl)
              have f4' := blk_frozen HP.out.h4 0
              obtain ⟨c0, c1, c2, c3, c4', c5, c6, c7, c8⟩ := cells24 H8.out
              obtain ⟨f0, f1, f2, f3, f4, f5, f6, f7, f8⟩ := frozen24 H8.out
              go_wp2_with fail
              go_region
              go_wp2_with fail
              go_meet
              rw [E1.out, E2.out]
              exact ⟨⟨blk_drew (blk_far (blk_put H8.out 2 _ rfl) (p := ⟨g4, 0, none⟩) N4.out.symm _)⟩, ⟨((HP.out.far N2.out N4.out GE8.out 2 _).set4 _).drew⟩, ⟨((HW.out.far NL.out 2 _).far NG.out 0 _).drew⟩⟩
          case rest =>
          clear H8 HP HW
          obtain ⟨H8, HP, HW⟩ := hcut
          have hb1 : 1 ≤ n1 ∧ n1 ≤ L.length := by
            rw [HN1.out]
            unfold nO
            have := HZ.out
            split <;> omega
          have HB1 := Aside0.mk hb1
          clear hb1
          generalize wc = w8 at *
          have c4 := (blk_cell HP.out.h4 0).trans (show _ = some (Value.slice (some ⟨gl, 0, none⟩) n1 cap) from rfl)
          obtain ⟨bF, hbF⟩ : ∃ b, b = decide (1 < n1 ∧ L.getD (n1 - 1) eB = forceB) := ⟨_, rfl⟩
          have HBF := Lib.hid hbF
          clear hbF
          go_upto_region 18 with (fail)
          go_cut [70] from 61 to 69 (fun s70 wx => s70 = .bool bF ∧ wx = w8)
          case first =>
            have hcl := HW.out.at (n1 - 1) (by have := HB1.out; omega)
            obtain ⟨x1, hx1⟩ : ∃ x, x = L.getD (n1 - 1) eB := ⟨_, rfl⟩
            rw [← hx1] at hcl
            have HX1 := Lib.hid hx1
            clear hx1
            have q1 : (((n1 : Int) - 1)).toNat = n1 - 1 := by have := HB1.out; omega
            have q2 : (0 ≤ ((n1 : Int) - 1)) = True := eq_true (by have := HB1.out; omega)
            have q3 : (((n1 : Int) - 1) < (n1 : Int)) = True := eq_true (by omega)
            have q5 : (1 ≤ (n1 : Int)) = True := eq_true (by have := HB1.out; omega)
            have q6 : (1 ≤ n1) = True := eq_true HB1.out.1
            have q4 : (n1 : Int) ≤ 4294967290 := by have := HBD.out; have := HB1.out; omega
            by_cases h1 : 1 < n1
            · have e1 : decide ((1 : Int) < (n1 : Int)) = true := decide_eq_true (by omega)
              have e1n : decide (1 < n1) = true := decide_eq_true h1
              have H1 := Aside0.mk h1
              clear h1
              cases heq : x1.toList == [102, 111, 114, 99, 101]
              · have hb : bF = false := by
                  rw [HBF.out, ← HX1.out]
                  refine decide_eq_false (fun q => ?_)
                  rw [q.2, force_list] at heq
                  exact absurd heq (by decide)
                have HB1 := Lib.hid hb
                clear hb
                go_wp2_with fail
                go_meet
                exact ⟨by rw [HB1.out], rfl⟩
              · have hb : bF = true := by
                  rw [HBF.out, ← HX1.out]
                  refine decide_eq_true ⟨H1.out, bytes_ext ?_⟩
                  rw [beq_iff_eq.1 heq, force_list]
                have HB1 := Lib.hid hb
                clear hb
                go_wp2_with fail
                go_meet
                exact ⟨by rw [HB1.out], rfl⟩
            · have e1 : decide ((1 : Int) < (n1 : Int)) = false := decide_eq_false (by omega)
              have e1n : decide (1 < n1) = false := decide_eq_false h1
              have hb : bF = false := by rw [HBF.out]; exact decide_eq_false (fun q => h1 q.1)
              have HB1 := Lib.hid hb
              clear hb h1
              go_wp2_with fail
              go_meet
              exact ⟨by rw [HB1.out], rfl⟩
          case rest =>
          obtain ⟨rfl, rfl⟩ := hcut
          generalize wc = w9 at *
          have hno : nF L n1 = if bF = true then n1 - 1 else n1 := by unfold nF; rw [HBF.out]; simp
          have hoo : fF L n1 = bF := by unfold fF; rw [HBF.out]
          obtain ⟨n2, hn2⟩ : ∃ n, n = nF L n1 := ⟨_, rfl⟩
          rw [← hn2] at hno
          have HN2 := Lib.hid hn2
          have HNF := Lib.hid hno
          have HFF := Lib.hid hoo
          clear hno hoo hn2
          clear c4
          go_upto_if 70 with (fail)
          go_cut [] from 71 to 75 (fun wx => Aside0 (wx.heap[g8]? = some (.cells #[.int .i64 0, .int .i64 kk, .int .i64 (oO L), .bool (fF L n1), .string ⟨#[]⟩, .string ⟨#[]⟩, .int .i64 0, .int .i64 0, .slice none 0 0] 24 (0, 0))) ∧ Aside0 (Ps w w.heap.size g4 (.slice (some ⟨gl, 0, none⟩) n2 cap) wx) ∧ Aside0 (Wd wx gl L))
          case first =>
            cases bF
            · have e1 : fF L n1 = false := HFF.out
              have e2 : n2 = n1 := by rw [HNF.out]; rfl
              have E1 := Lib.hid e1
              have E2 := Lib.hid e2
              clear e1 e2
              go_wp2_with fail
              go_meet
              rw [E1.out, E2.out]
              exact ⟨H8, HP, HW⟩
            · have e1 : fF L n1 = true := HFF.out
              have e2 : n2 = n1 - 1 := by rw [HNF.out]; rfl
              have E1 := Lib.hid e1
              have E2 := Lib.hid e2
              clear e1 e2
              have q1 : (((n1 : Int) - 1)).toNat = n1 - 1 := by have := HB1.out; omega
              have q2 : (0 ≤ ((n1 : Int) - 1)) = True := eq_true (by have := HB1.out; omega)
              have q3 : (((n1 : Int) - 1) ≤ (cap : Int)) = True := eq_true (by have := HCP.out; have := HB1.out; omega)
              have q5 : (1 ≤ (n1 : Int)) = True := eq_true (by have := HB1.out; omega)
              have q6 : (1 ≤ n1) = True := eq_true HB1.out.1
              have q4 : (n1 : Int) ≤ 4294967290 := by have := HBD.out; have := HB1.out; omega
              have c4 := (blk_cell HP.out.h4 0).trans (show _ = some (Value.slice (some ⟨gl, 0, none⟩) n1 cap) from rfl)
              have f4' := blk_frozen HP.out.h4 0
              obtain ⟨c0, c1, c2, c3, c4', c5, c6, c7, c8⟩ := cells24 H8.out
              obtain ⟨f0, f1, f2, f3, f4, f5, f6, f7, f8⟩ := frozen24 H8.out
              go_wp2_with fail
              go_region
              go_wp2_with fail
              go_meet
              rw [E1.out, E2.out]
              exact ⟨⟨blk_drew (blk_far (blk_put H8.out 3 _ rfl) (p := ⟨g4, 0, none⟩) N4.out.symm _)⟩, ⟨((HP.out.far N2.out N4.out GE8.out 3 _).set4 _).drew⟩, ⟨((HW.out.far NL.out 3 _).far NG.out 0 _).drew⟩⟩
          case rest =>
          clear H8 HP HW
          obtain ⟨H8, HP, HW⟩ := hcut
          have hb2 : 1 ≤ n2 ∧ n2 ≤ L.length := by
            rw [HN2.out]
            unfold nF
            have := HB1.out
            split <;> omega
          have HB2 := Aside0.mk hb2
          clear hb2
          generalize wc = w10 at *
          have HBC := Lib.hid (base_of HN1.out HN2.out HKK.out)
          obtain ⟨oo, hoo⟩ : ∃ o, o = oO L := ⟨_, rfl⟩
          obtain ⟨ff, hff⟩ : ∃ f, f = fF L n1 := ⟨_, rfl⟩
          rw [← hoo, ← hff] at H8
          have HOL := Lib.hid hoo
          have HFL := Lib.hid hff
          clear hoo hff
          have hws : ∀ i, (wAt L n2 i).size < 4294967281 := fun i => by rw [← HL.out]; exact wAt_size s HS.out n2 i
          obtain ⟨a1, ha1⟩ : ∃ a, a = wAt L n2 1 := ⟨_, rfl⟩
          have AT1 := Aside0.mk (fun W h4 hw => at_lit W g4 gl n2 cap 1 1 rfl L h4 hw (by have := HB2.out; omega) HBD.out)
          rw [← ha1] at AT1
          replace AT1 : Aside0 (∀ W : World, W.heap[g4]? = some (.cells #[.slice (some ⟨gl, 0, none⟩) n2 cap] 38 (0, 0)) → Wd W gl L → Calls Tryd.prog 26 #[.int .i64 1, .pointer (some ⟨g4, 0, none⟩)] W fun e w' => e = .returned (.string a1) ∧ W = w') := AT1
          obtain ⟨t1, ht1⟩ : ∃ t, t = numB a1 := ⟨_, rfl⟩
          have NU1 : Aside0 (∀ W : World, Ld W → Calls Tryd.prog 27 #[.string a1] W fun e w' => e = .returned (.int .i64 t1) ∧ Below W.heap.size W w') := ⟨fun W hL => by rw [ht1]; exact number_any a1 (by rw [ha1]; exact hws 1) W hL⟩
          have HA1 := Lib.hid ha1
          have HT1 := Lib.hid ht1
          clear ha1 ht1
          obtain ⟨a2, ha2⟩ : ∃ a, a = wAt L n2 2 := ⟨_, rfl⟩
          have AT2 := Aside0.mk (fun W h4 hw => at_lit W g4 gl n2 cap 2 2 rfl L h4 hw (by have := HB2.out; omega) HBD.out)
          rw [← ha2] at AT2
          replace AT2 : Aside0 (∀ W : World, W.heap[g4]? = some (.cells #[.slice (some ⟨gl, 0, none⟩) n2 cap] 38 (0, 0)) → Wd W gl L → Calls Tryd.prog 26 #[.int .i64 2, .pointer (some ⟨g4, 0, none⟩)] W fun e w' => e = .returned (.string a2) ∧ W = w') := AT2
          obtain ⟨t2, ht2⟩ : ∃ t, t = numB a2 := ⟨_, rfl⟩
          have NU2 : Aside0 (∀ W : World, Ld W → Calls Tryd.prog 27 #[.string a2] W fun e w' => e = .returned (.int .i64 t2) ∧ Below W.heap.size W w') := ⟨fun W hL => by rw [ht2]; exact number_any a2 (by rw [ha2]; exact hws 2) W hL⟩
          have HA2 := Lib.hid ha2
          have HT2 := Lib.hid ht2
          clear ha2 ht2
          obtain ⟨a3, ha3⟩ : ∃ a, a = wAt L n2 3 := ⟨_, rfl⟩
          have AT3 := Aside0.mk (fun W h4 hw => at_lit W g4 gl n2 cap 3 3 rfl L h4 hw (by have := HB2.out; omega) HBD.out)
          rw [← ha3] at AT3
          replace AT3 : Aside0 (∀ W : World, W.heap[g4]? = some (.cells #[.slice (some ⟨gl, 0, none⟩) n2 cap] 38 (0, 0)) → Wd W gl L → Calls Tryd.prog 26 #[.int .i64 3, .pointer (some ⟨g4, 0, none⟩)] W fun e w' => e = .returned (.string a3) ∧ W = w') := AT3
          obtain ⟨t3, ht3⟩ : ∃ t, t = numB a3 := ⟨_, rfl⟩
          have NU3 : Aside0 (∀ W : World, Ld W → Calls Tryd.prog 27 #[.string a3] W fun e w' => e = .returned (.int .i64 t3) ∧ Below W.heap.size W w') := ⟨fun W hL => by rw [ht3]; exact number_any a3 (by rw [ha3]; exact hws 3) W hL⟩
          have HA3 := Lib.hid ha3
          have HT3 := Lib.hid ht3
          clear ha3 ht3
          obtain ⟨a4, ha4⟩ : ∃ a, a = wAt L n2 4 := ⟨_, rfl⟩
          have AT4 := Aside0.mk (fun W h4 hw => at_lit W g4 gl n2 cap 4 4 rfl L h4 hw (by have := HB2.out; omega) HBD.out)
          rw [← ha4] at AT4
          replace AT4 : Aside0 (∀ W : World, W.heap[g4]? = some (.cells #[.slice (some ⟨gl, 0, none⟩) n2 cap] 38 (0, 0)) → Wd W gl L → Calls Tryd.prog 26 #[.int .i64 4, .pointer (some ⟨g4, 0, none⟩)] W fun e w' => e = .returned (.string a4) ∧ W = w') := AT4
          obtain ⟨t4, ht4⟩ : ∃ t, t = numB a4 := ⟨_, rfl⟩
          have NU4 : Aside0 (∀ W : World, Ld W → Calls Tryd.prog 27 #[.string a4] W fun e w' => e = .returned (.int .i64 t4) ∧ Below W.heap.size W w') := ⟨fun W hL => by rw [ht4]; exact number_any a4 (by rw [ha4]; exact hws 4) W hL⟩
          have HA4 := Lib.hid ha4
          have HT4 := Lib.hid ht4
          clear ha4 ht4
          have HWS := Aside0.mk hws
          clear hws
          obtain ⟨c0, c1, c2, c3, c4', c5, c6, c7, c8⟩ := cells24 H8.out
          obtain ⟨f0, f1, f2, f3, f4, f5, f6, f7, f8⟩ := frozen24 H8.out
          go_upto_region 22 with (first | ((with_reducible (refine Calls.mono (AT1.out _ HP.out.h4 HW.out) ?_)); rintro e w' ⟨rfl, rfl⟩) | ((with_reducible (refine Calls.mono (AT2.out _ HP.out.h4 HW.out) ?_)); rintro e w' ⟨rfl, rfl⟩) | ((with_reducible (refine Calls.mono (NU1.out _ (HLD.out.below HP.out.hb)) ?_)); rintro e w11 ⟨rfl, hb⟩; have m0 := Aside0.mk (HP.out.below hb); have m1 := Aside0.mk (HW.out.below hb); have m2 := Aside0.mk (blk_below H8.out hb); clear HP HW H8 hb c0 c1 c2 c3 c4' c5 c6 c7 c8 f0 f1 f2 f3 f4 f5 f6 f7 f8; have HP := m0; have HW := m1; have H8 := m2; clear m0 m1 m2; obtain ⟨c0, c1, c2, c3, c4', c5, c6, c7, c8⟩ := cells24 H8.out; obtain ⟨f0, f1, f2, f3, f4, f5, f6, f7, f8⟩ := frozen24 H8.out))
          clear c0 c1 c2 c3 c4' c5 c6 c7 c8 f0 f1 f2 f3 f4 f5 f6 f7 f8
          have hk2 := blk_put (blk_put H8.out 0 (.int .i64 t1) rfl) 4 (.string a2) rfl
          have hp := (HP.out.far N2.out N4.out GE8.out 0 (.int .i64 t1)).far N2.out N4.out GE8.out 4 (.string a2)
          have hw := (HW.out.far NL.out 0 (.int .i64 t1)).far NL.out 4 (.string a2)
          generalize (w11.setCell ⟨g8, 0, none⟩ (.int .i64 t1)).setCell ⟨g8, 4, none⟩ (.string a2) = w12 at hk2 hp hw ⊢
          replace H8 := Aside0.mk hk2
          replace HP := Aside0.mk hp
          replace HW := Aside0.mk hw
          clear hk2 hp hw
          obtain ⟨c0, c1, c2, c3, c4', c5, c6, c7, c8⟩ := cells24 H8.out
          obtain ⟨f0, f1, f2, f3, f4, f5, f6, f7, f8⟩ := frozen24 H8.out
          go_upto_block 4 with (fail)
          clear c0 c1 c2 c3 c4' c5 c6 c7 c8 f0 f1 f2 f3 f4 f5 f6 f7 f8
          go_cut [14, 15, 16] from 86 to 141 (fun s14 s15 s16 wx => ∃ v, Aside0 (wx.heap[g8]? = some (.cells (cmdA (baseC L) v) 24 (0, 0))) ∧ Aside0 (Kd.R k35 35 wx w.heap.size (fun _ => True) v (baseC L).data) ∧ Aside0 (Ps w w.heap.size g4 (.slice (some ⟨gl, 0, none⟩) n2 cap) wx))
          case first =>
            by_cases k1 : kk = 1
            · subst k1
              have hb : baseC L = ⟨t1, 1, oo, ff, a2, eB, t3, t4, []⟩ := by rw [HBC.out, HOL.out, HFL.out, HT1.out, HA1.out, HA2.out, HT3.out, HA3.out, HT4.out, HA4.out]; rfl
              have HB0 := Lib.hid hb
              clear hb
              obtain ⟨c0, c1, c2, c3, c4', c5, c6, c7, c8⟩ := cells24 H8.out
              obtain ⟨f0, f1, f2, f3, f4, f5, f6, f7, f8⟩ := frozen24 H8.out
              go_wp2_with (first | ((with_reducible (refine Calls.mono (AT3.out _ HP.out.h4 HW.out) ?_)); rintro e w' ⟨rfl, rfl⟩) | ((with_reducible (refine Calls.mono (AT4.out _ HP.out.h4 HW.out) ?_)); rintro e w' ⟨rfl, rfl⟩) | ((with_reducible (refine Calls.mono (NU3.out _ (HLD.out.below HP.out.hb)) ?_)); rintro e w11 ⟨rfl, hb⟩; have m0 := Aside0.mk (HP.out.below hb); have m1 := Aside0.mk (HW.out.below hb); have m2 := Aside0.mk (blk_below H8.out hb); clear HP HW H8 hb c0 c1 c2 c3 c4' c5 c6 c7 c8 f0 f1 f2 f3 f4 f5 f6 f7 f8; have HP := m0; have HW := m1; have H8 := m2; clear m0 m1 m2; obtain ⟨c0, c1, c2, c3, c4', c5, c6, c7, c8⟩ := cells24 H8.out; obtain ⟨f0, f1, f2, f3, f4, f5, f6, f7, f8⟩ := frozen24 H8.out) | ((with_reducible (refine Calls.mono (NU4.out _ (HLD.out.below HP.out.hb)) ?_)); rintro e w11 ⟨rfl, hb⟩; have m0 := Aside0.mk (HP.out.below hb); have m1 := Aside0.mk (HW.out.below hb); have m2 := Aside0.mk (blk_below H8.out hb); clear HP HW H8 hb c0 c1 c2 c3 c4' c5 c6 c7 c8 f0 f1 f2 f3 f4 f5 f6 f7 f8; have HP := m0; have HW := m1; have H8 := m2; clear m0 m1 m2; obtain ⟨c0, c1, c2, c3, c4', c5, c6, c7, c8⟩ := cells24 H8.out; obtain ⟨f0, f1, f2, f3, f4, f5, f6, f7, f8⟩ := frozen24 H8.out))
              go_meet
              rw [HB0.out]
              exact ⟨_, ⟨blk_put (blk_put H8.out 6 _ rfl) 7 _ rfl⟩, ⟨Kd.R_nil _ _ _ _ _⟩, ⟨(HP.out.far N2.out N4.out GE8.out 6 _).far N2.out N4.out GE8.out 7 _⟩⟩
            by_cases k3 : kk = 3
            · subst k3
              have hb : baseC L = ⟨t1, 3, oo, ff, a2, eB, t3, t4, []⟩ := by rw [HBC.out, HOL.out, HFL.out, HT1.out, HA1.out, HA2.out, HT3.out, HA3.out, HT4.out, HA4.out]; rfl
              have HB0 := Lib.hid hb
              clear hb k1
              obtain ⟨c0, c1, c2, c3, c4', c5, c6, c7, c8⟩ := cells24 H8.out
              obtain ⟨f0, f1, f2, f3, f4, f5, f6, f7, f8⟩ := frozen24 H8.out
              go_wp2_with (first | ((with_reducible (refine Calls.mono (AT3.out _ HP.out.h4 HW.out) ?_)); rintro e w' ⟨rfl, rfl⟩) | ((with_reducible (refine Calls.mono (AT4.out _ HP.out.h4 HW.out) ?_)); rintro e w' ⟨rfl, rfl⟩) | ((with_reducible (refine Calls.mono (NU3.out _ (HLD.out.below HP.out.hb)) ?_)); rintro e w11 ⟨rfl, hb⟩; have m0 := Aside0.mk (HP.out.below hb); have m1 := Aside0.mk (HW.out.below hb); have m2 := Aside0.mk (blk_below H8.out hb); clear HP HW H8 hb c0 c1 c2 c3 c4' c5 c6 c7 c8 f0 f1 f2 f3 f4 f5 f6 f7 f8; have HP := m0; have HW := m1; have H8 := m2; clear m0 m1 m2; obtain ⟨c0, c1, c2, c3, c4', c5, c6, c7, c8⟩ := cells24 H8.out; obtain ⟨f0, f1, f2, f3, f4, f5, f6, f7, f8⟩ := frozen24 H8.out) | ((with_reducible (refine Calls.mono (NU4.out _ (HLD.out.below HP.out.hb)) ?_)); rintro e w11 ⟨rfl, hb⟩; have m0 := Aside0.mk (HP.out.below hb); have m1 := Aside0.mk (HW.out.below hb); have m2 := Aside0.mk (blk_below H8.out hb); clear HP HW H8 hb c0 c1 c2 c3 c4' c5 c6 c7 c8 f0 f1 f2 f3 f4 f5 f6 f7 f8; have HP := m0; have HW := m1; have H8 := m2; clear m0 m1 m2; obtain ⟨c0, c1, c2, c3, c4', c5, c6, c7, c8⟩ := cells24 H8.out; obtain ⟨f0, f1, f2, f3, f4, f5, f6, f7, f8⟩ := frozen24 H8.out))
              go_meet
              rw [HB0.out]
              exact ⟨_, ⟨blk_put (blk_put H8.out 6 _ rfl) 7 _ rfl⟩, ⟨Kd.R_nil _ _ _ _ _⟩, ⟨(HP.out.far N2.out N4.out GE8.out 6 _).far N2.out N4.out GE8.out 7 _⟩⟩
            by_cases k2 : kk = 2
            · subst k2
              have hb : baseC L = ⟨t1, 2, oo, ff, a2, eB, t3, (((L.take n2).drop 4).map blkOf).length, ((L.take n2).drop 4).map blkOf⟩ := by rw [HBC.out, HOL.out, HFL.out, HT1.out, HA1.out, HA2.out, HT3.out, HA3.out]; rfl
              have HB0 := Lib.hid hb
              clear hb k1 k3
              obtain ⟨c0, c1, c2, c3, c4', c5, c6, c7, c8⟩ := cells24 H8.out
              obtain ⟨f0, f1, f2, f3, f4, f5, f6, f7, f8⟩ := frozen24 H8.out
              go_upto_region 28 with (first | ((with_reducible (refine Calls.mono (AT3.out _ HP.out.h4 HW.out) ?_)); rintro e w' ⟨rfl, rfl⟩) | ((with_reducible (refine Calls.mono (NU3.out _ (HLD.out.below HP.out.hb)) ?_)); rintro e w11 ⟨rfl, hb⟩; have m0 := Aside0.mk (HP.out.below hb); have m1 := Aside0.mk (HW.out.below hb); have m2 := Aside0.mk (blk_below H8.out hb); clear HP HW H8 hb c0 c1 c2 c3 c4' c5 c6 c7 c8 f0 f1 f2 f3 f4 f5 f6 f7 f8; have HP := m0; have HW := m1; have H8 := m2; clear m0 m1 m2; obtain ⟨c0, c1, c2, c3, c4', c5, c6, c7, c8⟩ := cells24 H8.out; obtain ⟨f0, f1, f2, f3, f4, f5, f6, f7, f8⟩ := frozen24 H8.out))
              clear c0 c1 c2 c3 c4' c5 c6 c7 c8 f0 f1 f2 f3 f4 f5 f6 f7 f8
              have hk2 := blk_put H8.out 6 (.int .i64 t3) rfl
              have hp := HP.out.far N2.out N4.out GE8.out 6 (.int .i64 t3)
              have hw := HW.out.far NL.out 6 (.int .i64 t3)
              generalize w11.setCell ⟨g8, 6, none⟩ (.int .i64 t3) = w13 at hk2 hp hw ⊢
              replace H8 := Aside0.mk hk2
              replace HP := Aside0.mk hp
              replace HW := Aside0.mk hw
              clear hk2 hp hw
              go_wp2
              go_loopg [14] (n2 - 4) (fun kq v14 w' => ∃ (i : Nat) (v : Value) (dl : List S35), v14 = .int .i64 i ∧ Aside0 (4 ≤ i ∧ (i ≤ n2 ∨ i = 4) ∧ kq = n2 - i) ∧ Aside0 (dl = ((L.take i).drop 4).map blkOf) ∧ Aside0 (w'.heap[g8]? = some (.cells #[.int .i64 t1, .int .i64 2, .int .i64 oo, .bool ff, .string a2, .string ⟨#[]⟩, .int .i64 t3, .int .i64 0, v] 24 (0, 0))) ∧ Aside0 (Kd.R k35 35 w' w.heap.size (fun _ => True) v dl) ∧ Aside0 (Ps w w.heap.size g4 (.slice (some ⟨gl, 0, none⟩) n2 cap) w') ∧ Aside0 (Wd w' gl L))
              case atStart => exact ⟨4, .slice none 0 0, [], rfl, ⟨by omega, Or.inr rfl, rfl⟩, ⟨by rw [List.drop_eq_nil_of_le (by rw [List.length_take]; omega)]; rfl⟩, H8, ⟨Kd.R_nil _ _ _ _ _⟩, HP, HW⟩
              case round =>
                clear H8 HP HW
                obtain ⟨i, v, dl, rfl, HI, HDL, H8, HR, HP, HW⟩ := hrel
                have c4 := (blk_cell HP.out.h4 0).trans (show _ = some (Value.slice (some ⟨gl, 0, none⟩) n2 cap) from rfl)
                by_cases h : i < n2
                · have d1 : decide ((i : Int) < (n2 : Int)) = true := decide_eq_true (by omega)
                  have p1 : (0 ≤ (i : Int)) = True := eq_true (by omega)
                  have p2 : ((i : Int) < (n2 : Int)) = True := eq_true (by omega)
                  have hcl := HW.out.at i (by have := HB2.out; omega)
                  obtain ⟨x, hx⟩ : ∃ x, x = L.getD i eB := ⟨_, rfl⟩
                  rw [← hx] at hcl
                  have BK28 : Aside0 (∀ W : World, Ld W → Calls Tryd.prog 28 #[.string x] W fun e w' => e = .returned (.tuple #[.agg #[.int .u8 (blkOf x).f0, .int .u8 (blkOf x).f1, .int .u8 (blkOf x).f2, .int .u8 (blkOf x).f3, .int .u8 (blkOf x).f4, .int .u8 (blkOf x).f5, .int .u8 (blkOf x).f6, .int .u8 (blkOf x).f7], .bool (blockO x)]) ∧ Below W.heap.size W w') := ⟨fun W hL => by have := block_any x W hL; rw [agg_blk] at this; exact this⟩
                  have hnext : ((L.take (i + 1)).drop 4).map blkOf = dl ++ [blkOf x] := by rw [HDL.out, hx]; exact data_next L i HI.out.1 (by have := HB2.out; omega)
                  have LIM : Aside0 ((dl.length + 1) * 8 ≤ 140737488355328) := ⟨by
                    have h1 := HBD.out
                    rw [HDL.out, List.length_map, List.length_drop, List.length_take]
                    omega⟩
                  generalize blkOf x = b at BK28 hnext
                  generalize blockO x = bo at BK28
                  have HNX := Lib.hid hnext
                  have HX := Lib.hid hx
                  have hu35 := Tryd.underlying35
                  clear hx hnext
                  go_upto_region 32 with (first | ((with_reducible (refine Calls.mono (BK28.out _ (HLD.out.below HP.out.hb)) ?_)); rintro e w14 ⟨rfl, hb⟩; have m0 := Aside0.mk (HP.out.below hb); have m1 := Aside0.mk (HW.out.below hb); have m2 := Aside0.mk (blk_below H8.out hb); have m3 := Aside0.mk (Kd.R_below HR.out hb); clear HP HW H8 HR hb; have HP := m0; have HW := m1; have H8 := m2; have HR := m3; clear m0 m1 m2 m3) | ((with_reducible refine gate_dst (N := 15) rfl ?_); refine box_event ?hg (N := 15) ?hd (cs := #[.int .u8 0, .int .u8 0, .int .u8 0, .int .u8 0, .int .u8 0, .int .u8 0, .int .u8 0, .int .u8 0]) (t := 35) ?hr ?_; (case hd => rfl); (case hg => rfl); (case hr => first | (go_simp; done) | (go_simp; rfl)); intro gb hg w15 hbox hb; have m0 := Aside0.mk (HP.out.below hb); have m1 := Aside0.mk (HW.out.below hb); have m2 := Aside0.mk (blk_below H8.out hb); have m3 := Aside0.mk (Kd.R_below (Kd.R_elderB HR.out gb (Nat.le_of_eq hg.symm)) hb); have B2 : Aside0 (w.heap.size ≠ gb) := ⟨by have := blk_lt HP.out.h2; omega⟩; have B4 : Aside0 (g4 ≠ gb) := ⟨by have := blk_lt HP.out.h4; omega⟩; have BL : Aside0 (gl ≠ gb) := ⟨by have := HW.out.lt; omega⟩; have B8 : Aside0 (g8 ≠ gb) := ⟨by have := blk_lt H8.out; omega⟩; have GB : Aside0 (w.heap.size ≤ gb) := ⟨by rw [hg]; exact below_size HP.out.hb⟩; have BKB := Aside0.mk hbox; clear HP HW H8 HR hg hbox hb; have HP := m0; have HW := m1; have H8 := m2; have HR := m3; clear m0 m1 m2 m3; obtain ⟨z0, z1, z2, z3, z4, z5, z6, z7⟩ := cellsA BKB.out; obtain ⟨f0, f1, f2, f3, f4, f5, f6, f7⟩ := frozenA BKB.out))
                  have hkb := putA BKB.out (.int .u8 b.f0) (.int .u8 b.f1) (.int .u8 b.f2) (.int .u8 b.f3) (.int .u8 b.f4) (.int .u8 b.f5) (.int .u8 b.f6) (.int .u8 b.f7)
                  have h8 := farA H8.out B8.out (.int .u8 b.f0) (.int .u8 b.f1) (.int .u8 b.f2) (.int .u8 b.f3) (.int .u8 b.f4) (.int .u8 b.f5) (.int .u8 b.f6) (.int .u8 b.f7)
                  have hp := HP.out.farA B2.out B4.out GB.out (.int .u8 b.f0) (.int .u8 b.f1) (.int .u8 b.f2) (.int .u8 b.f3) (.int .u8 b.f4) (.int .u8 b.f5) (.int .u8 b.f6) (.int .u8 b.f7)
                  have hw := HW.out.farA BL.out (.int .u8 b.f0) (.int .u8 b.f1) (.int .u8 b.f2) (.int .u8 b.f3) (.int .u8 b.f4) (.int .u8 b.f5) (.int .u8 b.f6) (.int .u8 b.f7)
                  have hr := Kd.R_mono (farA_R35 HR.out (g := gb) (fun k hk => hk.2) (.int .u8 b.f0) (.int .u8 b.f1) (.int .u8 b.f2) (.int .u8 b.f3) (.int .u8 b.f4) (.int .u8 b.f5) (.int .u8 b.f6) (.int .u8 b.f7)) (ok' := fun _ => True) (fun _ _ => trivial)
                  clear z0 z1 z2 z3 z4 z5 z6 z7 f0 f1 f2 f3 f4 f5 f6 f7 HP HW H8 HR BKB
                  generalize ((((((((w15.setCell ⟨gb, 0, none⟩ (.int .u8 b.f0)).setCell ⟨gb, 1, none⟩ (.int .u8 b.f1)).setCell ⟨gb, 2, none⟩ (.int .u8 b.f2)).setCell ⟨gb, 3, none⟩ (.int .u8 b.f3)).setCell ⟨gb, 4, none⟩ (.int .u8 b.f4)).setCell ⟨gb, 5, none⟩ (.int .u8 b.f5)).setCell ⟨gb, 6, none⟩ (.int .u8 b.f6)).setCell ⟨gb, 7, none⟩ (.int .u8 b.f7)) = w16 at hkb h8 hp hw hr ⊢
                  obtain ⟨z0, z1, z2, z3, z4, z5, z6, z7⟩ := cellsA hkb
                  have HP := Aside0.mk hp
                  have HW := Aside0.mk hw
                  have H8 := Aside0.mk h8
                  have HR := Aside0.mk hr
                  clear hkb h8 hp hw hr
                  have v8 := (cells24 H8.out).2.2.2.2.2.2.2.2
                  have w8c := (frozen24 H8.out).2.2.2.2.2.2.2.2
                  go_wp2_with ((with_reducible refine gate_builtin (b := .append) (xs := #[.tmp 118, .tmp 120]) rfl ?_); at_builtin; refine Kd.R_append k35 (w0 := w) w.heap.size rfl (.tmp 118) (.tmp 120) 22 35 (.agg #[.int .u8 0, .int .u8 0, .int .u8 0, .int .u8 0, .int .u8 0, .int .u8 0, .int .u8 0, .int .u8 0]) 8 rfl Tryd.underlying22 info35b rfl (by decide) (by omega) v dl b [.int .u8 b.f0, .int .u8 b.f1, .int .u8 b.f2, .int .u8 b.f3, .int .u8 b.f4, .int .u8 b.f5, .int .u8 b.f6, .int .u8 b.f7] (fun _ => True) (fun _ => False) rfl (by first | (go_simp; done) | (go_simp; rfl)) (k35_mkM _ _ _ b) (fun _ hk => hk.elim) (fun _ _ => trivial) HR.out HP.out.hb (below_size HP.out.hb) LIM.out ?_; intro v1 w17 ho hb hg _; obtain ⟨A1, k1, rfl⟩ := Kd.R_slice ho; have n0 : Aside0 (Ps w w.heap.size g4 (.slice (some ⟨gl, 0, none⟩) n2 cap) w17) := ⟨⟨blk_grown HP.out.h2 hg (fun e => ((Kd.R_types HR.out HP.out.h2 (by decide)).1 _ e.symm).2 rfl), blk_grown HP.out.h4 hg (fun e => ((Kd.R_types HR.out HP.out.h4 (by decide)).1 _ e.symm).2 rfl), hb, HP.out.n2, HP.out.n4⟩⟩; have n1 := Aside0.mk (blk_grown H8.out hg (fun e => ((Kd.R_types HR.out H8.out (by decide)).1 _ e.symm).2 rfl)); have n2' : Aside0 (Wd w17 gl L) := ⟨HW.out.grown HR.out hg⟩; have n3 := Aside0.mk ho; clear HP HR HW H8 v8 w8c ho hb hg; have HP := n0; have H8 := n1; have HW := n2'; have HR := n3; clear n0 n1 n2' n3; have v8 := (cells24 H8.out).2.2.2.2.2.2.2.2; have w8c := (frozen24 H8.out).2.2.2.2.2.2.2.2)
                  go_roundg (n2 - (i + 1))
                  case measure => have := HI.out; omega
                  case rel =>
                    have e : (dl ++ [b]).length = dl.length + 1 := by simp
                    have h2 := HR.out
                    rw [e] at h2
                    exact ⟨i + 1, .slice A1 (dl.length + 1) k1, dl ++ [b], by first | (rw [w64 i n2 h (by have := HB2.out; have := HBD.out; omega)]) | rfl | (simp; omega) | (unfold wrap64; simp; omega), ⟨by have := HI.out.1; omega, Or.inl (by omega), rfl⟩, ⟨HNX.out.symm⟩, ⟨blk_put H8.out 8 _ rfl⟩, ⟨Kd.R_set h2 H8.out (by decide) 8 _⟩, ⟨HP.out.far N2.out N4.out GE8.out 8 _⟩, ⟨HW.out.far NL.out 8 _⟩⟩
                · have d1 : decide ((i : Int) < (n2 : Int)) = false := decide_eq_false (by omega)
                  have hdl : ((L.take n2).drop 4).map blkOf = dl := by
                    rw [HDL.out]
                    have hi := HI.out
                    rcases hi.2.1 with q | q
                    · rw [show i = n2 by omega]
                    · rw [List.drop_eq_nil_of_le (by rw [List.length_take]; omega), List.drop_eq_nil_of_le (by rw [List.length_take]; omega)]
                  have hb0 := HB0.out
                  rw [hdl] at hb0
                  have HB1' := Lib.hid hb0
                  obtain ⟨A1, k1, rfl⟩ := Kd.R_slice HR.out
                  clear hb0 hdl
                  obtain ⟨c0, c1, c2, c3, c4', c5, c6, c7, c8⟩ := cells24 H8.out
                  obtain ⟨f0, f1, f2, f3, f4, f5, f6, f7, f8⟩ := frozen24 H8.out
                  go_wp2_with fail
                  go_meet
                  rw [HB1'.out]
                  exact ⟨_, ⟨blk_put H8.out 7 _ rfl⟩, ⟨Kd.R_set HR.out H8.out (by decide) 7 _⟩, ⟨HP.out.far N2.out N4.out GE8.out 7 _⟩⟩
            by_cases k5 : kk = 5
            · subst k5
              have hb : baseC L = ⟨t1, 5, oo, ff, a2, eB, t4, t3, []⟩ := by rw [HBC.out, HOL.out, HFL.out, HT1.out, HA1.out, HA2.out, HT3.out, HA3.out, HT4.out, HA4.out]; rfl
              have HB0 := Lib.hid hb
              clear hb k1 k2 k3
              obtain ⟨c0, c1, c2, c3, c4', c5, c6, c7, c8⟩ := cells24 H8.out
              obtain ⟨f0, f1, f2, f3, f4, f5, f6, f7, f8⟩ := frozen24 H8.out
              go_wp2_with (first | ((with_reducible (refine Calls.mono (AT3.out _ HP.out.h4 HW.out) ?_)); rintro e w' ⟨rfl, rfl⟩) | ((with_reducible (refine Calls.mono (AT4.out _ HP.out.h4 HW.out) ?_)); rintro e w' ⟨rfl, rfl⟩) | ((with_reducible (refine Calls.mono (NU3.out _ (HLD.out.below HP.out.hb)) ?_)); rintro e w11 ⟨rfl, hb⟩; have m0 := Aside0.mk (HP.out.below hb); have m1 := Aside0.mk (HW.out.below hb); have m2 := Aside0.mk (blk_below H8.out hb); clear HP HW H8 hb c0 c1 c2 c3 c4' c5 c6 c7 c8 f0 f1 f2 f3 f4 f5 f6 f7 f8; have HP := m0; have HW := m1; have H8 := m2; clear m0 m1 m2; obtain ⟨c0, c1, c2, c3, c4', c5, c6, c7, c8⟩ := cells24 H8.out; obtain ⟨f0, f1, f2, f3, f4, f5, f6, f7, f8⟩ := frozen24 H8.out) | ((with_reducible (refine Calls.mono (NU4.out _ (HLD.out.below HP.out.hb)) ?_)); rintro e w11 ⟨rfl, hb⟩; have m0 := Aside0.mk (HP.out.below hb); have m1 := Aside0.mk (HW.out.below hb); have m2 := Aside0.mk (blk_below H8.out hb); clear HP HW H8 hb c0 c1 c2 c3 c4' c5 c6 c7 c8 f0 f1 f2 f3 f4 f5 f6 f7 f8; have HP := m0; have HW := m1; have H8 := m2; clear m0 m1 m2; obtain ⟨c0, c1, c2, c3, c4', c5, c6, c7, c8⟩ := cells24 H8.out; obtain ⟨f0, f1, f2, f3, f4, f5, f6, f7, f8⟩ := frozen24 H8.out))
              go_meet
              rw [HB0.out]
              exact ⟨_, ⟨blk_put (blk_put H8.out 7 _ rfl) 6 _ rfl⟩, ⟨Kd.R_nil _ _ _ _ _⟩, ⟨(HP.out.far N2.out N4.out GE8.out 7 _).far N2.out N4.out GE8.out 6 _⟩⟩
            by_cases k6 : kk = 6
            · subst k6
              have hb : baseC L = ⟨t1, 6, oo, ff, a2, a3, 0, 0, []⟩ := by rw [HBC.out, HOL.out, HFL.out, HT1.out, HA1.out, HA2.out, HA3.out]; rfl
              have HB0 := Lib.hid hb
              clear hb k1 k2 k3 k5
              obtain ⟨c0, c1, c2, c3, c4', c5, c6, c7, c8⟩ := cells24 H8.out
              obtain ⟨f0, f1, f2, f3, f4, f5, f6, f7, f8⟩ := frozen24 H8.out
              go_wp2_with (first | ((with_reducible (refine Calls.mono (AT3.out _ HP.out.h4 HW.out) ?_)); rintro e w' ⟨rfl, rfl⟩))
              go_meet
              rw [HB0.out]
              exact ⟨_, ⟨blk_put H8.out 5 _ rfl⟩, ⟨Kd.R_nil _ _ _ _ _⟩, ⟨HP.out.far N2.out N4.out GE8.out 5 _⟩⟩
            have hb : baseC L = ⟨t1, kk, oo, ff, a2, eB, 0, 0, []⟩ := by
              rw [HBC.out, HOL.out, HFL.out, HT1.out, HA1.out, HA2.out]
              simp only [k1, k2, k3, k5, k6, or_self, if_false]
            have HB0 := Lib.hid hb
            have e1 : (kk == 1) = false := beq_eq_false_iff_ne.2 k1
            have e2 : (kk == 2) = false := beq_eq_false_iff_ne.2 k2
            have e3 : (kk == 3) = false := beq_eq_false_iff_ne.2 k3
            have e5 : (kk == 5) = false := beq_eq_false_iff_ne.2 k5
            have e6 : (kk == 6) = false := beq_eq_false_iff_ne.2 k6
            clear hb k1 k2 k3 k5 k6
            go_wp2_with fail
            go_meet
            rw [HB0.out]
            exact ⟨_, H8, ⟨Kd.R_nil _ _ _ _ _⟩, HP⟩
          case rest =>
          obtain ⟨v, H8, HR, HP⟩ := hcut
          have hok0 : ∀ x ∈ (baseC L).data, ok35 x = true := base_ok L
          have hdl0 : (baseC L).data.length ≤ 140737488355328 := by have := base_len L; have := HBD.out; omega
          obtain ⟨A, cA, rfl, hle, hC⟩ := Kd.R_reads HR.out
          have hpc : ∀ x : Bool, ((mkB (textC (baseC L))).toList == s.toList && !s.toList.isEmpty) = x → parseC s = if x = true then (baseC L, 0) else twinC (baseC L) n2 s := fun x hx => by
            unfold parseC
            rw [HL.out, ← HN1.out, ← HN2.out, ← hx]
            simp
          generalize baseC L = c at H8 HR hok0 hdl0 hle hC hpc ⊢
          clear HBC HN2 HNO HOO
          obtain ⟨tag, kind, order, force, vol, other, pos, len, data⟩ := c
          simp only at HR hok0 hdl0 hle hC
          have HOK := Aside0.mk hok0
          have HDL := Aside0.mk hdl0
          have HLE := Aside0.mk hle
          replace H8 : Aside0 (wc.heap[g8]? = some (.cells #[.int .i64 tag, .int .i64 kind, .int .i64 order, .bool force, .string vol, .string other, .int .i64 pos, .int .i64 len, .slice A data.length cA] 24 (0, 0))) := H8
          clear hok0 hdl0 hle
          generalize wc = w12 at *
          have HT : Aside0 (Calls Tryd.prog 15 #[.agg #[.int .i64 tag, .int .i64 kind, .int .i64 order, .bool force, .string vol, .string other, .int .i64 pos, .int .i64 len, .slice A data.length cA]] w12 fun e w' => e = .returned (.string (mkB (textC ⟨tag, kind, order, force, vol, other, pos, len, data⟩))) ∧ Below w12.heap.size w12 w') := ⟨Text_any ⟨tag, kind, order, force, vol, other, pos, len, data⟩ w12 A cA hC HLE.out HDL.out HOK.out (HLD.out.below HP.out.hb)⟩
          generalize mkB (textC ⟨tag, kind, order, force, vol, other, pos, len, data⟩) = tb at HT hpc
          obtain ⟨c0, c1, c2, c3, c4', c5, c6, c7, c8⟩ := cells24 H8.out
          have HHPC := Aside0.mk hpc
          clear hpc hC
          go_wp2_with fail
          refine HT.out.mono ?_
          rintro e w13 ⟨rfl, hb⟩
          replace HP := Aside0.mk (HP.out.below hb)
          replace H8 := Aside0.mk (blk_below H8.out hb)
          replace HR := Aside0.mk (Kd.R_below HR.out hb)
          have HC := Aside0.mk (Kd.R_reads' HR.out).2.2
          clear hb HT c0 c1 c2 c3 c4' c5 c6 c7 c8
          cases heq : tb.toList == s.toList
          · have hpc := HHPC.out false (by rw [heq]; rfl)
            rw [if_neg (by decide)] at hpc
            have HPC := Lib.hid hpc
            clear hpc
            have hne : (tb.toList != s.toList) = true := by rw [bne, heq]; rfl
            have HTW := Aside0.mk (twin_any ⟨tag, kind, order, force, vol, other, pos, len, data⟩ A cA (some ⟨gl, 0, none⟩) n2 cap s w13 HC.out HLE.out HDL.out HOK.out (HLD.out.below HP.out.hb) HS.out)
            replace HTW : Aside0 (Calls Tryd.prog 29 #[.agg #[.int .i64 tag, .int .i64 kind, .int .i64 order, .bool force, .string vol, .string other, .int .i64 pos, .int .i64 len, .slice A data.length cA], .slice (some ⟨gl, 0, none⟩) n2 cap, .string s] w13 fun e w' => twR A cA ⟨tag, kind, order, force, vol, other, pos, len, data⟩ (twinC ⟨tag, kind, order, force, vol, other, pos, len, data⟩ n2 s) e ∧ Below w13.heap.size w13 w') := HTW
            obtain ⟨c0, c1, c2, c3, c4', c5, c6, c7, c8⟩ := cells24 H8.out
            have cl4 := (blk_cell HP.out.h4 0).trans (show _ = some (Value.slice (some ⟨gl, 0, none⟩) n2 cap) from rfl)
            go_wp2_with fail
            refine HTW.out.mono ?_
            rintro e w14 ⟨hr, hb⟩
            have hp3 := HPC.out
            clear HTW c0 c1 c2 c3 c4' c5 c6 c7 c8 cl4
            generalize twinC ⟨tag, kind, order, force, vol, other, pos, len, data⟩ n2 s = rr at hr hp3
            obtain ⟨⟨tag', kind', order', force', vol', other', pos', len', data'⟩, en⟩ := rr
            have HP3 := Lib.hid hp3
            clear hp3
            have HP2 := Aside0.mk (HP.out.below hb)
            have HR2 := Aside0.mk (Kd.R_below HR.out hb)
            clear hb
            have hz2 : w14.heap[w.heap.size]? = some (.cells #[.int .i64 0, .int .i64 0, .int .i64 0, .bool false, .string ⟨#[]⟩, .string ⟨#[]⟩, .int .i64 0, .int .i64 0, .slice none 0 0] 24 (0, 0)) := HP2.out.h2
            obtain ⟨z0, z1, z2, z3, z4, z5, z6, z7, z8⟩ := cells24 hz2
            obtain ⟨f0, f1, f2, f3, f4, f5, f6, f7, f8⟩ := frozen24 hz2
            have HZ2 := Aside0.mk hz2
            clear hz2
            rcases hr with ⟨rfl, hd⟩ | ⟨rfl, hd⟩
            · simp only at hd
              subst hd
              unfold cmdV
              go_wp2
              rw [HP3.out]
              exact bodyPost_ret (results_ct rfl _ _ w.heap.size 24 _ (0, 0) _ rfl (put24 HZ2.out _ _ _ _ _ _ _ _ _) hu24 rfl info24) rfl ⟨⟨A, cA, rfl, (Kd.R_reads' (R_put24 HR2.out HZ2.out _ _ _ _ _ _ _ _ _)).2.2, HLE.out⟩, below24 HP2.out.hb (Nat.le_refl _) _ _ _ _ _ _ _ _ _⟩
            · simp only at hd
              subst hd
              unfold cmdV
              go_wp2
              rw [HP3.out]
              exact bodyPost_ret (results_ct rfl _ _ w.heap.size 24 _ (0, 0) _ rfl (put24 HZ2.out _ _ _ _ _ _ _ _ _) hu24 rfl info24) rfl ⟨⟨none, 0, rfl, Kd.C_nil _ _, Nat.le_refl _⟩, below24 HP2.out.hb (Nat.le_refl _) _ _ _ _ _ _ _ _ _⟩
          cases hse : s.toList.isEmpty
          · have hpc := HHPC.out true (by rw [heq, hse]; rfl)
            rw [if_pos rfl] at hpc
            have HPC := Lib.hid hpc
            clear hpc
            have hne : (tb.toList != s.toList) = false := by rw [bne, heq]; rfl
            obtain ⟨c0, c1, c2, c3, c4', c5, c6, c7, c8⟩ := cells24 H8.out
            have hz2 : w13.heap[w.heap.size]? = some (.cells #[.int .i64 0, .int .i64 0, .int .i64 0, .bool false, .string ⟨#[]⟩, .string ⟨#[]⟩, .int .i64 0, .int .i64 0, .slice none 0 0] 24 (0, 0)) := HP.out.h2
            obtain ⟨z0, z1, z2, z3, z4, z5, z6, z7, z8⟩ := cells24 hz2
            obtain ⟨f0, f1, f2, f3, f4, f5, f6, f7, f8⟩ := frozen24 hz2
            have HZ2 := Aside0.mk hz2
            clear hz2
            go_wp2
            rw [HPC.out]
            exact bodyPost_ret (results_ct rfl _ _ w.heap.size 24 _ (0, 0) _ rfl (put24 HZ2.out _ _ _ _ _ _ _ _ _) hu24 rfl info24) rfl ⟨⟨A, cA, rfl, (Kd.R_reads' (R_put24 HR.out HZ2.out _ _ _ _ _ _ _ _ _)).2.2, HLE.out⟩, below24 HP.out.hb (Nat.le_refl _) _ _ _ _ _ _ _ _ _⟩
          · have hpc := HHPC.out false (by rw [heq, hse]; rfl)
            rw [if_neg (by decide)] at hpc
            have HPC := Lib.hid hpc
            clear hpc
            have hne : (tb.toList != s.toList) = false := by rw [bne, heq]; rfl
            have HTW := Aside0.mk (twin_any ⟨tag, kind, order, force, vol, other, pos, len, data⟩ A cA (some ⟨gl, 0, none⟩) n2 cap s w13 HC.out HLE.out HDL.out HOK.out (HLD.out.below HP.out.hb) HS.out)
            replace HTW : Aside0 (Calls Tryd.prog 29 #[.agg #[.int .i64 tag, .int .i64 kind, .int .i64 order, .bool force, .string vol, .string other, .int .i64 pos, .int .i64 len, .slice A data.length cA], .slice (some ⟨gl, 0, none⟩) n2 cap, .string s] w13 fun e w' => twR A cA ⟨tag, kind, order, force, vol, other, pos, len, data⟩ (twinC ⟨tag, kind, order, force, vol, other, pos, len, data⟩ n2 s) e ∧ Below w13.heap.size w13 w') := HTW
            obtain ⟨c0, c1, c2, c3, c4', c5, c6, c7, c8⟩ := cells24 H8.out
            have cl4 := (blk_cell HP.out.h4 0).trans (show _ = some (Value.slice (some ⟨gl, 0, none⟩) n2 cap) from rfl)
            go_wp2_with fail
            refine HTW.out.mono ?_
            rintro e w14 ⟨hr, hb⟩
            have hp3 := HPC.out
            clear HTW c0 c1 c2 c3 c4' c5 c6 c7 c8 cl4
            generalize twinC ⟨tag, kind, order, force, vol, other, pos, len, data⟩ n2 s = rr at hr hp3
            obtain ⟨⟨tag', kind', order', force', vol', other', pos', len', data'⟩, en⟩ := rr
            have HP3 := Lib.hid hp3
            clear hp3
            have HP2 := Aside0.mk (HP.out.below hb)
            have HR2 := Aside0.mk (Kd.R_below HR.out hb)
            clear hb
            have hz2 : w14.heap[w.heap.size]? = some (.cells #[.int .i64 0, .int .i64 0, .int .i64 0, .bool false, .string ⟨#[]⟩, .string ⟨#[]⟩, .int .i64 0, .int .i64 0, .slice none 0 0] 24 (0, 0)) := HP2.out.h2
            obtain ⟨z0, z1, z2, z3, z4, z5, z6, z7, z8⟩ := cells24 hz2
            obtain ⟨f0, f1, f2, f3, f4, f5, f6, f7, f8⟩ := frozen24 hz2
            have HZ2 := Aside0.mk hz2
            clear hz2
            rcases hr with ⟨rfl, hd⟩ | ⟨rfl, hd⟩
            · simp only at hd
              subst hd
              unfold cmdV
              go_wp2
              rw [HP3.out]
              exact bodyPost_ret (results_ct rfl _ _ w.heap.size 24 _ (0, 0) _ rfl (put24 HZ2.out _ _ _ _ _ _ _ _ _) hu24 rfl info24) rfl ⟨⟨A, cA, rfl, (Kd.R_reads' (R_put24 HR2.out HZ2.out _ _ _ _ _ _ _ _ _)).2.2, HLE.out⟩, below24 HP2.out.hb (Nat.le_refl _) _ _ _ _ _ _ _ _ _⟩
            · simp only at hd
              subst hd
              unfold cmdV
              go_wp2
              rw [HP3.out]
              exact bodyPost_ret (results_ct rfl _ _ w.heap.size 24 _ (0, 0) _ rfl (put24 HZ2.out _ _ _ _ _ _ _ _ _) hu24 rfl info24) rfl ⟨⟨none, 0, rfl, Kd.C_nil _ _, Nat.le_refl _⟩, below24 HP2.out.hb (Nat.le_refl _) _ _ _ _ _ _ _ _ _⟩
    · have hrs : (mkB r).size < 4294967281 := by have := HI.out.1; have := HS.out; rw [bsize]; omega
      have HC := Aside0.mk (Cut_any (mkB r) wr (HLD.out.below HP.out.hb) hrs)
      generalize hcut : Lib.cut (mkB r).data.toList [32] = cc at HC
      obtain ⟨a, b, c3⟩ := cc
      have hlen := cut_le r [32]
      rw [show Lib.cut r [32] = (a, b, c3) from hcut] at hlen
      have hcut2 : Lib.cut r [32] = (a, b, c3) := hcut
      have LIM : Aside0 ((acc.length + 1) * 16 ≤ 140737488355328) := ⟨by
        have h1 := spl_bd s HS.out
        rw [HSP.out, List.length_append] at h1
        omega⟩
      have HCUT := Lib.hid hcut2
      have HLEN := Aside0.mk hlen
      clear hcut hcut2 hlen hrs
      go_upto_region 6 with ((with_reducible (refine Calls.mono HC.out ?_)); rintro e w2 ⟨rfl, hb⟩)
      replace HP := Aside0.mk (HP.out.below hb)
      replace HR := Aside0.mk (Kd.R_below HR.out hb)
      clear hb HC
      have c4 := (blk_cell HP.out.h4 0).trans (show _ = some v from rfl)
      have f4 := blk_frozen HP.out.h4 0
      go_wp2_with ((with_reducible refine gate_builtin (b := .append) (xs := #[.tmp 25, .tmp 27]) rfl ?_); at_builtin; refine Kd.R_append Kd.string (w0 := w) w.heap.size rfl (.tmp 25) (.tmp 27) 38 9 (.string ByteArray.empty) 16 rfl Tryd.underlying38 info9 rfl (by decide) (by omega) v acc (mkB a) [.string (mkB a)] (fun k => k ≠ g4) (fun _ => False) rfl (by first | (go_simp; done) | (go_simp; rfl)) rfl (fun _ hk => hk.elim) (fun k hk => by have := blk_lt HP.out.h4; omega) HR.out HP.out.hb (below_size HP.out.hb) LIM.out ?_; intro v1 w3 ho hb hg _; obtain ⟨A1, k1, rfl⟩ := Kd.R_slice ho; have n0 : Aside0 (Ps w w.heap.size g4 v w3) := ⟨⟨blk_grown HP.out.h2 hg (fun e => by have := (Kd.R_types HR.out HP.out.h2 (by decide)).1 _ e.symm; exact this.2 rfl), blk_grown HP.out.h4 hg (fun e => HR.out.1 _ e.symm rfl), hb, HP.out.n2, HP.out.n4⟩⟩; have n1 := Aside0.mk ho; clear HP HR c4 f4 ho hb hg; have HP := n0; have HR := n1; clear n0 n1; have c4 := (blk_cell HP.out.h4 0).trans (show _ = some v from rfl); have f4 := blk_frozen HP.out.h4 0)
      go_roundg (if c3 = true then b.length + 1 else 0)
      case measure =>
        have h1 := HLEN.out
        cases c3
        · have := HI.out.2; simp at this ⊢; omega
        · have h2 := (spl_cut r a b HCUT.out).2; have := HI.out.2; simp at this ⊢; omega
      case rel =>
        have e : (acc ++ [mkB a]).length = acc.length + 1 := by simp
        have h1 : b.length ≤ r.length := HLEN.out.2
        have h2 := HR.out
        rw [e] at h2
        refine ⟨b, c3, .slice A1 (acc.length + 1) k1, acc ++ [mkB a], rfl, rfl, ⟨by have := HI.out.1; omega, rfl⟩, ⟨?_⟩, ⟨Kd.R_far (p := ⟨g4, 0, none⟩) h2 (fun _ hk => hk) _⟩, ⟨HP.out.set4 _⟩⟩
        have h0 : splB s = acc ++ (spl r).map mkB := by rw [HSP.out]; simp
        rw [h0, List.append_assoc]
        congr 1
        cases c3
        · rw [spl_one r a b HCUT.out]; rfl
        · rw [(spl_cut r a b HCUT.out).1]; rfl
end Go.Proofs.YthbnghdobmghlaaDoor.ST
