import Derived.Test.YthbnghdobmghlaaDoorVJ0
import Derived.Test.YthbnghdobmghlaaDoorVPCx1
namespace Go.Proofs.YthbnghdobmghlaaDoor.ST
open Go.RowKit Go.Proofs.YthbnghdobmghlaaDoorW.PrintWords Go.Proofs.YthbnghdobmghlaaDoorW.PrintLast Go.Proofs.YthbnghdobmghlaaDoorW.PrintMore Go.Proofs.YthbnghdobmghlaaDoor.PC
set_option linter.unusedVariables false
set_option linter.unusedSimpArgs false
def eq35 (x y : S35) : Bool := x.f0 == y.f0 && (x.f1 == y.f1 && (x.f2 == y.f2 && (x.f3 == y.f3 && (x.f4 == y.f4 && (x.f5 == y.f5 && (x.f6 == y.f6 && x.f7 == y.f7))))))
def eqL : List S35 → List S35 → Bool
  | [], [] => true
  | x :: r, y :: s => eq35 x y && eqL r s
  | _, _ => false
theorem eq35_iff (x y : S35) : eq35 x y = true ↔ x = y := by
  obtain ⟨a0, a1, a2, a3, a4, a5, a6, a7⟩ := x
  obtain ⟨b0, b1, b2, b3, b4, b5, b6, b7⟩ := y
  simp [eq35]
theorem eqL_iff : ∀ (l m : List S35), eqL l m = true ↔ l = m
  | [], [] => by simp [eqL]
  | [], y :: s => by simp [eqL]
  | x :: r, [] => by simp [eqL]
  | x :: r, y :: s => by rw [eqL, Bool.and_eq_true, eq35_iff, eqL_iff, List.cons.injEq]
theorem eqL_len : ∀ (l m : List S35), l.length ≠ m.length → eqL l m = false := fun l m h => by
  cases e : eqL l m
  · rfl
  · rw [eqL_iff] at e; rw [e] at h; exact absurd rfl h
def headEq (c d : Cmd) : Bool := c.tag == d.tag && (c.kind == d.kind && (c.order == d.order && ((c.force == d.force) && (c.vol.toList == d.vol.toList && (c.other.toList == d.other.toList && (c.pos == d.pos && c.len == d.len))))))
def sameC (c d : Cmd) : Bool := eqL c.data d.data && headEq c d
theorem rd_at35 (l : List S35) (i : Nat) (h : i < l.length) : rd_T35 l (i : Int) = l[i] := by
  unfold rd_T35
  rw [Int.toNat_natCast, List.getD_eq_getElem?_getD, List.getElem?_eq_getElem h]
  rfl
theorem w64 (i n : Nat) (h : i < n) (hn : n ≤ 140737488355328) : wrap64 ((i : Int) + 1) = ((i + 1 : Nat) : Int) := by
  unfold wrap64; omega
theorem not_chain (x y : S35) : (!(x.f0 == y.f0) || (!(x.f1 == y.f1) || (!(x.f2 == y.f2) || (!(x.f3 == y.f3) || (!(x.f4 == y.f4) || (!(x.f5 == y.f5) || (!(x.f6 == y.f6) || !(x.f7 == y.f7)))))))) = !eq35 x y := by
  unfold eq35
  simp only [Bool.not_and]
def ok35 (x : S35) : Bool := (decide (0 ≤ x.f0) && decide (x.f0 ≤ 255)) && ((decide (0 ≤ x.f1) && decide (x.f1 ≤ 255)) && ((decide (0 ≤ x.f2) && decide (x.f2 ≤ 255)) && ((decide (0 ≤ x.f3) && decide (x.f3 ≤ 255)) && ((decide (0 ≤ x.f4) && decide (x.f4 ≤ 255)) && ((decide (0 ≤ x.f5) && decide (x.f5 ≤ 255)) && ((decide (0 ≤ x.f6) && decide (x.f6 ≤ 255)) && (decide (0 ≤ x.f7) && decide (x.f7 ≤ 255))))))))
def cells35 (x : S35) : Array Value := #[.int .u8 x.f0, .int .u8 x.f1, .int .u8 x.f2, .int .u8 x.f3, .int .u8 x.f4, .int .u8 x.f5, .int .u8 x.f6, .int .u8 x.f7]
theorem info35 : (Tryd.prog.info? 35).map (·.size) = some 8 := by kernel_rfl
theorem at35c {w0 W : World} {A : Option Addr} {n : Nat} {xs : List S35} (h : Kd.C k35 w0 A n xs) (i : Nat) (hi : i < xs.length) (hn : xs.length = n) (hB : Below w0.heap.size w0 W) :
    ∃ ad, A = some ad ∧ W.cell? (ad.add (i * 8)) = some (.int .u8 (xs[i]).f0) ∧ W.cell? ⟨(ad.add (i * 8)).block, (ad.add (i * 8)).off + 1, none⟩ = some (.int .u8 (xs[i]).f1) ∧ W.cell? ⟨(ad.add (i * 8)).block, (ad.add (i * 8)).off + 2, none⟩ = some (.int .u8 (xs[i]).f2) ∧ W.cell? ⟨(ad.add (i * 8)).block, (ad.add (i * 8)).off + 3, none⟩ = some (.int .u8 (xs[i]).f3) ∧ W.cell? ⟨(ad.add (i * 8)).block, (ad.add (i * 8)).off + 4, none⟩ = some (.int .u8 (xs[i]).f4) ∧ W.cell? ⟨(ad.add (i * 8)).block, (ad.add (i * 8)).off + 5, none⟩ = some (.int .u8 (xs[i]).f5) ∧ W.cell? ⟨(ad.add (i * 8)).block, (ad.add (i * 8)).off + 6, none⟩ = some (.int .u8 (xs[i]).f6) ∧ W.cell? ⟨(ad.add (i * 8)).block, (ad.add (i * 8)).off + 7, none⟩ = some (.int .u8 (xs[i]).f7) := by
  obtain ⟨ad, e, h0, h1, h2, h3, h4, h5, h6, h7⟩ := at_T35 h (i : Int) (by omega) (by omega)
  rw [rd_at35 xs i hi, Int.toNat_natCast] at h0 h1 h2 h3 h4 h5 h6 h7
  have up : ∀ (p : Addr) v, w0.cell? p = some v → W.cell? p = some v := fun p v q => by rw [hB.cell (World.block_lt_of_cell? w0 _ q)]; exact q
  exact ⟨ad, e, up _ _ h0, up _ _ h1, up _ _ h2, up _ _ h3, up _ _ h4, up _ _ h5, up _ _ h6, up _ _ h7⟩
def cmdV (c : Cmd) (v : Value) : Value := .agg #[.int .i64 c.tag, .int .i64 c.kind, .int .i64 c.order, .bool c.force, .string c.vol, .string c.other, .int .i64 c.pos, .int .i64 c.len, v]
def cmdA (c : Cmd) (v : Value) : Array Value := #[.int .i64 c.tag, .int .i64 c.kind, .int .i64 c.order, .bool c.force, .string c.vol, .string c.other, .int .i64 c.pos, .int .i64 c.len, v]
attribute [local go_sem high] eqA35
set_option maxHeartbeats 4000000 in
set_option maxRecDepth 100000 in
theorem same_any (a b : Cmd) (w : World) (A B : Option Addr) (ca cb : Nat) (hA : Kd.C k35 w A a.data.length a.data) (hca : a.data.length ≤ ca) (hB : Kd.C k35 w B b.data.length b.data) (hcb : b.data.length ≤ cb) (hn : a.data.length ≤ 140737488355328) :
    Calls Tryd.prog 36 #[cmdV a (.slice A a.data.length ca), cmdV b (.slice B b.data.length cb)] w fun e w' => e = .returned (.bool (sameC a b)) ∧ Below w.heap.size w w' := by
  have hu24 := Tryd.underlying24
  have hu35 := Tryd.underlying35
  have hu22 := Tryd.underlying22
  unfold cmdV
  have HA := Aside0.mk hA
  have HCA := Aside0.mk hca
  have HB := Aside0.mk hB
  have HCB := Aside0.mk hcb
  have HN := Lib.hid hn
  clear hA hca hB hcb hn
  by_cases hl : a.data.length = b.data.length
  · have l1 : ((a.data.length : Int) != (b.data.length : Int)) = false := by rw [hl]; simp
    have l2 : ((a.data.length : Int) == (b.data.length : Int)) = true := by rw [hl]; simp
    have HL := Lib.hid hl
    clear hl
    go_enter Tryd.func36, Tryd.ntmps36
    go_wp2
    have hb := below_alloc (below_alloc (Below.refl w.heap.size w) (.cells (cmdA a (.slice A a.data.length ca)) 24)) (.cells (cmdA b (.slice B b.data.length cb)) 24)
    have hk1 := blk_alloc (blk_new w (.cells (cmdA a (.slice A a.data.length ca)) 24)) (.cells (cmdA b (.slice B b.data.length cb)) 24)
    have hk2 := blk_new (w.alloc (.cells (cmdA a (.slice A a.data.length ca)) 24)) (.cells (cmdA b (.slice B b.data.length cb)) 24)
    rw [show (w.alloc (.cells (cmdA a (.slice A a.data.length ca)) 24)).heap.size = w.heap.size + 1 by simp] at hk2
    change Code.wp _ _ _ _ ((w.alloc (.cells (cmdA a (.slice A a.data.length ca)) 24)).alloc (.cells (cmdA b (.slice B b.data.length cb)) 24))
    generalize (w.alloc (.cells (cmdA a (.slice A a.data.length ca)) 24)).alloc (.cells (cmdA b (.slice B b.data.length cb)) 24) = w2 at hb hk1 hk2 ⊢
    generalize hg2 : w.heap.size + 1 = g2 at hk2 ⊢
    have HBW := Aside0.mk hb
    have HK1 := Aside0.mk hk1
    have HK2 := Aside0.mk hk2
    clear hb hk1 hk2
    replace HBW : Aside0 (Below w.heap.size w w2) := HBW
    go_loopg [17] a.data.length (fun kq v17 w' => ∃ i : Nat, v17 = .int .i64 i ∧ Aside0 (i ≤ a.data.length ∧ kq = a.data.length - i) ∧ Aside0 (sameC a b = (eqL (a.data.drop i) (b.data.drop i) && headEq a b)) ∧ Aside0 (w'.heap[w.heap.size]? = some (.cells (cmdA a (.slice A a.data.length ca)) 24 (0, 0))) ∧ Aside0 (w'.heap[g2]? = some (.cells (cmdA b (.slice B b.data.length cb)) 24 (0, 0))) ∧ Aside0 (Below w.heap.size w w'))
    case atStart => exact ⟨0, rfl, ⟨by omega, rfl⟩, ⟨rfl⟩, HK1, HK2, HBW⟩
    case round =>
      clear HK1 HK2 HBW
      obtain ⟨i, rfl, HI, HS, HK1, HK2, HBW⟩ := hrel
      by_cases h : i < a.data.length
      · have h' : i < b.data.length := by rw [← HL.out]; exact h
        obtain ⟨ad1, e1, x0, x1, x2, x3, x4, x5, x6, x7⟩ := at35c HA.out i h rfl HBW.out
        obtain ⟨ad2, e2, y0, y1, y2, y3, y4, y5, y6, y7⟩ := at35c HB.out i h' rfl HBW.out
        cases e1
        cases e2
        have d1 : decide ((i : Int) < (a.data.length : Int)) = true := decide_eq_true (by omega)
        have p1 : (0 ≤ (i : Int)) = True := eq_true (by omega)
        have p2 : ((i : Int) < (a.data.length : Int)) = True := eq_true (by omega)
        have p3 : ((i : Int) < (b.data.length : Int)) = True := eq_true (by omega)
        go_upto_region 6 with ((with_reducible refine gate_dst (N := 6) rfl ?_); refine box_event ?hg (N := 6) ?hd (cs := #[.int .u8 0, .int .u8 0, .int .u8 0, .int .u8 0, .int .u8 0, .int .u8 0, .int .u8 0, .int .u8 0]) (t := 35) ?hr ?_; (case hd => rfl); (case hg => rfl); (case hr => first | (go_simp; done) | (go_simp; rfl)); intro gb hg w10 hbox hb; have n0_ := Aside0.mk (blk_below HK1.out hb); have n1_ := Aside0.mk (blk_below HK2.out hb); have n2_ := Aside0.mk (below_step HBW.out hb); have GE : Aside0 (w.heap.size ≤ gb) := ⟨by rw [hg]; exact below_size HBW.out⟩; have YB := Aside0.mk hb; have G2 : Aside0 (gb ≠ g2) := ⟨by have := blk_lt HK2.out; omega⟩; have G1 : Aside0 (gb ≠ w.heap.size) := ⟨by have := blk_lt HK1.out; omega⟩; have BK := Aside0.mk hbox; clear HK1 HK2 HBW hg hbox hb; have HK1 := n0_; have HK2 := n1_; have HBW := n2_; clear n0_ n1_ n2_; have z0 := (blk_cell BK.out 0).trans (show _ = some (Value.int .u8 0) from rfl); have z1 := (blk_cell BK.out 1).trans (show _ = some (Value.int .u8 0) from rfl); have z2 := (blk_cell BK.out 2).trans (show _ = some (Value.int .u8 0) from rfl); have z3 := (blk_cell BK.out 3).trans (show _ = some (Value.int .u8 0) from rfl); have z4 := (blk_cell BK.out 4).trans (show _ = some (Value.int .u8 0) from rfl); have z5 := (blk_cell BK.out 5).trans (show _ = some (Value.int .u8 0) from rfl); have z6 := (blk_cell BK.out 6).trans (show _ = some (Value.int .u8 0) from rfl); have z7 := (blk_cell BK.out 7).trans (show _ = some (Value.int .u8 0) from rfl); have f0 := blk_frozen BK.out 0; have f1 := blk_frozen BK.out 1; have f2 := blk_frozen BK.out 2; have f3 := blk_frozen BK.out 3; have f4 := blk_frozen BK.out 4; have f5 := blk_frozen BK.out 5; have f6 := blk_frozen BK.out 6; have f7 := blk_frozen BK.out 7)
        have m0 : Aside0 (((((((((w10.setCell ⟨gb, 0, none⟩ (.int .u8 (a.data[i]).f0)).setCell ⟨gb, 1, none⟩ (.int .u8 (a.data[i]).f1)).setCell ⟨gb, 2, none⟩ (.int .u8 (a.data[i]).f2)).setCell ⟨gb, 3, none⟩ (.int .u8 (a.data[i]).f3)).setCell ⟨gb, 4, none⟩ (.int .u8 (a.data[i]).f4)).setCell ⟨gb, 5, none⟩ (.int .u8 (a.data[i]).f5)).setCell ⟨gb, 6, none⟩ (.int .u8 (a.data[i]).f6)).setCell ⟨gb, 7, none⟩ (.int .u8 (a.data[i]).f7)).heap[gb]? = some (.cells (cells35 (a.data[i])) 35 (0, 0))) := ⟨(blk_put (blk_put (blk_put (blk_put (blk_put (blk_put (blk_put (blk_put BK.out 0 _ rfl) 1 _ rfl) 2 _ rfl) 3 _ rfl) 4 _ rfl) 5 _ rfl) 6 _ rfl) 7 _ rfl)⟩
        have m2 : Aside0 (((((((((w10.setCell ⟨gb, 0, none⟩ (.int .u8 (a.data[i]).f0)).setCell ⟨gb, 1, none⟩ (.int .u8 (a.data[i]).f1)).setCell ⟨gb, 2, none⟩ (.int .u8 (a.data[i]).f2)).setCell ⟨gb, 3, none⟩ (.int .u8 (a.data[i]).f3)).setCell ⟨gb, 4, none⟩ (.int .u8 (a.data[i]).f4)).setCell ⟨gb, 5, none⟩ (.int .u8 (a.data[i]).f5)).setCell ⟨gb, 6, none⟩ (.int .u8 (a.data[i]).f6)).setCell ⟨gb, 7, none⟩ (.int .u8 (a.data[i]).f7)).heap[g2]? = some (.cells (cmdA b (.slice (some ad2) b.data.length cb)) 24 (0, 0))) := ⟨(blk_far (blk_far (blk_far (blk_far (blk_far (blk_far (blk_far (blk_far HK2.out (p := ⟨gb, 0, none⟩) (Ne.symm G2.out) _) (p := ⟨gb, 1, none⟩) (Ne.symm G2.out) _) (p := ⟨gb, 2, none⟩) (Ne.symm G2.out) _) (p := ⟨gb, 3, none⟩) (Ne.symm G2.out) _) (p := ⟨gb, 4, none⟩) (Ne.symm G2.out) _) (p := ⟨gb, 5, none⟩) (Ne.symm G2.out) _) (p := ⟨gb, 6, none⟩) (Ne.symm G2.out) _) (p := ⟨gb, 7, none⟩) (Ne.symm G2.out) _)⟩
        have m1 : Aside0 (((((((((w10.setCell ⟨gb, 0, none⟩ (.int .u8 (a.data[i]).f0)).setCell ⟨gb, 1, none⟩ (.int .u8 (a.data[i]).f1)).setCell ⟨gb, 2, none⟩ (.int .u8 (a.data[i]).f2)).setCell ⟨gb, 3, none⟩ (.int .u8 (a.data[i]).f3)).setCell ⟨gb, 4, none⟩ (.int .u8 (a.data[i]).f4)).setCell ⟨gb, 5, none⟩ (.int .u8 (a.data[i]).f5)).setCell ⟨gb, 6, none⟩ (.int .u8 (a.data[i]).f6)).setCell ⟨gb, 7, none⟩ (.int .u8 (a.data[i]).f7)).heap[w.heap.size]? = some (.cells (cmdA a (.slice (some ad1) a.data.length ca)) 24 (0, 0))) := ⟨(blk_far (blk_far (blk_far (blk_far (blk_far (blk_far (blk_far (blk_far HK1.out (p := ⟨gb, 0, none⟩) (Ne.symm G1.out) _) (p := ⟨gb, 1, none⟩) (Ne.symm G1.out) _) (p := ⟨gb, 2, none⟩) (Ne.symm G1.out) _) (p := ⟨gb, 3, none⟩) (Ne.symm G1.out) _) (p := ⟨gb, 4, none⟩) (Ne.symm G1.out) _) (p := ⟨gb, 5, none⟩) (Ne.symm G1.out) _) (p := ⟨gb, 6, none⟩) (Ne.symm G1.out) _) (p := ⟨gb, 7, none⟩) (Ne.symm G1.out) _)⟩
        have m3 : Aside0 (Below w.heap.size w ((((((((w10.setCell ⟨gb, 0, none⟩ (.int .u8 (a.data[i]).f0)).setCell ⟨gb, 1, none⟩ (.int .u8 (a.data[i]).f1)).setCell ⟨gb, 2, none⟩ (.int .u8 (a.data[i]).f2)).setCell ⟨gb, 3, none⟩ (.int .u8 (a.data[i]).f3)).setCell ⟨gb, 4, none⟩ (.int .u8 (a.data[i]).f4)).setCell ⟨gb, 5, none⟩ (.int .u8 (a.data[i]).f5)).setCell ⟨gb, 6, none⟩ (.int .u8 (a.data[i]).f6)).setCell ⟨gb, 7, none⟩ (.int .u8 (a.data[i]).f7))) := ⟨(below_set (below_set (below_set (below_set (below_set (below_set (below_set (below_set HBW.out GE.out) GE.out) GE.out) GE.out) GE.out) GE.out) GE.out) GE.out)⟩
        clear BK HK1 HK2 HBW z0 z1 z2 z3 z4 z5 z6 z7 f0 f1 f2 f3 f4 f5 f6 f7 x0 x1 x2 x3 x4 x5 x6 x7 y0 y1 y2 y3 y4 y5 y6 y7 YB
        generalize ((((((((w10.setCell ⟨gb, 0, none⟩ (.int .u8 (a.data[i]).f0)).setCell ⟨gb, 1, none⟩ (.int .u8 (a.data[i]).f1)).setCell ⟨gb, 2, none⟩ (.int .u8 (a.data[i]).f2)).setCell ⟨gb, 3, none⟩ (.int .u8 (a.data[i]).f3)).setCell ⟨gb, 4, none⟩ (.int .u8 (a.data[i]).f4)).setCell ⟨gb, 5, none⟩ (.int .u8 (a.data[i]).f5)).setCell ⟨gb, 6, none⟩ (.int .u8 (a.data[i]).f6)).setCell ⟨gb, 7, none⟩ (.int .u8 (a.data[i]).f7)) = w11 at m0 m1 m2 m3 ⊢
        obtain ⟨ad2', e2, y0, y1, y2, y3, y4, y5, y6, y7⟩ := at35c HB.out i h' rfl m3.out
        cases e2
        have z0 := (blk_cell m0.out 0).trans (show _ = some (Value.int .u8 (a.data[i]).f0) from rfl)
        have z1 := (blk_cell m0.out 1).trans (show _ = some (Value.int .u8 (a.data[i]).f1) from rfl)
        have z2 := (blk_cell m0.out 2).trans (show _ = some (Value.int .u8 (a.data[i]).f2) from rfl)
        have z3 := (blk_cell m0.out 3).trans (show _ = some (Value.int .u8 (a.data[i]).f3) from rfl)
        have z4 := (blk_cell m0.out 4).trans (show _ = some (Value.int .u8 (a.data[i]).f4) from rfl)
        have z5 := (blk_cell m0.out 5).trans (show _ = some (Value.int .u8 (a.data[i]).f5) from rfl)
        have z6 := (blk_cell m0.out 6).trans (show _ = some (Value.int .u8 (a.data[i]).f6) from rfl)
        have z7 := (blk_cell m0.out 7).trans (show _ = some (Value.int .u8 (a.data[i]).f7) from rfl)
        have zb := (blk_cell m2.out 8).trans (show _ = some (Value.slice (some ad2) b.data.length cb) from rfl)
        generalize hxa : a.data[i] = xa at m0 z0 z1 z2 z3 z4 z5 z6 z7
        generalize hxb : b.data[i] = xb at y0 y1 y2 y3 y4 y5 y6 y7
        have NC := Lib.hid (not_chain xa xb)
        have HXA := Lib.hid hxa
        have HXB := Lib.hid hxb
        clear hxa hxb
        go_quiet (fail)
        have m4 : Aside0 (sameC a b = (eq35 xa xb && (eqL (a.data.drop (i + 1)) (b.data.drop (i + 1)) && headEq a b))) := ⟨by rw [HS.out, ← Bool.and_assoc, ← HXA.out, ← HXB.out, List.drop_eq_getElem_cons h, List.drop_eq_getElem_cons h', eqL]⟩
        cases hq : eq35 xa xb
        · have hc := NC.out
          rw [hq, Bool.not_false] at hc
          rw [hc]
          have m5 : Aside0 (sameC a b = false) := ⟨by rw [m4.out, hq, Bool.false_and]⟩
          have HBE := Aside0.mk (pw_below_drewN m3.out nq)
          go_wp2
          go_ret
          exact ⟨by rw [m5.out]; rfl, HBE.out⟩
        · have hc := NC.out
          rw [hq, Bool.not_true] at hc
          rw [hc]
          have m5 : Aside0 (sameC a b = (eqL (a.data.drop (i + 1)) (b.data.drop (i + 1)) && headEq a b)) := ⟨by rw [m4.out, hq, Bool.true_and]⟩
          have HBE := Aside0.mk (pw_below_drewN m3.out nq)
          have m6 := Aside0.mk (blk_drewN m1.out nq)
          have m7 := Aside0.mk (blk_drewN m2.out nq)
          have hw1 : wrap64 ((i : Int) + 1) = ((i + 1 : Nat) : Int) := w64 i a.data.length h HN.out
          have HW1 := Lib.hid hw1
          clear hw1
          go_wp2
          go_roundg (a.data.length - (i + 1))
          case measure => have := HI.out; omega
          case rel => exact ⟨i + 1, by first | rw [HW1.out] | (simp; exact HW1.out), ⟨by omega, rfl⟩, m5, m6, m7, HBE⟩
      · have hi : i = a.data.length := by have := HI.out; omega
        subst hi
        have d1 : decide ((a.data.length : Int) < (a.data.length : Int)) = false := decide_eq_false (by omega)
        have hs : sameC a b = headEq a b := by rw [HS.out, List.drop_length, HL.out, List.drop_length, eqL, Bool.true_and]
        have HS2 := Lib.hid hs
        clear hs HS
        have c0 := (blk_cell HK1.out 0).trans (show _ = some (Value.int .i64 a.tag) from rfl)
        have c1 := (blk_cell HK1.out 1).trans (show _ = some (Value.int .i64 a.kind) from rfl)
        have c2 := (blk_cell HK1.out 2).trans (show _ = some (Value.int .i64 a.order) from rfl)
        have c3 := (blk_cell HK1.out 3).trans (show _ = some (Value.bool a.force) from rfl)
        have c4 := (blk_cell HK1.out 4).trans (show _ = some (Value.string a.vol) from rfl)
        have c5 := (blk_cell HK1.out 5).trans (show _ = some (Value.string a.other) from rfl)
        have c6 := (blk_cell HK1.out 6).trans (show _ = some (Value.int .i64 a.pos) from rfl)
        have c7 := (blk_cell HK1.out 7).trans (show _ = some (Value.int .i64 a.len) from rfl)
        have e0 := (blk_cell HK2.out 0).trans (show _ = some (Value.int .i64 b.tag) from rfl)
        have e1 := (blk_cell HK2.out 1).trans (show _ = some (Value.int .i64 b.kind) from rfl)
        have e2 := (blk_cell HK2.out 2).trans (show _ = some (Value.int .i64 b.order) from rfl)
        have e3 := (blk_cell HK2.out 3).trans (show _ = some (Value.bool b.force) from rfl)
        have e4 := (blk_cell HK2.out 4).trans (show _ = some (Value.string b.vol) from rfl)
        have e5 := (blk_cell HK2.out 5).trans (show _ = some (Value.string b.other) from rfl)
        have e6 := (blk_cell HK2.out 6).trans (show _ = some (Value.int .i64 b.pos) from rfl)
        have e7 := (blk_cell HK2.out 7).trans (show _ = some (Value.int .i64 b.len) from rfl)
        cases q0 : a.tag == b.tag
        · have hn : sameC a b = false := by rw [HS2.out]; unfold headEq; simp only [q0, Bool.true_and, Bool.false_and]
          have HN2 := Lib.hid hn
          clear hn
          go_wp2
          go_ret
          exact ⟨by rw [HN2.out]; rfl, HBW.out⟩
        cases q1 : a.kind == b.kind
        · have hn : sameC a b = false := by rw [HS2.out]; unfold headEq; simp only [q0, q1, Bool.true_and, Bool.false_and]
          have HN2 := Lib.hid hn
          clear hn
          go_wp2
          go_ret
          exact ⟨by rw [HN2.out]; rfl, HBW.out⟩
        cases q2 : a.order == b.order
        · have hn : sameC a b = false := by rw [HS2.out]; unfold headEq; simp only [q0, q1, q2, Bool.true_and, Bool.false_and]
          have HN2 := Lib.hid hn
          clear hn
          go_wp2
          go_ret
          exact ⟨by rw [HN2.out]; rfl, HBW.out⟩
        cases q3 : a.force == b.force
        · have hn : sameC a b = false := by rw [HS2.out]; unfold headEq; simp only [q0, q1, q2, q3, Bool.true_and, Bool.false_and]
          have HN2 := Lib.hid hn
          clear hn
          go_wp2
          go_ret
          exact ⟨by rw [HN2.out]; rfl, HBW.out⟩
        cases q4 : a.vol.toList == b.vol.toList
        · have hn : sameC a b = false := by rw [HS2.out]; unfold headEq; simp only [q0, q1, q2, q3, q4, Bool.true_and, Bool.false_and]
          have HN2 := Lib.hid hn
          clear hn
          go_wp2
          go_ret
          exact ⟨by rw [HN2.out]; rfl, HBW.out⟩
        cases q5 : a.other.toList == b.other.toList
        · have hn : sameC a b = false := by rw [HS2.out]; unfold headEq; simp only [q0, q1, q2, q3, q4, q5, Bool.true_and, Bool.false_and]
          have HN2 := Lib.hid hn
          clear hn
          go_wp2
          go_ret
          exact ⟨by rw [HN2.out]; rfl, HBW.out⟩
        cases q6 : a.pos == b.pos
        · have hn : sameC a b = false := by rw [HS2.out]; unfold headEq; simp only [q0, q1, q2, q3, q4, q5, q6, Bool.true_and, Bool.false_and]
          have HN2 := Lib.hid hn
          clear hn
          go_wp2
          go_ret
          exact ⟨by rw [HN2.out]; rfl, HBW.out⟩
        cases q7 : a.len == b.len
        · have hn : sameC a b = false := by rw [HS2.out]; unfold headEq; simp only [q0, q1, q2, q3, q4, q5, q6, q7, Bool.true_and, Bool.false_and]
          have HN2 := Lib.hid hn
          clear hn
          go_wp2
          go_ret
          exact ⟨by rw [HN2.out]; rfl, HBW.out⟩
        have hn : sameC a b = true := by rw [HS2.out]; unfold headEq; simp only [q0, q1, q2, q3, q4, q5, q6, q7, Bool.true_and, Bool.and_self]
        have HN2 := Lib.hid hn
        clear hn
        go_wp2
        go_ret
        exact ⟨by rw [HN2.out]; rfl, HBW.out⟩
  · have l1 : ((a.data.length : Int) != (b.data.length : Int)) = true := by simp; omega
    have l2 : ((a.data.length : Int) == (b.data.length : Int)) = false := by simp; omega
    have e : sameC a b = false := by unfold sameC; rw [eqL_len _ _ hl]; rfl
    rw [e]
    go_enter Tryd.func36, Tryd.ntmps36
    go_wp2
    go_ret
    exact ⟨rfl, by repeat (first | exact Below.refl _ _ | apply below_alloc)⟩
end Go.Proofs.YthbnghdobmghlaaDoor.ST
