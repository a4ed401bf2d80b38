import Derived.Test.YthbnghdobmghlaaDoorVJ3
import Derived.Deep.RegionHeld3
namespace Go.Proofs.YthbnghdobmghlaaDoor.ST
open Go.RowKit Go.Proofs.YthbnghdobmghlaaDoorW.PrintWords Go.Proofs.YthbnghdobmghlaaDoorW.PrintLast Go.Proofs.YthbnghdobmghlaaDoorW.PrintMore Go.Proofs.YthbnghdobmghlaaDoor.PC
set_option linter.unusedVariables false
set_option linter.unusedSimpArgs false
def insideB (p n : Int) : Bool := decide (0 ≤ p) && (decide (1 ≤ n) && (decide (p ≤ 65536) && decide (n ≤ 65536 - p)))
theorem inside_any (p n : Int) (w : World) : Calls Tryd.prog 35 #[.int .i64 p, .int .i64 n] w fun e w' => e = .returned (.bool (insideB p n)) ∧ w = w' := by
  by_cases h0 : 0 ≤ p
  · by_cases h1 : 1 ≤ n
    · by_cases h2 : p ≤ 65536
      · have e : insideB p n = decide (n ≤ 65536 - p) := by unfold insideB; rw [decide_eq_true h0, decide_eq_true h1, decide_eq_true h2]; rfl
        rw [e]
        clear e
        go_enter Tryd.func35, Tryd.ntmps35
        go_wp2
        go_ret
        exact ⟨by first | rfl | simp [*], rfl⟩
      · have e : insideB p n = false := by unfold insideB; rw [decide_eq_false h2]; simp
        rw [e]
        go_enter Tryd.func35, Tryd.ntmps35
        go_wp2
        go_ret
        exact ⟨by first | rfl | simp [*], rfl⟩
    · have e : insideB p n = false := by unfold insideB; rw [decide_eq_false h1]; simp
      rw [e]
      go_enter Tryd.func35, Tryd.ntmps35
      go_wp2
      go_ret
      exact ⟨by first | rfl | simp [*], rfl⟩
  · have e : insideB p n = false := by unfold insideB; rw [decide_eq_false h0]; simp
    rw [e]
    go_enter Tryd.func35, Tryd.ntmps35
    go_wp2
    go_ret
    exact ⟨by first | rfl | simp [*], rfl⟩
theorem only_any (tag kind order : Int) (force : Bool) (vol other : ByteArray) (pos len : Int) (A : Option Addr) (n cap : Nat) (w : World) :
    Calls Tryd.prog 33 #[.agg #[.int .i64 tag, .int .i64 kind, .int .i64 order, .bool force, .string vol, .string other, .int .i64 pos, .int .i64 len, .slice A n cap]] w fun e w' => e = .returned (.agg #[.int .i64 tag, .int .i64 kind, .int .i64 order, .bool false, .string ⟨#[]⟩, .string ⟨#[]⟩, .int .i64 0, .int .i64 0, .slice none 0 0]) ∧ Below w.heap.size w w' := by
  have hu24 := Tryd.underlying24
  go_enter Tryd.func33, Tryd.ntmps33
  go_wp2
  refine bodyPost_ret (v := .agg #[.int .i64 tag, .int .i64 kind, .int .i64 order, .bool false, .string ⟨#[]⟩, .string ⟨#[]⟩, .int .i64 0, .int .i64 0, .slice none 0 0]) (by simp [results, Tryd.results33, go_sem, hu24]) rfl ⟨rfl, ?_⟩
  repeat (first | exact Below.refl _ _ | apply below_alloc)
theorem below_allocs (w : World) (o : Obj) : Below w.heap.size w (w.alloc o) := below_alloc (Below.refl _ _) o
theorem cells24 {w : World} {g : Nat} {x0 x1 x2 x3 x4 x5 x6 x7 x8 : Value} (h : w.heap[g]? = some (.cells #[x0, x1, x2, x3, x4, x5, x6, x7, x8] 24 (0, 0))) :
    w.cell? ⟨g, 0, none⟩ = some x0 ∧ w.cell? ⟨g, 1, none⟩ = some x1 ∧ w.cell? ⟨g, 2, none⟩ = some x2 ∧ w.cell? ⟨g, 3, none⟩ = some x3 ∧ w.cell? ⟨g, 4, none⟩ = some x4 ∧ w.cell? ⟨g, 5, none⟩ = some x5 ∧ w.cell? ⟨g, 6, none⟩ = some x6 ∧ w.cell? ⟨g, 7, none⟩ = some x7 ∧ w.cell? ⟨g, 8, none⟩ = some x8 :=
  ⟨(blk_cell h 0).trans rfl, (blk_cell h 1).trans rfl, (blk_cell h 2).trans rfl, (blk_cell h 3).trans rfl, (blk_cell h 4).trans rfl, (blk_cell h 5).trans rfl, (blk_cell h 6).trans rfl, (blk_cell h 7).trans rfl, (blk_cell h 8).trans rfl⟩
theorem frozen24 {w : World} {g : Nat} {cs : Array Value} (h : w.heap[g]? = some (.cells cs 24 (0, 0))) :
    w.frozen? ⟨g, 0, none⟩ = false ∧ w.frozen? ⟨g, 1, none⟩ = false ∧ w.frozen? ⟨g, 2, none⟩ = false ∧ w.frozen? ⟨g, 3, none⟩ = false ∧ w.frozen? ⟨g, 4, none⟩ = false ∧ w.frozen? ⟨g, 5, none⟩ = false ∧ w.frozen? ⟨g, 6, none⟩ = false ∧ w.frozen? ⟨g, 7, none⟩ = false ∧ w.frozen? ⟨g, 8, none⟩ = false :=
  ⟨blk_frozen h 0, blk_frozen h 1, blk_frozen h 2, blk_frozen h 3, blk_frozen h 4, blk_frozen h 5, blk_frozen h 6, blk_frozen h 7, blk_frozen h 8⟩
theorem put24 {w : World} {g : Nat} {y0 y1 y2 y3 y4 y5 y6 y7 y8 : Value} (h : w.heap[g]? = some (.cells #[y0, y1, y2, y3, y4, y5, y6, y7, y8] 24 (0, 0))) (x0 x1 x2 x3 x4 x5 x6 x7 x8 : Value) :
    (((((((((w.setCell ⟨g, 0, none⟩ x0).setCell ⟨g, 1, none⟩ x1).setCell ⟨g, 2, none⟩ x2).setCell ⟨g, 3, none⟩ x3).setCell ⟨g, 4, none⟩ x4).setCell ⟨g, 5, none⟩ x5).setCell ⟨g, 6, none⟩ x6).setCell ⟨g, 7, none⟩ x7).setCell ⟨g, 8, none⟩ x8).heap[g]? = some (.cells #[x0, x1, x2, x3, x4, x5, x6, x7, x8] 24 (0, 0)) :=
  by
  have h1 := blk_put (cs' := #[x0, y1, y2, y3, y4, y5, y6, y7, y8]) h 0 x0 rfl
  have h2 := blk_put (cs' := #[x0, x1, y2, y3, y4, y5, y6, y7, y8]) h1 1 x1 rfl
  have h3 := blk_put (cs' := #[x0, x1, x2, y3, y4, y5, y6, y7, y8]) h2 2 x2 rfl
  have h4 := blk_put (cs' := #[x0, x1, x2, x3, y4, y5, y6, y7, y8]) h3 3 x3 rfl
  have h5 := blk_put (cs' := #[x0, x1, x2, x3, x4, y5, y6, y7, y8]) h4 4 x4 rfl
  have h6 := blk_put (cs' := #[x0, x1, x2, x3, x4, x5, y6, y7, y8]) h5 5 x5 rfl
  have h7 := blk_put (cs' := #[x0, x1, x2, x3, x4, x5, x6, y7, y8]) h6 6 x6 rfl
  have h8 := blk_put (cs' := #[x0, x1, x2, x3, x4, x5, x6, x7, y8]) h7 7 x7 rfl
  have h9 := blk_put (cs' := #[x0, x1, x2, x3, x4, x5, x6, x7, x8]) h8 8 x8 rfl
  exact h9
theorem far24 {w : World} {g g' : Nat} {t : TypeId} {cs : Array Value} (h : w.heap[g']? = some (.cells cs t (0, 0))) (hne : g' ≠ g) (x0 x1 x2 x3 x4 x5 x6 x7 x8 : Value) :
    (((((((((w.setCell ⟨g, 0, none⟩ x0).setCell ⟨g, 1, none⟩ x1).setCell ⟨g, 2, none⟩ x2).setCell ⟨g, 3, none⟩ x3).setCell ⟨g, 4, none⟩ x4).setCell ⟨g, 5, none⟩ x5).setCell ⟨g, 6, none⟩ x6).setCell ⟨g, 7, none⟩ x7).setCell ⟨g, 8, none⟩ x8).heap[g']? = some (.cells cs t (0, 0)) :=
  blk_far (blk_far (blk_far (blk_far (blk_far (blk_far (blk_far (blk_far (blk_far h (p := ⟨g, 0, none⟩) hne _) (p := ⟨g, 1, none⟩) hne _) (p := ⟨g, 2, none⟩) hne _) (p := ⟨g, 3, none⟩) hne _) (p := ⟨g, 4, none⟩) hne _) (p := ⟨g, 5, none⟩) hne _) (p := ⟨g, 6, none⟩) hne _) (p := ⟨g, 7, none⟩) hne _) (p := ⟨g, 8, none⟩) hne _
theorem below24 {w0 w : World} {g : Nat} (h : Below w0.heap.size w0 w) (hg : w0.heap.size ≤ g) (x0 x1 x2 x3 x4 x5 x6 x7 x8 : Value) :
    Below w0.heap.size w0 (((((((((w.setCell ⟨g, 0, none⟩ x0).setCell ⟨g, 1, none⟩ x1).setCell ⟨g, 2, none⟩ x2).setCell ⟨g, 3, none⟩ x3).setCell ⟨g, 4, none⟩ x4).setCell ⟨g, 5, none⟩ x5).setCell ⟨g, 6, none⟩ x6).setCell ⟨g, 7, none⟩ x7).setCell ⟨g, 8, none⟩ x8) :=
  below_set (below_set (below_set (below_set (below_set (below_set (below_set (below_set (below_set h hg) hg) hg) hg) hg) hg) hg) hg) hg
def usedC (c : Cmd) : Cmd :=
  if c.kind = 1 then ⟨c.tag, c.kind, c.order, false, c.vol, ⟨#[]⟩, c.pos, c.len, []⟩
  else if c.kind = 2 then ⟨c.tag, c.kind, c.order, c.force, c.vol, ⟨#[]⟩, c.pos, c.len, c.data⟩
  else if c.kind = 3 then ⟨c.tag, c.kind, c.order, c.force, c.vol, ⟨#[]⟩, c.pos, c.len, []⟩
  else if c.kind = 5 then ⟨c.tag, c.kind, c.order, false, c.vol, ⟨#[]⟩, c.pos, c.len, []⟩
  else if c.kind = 6 then ⟨c.tag, c.kind, c.order, false, c.vol, c.other, 0, 0, []⟩
  else ⟨c.tag, c.kind, c.order, false, c.vol, ⟨#[]⟩, 0, 0, []⟩
def okC (c : Cmd) : Bool :=
  if c.kind = 1 then nameB c.vol && (insideB c.pos c.len && decide (c.len ≤ 16))
  else if c.kind = 2 then nameB c.vol && (insideB c.pos c.len && (decide (c.len ≤ 16) && ((c.data.length : Int) == c.len)))
  else if c.kind = 3 then nameB c.vol && insideB c.pos c.len
  else if c.kind = 4 then c.vol.toList.isEmpty
  else if c.kind = 5 then nameB c.vol && (decide (1 ≤ c.len) && (decide (c.len ≤ 65536) && (decide (0 ≤ c.pos) && decide (c.pos ≤ c.len))))
  else if c.kind = 6 then nameB c.vol && (nameB c.other && !(c.other.toList == c.vol.toList))
  else if c.kind = 7 then nameB c.vol
  else false
def headC (c : Cmd) : Bool := decide (0 ≤ c.tag) && (decide (c.tag ≤ 2147483647) && (c.order == 0 || c.order == 1))
def validC (c : Cmd) : Bool := headC c && (okC c && sameC c (usedC c))
set_option maxHeartbeats 8000000 in
set_option maxRecDepth 100000 in
theorem valid_1_a (tag order : Int) (force : Bool) (vol other : ByteArray) (pos len : Int) (data : List S35) (w : World) (A : Option Addr) (cap : Nat) (hA : Kd.C k35 w A data.length data) (hcap : data.length ≤ cap) (hn : data.length ≤ 140737488355328) (t0 : decide (tag < 0) = false) (t1 : decide (2147483647 < tag) = false) (t2 : (order != 0) = false) :
    Calls Tryd.prog 18 #[.agg #[.int .i64 tag, .int .i64 1, .int .i64 order, .bool force, .string vol, .string other, .int .i64 pos, .int .i64 len, .slice A data.length cap]] w fun e w' => e = .returned (.bool (okC ⟨tag, 1, order, force, vol, other, pos, len, data⟩ && sameC ⟨tag, 1, order, force, vol, other, pos, len, data⟩ (usedC ⟨tag, 1, order, force, vol, other, pos, len, data⟩))) ∧ Below w.heap.size w w' := by
  have hu24 := Tryd.underlying24
  have HA := Aside0.mk hA
  have HCAP := Aside0.mk hcap
  have HN := Aside0.mk hn
  clear hA hcap hn
  generalize hok : okC ⟨tag, 1, order, force, vol, other, pos, len, data⟩ = ok
  generalize hsm : sameC ⟨tag, 1, order, force, vol, other, pos, len, data⟩ (usedC ⟨tag, 1, order, force, vol, other, pos, len, data⟩) = sm
  have HOK := Lib.hid hok
  have HSM := Lib.hid hsm
  clear hok hsm
  go_enter Tryd.func18, Tryd.ntmps18
  go_wp2_with fail
  have hk1 := blk_new w (.cells #[.int .i64 tag, .int .i64 1, .int .i64 order, .bool force, .string vol, .string other, .int .i64 pos, .int .i64 len, .slice A data.length cap] 24)
  have hb1 := below_allocs w (.cells #[.int .i64 tag, .int .i64 1, .int .i64 order, .bool force, .string vol, .string other, .int .i64 pos, .int .i64 len, .slice A data.length cap] 24)
  generalize w.alloc (.cells #[.int .i64 tag, .int .i64 1, .int .i64 order, .bool force, .string vol, .string other, .int .i64 pos, .int .i64 len, .slice A data.length cap] 24) = w1 at hk1 hb1 ⊢
  have HK1 := Aside0.mk hk1
  have HB := Aside0.mk hb1
  clear hk1 hb1
  refine (only_any _ _ _ _ _ _ _ _ _ _ _ w1).mono ?_
  rintro e w2 ⟨rfl, hb⟩
  replace HK1 := Aside0.mk (blk_below HK1.out hb)
  replace HB := Aside0.mk (below_step HB.out hb)
  clear hb
  go_upto_region 4 with ((with_reducible refine gate_dst (N := 3) rfl ?_); refine box_event ?hg (N := 3) ?hd (cs := #[.int .i64 0, .int .i64 0, .int .i64 0, .bool false, .string ⟨#[]⟩, .string ⟨#[]⟩, .int .i64 0, .int .i64 0, .slice none 0 0]) (t := 24) ?hr ?_; (case hd => rfl); (case hg => rfl); (case hr => first | (go_simp; done) | (go_simp; rfl)); intro g2 hg w10 hbox hb; have n0_ := Aside0.mk (blk_below HK1.out hb); have n2_ := Aside0.mk (below_step HB.out hb); have G2 : Aside0 (w.heap.size ≤ g2) := ⟨by rw [hg]; exact below_size HB.out⟩; have NE : Aside0 (w.heap.size ≠ g2) := ⟨by have := blk_lt HK1.out; omega⟩; have BK := Aside0.mk hbox; clear HK1 HB hg hbox hb; have HK1 := n0_; have HB := n2_; clear n0_ n2_; obtain ⟨z0, z1, z2, z3, z4, z5, z6, z7, z8⟩ := cells24 BK.out; obtain ⟨f0, f1, f2, f3, f4, f5, f6, f7, f8⟩ := frozen24 BK.out)
  clear z0 z1 z2 z3 z4 z5 z6 z7 z8 f0 f1 f2 f3 f4 f5 f6 f7 f8
  have hk2 := put24 BK.out (.int .i64 tag) (.int .i64 1) (.int .i64 order) (.bool false) (.string ⟨#[]⟩) (.string ⟨#[]⟩) (.int .i64 0) (.int .i64 0) (.slice none 0 0)
  have hk1 := far24 HK1.out NE.out (.int .i64 tag) (.int .i64 1) (.int .i64 order) (.bool false) (.string ⟨#[]⟩) (.string ⟨#[]⟩) (.int .i64 0) (.int .i64 0) (.slice none 0 0)
  have hb := below24 HB.out G2.out (.int .i64 tag) (.int .i64 1) (.int .i64 order) (.bool false) (.string ⟨#[]⟩) (.string ⟨#[]⟩) (.int .i64 0) (.int .i64 0) (.slice none 0 0)
  generalize (((((((((w10.setCell ⟨g2, 0, none⟩ (.int .i64 tag)).setCell ⟨g2, 1, none⟩ (.int .i64 1)).setCell ⟨g2, 2, none⟩ (.int .i64 order)).setCell ⟨g2, 3, none⟩ (.bool false)).setCell ⟨g2, 4, none⟩ (.string ⟨#[]⟩)).setCell ⟨g2, 5, none⟩ (.string ⟨#[]⟩)).setCell ⟨g2, 6, none⟩ (.int .i64 0)).setCell ⟨g2, 7, none⟩ (.int .i64 0)).setCell ⟨g2, 8, none⟩ (.slice none 0 0)) = w11 at hk1 hk2 hb ⊢
  replace HK1 := Aside0.mk hk1
  have HK2 := Aside0.mk hk2
  replace HB := Aside0.mk hb
  clear hk1 hk2 hb BK
  obtain ⟨c0, c1, c2, c3, c4, c5, c6, c7, c8⟩ := cells24 HK1.out
  obtain ⟨d0, d1, d2, d3, d4, d5, d6, d7, d8⟩ := cells24 HK2.out
  obtain ⟨f0, f1, f2, f3, f4, f5, f6, f7, f8⟩ := frozen24 HK2.out
  go_upto_region 5 with (fail)
  clear c0 c1 c2 c3 c4 c5 c6 c7 c8 d0 d1 d2 d3 d4 d5 d6 d7 d8 f0 f1 f2 f3 f4 f5 f6 f7 f8
  have hk2 := (blk_put HK2.out 4 (.string vol) rfl)
  have hk1 := (blk_far HK1.out (p := ⟨g2, 4, none⟩) NE.out (.string vol))
  have hb : Below w.heap.size w ((w11).setCell ⟨g2, 4, none⟩ (.string vol)) := (below_set HB.out G2.out)
  generalize (w11).setCell ⟨g2, 4, none⟩ (.string vol) = w12 at hk1 hk2 hb ⊢
  replace HK1 := Aside0.mk hk1
  replace HK2 := Aside0.mk hk2
  replace HB := Aside0.mk hb
  clear hk1 hk2 hb
  have c4 := (blk_cell HK1.out 4).trans (show _ = some (Value.string vol) from rfl)
  go_wp2_with fail
  clear c4
  refine (name_any vol w12).mono ?_
  rintro e w13 ⟨rfl, hb⟩
  replace HK1 := Aside0.mk (blk_below HK1.out hb)
  replace HK2 := Aside0.mk (blk_below HK2.out hb)
  replace HB := Aside0.mk (below_step HB.out hb)
  clear hb
  obtain ⟨c0, c1, c2, c3, c4, c5, c6, c7, c8⟩ := cells24 HK1.out
  obtain ⟨d0, d1, d2, d3, d4, d5, d6, d7, d8⟩ := cells24 HK2.out
  obtain ⟨f0, f1, f2, f3, f4, f5, f6, f7, f8⟩ := frozen24 HK2.out
  go_wp2_with fail
  have HS0 : Aside0 (w13.cell? ⟨w.heap.size, 6, none⟩ = some (.int .i64 pos) ∧ w13.cell? ⟨w.heap.size, 7, none⟩ = some (.int .i64 len)) := ⟨⟨c6, c7⟩⟩
  have HSk : Aside0 (∀ (W : World) (f : Nat) (u : Value), (W.cell? ⟨w.heap.size, 6, none⟩ = some (.int .i64 pos) ∧ W.cell? ⟨w.heap.size, 7, none⟩ = some (.int .i64 len)) → (W.setCell ⟨g2, f, none⟩ u).cell? ⟨w.heap.size, 6, none⟩ = some (.int .i64 pos) ∧ (W.setCell ⟨g2, f, none⟩ u).cell? ⟨w.heap.size, 7, none⟩ = some (.int .i64 len)) := ⟨fun W f u ⟨h0, h1⟩ => ⟨(cell_far (a := ⟨w.heap.size, 6, none⟩) (p := ⟨g2, f, none⟩) NE.out u).trans h0, (cell_far (a := ⟨w.heap.size, 7, none⟩) (p := ⟨g2, f, none⟩) NE.out u).trans h1⟩⟩
  have HSd : Aside0 (∀ (W : World), (W.cell? ⟨w.heap.size, 6, none⟩ = some (.int .i64 pos) ∧ W.cell? ⟨w.heap.size, 7, none⟩ = some (.int .i64 len)) → W.drew.cell? ⟨w.heap.size, 6, none⟩ = some (.int .i64 pos) ∧ W.drew.cell? ⟨w.heap.size, 7, none⟩ = some (.int .i64 len)) := ⟨fun W h => h⟩
  go_region_held3 (fun W => W.cell? ⟨w.heap.size, 6, none⟩ = some (.int .i64 pos) ∧ W.cell? ⟨w.heap.size, 7, none⟩ = some (.int .i64 len)) (first | (with_reducible exact HSd.out _ HS0.out) | (with_reducible exact HS0.out) | (with_reducible exact HSd.out _ (HSk.out _ _ _ HS0.out)) | (with_reducible exact (HSk.out _ _ _ HS0.out)) | (with_reducible exact HSd.out _ (HSk.out _ _ _ (HSk.out _ _ _ HS0.out))) | (with_reducible exact (HSk.out _ _ _ (HSk.out _ _ _ HS0.out))) | go_keep) (first | fail)
  clear HS0 HSk HSd
  clear c0 c1 c2 c3 c4 c5 c6 c7 c8 d0 d1 d2 d3 d4 d5 d6 d7 d8 f0 f1 f2 f3 f4 f5 f6 f7 f8
  have hk2 := (blk_drew (blk_put (blk_put HK2.out 6 (.int .i64 pos) rfl) 7 (.int .i64 len) rfl))
  have hk1 := (blk_drew (blk_far (blk_far HK1.out (p := ⟨g2, 6, none⟩) NE.out (.int .i64 pos)) (p := ⟨g2, 7, none⟩) NE.out (.int .i64 len)))
  have hb : Below w.heap.size w ((((w13).setCell ⟨g2, 6, none⟩ (.int .i64 pos)).setCell ⟨g2, 7, none⟩ (.int .i64 len)).drew) := (below_drew1 (below_set (below_set HB.out G2.out) G2.out))
  generalize (((w13).setCell ⟨g2, 6, none⟩ (.int .i64 pos)).setCell ⟨g2, 7, none⟩ (.int .i64 len)).drew = w14 at hk1 hk2 hb ⊢
  replace HK1 := Aside0.mk hk1
  replace HK2 := Aside0.mk hk2
  replace HB := Aside0.mk hb
  clear hk1 hk2 hb
  obtain ⟨c0, c1, c2, c3, c4, c5, c6, c7, c8⟩ := cells24 HK1.out
  obtain ⟨d0, d1, d2, d3, d4, d5, d6, d7, d8⟩ := cells24 HK2.out
  obtain ⟨f0, f1, f2, f3, f4, f5, f6, f7, f8⟩ := frozen24 HK2.out
  cases hnm : nameB vol
  · have HNM := Lib.hid hnm
    clear hnm
    have eok : ok = false := by rw [← HOK.out]; unfold okC; simp [HNM.out]
    have EOK := Lib.hid eok
    clear eok
    go_wp2
    go_ret
    exact ⟨by rw [EOK.out]; rfl, HB.out⟩
  · have HNM := Lib.hid hnm
    clear hnm
    go_wp2_with fail
    refine (inside_any pos len _).mono ?_
    rintro e w' ⟨rfl, rfl⟩
    cases hin : insideB pos len
    · have HIN := Lib.hid hin
      clear hin
      have eok : ok = false := by rw [← HOK.out]; unfold okC; simp [HNM.out, HIN.out]
      have EOK := Lib.hid eok
      clear eok
      go_wp2
      go_ret
      exact ⟨by rw [EOK.out]; rfl, HB.out⟩
    · have HIN := Lib.hid hin
      clear hin
      by_cases h16 : len ≤ 16
      · have h160 : decide (len ≤ 16) = true := decide_eq_true h16
        have H16 := Aside0.mk h16
        clear h16
        have eok : ok = true := by rw [← HOK.out]; unfold okC; simp [HNM.out, HIN.out, H16.out]
        have EOK := Lib.hid eok
        clear eok
        go_wp2_with fail
        have c := same_any ⟨tag, 1, order, force, vol, other, pos, len, data⟩ ⟨tag, 1, order, false, vol, ⟨#[]⟩, pos, len, []⟩ _ A none cap 0 (Kd.C_below HA.out HB.out) HCAP.out (Kd.C_nil _ _) (Nat.le_refl _) (Nat.le_trans HN.out (by decide))
        rw [show sameC ⟨tag, 1, order, force, vol, other, pos, len, data⟩ ⟨tag, 1, order, false, vol, ⟨#[]⟩, pos, len, []⟩ = sm from HSM.out] at c
        refine c.mono ?_
        clear c
        rintro e w' ⟨rfl, hb⟩
        replace HB := Aside0.mk (below_step HB.out hb)
        clear hb
        go_wp2
        go_ret
        exact ⟨by rw [EOK.out]; rfl, HB.out⟩
      · have h160 : decide (len ≤ 16) = false := decide_eq_false h16
        have H16 := Aside0.mk h16
        clear h16
        have eok : ok = false := by rw [← HOK.out]; unfold okC; simp [HNM.out, HIN.out, H16.out]
        have EOK := Lib.hid eok
        clear eok
        go_wp2
        go_ret
        exact ⟨by rw [EOK.out]; rfl, HB.out⟩
set_option maxHeartbeats 8000000 in
set_option maxRecDepth 100000 in
theorem valid_1_b (tag order : Int) (force : Bool) (vol other : ByteArray) (pos len : Int) (data : List S35) (w : World) (A : Option Addr) (cap : Nat) (hA : Kd.C k35 w A data.length data) (hcap : data.length ≤ cap) (hn : data.length ≤ 140737488355328) (t0 : decide (tag < 0) = false) (t1 : decide (2147483647 < tag) = false) (t2 : (order != 0) = true) (t3 : (order != 1) = false) :
    Calls Tryd.prog 18 #[.agg #[.int .i64 tag, .int .i64 1, .int .i64 order, .bool force, .string vol, .string other, .int .i64 pos, .int .i64 len, .slice A data.length cap]] w fun e w' => e = .returned (.bool (okC ⟨tag, 1, order, force, vol, other, pos, len, data⟩ && sameC ⟨tag, 1, order, force, vol, other, pos, len, data⟩ (usedC ⟨tag, 1, order, force, vol, other, pos, len, data⟩))) ∧ Below w.heap.size w w' := by
  have hu24 := Tryd.underlying24
  have HA := Aside0.mk hA
  have HCAP := Aside0.mk hcap
  have HN := Aside0.mk hn
  clear hA hcap hn
  generalize hok : okC ⟨tag, 1, order, force, vol, other, pos, len, data⟩ = ok
  generalize hsm : sameC ⟨tag, 1, order, force, vol, other, pos, len, data⟩ (usedC ⟨tag, 1, order, force, vol, other, pos, len, data⟩) = sm
  have HOK := Lib.hid hok
  have HSM := Lib.hid hsm
  clear hok hsm
  go_enter Tryd.func18, Tryd.ntmps18
  go_wp2_with fail
  have hk1 := blk_new w (.cells #[.int .i64 tag, .int .i64 1, .int .i64 order, .bool force, .string vol, .string other, .int .i64 pos, .int .i64 len, .slice A data.length cap] 24)
  have hb1 := below_allocs w (.cells #[.int .i64 tag, .int .i64 1, .int .i64 order, .bool force, .string vol, .string other, .int .i64 pos, .int .i64 len, .slice A data.length cap] 24)
  generalize w.alloc (.cells #[.int .i64 tag, .int .i64 1, .int .i64 order, .bool force, .string vol, .string other, .int .i64 pos, .int .i64 len, .slice A data.length cap] 24) = w1 at hk1 hb1 ⊢
  have HK1 := Aside0.mk hk1
  have HB := Aside0.mk hb1
  clear hk1 hb1
  refine (only_any _ _ _ _ _ _ _ _ _ _ _ w1).mono ?_
  rintro e w2 ⟨rfl, hb⟩
  replace HK1 := Aside0.mk (blk_below HK1.out hb)
  replace HB := Aside0.mk (below_step HB.out hb)
  clear hb
  go_upto_region 4 with ((with_reducible refine gate_dst (N := 3) rfl ?_); refine box_event ?hg (N := 3) ?hd (cs := #[.int .i64 0, .int .i64 0, .int .i64 0, .bool false, .string ⟨#[]⟩, .string ⟨#[]⟩, .int .i64 0, .int .i64 0, .slice none 0 0]) (t := 24) ?hr ?_; (case hd => rfl); (case hg => rfl); (case hr => first | (go_simp; done) | (go_simp; rfl)); intro g2 hg w10 hbox hb; have n0_ := Aside0.mk (blk_below HK1.out hb); have n2_ := Aside0.mk (below_step HB.out hb); have G2 : Aside0 (w.heap.size ≤ g2) := ⟨by rw [hg]; exact below_size HB.out⟩; have NE : Aside0 (w.heap.size ≠ g2) := ⟨by have := blk_lt HK1.out; omega⟩; have BK := Aside0.mk hbox; clear HK1 HB hg hbox hb; have HK1 := n0_; have HB := n2_; clear n0_ n2_; obtain ⟨z0, z1, z2, z3, z4, z5, z6, z7, z8⟩ := cells24 BK.out; obtain ⟨f0, f1, f2, f3, f4, f5, f6, f7, f8⟩ := frozen24 BK.out)
  clear z0 z1 z2 z3 z4 z5 z6 z7 z8 f0 f1 f2 f3 f4 f5 f6 f7 f8
  have hk2 := put24 BK.out (.int .i64 tag) (.int .i64 1) (.int .i64 order) (.bool false) (.string ⟨#[]⟩) (.string ⟨#[]⟩) (.int .i64 0) (.int .i64 0) (.slice none 0 0)
  have hk1 := far24 HK1.out NE.out (.int .i64 tag) (.int .i64 1) (.int .i64 order) (.bool false) (.string ⟨#[]⟩) (.string ⟨#[]⟩) (.int .i64 0) (.int .i64 0) (.slice none 0 0)
  have hb := below24 HB.out G2.out (.int .i64 tag) (.int .i64 1) (.int .i64 order) (.bool false) (.string ⟨#[]⟩) (.string ⟨#[]⟩) (.int .i64 0) (.int .i64 0) (.slice none 0 0)
  generalize (((((((((w10.setCell ⟨g2, 0, none⟩ (.int .i64 tag)).setCell ⟨g2, 1, none⟩ (.int .i64 1)).setCell ⟨g2, 2, none⟩ (.int .i64 order)).setCell ⟨g2, 3, none⟩ (.bool false)).setCell ⟨g2, 4, none⟩ (.string ⟨#[]⟩)).setCell ⟨g2, 5, none⟩ (.string ⟨#[]⟩)).setCell ⟨g2, 6, none⟩ (.int .i64 0)).setCell ⟨g2, 7, none⟩ (.int .i64 0)).setCell ⟨g2, 8, none⟩ (.slice none 0 0)) = w11 at hk1 hk2 hb ⊢
  replace HK1 := Aside0.mk hk1
  have HK2 := Aside0.mk hk2
  replace HB := Aside0.mk hb
  clear hk1 hk2 hb BK
  obtain ⟨c0, c1, c2, c3, c4, c5, c6, c7, c8⟩ := cells24 HK1.out
  obtain ⟨d0, d1, d2, d3, d4, d5, d6, d7, d8⟩ := cells24 HK2.out
  obtain ⟨f0, f1, f2, f3, f4, f5, f6, f7, f8⟩ := frozen24 HK2.out
  go_upto_region 5 with (fail)
  clear c0 c1 c2 c3 c4 c5 c6 c7 c8 d0 d1 d2 d3 d4 d5 d6 d7 d8 f0 f1 f2 f3 f4 f5 f6 f7 f8
  have hk2 := (blk_put HK2.out 4 (.string vol) rfl)
  have hk1 := (blk_far HK1.out (p := ⟨g2, 4, none⟩) NE.out (.string vol))
  have hb : Below w.heap.size w ((w11).setCell ⟨g2, 4, none⟩ (.string vol)) := (below_set HB.out G2.out)
  generalize (w11).setCell ⟨g2, 4, none⟩ (.string vol) = w12 at hk1 hk2 hb ⊢
  replace HK1 := Aside0.mk hk1
  replace HK2 := Aside0.mk hk2
  replace HB := Aside0.mk hb
  clear hk1 hk2 hb
  have c4 := (blk_cell HK1.out 4).trans (show _ = some (Value.string vol) from rfl)
  go_wp2_with fail
  clear c4
  refine (name_any vol w12).mono ?_
  rintro e w13 ⟨rfl, hb⟩
  replace HK1 := Aside0.mk (blk_below HK1.out hb)
  replace HK2 := Aside0.mk (blk_below HK2.out hb)
  replace HB := Aside0.mk (below_step HB.out hb)
  clear hb
  obtain ⟨c0, c1, c2, c3, c4, c5, c6, c7, c8⟩ := cells24 HK1.out
  obtain ⟨d0, d1, d2, d3, d4, d5, d6, d7, d8⟩ := cells24 HK2.out
  obtain ⟨f0, f1, f2, f3, f4, f5, f6, f7, f8⟩ := frozen24 HK2.out
  go_wp2_with fail
  have HS0 : Aside0 (w13.cell? ⟨w.heap.size, 6, none⟩ = some (.int .i64 pos) ∧ w13.cell? ⟨w.heap.size, 7, none⟩ = some (.int .i64 len)) := ⟨⟨c6, c7⟩⟩
  have HSk : Aside0 (∀ (W : World) (f : Nat) (u : Value), (W.cell? ⟨w.heap.size, 6, none⟩ = some (.int .i64 pos) ∧ W.cell? ⟨w.heap.size, 7, none⟩ = some (.int .i64 len)) → (W.setCell ⟨g2, f, none⟩ u).cell? ⟨w.heap.size, 6, none⟩ = some (.int .i64 pos) ∧ (W.setCell ⟨g2, f, none⟩ u).cell? ⟨w.heap.size, 7, none⟩ = some (.int .i64 len)) := ⟨fun W f u ⟨h0, h1⟩ => ⟨(cell_far (a := ⟨w.heap.size, 6, none⟩) (p := ⟨g2, f, none⟩) NE.out u).trans h0, (cell_far (a := ⟨w.heap.size, 7, none⟩) (p := ⟨g2, f, none⟩) NE.out u).trans h1⟩⟩
  have HSd : Aside0 (∀ (W : World), (W.cell? ⟨w.heap.size, 6, none⟩ = some (.int .i64 pos) ∧ W.cell? ⟨w.heap.size, 7, none⟩ = some (.int .i64 len)) → W.drew.cell? ⟨w.heap.size, 6, none⟩ = some (.int .i64 pos) ∧ W.drew.cell? ⟨w.heap.size, 7, none⟩ = some (.int .i64 len)) := ⟨fun W h => h⟩
  go_region_held3 (fun W => W.cell? ⟨w.heap.size, 6, none⟩ = some (.int .i64 pos) ∧ W.cell? ⟨w.heap.size, 7, none⟩ = some (.int .i64 len)) (first | (with_reducible exact HSd.out _ HS0.out) | (with_reducible exact HS0.out) | (with_reducible exact HSd.out _ (HSk.out _ _ _ HS0.out)) | (with_reducible exact (HSk.out _ _ _ HS0.out)) | (with_reducible exact HSd.out _ (HSk.out _ _ _ (HSk.out _ _ _ HS0.out))) | (with_reducible exact (HSk.out _ _ _ (HSk.out _ _ _ HS0.out))) | go_keep) (first | fail)
  clear HS0 HSk HSd
  clear c0 c1 c2 c3 c4 c5 c6 c7 c8 d0 d1 d2 d3 d4 d5 d6 d7 d8 f0 f1 f2 f3 f4 f5 f6 f7 f8
  have hk2 := (blk_drew (blk_put (blk_put HK2.out 6 (.int .i64 pos) rfl) 7 (.int .i64 len) rfl))
  have hk1 := (blk_drew (blk_far (blk_far HK1.out (p := ⟨g2, 6, none⟩) NE.out (.int .i64 pos)) (p := ⟨g2, 7, none⟩) NE.out (.int .i64 len)))
  have hb : Below w.heap.size w ((((w13).setCell ⟨g2, 6, none⟩ (.int .i64 pos)).setCell ⟨g2, 7, none⟩ (.int .i64 len)).drew) := (below_drew1 (below_set (below_set HB.out G2.out) G2.out))
  generalize (((w13).setCell ⟨g2, 6, none⟩ (.int .i64 pos)).setCell ⟨g2, 7, none⟩ (.int .i64 len)).drew = w14 at hk1 hk2 hb ⊢
  replace HK1 := Aside0.mk hk1
  replace HK2 := Aside0.mk hk2
  replace HB := Aside0.mk hb
  clear hk1 hk2 hb
  obtain ⟨c0, c1, c2, c3, c4, c5, c6, c7, c8⟩ := cells24 HK1.out
  obtain ⟨d0, d1, d2, d3, d4, d5, d6, d7, d8⟩ := cells24 HK2.out
  obtain ⟨f0, f1, f2, f3, f4, f5, f6, f7, f8⟩ := frozen24 HK2.out
  cases hnm : nameB vol
  · have HNM := Lib.hid hnm
    clear hnm
    have eok : ok = false := by rw [← HOK.out]; unfold okC; simp [HNM.out]
    have EOK := Lib.hid eok
    clear eok
    go_wp2
    go_ret
    exact ⟨by rw [EOK.out]; rfl, HB.out⟩
  · have HNM := Lib.hid hnm
    clear hnm
    go_wp2_with fail
    refine (inside_any pos len _).mono ?_
    rintro e w' ⟨rfl, rfl⟩
    cases hin : insideB pos len
    · have HIN := Lib.hid hin
      clear hin
      have eok : ok = false := by rw [← HOK.out]; unfold okC; simp [HNM.out, HIN.out]
      have EOK := Lib.hid eok
      clear eok
      go_wp2
      go_ret
      exact ⟨by rw [EOK.out]; rfl, HB.out⟩
    · have HIN := Lib.hid hin
      clear hin
      by_cases h16 : len ≤ 16
      · have h160 : decide (len ≤ 16) = true := decide_eq_true h16
        have H16 := Aside0.mk h16
        clear h16
        have eok : ok = true := by rw [← HOK.out]; unfold okC; simp [HNM.out, HIN.out, H16.out]
        have EOK := Lib.hid eok
        clear eok
        go_wp2_with fail
        have c := same_any ⟨tag, 1, order, force, vol, other, pos, len, data⟩ ⟨tag, 1, order, false, vol, ⟨#[]⟩, pos, len, []⟩ _ A none cap 0 (Kd.C_below HA.out HB.out) HCAP.out (Kd.C_nil _ _) (Nat.le_refl _) (Nat.le_trans HN.out (by decide))
        rw [show sameC ⟨tag, 1, order, force, vol, other, pos, len, data⟩ ⟨tag, 1, order, false, vol, ⟨#[]⟩, pos, len, []⟩ = sm from HSM.out] at c
        refine c.mono ?_
        clear c
        rintro e w' ⟨rfl, hb⟩
        replace HB := Aside0.mk (below_step HB.out hb)
        clear hb
        go_wp2
        go_ret
        exact ⟨by rw [EOK.out]; rfl, HB.out⟩
      · have h160 : decide (len ≤ 16) = false := decide_eq_false h16
        have H16 := Aside0.mk h16
        clear h16
        have eok : ok = false := by rw [← HOK.out]; unfold okC; simp [HNM.out, HIN.out, H16.out]
        have EOK := Lib.hid eok
        clear eok
        go_wp2
        go_ret
        exact ⟨by rw [EOK.out]; rfl, HB.out⟩
end Go.Proofs.YthbnghdobmghlaaDoor.ST
