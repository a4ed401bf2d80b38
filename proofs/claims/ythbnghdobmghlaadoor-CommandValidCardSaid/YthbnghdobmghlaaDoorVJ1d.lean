import Derived.Test.YthbnghdobmghlaaDoorVJ1a
namespace Go.Proofs.YthbnghdobmghlaaDoor.ST
open Go.RowKit Go.Proofs.YthbnghdobmghlaaDoorW.PrintWords Go.Proofs.YthbnghdobmghlaaDoorW.PrintLast Go.Proofs.YthbnghdobmghlaaDoorW.PrintMore Go.Proofs.YthbnghdobmghlaaDoor.PC
set_option linter.unusedVariables false
set_option linter.unusedSimpArgs false
set_option maxHeartbeats 8000000 in
set_option maxRecDepth 100000 in
theorem valid_4_a (tag order : Int) (force : Bool) (vol other : ByteArray) (pos len : Int) (data : List S35) (w : World) (A : Option Addr) (cap : Nat) (hA : Kd.C k35 w A data.length data) (hcap : data.length ≤ cap) (hn : data.length ≤ 140737488355328) (t0 : decide (tag < 0) = false) (t1 : decide (2147483647 < tag) = false) (t2 : (order != 0) = false) :
    Calls Tryd.prog 18 #[.agg #[.int .i64 tag, .int .i64 4, .int .i64 order, .bool force, .string vol, .string other, .int .i64 pos, .int .i64 len, .slice A data.length cap]] w fun e w' => e = .returned (.bool (okC ⟨tag, 4, order, force, vol, other, pos, len, data⟩ && sameC ⟨tag, 4, order, force, vol, other, pos, len, data⟩ (usedC ⟨tag, 4, order, force, vol, other, pos, len, data⟩))) ∧ Below w.heap.size w w' := by
  have hu24 := Tryd.underlying24
  have HA := Aside0.mk hA
  have HCAP := Aside0.mk hcap
  have HN := Aside0.mk hn
  clear hA hcap hn
  generalize hok : okC ⟨tag, 4, order, force, vol, other, pos, len, data⟩ = ok
  generalize hsm : sameC ⟨tag, 4, order, force, vol, other, pos, len, data⟩ (usedC ⟨tag, 4, order, force, vol, other, pos, len, data⟩) = sm
  have HOK := Lib.hid hok
  have HSM := Lib.hid hsm
  clear hok hsm
  go_enter Tryd.func18, Tryd.ntmps18
  go_wp2_with fail
  have hk1 := blk_new w (.cells #[.int .i64 tag, .int .i64 4, .int .i64 order, .bool force, .string vol, .string other, .int .i64 pos, .int .i64 len, .slice A data.length cap] 24)
  have hb1 := below_allocs w (.cells #[.int .i64 tag, .int .i64 4, .int .i64 order, .bool force, .string vol, .string other, .int .i64 pos, .int .i64 len, .slice A data.length cap] 24)
  generalize w.alloc (.cells #[.int .i64 tag, .int .i64 4, .int .i64 order, .bool force, .string vol, .string other, .int .i64 pos, .int .i64 len, .slice A data.length cap] 24) = w1 at hk1 hb1 ⊢
  have HK1 := Aside0.mk hk1
  have HB := Aside0.mk hb1
  clear hk1 hb1
  refine (only_any _ _ _ _ _ _ _ _ _ _ _ w1).mono ?_
  rintro e w2 ⟨rfl, hb⟩
  replace HK1 := Aside0.mk (blk_below HK1.out hb)
  replace HB := Aside0.mk (below_step HB.out hb)
  clear hb
  go_upto_region 4 with ((with_reducible refine gate_dst (N := 3) rfl ?_); refine box_event ?hg (N := 3) ?hd (cs := #[.int .i64 0, .int .i64 0, .int .i64 0, .bool false, .string ⟨#[]⟩, .string ⟨#[]⟩, .int .i64 0, .int .i64 0, .slice none 0 0]) (t := 24) ?hr ?_; (case hd => rfl); (case hg => rfl); (case hr => first | (go_simp; done) | (go_simp; rfl)); intro g2 hg w10 hbox hb; have n0_ := Aside0.mk (blk_below HK1.out hb); have n2_ := Aside0.mk (below_step HB.out hb); have G2 : Aside0 (w.heap.size ≤ g2) := ⟨by rw [hg]; exact below_size HB.out⟩; have NE : Aside0 (w.heap.size ≠ g2) := ⟨by have := blk_lt HK1.out; omega⟩; have BK := Aside0.mk hbox; clear HK1 HB hg hbox hb; have HK1 := n0_; have HB := n2_; clear n0_ n2_; obtain ⟨z0, z1, z2, z3, z4, z5, z6, z7, z8⟩ := cells24 BK.out; obtain ⟨f0, f1, f2, f3, f4, f5, f6, f7, f8⟩ := frozen24 BK.out)
  clear z0 z1 z2 z3 z4 z5 z6 z7 z8 f0 f1 f2 f3 f4 f5 f6 f7 f8
  have hk2 := put24 BK.out (.int .i64 tag) (.int .i64 4) (.int .i64 order) (.bool false) (.string ⟨#[]⟩) (.string ⟨#[]⟩) (.int .i64 0) (.int .i64 0) (.slice none 0 0)
  have hk1 := far24 HK1.out NE.out (.int .i64 tag) (.int .i64 4) (.int .i64 order) (.bool false) (.string ⟨#[]⟩) (.string ⟨#[]⟩) (.int .i64 0) (.int .i64 0) (.slice none 0 0)
  have hb := below24 HB.out G2.out (.int .i64 tag) (.int .i64 4) (.int .i64 order) (.bool false) (.string ⟨#[]⟩) (.string ⟨#[]⟩) (.int .i64 0) (.int .i64 0) (.slice none 0 0)
  generalize (((((((((w10.setCell ⟨g2, 0, none⟩ (.int .i64 tag)).setCell ⟨g2, 1, none⟩ (.int .i64 4)).setCell ⟨g2, 2, none⟩ (.int .i64 order)).setCell ⟨g2, 3, none⟩ (.bool false)).setCell ⟨g2, 4, none⟩ (.string ⟨#[]⟩)).setCell ⟨g2, 5, none⟩ (.string ⟨#[]⟩)).setCell ⟨g2, 6, none⟩ (.int .i64 0)).setCell ⟨g2, 7, none⟩ (.int .i64 0)).setCell ⟨g2, 8, none⟩ (.slice none 0 0)) = w11 at hk1 hk2 hb ⊢
  replace HK1 := Aside0.mk hk1
  have HK2 := Aside0.mk hk2
  replace HB := Aside0.mk hb
  clear hk1 hk2 hb BK
  obtain ⟨c0, c1, c2, c3, c4, c5, c6, c7, c8⟩ := cells24 HK1.out
  obtain ⟨d0, d1, d2, d3, d4, d5, d6, d7, d8⟩ := cells24 HK2.out
  obtain ⟨f0, f1, f2, f3, f4, f5, f6, f7, f8⟩ := frozen24 HK2.out
  go_upto_region 5 with (fail)
  clear c0 c1 c2 c3 c4 c5 c6 c7 c8 d0 d1 d2 d3 d4 d5 d6 d7 d8 f0 f1 f2 f3 f4 f5 f6 f7 f8
  have hk2 := (blk_put HK2.out 4 (.string vol) rfl)
  have hk1 := (blk_far HK1.out (p := ⟨g2, 4, none⟩) NE.out (.string vol))
  have hb : Below w.heap.size w ((w11).setCell ⟨g2, 4, none⟩ (.string vol)) := (below_set HB.out G2.out)
  generalize (w11).setCell ⟨g2, 4, none⟩ (.string vol) = w12 at hk1 hk2 hb ⊢
  replace HK1 := Aside0.mk hk1
  replace HK2 := Aside0.mk hk2
  replace HB := Aside0.mk hb
  clear hk1 hk2 hb
  have c4 := (blk_cell HK1.out 4).trans (show _ = some (Value.string vol) from rfl)
  go_wp2_with fail
  clear c4
  refine (name_any vol w12).mono ?_
  rintro e w13 ⟨rfl, hb⟩
  replace HK1 := Aside0.mk (blk_below HK1.out hb)
  replace HK2 := Aside0.mk (blk_below HK2.out hb)
  replace HB := Aside0.mk (below_step HB.out hb)
  clear hb
  obtain ⟨c0, c1, c2, c3, c4, c5, c6, c7, c8⟩ := cells24 HK1.out
  obtain ⟨d0, d1, d2, d3, d4, d5, d6, d7, d8⟩ := cells24 HK2.out
  obtain ⟨f0, f1, f2, f3, f4, f5, f6, f7, f8⟩ := frozen24 HK2.out
  cases hve : vol.toList.isEmpty
  · have eok : ok = false := by rw [← HOK.out]; unfold okC; simp [hve]
    have EOK := Lib.hid eok
    clear eok
    go_wp2
    go_ret
    exact ⟨by rw [EOK.out]; rfl, HB.out⟩
  · have eok : ok = true := by rw [← HOK.out]; unfold okC; simp [hve]
    have EOK := Lib.hid eok
    clear eok
    go_wp2_with fail
    have c := same_any ⟨tag, 4, order, force, vol, other, pos, len, data⟩ ⟨tag, 4, order, false, vol, ⟨#[]⟩, 0, 0, []⟩ _ A none cap 0 (Kd.C_below HA.out HB.out) HCAP.out (Kd.C_nil _ _) (Nat.le_refl _) (Nat.le_trans HN.out (by decide))
    rw [show sameC ⟨tag, 4, order, force, vol, other, pos, len, data⟩ ⟨tag, 4, order, false, vol, ⟨#[]⟩, 0, 0, []⟩ = sm from HSM.out] at c
    refine c.mono ?_
    clear c
    rintro e w' ⟨rfl, hb⟩
    replace HB := Aside0.mk (below_step HB.out hb)
    clear hb
    go_wp2
    go_ret
    exact ⟨by rw [EOK.out]; rfl, HB.out⟩
set_option maxHeartbeats 8000000 in
set_option maxRecDepth 100000 in
theorem valid_4_b (tag order : Int) (force : Bool) (vol other : ByteArray) (pos len : Int) (data : List S35) (w : World) (A : Option Addr) (cap : Nat) (hA : Kd.C k35 w A data.length data) (hcap : data.length ≤ cap) (hn : data.length ≤ 140737488355328) (t0 : decide (tag < 0) = false) (t1 : decide (2147483647 < tag) = false) (t2 : (order != 0) = true) (t3 : (order != 1) = false) :
    Calls Tryd.prog 18 #[.agg #[.int .i64 tag, .int .i64 4, .int .i64 order, .bool force, .string vol, .string other, .int .i64 pos, .int .i64 len, .slice A data.length cap]] w fun e w' => e = .returned (.bool (okC ⟨tag, 4, order, force, vol, other, pos, len, data⟩ && sameC ⟨tag, 4, order, force, vol, other, pos, len, data⟩ (usedC ⟨tag, 4, order, force, vol, other, pos, len, data⟩))) ∧ Below w.heap.size w w' := by
  have hu24 := Tryd.underlying24
  have HA := Aside0.mk hA
  have HCAP := Aside0.mk hcap
  have HN := Aside0.mk hn
  clear hA hcap hn
  generalize hok : okC ⟨tag, 4, order, force, vol, other, pos, len, data⟩ = ok
  generalize hsm : sameC ⟨tag, 4, order, force, vol, other, pos, len, data⟩ (usedC ⟨tag, 4, order, force, vol, other, pos, len, data⟩) = sm
  have HOK := Lib.hid hok
  have HSM := Lib.hid hsm
  clear hok hsm
  go_enter Tryd.func18, Tryd.ntmps18
  go_wp2_with fail
  have hk1 := blk_new w (.cells #[.int .i64 tag, .int .i64 4, .int .i64 order, .bool force, .string vol, .string other, .int .i64 pos, .int .i64 len, .slice A data.length cap] 24)
  have hb1 := below_allocs w (.cells #[.int .i64 tag, .int .i64 4, .int .i64 order, .bool force, .string vol, .string other, .int .i64 pos, .int .i64 len, .slice A data.length cap] 24)
  generalize w.alloc (.cells #[.int .i64 tag, .int .i64 4, .int .i64 order, .bool force, .string vol, .string other, .int .i64 pos, .int .i64 len, .slice A data.length cap] 24) = w1 at hk1 hb1 ⊢
  have HK1 := Aside0.mk hk1
  have HB := Aside0.mk hb1
  clear hk1 hb1
  refine (only_any _ _ _ _ _ _ _ _ _ _ _ w1).mono ?_
  rintro e w2 ⟨rfl, hb⟩
  replace HK1 := Aside0.mk (blk_below HK1.out hb)
  replace HB := Aside0.mk (below_step HB.out hb)
  clear hb
  go_upto_region 4 with ((with_reducible refine gate_dst (N := 3) rfl ?_); refine box_event ?hg (N := 3) ?hd (cs := #[.int .i64 0, .int .i64 0, .int .i64 0, .bool false, .string ⟨#[]⟩, .string ⟨#[]⟩, .int .i64 0, .int .i64 0, .slice none 0 0]) (t := 24) ?hr ?_; (case hd => rfl); (case hg => rfl); (case hr => first | (go_simp; done) | (go_simp; rfl)); intro g2 hg w10 hbox hb; have n0_ := Aside0.mk (blk_below HK1.out hb); have n2_ := Aside0.mk (below_step HB.out hb); have G2 : Aside0 (w.heap.size ≤ g2) := ⟨by rw [hg]; exact below_size HB.out⟩; have NE : Aside0 (w.heap.size ≠ g2) := ⟨by have := blk_lt HK1.out; omega⟩; have BK := Aside0.mk hbox; clear HK1 HB hg hbox hb; have HK1 := n0_; have HB := n2_; clear n0_ n2_; obtain ⟨z0, z1, z2, z3, z4, z5, z6, z7, z8⟩ := cells24 BK.out; obtain ⟨f0, f1, f2, f3, f4, f5, f6, f7, f8⟩ := frozen24 BK.out)
  clear z0 z1 z2 z3 z4 z5 z6 z7 z8 f0 f1 f2 f3 f4 f5 f6 f7 f8
  have hk2 := put24 BK.out (.int .i64 tag) (.int .i64 4) (.int .i64 order) (.bool false) (.string ⟨#[]⟩) (.string ⟨#[]⟩) (.int .i64 0) (.int .i64 0) (.slice none 0 0)
  have hk1 := far24 HK1.out NE.out (.int .i64 tag) (.int .i64 4) (.int .i64 order) (.bool false) (.string ⟨#[]⟩) (.string ⟨#[]⟩) (.int .i64 0) (.int .i64 0) (.slice none 0 0)
  have hb := below24 HB.out G2.out (.int .i64 tag) (.int .i64 4) (.int .i64 order) (.bool false) (.string ⟨#[]⟩) (.string ⟨#[]⟩) (.int .i64 0) (.int .i64 0) (.slice none 0 0)
  generalize (((((((((w10.setCell ⟨g2, 0, none⟩ (.int .i64 tag)).setCell ⟨g2, 1, none⟩ (.int .i64 4)).setCell ⟨g2, 2, none⟩ (.int .i64 order)).setCell ⟨g2, 3, none⟩ (.bool false)).setCell ⟨g2, 4, none⟩ (.string ⟨#[]⟩)).setCell ⟨g2, 5, none⟩ (.string ⟨#[]⟩)).setCell ⟨g2, 6, none⟩ (.int .i64 0)).setCell ⟨g2, 7, none⟩ (.int .i64 0)).setCell ⟨g2, 8, none⟩ (.slice none 0 0)) = w11 at hk1 hk2 hb ⊢
  replace HK1 := Aside0.mk hk1
  have HK2 := Aside0.mk hk2
  replace HB := Aside0.mk hb
  clear hk1 hk2 hb BK
  obtain ⟨c0, c1, c2, c3, c4, c5, c6, c7, c8⟩ := cells24 HK1.out
  obtain ⟨d0, d1, d2, d3, d4, d5, d6, d7, d8⟩ := cells24 HK2.out
  obtain ⟨f0, f1, f2, f3, f4, f5, f6, f7, f8⟩ := frozen24 HK2.out
  go_upto_region 5 with (fail)
  clear c0 c1 c2 c3 c4 c5 c6 c7 c8 d0 d1 d2 d3 d4 d5 d6 d7 d8 f0 f1 f2 f3 f4 f5 f6 f7 f8
  have hk2 := (blk_put HK2.out 4 (.string vol) rfl)
  have hk1 := (blk_far HK1.out (p := ⟨g2, 4, none⟩) NE.out (.string vol))
  have hb : Below w.heap.size w ((w11).setCell ⟨g2, 4, none⟩ (.string vol)) := (below_set HB.out G2.out)
  generalize (w11).setCell ⟨g2, 4, none⟩ (.string vol) = w12 at hk1 hk2 hb ⊢
  replace HK1 := Aside0.mk hk1
  replace HK2 := Aside0.mk hk2
  replace HB := Aside0.mk hb
  clear hk1 hk2 hb
  have c4 := (blk_cell HK1.out 4).trans (show _ = some (Value.string vol) from rfl)
  go_wp2_with fail
  clear c4
  refine (name_any vol w12).mono ?_
  rintro e w13 ⟨rfl, hb⟩
  replace HK1 := Aside0.mk (blk_below HK1.out hb)
  replace HK2 := Aside0.mk (blk_below HK2.out hb)
  replace HB := Aside0.mk (below_step HB.out hb)
  clear hb
  obtain ⟨c0, c1, c2, c3, c4, c5, c6, c7, c8⟩ := cells24 HK1.out
  obtain ⟨d0, d1, d2, d3, d4, d5, d6, d7, d8⟩ := cells24 HK2.out
  obtain ⟨f0, f1, f2, f3, f4, f5, f6, f7, f8⟩ := frozen24 HK2.out
  cases hve : vol.toList.isEmpty
  · have eok : ok = false := by rw [← HOK.out]; unfold okC; simp [hve]
    have EOK := Lib.hid eok
    clear eok
    go_wp2
    go_ret
    exact ⟨by rw [EOK.out]; rfl, HB.out⟩
  · have eok : ok = true := by rw [← HOK.out]; unfold okC; simp [hve]
    have EOK := Lib.hid eok
    clear eok
    go_wp2_with fail
    have c := same_any ⟨tag, 4, order, force, vol, other, pos, len, data⟩ ⟨tag, 4, order, false, vol, ⟨#[]⟩, 0, 0, []⟩ _ A none cap 0 (Kd.C_below HA.out HB.out) HCAP.out (Kd.C_nil _ _) (Nat.le_refl _) (Nat.le_trans HN.out (by decide))
    rw [show sameC ⟨tag, 4, order, force, vol, other, pos, len, data⟩ ⟨tag, 4, order, false, vol, ⟨#[]⟩, 0, 0, []⟩ = sm from HSM.out] at c
    refine c.mono ?_
    clear c
    rintro e w' ⟨rfl, hb⟩
    replace HB := Aside0.mk (below_step HB.out hb)
    clear hb
    go_wp2
    go_ret
    exact ⟨by rw [EOK.out]; rfl, HB.out⟩
set_option maxHeartbeats 8000000 in
set_option maxRecDepth 100000 in
theorem valid_6_a (tag order : Int) (force : Bool) (vol other : ByteArray) (pos len : Int) (data : List S35) (w : World) (A : Option Addr) (cap : Nat) (hA : Kd.C k35 w A data.length data) (hcap : data.length ≤ cap) (hn : data.length ≤ 140737488355328) (t0 : decide (tag < 0) = false) (t1 : decide (2147483647 < tag) = false) (t2 : (order != 0) = false) :
    Calls Tryd.prog 18 #[.agg #[.int .i64 tag, .int .i64 6, .int .i64 order, .bool force, .string vol, .string other, .int .i64 pos, .int .i64 len, .slice A data.length cap]] w fun e w' => e = .returned (.bool (okC ⟨tag, 6, order, force, vol, other, pos, len, data⟩ && sameC ⟨tag, 6, order, force, vol, other, pos, len, data⟩ (usedC ⟨tag, 6, order, force, vol, other, pos, len, data⟩))) ∧ Below w.heap.size w w' := by
  have hu24 := Tryd.underlying24
  have HA := Aside0.mk hA
  have HCAP := Aside0.mk hcap
  have HN := Aside0.mk hn
  clear hA hcap hn
  generalize hok : okC ⟨tag, 6, order, force, vol, other, pos, len, data⟩ = ok
  generalize hsm : sameC ⟨tag, 6, order, force, vol, other, pos, len, data⟩ (usedC ⟨tag, 6, order, force, vol, other, pos, len, data⟩) = sm
  have HOK := Lib.hid hok
  have HSM := Lib.hid hsm
  clear hok hsm
  go_enter Tryd.func18, Tryd.ntmps18
  go_wp2_with fail
  have hk1 := blk_new w (.cells #[.int .i64 tag, .int .i64 6, .int .i64 order, .bool force, .string vol, .string other, .int .i64 pos, .int .i64 len, .slice A data.length cap] 24)
  have hb1 := below_allocs w (.cells #[.int .i64 tag, .int .i64 6, .int .i64 order, .bool force, .string vol, .string other, .int .i64 pos, .int .i64 len, .slice A data.length cap] 24)
  generalize w.alloc (.cells #[.int .i64 tag, .int .i64 6, .int .i64 order, .bool force, .string vol, .string other, .int .i64 pos, .int .i64 len, .slice A data.length cap] 24) = w1 at hk1 hb1 ⊢
  have HK1 := Aside0.mk hk1
  have HB := Aside0.mk hb1
  clear hk1 hb1
  refine (only_any _ _ _ _ _ _ _ _ _ _ _ w1).mono ?_
  rintro e w2 ⟨rfl, hb⟩
  replace HK1 := Aside0.mk (blk_below HK1.out hb)
  replace HB := Aside0.mk (below_step HB.out hb)
  clear hb
  go_upto_region 4 with ((with_reducible refine gate_dst (N := 3) rfl ?_); refine box_event ?hg (N := 3) ?hd (cs := #[.int .i64 0, .int .i64 0, .int .i64 0, .bool false, .string ⟨#[]⟩, .string ⟨#[]⟩, .int .i64 0, .int .i64 0, .slice none 0 0]) (t := 24) ?hr ?_; (case hd => rfl); (case hg => rfl); (case hr => first | (go_simp; done) | (go_simp; rfl)); intro g2 hg w10 hbox hb; have n0_ := Aside0.mk (blk_below HK1.out hb); have n2_ := Aside0.mk (below_step HB.out hb); have G2 : Aside0 (w.heap.size ≤ g2) := ⟨by rw [hg]; exact below_size HB.out⟩; have NE : Aside0 (w.heap.size ≠ g2) := ⟨by have := blk_lt HK1.out; omega⟩; have BK := Aside0.mk hbox; clear HK1 HB hg hbox hb; have HK1 := n0_; have HB := n2_; clear n0_ n2_; obtain ⟨z0, z1, z2, z3, z4, z5, z6, z7, z8⟩ := cells24 BK.out; obtain ⟨f0, f1, f2, f3, f4, f5, f6, f7, f8⟩ := frozen24 BK.out)
  clear z0 z1 z2 z3 z4 z5 z6 z7 z8 f0 f1 f2 f3 f4 f5 f6 f7 f8
  have hk2 := put24 BK.out (.int .i64 tag) (.int .i64 6) (.int .i64 order) (.bool false) (.string ⟨#[]⟩) (.string ⟨#[]⟩) (.int .i64 0) (.int .i64 0) (.slice none 0 0)
  have hk1 := far24 HK1.out NE.out (.int .i64 tag) (.int .i64 6) (.int .i64 order) (.bool false) (.string ⟨#[]⟩) (.string ⟨#[]⟩) (.int .i64 0) (.int .i64 0) (.slice none 0 0)
  have hb := below24 HB.out G2.out (.int .i64 tag) (.int .i64 6) (.int .i64 order) (.bool false) (.string ⟨#[]⟩) (.string ⟨#[]⟩) (.int .i64 0) (.int .i64 0) (.slice none 0 0)
  generalize (((((((((w10.setCell ⟨g2, 0, none⟩ (.int .i64 tag)).setCell ⟨g2, 1, none⟩ (.int .i64 6)).setCell ⟨g2, 2, none⟩ (.int .i64 order)).setCell ⟨g2, 3, none⟩ (.bool false)).setCell ⟨g2, 4, none⟩ (.string ⟨#[]⟩)).setCell ⟨g2, 5, none⟩ (.string ⟨#[]⟩)).setCell ⟨g2, 6, none⟩ (.int .i64 0)).setCell ⟨g2, 7, none⟩ (.int .i64 0)).setCell ⟨g2, 8, none⟩ (.slice none 0 0)) = w11 at hk1 hk2 hb ⊢
  replace HK1 := Aside0.mk hk1
  have HK2 := Aside0.mk hk2
  replace HB := Aside0.mk hb
  clear hk1 hk2 hb BK
  obtain ⟨c0, c1, c2, c3, c4, c5, c6, c7, c8⟩ := cells24 HK1.out
  obtain ⟨d0, d1, d2, d3, d4, d5, d6, d7, d8⟩ := cells24 HK2.out
  obtain ⟨f0, f1, f2, f3, f4, f5, f6, f7, f8⟩ := frozen24 HK2.out
  go_upto_region 5 with (fail)
  clear c0 c1 c2 c3 c4 c5 c6 c7 c8 d0 d1 d2 d3 d4 d5 d6 d7 d8 f0 f1 f2 f3 f4 f5 f6 f7 f8
  have hk2 := (blk_put HK2.out 4 (.string vol) rfl)
  have hk1 := (blk_far HK1.out (p := ⟨g2, 4, none⟩) NE.out (.string vol))
  have hb : Below w.heap.size w ((w11).setCell ⟨g2, 4, none⟩ (.string vol)) := (below_set HB.out G2.out)
  generalize (w11).setCell ⟨g2, 4, none⟩ (.string vol) = w12 at hk1 hk2 hb ⊢
  replace HK1 := Aside0.mk hk1
  replace HK2 := Aside0.mk hk2
  replace HB := Aside0.mk hb
  clear hk1 hk2 hb
  have c4 := (blk_cell HK1.out 4).trans (show _ = some (Value.string vol) from rfl)
  go_wp2_with fail
  clear c4
  refine (name_any vol w12).mono ?_
  rintro e w13 ⟨rfl, hb⟩
  replace HK1 := Aside0.mk (blk_below HK1.out hb)
  replace HK2 := Aside0.mk (blk_below HK2.out hb)
  replace HB := Aside0.mk (below_step HB.out hb)
  clear hb
  obtain ⟨c0, c1, c2, c3, c4, c5, c6, c7, c8⟩ := cells24 HK1.out
  obtain ⟨d0, d1, d2, d3, d4, d5, d6, d7, d8⟩ := cells24 HK2.out
  obtain ⟨f0, f1, f2, f3, f4, f5, f6, f7, f8⟩ := frozen24 HK2.out
  go_upto_region 24 with (fail)
  clear c0 c1 c2 c3 c4 c5 c6 c7 c8 d0 d1 d2 d3 d4 d5 d6 d7 d8 f0 f1 f2 f3 f4 f5 f6 f7 f8
  have hk2 := (blk_put HK2.out 5 (.string other) rfl)
  have hk1 := (blk_far HK1.out (p := ⟨g2, 5, none⟩) NE.out (.string other))
  have hb : Below w.heap.size w ((w13).setCell ⟨g2, 5, none⟩ (.string other)) := (below_set HB.out G2.out)
  generalize (w13).setCell ⟨g2, 5, none⟩ (.string other) = w14 at hk1 hk2 hb ⊢
  replace HK1 := Aside0.mk hk1
  replace HK2 := Aside0.mk hk2
  replace HB := Aside0.mk hb
  clear hk1 hk2 hb
  obtain ⟨c0, c1, c2, c3, c4, c5, c6, c7, c8⟩ := cells24 HK1.out
  obtain ⟨d0, d1, d2, d3, d4, d5, d6, d7, d8⟩ := cells24 HK2.out
  obtain ⟨f0, f1, f2, f3, f4, f5, f6, f7, f8⟩ := frozen24 HK2.out
  cases hnm : nameB vol
  · have HNM := Lib.hid hnm
    clear hnm
    have eok : ok = false := by rw [← HOK.out]; unfold okC; simp [HNM.out]
    have EOK := Lib.hid eok
    clear eok
    go_wp2
    go_ret
    exact ⟨by rw [EOK.out]; rfl, HB.out⟩
  · have HNM := Lib.hid hnm
    clear hnm
    go_wp2_with fail
    refine (name_any other _).mono ?_
    rintro e w15 ⟨rfl, hb⟩
    replace HK1 := Aside0.mk (blk_below HK1.out hb)
    replace HK2 := Aside0.mk (blk_below HK2.out hb)
    replace HB := Aside0.mk (below_step HB.out hb)
    clear hb
    clear c0 c1 c2 c3 c4 c5 c6 c7 c8 d0 d1 d2 d3 d4 d5 d6 d7 d8 f0 f1 f2 f3 f4 f5 f6 f7 f8
    obtain ⟨c0, c1, c2, c3, c4, c5, c6, c7, c8⟩ := cells24 HK1.out
    obtain ⟨d0, d1, d2, d3, d4, d5, d6, d7, d8⟩ := cells24 HK2.out
    obtain ⟨f0, f1, f2, f3, f4, f5, f6, f7, f8⟩ := frozen24 HK2.out
    cases hno : nameB other
    · have HNO := Lib.hid hno
      clear hno
      have eok : ok = false := by rw [← HOK.out]; unfold okC; simp [HNM.out, HNO.out]
      have EOK := Lib.hid eok
      clear eok
      go_wp2
      go_ret
      exact ⟨by rw [EOK.out]; rfl, HB.out⟩
    · have HNO := Lib.hid hno
      clear hno
      by_cases hov : other.toList = vol.toList
      · have hov0 : (other.toList == vol.toList) = true := beq_iff_eq.2 hov
        have hov1 : (other.toList != vol.toList) = false := by rw [hov]; simp
        have HOV := Aside0.mk hov
        clear hov
        have eok : ok = false := by rw [← HOK.out]; unfold okC; simp [HNM.out, HNO.out, HOV.out]
        have EOK := Lib.hid eok
        clear eok
        go_wp2
        go_ret
        exact ⟨by rw [EOK.out]; rfl, HB.out⟩
      · have hov0 : (other.toList == vol.toList) = false := beq_eq_false_iff_ne.2 hov
        have hov1 : (other.toList != vol.toList) = true := by simp [hov]
        have HOV := Aside0.mk hov
        clear hov
        have eok : ok = true := by rw [← HOK.out]; unfold okC; simp [HNM.out, HNO.out, HOV.out]
        have EOK := Lib.hid eok
        clear eok
        go_wp2_with fail
        have c := same_any ⟨tag, 6, order, force, vol, other, pos, len, data⟩ ⟨tag, 6, order, false, vol, other, 0, 0, []⟩ _ A none cap 0 (Kd.C_below HA.out HB.out) HCAP.out (Kd.C_nil _ _) (Nat.le_refl _) (Nat.le_trans HN.out (by decide))
        rw [show sameC ⟨tag, 6, order, force, vol, other, pos, len, data⟩ ⟨tag, 6, order, false, vol, other, 0, 0, []⟩ = sm from HSM.out] at c
        refine c.mono ?_
        clear c
        rintro e w' ⟨rfl, hb⟩
        replace HB := Aside0.mk (below_step HB.out hb)
        clear hb
        go_wp2
        go_ret
        exact ⟨by rw [EOK.out]; rfl, HB.out⟩
set_option maxHeartbeats 8000000 in
set_option maxRecDepth 100000 in
theorem valid_6_b (tag order : Int) (force : Bool) (vol other : ByteArray) (pos len : Int) (data : List S35) (w : World) (A : Option Addr) (cap : Nat) (hA : Kd.C k35 w A data.length data) (hcap : data.length ≤ cap) (hn : data.length ≤ 140737488355328) (t0 : decide (tag < 0) = false) (t1 : decide (2147483647 < tag) = false) (t2 : (order != 0) = true) (t3 : (order != 1) = false) :
    Calls Tryd.prog 18 #[.agg #[.int .i64 tag, .int .i64 6, .int .i64 order, .bool force, .string vol, .string other, .int .i64 pos, .int .i64 len, .slice A data.length cap]] w fun e w' => e = .returned (.bool (okC ⟨tag, 6, order, force, vol, other, pos, len, data⟩ && sameC ⟨tag, 6, order, force, vol, other, pos, len, data⟩ (usedC ⟨tag, 6, order, force, vol, other, pos, len, data⟩))) ∧ Below w.heap.size w w' := by
  have hu24 := Tryd.underlying24
  have HA := Aside0.mk hA
  have HCAP := Aside0.mk hcap
  have HN := Aside0.mk hn
  clear hA hcap hn
  generalize hok : okC ⟨tag, 6, order, force, vol, other, pos, len, data⟩ = ok
  generalize hsm : sameC ⟨tag, 6, order, force, vol, other, pos, len, data⟩ (usedC ⟨tag, 6, order, force, vol, other, pos, len, data⟩) = sm
  have HOK := Lib.hid hok
  have HSM := Lib.hid hsm
  clear hok hsm
  go_enter Tryd.func18, Tryd.ntmps18
  go_wp2_with fail
  have hk1 := blk_new w (.cells #[.int .i64 tag, .int .i64 6, .int .i64 order, .bool force, .string vol, .string other, .int .i64 pos, .int .i64 len, .slice A data.length cap] 24)
  have hb1 := below_allocs w (.cells #[.int .i64 tag, .int .i64 6, .int .i64 order, .bool force, .string vol, .string other, .int .i64 pos, .int .i64 len, .slice A data.length cap] 24)
  generalize w.alloc (.cells #[.int .i64 tag, .int .i64 6, .int .i64 order, .bool force, .string vol, .string other, .int .i64 pos, .int .i64 len, .slice A data.length cap] 24) = w1 at hk1 hb1 ⊢
  have HK1 := Aside0.mk hk1
  have HB := Aside0.mk hb1
  clear hk1 hb1
  refine (only_any _ _ _ _ _ _ _ _ _ _ _ w1).mono ?_
  rintro e w2 ⟨rfl, hb⟩
  replace HK1 := Aside0.mk (blk_below HK1.out hb)
  replace HB := Aside0.mk (below_step HB.out hb)
  clear hb
  go_upto_region 4 with ((with_reducible refine gate_dst (N := 3) rfl ?_); refine box_event ?hg (N := 3) ?hd (cs := #[.int .i64 0, .int .i64 0, .int .i64 0, .bool false, .string ⟨#[]⟩, .string ⟨#[]⟩, .int .i64 0, .int .i64 0, .slice none 0 0]) (t := 24) ?hr ?_; (case hd => rfl); (case hg => rfl); (case hr => first | (go_simp; done) | (go_simp; rfl)); intro g2 hg w10 hbox hb; have n0_ := Aside0.mk (blk_below HK1.out hb); have n2_ := Aside0.mk (below_step HB.out hb); have G2 : Aside0 (w.heap.size ≤ g2) := ⟨by rw [hg]; exact below_size HB.out⟩; have NE : Aside0 (w.heap.size ≠ g2) := ⟨by have := blk_lt HK1.out; omega⟩; have BK := Aside0.mk hbox; clear HK1 HB hg hbox hb; have HK1 := n0_; have HB := n2_; clear n0_ n2_; obtain ⟨z0, z1, z2, z3, z4, z5, z6, z7, z8⟩ := cells24 BK.out; obtain ⟨f0, f1, f2, f3, f4, f5, f6, f7, f8⟩ := frozen24 BK.out)
  clear z0 z1 z2 z3 z4 z5 z6 z7 z8 f0 f1 f2 f3 f4 f5 f6 f7 f8
  have hk2 := put24 BK.out (.int .i64 tag) (.int .i64 6) (.int .i64 order) (.bool false) (.string ⟨#[]⟩) (.string ⟨#[]⟩) (.int .i64 0) (.int .i64 0) (.slice none 0 0)
  have hk1 := far24 HK1.out NE.out (.int .i64 tag) (.int .i64 6) (.int .i64 order) (.bool false) (.string ⟨#[]⟩) (.string ⟨#[]⟩) (.int .i64 0) (.int .i64 0) (.slice none 0 0)
  have hb := below24 HB.out G2.out (.int .i64 tag) (.int .i64 6) (.int .i64 order) (.bool false) (.string ⟨#[]⟩) (.string ⟨#[]⟩) (.int .i64 0) (.int .i64 0) (.slice none 0 0)
  generalize (((((((((w10.setCell ⟨g2, 0, none⟩ (.int .i64 tag)).setCell ⟨g2, 1, none⟩ (.int .i64 6)).setCell ⟨g2, 2, none⟩ (.int .i64 order)).setCell ⟨g2, 3, none⟩ (.bool false)).setCell ⟨g2, 4, none⟩ (.string ⟨#[]⟩)).setCell ⟨g2, 5, none⟩ (.string ⟨#[]⟩)).setCell ⟨g2, 6, none⟩ (.int .i64 0)).setCell ⟨g2, 7, none⟩ (.int .i64 0)).setCell ⟨g2, 8, none⟩ (.slice none 0 0)) = w11 at hk1 hk2 hb ⊢
  replace HK1 := Aside0.mk hk1
  have HK2 := Aside0.mk hk2
  replace HB := Aside0.mk hb
  clear hk1 hk2 hb BK
  obtain ⟨c0, c1, c2, c3, c4, c5, c6, c7, c8⟩ := cells24 HK1.out
  obtain ⟨d0, d1, d2, d3, d4, d5, d6, d7, d8⟩ := cells24 HK2.out
  obtain ⟨f0, f1, f2, f3, f4, f5, f6, f7, f8⟩ := frozen24 HK2.out
  go_upto_region 5 with (fail)
  clear c0 c1 c2 c3 c4 c5 c6 c7 c8 d0 d1 d2 d3 d4 d5 d6 d7 d8 f0 f1 f2 f3 f4 f5 f6 f7 f8
  have hk2 := (blk_put HK2.out 4 (.string vol) rfl)
  have hk1 := (blk_far HK1.out (p := ⟨g2, 4, none⟩) NE.out (.string vol))
  have hb : Below w.heap.size w ((w11).setCell ⟨g2, 4, none⟩ (.string vol)) := (below_set HB.out G2.out)
  generalize (w11).setCell ⟨g2, 4, none⟩ (.string vol) = w12 at hk1 hk2 hb ⊢
  replace HK1 := Aside0.mk hk1
  replace HK2 := Aside0.mk hk2
  replace HB := Aside0.mk hb
  clear hk1 hk2 hb
  have c4 := (blk_cell HK1.out 4).trans (show _ = some (Value.string vol) from rfl)
  go_wp2_with fail
  clear c4
  refine (name_any vol w12).mono ?_
  rintro e w13 ⟨rfl, hb⟩
  replace HK1 := Aside0.mk (blk_below HK1.out hb)
  replace HK2 := Aside0.mk (blk_below HK2.out hb)
  replace HB := Aside0.mk (below_step HB.out hb)
  clear hb
  obtain ⟨c0, c1, c2, c3, c4, c5, c6, c7, c8⟩ := cells24 HK1.out
  obtain ⟨d0, d1, d2, d3, d4, d5, d6, d7, d8⟩ := cells24 HK2.out
  obtain ⟨f0, f1, f2, f3, f4, f5, f6, f7, f8⟩ := frozen24 HK2.out
  go_upto_region 24 with (fail)
  clear c0 c1 c2 c3 c4 c5 c6 c7 c8 d0 d1 d2 d3 d4 d5 d6 d7 d8 f0 f1 f2 f3 f4 f5 f6 f7 f8
  have hk2 := (blk_put HK2.out 5 (.string other) rfl)
  have hk1 := (blk_far HK1.out (p := ⟨g2, 5, none⟩) NE.out (.string other))
  have hb : Below w.heap.size w ((w13).setCell ⟨g2, 5, none⟩ (.string other)) := (below_set HB.out G2.out)
  generalize (w13).setCell ⟨g2, 5, none⟩ (.string other) = w14 at hk1 hk2 hb ⊢
  replace HK1 := Aside0.mk hk1
  replace HK2 := Aside0.mk hk2
  replace HB := Aside0.mk hb
  clear hk1 hk2 hb
  obtain ⟨c0, c1, c2, c3, c4, c5, c6, c7, c8⟩ := cells24 HK1.out
  obtain ⟨d0, d1, d2, d3, d4, d5, d6, d7, d8⟩ := cells24 HK2.out
  obtain ⟨f0, f1, f2, f3, f4, f5, f6, f7, f8⟩ := frozen24 HK2.out
  cases hnm : nameB vol
  · have HNM := Lib.hid hnm
    clear hnm
    have eok : ok = false := by rw [← HOK.out]; unfold okC; simp [HNM.out]
    have EOK := Lib.hid eok
    clear eok
    go_wp2
    go_ret
    exact ⟨by rw [EOK.out]; rfl, HB.out⟩
  · have HNM := Lib.hid hnm
    clear hnm
    go_wp2_with fail
    refine (name_any other _).mono ?_
    rintro e w15 ⟨rfl, hb⟩
    replace HK1 := Aside0.mk (blk_below HK1.out hb)
    replace HK2 := Aside0.mk (blk_below HK2.out hb)
    replace HB := Aside0.mk (below_step HB.out hb)
    clear hb
    clear c0 c1 c2 c3 c4 c5 c6 c7 c8 d0 d1 d2 d3 d4 d5 d6 d7 d8 f0 f1 f2 f3 f4 f5 f6 f7 f8
    obtain ⟨c0, c1, c2, c3, c4, c5, c6, c7, c8⟩ := cells24 HK1.out
    obtain ⟨d0, d1, d2, d3, d4, d5, d6, d7, d8⟩ := cells24 HK2.out
    obtain ⟨f0, f1, f2, f3, f4, f5, f6, f7, f8⟩ := frozen24 HK2.out
    cases hno : nameB other
    · have HNO := Lib.hid hno
      clear hno
      have eok : ok = false := by rw [← HOK.out]; unfold okC; simp [HNM.out, HNO.out]
      have EOK := Lib.hid eok
      clear eok
      go_wp2
      go_ret
      exact ⟨by rw [EOK.out]; rfl, HB.out⟩
    · have HNO := Lib.hid hno
      clear hno
      by_cases hov : other.toList = vol.toList
      · have hov0 : (other.toList == vol.toList) = true := beq_iff_eq.2 hov
        have hov1 : (other.toList != vol.toList) = false := by rw [hov]; simp
        have HOV := Aside0.mk hov
        clear hov
        have eok : ok = false := by rw [← HOK.out]; unfold okC; simp [HNM.out, HNO.out, HOV.out]
        have EOK := Lib.hid eok
        clear eok
        go_wp2
        go_ret
        exact ⟨by rw [EOK.out]; rfl, HB.out⟩
      · have hov0 : (other.toList == vol.toList) = false := beq_eq_false_iff_ne.2 hov
        have hov1 : (other.toList != vol.toList) = true := by simp [hov]
        have HOV := Aside0.mk hov
        clear hov
        have eok : ok = true := by rw [← HOK.out]; unfold okC; simp [HNM.out, HNO.out, HOV.out]
        have EOK := Lib.hid eok
        clear eok
        go_wp2_with fail
        have c := same_any ⟨tag, 6, order, force, vol, other, pos, len, data⟩ ⟨tag, 6, order, false, vol, other, 0, 0, []⟩ _ A none cap 0 (Kd.C_below HA.out HB.out) HCAP.out (Kd.C_nil _ _) (Nat.le_refl _) (Nat.le_trans HN.out (by decide))
        rw [show sameC ⟨tag, 6, order, force, vol, other, pos, len, data⟩ ⟨tag, 6, order, false, vol, other, 0, 0, []⟩ = sm from HSM.out] at c
        refine c.mono ?_
        clear c
        rintro e w' ⟨rfl, hb⟩
        replace HB := Aside0.mk (below_step HB.out hb)
        clear hb
        go_wp2
        go_ret
        exact ⟨by rw [EOK.out]; rfl, HB.out⟩
set_option maxHeartbeats 8000000 in
set_option maxRecDepth 100000 in
theorem valid_7_a (tag order : Int) (force : Bool) (vol other : ByteArray) (pos len : Int) (data : List S35) (w : World) (A : Option Addr) (cap : Nat) (hA : Kd.C k35 w A data.length data) (hcap : data.length ≤ cap) (hn : data.length ≤ 140737488355328) (t0 : decide (tag < 0) = false) (t1 : decide (2147483647 < tag) = false) (t2 : (order != 0) = false) :
    Calls Tryd.prog 18 #[.agg #[.int .i64 tag, .int .i64 7, .int .i64 order, .bool force, .string vol, .string other, .int .i64 pos, .int .i64 len, .slice A data.length cap]] w fun e w' => e = .returned (.bool (okC ⟨tag, 7, order, force, vol, other, pos, len, data⟩ && sameC ⟨tag, 7, order, force, vol, other, pos, len, data⟩ (usedC ⟨tag, 7, order, force, vol, other, pos, len, data⟩))) ∧ Below w.heap.size w w' := by
  have hu24 := Tryd.underlying24
  have HA := Aside0.mk hA
  have HCAP := Aside0.mk hcap
  have HN := Aside0.mk hn
  clear hA hcap hn
  generalize hok : okC ⟨tag, 7, order, force, vol, other, pos, len, data⟩ = ok
  generalize hsm : sameC ⟨tag, 7, order, force, vol, other, pos, len, data⟩ (usedC ⟨tag, 7, order, force, vol, other, pos, len, data⟩) = sm
  have HOK := Lib.hid hok
  have HSM := Lib.hid hsm
  clear hok hsm
  go_enter Tryd.func18, Tryd.ntmps18
  go_wp2_with fail
  have hk1 := blk_new w (.cells #[.int .i64 tag, .int .i64 7, .int .i64 order, .bool force, .string vol, .string other, .int .i64 pos, .int .i64 len, .slice A data.length cap] 24)
  have hb1 := below_allocs w (.cells #[.int .i64 tag, .int .i64 7, .int .i64 order, .bool force, .string vol, .string other, .int .i64 pos, .int .i64 len, .slice A data.length cap] 24)
  generalize w.alloc (.cells #[.int .i64 tag, .int .i64 7, .int .i64 order, .bool force, .string vol, .string other, .int .i64 pos, .int .i64 len, .slice A data.length cap] 24) = w1 at hk1 hb1 ⊢
  have HK1 := Aside0.mk hk1
  have HB := Aside0.mk hb1
  clear hk1 hb1
  refine (only_any _ _ _ _ _ _ _ _ _ _ _ w1).mono ?_
  rintro e w2 ⟨rfl, hb⟩
  replace HK1 := Aside0.mk (blk_below HK1.out hb)
  replace HB := Aside0.mk (below_step HB.out hb)
  clear hb
  go_upto_region 4 with ((with_reducible refine gate_dst (N := 3) rfl ?_); refine box_event ?hg (N := 3) ?hd (cs := #[.int .i64 0, .int .i64 0, .int .i64 0, .bool false, .string ⟨#[]⟩, .string ⟨#[]⟩, .int .i64 0, .int .i64 0, .slice none 0 0]) (t := 24) ?hr ?_; (case hd => rfl); (case hg => rfl); (case hr => first | (go_simp; done) | (go_simp; rfl)); intro g2 hg w10 hbox hb; have n0_ := Aside0.mk (blk_below HK1.out hb); have n2_ := Aside0.mk (below_step HB.out hb); have G2 : Aside0 (w.heap.size ≤ g2) := ⟨by rw [hg]; exact below_size HB.out⟩; have NE : Aside0 (w.heap.size ≠ g2) := ⟨by have := blk_lt HK1.out; omega⟩; have BK := Aside0.mk hbox; clear HK1 HB hg hbox hb; have HK1 := n0_; have HB := n2_; clear n0_ n2_; obtain ⟨z0, z1, z2, z3, z4, z5, z6, z7, z8⟩ := cells24 BK.out; obtain ⟨f0, f1, f2, f3, f4, f5, f6, f7, f8⟩ := frozen24 BK.out)
  clear z0 z1 z2 z3 z4 z5 z6 z7 z8 f0 f1 f2 f3 f4 f5 f6 f7 f8
  have hk2 := put24 BK.out (.int .i64 tag) (.int .i64 7) (.int .i64 order) (.bool false) (.string ⟨#[]⟩) (.string ⟨#[]⟩) (.int .i64 0) (.int .i64 0) (.slice none 0 0)
  have hk1 := far24 HK1.out NE.out (.int .i64 tag) (.int .i64 7) (.int .i64 order) (.bool false) (.string ⟨#[]⟩) (.string ⟨#[]⟩) (.int .i64 0) (.int .i64 0) (.slice none 0 0)
  have hb := below24 HB.out G2.out (.int .i64 tag) (.int .i64 7) (.int .i64 order) (.bool false) (.string ⟨#[]⟩) (.string ⟨#[]⟩) (.int .i64 0) (.int .i64 0) (.slice none 0 0)
  generalize (((((((((w10.setCell ⟨g2, 0, none⟩ (.int .i64 tag)).setCell ⟨g2, 1, none⟩ (.int .i64 7)).setCell ⟨g2, 2, none⟩ (.int .i64 order)).setCell ⟨g2, 3, none⟩ (.bool false)).setCell ⟨g2, 4, none⟩ (.string ⟨#[]⟩)).setCell ⟨g2, 5, none⟩ (.string ⟨#[]⟩)).setCell ⟨g2, 6, none⟩ (.int .i64 0)).setCell ⟨g2, 7, none⟩ (.int .i64 0)).setCell ⟨g2, 8, none⟩ (.slice none 0 0)) = w11 at hk1 hk2 hb ⊢
  replace HK1 := Aside0.mk hk1
  have HK2 := Aside0.mk hk2
  replace HB := Aside0.mk hb
  clear hk1 hk2 hb BK
  obtain ⟨c0, c1, c2, c3, c4, c5, c6, c7, c8⟩ := cells24 HK1.out
  obtain ⟨d0, d1, d2, d3, d4, d5, d6, d7, d8⟩ := cells24 HK2.out
  obtain ⟨f0, f1, f2, f3, f4, f5, f6, f7, f8⟩ := frozen24 HK2.out
  go_upto_region 5 with (fail)
  clear c0 c1 c2 c3 c4 c5 c6 c7 c8 d0 d1 d2 d3 d4 d5 d6 d7 d8 f0 f1 f2 f3 f4 f5 f6 f7 f8
  have hk2 := (blk_put HK2.out 4 (.string vol) rfl)
  have hk1 := (blk_far HK1.out (p := ⟨g2, 4, none⟩) NE.out (.string vol))
  have hb : Below w.heap.size w ((w11).setCell ⟨g2, 4, none⟩ (.string vol)) := (below_set HB.out G2.out)
  generalize (w11).setCell ⟨g2, 4, none⟩ (.string vol) = w12 at hk1 hk2 hb ⊢
  replace HK1 := Aside0.mk hk1
  replace HK2 := Aside0.mk hk2
  replace HB := Aside0.mk hb
  clear hk1 hk2 hb
  have c4 := (blk_cell HK1.out 4).trans (show _ = some (Value.string vol) from rfl)
  go_wp2_with fail
  clear c4
  refine (name_any vol w12).mono ?_
  rintro e w13 ⟨rfl, hb⟩
  replace HK1 := Aside0.mk (blk_below HK1.out hb)
  replace HK2 := Aside0.mk (blk_below HK2.out hb)
  replace HB := Aside0.mk (below_step HB.out hb)
  clear hb
  obtain ⟨c0, c1, c2, c3, c4, c5, c6, c7, c8⟩ := cells24 HK1.out
  obtain ⟨d0, d1, d2, d3, d4, d5, d6, d7, d8⟩ := cells24 HK2.out
  obtain ⟨f0, f1, f2, f3, f4, f5, f6, f7, f8⟩ := frozen24 HK2.out
  cases hnm : nameB vol
  · have HNM := Lib.hid hnm
    clear hnm
    have eok : ok = false := by rw [← HOK.out]; unfold okC; simp [HNM.out]
    have EOK := Lib.hid eok
    clear eok
    go_wp2
    go_ret
    exact ⟨by rw [EOK.out]; rfl, HB.out⟩
  · have HNM := Lib.hid hnm
    clear hnm
    have eok : ok = true := by rw [← HOK.out]; unfold okC; simp [HNM.out]
    have EOK := Lib.hid eok
    clear eok
    go_wp2_with fail
    have c := same_any ⟨tag, 7, order, force, vol, other, pos, len, data⟩ ⟨tag, 7, order, false, vol, ⟨#[]⟩, 0, 0, []⟩ _ A none cap 0 (Kd.C_below HA.out HB.out) HCAP.out (Kd.C_nil _ _) (Nat.le_refl _) (Nat.le_trans HN.out (by decide))
    rw [show sameC ⟨tag, 7, order, force, vol, other, pos, len, data⟩ ⟨tag, 7, order, false, vol, ⟨#[]⟩, 0, 0, []⟩ = sm from HSM.out] at c
    refine c.mono ?_
    clear c
    rintro e w' ⟨rfl, hb⟩
    replace HB := Aside0.mk (below_step HB.out hb)
    clear hb
    go_wp2
    go_ret
    exact ⟨by rw [EOK.out]; rfl, HB.out⟩
set_option maxHeartbeats 8000000 in
set_option maxRecDepth 100000 in
theorem valid_7_b (tag order : Int) (force : Bool) (vol other : ByteArray) (pos len : Int) (data : List S35) (w : World) (A : Option Addr) (cap : Nat) (hA : Kd.C k35 w A data.length data) (hcap : data.length ≤ cap) (hn : data.length ≤ 140737488355328) (t0 : decide (tag < 0) = false) (t1 : decide (2147483647 < tag) = false) (t2 : (order != 0) = true) (t3 : (order != 1) = false) :
    Calls Tryd.prog 18 #[.agg #[.int .i64 tag, .int .i64 7, .int .i64 order, .bool force, .string vol, .string other, .int .i64 pos, .int .i64 len, .slice A data.length cap]] w fun e w' => e = .returned (.bool (okC ⟨tag, 7, order, force, vol, other, pos, len, data⟩ && sameC ⟨tag, 7, order, force, vol, other, pos, len, data⟩ (usedC ⟨tag, 7, order, force, vol, other, pos, len, data⟩))) ∧ Below w.heap.size w w' := by
  have hu24 := Tryd.underlying24
  have HA := Aside0.mk hA
  have HCAP := Aside0.mk hcap
  have HN := Aside0.mk hn
  clear hA hcap hn
  generalize hok : okC ⟨tag, 7, order, force, vol, other, pos, len, data⟩ = ok
  generalize hsm : sameC ⟨tag, 7, order, force, vol, other, pos, len, data⟩ (usedC ⟨tag, 7, order, force, vol, other, pos, len, data⟩) = sm
  have HOK := Lib.hid hok
  have HSM := Lib.hid hsm
  clear hok hsm
  go_enter Tryd.func18, Tryd.ntmps18
  go_wp2_with fail
  have hk1 := blk_new w (.cells #[.int .i64 tag, .int .i64 7, .int .i64 order, .bool force, .string vol, .string other, .int .i64 pos, .int .i64 len, .slice A data.length cap] 24)
  have hb1 := below_allocs w (.cells #[.int .i64 tag, .int .i64 7, .int .i64 order, .bool force, .string vol, .string other, .int .i64 pos, .int .i64 len, .slice A data.length cap] 24)
  generalize w.alloc (.cells #[.int .i64 tag, .int .i64 7, .int .i64 order, .bool force, .string vol, .string other, .int .i64 pos, .int .i64 len, .slice A data.length cap] 24) = w1 at hk1 hb1 ⊢
  have HK1 := Aside0.mk hk1
  have HB := Aside0.mk hb1
  clear hk1 hb1
  refine (only_any _ _ _ _ _ _ _ _ _ _ _ w1).mono ?_
  rintro e w2 ⟨rfl, hb⟩
  replace HK1 := Aside0.mk (blk_below HK1.out hb)
  replace HB := Aside0.mk (below_step HB.out hb)
  clear hb
  go_upto_region 4 with ((with_reducible refine gate_dst (N := 3) rfl ?_); refine box_event ?hg (N := 3) ?hd (cs := #[.int .i64 0, .int .i64 0, .int .i64 0, .bool false, .string ⟨#[]⟩, .string ⟨#[]⟩, .int .i64 0, .int .i64 0, .slice none 0 0]) (t := 24) ?hr ?_; (case hd => rfl); (case hg => rfl); (case hr => first | (go_simp; done) | (go_simp; rfl)); intro g2 hg w10 hbox hb; have n0_ := Aside0.mk (blk_below HK1.out hb); have n2_ := Aside0.mk (below_step HB.out hb); have G2 : Aside0 (w.heap.size ≤ g2) := ⟨by rw [hg]; exact below_size HB.out⟩; have NE : Aside0 (w.heap.size ≠ g2) := ⟨by have := blk_lt HK1.out; omega⟩; have BK := Aside0.mk hbox; clear HK1 HB hg hbox hb; have HK1 := n0_; have HB := n2_; clear n0_ n2_; obtain ⟨z0, z1, z2, z3, z4, z5, z6, z7, z8⟩ := cells24 BK.out; obtain ⟨f0, f1, f2, f3, f4, f5, f6, f7, f8⟩ := frozen24 BK.out)
  clear z0 z1 z2 z3 z4 z5 z6 z7 z8 f0 f1 f2 f3 f4 f5 f6 f7 f8
  have hk2 := put24 BK.out (.int .i64 tag) (.int .i64 7) (.int .i64 order) (.bool false) (.string ⟨#[]⟩) (.string ⟨#[]⟩) (.int .i64 0) (.int .i64 0) (.slice none 0 0)
  have hk1 := far24 HK1.out NE.out (.int .i64 tag) (.int .i64 7) (.int .i64 order) (.bool false) (.string ⟨#[]⟩) (.string ⟨#[]⟩) (.int .i64 0) (.int .i64 0) (.slice none 0 0)
  have hb := below24 HB.out G2.out (.int .i64 tag) (.int .i64 7) (.int .i64 order) (.bool false) (.string ⟨#[]⟩) (.string ⟨#[]⟩) (.int .i64 0) (.int .i64 0) (.slice none 0 0)
  generalize (((((((((w10.setCell ⟨g2, 0, none⟩ (.int .i64 tag)).setCell ⟨g2, 1, none⟩ (.int .i64 7)).setCell ⟨g2, 2, none⟩ (.int .i64 order)).setCell ⟨g2, 3, none⟩ (.bool false)).setCell ⟨g2, 4, none⟩ (.string ⟨#[]⟩)).setCell ⟨g2, 5, none⟩ (.string ⟨#[]⟩)).setCell ⟨g2, 6, none⟩ (.int .i64 0)).setCell ⟨g2, 7, none⟩ (.int .i64 0)).setCell ⟨g2, 8, none⟩ (.slice none 0 0)) = w11 at hk1 hk2 hb ⊢
  replace HK1 := Aside0.mk hk1
  have HK2 := Aside0.mk hk2
  replace HB := Aside0.mk hb
  clear hk1 hk2 hb BK
  obtain ⟨c0, c1, c2, c3, c4, c5, c6, c7, c8⟩ := cells24 HK1.out
  obtain ⟨d0, d1, d2, d3, d4, d5, d6, d7, d8⟩ := cells24 HK2.out
  obtain ⟨f0, f1, f2, f3, f4, f5, f6, f7, f8⟩ := frozen24 HK2.out
  go_upto_region 5 with (fail)
  clear c0 c1 c2 c3 c4 c5 c6 c7 c8 d0 d1 d2 d3 d4 d5 d6 d7 d8 f0 f1 f2 f3 f4 f5 f6 f7 f8
  have hk2 := (blk_put HK2.out 4 (.string vol) rfl)
  have hk1 := (blk_far HK1.out (p := ⟨g2, 4, none⟩) NE.out (.string vol))
  have hb : Below w.heap.size w ((w11).setCell ⟨g2, 4, none⟩ (.string vol)) := (below_set HB.out G2.out)
  generalize (w11).setCell ⟨g2, 4, none⟩ (.string vol) = w12 at hk1 hk2 hb ⊢
  replace HK1 := Aside0.mk hk1
  replace HK2 := Aside0.mk hk2
  replace HB := Aside0.mk hb
  clear hk1 hk2 hb
  have c4 := (blk_cell HK1.out 4).trans (show _ = some (Value.string vol) from rfl)
  go_wp2_with fail
  clear c4
  refine (name_any vol w12).mono ?_
  rintro e w13 ⟨rfl, hb⟩
  replace HK1 := Aside0.mk (blk_below HK1.out hb)
  replace HK2 := Aside0.mk (blk_below HK2.out hb)
  replace HB := Aside0.mk (below_step HB.out hb)
  clear hb
  obtain ⟨c0, c1, c2, c3, c4, c5, c6, c7, c8⟩ := cells24 HK1.out
  obtain ⟨d0, d1, d2, d3, d4, d5, d6, d7, d8⟩ := cells24 HK2.out
  obtain ⟨f0, f1, f2, f3, f4, f5, f6, f7, f8⟩ := frozen24 HK2.out
  cases hnm : nameB vol
  · have HNM := Lib.hid hnm
    clear hnm
    have eok : ok = false := by rw [← HOK.out]; unfold okC; simp [HNM.out]
    have EOK := Lib.hid eok
    clear eok
    go_wp2
    go_ret
    exact ⟨by rw [EOK.out]; rfl, HB.out⟩
  · have HNM := Lib.hid hnm
    clear hnm
    have eok : ok = true := by rw [← HOK.out]; unfold okC; simp [HNM.out]
    have EOK := Lib.hid eok
    clear eok
    go_wp2_with fail
    have c := same_any ⟨tag, 7, order, force, vol, other, pos, len, data⟩ ⟨tag, 7, order, false, vol, ⟨#[]⟩, 0, 0, []⟩ _ A none cap 0 (Kd.C_below HA.out HB.out) HCAP.out (Kd.C_nil _ _) (Nat.le_refl _) (Nat.le_trans HN.out (by decide))
    rw [show sameC ⟨tag, 7, order, force, vol, other, pos, len, data⟩ ⟨tag, 7, order, false, vol, ⟨#[]⟩, 0, 0, []⟩ = sm from HSM.out] at c
    refine c.mono ?_
    clear c
    rintro e w' ⟨rfl, hb⟩
    replace HB := Aside0.mk (below_step HB.out hb)
    clear hb
    go_wp2
    go_ret
    exact ⟨by rw [EOK.out]; rfl, HB.out⟩
set_option maxHeartbeats 8000000 in
set_option maxRecDepth 100000 in
theorem valid_kind_a (tag kind order : Int) (force : Bool) (vol other : ByteArray) (pos len : Int) (data : List S35) (w : World) (A : Option Addr) (cap : Nat) (hA : Kd.C k35 w A data.length data) (hcap : data.length ≤ cap) (hn : data.length ≤ 140737488355328) (t0 : decide (tag < 0) = false) (t1 : decide (2147483647 < tag) = false) (t2 : (order != 0) = false) (k1 : (kind == 1) = false) (k2 : (kind == 2) = false) (k3 : (kind == 3) = false) (k4 : (kind == 4) = false) (k5 : (kind == 5) = false) (k6 : (kind == 6) = false) (k7 : (kind == 7) = false) :
    Calls Tryd.prog 18 #[.agg #[.int .i64 tag, .int .i64 kind, .int .i64 order, .bool force, .string vol, .string other, .int .i64 pos, .int .i64 len, .slice A data.length cap]] w fun e w' => e = .returned (.bool (okC ⟨tag, kind, order, force, vol, other, pos, len, data⟩ && sameC ⟨tag, kind, order, force, vol, other, pos, len, data⟩ (usedC ⟨tag, kind, order, force, vol, other, pos, len, data⟩))) ∧ Below w.heap.size w w' := by
  have hu24 := Tryd.underlying24
  have HA := Aside0.mk hA
  have HCAP := Aside0.mk hcap
  have HN := Aside0.mk hn
  clear hA hcap hn
  generalize hok : okC ⟨tag, kind, order, force, vol, other, pos, len, data⟩ = ok
  generalize hsm : sameC ⟨tag, kind, order, force, vol, other, pos, len, data⟩ (usedC ⟨tag, kind, order, force, vol, other, pos, len, data⟩) = sm
  have HOK := Lib.hid hok
  have HSM := Lib.hid hsm
  clear hok hsm
  go_enter Tryd.func18, Tryd.ntmps18
  go_wp2_with fail
  have hk1 := blk_new w (.cells #[.int .i64 tag, .int .i64 kind, .int .i64 order, .bool force, .string vol, .string other, .int .i64 pos, .int .i64 len, .slice A data.length cap] 24)
  have hb1 := below_allocs w (.cells #[.int .i64 tag, .int .i64 kind, .int .i64 order, .bool force, .string vol, .string other, .int .i64 pos, .int .i64 len, .slice A data.length cap] 24)
  generalize w.alloc (.cells #[.int .i64 tag, .int .i64 kind, .int .i64 order, .bool force, .string vol, .string other, .int .i64 pos, .int .i64 len, .slice A data.length cap] 24) = w1 at hk1 hb1 ⊢
  have HK1 := Aside0.mk hk1
  have HB := Aside0.mk hb1
  clear hk1 hb1
  refine (only_any _ _ _ _ _ _ _ _ _ _ _ w1).mono ?_
  rintro e w2 ⟨rfl, hb⟩
  replace HK1 := Aside0.mk (blk_below HK1.out hb)
  replace HB := Aside0.mk (below_step HB.out hb)
  clear hb
  go_upto_region 4 with ((with_reducible refine gate_dst (N := 3) rfl ?_); refine box_event ?hg (N := 3) ?hd (cs := #[.int .i64 0, .int .i64 0, .int .i64 0, .bool false, .string ⟨#[]⟩, .string ⟨#[]⟩, .int .i64 0, .int .i64 0, .slice none 0 0]) (t := 24) ?hr ?_; (case hd => rfl); (case hg => rfl); (case hr => first | (go_simp; done) | (go_simp; rfl)); intro g2 hg w10 hbox hb; have n0_ := Aside0.mk (blk_below HK1.out hb); have n2_ := Aside0.mk (below_step HB.out hb); have G2 : Aside0 (w.heap.size ≤ g2) := ⟨by rw [hg]; exact below_size HB.out⟩; have NE : Aside0 (w.heap.size ≠ g2) := ⟨by have := blk_lt HK1.out; omega⟩; have BK := Aside0.mk hbox; clear HK1 HB hg hbox hb; have HK1 := n0_; have HB := n2_; clear n0_ n2_; obtain ⟨z0, z1, z2, z3, z4, z5, z6, z7, z8⟩ := cells24 BK.out; obtain ⟨f0, f1, f2, f3, f4, f5, f6, f7, f8⟩ := frozen24 BK.out)
  clear z0 z1 z2 z3 z4 z5 z6 z7 z8 f0 f1 f2 f3 f4 f5 f6 f7 f8
  have hk2 := put24 BK.out (.int .i64 tag) (.int .i64 kind) (.int .i64 order) (.bool false) (.string ⟨#[]⟩) (.string ⟨#[]⟩) (.int .i64 0) (.int .i64 0) (.slice none 0 0)
  have hk1 := far24 HK1.out NE.out (.int .i64 tag) (.int .i64 kind) (.int .i64 order) (.bool false) (.string ⟨#[]⟩) (.string ⟨#[]⟩) (.int .i64 0) (.int .i64 0) (.slice none 0 0)
  have hb := below24 HB.out G2.out (.int .i64 tag) (.int .i64 kind) (.int .i64 order) (.bool false) (.string ⟨#[]⟩) (.string ⟨#[]⟩) (.int .i64 0) (.int .i64 0) (.slice none 0 0)
  generalize (((((((((w10.setCell ⟨g2, 0, none⟩ (.int .i64 tag)).setCell ⟨g2, 1, none⟩ (.int .i64 kind)).setCell ⟨g2, 2, none⟩ (.int .i64 order)).setCell ⟨g2, 3, none⟩ (.bool false)).setCell ⟨g2, 4, none⟩ (.string ⟨#[]⟩)).setCell ⟨g2, 5, none⟩ (.string ⟨#[]⟩)).setCell ⟨g2, 6, none⟩ (.int .i64 0)).setCell ⟨g2, 7, none⟩ (.int .i64 0)).setCell ⟨g2, 8, none⟩ (.slice none 0 0)) = w11 at hk1 hk2 hb ⊢
  replace HK1 := Aside0.mk hk1
  have HK2 := Aside0.mk hk2
  replace HB := Aside0.mk hb
  clear hk1 hk2 hb BK
  obtain ⟨c0, c1, c2, c3, c4, c5, c6, c7, c8⟩ := cells24 HK1.out
  obtain ⟨d0, d1, d2, d3, d4, d5, d6, d7, d8⟩ := cells24 HK2.out
  obtain ⟨f0, f1, f2, f3, f4, f5, f6, f7, f8⟩ := frozen24 HK2.out
  go_upto_region 5 with (fail)
  clear c0 c1 c2 c3 c4 c5 c6 c7 c8 d0 d1 d2 d3 d4 d5 d6 d7 d8 f0 f1 f2 f3 f4 f5 f6 f7 f8
  have hk2 := (blk_put HK2.out 4 (.string vol) rfl)
  have hk1 := (blk_far HK1.out (p := ⟨g2, 4, none⟩) NE.out (.string vol))
  have hb : Below w.heap.size w ((w11).setCell ⟨g2, 4, none⟩ (.string vol)) := (below_set HB.out G2.out)
  generalize (w11).setCell ⟨g2, 4, none⟩ (.string vol) = w12 at hk1 hk2 hb ⊢
  replace HK1 := Aside0.mk hk1
  replace HK2 := Aside0.mk hk2
  replace HB := Aside0.mk hb
  clear hk1 hk2 hb
  have c4 := (blk_cell HK1.out 4).trans (show _ = some (Value.string vol) from rfl)
  go_wp2_with fail
  clear c4
  refine (name_any vol w12).mono ?_
  rintro e w13 ⟨rfl, hb⟩
  replace HK1 := Aside0.mk (blk_below HK1.out hb)
  replace HK2 := Aside0.mk (blk_below HK2.out hb)
  replace HB := Aside0.mk (below_step HB.out hb)
  clear hb
  obtain ⟨c0, c1, c2, c3, c4, c5, c6, c7, c8⟩ := cells24 HK1.out
  obtain ⟨d0, d1, d2, d3, d4, d5, d6, d7, d8⟩ := cells24 HK2.out
  obtain ⟨f0, f1, f2, f3, f4, f5, f6, f7, f8⟩ := frozen24 HK2.out
  have eok : ok = false := by
    rw [← HOK.out]; unfold okC
    simp only [beq_eq_false_iff_ne] at k1 k2 k3 k4 k5 k6 k7
    simp [k1, k2, k3, k4, k5, k6, k7]
  have EOK := Lib.hid eok
  clear eok
  go_wp2
  go_ret
  exact ⟨by rw [EOK.out]; rfl, HB.out⟩
set_option maxHeartbeats 8000000 in
set_option maxRecDepth 100000 in
theorem valid_kind_b (tag kind order : Int) (force : Bool) (vol other : ByteArray) (pos len : Int) (data : List S35) (w : World) (A : Option Addr) (cap : Nat) (hA : Kd.C k35 w A data.length data) (hcap : data.length ≤ cap) (hn : data.length ≤ 140737488355328) (t0 : decide (tag < 0) = false) (t1 : decide (2147483647 < tag) = false) (t2 : (order != 0) = true) (t3 : (order != 1) = false) (k1 : (kind == 1) = false) (k2 : (kind == 2) = false) (k3 : (kind == 3) = false) (k4 : (kind == 4) = false) (k5 : (kind == 5) = false) (k6 : (kind == 6) = false) (k7 : (kind == 7) = false) :
    Calls Tryd.prog 18 #[.agg #[.int .i64 tag, .int .i64 kind, .int .i64 order, .bool force, .string vol, .string other, .int .i64 pos, .int .i64 len, .slice A data.length cap]] w fun e w' => e = .returned (.bool (okC ⟨tag, kind, order, force, vol, other, pos, len, data⟩ && sameC ⟨tag, kind, order, force, vol, other, pos, len, data⟩ (usedC ⟨tag, kind, order, force, vol, other, pos, len, data⟩))) ∧ Below w.heap.size w w' := by
  have hu24 := Tryd.underlying24
  have HA := Aside0.mk hA
  have HCAP := Aside0.mk hcap
  have HN := Aside0.mk hn
  clear hA hcap hn
  generalize hok : okC ⟨tag, kind, order, force, vol, other, pos, len, data⟩ = ok
  generalize hsm : sameC ⟨tag, kind, order, force, vol, other, pos, len, data⟩ (usedC ⟨tag, kind, order, force, vol, other, pos, len, data⟩) = sm
  have HOK := Lib.hid hok
  have HSM := Lib.hid hsm
  clear hok hsm
  go_enter Tryd.func18, Tryd.ntmps18
  go_wp2_with fail
  have hk1 := blk_new w (.cells #[.int .i64 tag, .int .i64 kind, .int .i64 order, .bool force, .string vol, .string other, .int .i64 pos, .int .i64 len, .slice A data.length cap] 24)
  have hb1 := below_allocs w (.cells #[.int .i64 tag, .int .i64 kind, .int .i64 order, .bool force, .string vol, .string other, .int .i64 pos, .int .i64 len, .slice A data.length cap] 24)
  generalize w.alloc (.cells #[.int .i64 tag, .int .i64 kind, .int .i64 order, .bool force, .string vol, .string other, .int .i64 pos, .int .i64 len, .slice A data.length cap] 24) = w1 at hk1 hb1 ⊢
  have HK1 := Aside0.mk hk1
  have HB := Aside0.mk hb1
  clear hk1 hb1
  refine (only_any _ _ _ _ _ _ _ _ _ _ _ w1).mono ?_
  rintro e w2 ⟨rfl, hb⟩
  replace HK1 := Aside0.mk (blk_below HK1.out hb)
  replace HB := Aside0.mk (below_step HB.out hb)
  clear hb
  go_upto_region 4 with ((with_reducible refine gate_dst (N := 3) rfl ?_); refine box_event ?hg (N := 3) ?hd (cs := #[.int .i64 0, .int .i64 0, .int .i64 0, .bool false, .string ⟨#[]⟩, .string ⟨#[]⟩, .int .i64 0, .int .i64 0, .slice none 0 0]) (t := 24) ?hr ?_; (case hd => rfl); (case hg => rfl); (case hr => first | (go_simp; done) | (go_simp; rfl)); intro g2 hg w10 hbox hb; have n0_ := Aside0.mk (blk_below HK1.out hb); have n2_ := Aside0.mk (below_step HB.out hb); have G2 : Aside0 (w.heap.size ≤ g2) := ⟨by rw [hg]; exact below_size HB.out⟩; have NE : Aside0 (w.heap.size ≠ g2) := ⟨by have := blk_lt HK1.out; omega⟩; have BK := Aside0.mk hbox; clear HK1 HB hg hbox hb; have HK1 := n0_; have HB := n2_; clear n0_ n2_; obtain ⟨z0, z1, z2, z3, z4, z5, z6, z7, z8⟩ := cells24 BK.out; obtain ⟨f0, f1, f2, f3, f4, f5, f6, f7, f8⟩ := frozen24 BK.out)
  clear z0 z1 z2 z3 z4 z5 z6 z7 z8 f0 f1 f2 f3 f4 f5 f6 f7 f8
  have hk2 := put24 BK.out (.int .i64 tag) (.int .i64 kind) (.int .i64 order) (.bool false) (.string ⟨#[]⟩) (.string ⟨#[]⟩) (.int .i64 0) (.int .i64 0) (.slice none 0 0)
  have hk1 := far24 HK1.out NE.out (.int .i64 tag) (.int .i64 kind) (.int .i64 order) (.bool false) (.string ⟨#[]⟩) (.string ⟨#[]⟩) (.int .i64 0) (.int .i64 0) (.slice none 0 0)
  have hb := below24 HB.out G2.out (.int .i64 tag) (.int .i64 kind) (.int .i64 order) (.bool false) (.string ⟨#[]⟩) (.string ⟨#[]⟩) (.int .i64 0) (.int .i64 0) (.slice none 0 0)
  generalize (((((((((w10.setCell ⟨g2, 0, none⟩ (.int .i64 tag)).setCell ⟨g2, 1, none⟩ (.int .i64 kind)).setCell ⟨g2, 2, none⟩ (.int .i64 order)).setCell ⟨g2, 3, none⟩ (.bool false)).setCell ⟨g2, 4, none⟩ (.string ⟨#[]⟩)).setCell ⟨g2, 5, none⟩ (.string ⟨#[]⟩)).setCell ⟨g2, 6, none⟩ (.int .i64 0)).setCell ⟨g2, 7, none⟩ (.int .i64 0)).setCell ⟨g2, 8, none⟩ (.slice none 0 0)) = w11 at hk1 hk2 hb ⊢
  replace HK1 := Aside0.mk hk1
  have HK2 := Aside0.mk hk2
  replace HB := Aside0.mk hb
  clear hk1 hk2 hb BK
  obtain ⟨c0, c1, c2, c3, c4, c5, c6, c7, c8⟩ := cells24 HK1.out
  obtain ⟨d0, d1, d2, d3, d4, d5, d6, d7, d8⟩ := cells24 HK2.out
  obtain ⟨f0, f1, f2, f3, f4, f5, f6, f7, f8⟩ := frozen24 HK2.out
  go_upto_region 5 with (fail)
  clear c0 c1 c2 c3 c4 c5 c6 c7 c8 d0 d1 d2 d3 d4 d5 d6 d7 d8 f0 f1 f2 f3 f4 f5 f6 f7 f8
  have hk2 := (blk_put HK2.out 4 (.string vol) rfl)
  have hk1 := (blk_far HK1.out (p := ⟨g2, 4, none⟩) NE.out (.string vol))
  have hb : Below w.heap.size w ((w11).setCell ⟨g2, 4, none⟩ (.string vol)) := (below_set HB.out G2.out)
  generalize (w11).setCell ⟨g2, 4, none⟩ (.string vol) = w12 at hk1 hk2 hb ⊢
  replace HK1 := Aside0.mk hk1
  replace HK2 := Aside0.mk hk2
  replace HB := Aside0.mk hb
  clear hk1 hk2 hb
  have c4 := (blk_cell HK1.out 4).trans (show _ = some (Value.string vol) from rfl)
  go_wp2_with fail
  clear c4
  refine (name_any vol w12).mono ?_
  rintro e w13 ⟨rfl, hb⟩
  replace HK1 := Aside0.mk (blk_below HK1.out hb)
  replace HK2 := Aside0.mk (blk_below HK2.out hb)
  replace HB := Aside0.mk (below_step HB.out hb)
  clear hb
  obtain ⟨c0, c1, c2, c3, c4, c5, c6, c7, c8⟩ := cells24 HK1.out
  obtain ⟨d0, d1, d2, d3, d4, d5, d6, d7, d8⟩ := cells24 HK2.out
  obtain ⟨f0, f1, f2, f3, f4, f5, f6, f7, f8⟩ := frozen24 HK2.out
  have eok : ok = false := by
    rw [← HOK.out]; unfold okC
    simp only [beq_eq_false_iff_ne] at k1 k2 k3 k4 k5 k6 k7
    simp [k1, k2, k3, k4, k5, k6, k7]
  have EOK := Lib.hid eok
  clear eok
  go_wp2
  go_ret
  exact ⟨by rw [EOK.out]; rfl, HB.out⟩
end Go.Proofs.YthbnghdobmghlaaDoor.ST
