import Derived.Test.YthbnghdobmghlaaDoorVJ11
namespace Go.Proofs.YthbnghdobmghlaaDoor.ST
open Go.RowKit Go.Proofs.YthbnghdobmghlaaDoorW.PrintWords Go.Proofs.YthbnghdobmghlaaDoorW.PrintLast Go.Proofs.YthbnghdobmghlaaDoorW.PrintMore Go.Proofs.YthbnghdobmghlaaDoor.PC
set_option linter.unusedVariables false
set_option linter.unusedSimpArgs false
def exA : ByteArray := ⟨#[119, 114, 105, 116, 101, 32, 55, 32, 118, 111, 108, 32, 51, 32, 48, 48, 49, 49, 50, 50, 51, 51, 52, 52, 53, 53, 54, 54, 55, 55, 32, 56, 56, 57, 57, 97, 97, 98, 98, 99, 99, 100, 100, 101, 101, 102, 102, 32, 102, 111, 114, 99, 101]⟩
def exB : ByteArray := ⟨#[114, 101, 97, 100, 32, 48, 56, 32, 118, 111, 108, 32, 48, 32, 52]⟩
def exD : ByteArray := ⟨#[114, 101, 97, 100, 32, 56, 32, 118, 111, 108, 32, 48, 32, 49, 55]⟩
def exC : Cmd := ⟨7, 2, 0, true, ⟨#[118, 111, 108]⟩, ⟨#[]⟩, 3, 2, [⟨0, 17, 34, 51, 68, 85, 102, 119⟩, ⟨136, 153, 170, 187, 204, 221, 238, 255⟩]⟩
instance : DecidableEq S35 := fun a b => decidable_of_iff _ (eq35_iff a b)
instance : DecidableEq Cmd := fun a b => decidable_of_iff _ (sameC_iff a b)
theorem ex1 : parseC exA = (exC, 0) := by decide +kernel
theorem ex2 : (parseC exB).2 = 4 := by decide +kernel
theorem ex3 : (parseC exD).2 = 4 := by decide +kernel
theorem ex4 : textC exC = exA.data.toList := by decide +kernel
set_option maxHeartbeats 8000000 in
set_option maxRecDepth 100000 in
theorem awake_any (w : World) (hL : Ld w) : Calls Tryd.prog 9 #[] w fun e w' => e = .returned (.bool true) ∧ Below w.heap.size w w' := by
  have hu24 := Tryd.underlying24
  have HLD := Aside0.mk hL
  clear hL
  go_enter Tryd.func9, Tryd.ntmps9
  go_wp2_with fail
  have p1 := Parse_any exA w HLD.out (by decide)
  rw [ex1] at p1
  refine p1.mono ?_
  clear p1
  rintro e w1 ⟨⟨A, cap, rfl, hC, hle⟩, hb⟩
  have HC := Aside0.mk hC
  have HLE := Aside0.mk hle
  have HB := Aside0.mk hb
  have HB0 := Aside0.mk hb
  clear hC hle hb
  unfold cmdV exC
  simp only [List.length_cons, List.length_nil]
  go_upto_region 2 with ((with_reducible refine gate_dst (N := 1) rfl ?_); refine box_event ?hg (N := 1) ?hd (cs := #[.int .i64 0, .int .i64 0, .int .i64 0, .bool false, .string ⟨#[]⟩, .string ⟨#[]⟩, .int .i64 0, .int .i64 0, .slice none 0 0]) (t := 24) ?hr ?_; (case hd => rfl); (case hg => rfl); (case hr => first | (go_simp; done) | (go_simp; rfl)); intro g1 hg w2 hbox hb; have G1 : Aside0 (w1.heap.size ≤ g1) := ⟨Nat.le_of_eq hg.symm⟩; have H1 := Aside0.mk hbox; have HB1 := Aside0.mk hb; obtain ⟨z0, z1, z2, z3, z4, z5, z6, z7, z8⟩ := cells24 hbox; obtain ⟨f0, f1, f2, f3, f4, f5, f6, f7, f8⟩ := frozen24 hbox; clear hg hb hbox)
  clear z0 z1 z2 z3 z4 z5 z6 z7 z8 f0 f1 f2 f3 f4 f5 f6 f7 f8
  have hk := put24 H1.out (.int .i64 7) (.int .i64 2) (.int .i64 0) (.bool true) (.string ⟨#[118, 111, 108]⟩) (.string ⟨#[]⟩) (.int .i64 3) (.int .i64 2) (.slice A 2 cap)
  have hb := below24 HB1.out G1.out (.int .i64 7) (.int .i64 2) (.int .i64 0) (.bool true) (.string ⟨#[118, 111, 108]⟩) (.string ⟨#[]⟩) (.int .i64 3) (.int .i64 2) (.slice A 2 cap)
  generalize (((((((((w2.setCell ⟨g1, 0, none⟩ (.int .i64 7)).setCell ⟨g1, 1, none⟩ (.int .i64 2)).setCell ⟨g1, 2, none⟩ (.int .i64 0)).setCell ⟨g1, 3, none⟩ (.bool true)).setCell ⟨g1, 4, none⟩ (.string ⟨#[118, 111, 108]⟩)).setCell ⟨g1, 5, none⟩ (.string ⟨#[]⟩)).setCell ⟨g1, 6, none⟩ (.int .i64 3)).setCell ⟨g1, 7, none⟩ (.int .i64 2)).setCell ⟨g1, 8, none⟩ (.slice A 2 cap)) = w3 at hk hb ⊢
  replace H1 := Aside0.mk hk
  replace HB := Aside0.mk (below_step HB.out hb)
  replace HB1 := Aside0.mk hb
  clear hk hb
  go_wp2_with fail
  have p2 := Parse_any exB w3 (HLD.out.below HB.out) (by decide)
  refine p2.mono ?_
  clear p2
  rintro e w4 ⟨⟨A2, cap2, rfl, -, -⟩, hb⟩
  replace H1 := Aside0.mk (blk_below H1.out hb)
  replace HB := Aside0.mk (below_step HB.out hb)
  replace HB1 := Aside0.mk (below_step HB1.out hb)
  clear hb
  have exq := ex2
  generalize parseC exB = r2 at exq ⊢
  obtain ⟨⟨tag2, kind2, order2, force2, vol2, other2, pos2, len2, data2⟩, en2⟩ := r2
  simp only at exq
  subst exq
  unfold cmdV
  simp only
  go_upto_region 3 with ((with_reducible refine gate_dst (N := 3) rfl ?_); refine box_event ?hg (N := 3) ?hd (cs := #[.int .i64 0, .int .i64 0, .int .i64 0, .bool false, .string ⟨#[]⟩, .string ⟨#[]⟩, .int .i64 0, .int .i64 0, .slice none 0 0]) (t := 24) ?hr ?_; (case hd => rfl); (case hg => rfl); (case hr => first | (go_simp; done) | (go_simp; rfl)); intro g3 hg w5 hbox hb; have G3 : Aside0 (w1.heap.size ≤ g3) := ⟨by rw [hg]; exact below_size HB1.out⟩; have N13 : Aside0 (g1 ≠ g3) := ⟨by have := blk_lt H1.out; omega⟩; have H1b := Aside0.mk (blk_below H1.out hb); have HB1b := Aside0.mk (below_step HB1.out hb); obtain ⟨z0, z1, z2, z3, z4, z5, z6, z7, z8⟩ := cells24 hbox; obtain ⟨f0, f1, f2, f3, f4, f5, f6, f7, f8⟩ := frozen24 hbox; clear hg hb hbox)
  clear z0 z1 z2 z3 z4 z5 z6 z7 z8 f0 f1 f2 f3 f4 f5 f6 f7 f8
  have hk := far24 H1b.out N13.out (.int .i64 tag2) (.int .i64 kind2) (.int .i64 order2) (.bool force2) (.string vol2) (.string other2) (.int .i64 pos2) (.int .i64 len2) (.slice A2 data2.length cap2)
  have hb := below24 HB1b.out G3.out (.int .i64 tag2) (.int .i64 kind2) (.int .i64 order2) (.bool force2) (.string vol2) (.string other2) (.int .i64 pos2) (.int .i64 len2) (.slice A2 data2.length cap2)
  generalize (((((((((w5.setCell ⟨g3, 0, none⟩ (.int .i64 tag2)).setCell ⟨g3, 1, none⟩ (.int .i64 kind2)).setCell ⟨g3, 2, none⟩ (.int .i64 order2)).setCell ⟨g3, 3, none⟩ (.bool force2)).setCell ⟨g3, 4, none⟩ (.string vol2)).setCell ⟨g3, 5, none⟩ (.string other2)).setCell ⟨g3, 6, none⟩ (.int .i64 pos2)).setCell ⟨g3, 7, none⟩ (.int .i64 len2)).setCell ⟨g3, 8, none⟩ (.slice A2 data2.length cap2)) = w6 at hk hb ⊢
  replace H1 := Aside0.mk hk
  replace HB := Aside0.mk (below_step HB0.out hb)
  replace HB1 := Aside0.mk hb
  clear hk hb
  go_wp2_with fail
  have p3 := Parse_any exD w6 (HLD.out.below HB.out) (by decide)
  refine p3.mono ?_
  clear p3
  rintro e w7 ⟨⟨A3, cap3, rfl, -, -⟩, hb⟩
  replace H1 := Aside0.mk (blk_below H1.out hb)
  replace HB := Aside0.mk (below_step HB.out hb)
  replace HB1 := Aside0.mk (below_step HB1.out hb)
  clear hb
  have exr := ex3
  generalize parseC exD = r3 at exr ⊢
  obtain ⟨⟨tag3, kind3, order3, force3, vol3, other3, pos3, len3, data3⟩, en3⟩ := r3
  simp only at exr
  subst exr
  unfold cmdV
  simp only
  go_upto_region 4 with ((with_reducible refine gate_dst (N := 5) rfl ?_); refine box_event ?hg (N := 5) ?hd (cs := #[.int .i64 0, .int .i64 0, .int .i64 0, .bool false, .string ⟨#[]⟩, .string ⟨#[]⟩, .int .i64 0, .int .i64 0, .slice none 0 0]) (t := 24) ?hr ?_; (case hd => rfl); (case hg => rfl); (case hr => first | (go_simp; done) | (go_simp; rfl)); intro g5 hg w8 hbox hb; have G5 : Aside0 (w1.heap.size ≤ g5) := ⟨by rw [hg]; exact below_size HB1.out⟩; have N15 : Aside0 (g1 ≠ g5) := ⟨by have := blk_lt H1.out; omega⟩; have H1c := Aside0.mk (blk_below H1.out hb); have HB1c := Aside0.mk (below_step HB1.out hb); obtain ⟨z0, z1, z2, z3, z4, z5, z6, z7, z8⟩ := cells24 hbox; obtain ⟨f0, f1, f2, f3, f4, f5, f6, f7, f8⟩ := frozen24 hbox; clear hg hb hbox)
  clear z0 z1 z2 z3 z4 z5 z6 z7 z8 f0 f1 f2 f3 f4 f5 f6 f7 f8
  have hk := far24 H1c.out N15.out (.int .i64 tag3) (.int .i64 kind3) (.int .i64 order3) (.bool force3) (.string vol3) (.string other3) (.int .i64 pos3) (.int .i64 len3) (.slice A3 data3.length cap3)
  have hb := below24 HB1c.out G5.out (.int .i64 tag3) (.int .i64 kind3) (.int .i64 order3) (.bool force3) (.string vol3) (.string other3) (.int .i64 pos3) (.int .i64 len3) (.slice A3 data3.length cap3)
  generalize (((((((((w8.setCell ⟨g5, 0, none⟩ (.int .i64 tag3)).setCell ⟨g5, 1, none⟩ (.int .i64 kind3)).setCell ⟨g5, 2, none⟩ (.int .i64 order3)).setCell ⟨g5, 3, none⟩ (.bool force3)).setCell ⟨g5, 4, none⟩ (.string vol3)).setCell ⟨g5, 5, none⟩ (.string other3)).setCell ⟨g5, 6, none⟩ (.int .i64 pos3)).setCell ⟨g5, 7, none⟩ (.int .i64 len3)).setCell ⟨g5, 8, none⟩ (.slice A3 data3.length cap3)) = w9 at hk hb ⊢
  replace H1 := Aside0.mk hk
  replace HB := Aside0.mk (below_step HB0.out hb)
  replace HB1 := Aside0.mk hb
  clear hk hb
  obtain ⟨c0, c1, c2, c3, c4, c5, c6, c7, c8⟩ := cells24 H1.out
  obtain ⟨ad, hA, x0, -⟩ := at35c HC.out 1 (by decide) rfl HB1.out
  subst hA
  have p1 : ((1 : Int) < (2 : Int)) = True := by decide
  have ht : Aside0 (Calls Tryd.prog 15 #[.agg #[.int .i64 7, .int .i64 2, .int .i64 0, .bool true, .string ⟨#[118, 111, 108]⟩, .string ⟨#[]⟩, .int .i64 3, .int .i64 2, .slice (some ad) 2 cap]] w9 fun e w' => e = .returned (.string exA) ∧ Below w9.heap.size w9 w') := ⟨by
    have h := Text_any exC w9 (some ad) cap (Kd.C_below HC.out HB1.out) HLE.out (by decide) (by decide) (HLD.out.below HB.out)
    rw [ex4] at h
    exact h⟩
  replace x0 : w9.cell? ⟨ad.block, ad.off + 8, none⟩ = some (.int .u8 136) := x0
  go_wp2_with fail
  refine ht.out.mono ?_
  rintro e w10 ⟨rfl, hb⟩
  have HB10 := Aside0.mk (below_step HB.out hb)
  clear hb ht x0 p1 c0 c1 c2 c3 c4 c5 c6 c7 c8
  unfold exA
  go_wp2
  go_ret
  exact ⟨rfl, HB10.out⟩
end Go.Proofs.YthbnghdobmghlaaDoor.ST
