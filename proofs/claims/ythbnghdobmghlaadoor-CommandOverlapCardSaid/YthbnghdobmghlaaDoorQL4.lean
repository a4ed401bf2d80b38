import Derived.Test.YthbnghdobmghlaaDoorQL3
namespace Go.Proofs.YthbnghdobmghlaaDoor.ST
open Go.RowKit Go.Proofs.YthbnghdobmghlaaDoorW.PrintWords Go.Proofs.YthbnghdobmghlaaDoorW.PrintLast Go.Proofs.YthbnghdobmghlaaDoorW.PrintMore Go.Proofs.YthbnghdobmghlaaDoor.PC
set_option linter.unusedVariables false
set_option linter.unusedSimpArgs false
set_option maxHeartbeats 8000000 in
set_option maxRecDepth 100000 in
theorem CommandOverlap_n1 (w : World) (a b : Cmd) (A B : Option Addr) (cap1 cap2 : Nat) (hA : Kd.C k35 w A a.data.length a.data) (hcap1 : a.data.length ≤ cap1) (hB : Kd.C k35 w B b.data.length b.data) (hcap2 : b.data.length ≤ cap2) (hL : Ld w) (hf1 : fairC a = false) :
    Calls Tryd.prog 8 #[cmdV a (.slice A a.data.length cap1), cmdV b (.slice B b.data.length cap2)] w fun e w' => e = .returned (.bool true) ∧ Below w.heap.size w w' := by
  have hu24 := Tryd.underlying24
  have HF1 := Lib.hid hf1
  clear hf1
  obtain ⟨tag1, kind1, order1, force1, vol1, other1, pos1, len1, data1⟩ := a
  obtain ⟨tag2, kind2, order2, force2, vol2, other2, pos2, len2, data2⟩ := b
  simp only at hA hcap1 hB hcap2
  unfold cmdV
  have HA := Aside0.mk hA
  have HCB := Aside0.mk hB
  have HCAP1 := Aside0.mk hcap1
  have HCAP2 := Aside0.mk hcap2
  have HLD := Aside0.mk hL
  clear hA hB hcap1 hcap2 hL
  go_enter Tryd.func8, Tryd.ntmps8
  go_wp2_with fail
  have HK1 := Aside0.mk (blk_below (blk_new w (.cells #[.int .i64 tag1, .int .i64 kind1, .int .i64 order1, .bool force1, .string vol1, .string other1, .int .i64 pos1, .int .i64 len1, .slice A data1.length cap1] 24)) (below_allocs (w.alloc (.cells #[.int .i64 tag1, .int .i64 kind1, .int .i64 order1, .bool force1, .string vol1, .string other1, .int .i64 pos1, .int .i64 len1, .slice A data1.length cap1] 24)) (.cells #[.int .i64 tag2, .int .i64 kind2, .int .i64 order2, .bool force2, .string vol2, .string other2, .int .i64 pos2, .int .i64 len2, .slice B data2.length cap2] 24)))
  have HK2 := Aside0.mk (blk_new (w.alloc (.cells #[.int .i64 tag1, .int .i64 kind1, .int .i64 order1, .bool force1, .string vol1, .string other1, .int .i64 pos1, .int .i64 len1, .slice A data1.length cap1] 24)) (.cells #[.int .i64 tag2, .int .i64 kind2, .int .i64 order2, .bool force2, .string vol2, .string other2, .int .i64 pos2, .int .i64 len2, .slice B data2.length cap2] 24))
  rw [World.size_alloc] at HK2
  have HB := Aside0.mk (below_step (below_allocs w (.cells #[.int .i64 tag1, .int .i64 kind1, .int .i64 order1, .bool force1, .string vol1, .string other1, .int .i64 pos1, .int .i64 len1, .slice A data1.length cap1] 24)) (below_allocs (w.alloc (.cells #[.int .i64 tag1, .int .i64 kind1, .int .i64 order1, .bool force1, .string vol1, .string other1, .int .i64 pos1, .int .i64 len1, .slice A data1.length cap1] 24)) (.cells #[.int .i64 tag2, .int .i64 kind2, .int .i64 order2, .bool force2, .string vol2, .string other2, .int .i64 pos2, .int .i64 len2, .slice B data2.length cap2] 24)))
  generalize (w.alloc (.cells #[.int .i64 tag1, .int .i64 kind1, .int .i64 order1, .bool force1, .string vol1, .string other1, .int .i64 pos1, .int .i64 len1, .slice A data1.length cap1] 24)).alloc (.cells #[.int .i64 tag2, .int .i64 kind2, .int .i64 order2, .bool force2, .string vol2, .string other2, .int .i64 pos2, .int .i64 len2, .slice B data2.length cap2] 24) = w1 at HK1 HK2 HB ⊢
  refine (awake_any w1 (HLD.out.below HB.out)).mono ?_
  rintro e w2 ⟨rfl, hb⟩
  replace HK1 := Aside0.mk (blk_below HK1.out hb)
  replace HK2 := Aside0.mk (blk_below HK2.out hb)
  replace HB := Aside0.mk (below_step HB.out hb)
  clear hb
  obtain ⟨c0, c1, c2, c3, c4, c5, c6, c7, c8⟩ := cells24 HK1.out
  go_wp2_with fail
  have hfa := fair_any ⟨tag1, kind1, order1, force1, vol1, other1, pos1, len1, data1⟩ w2 A cap1 (Kd.C_below HA.out HB.out) HCAP1.out
  rw [HF1.out] at hfa
  refine hfa.mono ?_
  clear hfa c0 c1 c2 c3 c4 c5 c6 c7 c8
  rintro e w3 ⟨rfl, hb⟩
  replace HK1 := Aside0.mk (blk_below HK1.out hb)
  replace HK2 := Aside0.mk (blk_below HK2.out hb)
  replace HB := Aside0.mk (below_step HB.out hb)
  clear hb
  go_wp2_with fail
  refine (awake_any w3 (HLD.out.below HB.out)).mono ?_
  rintro e w5 ⟨rfl, hb⟩
  replace HB := Aside0.mk (below_step HB.out hb)
  clear hb
  go_wp2
  go_ret
  exact ⟨rfl, HB.out⟩
set_option maxHeartbeats 8000000 in
set_option maxRecDepth 100000 in
theorem CommandOverlap_n2 (w : World) (a b : Cmd) (A B : Option Addr) (cap1 cap2 : Nat) (hA : Kd.C k35 w A a.data.length a.data) (hcap1 : a.data.length ≤ cap1) (hB : Kd.C k35 w B b.data.length b.data) (hcap2 : b.data.length ≤ cap2) (hL : Ld w) (hf1 : fairC a = true) (hf2 : fairC b = false) :
    Calls Tryd.prog 8 #[cmdV a (.slice A a.data.length cap1), cmdV b (.slice B b.data.length cap2)] w fun e w' => e = .returned (.bool true) ∧ Below w.heap.size w w' := by
  have hu24 := Tryd.underlying24
  have HF1 := Lib.hid hf1
  have HF2 := Lib.hid hf2
  clear hf1 hf2
  obtain ⟨tag1, kind1, order1, force1, vol1, other1, pos1, len1, data1⟩ := a
  obtain ⟨tag2, kind2, order2, force2, vol2, other2, pos2, len2, data2⟩ := b
  simp only at hA hcap1 hB hcap2
  unfold cmdV
  have HA := Aside0.mk hA
  have HCB := Aside0.mk hB
  have HCAP1 := Aside0.mk hcap1
  have HCAP2 := Aside0.mk hcap2
  have HLD := Aside0.mk hL
  clear hA hB hcap1 hcap2 hL
  go_enter Tryd.func8, Tryd.ntmps8
  go_wp2_with fail
  have HK1 := Aside0.mk (blk_below (blk_new w (.cells #[.int .i64 tag1, .int .i64 kind1, .int .i64 order1, .bool force1, .string vol1, .string other1, .int .i64 pos1, .int .i64 len1, .slice A data1.length cap1] 24)) (below_allocs (w.alloc (.cells #[.int .i64 tag1, .int .i64 kind1, .int .i64 order1, .bool force1, .string vol1, .string other1, .int .i64 pos1, .int .i64 len1, .slice A data1.length cap1] 24)) (.cells #[.int .i64 tag2, .int .i64 kind2, .int .i64 order2, .bool force2, .string vol2, .string other2, .int .i64 pos2, .int .i64 len2, .slice B data2.length cap2] 24)))
  have HK2 := Aside0.mk (blk_new (w.alloc (.cells #[.int .i64 tag1, .int .i64 kind1, .int .i64 order1, .bool force1, .string vol1, .string other1, .int .i64 pos1, .int .i64 len1, .slice A data1.length cap1] 24)) (.cells #[.int .i64 tag2, .int .i64 kind2, .int .i64 order2, .bool force2, .string vol2, .string other2, .int .i64 pos2, .int .i64 len2, .slice B data2.length cap2] 24))
  rw [World.size_alloc] at HK2
  have HB := Aside0.mk (below_step (below_allocs w (.cells #[.int .i64 tag1, .int .i64 kind1, .int .i64 order1, .bool force1, .string vol1, .string other1, .int .i64 pos1, .int .i64 len1, .slice A data1.length cap1] 24)) (below_allocs (w.alloc (.cells #[.int .i64 tag1, .int .i64 kind1, .int .i64 order1, .bool force1, .string vol1, .string other1, .int .i64 pos1, .int .i64 len1, .slice A data1.length cap1] 24)) (.cells #[.int .i64 tag2, .int .i64 kind2, .int .i64 order2, .bool force2, .string vol2, .string other2, .int .i64 pos2, .int .i64 len2, .slice B data2.length cap2] 24)))
  generalize (w.alloc (.cells #[.int .i64 tag1, .int .i64 kind1, .int .i64 order1, .bool force1, .string vol1, .string other1, .int .i64 pos1, .int .i64 len1, .slice A data1.length cap1] 24)).alloc (.cells #[.int .i64 tag2, .int .i64 kind2, .int .i64 order2, .bool force2, .string vol2, .string other2, .int .i64 pos2, .int .i64 len2, .slice B data2.length cap2] 24) = w1 at HK1 HK2 HB ⊢
  refine (awake_any w1 (HLD.out.below HB.out)).mono ?_
  rintro e w2 ⟨rfl, hb⟩
  replace HK1 := Aside0.mk (blk_below HK1.out hb)
  replace HK2 := Aside0.mk (blk_below HK2.out hb)
  replace HB := Aside0.mk (below_step HB.out hb)
  clear hb
  obtain ⟨c0, c1, c2, c3, c4, c5, c6, c7, c8⟩ := cells24 HK1.out
  go_wp2_with fail
  have hfa := fair_any ⟨tag1, kind1, order1, force1, vol1, other1, pos1, len1, data1⟩ w2 A cap1 (Kd.C_below HA.out HB.out) HCAP1.out
  rw [HF1.out] at hfa
  refine hfa.mono ?_
  clear hfa c0 c1 c2 c3 c4 c5 c6 c7 c8
  rintro e w3 ⟨rfl, hb⟩
  replace HK1 := Aside0.mk (blk_below HK1.out hb)
  replace HK2 := Aside0.mk (blk_below HK2.out hb)
  replace HB := Aside0.mk (below_step HB.out hb)
  clear hb
  obtain ⟨c0, c1, c2, c3, c4, c5, c6, c7, c8⟩ := cells24 HK2.out
  go_wp2_with fail
  have hfa := fair_any ⟨tag2, kind2, order2, force2, vol2, other2, pos2, len2, data2⟩ w3 B cap2 (Kd.C_below HCB.out HB.out) HCAP2.out
  rw [HF2.out] at hfa
  refine hfa.mono ?_
  clear hfa c0 c1 c2 c3 c4 c5 c6 c7 c8
  rintro e w4 ⟨rfl, hb⟩
  replace HK1 := Aside0.mk (blk_below HK1.out hb)
  replace HK2 := Aside0.mk (blk_below HK2.out hb)
  replace HB := Aside0.mk (below_step HB.out hb)
  clear hb
  go_wp2_with fail
  refine (awake_any w4 (HLD.out.below HB.out)).mono ?_
  rintro e w5 ⟨rfl, hb⟩
  replace HB := Aside0.mk (below_step HB.out hb)
  clear hb
  go_wp2
  go_ret
  exact ⟨rfl, HB.out⟩
set_option maxHeartbeats 8000000 in
set_option maxRecDepth 100000 in
theorem CommandOverlap_yes (w : World) (a b : Cmd) (A B : Option Addr) (cap1 cap2 : Nat) (hA : Kd.C k35 w A a.data.length a.data) (hcap1 : a.data.length ≤ cap1) (hB : Kd.C k35 w B b.data.length b.data) (hcap2 : b.data.length ≤ cap2) (hL : Ld w) (hf1 : fairC a = true) (hf2 : fairC b = true) :
    Calls Tryd.prog 8 #[cmdV a (.slice A a.data.length cap1), cmdV b (.slice B b.data.length cap2)] w fun e w' => e = .returned (.bool true) ∧ Below w.heap.size w w' := by
  have hu24 := Tryd.underlying24
  have h1 := fair_len hf1
  have h2 := fair_len hf2
  have HOV := Aside0.mk (fun W h h' => Over_any a b W A B cap1 cap2 h hcap1 h' hcap2 h1 h2)
  have HOVB := Aside0.mk (fun W h h' => Over_any b a W B A cap2 cap1 h hcap2 h' hcap1 h2 h1)
  have HOR := Aside0.mk (fun W h h' => OverR_any a b W A B cap1 cap2 h hcap1 h' hcap2)
  rw [over_symm b a] at HOVB
  generalize overC a b = ov at HOV HOVB HOR
  clear h1 h2
  have HF1 := Lib.hid hf1
  have HF2 := Lib.hid hf2
  clear hf1 hf2
  obtain ⟨tag1, kind1, order1, force1, vol1, other1, pos1, len1, data1⟩ := a
  obtain ⟨tag2, kind2, order2, force2, vol2, other2, pos2, len2, data2⟩ := b
  simp only at hA hcap1 hB hcap2
  unfold cmdV at HOV HOVB HOR ⊢
  have HA := Aside0.mk hA
  have HCB := Aside0.mk hB
  have HCAP1 := Aside0.mk hcap1
  have HCAP2 := Aside0.mk hcap2
  have HLD := Aside0.mk hL
  clear hA hB hcap1 hcap2 hL
  go_enter Tryd.func8, Tryd.ntmps8
  go_wp2_with fail
  have HK1 := Aside0.mk (blk_below (blk_new w (.cells #[.int .i64 tag1, .int .i64 kind1, .int .i64 order1, .bool force1, .string vol1, .string other1, .int .i64 pos1, .int .i64 len1, .slice A data1.length cap1] 24)) (below_allocs (w.alloc (.cells #[.int .i64 tag1, .int .i64 kind1, .int .i64 order1, .bool force1, .string vol1, .string other1, .int .i64 pos1, .int .i64 len1, .slice A data1.length cap1] 24)) (.cells #[.int .i64 tag2, .int .i64 kind2, .int .i64 order2, .bool force2, .string vol2, .string other2, .int .i64 pos2, .int .i64 len2, .slice B data2.length cap2] 24)))
  have HK2 := Aside0.mk (blk_new (w.alloc (.cells #[.int .i64 tag1, .int .i64 kind1, .int .i64 order1, .bool force1, .string vol1, .string other1, .int .i64 pos1, .int .i64 len1, .slice A data1.length cap1] 24)) (.cells #[.int .i64 tag2, .int .i64 kind2, .int .i64 order2, .bool force2, .string vol2, .string other2, .int .i64 pos2, .int .i64 len2, .slice B data2.length cap2] 24))
  rw [World.size_alloc] at HK2
  have HB := Aside0.mk (below_step (below_allocs w (.cells #[.int .i64 tag1, .int .i64 kind1, .int .i64 order1, .bool force1, .string vol1, .string other1, .int .i64 pos1, .int .i64 len1, .slice A data1.length cap1] 24)) (below_allocs (w.alloc (.cells #[.int .i64 tag1, .int .i64 kind1, .int .i64 order1, .bool force1, .string vol1, .string other1, .int .i64 pos1, .int .i64 len1, .slice A data1.length cap1] 24)) (.cells #[.int .i64 tag2, .int .i64 kind2, .int .i64 order2, .bool force2, .string vol2, .string other2, .int .i64 pos2, .int .i64 len2, .slice B data2.length cap2] 24)))
  generalize (w.alloc (.cells #[.int .i64 tag1, .int .i64 kind1, .int .i64 order1, .bool force1, .string vol1, .string other1, .int .i64 pos1, .int .i64 len1, .slice A data1.length cap1] 24)).alloc (.cells #[.int .i64 tag2, .int .i64 kind2, .int .i64 order2, .bool force2, .string vol2, .string other2, .int .i64 pos2, .int .i64 len2, .slice B data2.length cap2] 24) = w1 at HK1 HK2 HB ⊢
  refine (awake_any w1 (HLD.out.below HB.out)).mono ?_
  rintro e w2 ⟨rfl, hb⟩
  replace HK1 := Aside0.mk (blk_below HK1.out hb)
  replace HK2 := Aside0.mk (blk_below HK2.out hb)
  replace HB := Aside0.mk (below_step HB.out hb)
  clear hb
  obtain ⟨c0, c1, c2, c3, c4, c5, c6, c7, c8⟩ := cells24 HK1.out
  go_wp2_with fail
  have hfa := fair_any ⟨tag1, kind1, order1, force1, vol1, other1, pos1, len1, data1⟩ w2 A cap1 (Kd.C_below HA.out HB.out) HCAP1.out
  rw [HF1.out] at hfa
  refine hfa.mono ?_
  clear hfa c0 c1 c2 c3 c4 c5 c6 c7 c8
  rintro e w3 ⟨rfl, hb⟩
  replace HK1 := Aside0.mk (blk_below HK1.out hb)
  replace HK2 := Aside0.mk (blk_below HK2.out hb)
  replace HB := Aside0.mk (below_step HB.out hb)
  clear hb
  obtain ⟨c0, c1, c2, c3, c4, c5, c6, c7, c8⟩ := cells24 HK2.out
  go_wp2_with fail
  have hfa := fair_any ⟨tag2, kind2, order2, force2, vol2, other2, pos2, len2, data2⟩ w3 B cap2 (Kd.C_below HCB.out HB.out) HCAP2.out
  rw [HF2.out] at hfa
  refine hfa.mono ?_
  clear hfa c0 c1 c2 c3 c4 c5 c6 c7 c8
  rintro e w4 ⟨rfl, hb⟩
  replace HK1 := Aside0.mk (blk_below HK1.out hb)
  replace HK2 := Aside0.mk (blk_below HK2.out hb)
  replace HB := Aside0.mk (below_step HB.out hb)
  clear hb
  have HCW := Aside0.mk (fun W (hB : Below w4.heap.size w4 W) => Kd.C_below HA.out (below_step HB.out hB))
  have HCV := Aside0.mk (fun W (hB : Below w4.heap.size w4 W) => Kd.C_below HCB.out (below_step HB.out hB))
  have HB0 : Aside0 (Below w4.heap.size w4 w4.drew) := ⟨below_drew1 (Below.refl _ _)⟩
  obtain ⟨c0, c1, c2, c3, c4, c5, c6, c7, c8⟩ := cells24 HK1.out
  obtain ⟨c0', c1', c2', c3', c4', c5', c6', c7', c8'⟩ := cells24 HK2.out
  have HSB : Aside0 (∀ W : World, Below w4.heap.size w4 W → W.cell? ⟨w.heap.size, 0, none⟩ = some (.int .i64 tag1) ∧ W.cell? ⟨w.heap.size, 1, none⟩ = some (.int .i64 kind1) ∧ W.cell? ⟨w.heap.size, 2, none⟩ = some (.int .i64 order1) ∧ W.cell? ⟨w.heap.size, 3, none⟩ = some (.bool force1) ∧ W.cell? ⟨w.heap.size, 4, none⟩ = some (.string vol1) ∧ W.cell? ⟨w.heap.size, 5, none⟩ = some (.string other1) ∧ W.cell? ⟨w.heap.size, 6, none⟩ = some (.int .i64 pos1) ∧ W.cell? ⟨w.heap.size, 7, none⟩ = some (.int .i64 len1) ∧ W.cell? ⟨w.heap.size, 8, none⟩ = some (.slice A data1.length cap1) ∧ W.cell? ⟨(w.heap.size + 1), 0, none⟩ = some (.int .i64 tag2) ∧ W.cell? ⟨(w.heap.size + 1), 1, none⟩ = some (.int .i64 kind2) ∧ W.cell? ⟨(w.heap.size + 1), 2, none⟩ = some (.int .i64 order2) ∧ W.cell? ⟨(w.heap.size + 1), 3, none⟩ = some (.bool force2) ∧ W.cell? ⟨(w.heap.size + 1), 4, none⟩ = some (.string vol2) ∧ W.cell? ⟨(w.heap.size + 1), 5, none⟩ = some (.string other2) ∧ W.cell? ⟨(w.heap.size + 1), 6, none⟩ = some (.int .i64 pos2) ∧ W.cell? ⟨(w.heap.size + 1), 7, none⟩ = some (.int .i64 len2) ∧ W.cell? ⟨(w.heap.size + 1), 8, none⟩ = some (.slice B data2.length cap2)) := by
    refine ⟨fun W hB => ?_⟩
    obtain ⟨d0, d1, d2, d3, d4, d5, d6, d7, d8⟩ := cells24 (blk_below HK1.out hB)
    obtain ⟨e0, e1, e2, e3, e4, e5, e6, e7, e8⟩ := cells24 (blk_below HK2.out hB)
    exact ⟨d0, d1, d2, d3, d4, d5, d6, d7, d8, e0, e1, e2, e3, e4, e5, e6, e7, e8⟩
  go_wp2_with fail
  go_region_held3 (fun W => W.cell? ⟨w.heap.size, 0, none⟩ = some (.int .i64 tag1) ∧ W.cell? ⟨w.heap.size, 1, none⟩ = some (.int .i64 kind1) ∧ W.cell? ⟨w.heap.size, 2, none⟩ = some (.int .i64 order1) ∧ W.cell? ⟨w.heap.size, 3, none⟩ = some (.bool force1) ∧ W.cell? ⟨w.heap.size, 4, none⟩ = some (.string vol1) ∧ W.cell? ⟨w.heap.size, 5, none⟩ = some (.string other1) ∧ W.cell? ⟨w.heap.size, 6, none⟩ = some (.int .i64 pos1) ∧ W.cell? ⟨w.heap.size, 7, none⟩ = some (.int .i64 len1) ∧ W.cell? ⟨w.heap.size, 8, none⟩ = some (.slice A data1.length cap1) ∧ W.cell? ⟨(w.heap.size + 1), 0, none⟩ = some (.int .i64 tag2) ∧ W.cell? ⟨(w.heap.size + 1), 1, none⟩ = some (.int .i64 kind2) ∧ W.cell? ⟨(w.heap.size + 1), 2, none⟩ = some (.int .i64 order2) ∧ W.cell? ⟨(w.heap.size + 1), 3, none⟩ = some (.bool force2) ∧ W.cell? ⟨(w.heap.size + 1), 4, none⟩ = some (.string vol2) ∧ W.cell? ⟨(w.heap.size + 1), 5, none⟩ = some (.string other2) ∧ W.cell? ⟨(w.heap.size + 1), 6, none⟩ = some (.int .i64 pos2) ∧ W.cell? ⟨(w.heap.size + 1), 7, none⟩ = some (.int .i64 len2) ∧ W.cell? ⟨(w.heap.size + 1), 8, none⟩ = some (.slice B data2.length cap2)) (first
    | (with_reducible exact HSB.out _ HB0.out)
    | (with_reducible exact HSB.out _ HB10.out)
    | (with_reducible exact HSB.out _ HB11.out)
    | (with_reducible exact HSB.out _ HB12.out)
    | (with_reducible exact HSB.out _ HB13.out)) (first
    | ((with_reducible (refine Calls.mono (HOV.out _ (HCW.out _ HB0.out) (HCV.out _ HB0.out)) ?_)); rintro e w10 ⟨rfl, hb⟩; have HB10 := Aside0.mk (below_step HB0.out hb); clear hb)
    | ((with_reducible (refine Calls.mono (HOR.out _ (HCW.out _ HB10.out) (HCV.out _ HB10.out)) ?_)); rintro e w11 ⟨rfl, hb⟩; have HB11 := Aside0.mk (below_step HB10.out hb); clear hb)
    | ((with_reducible (refine Calls.mono (HOVB.out _ (HCV.out _ HB11.out) (HCW.out _ HB11.out)) ?_)); rintro e w12 ⟨rfl, hb⟩; have HB12 := Aside0.mk (below_step HB11.out hb); clear hb)
    | ((with_reducible (refine Calls.mono (HOV.out _ (HCW.out _ HB12.out) (HCV.out _ HB12.out)) ?_)); rintro e w13 ⟨rfl, hb⟩; have HB13 := Aside0.mk (below_step HB12.out hb); clear hb))
  all_goals
    go_wp2
    go_ret
    exact ⟨rfl, below_step HB.out HB13.out⟩
theorem CommandOverlap_law (w : World) (a : Cmd) (A : Option Addr) (cap1 : Nat) (b : Cmd) (B : Option Addr) (cap2 : Nat) (hA : Kd.C k35 w A a.data.length a.data) (hcap1 : a.data.length ≤ cap1) (hB : Kd.C k35 w B b.data.length b.data) (hcap2 : b.data.length ≤ cap2) (hL : Ld w) :
    Calls Tryd.prog 8 #[cmdV a (.slice A a.data.length cap1), cmdV b (.slice B b.data.length cap2)] w fun e w' => e = .returned (.bool true) ∧ Below w.heap.size w w' := by
  cases h1 : fairC a
  · exact CommandOverlap_n1 w a b A B cap1 cap2 hA hcap1 hB hcap2 hL h1
  cases h2 : fairC b
  · exact CommandOverlap_n2 w a b A B cap1 cap2 hA hcap1 hB hcap2 hL h1 h2
  exact CommandOverlap_yes w a b A B cap1 cap2 hA hcap1 hB hcap2 hL h1 h2
end Go.Proofs.YthbnghdobmghlaaDoor.ST
