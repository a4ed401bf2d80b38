import Derived.Test.YthbnghdobmghlaaDoorQL3
import Derived.Test.YthbnghdobmghlaaDoorQL5
namespace Go.Proofs.YthbnghdobmghlaaDoor.ST
open Go.RowKit Go.Proofs.YthbnghdobmghlaaDoorW.PrintWords Go.Proofs.YthbnghdobmghlaaDoorW.PrintLast Go.Proofs.YthbnghdobmghlaaDoorW.PrintMore Go.Proofs.YthbnghdobmghlaaDoor.PC
set_option linter.unusedVariables false
set_option linter.unusedSimpArgs false
theorem Range_any (c : Cmd) (w : World) (A : Option Addr) (cap : Nat) (hA : Kd.C k35 w A c.data.length c.data) (hcap : c.data.length ≤ cap) (hn : c.data.length ≤ 140737488355328) {r : ByteArray} {x y : Int} {z : Bool} (hr : rangeC c = (r, x, y, z)) :
    Calls Tryd.prog 13 #[cmdV c (.slice A c.data.length cap)] w fun e w' => e = .returned (.tuple #[.string r, .int .i64 x, .int .i64 y, .bool z]) ∧ Below w.heap.size w w' :=
  command_Range.calls _ _ _ _ _ _ _ _ A cap c.data r x y z w hA hcap ((range_prog c hn).trans (congrArg some hr))
set_option maxHeartbeats 8000000 in
set_option maxRecDepth 100000 in
theorem CommandBlocks_n1 (w : World) (a b : Cmd) (A B : Option Addr) (cap1 cap2 : Nat) (r1 r2 : ByteArray) (x1 x2 y1 y2 : Int) (z1 z2 : Bool) (hra : rangeC a = (r1, x1, y1, z1)) (hrb : rangeC b = (r2, x2, y2, z2)) (hn1 : a.data.length ≤ 140737488355328) (hn2 : b.data.length ≤ 140737488355328) (hA : Kd.C k35 w A a.data.length a.data) (hcap1 : a.data.length ≤ cap1) (hB : Kd.C k35 w B b.data.length b.data) (hcap2 : b.data.length ≤ cap2) (hL : Ld w) (hf1 : fairC a = false) :
    Calls Tryd.prog 4 #[cmdV a (.slice A a.data.length cap1), cmdV b (.slice B b.data.length cap2)] w fun e w' => e = .returned (.bool true) ∧ Below w.heap.size w w' := by
  have hu24 := Tryd.underlying24
  have HRA := Aside0.mk (fun W h => Range_any a W A cap1 h hcap1 hn1 hra)
  have HRB := Aside0.mk (fun W h => Range_any b W B cap2 h hcap2 hn2 hrb)
  have HFA := Aside0.mk (fun W h => fair_any a W A cap1 h hcap1)
  have HFB := Aside0.mk (fun W h => fair_any b W B cap2 h hcap2)
  rw [hf1] at HFA
  clear hra hrb hn1 hn2 hf1
  obtain ⟨tag1, kind1, order1, force1, vol1, other1, pos1, len1, data1⟩ := a
  obtain ⟨tag2, kind2, order2, force2, vol2, other2, pos2, len2, data2⟩ := b
  simp only at hA hB
  unfold cmdV at HRA HRB HFA HFB ⊢
  have HA := Aside0.mk hA
  have HCB := Aside0.mk hB
  have HLD := Aside0.mk hL
  clear hA hB hcap1 hcap2 hL
  go_enter Tryd.func4, Tryd.ntmps4
  go_wp2_with fail
  have HK1 := Aside0.mk (blk_below (blk_new w (.cells #[.int .i64 tag1, .int .i64 kind1, .int .i64 order1, .bool force1, .string vol1, .string other1, .int .i64 pos1, .int .i64 len1, .slice A data1.length cap1] 24)) (below_allocs (w.alloc (.cells #[.int .i64 tag1, .int .i64 kind1, .int .i64 order1, .bool force1, .string vol1, .string other1, .int .i64 pos1, .int .i64 len1, .slice A data1.length cap1] 24)) (.cells #[.int .i64 tag2, .int .i64 kind2, .int .i64 order2, .bool force2, .string vol2, .string other2, .int .i64 pos2, .int .i64 len2, .slice B data2.length cap2] 24)))
  have HK2 := Aside0.mk (blk_new (w.alloc (.cells #[.int .i64 tag1, .int .i64 kind1, .int .i64 order1, .bool force1, .string vol1, .string other1, .int .i64 pos1, .int .i64 len1, .slice A data1.length cap1] 24)) (.cells #[.int .i64 tag2, .int .i64 kind2, .int .i64 order2, .bool force2, .string vol2, .string other2, .int .i64 pos2, .int .i64 len2, .slice B data2.length cap2] 24))
  rw [World.size_alloc] at HK2
  have HB := Aside0.mk (below_step (below_allocs w (.cells #[.int .i64 tag1, .int .i64 kind1, .int .i64 order1, .bool force1, .string vol1, .string other1, .int .i64 pos1, .int .i64 len1, .slice A data1.length cap1] 24)) (below_allocs (w.alloc (.cells #[.int .i64 tag1, .int .i64 kind1, .int .i64 order1, .bool force1, .string vol1, .string other1, .int .i64 pos1, .int .i64 len1, .slice A data1.length cap1] 24)) (.cells #[.int .i64 tag2, .int .i64 kind2, .int .i64 order2, .bool force2, .string vol2, .string other2, .int .i64 pos2, .int .i64 len2, .slice B data2.length cap2] 24)))
  generalize (w.alloc (.cells #[.int .i64 tag1, .int .i64 kind1, .int .i64 order1, .bool force1, .string vol1, .string other1, .int .i64 pos1, .int .i64 len1, .slice A data1.length cap1] 24)).alloc (.cells #[.int .i64 tag2, .int .i64 kind2, .int .i64 order2, .bool force2, .string vol2, .string other2, .int .i64 pos2, .int .i64 len2, .slice B data2.length cap2] 24) = w1 at HK1 HK2 HB ⊢
  obtain ⟨c0, c1, c2, c3, c4, c5, c6, c7, c8⟩ := cells24 HK1.out
  go_wp2_with fail
  refine (HRA.out _ (Kd.C_below HA.out HB.out)).mono ?_
  clear c0 c1 c2 c3 c4 c5 c6 c7 c8
  rintro e w2 ⟨rfl, hb⟩
  replace HK1 := Aside0.mk (blk_below HK1.out hb)
  replace HK2 := Aside0.mk (blk_below HK2.out hb)
  replace HB := Aside0.mk (below_step HB.out hb)
  clear hb
  obtain ⟨c0, c1, c2, c3, c4, c5, c6, c7, c8⟩ := cells24 HK2.out
  go_wp2_with fail
  refine (HRB.out _ (Kd.C_below HCB.out HB.out)).mono ?_
  clear c0 c1 c2 c3 c4 c5 c6 c7 c8
  rintro e w3 ⟨rfl, hb⟩
  replace HK1 := Aside0.mk (blk_below HK1.out hb)
  replace HK2 := Aside0.mk (blk_below HK2.out hb)
  replace HB := Aside0.mk (below_step HB.out hb)
  clear hb
  go_wp2_with fail
  refine (awake_any _ (HLD.out.below HB.out)).mono ?_
  rintro e w4 ⟨rfl, hb⟩
  replace HK1 := Aside0.mk (blk_below HK1.out hb)
  replace HK2 := Aside0.mk (blk_below HK2.out hb)
  replace HB := Aside0.mk (below_step HB.out hb)
  clear hb
  obtain ⟨c0, c1, c2, c3, c4, c5, c6, c7, c8⟩ := cells24 HK1.out
  go_wp2_with fail
  refine (HFA.out _ (Kd.C_below HA.out HB.out)).mono ?_
  clear c0 c1 c2 c3 c4 c5 c6 c7 c8
  rintro e w5 ⟨rfl, hb⟩
  replace HK1 := Aside0.mk (blk_below HK1.out hb)
  replace HK2 := Aside0.mk (blk_below HK2.out hb)
  replace HB := Aside0.mk (below_step HB.out hb)
  clear hb
  go_wp2_with fail
  refine (awake_any _ (HLD.out.below HB.out)).mono ?_
  rintro e w7 ⟨rfl, hb⟩
  replace HB := Aside0.mk (below_step HB.out hb)
  clear hb
  go_wp2
  go_ret
  exact ⟨rfl, HB.out⟩
set_option maxHeartbeats 8000000 in
set_option maxRecDepth 100000 in
theorem CommandBlocks_n2 (w : World) (a b : Cmd) (A B : Option Addr) (cap1 cap2 : Nat) (r1 r2 : ByteArray) (x1 x2 y1 y2 : Int) (z1 z2 : Bool) (hra : rangeC a = (r1, x1, y1, z1)) (hrb : rangeC b = (r2, x2, y2, z2)) (hn1 : a.data.length ≤ 140737488355328) (hn2 : b.data.length ≤ 140737488355328) (hA : Kd.C k35 w A a.data.length a.data) (hcap1 : a.data.length ≤ cap1) (hB : Kd.C k35 w B b.data.length b.data) (hcap2 : b.data.length ≤ cap2) (hL : Ld w) (hf1 : fairC a = true) (hf2 : fairC b = false) :
    Calls Tryd.prog 4 #[cmdV a (.slice A a.data.length cap1), cmdV b (.slice B b.data.length cap2)] w fun e w' => e = .returned (.bool true) ∧ Below w.heap.size w w' := by
  have hu24 := Tryd.underlying24
  have HRA := Aside0.mk (fun W h => Range_any a W A cap1 h hcap1 hn1 hra)
  have HRB := Aside0.mk (fun W h => Range_any b W B cap2 h hcap2 hn2 hrb)
  have HFA := Aside0.mk (fun W h => fair_any a W A cap1 h hcap1)
  have HFB := Aside0.mk (fun W h => fair_any b W B cap2 h hcap2)
  rw [hf1] at HFA
  rw [hf2] at HFB
  clear hra hrb hn1 hn2 hf1 hf2
  obtain ⟨tag1, kind1, order1, force1, vol1, other1, pos1, len1, data1⟩ := a
  obtain ⟨tag2, kind2, order2, force2, vol2, other2, pos2, len2, data2⟩ := b
  simp only at hA hB
  unfold cmdV at HRA HRB HFA HFB ⊢
  have HA := Aside0.mk hA
  have HCB := Aside0.mk hB
  have HLD := Aside0.mk hL
  clear hA hB hcap1 hcap2 hL
  go_enter Tryd.func4, Tryd.ntmps4
  go_wp2_with fail
  have HK1 := Aside0.mk (blk_below (blk_new w (.cells #[.int .i64 tag1, .int .i64 kind1, .int .i64 order1, .bool force1, .string vol1, .string other1, .int .i64 pos1, .int .i64 len1, .slice A data1.length cap1] 24)) (below_allocs (w.alloc (.cells #[.int .i64 tag1, .int .i64 kind1, .int .i64 order1, .bool force1, .string vol1, .string other1, .int .i64 pos1, .int .i64 len1, .slice A data1.length cap1] 24)) (.cells #[.int .i64 tag2, .int .i64 kind2, .int .i64 order2, .bool force2, .string vol2, .string other2, .int .i64 pos2, .int .i64 len2, .slice B data2.length cap2] 24)))
  have HK2 := Aside0.mk (blk_new (w.alloc (.cells #[.int .i64 tag1, .int .i64 kind1, .int .i64 order1, .bool force1, .string vol1, .string other1, .int .i64 pos1, .int .i64 len1, .slice A data1.length cap1] 24)) (.cells #[.int .i64 tag2, .int .i64 kind2, .int .i64 order2, .bool force2, .string vol2, .string other2, .int .i64 pos2, .int .i64 len2, .slice B data2.length cap2] 24))
  rw [World.size_alloc] at HK2
  have HB := Aside0.mk (below_step (below_allocs w (.cells #[.int .i64 tag1, .int .i64 kind1, .int .i64 order1, .bool force1, .string vol1, .string other1, .int .i64 pos1, .int .i64 len1, .slice A data1.length cap1] 24)) (below_allocs (w.alloc (.cells #[.int .i64 tag1, .int .i64 kind1, .int .i64 order1, .bool force1, .string vol1, .string other1, .int .i64 pos1, .int .i64 len1, .slice A data1.length cap1] 24)) (.cells #[.int .i64 tag2, .int .i64 kind2, .int .i64 order2, .bool force2, .string vol2, .string other2, .int .i64 pos2, .int .i64 len2, .slice B data2.length cap2] 24)))
  generalize (w.alloc (.cells #[.int .i64 tag1, .int .i64 kind1, .int .i64 order1, .bool force1, .string vol1, .string other1, .int .i64 pos1, .int .i64 len1, .slice A data1.length cap1] 24)).alloc (.cells #[.int .i64 tag2, .int .i64 kind2, .int .i64 order2, .bool force2, .string vol2, .string other2, .int .i64 pos2, .int .i64 len2, .slice B data2.length cap2] 24) = w1 at HK1 HK2 HB ⊢
  obtain ⟨c0, c1, c2, c3, c4, c5, c6, c7, c8⟩ := cells24 HK1.out
  go_wp2_with fail
  refine (HRA.out _ (Kd.C_below HA.out HB.out)).mono ?_
  clear c0 c1 c2 c3 c4 c5 c6 c7 c8
  rintro e w2 ⟨rfl, hb⟩
  replace HK1 := Aside0.mk (blk_below HK1.out hb)
  replace HK2 := Aside0.mk (blk_below HK2.out hb)
  replace HB := Aside0.mk (below_step HB.out hb)
  clear hb
  obtain ⟨c0, c1, c2, c3, c4, c5, c6, c7, c8⟩ := cells24 HK2.out
  go_wp2_with fail
  refine (HRB.out _ (Kd.C_below HCB.out HB.out)).mono ?_
  clear c0 c1 c2 c3 c4 c5 c6 c7 c8
  rintro e w3 ⟨rfl, hb⟩
  replace HK1 := Aside0.mk (blk_below HK1.out hb)
  replace HK2 := Aside0.mk (blk_below HK2.out hb)
  replace HB := Aside0.mk (below_step HB.out hb)
  clear hb
  go_wp2_with fail
  refine (awake_any _ (HLD.out.below HB.out)).mono ?_
  rintro e w4 ⟨rfl, hb⟩
  replace HK1 := Aside0.mk (blk_below HK1.out hb)
  replace HK2 := Aside0.mk (blk_below HK2.out hb)
  replace HB := Aside0.mk (below_step HB.out hb)
  clear hb
  obtain ⟨c0, c1, c2, c3, c4, c5, c6, c7, c8⟩ := cells24 HK1.out
  go_wp2_with fail
  refine (HFA.out _ (Kd.C_below HA.out HB.out)).mono ?_
  clear c0 c1 c2 c3 c4 c5 c6 c7 c8
  rintro e w5 ⟨rfl, hb⟩
  replace HK1 := Aside0.mk (blk_below HK1.out hb)
  replace HK2 := Aside0.mk (blk_below HK2.out hb)
  replace HB := Aside0.mk (below_step HB.out hb)
  clear hb
  obtain ⟨c0, c1, c2, c3, c4, c5, c6, c7, c8⟩ := cells24 HK2.out
  go_wp2_with fail
  refine (HFB.out _ (Kd.C_below HCB.out HB.out)).mono ?_
  clear c0 c1 c2 c3 c4 c5 c6 c7 c8
  rintro e w6 ⟨rfl, hb⟩
  replace HK1 := Aside0.mk (blk_below HK1.out hb)
  replace HK2 := Aside0.mk (blk_below HK2.out hb)
  replace HB := Aside0.mk (below_step HB.out hb)
  clear hb
  go_wp2_with fail
  refine (awake_any _ (HLD.out.below HB.out)).mono ?_
  rintro e w7 ⟨rfl, hb⟩
  replace HB := Aside0.mk (below_step HB.out hb)
  clear hb
  go_wp2
  go_ret
  exact ⟨rfl, HB.out⟩
set_option maxHeartbeats 8000000 in
set_option maxRecDepth 100000 in
theorem CommandBlocks_n3 (w : World) (a b : Cmd) (A B : Option Addr) (cap1 cap2 : Nat) (r1 r2 : ByteArray) (x1 x2 y1 y2 : Int) (z1 z2 : Bool) (hra : rangeC a = (r1, x1, y1, z1)) (hrb : rangeC b = (r2, x2, y2, z2)) (hn1 : a.data.length ≤ 140737488355328) (hn2 : b.data.length ≤ 140737488355328) (hA : Kd.C k35 w A a.data.length a.data) (hcap1 : a.data.length ≤ cap1) (hB : Kd.C k35 w B b.data.length b.data) (hcap2 : b.data.length ≤ cap2) (hL : Ld w) (hf1 : fairC a = true) (hf2 : fairC b = true) (hz1 : z1 = false) :
    Calls Tryd.prog 4 #[cmdV a (.slice A a.data.length cap1), cmdV b (.slice B b.data.length cap2)] w fun e w' => e = .returned (.bool true) ∧ Below w.heap.size w w' := by
  have hu24 := Tryd.underlying24
  subst hz1
  have HRA := Aside0.mk (fun W h => Range_any a W A cap1 h hcap1 hn1 hra)
  have HRB := Aside0.mk (fun W h => Range_any b W B cap2 h hcap2 hn2 hrb)
  have HFA := Aside0.mk (fun W h => fair_any a W A cap1 h hcap1)
  have HFB := Aside0.mk (fun W h => fair_any b W B cap2 h hcap2)
  rw [hf1] at HFA
  rw [hf2] at HFB
  clear hra hrb hn1 hn2 hf1 hf2
  obtain ⟨tag1, kind1, order1, force1, vol1, other1, pos1, len1, data1⟩ := a
  obtain ⟨tag2, kind2, order2, force2, vol2, other2, pos2, len2, data2⟩ := b
  simp only at hA hB
  unfold cmdV at HRA HRB HFA HFB ⊢
  have HA := Aside0.mk hA
  have HCB := Aside0.mk hB
  have HLD := Aside0.mk hL
  clear hA hB hcap1 hcap2 hL
  go_enter Tryd.func4, Tryd.ntmps4
  go_wp2_with fail
  have HK1 := Aside0.mk (blk_below (blk_new w (.cells #[.int .i64 tag1, .int .i64 kind1, .int .i64 order1, .bool force1, .string vol1, .string other1, .int .i64 pos1, .int .i64 len1, .slice A data1.length cap1] 24)) (below_allocs (w.alloc (.cells #[.int .i64 tag1, .int .i64 kind1, .int .i64 order1, .bool force1, .string vol1, .string other1, .int .i64 pos1, .int .i64 len1, .slice A data1.length cap1] 24)) (.cells #[.int .i64 tag2, .int .i64 kind2, .int .i64 order2, .bool force2, .string vol2, .string other2, .int .i64 pos2, .int .i64 len2, .slice B data2.length cap2] 24)))
  have HK2 := Aside0.mk (blk_new (w.alloc (.cells #[.int .i64 tag1, .int .i64 kind1, .int .i64 order1, .bool force1, .string vol1, .string other1, .int .i64 pos1, .int .i64 len1, .slice A data1.length cap1] 24)) (.cells #[.int .i64 tag2, .int .i64 kind2, .int .i64 order2, .bool force2, .string vol2, .string other2, .int .i64 pos2, .int .i64 len2, .slice B data2.length cap2] 24))
  rw [World.size_alloc] at HK2
  have HB := Aside0.mk (below_step (below_allocs w (.cells #[.int .i64 tag1, .int .i64 kind1, .int .i64 order1, .bool force1, .string vol1, .string other1, .int .i64 pos1, .int .i64 len1, .slice A data1.length cap1] 24)) (below_allocs (w.alloc (.cells #[.int .i64 tag1, .int .i64 kind1, .int .i64 order1, .bool force1, .string vol1, .string other1, .int .i64 pos1, .int .i64 len1, .slice A data1.length cap1] 24)) (.cells #[.int .i64 tag2, .int .i64 kind2, .int .i64 order2, .bool force2, .string vol2, .string other2, .int .i64 pos2, .int .i64 len2, .slice B data2.length cap2] 24)))
  generalize (w.alloc (.cells #[.int .i64 tag1, .int .i64 kind1, .int .i64 order1, .bool force1, .string vol1, .string other1, .int .i64 pos1, .int .i64 len1, .slice A data1.length cap1] 24)).alloc (.cells #[.int .i64 tag2, .int .i64 kind2, .int .i64 order2, .bool force2, .string vol2, .string other2, .int .i64 pos2, .int .i64 len2, .slice B data2.length cap2] 24) = w1 at HK1 HK2 HB ⊢
  obtain ⟨c0, c1, c2, c3, c4, c5, c6, c7, c8⟩ := cells24 HK1.out
  go_wp2_with fail
  refine (HRA.out _ (Kd.C_below HA.out HB.out)).mono ?_
  clear c0 c1 c2 c3 c4 c5 c6 c7 c8
  rintro e w2 ⟨rfl, hb⟩
  replace HK1 := Aside0.mk (blk_below HK1.out hb)
  replace HK2 := Aside0.mk (blk_below HK2.out hb)
  replace HB := Aside0.mk (below_step HB.out hb)
  clear hb
  obtain ⟨c0, c1, c2, c3, c4, c5, c6, c7, c8⟩ := cells24 HK2.out
  go_wp2_with fail
  refine (HRB.out _ (Kd.C_below HCB.out HB.out)).mono ?_
  clear c0 c1 c2 c3 c4 c5 c6 c7 c8
  rintro e w3 ⟨rfl, hb⟩
  replace HK1 := Aside0.mk (blk_below HK1.out hb)
  replace HK2 := Aside0.mk (blk_below HK2.out hb)
  replace HB := Aside0.mk (below_step HB.out hb)
  clear hb
  go_wp2_with fail
  refine (awake_any _ (HLD.out.below HB.out)).mono ?_
  rintro e w4 ⟨rfl, hb⟩
  replace HK1 := Aside0.mk (blk_below HK1.out hb)
  replace HK2 := Aside0.mk (blk_below HK2.out hb)
  replace HB := Aside0.mk (below_step HB.out hb)
  clear hb
  obtain ⟨c0, c1, c2, c3, c4, c5, c6, c7, c8⟩ := cells24 HK1.out
  go_wp2_with fail
  refine (HFA.out _ (Kd.C_below HA.out HB.out)).mono ?_
  clear c0 c1 c2 c3 c4 c5 c6 c7 c8
  rintro e w5 ⟨rfl, hb⟩
  replace HK1 := Aside0.mk (blk_below HK1.out hb)
  replace HK2 := Aside0.mk (blk_below HK2.out hb)
  replace HB := Aside0.mk (below_step HB.out hb)
  clear hb
  obtain ⟨c0, c1, c2, c3, c4, c5, c6, c7, c8⟩ := cells24 HK2.out
  go_wp2_with fail
  refine (HFB.out _ (Kd.C_below HCB.out HB.out)).mono ?_
  clear c0 c1 c2 c3 c4 c5 c6 c7 c8
  rintro e w6 ⟨rfl, hb⟩
  replace HK1 := Aside0.mk (blk_below HK1.out hb)
  replace HK2 := Aside0.mk (blk_below HK2.out hb)
  replace HB := Aside0.mk (below_step HB.out hb)
  clear hb
  go_wp2_with fail
  refine (awake_any _ (HLD.out.below HB.out)).mono ?_
  rintro e w7 ⟨rfl, hb⟩
  replace HB := Aside0.mk (below_step HB.out hb)
  clear hb
  go_wp2
  go_ret
  exact ⟨rfl, HB.out⟩
set_option maxHeartbeats 8000000 in
set_option maxRecDepth 100000 in
theorem CommandBlocks_n4 (w : World) (a b : Cmd) (A B : Option Addr) (cap1 cap2 : Nat) (r1 r2 : ByteArray) (x1 x2 y1 y2 : Int) (z1 z2 : Bool) (hra : rangeC a = (r1, x1, y1, z1)) (hrb : rangeC b = (r2, x2, y2, z2)) (hn1 : a.data.length ≤ 140737488355328) (hn2 : b.data.length ≤ 140737488355328) (hA : Kd.C k35 w A a.data.length a.data) (hcap1 : a.data.length ≤ cap1) (hB : Kd.C k35 w B b.data.length b.data) (hcap2 : b.data.length ≤ cap2) (hL : Ld w) (hf1 : fairC a = true) (hf2 : fairC b = true) (hz1 : z1 = true) (hz2 : z2 = false) :
    Calls Tryd.prog 4 #[cmdV a (.slice A a.data.length cap1), cmdV b (.slice B b.data.length cap2)] w fun e w' => e = .returned (.bool true) ∧ Below w.heap.size w w' := by
  have hu24 := Tryd.underlying24
  subst hz1 hz2
  have HRA := Aside0.mk (fun W h => Range_any a W A cap1 h hcap1 hn1 hra)
  have HRB := Aside0.mk (fun W h => Range_any b W B cap2 h hcap2 hn2 hrb)
  have HFA := Aside0.mk (fun W h => fair_any a W A cap1 h hcap1)
  have HFB := Aside0.mk (fun W h => fair_any b W B cap2 h hcap2)
  rw [hf1] at HFA
  rw [hf2] at HFB
  clear hra hrb hn1 hn2 hf1 hf2
  obtain ⟨tag1, kind1, order1, force1, vol1, other1, pos1, len1, data1⟩ := a
  obtain ⟨tag2, kind2, order2, force2, vol2, other2, pos2, len2, data2⟩ := b
  simp only at hA hB
  unfold cmdV at HRA HRB HFA HFB ⊢
  have HA := Aside0.mk hA
  have HCB := Aside0.mk hB
  have HLD := Aside0.mk hL
  clear hA hB hcap1 hcap2 hL
  go_enter Tryd.func4, Tryd.ntmps4
  go_wp2_with fail
  have HK1 := Aside0.mk (blk_below (blk_new w (.cells #[.int .i64 tag1, .int .i64 kind1, .int .i64 order1, .bool force1, .string vol1, .string other1, .int .i64 pos1, .int .i64 len1, .slice A data1.length cap1] 24)) (below_allocs (w.alloc (.cells #[.int .i64 tag1, .int .i64 kind1, .int .i64 order1, .bool force1, .string vol1, .string other1, .int .i64 pos1, .int .i64 len1, .slice A data1.length cap1] 24)) (.cells #[.int .i64 tag2, .int .i64 kind2, .int .i64 order2, .bool force2, .string vol2, .string other2, .int .i64 pos2, .int .i64 len2, .slice B data2.length cap2] 24)))
  have HK2 := Aside0.mk (blk_new (w.alloc (.cells #[.int .i64 tag1, .int .i64 kind1, .int .i64 order1, .bool force1, .string vol1, .string other1, .int .i64 pos1, .int .i64 len1, .slice A data1.length cap1] 24)) (.cells #[.int .i64 tag2, .int .i64 kind2, .int .i64 order2, .bool force2, .string vol2, .string other2, .int .i64 pos2, .int .i64 len2, .slice B data2.length cap2] 24))
  rw [World.size_alloc] at HK2
  have HB := Aside0.mk (below_step (below_allocs w (.cells #[.int .i64 tag1, .int .i64 kind1, .int .i64 order1, .bool force1, .string vol1, .string other1, .int .i64 pos1, .int .i64 len1, .slice A data1.length cap1] 24)) (below_allocs (w.alloc (.cells #[.int .i64 tag1, .int .i64 kind1, .int .i64 order1, .bool force1, .string vol1, .string other1, .int .i64 pos1, .int .i64 len1, .slice A data1.length cap1] 24)) (.cells #[.int .i64 tag2, .int .i64 kind2, .int .i64 order2, .bool force2, .string vol2, .string other2, .int .i64 pos2, .int .i64 len2, .slice B data2.length cap2] 24)))
  generalize (w.alloc (.cells #[.int .i64 tag1, .int .i64 kind1, .int .i64 order1, .bool force1, .string vol1, .string other1, .int .i64 pos1, .int .i64 len1, .slice A data1.length cap1] 24)).alloc (.cells #[.int .i64 tag2, .int .i64 kind2, .int .i64 order2, .bool force2, .string vol2, .string other2, .int .i64 pos2, .int .i64 len2, .slice B data2.length cap2] 24) = w1 at HK1 HK2 HB ⊢
  obtain ⟨c0, c1, c2, c3, c4, c5, c6, c7, c8⟩ := cells24 HK1.out
  go_wp2_with fail
  refine (HRA.out _ (Kd.C_below HA.out HB.out)).mono ?_
  clear c0 c1 c2 c3 c4 c5 c6 c7 c8
  rintro e w2 ⟨rfl, hb⟩
  replace HK1 := Aside0.mk (blk_below HK1.out hb)
  replace HK2 := Aside0.mk (blk_below HK2.out hb)
  replace HB := Aside0.mk (below_step HB.out hb)
  clear hb
  obtain ⟨c0, c1, c2, c3, c4, c5, c6, c7, c8⟩ := cells24 HK2.out
  go_wp2_with fail
  refine (HRB.out _ (Kd.C_below HCB.out HB.out)).mono ?_
  clear c0 c1 c2 c3 c4 c5 c6 c7 c8
  rintro e w3 ⟨rfl, hb⟩
  replace HK1 := Aside0.mk (blk_below HK1.out hb)
  replace HK2 := Aside0.mk (blk_below HK2.out hb)
  replace HB := Aside0.mk (below_step HB.out hb)
  clear hb
  go_wp2_with fail
  refine (awake_any _ (HLD.out.below HB.out)).mono ?_
  rintro e w4 ⟨rfl, hb⟩
  replace HK1 := Aside0.mk (blk_below HK1.out hb)
  replace HK2 := Aside0.mk (blk_below HK2.out hb)
  replace HB := Aside0.mk (below_step HB.out hb)
  clear hb
  obtain ⟨c0, c1, c2, c3, c4, c5, c6, c7, c8⟩ := cells24 HK1.out
  go_wp2_with fail
  refine (HFA.out _ (Kd.C_below HA.out HB.out)).mono ?_
  clear c0 c1 c2 c3 c4 c5 c6 c7 c8
  rintro e w5 ⟨rfl, hb⟩
  replace HK1 := Aside0.mk (blk_below HK1.out hb)
  replace HK2 := Aside0.mk (blk_below HK2.out hb)
  replace HB := Aside0.mk (below_step HB.out hb)
  clear hb
  obtain ⟨c0, c1, c2, c3, c4, c5, c6, c7, c8⟩ := cells24 HK2.out
  go_wp2_with fail
  refine (HFB.out _ (Kd.C_below HCB.out HB.out)).mono ?_
  clear c0 c1 c2 c3 c4 c5 c6 c7 c8
  rintro e w6 ⟨rfl, hb⟩
  replace HK1 := Aside0.mk (blk_below HK1.out hb)
  replace HK2 := Aside0.mk (blk_below HK2.out hb)
  replace HB := Aside0.mk (below_step HB.out hb)
  clear hb
  go_wp2_with fail
  refine (awake_any _ (HLD.out.below HB.out)).mono ?_
  rintro e w7 ⟨rfl, hb⟩
  replace HB := Aside0.mk (below_step HB.out hb)
  clear hb
  go_wp2
  go_ret
  exact ⟨rfl, HB.out⟩
set_option maxHeartbeats 8000000 in
set_option maxRecDepth 100000 in
theorem CommandBlocks_n5 (w : World) (a b : Cmd) (A B : Option Addr) (cap1 cap2 : Nat) (r1 r2 : ByteArray) (x1 x2 y1 y2 : Int) (z1 z2 : Bool) (hra : rangeC a = (r1, x1, y1, z1)) (hrb : rangeC b = (r2, x2, y2, z2)) (hn1 : a.data.length ≤ 140737488355328) (hn2 : b.data.length ≤ 140737488355328) (hA : Kd.C k35 w A a.data.length a.data) (hcap1 : a.data.length ≤ cap1) (hB : Kd.C k35 w B b.data.length b.data) (hcap2 : b.data.length ≤ cap2) (hL : Ld w) (hf1 : fairC a = true) (hf2 : fairC b = true) (hz1 : z1 = true) (hz2 : z2 = true) (hy1 : decide (40 < y1) = true) :
    Calls Tryd.prog 4 #[cmdV a (.slice A a.data.length cap1), cmdV b (.slice B b.data.length cap2)] w fun e w' => e = .returned (.bool true) ∧ Below w.heap.size w w' := by
  have hu24 := Tryd.underlying24
  subst hz1 hz2
  have HRA := Aside0.mk (fun W h => Range_any a W A cap1 h hcap1 hn1 hra)
  have HRB := Aside0.mk (fun W h => Range_any b W B cap2 h hcap2 hn2 hrb)
  have HFA := Aside0.mk (fun W h => fair_any a W A cap1 h hcap1)
  have HFB := Aside0.mk (fun W h => fair_any b W B cap2 h hcap2)
  rw [hf1] at HFA
  rw [hf2] at HFB
  clear hra hrb hn1 hn2 hf1 hf2
  obtain ⟨tag1, kind1, order1, force1, vol1, other1, pos1, len1, data1⟩ := a
  obtain ⟨tag2, kind2, order2, force2, vol2, other2, pos2, len2, data2⟩ := b
  simp only at hA hB
  unfold cmdV at HRA HRB HFA HFB ⊢
  have HA := Aside0.mk hA
  have HCB := Aside0.mk hB
  have HLD := Aside0.mk hL
  clear hA hB hcap1 hcap2 hL
  go_enter Tryd.func4, Tryd.ntmps4
  go_wp2_with fail
  have HK1 := Aside0.mk (blk_below (blk_new w (.cells #[.int .i64 tag1, .int .i64 kind1, .int .i64 order1, .bool force1, .string vol1, .string other1, .int .i64 pos1, .int .i64 len1, .slice A data1.length cap1] 24)) (below_allocs (w.alloc (.cells #[.int .i64 tag1, .int .i64 kind1, .int .i64 order1, .bool force1, .string vol1, .string other1, .int .i64 pos1, .int .i64 len1, .slice A data1.length cap1] 24)) (.cells #[.int .i64 tag2, .int .i64 kind2, .int .i64 order2, .bool force2, .string vol2, .string other2, .int .i64 pos2, .int .i64 len2, .slice B data2.length cap2] 24)))
  have HK2 := Aside0.mk (blk_new (w.alloc (.cells #[.int .i64 tag1, .int .i64 kind1, .int .i64 order1, .bool force1, .string vol1, .string other1, .int .i64 pos1, .int .i64 len1, .slice A data1.length cap1] 24)) (.cells #[.int .i64 tag2, .int .i64 kind2, .int .i64 order2, .bool force2, .string vol2, .string other2, .int .i64 pos2, .int .i64 len2, .slice B data2.length cap2] 24))
  rw [World.size_alloc] at HK2
  have HB := Aside0.mk (below_step (below_allocs w (.cells #[.int .i64 tag1, .int .i64 kind1, .int .i64 order1, .bool force1, .string vol1, .string other1, .int .i64 pos1, .int .i64 len1, .slice A data1.length cap1] 24)) (below_allocs (w.alloc (.cells #[.int .i64 tag1, .int .i64 kind1, .int .i64 order1, .bool force1, .string vol1, .string other1, .int .i64 pos1, .int .i64 len1, .slice A data1.length cap1] 24)) (.cells #[.int .i64 tag2, .int .i64 kind2, .int .i64 order2, .bool force2, .string vol2, .string other2, .int .i64 pos2, .int .i64 len2, .slice B data2.length cap2] 24)))
  generalize (w.alloc (.cells #[.int .i64 tag1, .int .i64 kind1, .int .i64 order1, .bool force1, .string vol1, .string other1, .int .i64 pos1, .int .i64 len1, .slice A data1.length cap1] 24)).alloc (.cells #[.int .i64 tag2, .int .i64 kind2, .int .i64 order2, .bool force2, .string vol2, .string other2, .int .i64 pos2, .int .i64 len2, .slice B data2.length cap2] 24) = w1 at HK1 HK2 HB ⊢
  obtain ⟨c0, c1, c2, c3, c4, c5, c6, c7, c8⟩ := cells24 HK1.out
  go_wp2_with fail
  refine (HRA.out _ (Kd.C_below HA.out HB.out)).mono ?_
  clear c0 c1 c2 c3 c4 c5 c6 c7 c8
  rintro e w2 ⟨rfl, hb⟩
  replace HK1 := Aside0.mk (blk_below HK1.out hb)
  replace HK2 := Aside0.mk (blk_below HK2.out hb)
  replace HB := Aside0.mk (below_step HB.out hb)
  clear hb
  obtain ⟨c0, c1, c2, c3, c4, c5, c6, c7, c8⟩ := cells24 HK2.out
  go_wp2_with fail
  refine (HRB.out _ (Kd.C_below HCB.out HB.out)).mono ?_
  clear c0 c1 c2 c3 c4 c5 c6 c7 c8
  rintro e w3 ⟨rfl, hb⟩
  replace HK1 := Aside0.mk (blk_below HK1.out hb)
  replace HK2 := Aside0.mk (blk_below HK2.out hb)
  replace HB := Aside0.mk (below_step HB.out hb)
  clear hb
  go_wp2_with fail
  refine (awake_any _ (HLD.out.below HB.out)).mono ?_
  rintro e w4 ⟨rfl, hb⟩
  replace HK1 := Aside0.mk (blk_below HK1.out hb)
  replace HK2 := Aside0.mk (blk_below HK2.out hb)
  replace HB := Aside0.mk (below_step HB.out hb)
  clear hb
  obtain ⟨c0, c1, c2, c3, c4, c5, c6, c7, c8⟩ := cells24 HK1.out
  go_wp2_with fail
  refine (HFA.out _ (Kd.C_below HA.out HB.out)).mono ?_
  clear c0 c1 c2 c3 c4 c5 c6 c7 c8
  rintro e w5 ⟨rfl, hb⟩
  replace HK1 := Aside0.mk (blk_below HK1.out hb)
  replace HK2 := Aside0.mk (blk_below HK2.out hb)
  replace HB := Aside0.mk (below_step HB.out hb)
  clear hb
  obtain ⟨c0, c1, c2, c3, c4, c5, c6, c7, c8⟩ := cells24 HK2.out
  go_wp2_with fail
  refine (HFB.out _ (Kd.C_below HCB.out HB.out)).mono ?_
  clear c0 c1 c2 c3 c4 c5 c6 c7 c8
  rintro e w6 ⟨rfl, hb⟩
  replace HK1 := Aside0.mk (blk_below HK1.out hb)
  replace HK2 := Aside0.mk (blk_below HK2.out hb)
  replace HB := Aside0.mk (below_step HB.out hb)
  clear hb
  go_wp2_with fail
  refine (awake_any _ (HLD.out.below HB.out)).mono ?_
  rintro e w7 ⟨rfl, hb⟩
  replace HB := Aside0.mk (below_step HB.out hb)
  clear hb
  go_wp2
  go_ret
  exact ⟨rfl, HB.out⟩
set_option maxHeartbeats 8000000 in
set_option maxRecDepth 100000 in
theorem CommandBlocks_n6 (w : World) (a b : Cmd) (A B : Option Addr) (cap1 cap2 : Nat) (r1 r2 : ByteArray) (x1 x2 y1 y2 : Int) (z1 z2 : Bool) (hra : rangeC a = (r1, x1, y1, z1)) (hrb : rangeC b = (r2, x2, y2, z2)) (hn1 : a.data.length ≤ 140737488355328) (hn2 : b.data.length ≤ 140737488355328) (hA : Kd.C k35 w A a.data.length a.data) (hcap1 : a.data.length ≤ cap1) (hB : Kd.C k35 w B b.data.length b.data) (hcap2 : b.data.length ≤ cap2) (hL : Ld w) (hf1 : fairC a = true) (hf2 : fairC b = true) (hz1 : z1 = true) (hz2 : z2 = true) (hy1 : decide (40 < y1) = false) (hy2 : decide (40 < y2) = true) :
    Calls Tryd.prog 4 #[cmdV a (.slice A a.data.length cap1), cmdV b (.slice B b.data.length cap2)] w fun e w' => e = .returned (.bool true) ∧ Below w.heap.size w w' := by
  have hu24 := Tryd.underlying24
  subst hz1 hz2
  have HRA := Aside0.mk (fun W h => Range_any a W A cap1 h hcap1 hn1 hra)
  have HRB := Aside0.mk (fun W h => Range_any b W B cap2 h hcap2 hn2 hrb)
  have HFA := Aside0.mk (fun W h => fair_any a W A cap1 h hcap1)
  have HFB := Aside0.mk (fun W h => fair_any b W B cap2 h hcap2)
  rw [hf1] at HFA
  rw [hf2] at HFB
  clear hra hrb hn1 hn2 hf1 hf2
  obtain ⟨tag1, kind1, order1, force1, vol1, other1, pos1, len1, data1⟩ := a
  obtain ⟨tag2, kind2, order2, force2, vol2, other2, pos2, len2, data2⟩ := b
  simp only at hA hB
  unfold cmdV at HRA HRB HFA HFB ⊢
  have HA := Aside0.mk hA
  have HCB := Aside0.mk hB
  have HLD := Aside0.mk hL
  clear hA hB hcap1 hcap2 hL
  go_enter Tryd.func4, Tryd.ntmps4
  go_wp2_with fail
  have HK1 := Aside0.mk (blk_below (blk_new w (.cells #[.int .i64 tag1, .int .i64 kind1, .int .i64 order1, .bool force1, .string vol1, .string other1, .int .i64 pos1, .int .i64 len1, .slice A data1.length cap1] 24)) (below_allocs (w.alloc (.cells #[.int .i64 tag1, .int .i64 kind1, .int .i64 order1, .bool force1, .string vol1, .string other1, .int .i64 pos1, .int .i64 len1, .slice A data1.length cap1] 24)) (.cells #[.int .i64 tag2, .int .i64 kind2, .int .i64 order2, .bool force2, .string vol2, .string other2, .int .i64 pos2, .int .i64 len2, .slice B data2.length cap2] 24)))
  have HK2 := Aside0.mk (blk_new (w.alloc (.cells #[.int .i64 tag1, .int .i64 kind1, .int .i64 order1, .bool force1, .string vol1, .string other1, .int .i64 pos1, .int .i64 len1, .slice A data1.length cap1] 24)) (.cells #[.int .i64 tag2, .int .i64 kind2, .int .i64 order2, .bool force2, .string vol2, .string other2, .int .i64 pos2, .int .i64 len2, .slice B data2.length cap2] 24))
  rw [World.size_alloc] at HK2
  have HB := Aside0.mk (below_step (below_allocs w (.cells #[.int .i64 tag1, .int .i64 kind1, .int .i64 order1, .bool force1, .string vol1, .string other1, .int .i64 pos1, .int .i64 len1, .slice A data1.length cap1] 24)) (below_allocs (w.alloc (.cells #[.int .i64 tag1, .int .i64 kind1, .int .i64 order1, .bool force1, .string vol1, .string other1, .int .i64 pos1, .int .i64 len1, .slice A data1.length cap1] 24)) (.cells #[.int .i64 tag2, .int .i64 kind2, .int .i64 order2, .bool force2, .string vol2, .string other2, .int .i64 pos2, .int .i64 len2, .slice B data2.length cap2] 24)))
  generalize (w.alloc (.cells #[.int .i64 tag1, .int .i64 kind1, .int .i64 order1, .bool force1, .string vol1, .string other1, .int .i64 pos1, .int .i64 len1, .slice A data1.length cap1] 24)).alloc (.cells #[.int .i64 tag2, .int .i64 kind2, .int .i64 order2, .bool force2, .string vol2, .string other2, .int .i64 pos2, .int .i64 len2, .slice B data2.length cap2] 24) = w1 at HK1 HK2 HB ⊢
  obtain ⟨c0, c1, c2, c3, c4, c5, c6, c7, c8⟩ := cells24 HK1.out
  go_wp2_with fail
  refine (HRA.out _ (Kd.C_below HA.out HB.out)).mono ?_
  clear c0 c1 c2 c3 c4 c5 c6 c7 c8
  rintro e w2 ⟨rfl, hb⟩
  replace HK1 := Aside0.mk (blk_below HK1.out hb)
  replace HK2 := Aside0.mk (blk_below HK2.out hb)
  replace HB := Aside0.mk (below_step HB.out hb)
  clear hb
  obtain ⟨c0, c1, c2, c3, c4, c5, c6, c7, c8⟩ := cells24 HK2.out
  go_wp2_with fail
  refine (HRB.out _ (Kd.C_below HCB.out HB.out)).mono ?_
  clear c0 c1 c2 c3 c4 c5 c6 c7 c8
  rintro e w3 ⟨rfl, hb⟩
  replace HK1 := Aside0.mk (blk_below HK1.out hb)
  replace HK2 := Aside0.mk (blk_below HK2.out hb)
  replace HB := Aside0.mk (below_step HB.out hb)
  clear hb
  go_wp2_with fail
  refine (awake_any _ (HLD.out.below HB.out)).mono ?_
  rintro e w4 ⟨rfl, hb⟩
  replace HK1 := Aside0.mk (blk_below HK1.out hb)
  replace HK2 := Aside0.mk (blk_below HK2.out hb)
  replace HB := Aside0.mk (below_step HB.out hb)
  clear hb
  obtain ⟨c0, c1, c2, c3, c4, c5, c6, c7, c8⟩ := cells24 HK1.out
  go_wp2_with fail
  refine (HFA.out _ (Kd.C_below HA.out HB.out)).mono ?_
  clear c0 c1 c2 c3 c4 c5 c6 c7 c8
  rintro e w5 ⟨rfl, hb⟩
  replace HK1 := Aside0.mk (blk_below HK1.out hb)
  replace HK2 := Aside0.mk (blk_below HK2.out hb)
  replace HB := Aside0.mk (below_step HB.out hb)
  clear hb
  obtain ⟨c0, c1, c2, c3, c4, c5, c6, c7, c8⟩ := cells24 HK2.out
  go_wp2_with fail
  refine (HFB.out _ (Kd.C_below HCB.out HB.out)).mono ?_
  clear c0 c1 c2 c3 c4 c5 c6 c7 c8
  rintro e w6 ⟨rfl, hb⟩
  replace HK1 := Aside0.mk (blk_below HK1.out hb)
  replace HK2 := Aside0.mk (blk_below HK2.out hb)
  replace HB := Aside0.mk (below_step HB.out hb)
  clear hb
  go_wp2_with fail
  refine (awake_any _ (HLD.out.below HB.out)).mono ?_
  rintro e w7 ⟨rfl, hb⟩
  replace HB := Aside0.mk (below_step HB.out hb)
  clear hb
  go_wp2
  go_ret
  exact ⟨rfl, HB.out⟩
set_option maxHeartbeats 8000000 in
set_option maxRecDepth 100000 in
theorem CommandBlocks_yes (w : World) (a b : Cmd) (A B : Option Addr) (cap1 cap2 : Nat) (r1 r2 : ByteArray) (x1 x2 y1 y2 : Int) (z1 z2 : Bool) (hra : rangeC a = (r1, x1, y1, z1)) (hrb : rangeC b = (r2, x2, y2, z2)) (hn1 : a.data.length ≤ 140737488355328) (hn2 : b.data.length ≤ 140737488355328) (hA : Kd.C k35 w A a.data.length a.data) (hcap1 : a.data.length ≤ cap1) (hB : Kd.C k35 w B b.data.length b.data) (hcap2 : b.data.length ≤ cap2) (hL : Ld w) (hf1 : fairC a = true) (hf2 : fairC b = true) (hz1 : z1 = true) (hz2 : z2 = true) (hy1 : decide (40 < y1) = false) (hy2 : decide (40 < y2) = false) (g1 : 1 ≤ y1 ∧ 0 ≤ x1 ∧ x1 ≤ 65536) (g2 : 1 ≤ y2 ∧ 0 ≤ x2 ∧ x2 ≤ 65536) (hov : overC a b = ((r1.toList == r2.toList) && (comm x1 y1.toNat x2 y2 && (a.kind != 1 || b.kind != 1)))) :
    Calls Tryd.prog 4 #[cmdV a (.slice A a.data.length cap1), cmdV b (.slice B b.data.length cap2)] w fun e w' => e = .returned (.bool true) ∧ Below w.heap.size w w' := by
  have hu24 := Tryd.underlying24
  subst hz1 hz2
  have hl1 := fair_len hf1
  have hl2 := fair_len hf2
  have HOV := Aside0.mk (fun W h h' => Over_any a b W A B cap1 cap2 h hcap1 h' hcap2 hl1 hl2)
  generalize overC a b = ov at HOV hov
  clear hl1 hl2
  have HOVE := Lib.hid hov
  clear hov
  have HRA := Aside0.mk (fun W h => Range_any a W A cap1 h hcap1 hn1 hra)
  have HRB := Aside0.mk (fun W h => Range_any b W B cap2 h hcap2 hn2 hrb)
  have HFA := Aside0.mk (fun W h => fair_any a W A cap1 h hcap1)
  have HFB := Aside0.mk (fun W h => fair_any b W B cap2 h hcap2)
  rw [hf1] at HFA
  rw [hf2] at HFB
  clear hra hrb hn1 hn2 hf1 hf2
  obtain ⟨tag1, kind1, order1, force1, vol1, other1, pos1, len1, data1⟩ := a
  obtain ⟨tag2, kind2, order2, force2, vol2, other2, pos2, len2, data2⟩ := b
  simp only at hA hB
  unfold cmdV at HRA HRB HFA HFB HOV ⊢
  have HA := Aside0.mk hA
  have HCB := Aside0.mk hB
  have HLD := Aside0.mk hL
  clear hA hB hcap1 hcap2 hL
  go_enter Tryd.func4, Tryd.ntmps4
  go_wp2_with fail
  have HK1 := Aside0.mk (blk_below (blk_new w (.cells #[.int .i64 tag1, .int .i64 kind1, .int .i64 order1, .bool force1, .string vol1, .string other1, .int .i64 pos1, .int .i64 len1, .slice A data1.length cap1] 24)) (below_allocs (w.alloc (.cells #[.int .i64 tag1, .int .i64 kind1, .int .i64 order1, .bool force1, .string vol1, .string other1, .int .i64 pos1, .int .i64 len1, .slice A data1.length cap1] 24)) (.cells #[.int .i64 tag2, .int .i64 kind2, .int .i64 order2, .bool force2, .string vol2, .string other2, .int .i64 pos2, .int .i64 len2, .slice B data2.length cap2] 24)))
  have HK2 := Aside0.mk (blk_new (w.alloc (.cells #[.int .i64 tag1, .int .i64 kind1, .int .i64 order1, .bool force1, .string vol1, .string other1, .int .i64 pos1, .int .i64 len1, .slice A data1.length cap1] 24)) (.cells #[.int .i64 tag2, .int .i64 kind2, .int .i64 order2, .bool force2, .string vol2, .string other2, .int .i64 pos2, .int .i64 len2, .slice B data2.length cap2] 24))
  rw [World.size_alloc] at HK2
  have HB := Aside0.mk (below_step (below_allocs w (.cells #[.int .i64 tag1, .int .i64 kind1, .int .i64 order1, .bool force1, .string vol1, .string other1, .int .i64 pos1, .int .i64 len1, .slice A data1.length cap1] 24)) (below_allocs (w.alloc (.cells #[.int .i64 tag1, .int .i64 kind1, .int .i64 order1, .bool force1, .string vol1, .string other1, .int .i64 pos1, .int .i64 len1, .slice A data1.length cap1] 24)) (.cells #[.int .i64 tag2, .int .i64 kind2, .int .i64 order2, .bool force2, .string vol2, .string other2, .int .i64 pos2, .int .i64 len2, .slice B data2.length cap2] 24)))
  generalize (w.alloc (.cells #[.int .i64 tag1, .int .i64 kind1, .int .i64 order1, .bool force1, .string vol1, .string other1, .int .i64 pos1, .int .i64 len1, .slice A data1.length cap1] 24)).alloc (.cells #[.int .i64 tag2, .int .i64 kind2, .int .i64 order2, .bool force2, .string vol2, .string other2, .int .i64 pos2, .int .i64 len2, .slice B data2.length cap2] 24) = w1 at HK1 HK2 HB ⊢
  obtain ⟨c0, c1, c2, c3, c4, c5, c6, c7, c8⟩ := cells24 HK1.out
  go_wp2_with fail
  refine (HRA.out _ (Kd.C_below HA.out HB.out)).mono ?_
  clear c0 c1 c2 c3 c4 c5 c6 c7 c8
  rintro e w2 ⟨rfl, hb⟩
  replace HK1 := Aside0.mk (blk_below HK1.out hb)
  replace HK2 := Aside0.mk (blk_below HK2.out hb)
  replace HB := Aside0.mk (below_step HB.out hb)
  clear hb
  obtain ⟨c0, c1, c2, c3, c4, c5, c6, c7, c8⟩ := cells24 HK2.out
  go_wp2_with fail
  refine (HRB.out _ (Kd.C_below HCB.out HB.out)).mono ?_
  clear c0 c1 c2 c3 c4 c5 c6 c7 c8
  rintro e w3 ⟨rfl, hb⟩
  replace HK1 := Aside0.mk (blk_below HK1.out hb)
  replace HK2 := Aside0.mk (blk_below HK2.out hb)
  replace HB := Aside0.mk (below_step HB.out hb)
  clear hb
  go_wp2_with fail
  refine (awake_any _ (HLD.out.below HB.out)).mono ?_
  rintro e w4 ⟨rfl, hb⟩
  replace HK1 := Aside0.mk (blk_below HK1.out hb)
  replace HK2 := Aside0.mk (blk_below HK2.out hb)
  replace HB := Aside0.mk (below_step HB.out hb)
  clear hb
  obtain ⟨c0, c1, c2, c3, c4, c5, c6, c7, c8⟩ := cells24 HK1.out
  go_wp2_with fail
  refine (HFA.out _ (Kd.C_below HA.out HB.out)).mono ?_
  clear c0 c1 c2 c3 c4 c5 c6 c7 c8
  rintro e w5 ⟨rfl, hb⟩
  replace HK1 := Aside0.mk (blk_below HK1.out hb)
  replace HK2 := Aside0.mk (blk_below HK2.out hb)
  replace HB := Aside0.mk (below_step HB.out hb)
  clear hb
  obtain ⟨c0, c1, c2, c3, c4, c5, c6, c7, c8⟩ := cells24 HK2.out
  go_wp2_with fail
  refine (HFB.out _ (Kd.C_below HCB.out HB.out)).mono ?_
  clear c0 c1 c2 c3 c4 c5 c6 c7 c8
  rintro e w6 ⟨rfl, hb⟩
  replace HK1 := Aside0.mk (blk_below HK1.out hb)
  replace HK2 := Aside0.mk (blk_below HK2.out hb)
  replace HB := Aside0.mk (below_step HB.out hb)
  clear hb
  try simp only at HOVE
  have G1 := Aside0.mk g1
  have G2 := Aside0.mk g2
  have Y1 := of_decide_eq_false hy1
  have Y2 := of_decide_eq_false hy2
  have hw1 : wrap64 (x1 + y1) = x1 + y1 := by unfold wrap64; omega
  have hw2 : wrap64 (x2 + y2) = x2 + y2 := by unfold wrap64; omega
  have HY := Aside0.mk Y1
  clear Y1 Y2 g1 g2
  go_wp2_with fail
  go_loopg [13, 14] y1.toNat (fun kq v13 v14 w' => ∃ k : Nat, v13 = .bool (comm x1 k x2 y2) ∧ v14 = .int .i64 (x1 + (k : Int)) ∧ Aside0 (k ≤ y1.toNat ∧ kq = y1.toNat - k) ∧ Aside0 (w'.heap[w.heap.size]? = some (.cells #[.int .i64 tag1, .int .i64 kind1, .int .i64 order1, .bool force1, .string vol1, .string other1, .int .i64 pos1, .int .i64 len1, .slice A data1.length cap1] 24 (0, 0))) ∧ Aside0 (w'.heap[w.heap.size + 1]? = some (.cells #[.int .i64 tag2, .int .i64 kind2, .int .i64 order2, .bool force2, .string vol2, .string other2, .int .i64 pos2, .int .i64 len2, .slice B data2.length cap2] 24 (0, 0))) ∧ Aside0 (Below w.heap.size w w'))
  case atStart => exact ⟨0, rfl, by simp, ⟨by omega, by omega⟩, HK1, HK2, HB⟩
  case round =>
    clear HK1 HK2 HB
    obtain ⟨k, rfl, rfl, HI, HK1, HK2, HB⟩ := hrel
    by_cases h : x1 + (k : Int) < x1 + y1
    · have d1 : decide (x1 + (k : Int) < x1 + y1) = true := decide_eq_true h
      have d2 : decide ((k : Int) < y1) = true := decide_eq_true (by omega)
      have hs : wrap64 (x1 + (k : Int) + 1) = x1 + ((k + 1 : Nat) : Int) := by have := G1.out; have := HY.out; unfold wrap64; omega
      have HS := Lib.hid hs
      have HH := Aside0.mk h
      clear hs h
      cases hc : comm x1 k x2 y2
      · cases e1 : decide (x2 ≤ x1 + (k : Int))
        · have HN : Aside0 (comm x1 (k + 1) x2 y2 = false) := ⟨by unfold comm; rw [hc, e1]; rfl⟩
          go_wp2
          go_roundg (y1.toNat - (k + 1))
          case measure => have := HI.out; have := HH.out; omega
          case rel => exact ⟨k + 1, congrArg Value.bool HN.out.symm, congrArg (Value.int .i64) HS.out, ⟨by have := HI.out; have := HH.out; omega, rfl⟩, HK1, HK2, HB⟩
        · cases e2 : decide (x1 + (k : Int) < x2 + y2)
          · have HN : Aside0 (comm x1 (k + 1) x2 y2 = false) := ⟨by unfold comm; rw [hc, e1, e2]; rfl⟩
            go_wp2
            go_roundg (y1.toNat - (k + 1))
            case measure => have := HI.out; have := HH.out; omega
            case rel => exact ⟨k + 1, congrArg Value.bool HN.out.symm, congrArg (Value.int .i64) HS.out, ⟨by have := HI.out; have := HH.out; omega, rfl⟩, HK1, HK2, HB⟩
          · have HN : Aside0 (comm x1 (k + 1) x2 y2 = true) := ⟨by unfold comm; rw [hc, e1, e2]; rfl⟩
            go_wp2
            go_roundg (y1.toNat - (k + 1))
            case measure => have := HI.out; have := HH.out; omega
            case rel => exact ⟨k + 1, congrArg Value.bool HN.out.symm, congrArg (Value.int .i64) HS.out, ⟨by have := HI.out; have := HH.out; omega, rfl⟩, HK1, HK2, HB⟩
      · have HN : Aside0 (comm x1 (k + 1) x2 y2 = true) := ⟨by unfold comm; rw [hc]; rfl⟩
        go_wp2
        go_roundg (y1.toNat - (k + 1))
        case measure => have := HI.out; have := HH.out; omega
        case rel => exact ⟨k + 1, congrArg Value.bool HN.out.symm, congrArg (Value.int .i64) HS.out, ⟨by have := HI.out; have := HH.out; omega, rfl⟩, HK1, HK2, HB⟩
    · have hk : k = y1.toNat := by have := HI.out; omega
      have d1 : decide (x1 + (k : Int) < x1 + y1) = false := decide_eq_false h
      have d2 : decide ((k : Int) < y1) = false := decide_eq_false (by omega)
      clear h
      rw [← hk] at HOVE
      clear hk
      generalize comm x1 k x2 y2 = cm at HOVE ⊢
      obtain ⟨c0, c1, c2, c3, c4, c5, c6, c7, c8⟩ := cells24 HK1.out
      obtain ⟨c0', c1', c2', c3', c4', c5', c6', c7', c8'⟩ := cells24 HK2.out
      go_wp2_with fail
      refine (HOV.out _ (Kd.C_below HA.out HB.out) (Kd.C_below HCB.out HB.out)).mono ?_
      clear c0 c1 c2 c3 c4 c5 c6 c7 c8 c0' c1' c2' c3' c4' c5' c6' c7' c8'
      rintro e w9 ⟨rfl, hb⟩
      replace HK1 := Aside0.mk (blk_below HK1.out hb)
      replace HK2 := Aside0.mk (blk_below HK2.out hb)
      replace HB := Aside0.mk (below_step HB.out hb)
      clear hb
      obtain ⟨c0, c1, c2, c3, c4, c5, c6, c7, c8⟩ := cells24 HK1.out
      obtain ⟨c0', c1', c2', c3', c4', c5', c6', c7', c8'⟩ := cells24 HK2.out
      have fin : ∀ b : Bool, ((r1.toList == r2.toList) && (cm && (kind1 != 1 || kind2 != 1))) = b → ov = b := fun b hb => by rw [HOVE.out]; exact hb
      cases q0 : r1.toList == r2.toList
      · obtain rfl := fin false (by rw [q0]; rfl)
        clear fin HOVE
        go_wp2
        go_ret
        exact ⟨rfl, HB.out⟩
      cases cm
      · obtain rfl := fin false (by rw [q0]; rfl)
        clear fin HOVE
        go_wp2
        go_ret
        exact ⟨rfl, HB.out⟩
      cases q1 : kind1 != 1
      · cases q2 : kind2 != 1
        · obtain rfl := fin false (by rw [q0, q1, q2]; rfl)
          clear fin HOVE
          go_wp2
          go_ret
          exact ⟨rfl, HB.out⟩
        · obtain rfl := fin true (by rw [q0, q1, q2]; rfl)
          clear fin HOVE
          go_wp2
          go_ret
          exact ⟨rfl, HB.out⟩
      · obtain rfl := fin true (by rw [q0, q1]; rfl)
        clear fin HOVE
        go_wp2
        go_ret
        exact ⟨rfl, HB.out⟩
theorem CommandBlocks_law (w : World) (a : Cmd) (A : Option Addr) (cap1 : Nat) (b : Cmd) (B : Option Addr) (cap2 : Nat) (hA : Kd.C k35 w A a.data.length a.data) (hcap1 : a.data.length ≤ cap1) (hB : Kd.C k35 w B b.data.length b.data) (hcap2 : b.data.length ≤ cap2) (hL : Ld w) (hn1 : a.data.length ≤ 140737488355328) (hn2 : b.data.length ≤ 140737488355328) :
    Calls Tryd.prog 4 #[cmdV a (.slice A a.data.length cap1), cmdV b (.slice B b.data.length cap2)] w fun e w' => e = .returned (.bool true) ∧ Below w.heap.size w w' := by
  have hran : ∀ c : Cmd, (∃ z : Bool, z = false ∧ rangeC c = (⟨#[]⟩, 0, 0, z)) ∨ (validC c = true ∧ c.kind ≤ 3 ∧ rangeC c = (c.vol, c.pos, c.len, true)) := by
    intro c
    unfold rangeC
    by_cases h : validC c = true ∧ c.kind ≤ 3
    · rw [if_pos h]; exact Or.inr ⟨h.1, h.2, rfl⟩
    · rw [if_neg h]; exact Or.inl ⟨false, rfl, rfl⟩
  cases h1 : fairC a
  · exact CommandBlocks_n1 w a b A B cap1 cap2 _ _ _ _ _ _ _ _ rfl rfl hn1 hn2 hA hcap1 hB hcap2 hL h1
  cases h2 : fairC b
  · exact CommandBlocks_n2 w a b A B cap1 cap2 _ _ _ _ _ _ _ _ rfl rfl hn1 hn2 hA hcap1 hB hcap2 hL h1 h2
  rcases hran a with ⟨z1, hz1, ha⟩ | ⟨va, ka, ha⟩
  · exact CommandBlocks_n3 w a b A B cap1 cap2 _ _ _ _ _ _ _ _ ha rfl hn1 hn2 hA hcap1 hB hcap2 hL h1 h2 hz1
  rcases hran b with ⟨z2, hz2, hb⟩ | ⟨vb, kb, hb⟩
  · exact CommandBlocks_n4 w a b A B cap1 cap2 _ _ _ _ _ _ _ _ ha hb hn1 hn2 hA hcap1 hB hcap2 hL h1 h2 rfl hz2
  cases h3 : decide (40 < a.len)
  rotate_left 1
  · exact CommandBlocks_n5 w a b A B cap1 cap2 _ _ _ _ _ _ _ _ ha hb hn1 hn2 hA hcap1 hB hcap2 hL h1 h2 rfl rfl h3
  cases h4 : decide (40 < b.len)
  rotate_left 1
  · exact CommandBlocks_n6 w a b A B cap1 cap2 _ _ _ _ _ _ _ _ ha hb hn1 hn2 hA hcap1 hB hcap2 hL h1 h2 rfl rfl h3 h4
  have la := valid_len va ka
  have lb := valid_len vb kb
  have pa := (valid_bd va).2.2.2.1
  have pb := (valid_bd vb).2.2.2.1
  refine CommandBlocks_yes w a b A B cap1 cap2 _ _ _ _ _ _ _ _ ha hb hn1 hn2 hA hcap1 hB hcap2 hL h1 h2 rfl rfl h3 h4 ⟨la, pa.1, pa.2⟩ ⟨lb, pb.1, pb.2⟩ ?_
  rw [blocks_over va vb ka kb]
  congr 1
  rw [Bool.eq_iff_iff, decide_eq_true_eq, toList_iff]
end Go.Proofs.YthbnghdobmghlaaDoor.ST
