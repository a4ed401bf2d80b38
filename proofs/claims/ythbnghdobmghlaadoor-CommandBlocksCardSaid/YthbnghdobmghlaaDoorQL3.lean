import Derived.Test.YthbnghdobmghlaaDoorQL2
import Derived.Test.YthbnghdobmghlaaDoorQJ12
import Derived.Test.YthbnghdobmghlaaDoorQPCx11
namespace Go.Proofs.YthbnghdobmghlaaDoor.ST
open Go.RowKit Go.Proofs.YthbnghdobmghlaaDoorW.PrintWords Go.Proofs.YthbnghdobmghlaaDoorW.PrintLast Go.Proofs.YthbnghdobmghlaaDoorW.PrintMore Go.Proofs.YthbnghdobmghlaaDoor.PC
set_option linter.unusedVariables false
set_option linter.unusedSimpArgs false
def fairC (c : Cmd) : Bool := decide (c.data.length ≤ 40) && (decide (c.vol.size ≤ 100) && decide (c.other.size ≤ 100))
theorem fair_any (c : Cmd) (w : World) (A : Option Addr) (cap : Nat) (hA : Kd.C k35 w A c.data.length c.data) (hcap : c.data.length ≤ cap) :
    Calls Tryd.prog 10 #[cmdV c (.slice A c.data.length cap)] w fun e w' => e = .returned (.bool (fairC c)) ∧ Below w.heap.size w w' := by
  refine tegulalaw39_fair.calls _ _ _ _ _ _ _ _ A cap c.data (fairC c) w hA hcap ?_
  unfold tegulalaw39_fair.f fairC
  by_cases h1 : c.data.length ≤ 40
  · by_cases h2 : c.vol.size ≤ 100
    · rw [if_pos (by omega), if_pos (by omega), decide_eq_true h1, decide_eq_true h2, Bool.true_and, Bool.true_and]
      congr 1
      rw [decide_eq_decide]
      omega
    · rw [if_pos (by omega), if_neg (by omega), decide_eq_false h2]; simp
  · rw [if_neg (by omega), decide_eq_false h1]; simp
theorem fair_len {c : Cmd} (h : fairC c = true) : c.data.length ≤ 40 := by
  unfold fairC at h
  simp only [Bool.and_eq_true, decide_eq_true_eq] at h
  exact h.1
theorem Over_any (a b : Cmd) (w : World) (A B : Option Addr) (ca cb : Nat) (hA : Kd.C k35 w A a.data.length a.data) (hca : a.data.length ≤ ca) (hB : Kd.C k35 w B b.data.length b.data) (hcb : b.data.length ≤ cb) (ha : a.data.length ≤ 40) (hb : b.data.length ≤ 40) :
    Calls Tryd.prog 11 #[cmdV a (.slice A a.data.length ca), cmdV b (.slice B b.data.length cb)] w fun e w' => e = .returned (.bool (overC a b)) ∧ Below w.heap.size w w' :=
  command_Overlap.calls 5 _ _ _ _ _ _ _ _ A ca a.data _ _ _ _ _ _ _ _ B cb b.data (overC a b) w hA hca hB hcb (over_prog a b 5 (by decide) (by omega) (by omega))
theorem OverR_any (a b : Cmd) (w : World) (A B : Option Addr) (ca cb : Nat) (hA : Kd.C k35 w A a.data.length a.data) (hca : a.data.length ≤ ca) (hB : Kd.C k35 w B b.data.length b.data) (hcb : b.data.length ≤ cb) :
    Calls Tryd.prog 20 #[cmdV a (.slice A a.data.length ca), cmdV b (.slice B b.data.length cb)] w fun e w' => e = .returned (.bool (overC a b)) ∧ Below w.heap.size w w' :=
  tegularef39_Overlap.calls 50 _ _ _ _ _ _ _ _ A ca a.data _ _ _ _ _ _ _ _ B cb b.data (overC a b) w hA hca hB hcb (over_ref a b 50 (by decide))
theorem ValidR_any (c : Cmd) (w : World) (A : Option Addr) (cap : Nat) (hA : Kd.C k35 w A c.data.length c.data) (hcap : c.data.length ≤ cap) :
    Calls Tryd.prog 12 #[cmdV c (.slice A c.data.length cap)] w fun e w' => e = .returned (.bool (validC c)) ∧ Below w.heap.size w w' :=
  tegularef39_Valid.calls 50 _ _ _ _ _ _ _ _ A cap c.data (validC c) w hA hcap (valid_ref c 50 (by decide))
set_option maxHeartbeats 8000000 in
set_option maxRecDepth 100000 in
theorem CommandSelf_law (w : World) (c : Cmd) (A : Option Addr) (cap : Nat) (hC : Kd.C k35 w A c.data.length c.data) (hcap : c.data.length ≤ cap) (hL : Ld w) :
    Calls Tryd.prog 3 #[cmdV c (.slice A c.data.length cap)] w fun e w' => e = .returned (.bool true) ∧ Below w.heap.size w w' := by
  have hu24 := Tryd.underlying24
  have hself := over_self c
  cases hf : fairC c
  · have HF := Lib.hid hf
    clear hself hf
    obtain ⟨tag, kind, order, force, vol, other, pos, len, data⟩ := c
    simp only at hC hcap
    unfold cmdV
    have HC := Aside0.mk hC
    have HCAP := Aside0.mk hcap
    have HLD := Aside0.mk hL
    clear hC hcap hL
    go_enter Tryd.func3, Tryd.ntmps3
    go_wp2_with fail
    have HK := Aside0.mk (blk_new w (.cells #[.int .i64 tag, .int .i64 kind, .int .i64 order, .bool force, .string vol, .string other, .int .i64 pos, .int .i64 len, .slice A data.length cap] 24))
    have HB := Aside0.mk (below_allocs w (.cells #[.int .i64 tag, .int .i64 kind, .int .i64 order, .bool force, .string vol, .string other, .int .i64 pos, .int .i64 len, .slice A data.length cap] 24))
    generalize w.alloc (.cells #[.int .i64 tag, .int .i64 kind, .int .i64 order, .bool force, .string vol, .string other, .int .i64 pos, .int .i64 len, .slice A data.length cap] 24) = w1 at HK HB ⊢
    refine (awake_any w1 (HLD.out.below HB.out)).mono ?_
    rintro e w2 ⟨rfl, hb⟩
    replace HK := Aside0.mk (blk_below HK.out hb)
    replace HB := Aside0.mk (below_step HB.out hb)
    clear hb
    obtain ⟨c0, c1, c2, c3, c4, c5, c6, c7, c8⟩ := cells24 HK.out
    go_wp2_with fail
    have hfa := fair_any ⟨tag, kind, order, force, vol, other, pos, len, data⟩ w2 A cap (Kd.C_below HC.out HB.out) HCAP.out
    rw [HF.out] at hfa
    refine hfa.mono ?_
    clear hfa c0 c1 c2 c3 c4 c5 c6 c7 c8
    rintro e w3 ⟨rfl, hb⟩
    replace HB := Aside0.mk (below_step HB.out hb)
    clear hb
    go_wp2_with fail
    refine (awake_any w3 (HLD.out.below HB.out)).mono ?_
    rintro e w4 ⟨rfl, hb⟩
    replace HB := Aside0.mk (below_step HB.out hb)
    clear hb
    go_wp2
    go_ret
    exact ⟨rfl, HB.out⟩
  · have h40 := fair_len hf
    have HOV := Aside0.mk (fun W h1 => Over_any c c W A A cap cap h1 hcap h1 hcap h40 h40)
    have HVR := Aside0.mk (fun W h1 => ValidR_any c W A cap h1 hcap)
    generalize overC c c = ov at hself HOV
    generalize validC c = va at hself HVR
    have HF := Lib.hid hf
    have HSELF := Lib.hid hself
    clear hf h40 hself
    obtain ⟨tag, kind, order, force, vol, other, pos, len, data⟩ := c
    simp only at hC hcap
    unfold cmdV at HOV HVR ⊢
    have HC := Aside0.mk hC
    have HCAP := Aside0.mk hcap
    have HLD := Aside0.mk hL
    clear hC hcap hL
    go_enter Tryd.func3, Tryd.ntmps3
    go_wp2_with fail
    have HK := Aside0.mk (blk_new w (.cells #[.int .i64 tag, .int .i64 kind, .int .i64 order, .bool force, .string vol, .string other, .int .i64 pos, .int .i64 len, .slice A data.length cap] 24))
    have HB := Aside0.mk (below_allocs w (.cells #[.int .i64 tag, .int .i64 kind, .int .i64 order, .bool force, .string vol, .string other, .int .i64 pos, .int .i64 len, .slice A data.length cap] 24))
    generalize w.alloc (.cells #[.int .i64 tag, .int .i64 kind, .int .i64 order, .bool force, .string vol, .string other, .int .i64 pos, .int .i64 len, .slice A data.length cap] 24) = w1 at HK HB ⊢
    refine (awake_any w1 (HLD.out.below HB.out)).mono ?_
    rintro e w2 ⟨rfl, hb⟩
    replace HK := Aside0.mk (blk_below HK.out hb)
    replace HB := Aside0.mk (below_step HB.out hb)
    clear hb
    obtain ⟨c0, c1, c2, c3, c4, c5, c6, c7, c8⟩ := cells24 HK.out
    go_wp2_with fail
    have hfa := fair_any ⟨tag, kind, order, force, vol, other, pos, len, data⟩ w2 A cap (Kd.C_below HC.out HB.out) HCAP.out
    rw [HF.out] at hfa
    refine hfa.mono ?_
    clear hfa c0 c1 c2 c3 c4 c5 c6 c7 c8
    rintro e w3 ⟨rfl, hb⟩
    replace HK := Aside0.mk (blk_below HK.out hb)
    replace HB := Aside0.mk (below_step HB.out hb)
    clear hb
    have HCW := Aside0.mk (fun W (hB : Below w3.heap.size w3 W) => Kd.C_below HC.out (below_step HB.out hB))
    have HB0 : Aside0 (Below w3.heap.size w3 w3.drew) := ⟨below_drew1 (Below.refl _ _)⟩
    obtain ⟨c0, c1, c2, c3, c4, c5, c6, c7, c8⟩ := cells24 HK.out
    have HSB : Aside0 (∀ W : World, Below w3.heap.size w3 W → W.cell? ⟨w.heap.size, 0, none⟩ = some (.int .i64 tag) ∧ W.cell? ⟨w.heap.size, 1, none⟩ = some (.int .i64 kind) ∧ W.cell? ⟨w.heap.size, 2, none⟩ = some (.int .i64 order) ∧ W.cell? ⟨w.heap.size, 3, none⟩ = some (.bool force) ∧ W.cell? ⟨w.heap.size, 4, none⟩ = some (.string vol) ∧ W.cell? ⟨w.heap.size, 5, none⟩ = some (.string other) ∧ W.cell? ⟨w.heap.size, 6, none⟩ = some (.int .i64 pos) ∧ W.cell? ⟨w.heap.size, 7, none⟩ = some (.int .i64 len) ∧ W.cell? ⟨w.heap.size, 8, none⟩ = some (.slice A data.length cap)) := ⟨fun W hB => cells24 (blk_below HK.out hB)⟩
    have fin : ∀ b : Bool, (va && (kind != 1 && kind != 4)) = b → ov = b := fun b hb => by rw [HSELF.out]; exact hb
    cases va
    · obtain rfl := fin false rfl
      clear fin HSELF
      go_wp2_with fail
      refine wp_region_noPanic ?_
      refine wp_region_held_drew (S := fun W => W.cell? ⟨w.heap.size, 0, none⟩ = some (.int .i64 tag) ∧ W.cell? ⟨w.heap.size, 1, none⟩ = some (.int .i64 kind) ∧ W.cell? ⟨w.heap.size, 2, none⟩ = some (.int .i64 order) ∧ W.cell? ⟨w.heap.size, 3, none⟩ = some (.bool force) ∧ W.cell? ⟨w.heap.size, 4, none⟩ = some (.string vol) ∧ W.cell? ⟨w.heap.size, 5, none⟩ = some (.string other) ∧ W.cell? ⟨w.heap.size, 6, none⟩ = some (.int .i64 pos) ∧ W.cell? ⟨w.heap.size, 7, none⟩ = some (.int .i64 len) ∧ W.cell? ⟨w.heap.size, 8, none⟩ = some (.slice A data.length cap)) (by kernel_rfl) (HSB.out _ HB0.out) (fun hHeld => ?_)
      refine wpAnyH_take (i := 0) (oi := ?oa1) (v := ?va1) ?hia1 (by kernel_rfl) (by kernel_rfl) (by kernel_rfl) (fun _ _ _ h => h) (Or.inl ⟨?hwa1, ?hya1⟩) hHeld ?rea1
      case hia1 => simp only [List.getElem?_toArray, List.getElem?_cons_succ, List.getElem?_cons_zero]; rfl
      case hwa1 => rfl
      case hya1 =>
        intro W hSw
        try dsimp only at hSw
        go_split_ands
        first | (go_simp; done) | (go_simp; with_reducible rfl)
      try simp only [Act.put, List.setIfInBounds_toArray, List.set_cons_zero, List.set_cons_succ]
      refine wpAnyH_take (i := 1) (oi := ?oa2) (v := ?va2) ?hia2 (by kernel_rfl) (by kernel_rfl) (by kernel_rfl) (fun _ _ _ h => h) (Or.inl ⟨?hwa2, ?hya2⟩) hHeld ?rea2
      case hia2 => simp only [List.getElem?_toArray, List.getElem?_cons_succ, List.getElem?_cons_zero]; rfl
      case hwa2 => rfl
      case hya2 =>
        intro W hSw
        try dsimp only at hSw
        go_split_ands
        first | (go_simp; done) | (go_simp; with_reducible rfl)
      try simp only [Act.put, List.setIfInBounds_toArray, List.set_cons_zero, List.set_cons_succ]
      refine wpAnyH_take (i := 3) (oi := ?oa3) (v := ?va3) ?hia3 (by kernel_rfl) (by kernel_rfl) (by kernel_rfl) (fun _ _ _ h => h) (Or.inl ⟨?hwa3, ?hya3⟩) hHeld ?rea3
      case hia3 => simp only [List.getElem?_toArray, List.getElem?_cons_succ, List.getElem?_cons_zero]; rfl
      case hwa3 => rfl
      case hya3 =>
        intro W hSw
        try dsimp only at hSw
        go_split_ands
        first | (go_simp; done) | (go_simp; with_reducible rfl)
      try simp only [Act.put, List.setIfInBounds_toArray, List.set_cons_zero, List.set_cons_succ]
      refine wpAnyH_ready (rs := [2]) (by kernel_rfl) (by simp) ?_
      refine AllReadyH.cons (o := ?oa4) ?hia4 (fun K hK => ?_) AllReadyH.nil
      case hia4 => simp only [List.getElem?_toArray, List.getElem?_cons_succ, List.getElem?_cons_zero]; rfl
      clear hHeld
      go_simp
      refine Calls.mono (HOV.out _ (HCW.out _ HB0.out)) ?_
      rintro e w4 ⟨rfl, hb⟩
      have HB4 := Aside0.mk (below_step HB0.out hb)
      clear hb
      try go_wp2_with fail
      refine hK.out _ _ ?_ (fun hHeld => ?_)
      · exact HSB.out _ HB4.out
      clear hK K
      try simp only [Act.put, List.setIfInBounds_toArray, List.set_cons_zero, List.set_cons_succ]
      refine wpAnyH_ready (rs := [4]) (by kernel_rfl) (by simp) ?_
      refine AllReadyH.cons (o := ?oa5) ?hia5 (fun K hK => ?_) AllReadyH.nil
      case hia5 => simp only [List.getElem?_toArray, List.getElem?_cons_succ, List.getElem?_cons_zero]; rfl
      clear hHeld
      go_simp
      refine Calls.mono (HVR.out _ (HCW.out _ HB4.out)) ?_
      rintro e w5 ⟨rfl, hb⟩
      have HB5 := Aside0.mk (below_step HB4.out hb)
      clear hb
      try go_wp2_with fail
      refine hK.out _ _ ?_ (fun hHeld => ?_)
      · exact HSB.out _ HB5.out
      clear hK K
      try simp only [Act.put, List.setIfInBounds_toArray, List.set_cons_zero, List.set_cons_succ]
      refine wpAnyH_take (i := 5) (oi := ?oa6) (v := ?va6) ?hia6 (by kernel_rfl) (by kernel_rfl) (by kernel_rfl) (fun _ _ _ h => h) (Or.inl ⟨?hwa6, ?hya6⟩) hHeld ?rea6
      case hia6 => simp only [List.getElem?_toArray, List.getElem?_cons_succ, List.getElem?_cons_zero]; rfl
      case hwa6 => rfl
      case hya6 =>
        intro W hSw
        try dsimp only at hSw
        go_split_ands
        first | (go_simp; done) | (go_simp; with_reducible rfl)
      try simp only [Act.put, List.setIfInBounds_toArray, List.set_cons_zero, List.set_cons_succ]
      refine wpAnyH_take (i := 6) (oi := ?oa7) (v := undef) ?hia7 (by kernel_rfl) (by kernel_rfl) (by kernel_rfl) (fun _ _ _ h => h) (Or.inr ⟨?hwa7, rfl⟩) hHeld ?rea7
      case hia7 => simp only [List.getElem?_toArray, List.getElem?_cons_succ, List.getElem?_cons_zero]; rfl
      case hwa7 => rfl
      try simp only [Act.put, List.setIfInBounds_toArray, List.set_cons_zero, List.set_cons_succ]
      refine wpAnyH_take (i := 7) (oi := ?oa8) (v := undef) ?hia8 (by kernel_rfl) (by kernel_rfl) (by kernel_rfl) (fun _ _ _ h => h) (Or.inr ⟨?hwa8, rfl⟩) hHeld ?rea8
      case hia8 => simp only [List.getElem?_toArray, List.getElem?_cons_succ, List.getElem?_cons_zero]; rfl
      case hwa8 => rfl
      try simp only [Act.put, List.setIfInBounds_toArray, List.set_cons_zero, List.set_cons_succ]
      refine wpAnyH_take (i := 8) (oi := ?oa9) (v := undef) ?hia9 (by kernel_rfl) (by kernel_rfl) (by kernel_rfl) (fun _ _ _ h => h) (Or.inr ⟨?hwa9, rfl⟩) hHeld ?rea9
      case hia9 => simp only [List.getElem?_toArray, List.getElem?_cons_succ, List.getElem?_cons_zero]; rfl
      case hwa9 => rfl
      try simp only [Act.put, List.setIfInBounds_toArray, List.set_cons_zero, List.set_cons_succ]
      refine wpAnyH_take (i := 9) (oi := ?oa10) (v := ?va10) ?hia10 (by kernel_rfl) (by kernel_rfl) (by kernel_rfl) (fun _ _ _ h => h) (Or.inl ⟨?hwa10, ?hya10⟩) hHeld ?rea10
      case hia10 => simp only [List.getElem?_toArray, List.getElem?_cons_succ, List.getElem?_cons_zero]; rfl
      case hwa10 => rfl
      case hya10 =>
        intro W hSw
        try dsimp only at hSw
        go_split_ands
        first | (go_simp; done) | (go_simp; with_reducible rfl)
      try simp only [Act.put, List.setIfInBounds_toArray, List.set_cons_zero, List.set_cons_succ]
      refine wpAnyH_take (i := 10) (oi := ?oa11) (v := ?va11) ?hia11 (by kernel_rfl) (by kernel_rfl) (by kernel_rfl) (fun _ _ _ h => h) (Or.inl ⟨?hwa11, ?hya11⟩) hHeld ?rea11
      case hia11 => simp only [List.getElem?_toArray, List.getElem?_cons_succ, List.getElem?_cons_zero]; rfl
      case hwa11 => rfl
      case hya11 =>
        intro W hSw
        try dsimp only at hSw
        go_split_ands
        first | (go_simp; done) | (go_simp; with_reducible rfl)
      try simp only [Act.put, List.setIfInBounds_toArray, List.set_cons_zero, List.set_cons_succ]
      refine wpAnyH_take (i := 11) (oi := ?oa12) (v := undef) ?hia12 (by kernel_rfl) (by kernel_rfl) (by kernel_rfl) (fun _ _ _ h => h) (Or.inr ⟨?hwa12, rfl⟩) hHeld ?rea12
      case hia12 => simp only [List.getElem?_toArray, List.getElem?_cons_succ, List.getElem?_cons_zero]; rfl
      case hwa12 => rfl
      try simp only [Act.put, List.setIfInBounds_toArray, List.set_cons_zero, List.set_cons_succ]
      refine wpAnyH_take (i := 12) (oi := ?oa13) (v := undef) ?hia13 (by kernel_rfl) (by kernel_rfl) (by kernel_rfl) (fun _ _ _ h => h) (Or.inr ⟨?hwa13, rfl⟩) hHeld ?rea13
      case hia13 => simp only [List.getElem?_toArray, List.getElem?_cons_succ, List.getElem?_cons_zero]; rfl
      case hwa13 => rfl
      try simp only [Act.put, List.setIfInBounds_toArray, List.set_cons_zero, List.set_cons_succ]
      refine wpAnyH_take (i := 13) (oi := ?oa14) (v := undef) ?hia14 (by kernel_rfl) (by kernel_rfl) (by kernel_rfl) (fun _ _ _ h => h) (Or.inr ⟨?hwa14, rfl⟩) hHeld ?rea14
      case hia14 => simp only [List.getElem?_toArray, List.getElem?_cons_succ, List.getElem?_cons_zero]; rfl
      case hwa14 => rfl
      try simp only [Act.put, List.setIfInBounds_toArray, List.set_cons_zero, List.set_cons_succ]
      refine wpAnyH_take (i := 14) (oi := ?oa15) (v := ?va15) ?hia15 (by kernel_rfl) (by kernel_rfl) (by kernel_rfl) (fun _ _ _ h => h) (Or.inl ⟨?hwa15, ?hya15⟩) hHeld ?rea15
      case hia15 => simp only [List.getElem?_toArray, List.getElem?_cons_succ, List.getElem?_cons_zero]; rfl
      case hwa15 => rfl
      case hya15 =>
        intro W hSw
        try dsimp only at hSw
        go_split_ands
        first | (go_simp; done) | (go_simp; with_reducible rfl)
      try simp only [Act.put, List.setIfInBounds_toArray, List.set_cons_zero, List.set_cons_succ]
      refine wpAnyH_take (i := 15) (oi := ?oa16) (v := ?va16) ?hia16 (by kernel_rfl) (by kernel_rfl) (by kernel_rfl) (fun _ _ _ h => h) (Or.inl ⟨?hwa16, ?hya16⟩) hHeld ?rea16
      case hia16 => simp only [List.getElem?_toArray, List.getElem?_cons_succ, List.getElem?_cons_zero]; rfl
      case hwa16 => rfl
      case hya16 =>
        intro W hSw
        try dsimp only at hSw
        go_split_ands
        first | (go_simp; done) | (go_simp; with_reducible rfl)
      try simp only [Act.put, List.setIfInBounds_toArray, List.set_cons_zero, List.set_cons_succ]
      refine wpAnyH_take (i := 16) (oi := ?oa17) (v := ?va17) ?hia17 (by kernel_rfl) (by kernel_rfl) (by kernel_rfl) (fun _ _ _ h => h) (Or.inl ⟨?hwa17, ?hya17⟩) hHeld ?rea17
      case hia17 => simp only [List.getElem?_toArray, List.getElem?_cons_succ, List.getElem?_cons_zero]; rfl
      case hwa17 => rfl
      case hya17 =>
        intro W hSw
        try dsimp only at hSw
        go_split_ands
        first | (go_simp; done) | (go_simp; with_reducible rfl)
      try simp only [Act.put, List.setIfInBounds_toArray, List.set_cons_zero, List.set_cons_succ]
      refine wpAnyH_done (by kernel_rfl) ?_ _
      refine NoPanic.normal ?_
      go_wp2
      go_ret
      exact ⟨rfl, below_step HB.out HB5.out⟩
    cases q1 : kind != 1
    · obtain rfl := fin false (by rw [q1]; rfl)
      clear fin HSELF
      go_wp2_with fail
      refine wp_region_noPanic ?_
      refine wp_region_held_drew (S := fun W => W.cell? ⟨w.heap.size, 0, none⟩ = some (.int .i64 tag) ∧ W.cell? ⟨w.heap.size, 1, none⟩ = some (.int .i64 kind) ∧ W.cell? ⟨w.heap.size, 2, none⟩ = some (.int .i64 order) ∧ W.cell? ⟨w.heap.size, 3, none⟩ = some (.bool force) ∧ W.cell? ⟨w.heap.size, 4, none⟩ = some (.string vol) ∧ W.cell? ⟨w.heap.size, 5, none⟩ = some (.string other) ∧ W.cell? ⟨w.heap.size, 6, none⟩ = some (.int .i64 pos) ∧ W.cell? ⟨w.heap.size, 7, none⟩ = some (.int .i64 len) ∧ W.cell? ⟨w.heap.size, 8, none⟩ = some (.slice A data.length cap)) (by kernel_rfl) (HSB.out _ HB0.out) (fun hHeld => ?_)
      refine wpAnyH_take (i := 0) (oi := ?ob1) (v := ?vb1) ?hib1 (by kernel_rfl) (by kernel_rfl) (by kernel_rfl) (fun _ _ _ h => h) (Or.inl ⟨?hwb1, ?hyb1⟩) hHeld ?reb1
      case hib1 => simp only [List.getElem?_toArray, List.getElem?_cons_succ, List.getElem?_cons_zero]; rfl
      case hwb1 => rfl
      case hyb1 =>
        intro W hSw
        try dsimp only at hSw
        go_split_ands
        first | (go_simp; done) | (go_simp; with_reducible rfl)
      try simp only [Act.put, List.setIfInBounds_toArray, List.set_cons_zero, List.set_cons_succ]
      refine wpAnyH_take (i := 1) (oi := ?ob2) (v := ?vb2) ?hib2 (by kernel_rfl) (by kernel_rfl) (by kernel_rfl) (fun _ _ _ h => h) (Or.inl ⟨?hwb2, ?hyb2⟩) hHeld ?reb2
      case hib2 => simp only [List.getElem?_toArray, List.getElem?_cons_succ, List.getElem?_cons_zero]; rfl
      case hwb2 => rfl
      case hyb2 =>
        intro W hSw
        try dsimp only at hSw
        go_split_ands
        first | (go_simp; done) | (go_simp; with_reducible rfl)
      try simp only [Act.put, List.setIfInBounds_toArray, List.set_cons_zero, List.set_cons_succ]
      refine wpAnyH_take (i := 3) (oi := ?ob3) (v := ?vb3) ?hib3 (by kernel_rfl) (by kernel_rfl) (by kernel_rfl) (fun _ _ _ h => h) (Or.inl ⟨?hwb3, ?hyb3⟩) hHeld ?reb3
      case hib3 => simp only [List.getElem?_toArray, List.getElem?_cons_succ, List.getElem?_cons_zero]; rfl
      case hwb3 => rfl
      case hyb3 =>
        intro W hSw
        try dsimp only at hSw
        go_split_ands
        first | (go_simp; done) | (go_simp; with_reducible rfl)
      try simp only [Act.put, List.setIfInBounds_toArray, List.set_cons_zero, List.set_cons_succ]
      refine wpAnyH_ready (rs := [2]) (by kernel_rfl) (by simp) ?_
      refine AllReadyH.cons (o := ?ob4) ?hib4 (fun K hK => ?_) AllReadyH.nil
      case hib4 => simp only [List.getElem?_toArray, List.getElem?_cons_succ, List.getElem?_cons_zero]; rfl
      clear hHeld
      go_simp
      refine Calls.mono (HOV.out _ (HCW.out _ HB0.out)) ?_
      rintro e w4 ⟨rfl, hb⟩
      have HB4 := Aside0.mk (below_step HB0.out hb)
      clear hb
      try go_wp2_with fail
      refine hK.out _ _ ?_ (fun hHeld => ?_)
      · exact HSB.out _ HB4.out
      clear hK K
      try simp only [Act.put, List.setIfInBounds_toArray, List.set_cons_zero, List.set_cons_succ]
      refine wpAnyH_ready (rs := [4]) (by kernel_rfl) (by simp) ?_
      refine AllReadyH.cons (o := ?ob5) ?hib5 (fun K hK => ?_) AllReadyH.nil
      case hib5 => simp only [List.getElem?_toArray, List.getElem?_cons_succ, List.getElem?_cons_zero]; rfl
      clear hHeld
      go_simp
      refine Calls.mono (HVR.out _ (HCW.out _ HB4.out)) ?_
      rintro e w5 ⟨rfl, hb⟩
      have HB5 := Aside0.mk (below_step HB4.out hb)
      clear hb
      try go_wp2_with fail
      refine hK.out _ _ ?_ (fun hHeld => ?_)
      · exact HSB.out _ HB5.out
      clear hK K
      try simp only [Act.put, List.setIfInBounds_toArray, List.set_cons_zero, List.set_cons_succ]
      refine wpAnyH_take (i := 5) (oi := ?ob6) (v := ?vb6) ?hib6 (by kernel_rfl) (by kernel_rfl) (by kernel_rfl) (fun _ _ _ h => h) (Or.inl ⟨?hwb6, ?hyb6⟩) hHeld ?reb6
      case hib6 => simp only [List.getElem?_toArray, List.getElem?_cons_succ, List.getElem?_cons_zero]; rfl
      case hwb6 => rfl
      case hyb6 =>
        intro W hSw
        try dsimp only at hSw
        go_split_ands
        first | (go_simp; done) | (go_simp; with_reducible rfl)
      try simp only [Act.put, List.setIfInBounds_toArray, List.set_cons_zero, List.set_cons_succ]
      refine wpAnyH_take (i := 6) (oi := ?ob7) (v := ?vb7) ?hib7 (by kernel_rfl) (by kernel_rfl) (by kernel_rfl) (fun _ _ _ h => h) (Or.inl ⟨?hwb7, ?hyb7⟩) hHeld ?reb7
      case hib7 => simp only [List.getElem?_toArray, List.getElem?_cons_succ, List.getElem?_cons_zero]; rfl
      case hwb7 => rfl
      case hyb7 =>
        intro W hSw
        try dsimp only at hSw
        go_split_ands
        first | (go_simp; done) | (go_simp; with_reducible rfl)
      try simp only [Act.put, List.setIfInBounds_toArray, List.set_cons_zero, List.set_cons_succ]
      refine wpAnyH_take (i := 7) (oi := ?ob8) (v := ?vb8) ?hib8 (by kernel_rfl) (by kernel_rfl) (by kernel_rfl) (fun _ _ _ h => h) (Or.inl ⟨?hwb8, ?hyb8⟩) hHeld ?reb8
      case hib8 => simp only [List.getElem?_toArray, List.getElem?_cons_succ, List.getElem?_cons_zero]; rfl
      case hwb8 => rfl
      case hyb8 =>
        intro W hSw
        try dsimp only at hSw
        go_split_ands
        first | (go_simp; done) | (go_simp; with_reducible rfl)
      try simp only [Act.put, List.setIfInBounds_toArray, List.set_cons_zero, List.set_cons_succ]
      refine wpAnyH_take (i := 8) (oi := ?ob9) (v := ?vb9) ?hib9 (by kernel_rfl) (by kernel_rfl) (by kernel_rfl) (fun _ _ _ h => h) (Or.inl ⟨?hwb9, ?hyb9⟩) hHeld ?reb9
      case hib9 => simp only [List.getElem?_toArray, List.getElem?_cons_succ, List.getElem?_cons_zero]; rfl
      case hwb9 => rfl
      case hyb9 =>
        intro W hSw
        try dsimp only at hSw
        go_split_ands
        first | (go_simp; done) | (go_simp; with_reducible rfl)
      try simp only [Act.put, List.setIfInBounds_toArray, List.set_cons_zero, List.set_cons_succ]
      refine wpAnyH_take (i := 9) (oi := ?ob10) (v := ?vb10) ?hib10 (by kernel_rfl) (by kernel_rfl) (by kernel_rfl) (fun _ _ _ h => h) (Or.inl ⟨?hwb10, ?hyb10⟩) hHeld ?reb10
      case hib10 => simp only [List.getElem?_toArray, List.getElem?_cons_succ, List.getElem?_cons_zero]; rfl
      case hwb10 => rfl
      case hyb10 =>
        intro W hSw
        try dsimp only at hSw
        go_split_ands
        first | (go_simp; done) | (go_simp; with_reducible rfl)
      try simp only [Act.put, List.setIfInBounds_toArray, List.set_cons_zero, List.set_cons_succ]
      refine wpAnyH_take (i := 10) (oi := ?ob11) (v := ?vb11) ?hib11 (by kernel_rfl) (by kernel_rfl) (by kernel_rfl) (fun _ _ _ h => h) (Or.inl ⟨?hwb11, ?hyb11⟩) hHeld ?reb11
      case hib11 => simp only [List.getElem?_toArray, List.getElem?_cons_succ, List.getElem?_cons_zero]; rfl
      case hwb11 => rfl
      case hyb11 =>
        intro W hSw
        try dsimp only at hSw
        go_split_ands
        first | (go_simp; done) | (go_simp; with_reducible rfl)
      try simp only [Act.put, List.setIfInBounds_toArray, List.set_cons_zero, List.set_cons_succ]
      refine wpAnyH_take (i := 11) (oi := ?ob12) (v := undef) ?hib12 (by kernel_rfl) (by kernel_rfl) (by kernel_rfl) (fun _ _ _ h => h) (Or.inr ⟨?hwb12, rfl⟩) hHeld ?reb12
      case hib12 => simp only [List.getElem?_toArray, List.getElem?_cons_succ, List.getElem?_cons_zero]; rfl
      case hwb12 => rfl
      try simp only [Act.put, List.setIfInBounds_toArray, List.set_cons_zero, List.set_cons_succ]
      refine wpAnyH_take (i := 12) (oi := ?ob13) (v := undef) ?hib13 (by kernel_rfl) (by kernel_rfl) (by kernel_rfl) (fun _ _ _ h => h) (Or.inr ⟨?hwb13, rfl⟩) hHeld ?reb13
      case hib13 => simp only [List.getElem?_toArray, List.getElem?_cons_succ, List.getElem?_cons_zero]; rfl
      case hwb13 => rfl
      try simp only [Act.put, List.setIfInBounds_toArray, List.set_cons_zero, List.set_cons_succ]
      refine wpAnyH_take (i := 13) (oi := ?ob14) (v := undef) ?hib14 (by kernel_rfl) (by kernel_rfl) (by kernel_rfl) (fun _ _ _ h => h) (Or.inr ⟨?hwb14, rfl⟩) hHeld ?reb14
      case hib14 => simp only [List.getElem?_toArray, List.getElem?_cons_succ, List.getElem?_cons_zero]; rfl
      case hwb14 => rfl
      try simp only [Act.put, List.setIfInBounds_toArray, List.set_cons_zero, List.set_cons_succ]
      refine wpAnyH_take (i := 14) (oi := ?ob15) (v := ?vb15) ?hib15 (by kernel_rfl) (by kernel_rfl) (by kernel_rfl) (fun _ _ _ h => h) (Or.inl ⟨?hwb15, ?hyb15⟩) hHeld ?reb15
      case hib15 => simp only [List.getElem?_toArray, List.getElem?_cons_succ, List.getElem?_cons_zero]; rfl
      case hwb15 => rfl
      case hyb15 =>
        intro W hSw
        try dsimp only at hSw
        go_split_ands
        first | (go_simp; done) | (go_simp; with_reducible rfl)
      try simp only [Act.put, List.setIfInBounds_toArray, List.set_cons_zero, List.set_cons_succ]
      refine wpAnyH_take (i := 15) (oi := ?ob16) (v := ?vb16) ?hib16 (by kernel_rfl) (by kernel_rfl) (by kernel_rfl) (fun _ _ _ h => h) (Or.inl ⟨?hwb16, ?hyb16⟩) hHeld ?reb16
      case hib16 => simp only [List.getElem?_toArray, List.getElem?_cons_succ, List.getElem?_cons_zero]; rfl
      case hwb16 => rfl
      case hyb16 =>
        intro W hSw
        try dsimp only at hSw
        go_split_ands
        first | (go_simp; done) | (go_simp; with_reducible rfl)
      try simp only [Act.put, List.setIfInBounds_toArray, List.set_cons_zero, List.set_cons_succ]
      refine wpAnyH_take (i := 16) (oi := ?ob17) (v := ?vb17) ?hib17 (by kernel_rfl) (by kernel_rfl) (by kernel_rfl) (fun _ _ _ h => h) (Or.inl ⟨?hwb17, ?hyb17⟩) hHeld ?reb17
      case hib17 => simp only [List.getElem?_toArray, List.getElem?_cons_succ, List.getElem?_cons_zero]; rfl
      case hwb17 => rfl
      case hyb17 =>
        intro W hSw
        try dsimp only at hSw
        go_split_ands
        first | (go_simp; done) | (go_simp; with_reducible rfl)
      try simp only [Act.put, List.setIfInBounds_toArray, List.set_cons_zero, List.set_cons_succ]
      refine wpAnyH_done (by kernel_rfl) ?_ _
      refine NoPanic.normal ?_
      go_wp2
      go_ret
      exact ⟨rfl, below_step HB.out HB5.out⟩
    cases q2 : kind != 4
    · obtain rfl := fin false (by rw [q1, q2]; rfl)
      clear fin HSELF
      go_wp2_with fail
      go_region_held3 (fun W => W.cell? ⟨w.heap.size, 0, none⟩ = some (.int .i64 tag) ∧ W.cell? ⟨w.heap.size, 1, none⟩ = some (.int .i64 kind) ∧ W.cell? ⟨w.heap.size, 2, none⟩ = some (.int .i64 order) ∧ W.cell? ⟨w.heap.size, 3, none⟩ = some (.bool force) ∧ W.cell? ⟨w.heap.size, 4, none⟩ = some (.string vol) ∧ W.cell? ⟨w.heap.size, 5, none⟩ = some (.string other) ∧ W.cell? ⟨w.heap.size, 6, none⟩ = some (.int .i64 pos) ∧ W.cell? ⟨w.heap.size, 7, none⟩ = some (.int .i64 len) ∧ W.cell? ⟨w.heap.size, 8, none⟩ = some (.slice A data.length cap)) (first
        | (with_reducible exact HSB.out _ HB0.out)
        | (with_reducible exact HSB.out _ HB4.out)
        | (with_reducible exact HSB.out _ HB5.out)) (first
        | ((with_reducible (refine Calls.mono (HOV.out _ (HCW.out _ HB0.out)) ?_)); rintro e w4 ⟨rfl, hb⟩; have HB4 := Aside0.mk (below_step HB0.out hb); clear hb)
        | ((with_reducible (refine Calls.mono (HVR.out _ (HCW.out _ HB4.out)) ?_)); rintro e w5 ⟨rfl, hb⟩; have HB5 := Aside0.mk (below_step HB4.out hb); clear hb))
      all_goals
        go_wp2
        go_ret
        exact ⟨rfl, below_step HB.out HB5.out⟩
    obtain rfl := fin true (by rw [q1, q2]; rfl)
    clear fin HSELF
    go_wp2_with fail
    go_region_held3 (fun W => W.cell? ⟨w.heap.size, 0, none⟩ = some (.int .i64 tag) ∧ W.cell? ⟨w.heap.size, 1, none⟩ = some (.int .i64 kind) ∧ W.cell? ⟨w.heap.size, 2, none⟩ = some (.int .i64 order) ∧ W.cell? ⟨w.heap.size, 3, none⟩ = some (.bool force) ∧ W.cell? ⟨w.heap.size, 4, none⟩ = some (.string vol) ∧ W.cell? ⟨w.heap.size, 5, none⟩ = some (.string other) ∧ W.cell? ⟨w.heap.size, 6, none⟩ = some (.int .i64 pos) ∧ W.cell? ⟨w.heap.size, 7, none⟩ = some (.int .i64 len) ∧ W.cell? ⟨w.heap.size, 8, none⟩ = some (.slice A data.length cap)) (first
      | (with_reducible exact HSB.out _ HB0.out)
      | (with_reducible exact HSB.out _ HB4.out)
      | (with_reducible exact HSB.out _ HB5.out)) (first
      | ((with_reducible (refine Calls.mono (HOV.out _ (HCW.out _ HB0.out)) ?_)); rintro e w4 ⟨rfl, hb⟩; have HB4 := Aside0.mk (below_step HB0.out hb); clear hb)
      | ((with_reducible (refine Calls.mono (HVR.out _ (HCW.out _ HB4.out)) ?_)); rintro e w5 ⟨rfl, hb⟩; have HB5 := Aside0.mk (below_step HB4.out hb); clear hb))
    all_goals
      go_wp2
      go_ret
      exact ⟨rfl, below_step HB.out HB5.out⟩
end Go.Proofs.YthbnghdobmghlaaDoor.ST
