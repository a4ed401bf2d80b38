/- fault.Text. -/
import Derived.Test.YtgofecclceoeiaaDoorG0
import Derived.Test.YtgofecclceoeiaaDoorG2
namespace Go.Proofs.YtgofecclceoeiaaDoor.ST
open Go.RowKit Go.Proofs.YtgofecclceoeiaaDoorW.PrintWords Go.Proofs.YtgofecclceoeiaaDoorW.PrintLast Go.Proofs.YtgofecclceoeiaaDoorW.PrintMore Go.Proofs.YtgofecclceoeiaaDoor.PF
set_option linter.unusedVariables false
set_option linter.unusedSimpArgs false
theorem info9 : (Tryd.prog.info? 9).map (fun i => (i.zero, i.size, i.bytes)) = some (some (.string ByteArray.empty), 1, 16) := by kernel_rfl
def wordB (k : Int) : ByteArray := (tegularef13_word.f k).getD ⟨#[]⟩
theorem word_f {k : Int} (h1 : 1 ≤ k) (h2 : k ≤ 7) : tegularef13_word.f k = some (wordB k) := by
  have hn : k = 1 ∨ k = 2 ∨ k = 3 ∨ k = 4 ∨ k = 5 ∨ k = 6 ∨ k = 7 := by omega
  rcases hn with rfl | rfl | rfl | rfl | rfl | rfl | rfl <;> rfl
theorem wordB_size {k : Int} (h1 : 1 ≤ k) (h2 : k ≤ 7) : (wordB k).size ≤ 5 := by
  have hn : k = 1 ∨ k = 2 ∨ k = 3 ∨ k = 4 ∨ k = 5 ∨ k = 6 ∨ k = 7 := by omega
  rcases hn with rfl | rfl | rfl | rfl | rfl | rfl | rfl <;> decide
/-- The text of a fault, as fault.Text makes it. -/
def oneB (x : S32) : ByteArray := if (x.f1 == 3 || x.f1 == 5) = true then ((wordB x.f1 ++ ⟨#[32]⟩) ++ ⟨(Lib.itoa x.f0).toArray⟩) ++ (⟨#[32, 116, 111, 32]⟩ ++ ⟨(Lib.itoa x.f2).toArray⟩) else (wordB x.f1 ++ ⟨#[32]⟩) ++ ⟨(Lib.itoa x.f0).toArray⟩
def textL (l : List S32) : List UInt8 := Lib.join (l.map fun x => (oneB x).data.toList) [59, 32]

theorem below_join {w a b : World} (hb : Below a.heap.size a b) (h : Below w.heap.size w a) : Below w.heap.size w b := below_step h hb
theorem Itoa_any (n : Int) (hn : -9223372036854775808 ≤ n ∧ n ≤ 9223372036854775807) (w : World) (htab : Lib.TabIs Tryd.prog w "internal/strconv.uint64pow10" .u64 Lib.pow10Tab) :
    Calls Tryd.prog 23 #[.int .i64 n] w fun e w' => e = .returned (.string ⟨(Lib.itoa n).toArray⟩) ∧ Below w.heap.size w w' := by
  refine (Tryd.strconv_Itoa n hn.1 hn.2 w htab).mono ?_
  rintro e w' ⟨rfl, k, os, rfl⟩
  exact ⟨rfl, Lib.below_grow w.heap.size w (Nat.le_refl _) k os⟩

theorem Join_R (w : World) (base : Nat) (v : Value) (xs : List ByteArray) (sep : ByteArray) (h : Kd.R Kd.string 9 w base (fun _ => True) v xs) (hN : xs.length ≤ 140737488355328) (hlen : (Lib.join (xs.map (·.data.toList)) sep.data.toList).length ≤ 140737488355328) :
    Calls Tryd.prog 24 #[v, .string sep] w fun e w' => e = .returned (.string ⟨(Lib.join (xs.map (·.data.toList)) sep.data.toList).toArray⟩) ∧ Below w.heap.size w w' := by
  rcases Nat.eq_zero_or_pos xs.length with z | z
  · obtain ⟨A, c, rfl⟩ := Kd.R_slice h
    obtain rfl := List.length_eq_zero_iff.1 z
    refine (Tryd.strings_Join_none A c sep w).mono ?_
    rintro e w' ⟨rfl, rfl⟩
    exact ⟨rfl, Below.refl _ _⟩
  · obtain ⟨inner, hown⟩ := Kd.R_own h
    rcases hown.2 with ⟨rfl, h0⟩ | ⟨g, cap, cur, rfl, hg, hh, hle, _⟩
    · omega
    · obtain ⟨ad, he, hc⟩ := (Kd.R_reads' h).2.2.2.2 z
      cases he
      refine Tryd.strings_Join g 0 cap xs sep w ?_ (blk_lt hh) hN hle hlen
      intro j x hx
      obtain ⟨c, hl, hk, hcell⟩ := hc j x hx
      have e : c = [.string x] := hk
      subst e
      have := hcell 0 (.string x) rfl
      rw [show j * Kd.string.sz + 0 = j from by rw [show Kd.string.sz = 1 from rfl]; omega] at this
      rcases j with _ | j <;> simpa [Addr.add] using this

set_option maxHeartbeats 4000000 in
set_option maxRecDepth 100000 in
theorem Text_any (w : World) (A0 : Option Addr) (c0 : Nat) (l : List S32) (hr0 : Kd.C k32 w A0 l.length l) (hc0 : l.length ≤ c0) (hL : Ld w) (hw : ∀ x ∈ l, x.f0 ≤ 9223372036854775807 ∧ x.f2 ≤ 9223372036854775807) (hn : l.length ≤ 4000000000000) (hv : okAll (-1) l = true) (hT : (textL l).length ≤ 140737488355328) :
    Calls Tryd.prog 12 #[.slice A0 l.length c0] w fun e w' => e = .returned (.string ⟨(textL l).toArray⟩) ∧ Below w.heap.size w w' := by
  have hu32 := Tryd.underlying32
  have HV := Aside0.mk hv
  have HW := Aside0.mk hw
  have HT := Aside0.mk hT
  have hn' := Lib.hid hn
  clear hv hw hT hn
  have HR0 := Aside0.mk hr0
  have HC0 := Aside0.mk hc0
  clear hr0 hc0
  go_enter Tryd.func12, Tryd.ntmps12
  go_wp2_with fail
  refine (fault_Valid.calls (l.length + 1) A0 c0 l true w HR0.out HC0.out (by rw [valid_f l (by have := hn'.out; omega), HV.out])).mono ?_
  rintro e w1 ⟨rfl, hb⟩
  have HB := Aside0.mk hb
  clear hb
  go_wp2
  go_loopg [3, 12] l.length (fun kq v3 v12 w' => ∃ i : Nat, v12 = .int .i64 i ∧ Aside0 (i ≤ l.length ∧ kq = l.length - i) ∧ Aside0 (Kd.R Kd.string 9 w' w.heap.size (fun _ => True) v3 ((l.take i).map oneB)) ∧ Aside0 (Below w.heap.size w w'))
  case atStart => exact ⟨0, rfl, ⟨by omega, rfl⟩, ⟨by simpa using Kd.R_nil _ _ _ _ _⟩, HB⟩
  case round =>
    obtain ⟨i, rfl, HI, HO, HB⟩ := hrel
    by_cases h : i < l.length
    · have hx := okAll_get i h HV.out
      have hxw := HW.out l[i] (List.getElem_mem h)
      have hrd := rd_at l i h
      have d1 : decide ((i : Int) < (l.length : Int)) = true := decide_eq_true (by omega)
      obtain ⟨ad, e115, hx0, hx1, hx2⟩ := at_T32 HR0.out (i : Int) (by omega) (by omega)
      rw [hrd] at hx0 hx1 hx2
      rw [Int.toNat_natCast] at hx0 hx1 hx2
      cases e115
      obtain ⟨x, hxe⟩ : ∃ x, x = l[i] := ⟨_, rfl⟩
      rw [← hxe] at hx hxw hx0 hx1 hx2
      clear hrd
      have hi5 := wordB_size hx.2.1 hx.2.2.1
      have hwd := word_f hx.2.1 hx.2.2.1
      have hx0' := (HB.out.cell (World.block_lt_of_cell? w _ hx0)).trans hx0
      have hx1' := (HB.out.cell (World.block_lt_of_cell? w _ hx1)).trans hx1
      have hx2' := (HB.out.cell (World.block_lt_of_cell? w _ hx2)).trans hx2
      clear hx0 hx1 hx2
      have HXE := Aside0.mk hxe
      have HX := Aside0.mk hx
      have HXW := Aside0.mk hxw
      clear hxe hx hxw
      have p115 : (0 ≤ (i : Int)) = True := eq_true (by omega)
      have q115 : ((i : Int) < (l.length : Int)) = True := eq_true (by omega)
      go_wp2_with (first | ((with_reducible refine gate_dst (N := 5) rfl ?_); refine box_event ?hg (N := 5) ?hd (cs := #[.int .i64 0, .int .i64 0, .int .i64 0]) (t := 32) ?hr ?_; (case hd => rfl); (case hg => rfl); (case hr => first | (go_simp; done) | (go_simp; rfl)); intro gb hg w10 hbox hb; have n0_ := Aside0.mk (Kd.R_below (Kd.R_elderB HO.out gb (Nat.le_of_eq hg.symm)) hb); have n1_ := Aside0.mk (below_step HB.out hb); have n2_ := Aside0.mk hbox; have n3_ : Aside0 (w.heap.size ≤ gb) := ⟨by rw [hg]; exact below_size HB.out⟩; clear HO; clear HB; have HO := n0_; have HB := n1_; have BK := n2_; have GE := n3_; clear n0_ n1_ n2_ n3_; clear hb hbox hg; have hcz_0 : w10.cell? ⟨gb, 0, none⟩ = some (.int .i64 0) := (blk_cell BK.out 0).trans rfl; have hcz_1 : w10.cell? ⟨gb, 1, none⟩ = some (.int .i64 0) := (blk_cell BK.out 1).trans rfl; have hcz_2 : w10.cell? ⟨gb, 2, none⟩ = some (.int .i64 0) := (blk_cell BK.out 2).trans rfl; have hfz_0 := blk_frozen BK.out 0; have hfz_1 := blk_frozen BK.out 1; have hfz_2 := blk_frozen BK.out 2))
      have HBL : Aside0 (w10.heap.size ≤ w10.heap.size) := ⟨Nat.le_refl _⟩
      have m0 : Aside0 ((((w10.setCell ⟨gb, 0, none⟩ (.int .i64 x.f0)).setCell ⟨gb, 1, none⟩ (.int .i64 x.f1)).setCell ⟨gb, 2, none⟩ (.int .i64 x.f2)).heap[gb]? = some (.cells #[.int .i64 x.f0, .int .i64 x.f1, .int .i64 x.f2] 32 (0, 0))) := ⟨blk_put (blk_put (blk_put BK.out 0 _ rfl) 1 _ rfl) 2 _ rfl⟩
      have m1 : Aside0 (Below w.heap.size w (((w10.setCell ⟨gb, 0, none⟩ (.int .i64 x.f0)).setCell ⟨gb, 1, none⟩ (.int .i64 x.f1)).setCell ⟨gb, 2, none⟩ (.int .i64 x.f2))) := ⟨below_set (below_set (below_set HB.out GE.out) GE.out) GE.out⟩
      have m2 : Aside0 (Kd.R Kd.string 9 (((w10.setCell ⟨gb, 0, none⟩ (.int .i64 x.f0)).setCell ⟨gb, 1, none⟩ (.int .i64 x.f1)).setCell ⟨gb, 2, none⟩ (.int .i64 x.f2)) w.heap.size (fun k => True ∧ k ≠ gb) u3 ((l.take i).map oneB)) := ⟨Kd.R_far (p := ⟨gb, 2, none⟩) (Kd.R_far (p := ⟨gb, 1, none⟩) (Kd.R_far (p := ⟨gb, 0, none⟩) HO.out (fun _ hk => hk.2) _) (fun _ hk => hk.2) _) (fun _ hk => hk.2) _⟩
      clear BK HB HO hcz_0 hcz_1 hcz_2 hfz_0 hfz_1 hfz_2 HBL
      generalize ((w10.setCell ⟨gb, 0, none⟩ (.int .i64 x.f0)).setCell ⟨gb, 1, none⟩ (.int .i64 x.f1)).setCell ⟨gb, 2, none⟩ (.int .i64 x.f2) = w11 at m0 m1 m2 ⊢
      have HSS : Aside0 (∀ W, Below w11.heap.size w11 W → W.cell? ⟨gb, 0, none⟩ = some (.int .i64 x.f0) ∧ W.cell? ⟨gb, 1, none⟩ = some (.int .i64 x.f1)) := ⟨fun W hW => ⟨(blk_cell (blk_below m0.out hW) 0).trans rfl, (blk_cell (blk_below m0.out hW) 1).trans rfl⟩⟩
      have HT1 : Aside0 (∀ W, Below w11.heap.size w11 W → Lib.TabIs Tryd.prog W "internal/strconv.uint64pow10" .u64 Lib.pow10Tab) := ⟨fun W hW => (hL.below (below_step m1.out hW)).tab⟩
      have hB := Below.refl w11.heap.size w11
      have hi := tegularef13_word.at x.f1 _ hwd
      have z0 := HX.out
      have z1 := HXW.out
      have l0 : (Lib.itoa x.f0).length ≤ 21 := by
        have := Lib.itoa_length_le x.f0 (by omega) (by omega)
        omega
      have l2 : (Lib.itoa x.f2).length ≤ 21 := by
        have := Lib.itoa_length_le x.f2 (by omega) (by omega)
        omega
      have s1 : (9223372036854775807 < (wordB x.f1).size + 1) = False := eq_false (by omega)
      have s2 : (9223372036854775807 < (wordB x.f1).size + 1 + (Lib.itoa x.f0).length) = False := eq_false (by omega)
      have s3 : (9223372036854775807 < 4 + (Lib.itoa x.f2).length) = False := eq_false (by omega)
      have s4 : (9223372036854775807 < (wordB x.f1).size + 1 + (Lib.itoa x.f0).length + (4 + (Lib.itoa x.f2).length)) = False := eq_false (by omega)
      have b00 : -9223372036854775808 ≤ x.f0 := by omega
      have b01 : x.f0 ≤ 9223372036854775807 := by omega
      have b20 : -9223372036854775808 ≤ x.f2 := by omega
      have b21 : x.f2 ≤ 9223372036854775807 := by omega
      have HB01 := Lib.hid (And.intro b00 b01)
      have HB21 := Lib.hid (And.intro b20 b21)
      clear b00 b01 b20 b21 z0 z1 l0 l2 hwd hi5
      go_region_held3 (fun W => W.cell? ⟨gb, 0, none⟩ = some (.int .i64 x.f0) ∧ W.cell? ⟨gb, 1, none⟩ = some (.int .i64 x.f1)) (first | exact HSS.out _ hB | exact HSS.out _ (below_drew1 hB))
        (first
          | (go_at_call 22; with_reducible (refine Calls.mono (words_any _) ?_); rintro e wn ⟨rfl, hb⟩; replace hB := (by with_reducible first | exact below_join hb hB | exact below_join hb (below_drew1 hB) : Below w11.heap.size w11 wn); clear hb)
          | (go_at_call 23; with_reducible (refine Calls.mono (Itoa_any x.f0 HB01.out _ (HT1.out _ ?_)) ?_); (· with_reducible first | exact hB | exact below_drew1 hB); rintro e wn ⟨rfl, hb⟩; replace hB := (by with_reducible first | exact below_join hb hB | exact below_join hb (below_drew1 hB) : Below w11.heap.size w11 wn); clear hb))
      all_goals
        obtain ⟨b, hbq⟩ : ∃ b, (x.f1 == 3 || x.f1 == 5) = b := ⟨_, rfl⟩
        have hA : ∀ w, Calls Tryd.prog 21 #[.int .i64 x.f1] w fun e w' => e = .returned (.bool b) ∧ Drawn0 w w' := fun w => fault_aims.calls x.f1 b w (by rw [aims_f, hbq])
        have HA := Aside0.mk hA
        have HBQ := Lib.hid hbq
        have n0 := Aside0.mk (blk_below m0.out hB)
        have n1 := Aside0.mk (below_step m1.out hB)
        have n2 := Aside0.mk (Kd.R_mono (Kd.R_below m2.out hB) (fun _ _ => trivial))
        clear hbq hA hB m0 m1 m2 HSS
        have hq1 := (blk_cell n0.out 1).trans (show _ = some (Value.int .i64 x.f1) from rfl)
        have hq2 := (blk_cell n0.out 2).trans (show _ = some (Value.int .i64 x.f2) from rfl)
        have LT : Aside0 (((l.take i).map oneB).length + 1 ≤ 4000000000000) := ⟨by have := hn'.out; have := HI.out.1; simp only [List.length_map, List.length_take]; omega⟩
        cases b
        · have ho1 : oneB x = (wordB x.f1 ++ (⟨#[32]⟩ : ByteArray)) ++ (⟨(Lib.itoa x.f0).toArray⟩ : ByteArray) := by unfold oneB; rw [HBQ.out]; rfl
          have HO1 := Lib.hid ho1
          clear ho1
          go_wp2_with (first | (go_at_call 21; refine (HA.out _).mono ?_; rintro e w3 ⟨rfl, hd⟩; replace n0 := Aside0.mk (blk_below n0.out hd.below); replace n1 := Aside0.mk (below_step n1.out hd.below); replace n2 := Aside0.mk (Kd.R_below n2.out hd.below); clear hd hq1 hq2; have hq1 := (blk_cell n0.out 1).trans (show _ = some (Value.int .i64 x.f1) from rfl); have hq2 := (blk_cell n0.out 2).trans (show _ = some (Value.int .i64 x.f2) from rfl)) | ((with_reducible refine gate_builtin (b := .append) (xs := #[.tmp 34, .tmp 36]) rfl ?_); at_builtin; refine Kd.R_append Kd.string (w0 := w) w.heap.size rfl (.tmp 34) (.tmp 36) 39 9 (.string ByteArray.empty) 16 rfl Tryd.underlying39 info9 rfl (by decide) (by omega) u3 ((l.take i).map oneB) ((wordB x.f1 ++ (⟨#[32]⟩ : ByteArray)) ++ (⟨(Lib.itoa x.f0).toArray⟩ : ByteArray)) [.string ((wordB x.f1 ++ (⟨#[32]⟩ : ByteArray)) ++ (⟨(Lib.itoa x.f0).toArray⟩ : ByteArray))] (fun _ => True) (fun _ => False) rfl (by first | (go_simp; done) | (go_simp; rfl)) rfl (fun _ hk => hk.elim) (fun _ _ => trivial) n2.out n1.out (below_size n1.out) (by have := LT.out; omega) ?_; intro v1 w4 ho hb hg hat; have HO4 := Aside0.mk ho; have HB4 := Aside0.mk hb; clear ho hb hg hat))
          go_roundg (l.length - (i + 1))
          case measure => have := HI.out; omega
          case rel =>
            refine ⟨i + 1, by rw [w64 i l.length h (by have := hn'.out; omega)], ⟨by omega, rfl⟩, ⟨?_⟩, HB4⟩
            have e := HO4.out
            rw [← HO1.out] at e
            have e2 : (l.take (i + 1)).map oneB = (l.take i).map oneB ++ [oneB x] := by rw [List.take_add_one, List.getElem?_eq_getElem h, List.map_append, ← HXE.out]; rfl
            rw [e2]
            exact e
        · have ho1 : oneB x = ((wordB x.f1 ++ (⟨#[32]⟩ : ByteArray)) ++ (⟨(Lib.itoa x.f0).toArray⟩ : ByteArray)) ++ ((⟨#[32, 116, 111, 32]⟩ : ByteArray) ++ (⟨(Lib.itoa x.f2).toArray⟩ : ByteArray)) := by unfold oneB; rw [HBQ.out]; rfl
          have HO1 := Lib.hid ho1
          clear ho1
          go_wp2_with (first | (go_at_call 21; refine (HA.out _).mono ?_; rintro e w3 ⟨rfl, hd⟩; replace n0 := Aside0.mk (blk_below n0.out hd.below); replace n1 := Aside0.mk (below_step n1.out hd.below); replace n2 := Aside0.mk (Kd.R_below n2.out hd.below); clear hd hq1 hq2; have hq1 := (blk_cell n0.out 1).trans (show _ = some (Value.int .i64 x.f1) from rfl); have hq2 := (blk_cell n0.out 2).trans (show _ = some (Value.int .i64 x.f2) from rfl)) | (go_at_call 23; refine (Itoa_any x.f2 HB21.out _ (hL.below n1.out).tab).mono ?_; rintro e w5 ⟨rfl, hd⟩; replace n1 := Aside0.mk (below_step n1.out hd); replace n2 := Aside0.mk (Kd.R_below n2.out hd); clear hd hq1 hq2) | ((with_reducible refine gate_builtin (b := .append) (xs := #[.tmp 34, .tmp 36]) rfl ?_); at_builtin; refine Kd.R_append Kd.string (w0 := w) w.heap.size rfl (.tmp 34) (.tmp 36) 39 9 (.string ByteArray.empty) 16 rfl Tryd.underlying39 info9 rfl (by decide) (by omega) u3 ((l.take i).map oneB) (((wordB x.f1 ++ (⟨#[32]⟩ : ByteArray)) ++ (⟨(Lib.itoa x.f0).toArray⟩ : ByteArray)) ++ ((⟨#[32, 116, 111, 32]⟩ : ByteArray) ++ (⟨(Lib.itoa x.f2).toArray⟩ : ByteArray))) [.string (((wordB x.f1 ++ (⟨#[32]⟩ : ByteArray)) ++ (⟨(Lib.itoa x.f0).toArray⟩ : ByteArray)) ++ ((⟨#[32, 116, 111, 32]⟩ : ByteArray) ++ (⟨(Lib.itoa x.f2).toArray⟩ : ByteArray)))] (fun _ => True) (fun _ => False) rfl (by first | (go_simp; done) | (go_simp; rfl)) rfl (fun _ hk => hk.elim) (fun _ _ => trivial) n2.out n1.out (below_size n1.out) (by have := LT.out; omega) ?_; intro v1 w4 ho hb hg hat; have HO4 := Aside0.mk ho; have HB4 := Aside0.mk hb; clear ho hb hg hat))
          go_roundg (l.length - (i + 1))
          case measure => have := HI.out; omega
          case rel =>
            refine ⟨i + 1, by rw [w64 i l.length h (by have := hn'.out; omega)], ⟨by omega, rfl⟩, ⟨?_⟩, HB4⟩
            have e := HO4.out
            rw [← HO1.out] at e
            have e2 : (l.take (i + 1)).map oneB = (l.take i).map oneB ++ [oneB x] := by rw [List.take_add_one, List.getElem?_eq_getElem h, List.map_append, ← HXE.out]; rfl
            rw [e2]
            exact e
    · have hil : i = l.length := by have := HI.out; omega
      subst hil
      have d1 : decide ((l.length : Int) < (l.length : Int)) = false := decide_eq_false (by omega)
      rw [List.take_length] at HO
      have HJ : Aside0 (Calls Tryd.prog 24 #[u3, .string ⟨#[59, 32]⟩] _ _) := ⟨Join_R _ _ _ _ ⟨#[59, 32]⟩ HO.out (by have := hn'.out; rw [List.length_map]; omega) (by rw [List.map_map]; exact HT.out)⟩
      go_wp2_with fail
      refine HJ.out.mono ?_
      rintro e w5 ⟨rfl, hb⟩
      have HB5 := Aside0.mk (below_step HB.out hb)
      clear hb
      go_wp2
      go_ret
      refine ⟨?_, HB5.out⟩
      rfl
end Go.Proofs.YtgofecclceoeiaaDoor.ST
