/- fault.Parse. -/
import Derived.Test.YtgofecclceoeiaaDoorG4
namespace Go.Proofs.YtgofecclceoeiaaDoor.ST
open Go.RowKit Go.Proofs.YtgofecclceoeiaaDoorW.PrintWords Go.Proofs.YtgofecclceoeiaaDoorW.PrintLast Go.Proofs.YtgofecclceoeiaaDoorW.PrintMore Go.Proofs.YtgofecclceoeiaaDoor.PF
set_option linter.unusedVariables false
set_option linter.unusedSimpArgs false
def sepB : ByteArray := ⟨#[59, 32]⟩
def partsB (s : ByteArray) : List ByteArray := Lib.splitB sepB 0 (Lib.countB s sepB) s
def readF (p : ByteArray) : S32 × Bool := partF p.data.toList
/-- What Parse gives: nil and ErrSyntax where there is none. -/
def parseB (s : ByteArray) : Option (List S32) :=
  if s.toList = [] then some []
  else if ((partsB s).all fun p => (readF p).2) = true ∧ okAll (-1) ((partsB s).map fun p => (readF p).1) = true then some ((partsB s).map fun p => (readF p).1) else none
def errOf : Option (List S32) → Int
  | some _ => 0
  | none => 4
theorem word_f' {k : Int} (h1 : 0 ≤ k) (h2 : k ≤ 7) : tegularef13_word.f k = some (wordB k) := by
  rcases (by omega : k = 0 ∨ 1 ≤ k) with rfl | h
  · rfl
  · exact word_f h h2
theorem cut_le (s sep : List UInt8) : (Lib.cut s sep).1.length ≤ s.length ∧ (Lib.cut s sep).2.1.length ≤ s.length := by
  unfold Lib.cut
  split
  · simp only [List.length_take, List.length_drop]; omega
  · simp
theorem readF_plain {p : ByteArray} {c1 c2 : List UInt8} {c3 : Bool} {kd : Int} (hc : Lib.cut p.data.toList [32] = (c1, c2, c3)) (hk : kindUpto c1 8 = kd) (hb : (kd == 3 || kd == 5) = false) : readF p = (⟨numOf c2, kd, 0⟩, c3 && okNum c2) := by
  unfold readF partF
  rw [hc]
  change (if (kindOf c1 == 3 || kindOf c1 == 5) = true then _ else _) = _
  rw [show kindOf c1 = kd from hk, hb]
  rw [if_neg (by decide)]
theorem readF_aims {p : ByteArray} {c1 c2 d1 d2 : List UInt8} {c3 d3 : Bool} {kd : Int} (hc : Lib.cut p.data.toList [32] = (c1, c2, c3)) (hk : kindUpto c1 8 = kd) (hb : (kd == 3 || kd == 5) = true) (hd : Lib.cut c2 [32, 116, 111, 32] = (d1, d2, d3)) : readF p = (⟨numOf d1, kd, numOf d2⟩, (c3 && d3) && okNum d1 && okNum d2) := by
  unfold readF partF
  rw [hc]
  change (if (kindOf c1 == 3 || kindOf c1 == 5) = true then _ else _) = _
  rw [show kindOf c1 = kd from hk, hb]
  rw [if_pos rfl]
  change ((⟨numOf (Lib.cut c2 [32, 116, 111, 32]).1, kd, numOf (Lib.cut c2 [32, 116, 111, 32]).2.1⟩ : S32), (c3 && (Lib.cut c2 [32, 116, 111, 32]).2.2) && okNum (Lib.cut c2 [32, 116, 111, 32]).1 && okNum (Lib.cut c2 [32, 116, 111, 32]).2.1) = _
  rw [hd]
theorem map_next {α β : Type} (f : α → β) (ps : List α) (i : Nat) (h : i < ps.length) {p : α} (hp : p = ps[i]) : (ps.take (i + 1)).map f = (ps.take i).map f ++ [f p] := by
  rw [List.take_add_one, List.getElem?_eq_getElem h, List.map_append, ← hp]; rfl
theorem all_next {α : Type} (f : α → Bool) (ps : List α) (i : Nat) (h : i < ps.length) {p : α} (hp : p = ps[i]) : (ps.take (i + 1)).all f = ((ps.take i).all f && f p) := by
  rw [List.take_add_one, List.getElem?_eq_getElem h, List.all_append, ← hp]; simp
theorem bsize (l : List UInt8) : (⟨l.toArray⟩ : ByteArray).size = l.length := by simp [ByteArray.size]
theorem dsize (p : ByteArray) : p.data.toList.length = p.size := by rw [Array.length_toList]; rfl
theorem Ld.alloc2 {w : World} (h : Ld w) {o o' : Obj} : Ld ((w.alloc o).alloc o') := h.below (below_alloc (below_alloc (Below.refl _ _) _) _)
theorem Split_any (s : ByteArray) (w : World) (hL : Ld w) (hs : s.size < 4294967281) (hlen : (partsB s).length = Lib.countB s sepB + 1) :
    Calls Tryd.prog 30 #[.string s, .string ⟨#[59, 32]⟩] w fun e w' => e = .returned (.slice (some ⟨w.heap.size, 0, none⟩) (partsB s).length (partsB s).length) ∧ w' = w.alloc (.cells ((partsB s).map Value.string).toArray 9) := by
  obtain ⟨m, hm⟩ := hL.mx
  refine (Tryd.strings_Split s sepB m _ hs hm (by decide)).mono ?_
  rintro e w1 ⟨rfl, rfl⟩
  rw [hlen]
  exact ⟨rfl, rfl⟩
theorem Lp.start (w : World) (s : ByteArray) (arr : Array Value) : Lp w w.heap.size (w.heap.size + 1) (w.heap.size + 1 + 1) arr (.slice none 0 0) [] (((w.alloc (.cells #[.string s] 9)).alloc (.cells #[.bool true] 4)).alloc (.cells arr 9)) s true := by
  have q2 := blk_alloc (blk_new (w.alloc (.cells #[.string s] 9)) (.cells #[.bool true] 4)) (.cells arr 9)
  have q3 := blk_new ((w.alloc (.cells #[.string s] 9)).alloc (.cells #[.bool true] 4)) (.cells arr 9)
  have hsz1 : (w.alloc (.cells #[.string s] 9)).heap.size = w.heap.size + 1 := by simp
  have hsz2 : ((w.alloc (.cells #[.string s] 9)).alloc (.cells #[.bool true] 4)).heap.size = w.heap.size + 1 + 1 := by simp
  rw [hsz1] at q2
  rw [hsz2] at q3
  exact ⟨blk_alloc (blk_alloc (blk_new w (.cells #[.string s] 9)) (.cells #[.bool true] 4)) (.cells arr 9), q2, q3, below_alloc (below_alloc (below_alloc (Below.refl _ _) _) _) _, Nat.le_refl _, by omega, by omega, Kd.R_nil _ _ _ _ _⟩
set_option maxHeartbeats 4000000 in
set_option maxRecDepth 100000 in
theorem Parse_any (w : World) (s : ByteArray) (hL : Ld w) (hs : s.size < 4294967281) (hlen : (partsB s).length = Lib.countB s sepB + 1) (hn : (partsB s).length ≤ 4294967290) (hps : ∀ p ∈ partsB s, p.size < 4294967281) :
    Calls Tryd.prog 14 #[.string s] w fun e w' => ∃ v, e = .returned (.tuple #[v, .int .i64 (errOf (parseB s))]) ∧ Kd.R k32 32 w' w.heap.size (fun _ => True) v ((parseB s).getD []) ∧ Below w.heap.size w w' := by
  have hmf : ∀ (fn : Fn) (first cap : Array Value) (w : World), (Instr.makeFunc fn first cap).run Tryd.prog w = .ok (.func fn first cap) w := fun _ _ _ _ => rfl
  have hu32 := Tryd.underlying32
  have HN := Aside0.mk hn
  have HLEN := Aside0.mk hlen
  have HPS := Aside0.mk hps
  clear hn hlen hps
  cases h0 : s.toList == []
  · have hp0 : parseB s = if ((partsB s).all fun p => (readF p).2) = true ∧ okAll (-1) ((partsB s).map fun p => (readF p).1) = true then some ((partsB s).map fun p => (readF p).1) else none := by
      unfold parseB
      rw [if_neg]
      intro e; rw [e] at h0; simp at h0
    have HP0 := Aside0.mk hp0
    clear hp0
    go_enter Tryd.func14, Tryd.ntmps14
    go_wp2_with fail
    refine (Split_any s _ hL.alloc2 hs HLEN.out).mono ?_
    rintro e w1 ⟨rfl, rfl⟩
    have q1 := Lp.start w s ((partsB s).map Value.string).toArray
    have hsz2 : ((w.alloc (.cells #[.string s] 9)).alloc (.cells #[.bool true] 4)).heap.size = w.heap.size + 1 + 1 := by simp
    rw [hsz2]
    generalize ((w.alloc (.cells #[.string s] 9)).alloc (.cells #[.bool true] 4)).alloc (.cells ((partsB s).map Value.string).toArray 9) = w3 at q1 ⊢
    have Q1 := Aside0.mk q1
    clear q1 hsz2
    generalize w.heap.size + 1 + 1 = gp at Q1 ⊢
    generalize hb2 : w.heap.size + 1 = b2 at Q1 ⊢
    clear hb2
    generalize w.heap.size = b1 at Q1 ⊢
    have hqs : ∀ (i : Nat), i < (partsB s).length → ((partsB s).map Value.string).toArray[i]? = (partsB s)[i]?.map Value.string := fun i _ => by simp
    generalize hps : partsB s = ps at *
    have HQS := Aside0.mk hqs
    clear hqs hps
    go_wp2
    go_loopg [4, 23] ps.length (fun kq v4 v23 w' => ∃ i : Nat, v23 = .int .i64 i ∧ Aside0 (i ≤ ps.length ∧ kq = ps.length - i) ∧ Aside0 (∃ r, Lp w b1 b2 gp (ps.map Value.string).toArray v4 ((ps.take i).map fun p => (readF p).1) w' r ((ps.take i).all fun p => (readF p).2)))
    case atStart => exact ⟨0, rfl, ⟨by omega, rfl⟩, ⟨s, by simpa using Q1.out⟩⟩
    case round =>
      obtain ⟨i, rfl, HI, HLP⟩ := hrel
      by_cases h : i < ps.length
      · obtain ⟨r0, hlp⟩ := HLP.out
        have HLP0 := Aside0.mk hlp
        clear hlp HLP
        obtain ⟨p, hp⟩ : ∃ p, p = ps[i] := ⟨_, rfl⟩
        have hpz := HPS.out p (by rw [hp]; exact List.getElem_mem h)
        have hcp := (blk_cell HLP0.out.hp i).trans ((HQS.out i h).trans (show _ = some (Value.string p) by rw [List.getElem?_eq_getElem h, hp]; rfl))
        have HP := Aside0.mk hp
        clear hp
        have hc1 := (blk_cell HLP0.out.h1 0).trans (show _ = some (Value.string r0) from rfl)
        have hf1 := blk_frozen HLP0.out.h1 0
        have p115 : (0 ≤ (i : Int)) = True := eq_true (by omega)
        have d1 : decide ((i : Int) < (ps.length : Int)) = true := decide_eq_true (by omega)
        have q115 : ((i : Int) < (ps.length : Int)) = True := eq_true (by omega)
        go_wp2_with (first | ((with_reducible refine gate_dst (N := 11) rfl ?_); refine box_event ?hg (N := 11) ?hd (cs := #[.int .i64 0, .int .i64 0, .int .i64 0]) (t := 32) ?hr ?_; (case hd => rfl); (case hg => rfl); (case hr => first | (go_simp; done) | (go_simp; rfl)); intro g hg w10 hbox hb; have HS := Aside0.mk ((HLP0.out.rest p).box hbox hb hg); clear hg hbox hb HLP0) | (go_at_call 26; fail))
        refine (word_sx hL HS.out hpz ⟨#[32]⟩).mono ?_
        rintro e w11 ⟨rfl, hs1⟩
        generalize hcc : Lib.cut p.data.toList (⟨#[32]⟩ : ByteArray).data.toList = c at hs1 ⊢
        have hcl : c.2.1.length ≤ p.data.toList.length := by rw [← hcc]; exact (cut_le _ _).2
        obtain ⟨c1, c2, c3⟩ := c
        have HS1 := Aside0.mk hs1
        have HC := Lib.hid hcc
        have HCL := Aside0.mk hcl
        clear hs1 hcc hcl HS hc1 hf1 hcp
        generalize ho' : ((ps.take i).all (fun p => (readF p).2) && (c1, c2, c3).2.2) = o1 at HS1
        have HO1 := Lib.hid ho'
        clear ho'
        go_wp2_with (go_at_call 22; refine (words_any _).mono ?_; rintro e w12 ⟨rfl, hb⟩; have HS2 := Aside0.mk (HS1.out.below hb); clear hb HS1)
        go_loopg [31] 8 (fun kq v31 w' => ∃ j : Nat, v31 = .int .i64 j ∧ Aside0 (j ≤ 8 ∧ kq = 8 - j) ∧ Aside0 (Sx w b1 b2 gp (ps.map Value.string).toArray g u4 ((ps.take i).map fun p => (readF p).1) w' ⟨c2.toArray⟩ o1 0 (kindUpto c1 j) 0))
        case atStart => exact ⟨0, rfl, ⟨by omega, rfl⟩, HS2⟩
        case round =>
          clear HS2
          obtain ⟨j, rfl, HJ, HS3⟩ := hrel
          by_cases hj : j < 8
          · have hi := tegularef13_word.at (j : Int) _ (word_f' (by omega) (by omega))
            have dj : decide ((j : Int) < 8) = true := decide_eq_true (by omega)
            have hcg := (blk_cell HS3.out.hg 1).trans (show _ = some (Value.int .i64 (kindUpto c1 j)) from rfl)
            have hfg := blk_frozen HS3.out.hg 1
            have hku : kindUpto c1 (j + 1) = if 0 < j ∧ (wordB j).data.toList = c1 then (j : Int) else kindUpto c1 j := rfl
            have HKU := Lib.hid hku
            clear hku
            obtain ⟨z, hz⟩ : ∃ z, decide (0 < j) = z := ⟨_, rfl⟩
            have hzi : decide ((0 : Int) < (j : Int)) = z := by rw [← hz]; by_cases a1 : 0 < j <;> simp [a1]
            obtain ⟨y, hy⟩ : ∃ y, ((wordB (j : Int)).toList == c1) = y := ⟨_, rfl⟩
            have hzy : kindUpto c1 (j + 1) = if (z && y) = true then (j : Int) else kindUpto c1 j := by
              rw [HKU.out, ← hz, ← hy, ByteArray.toList_eq]
              by_cases a1 : 0 < j <;> by_cases a2 : (wordB (j : Int)).data.toList = c1 <;> simp [a1, a2]
            have HZY := Lib.hid hzy
            clear hzy HKU
            have hw1 : wrap64 ((j : Int) + 1) = ((j + 1 : Nat) : Int) := by unfold wrap64; omega
            have HW1 := Lib.hid hw1
            clear hw1
            cases z <;> cases y
            case true.true =>
              have HS4 := Aside0.mk (HS3.out.fld1 (j : Int))
              go_wp2
              go_roundg (8 - (j + 1))
              case measure => have := HJ.out; omega
              case rel => exact ⟨j + 1, by first | rfl | simp, ⟨by omega, rfl⟩, ⟨by rw [HZY.out]; exact HS4.out⟩⟩
            all_goals
              go_wp2
              go_roundg (8 - (j + 1))
              case measure => have := HJ.out; omega
              case rel => exact ⟨j + 1, by first | rfl | simp, ⟨by omega, rfl⟩, ⟨by rw [HZY.out]; exact HS3.out⟩⟩
          · have hj8 : j = 8 := by have := HJ.out; omega
            subst hj8
            have dj : decide (((8 : Nat) : Int) < 8) = false := by decide
            generalize hkd : kindUpto c1 8 = kd at HS3
            have HKD := Lib.hid hkd
            clear hkd
            have hcg := (blk_cell HS3.out.hg 1).trans (show _ = some (Value.int .i64 kd) from rfl)
            go_wp2_with fail
            refine (fault_aims.calls kd (kd == 3 || kd == 5) _ (aims_f kd)).mono ?_
            rintro e w14 ⟨rfl, hd⟩
            have HS4 := Aside0.mk (HS3.out.below hd.below)
            clear hd HS3 hcg
            obtain ⟨b, hbq⟩ : ∃ b, (kd == 3 || kd == 5) = b := ⟨_, rfl⟩
            rw [hbq]
            have HBQ := Lib.hid hbq
            clear hbq
            have hc1 := (blk_cell HS4.out.h1 0).trans (show _ = some (Value.string ⟨c2.toArray⟩) from rfl)
            have hz2 : (⟨c2.toArray⟩ : ByteArray).size < 4294967281 := by
              have := HCL.out
              have e1 := bsize c2
              have e2 := dsize p
              try simp only at this
              omega
            have LIM : Aside0 ((((ps.take i).map fun p => (readF p).1).length + 1) * 24 ≤ 140737488355328) := ⟨by
              have := HN.out
              simp only [List.length_map, List.length_take]
              omega⟩
            cases b
            · go_wp2_with fail
              refine (number_sx hL HS4.out _ hz2).mono ?_
              rintro e w15 ⟨rfl, hs5⟩
              have hs6 := hs5.fld0 (numOf c2)
              have HS5 := Aside0.mk hs5
              have HS6 := Aside0.mk hs6
              clear hs5 hs6 HS4 hc1
              have g0 := (blk_cell HS5.out.hg 0).trans (show _ = some (Value.int .i64 0) from rfl)
              have g1 := (blk_cell HS5.out.hg 1).trans (show _ = some (Value.int .i64 kd) from rfl)
              have g2 := (blk_cell HS5.out.hg 2).trans (show _ = some (Value.int .i64 0) from rfl)
              have f0 := blk_frozen HS5.out.hg 0
              have EX := Lib.hid (readF_plain HC.out HKD.out HBQ.out)
              go_wp2_with ((with_reducible refine gate_builtin (b := .append) (xs := #[.tmp 61, .tmp 63]) rfl ?_); at_builtin; refine Kd.R_append k32 (w0 := w) w.heap.size rfl (.tmp 61) (.tmp 63) 22 32 (.agg #[(.int .i64 0), (.int .i64 0), (.int .i64 0)]) 24 rfl Tryd.underlying22 info32 rfl (by decide) (by omega) u4 ((ps.take i).map fun p => (readF p).1) (⟨numOf c2, kd, 0⟩ : S32) [.int .i64 (numOf c2), .int .i64 kd, .int .i64 0] (fun k => k ≠ b1 ∧ k ≠ b2 ∧ k ≠ g) (fun _ => False) rfl (by first | (go_simp; done) | (go_simp; rfl)) (k32_mkM _ _ _ (⟨numOf c2, kd, 0⟩ : S32)) (fun _ hk => hk.elim) HS6.out.fresh HS6.out.hl HS6.out.hb (below_size HS6.out.hb) LIM.out ?_; intro v1 w20 ho hb hg hat; have HLN := Aside0.mk (HS6.out.done ho hb hg); clear ho hb hg hat)
              go_roundg (ps.length - (i + 1))
              case measure => have := HI.out; omega
              case rel =>
                refine ⟨i + 1, by rw [w64 i ps.length h (by have := HN.out; omega)], ⟨by omega, rfl⟩, ⟨⟨⟨c2.toArray⟩, ?_⟩⟩⟩
                rw [map_next (fun p => (readF p).1) ps i h HP.out, all_next (fun p => (readF p).2) ps i h HP.out, EX.out]
                have e := HLN.out
                rw [← HO1.out] at e
                simpa only [Bool.and_assoc] using e
            · go_wp2_with fail
              refine (word_sx hL HS4.out hz2 ⟨#[32, 116, 111, 32]⟩).mono ?_
              rintro e w15 ⟨rfl, hs5⟩
              generalize hdd : Lib.cut (⟨c2.toArray⟩ : ByteArray).data.toList (⟨#[32, 116, 111, 32]⟩ : ByteArray).data.toList = d at hs5 ⊢
              have hdl : d.1.length ≤ c2.length ∧ d.2.1.length ≤ c2.length := by rw [← hdd]; exact cut_le _ _
              obtain ⟨d1, d2, d3⟩ := d
              have HDL := Aside0.mk hdl
              have HD := Lib.hid hdd
              have HS5 := Aside0.mk hs5
              clear hs5 hdd hdl HS4 hc1
              have hz3 : c2.length < 4294967281 := by
                have e1 := bsize c2
                omega
              have hz4 : (⟨d1.toArray⟩ : ByteArray).size < 4294967281 := by
                have e1 := bsize d1
                have := HDL.out.1
                try simp only at this
                omega
              have hz5 : (⟨d2.toArray⟩ : ByteArray).size < 4294967281 := by
                have e1 := bsize d2
                have := HDL.out.2
                try simp only at this
                omega
              go_wp2_with fail
              refine (number_sx hL HS5.out _ hz4).mono ?_
              rintro e w16 ⟨rfl, hs6⟩
              have hs7 := hs6.fld0 (numOf d1)
              have HS6 := Aside0.mk hs6
              have HS7 := Aside0.mk hs7
              clear hs6 hs7 HS5
              have g0 := (blk_cell HS6.out.hg 0).trans (show _ = some (Value.int .i64 0) from rfl)
              have f0 := blk_frozen HS6.out.hg 0
              have hc7 := (blk_cell HS7.out.h1 0).trans (show _ = some (Value.string ⟨d2.toArray⟩) from rfl)
              have EX := Lib.hid (readF_aims HC.out HKD.out HBQ.out HD.out)
              go_wp2_with fail
              refine (number_sx hL HS7.out _ hz5).mono ?_
              rintro e w17 ⟨rfl, hs8⟩
              have hs9 := hs8.fld2 (numOf d2)
              have HS8 := Aside0.mk hs8
              have HS9 := Aside0.mk hs9
              clear hs8 hs9 HS6 HS7 g0 f0 hc7
              have g0 := (blk_cell HS8.out.hg 0).trans (show _ = some (Value.int .i64 (numOf d1)) from rfl)
              have g1 := (blk_cell HS8.out.hg 1).trans (show _ = some (Value.int .i64 kd) from rfl)
              have g2 := (blk_cell HS8.out.hg 2).trans (show _ = some (Value.int .i64 0) from rfl)
              have f2 := blk_frozen HS8.out.hg 2
              go_wp2_with ((with_reducible refine gate_builtin (b := .append) (xs := #[.tmp 61, .tmp 63]) rfl ?_); at_builtin; refine Kd.R_append k32 (w0 := w) w.heap.size rfl (.tmp 61) (.tmp 63) 22 32 (.agg #[(.int .i64 0), (.int .i64 0), (.int .i64 0)]) 24 rfl Tryd.underlying22 info32 rfl (by decide) (by omega) u4 ((ps.take i).map fun p => (readF p).1) (⟨numOf d1, kd, numOf d2⟩ : S32) [.int .i64 (numOf d1), .int .i64 (kd), .int .i64 (numOf d2)] (fun k => k ≠ b1 ∧ k ≠ b2 ∧ k ≠ g) (fun _ => False) rfl (by first | (go_simp; done) | (go_simp; rfl)) (k32_mkM _ _ _ (⟨numOf d1, kd, numOf d2⟩ : S32)) (fun _ hk => hk.elim) HS9.out.fresh HS9.out.hl HS9.out.hb (below_size HS9.out.hb) LIM.out ?_; intro v1 w20 ho hb hg hat; have HLN := Aside0.mk (HS9.out.done ho hb hg); clear ho hb hg hat)
              go_roundg (ps.length - (i + 1))
              case measure => have := HI.out; omega
              case rel =>
                refine ⟨i + 1, by rw [w64 i ps.length h (by have := HN.out; omega)], ⟨by omega, rfl⟩, ⟨⟨⟨d2.toArray⟩, ?_⟩⟩⟩
                rw [map_next (fun p => (readF p).1) ps i h HP.out, all_next (fun p => (readF p).2) ps i h HP.out, EX.out]
                have e := HLN.out
                rw [← HO1.out] at e
                simpa only [Bool.and_assoc] using e
      · have hil : i = ps.length := by have := HI.out; omega
        subst hil
        have d1 : decide ((ps.length : Int) < (ps.length : Int)) = false := decide_eq_false (by omega)
        obtain ⟨r0, hlp⟩ := HLP.out
        rw [List.take_length] at hlp
        have HLP0 := Aside0.mk hlp
        clear hlp HLP
        have hc2 := (blk_cell HLP0.out.h2 0).trans (show _ = some (Value.bool (ps.all fun p => (readF p).2)) from rfl)
        obtain ⟨l', hl'⟩ : ∃ l', l' = ps.map fun p => (readF p).1 := ⟨_, rfl⟩
        have hR := Kd.R_mono HLP0.out.hl (ok' := fun _ => True) (fun _ _ => trivial)
        rw [← hl'] at hR
        obtain ⟨Av, cv, rfl, hle, hC⟩ := Kd.R_reads hR
        have HLE := Aside0.mk hle
        have HCC := Aside0.mk hC
        have HRR := Aside0.mk hR
        have hll : l'.length ≤ 140737488355328 := by have := HN.out; rw [hl', List.length_map]; omega
        have HLL := Aside0.mk hll
        have HL' := Lib.hid hl'
        have HBB := Aside0.mk HLP0.out.hb
        clear hle hC hR hll hl'
        generalize hall : (ps.all fun p => (readF p).2) = al at hc2
        have HAL := Lib.hid hall
        clear hall HLP0
        cases al
        · have hp1 : parseB s = none := by rw [HP0.out, HAL.out, if_neg (by simp)]
          have HP1 := Lib.hid hp1
          clear hp1
          go_wp2
          go_ret2
          rw [HP1.out]
          exact ⟨_, rfl, Kd.R_nil _ _ _ _ _, HBB.out⟩
        · obtain ⟨b, hb⟩ : ∃ b, okAll (-1) l' = b := ⟨_, rfl⟩
          have hval := fault_Valid.calls (l'.length + 1) Av cv l' b _ HCC.out HLE.out (by rw [valid_f l' HLL.out, hb])
          have HVAL := Aside0.mk hval
          have HOK := Lib.hid hb
          clear hval hb
          go_wp2_with fail
          refine HVAL.out.mono ?_
          rintro e w22 ⟨rfl, hbw⟩
          have HR2 := Aside0.mk (Kd.R_below HRR.out hbw)
          have HB2 := Aside0.mk (below_step HBB.out hbw)
          clear hbw HVAL
          cases b
          · have hp1 : parseB s = none := by rw [HP0.out, HAL.out, ← HL'.out, HOK.out, if_neg (by simp)]
            have HP1 := Lib.hid hp1
            clear hp1
            go_wp2
            go_ret2
            rw [HP1.out]
            exact ⟨_, rfl, Kd.R_nil _ _ _ _ _, HB2.out⟩
          · have hp1 : parseB s = some l' := by rw [HP0.out, HAL.out, ← HL'.out, HOK.out, if_pos ⟨rfl, rfl⟩]
            have HP1 := Lib.hid hp1
            clear hp1
            go_wp2
            go_ret2
            rw [HP1.out]
            exact ⟨_, rfl, HR2.out, HB2.out⟩
  · have e0 : s.toList = [] := beq_iff_eq.1 h0
    have hp0 : parseB s = some [] := by unfold parseB; rw [if_pos e0]
    rw [hp0]
    go_enter Tryd.func14, Tryd.ntmps14
    go_wp2
    go_ret2
    exact ⟨_, rfl, Kd.R_nil _ _ _ _ _, by repeat (first | exact Below.refl _ _ | apply below_alloc)⟩
end Go.Proofs.YtgofecclceoeiaaDoor.ST
