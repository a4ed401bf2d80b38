import Derived.Test.YthbnghdobmghlaaDoorVJ5
import Derived.Laws.DeepStrings4
namespace Go.Proofs.YthbnghdobmghlaaDoor.ST
open Go.RowKit Go.Proofs.YthbnghdobmghlaaDoorW.PrintWords Go.Proofs.YthbnghdobmghlaaDoorW.PrintLast Go.Proofs.YthbnghdobmghlaaDoorW.PrintMore Go.Proofs.YthbnghdobmghlaaDoor.PC
set_option linter.unusedVariables false
set_option linter.unusedSimpArgs false
theorem uint41_ok (t : ByteArray) (ht : t.size = 2) (n : Int) (h : hexs 0 (bytesI t) = some n) (w : World) :
    Calls Tryd.prog 41 #[.string t, .int .i64 16, .int .i64 8] w fun e w' => e = .returned (.tuple #[.int .u64 n, .nilIface]) ∧ Below w.heap.size w w' := by
  have H := Aside0.mk (uint53 t ht w)
  rw [h] at H
  go_enter Tryd.func41, Tryd.ntmps41
  go_wp2_with fail
  refine H.out.mono ?_
  rintro e w1 ⟨rfl, hb⟩
  have HB := Aside0.mk hb
  clear hb H
  unfold uintT
  go_wp2
  go_ret2
  exact ⟨rfl, HB.out⟩
theorem uint41_no (t : ByteArray) (ht : t.size = 2) (h : hexs 0 (bytesI t) = none) (w : World) (hL : Ld w) :
    Calls Tryd.prog 41 #[.string t, .int .i64 16, .int .i64 8] w fun e w' => ∃ N : Nat, e = .returned (.tuple #[.int .u64 0, .iface 89 (.pointer (some ⟨N, 0, none⟩))]) ∧ Below w.heap.size w w' := by
  have H := Aside0.mk (uint53 t ht w)
  rw [h] at H
  go_enter Tryd.func41, Tryd.ntmps41
  go_wp2_with fail
  refine H.out.mono ?_
  rintro e w1 ⟨rfl, hb⟩
  obtain ⟨ev1, he1, hk1⟩ := (hL.below hb).es
  have HB := Aside0.mk hb
  clear hb H
  unfold uintT
  go_wp2_with fail
  refine (Tryd.strconv_toError_syntax ⟨#[80, 97, 114, 115, 101, 85, 105, 110, 116]⟩ t 16 8 ev1 w1 (by omega) he1 hk1).mono ?_
  rintro e w2 ⟨N, rfl, h1, h2, h3⟩
  replace HB := Aside0.mk (below_step HB.out h3)
  clear h1 h2 h3
  go_wp2
  go_ret2
  exact ⟨N, rfl, HB.out⟩
def fillB : List Int → List Int → List Int × Bool
  | c :: d :: r, acc => match hexs 0 [c, d] with
    | none => (acc, false)
    | some n => fillB r (acc ++ [n])
  | _, acc => (acc, true)
def pad8 (l : List Int) : List Int := (l ++ [0, 0, 0, 0, 0, 0, 0, 0]).take 8
theorem hexs_bd {c d n : Int} (h : hexs 0 [c, d] = some n) : 0 ≤ n ∧ n ≤ 255 := by
  unfold hexs at h
  cases h1 : hexV c with
  | none => rw [h1] at h; cases h
  | some a =>
    rw [h1] at h
    have b1 := hexV_bd h1
    simp only [hexs] at h
    cases h2 : hexV d with
    | none => rw [h2] at h; cases h
    | some b =>
      rw [h2] at h
      have b2 := hexV_bd h2
      cases h
      omega
def blockL (s : ByteArray) : List Int := if s.size = 16 then pad8 (fillB (bytesI s) []).1 else pad8 []
def blockO (s : ByteArray) : Bool := decide (s.size = 16) && ((fillB (bytesI s) []).2 && ((strOfNums (hexN (blockL s))).toList == s.toList))
theorem cellsA {w : World} {g : Nat} {x0 x1 x2 x3 x4 x5 x6 x7 : Value} (h : w.heap[g]? = some (.cells #[x0, x1, x2, x3, x4, x5, x6, x7] 35 (0, 0))) :
    w.cell? ⟨g, 0, none⟩ = some x0 ∧ w.cell? ⟨g, 1, none⟩ = some x1 ∧ w.cell? ⟨g, 2, none⟩ = some x2 ∧ w.cell? ⟨g, 3, none⟩ = some x3 ∧ w.cell? ⟨g, 4, none⟩ = some x4 ∧ w.cell? ⟨g, 5, none⟩ = some x5 ∧ w.cell? ⟨g, 6, none⟩ = some x6 ∧ w.cell? ⟨g, 7, none⟩ = some x7 :=
  ⟨(blk_cell h 0).trans rfl, (blk_cell h 1).trans rfl, (blk_cell h 2).trans rfl, (blk_cell h 3).trans rfl, (blk_cell h 4).trans rfl, (blk_cell h 5).trans rfl, (blk_cell h 6).trans rfl, (blk_cell h 7).trans rfl⟩
theorem frozenA {w : World} {g : Nat} {cs : Array Value} (h : w.heap[g]? = some (.cells cs 35 (0, 0))) :
    w.frozen? ⟨g, 0, none⟩ = false ∧ w.frozen? ⟨g, 1, none⟩ = false ∧ w.frozen? ⟨g, 2, none⟩ = false ∧ w.frozen? ⟨g, 3, none⟩ = false ∧ w.frozen? ⟨g, 4, none⟩ = false ∧ w.frozen? ⟨g, 5, none⟩ = false ∧ w.frozen? ⟨g, 6, none⟩ = false ∧ w.frozen? ⟨g, 7, none⟩ = false :=
  ⟨blk_frozen h 0, blk_frozen h 1, blk_frozen h 2, blk_frozen h 3, blk_frozen h 4, blk_frozen h 5, blk_frozen h 6, blk_frozen h 7⟩
theorem putA {w : World} {g : Nat} {y0 y1 y2 y3 y4 y5 y6 y7 : Value} (h : w.heap[g]? = some (.cells #[y0, y1, y2, y3, y4, y5, y6, y7] 35 (0, 0))) (x0 x1 x2 x3 x4 x5 x6 x7 : Value) :
    ((((((((w.setCell ⟨g, 0, none⟩ x0).setCell ⟨g, 1, none⟩ x1).setCell ⟨g, 2, none⟩ x2).setCell ⟨g, 3, none⟩ x3).setCell ⟨g, 4, none⟩ x4).setCell ⟨g, 5, none⟩ x5).setCell ⟨g, 6, none⟩ x6).setCell ⟨g, 7, none⟩ x7).heap[g]? = some (.cells #[x0, x1, x2, x3, x4, x5, x6, x7] 35 (0, 0)) := by
  have h1 := blk_put (cs' := #[x0, y1, y2, y3, y4, y5, y6, y7]) h 0 x0 rfl
  have h2 := blk_put (cs' := #[x0, x1, y2, y3, y4, y5, y6, y7]) h1 1 x1 rfl
  have h3 := blk_put (cs' := #[x0, x1, x2, y3, y4, y5, y6, y7]) h2 2 x2 rfl
  have h4 := blk_put (cs' := #[x0, x1, x2, x3, y4, y5, y6, y7]) h3 3 x3 rfl
  have h5 := blk_put (cs' := #[x0, x1, x2, x3, x4, y5, y6, y7]) h4 4 x4 rfl
  have h6 := blk_put (cs' := #[x0, x1, x2, x3, x4, x5, y6, y7]) h5 5 x5 rfl
  have h7 := blk_put (cs' := #[x0, x1, x2, x3, x4, x5, x6, y7]) h6 6 x6 rfl
  exact blk_put (cs' := #[x0, x1, x2, x3, x4, x5, x6, x7]) h7 7 x7 rfl
theorem belowA {w0 w : World} {g : Nat} (h : Below w0.heap.size w0 w) (hg : w0.heap.size ≤ g) (x0 x1 x2 x3 x4 x5 x6 x7 : Value) :
    Below w0.heap.size w0 ((((((((w.setCell ⟨g, 0, none⟩ x0).setCell ⟨g, 1, none⟩ x1).setCell ⟨g, 2, none⟩ x2).setCell ⟨g, 3, none⟩ x3).setCell ⟨g, 4, none⟩ x4).setCell ⟨g, 5, none⟩ x5).setCell ⟨g, 6, none⟩ x6).setCell ⟨g, 7, none⟩ x7) :=
  below_set (below_set (below_set (below_set (below_set (below_set (below_set (below_set h hg) hg) hg) hg) hg) hg) hg) hg
theorem farA {w : World} {g g' : Nat} {t : TypeId} {cs : Array Value} (h : w.heap[g']? = some (.cells cs t (0, 0))) (hne : g' ≠ g) (x0 x1 x2 x3 x4 x5 x6 x7 : Value) :
    ((((((((w.setCell ⟨g, 0, none⟩ x0).setCell ⟨g, 1, none⟩ x1).setCell ⟨g, 2, none⟩ x2).setCell ⟨g, 3, none⟩ x3).setCell ⟨g, 4, none⟩ x4).setCell ⟨g, 5, none⟩ x5).setCell ⟨g, 6, none⟩ x6).setCell ⟨g, 7, none⟩ x7).heap[g']? = some (.cells cs t (0, 0)) :=
  blk_far (blk_far (blk_far (blk_far (blk_far (blk_far (blk_far (blk_far h (p := ⟨g, 0, none⟩) hne _) (p := ⟨g, 1, none⟩) hne _) (p := ⟨g, 2, none⟩) hne _) (p := ⟨g, 3, none⟩) hne _) (p := ⟨g, 4, none⟩) hne _) (p := ⟨g, 5, none⟩) hne _) (p := ⟨g, 6, none⟩) hne _) (p := ⟨g, 7, none⟩) hne _
theorem lit8 (l : List Int) (h : l.length = 8) : ∃ x0 x1 x2 x3 x4 x5 x6 x7, l = [x0, x1, x2, x3, x4, x5, x6, x7] := by
  rcases l with _ | ⟨a0, _ | ⟨a1, _ | ⟨a2, _ | ⟨a3, _ | ⟨a4, _ | ⟨a5, _ | ⟨a6, _ | ⟨a7, _ | ⟨a8, l⟩⟩⟩⟩⟩⟩⟩⟩⟩ <;> simp at h
  exact ⟨a0, a1, a2, a3, a4, a5, a6, a7, rfl⟩
theorem pad_len (l : List Int) : (pad8 l).length = 8 := by unfold pad8; simp
theorem pad_lit (l : List Int) : ∃ x0 x1 x2 x3 x4 x5 x6 x7, pad8 l = [x0, x1, x2, x3, x4, x5, x6, x7] := lit8 _ (pad_len l)
def cells8 (l : List Int) : Array Value := (l.map (Value.int .u8)).toArray
theorem pad_at (acc : List Int) (i : Nat) (h : i < 8) : (cells8 (pad8 acc))[i]? = some (.int .u8 ((pad8 acc).getD i 0)) := by
  have hl : i < (pad8 acc).length := by rw [pad_len]; exact h
  unfold cells8
  simp [List.getElem?_eq_getElem hl, List.getD_eq_getElem?_getD]
theorem pad_set (acc : List Int) (i : Nat) (n : Int) (h : i < 8) (hl : acc.length = i) : (cells8 (pad8 acc)).setIfInBounds i (.int .u8 n) = cells8 (pad8 (acc ++ [n])) := by
  unfold cells8
  rw [List.setIfInBounds_toArray, ← List.map_set]
  congr 2
  unfold pad8
  rw [← hl, List.append_assoc]
  rcases acc with _ | ⟨a0, _ | ⟨a1, _ | ⟨a2, _ | ⟨a3, _ | ⟨a4, _ | ⟨a5, _ | ⟨a6, _ | ⟨a7, _ | ⟨a8, l⟩⟩⟩⟩⟩⟩⟩⟩⟩ <;> first | rfl | (simp at hl; omega)
theorem pad_bd (acc : List Int) (h : ∀ n ∈ acc, 0 ≤ n ∧ n ≤ 255) (j : Nat) (hj : j < 8) : 0 ≤ (pad8 acc).getD j 0 ∧ (pad8 acc).getD j 0 ≤ 255 := by
  have hl : j < (pad8 acc).length := by rw [pad_len]; exact hj
  rw [List.getD_eq_getElem?_getD, List.getElem?_eq_getElem hl]
  have hm := List.getElem_mem hl
  generalize (pad8 acc)[j] = m at hm
  unfold pad8 at hm
  rcases List.mem_append.1 (List.mem_of_mem_take hm) with q | q
  · exact h m q
  · have : m = 0 := by simpa using q
    rw [this]; exact ⟨by decide, by decide⟩
theorem len16 {s : ByteArray} (h : s.size = 16) : (bytesI s).length = 16 := by unfold bytesI; rw [List.length_map, Array.length_toList]; exact h
theorem ext2 (s : ByteArray) (i : Nat) (hs : s.size = 16) (hi : i < 8) : (s.extract (2 * i) (2 * i + 2)).size = 2 := by
  rw [ByteArray.size_extract]; omega
theorem step2 (s : ByteArray) (i : Nat) (hs : s.size = 16) (hi : i < 8) : ∃ c d, (bytesI s).drop (2 * i) = c :: d :: (bytesI s).drop (2 * (i + 1)) ∧ bytesI (s.extract (2 * i) (2 * i + 2)) = [c, d] := by
  have hl := len16 hs
  refine ⟨(bytesI s)[2 * i]'(by omega), (bytesI s)[2 * i + 1]'(by omega), ?_, ?_⟩
  · rw [List.drop_eq_getElem_cons (by omega), List.drop_eq_getElem_cons (by omega)]
    rfl
  · have e : bytesI (s.extract (2 * i) (2 * i + 2)) = ((bytesI s).drop (2 * i)).take 2 := by
      unfold bytesI
      rw [ByteArray.data_extract, Array.toList_extract, List.extract_eq_take_drop, List.map_take, List.map_drop]
      congr 1
      omega
    rw [e, List.drop_eq_getElem_cons (by omega), List.drop_eq_getElem_cons (by omega)]
    rfl
theorem slice2 (s : ByteArray) (i : Nat) (hs : s.size = 16) (hi : i < 8) : ∀ w : World, (Instr.slice 9 (.string s) (some (.int .i64 (2 * (i : Int)))) (some (.int .i64 (2 * (i : Int) + 2))) none).run Tryd.prog w = .ok (.string (s.extract (2 * i) (2 * i + 2))) w := by
  intro w
  have h1 : (0 : Int) ≤ 2 * (i : Int) := by omega
  have h2 : (0 : Int) ≤ 2 * (i : Int) + 2 := by omega
  have h3 : 2 * (i : Int) ≤ 2 * (i : Int) + 2 := by omega
  have h4 : 2 * (i : Int) + 2 ≤ (s.size : Int) := by omega
  have e1 : (2 * (i : Int)).toNat = 2 * i := by omega
  have e2 : (2 * (i : Int) + 2).toNat = 2 * i + 2 := by omega
  have e3 : (2 * (i : Int) + 2).toNat ≤ s.size := by omega
  have e4 : (2 * (i : Int)).toNat ≤ (2 * (i : Int) + 2).toNat := by omega
  rw [run_slice_string_if w 9 s .i64 .i64 _ _ Tryd.underlying9, if_pos ⟨h2, h4⟩, if_pos ⟨h1, h3⟩, e1, e2]
set_option maxHeartbeats 8000000 in
set_option maxRecDepth 100000 in
theorem block_any (s : ByteArray) (w : World) (hL : Ld w) : Calls Tryd.prog 28 #[.string s] w fun e w' => e = .returned (.tuple #[agg8 (blockL s), .bool (blockO s)]) ∧ Below w.heap.size w w' := by
  have hu35 := Tryd.underlying35
  by_cases hs : s.size = 16
  · have t1 : ((s.size : Int) != 16) = false := by rw [hs]; rfl
    go_enter Tryd.func28, Tryd.ntmps28
    go_wp2
    have q2 := blk_new (w.alloc (.cells #[.int .u8 0, .int .u8 0, .int .u8 0, .int .u8 0, .int .u8 0, .int .u8 0, .int .u8 0, .int .u8 0] 35)) (.cells #[.int .u8 0, .int .u8 0, .int .u8 0, .int .u8 0, .int .u8 0, .int .u8 0, .int .u8 0, .int .u8 0] 35)
    have q1 := blk_alloc (blk_new w (.cells #[.int .u8 0, .int .u8 0, .int .u8 0, .int .u8 0, .int .u8 0, .int .u8 0, .int .u8 0, .int .u8 0] 35)) (.cells #[.int .u8 0, .int .u8 0, .int .u8 0, .int .u8 0, .int .u8 0, .int .u8 0, .int .u8 0, .int .u8 0] 35)
    have hb := below_alloc (below_alloc (Below.refl w.heap.size w) (.cells #[.int .u8 0, .int .u8 0, .int .u8 0, .int .u8 0, .int .u8 0, .int .u8 0, .int .u8 0, .int .u8 0] 35)) (.cells #[.int .u8 0, .int .u8 0, .int .u8 0, .int .u8 0, .int .u8 0, .int .u8 0, .int .u8 0, .int .u8 0] 35)
    rw [show (w.alloc (.cells #[.int .u8 0, .int .u8 0, .int .u8 0, .int .u8 0, .int .u8 0, .int .u8 0, .int .u8 0, .int .u8 0] 35)).heap.size = w.heap.size + 1 by simp] at q2
    generalize (w.alloc (.cells #[.int .u8 0, .int .u8 0, .int .u8 0, .int .u8 0, .int .u8 0, .int .u8 0, .int .u8 0, .int .u8 0] 35)).alloc (.cells #[.int .u8 0, .int .u8 0, .int .u8 0, .int .u8 0, .int .u8 0, .int .u8 0, .int .u8 0, .int .u8 0] 35) = w2 at q1 q2 hb ⊢
    generalize hg4 : w.heap.size + 1 = g4 at q2 ⊢
    have GE : Aside0 (w.heap.size ≤ g4) := ⟨by omega⟩
    have NE : Aside0 (w.heap.size ≠ g4) := ⟨by omega⟩
    clear hg4
    have HZ := Aside0.mk q1
    have HX : Aside0 (w2.heap[g4]? = some (.cells (cells8 (pad8 [])) 35 (0, 0))) := ⟨q2⟩
    have HB := Aside0.mk hb
    clear q1 q2 hb
    have eL : blockL s = pad8 (fillB (bytesI s) []).1 := by unfold blockL; rw [if_pos hs]
    have eO : blockO s = ((fillB (bytesI s) []).2 && ((strOfNums (hexN (blockL s))).toList == s.toList)) := by unfold blockO; rw [decide_eq_true hs, Bool.true_and]
    have HEL := Lib.hid eL
    have HEO := Lib.hid eO
    have HS := Lib.hid hs
    have HLD := Aside0.mk hL
    clear eL eO hs hL
    go_loopg [12] 8 (fun kq v12 w' => ∃ (i : Nat) (acc : List Int), v12 = .int .i64 i ∧ Aside0 (i ≤ 8 ∧ kq = 8 - i ∧ acc.length = i) ∧ Aside0 (fillB (bytesI s) [] = fillB ((bytesI s).drop (2 * i)) acc) ∧ Aside0 (∀ n ∈ acc, 0 ≤ n ∧ n ≤ 255) ∧ Aside0 (w'.heap[g4]? = some (.cells (cells8 (pad8 acc)) 35 (0, 0))) ∧ Aside0 (w'.heap[w.heap.size]? = some (.cells #[.int .u8 0, .int .u8 0, .int .u8 0, .int .u8 0, .int .u8 0, .int .u8 0, .int .u8 0, .int .u8 0] 35 (0, 0))) ∧ Aside0 (Below w.heap.size w w'))
    case atStart => exact ⟨0, [], rfl, ⟨by omega, rfl, rfl⟩, ⟨by rw [Nat.mul_zero, List.drop_zero]⟩, ⟨fun n hn => by cases hn⟩, HX, HZ, HB⟩
    case round =>
      clear HX HZ HB
      obtain ⟨i, acc, rfl, HI, HF, HA, HX, HZ, HB⟩ := hrel
      by_cases h : i < 8
      · have d1 : decide ((i : Int) < 8) = true := decide_eq_true (by omega)
        have p1 : (0 ≤ (i : Int)) = True := eq_true (by omega)
        have p2 : ((i : Int) < 8) = True := eq_true (by omega)
        have hi8 : (i : Int) ≤ 7 := by omega
        have hsl := slice2 s i HS.out h
        obtain ⟨c, d, hdr, hby⟩ := step2 s i HS.out h
        have ht := ext2 s i HS.out h
        generalize s.extract (2 * i) (2 * i + 2) = t at hsl hby ht
        have HT := Lib.hid ht
        have HBY := Lib.hid hby
        have HDR := Lib.hid hdr
        clear ht hby hdr
        cases hx : hexs 0 [c, d] with
        | none =>
          have HU := Aside0.mk (fun W (hL : Ld W) => uint41_no t HT.out (by rw [HBY.out]; exact hx) W hL)
          have HFN : Aside0 (fillB (bytesI s) [] = (acc, false)) := ⟨by rw [HF.out, HDR.out, fillB, hx]⟩
          clear hx
          go_wp2_with fail
          refine (HU.out _ (HLD.out.below HB.out)).mono ?_
          rintro e w5 ⟨N, rfl, hb⟩
          have hx5 := blk_below HX.out hb
          have hz5 := blk_below HZ.out hb
          replace HB := Aside0.mk (below_step HB.out hb)
          clear hb HU
          obtain ⟨x0, x1, x2, x3, x4, x5, x6, x7, hp⟩ := pad_lit acc
          rw [hp] at hx5
          replace hx5 : w5.heap[g4]? = some (.cells #[.int .u8 x0, .int .u8 x1, .int .u8 x2, .int .u8 x3, .int .u8 x4, .int .u8 x5, .int .u8 x6, .int .u8 x7] 35 (0, 0)) := hx5
          have HP := Lib.hid hp
          clear hp
          obtain ⟨z0, z1, z2, z3, z4, z5, z6, z7⟩ := cellsA hx5
          obtain ⟨y0, y1, y2, y3, y4, y5, y6, y7⟩ := cellsA hz5
          obtain ⟨f0, f1, f2, f3, f4, f5, f6, f7⟩ := frozenA hz5
          have HZ5 := Aside0.mk hz5
          clear hx5 hz5
          go_wp2
          have hbl : blockL s = [x0, x1, x2, x3, x4, x5, x6, x7] := by rw [HEL.out, HFN.out]; exact HP.out
          have hbo : blockO s = false := by rw [HEO.out, HFN.out, Bool.false_and]
          rw [hbl, hbo]
          exact bodyPost_ret (results_ct rfl _ _ w.heap.size 35 _ (0, 0) _ rfl (putA HZ5.out _ _ _ _ _ _ _ _) hu35 rfl info35) rfl ⟨rfl, belowA HB.out (Nat.le_refl _) _ _ _ _ _ _ _ _⟩
        | some n =>
          have hnb := hexs_bd hx
          have HU := Aside0.mk (fun W => uint41_ok t HT.out n (by rw [HBY.out]; exact hx) W)
          have HFN : Aside0 (fillB (bytesI s) [] = fillB ((bytesI s).drop (2 * (i + 1))) (acc ++ [n])) := ⟨by rw [HF.out, HDR.out, fillB, hx]⟩
          obtain ⟨hn0, hn1⟩ := hnb
          clear hx
          go_wp2_with fail
          refine (HU.out _).mono ?_
          rintro e w5 ⟨rfl, hb⟩
          have hx5 := blk_below HX.out hb
          have hz5 := blk_below HZ.out hb
          replace HB := Aside0.mk (below_step HB.out hb)
          clear hb HU
          have hci := (blk_cell hx5 i).trans (pad_at acc i h)
          have hfi := blk_frozen hx5 i
          have HX5 := Aside0.mk (blk_put hx5 i (.int .u8 n) (pad_set acc i n h HI.out.2.2))
          have HZ5 := Aside0.mk (blk_far hz5 (p := ⟨g4, i, none⟩) NE.out (.int .u8 n))
          have HB5 : Aside0 (Below w.heap.size w (w5.setCell ⟨g4, i, none⟩ (.int .u8 n))) := Aside0.mk (below_set HB.out GE.out)
          clear hx5 hz5
          go_wp2
          go_roundg (8 - (i + 1))
          case measure => have := HI.out; omega
          case rel => exact ⟨i + 1, acc ++ [n], by first | rfl | (simp; omega) | (unfold wrap64; simp; omega), ⟨by omega, rfl, by rw [List.length_append, HI.out.2.2]; rfl⟩, HFN, ⟨fun m hm => by rcases List.mem_append.1 hm with hm | hm; exact HA.out m hm; rw [List.mem_singleton.1 hm]; exact ⟨hn0, hn1⟩⟩, HX5, HZ5, HB5⟩
      · have hi : i = 8 := by have := HI.out; omega
        subst hi
        have HFN : Aside0 (fillB (bytesI s) [] = (acc, true)) := ⟨by rw [HF.out, List.drop_eq_nil_of_le (by rw [len16 HS.out]; decide)]; rfl⟩
        have hok : okL (pad8 acc) := ⟨pad_len acc, fun j hj => pad_bd acc HA.out j hj⟩
        have hx5 := HX.out
        have hbl : blockL s = pad8 acc := by rw [HEL.out, HFN.out]
        have hbo : blockO s = ((strOfNums (hexN (pad8 acc))).toList == s.toList) := by rw [HEO.out, HFN.out, hbl, Bool.true_and]
        have HHEX := Aside0.mk (fun W => hexL_any (pad8 acc) hok W)
        generalize pad8 acc = L at hx5 HHEX hok hbl hbo
        obtain ⟨x0, x1, x2, x3, x4, x5, x6, x7, rfl⟩ := lit8 L hok.1
        generalize strOfNums (hexN [x0, x1, x2, x3, x4, x5, x6, x7]) = hs at HHEX hbo
        replace HHEX : Aside0 (∀ W : World, Calls Tryd.prog 31 #[.agg #[.int .u8 x0, .int .u8 x1, .int .u8 x2, .int .u8 x3, .int .u8 x4, .int .u8 x5, .int .u8 x6, .int .u8 x7]] W fun e w' => e = .returned (.string hs) ∧ Below W.heap.size W w') := HHEX
        have HBL := Lib.hid hbl
        have HBO := Lib.hid hbo
        replace hx5 : wr.heap[g4]? = some (.cells #[.int .u8 x0, .int .u8 x1, .int .u8 x2, .int .u8 x3, .int .u8 x4, .int .u8 x5, .int .u8 x6, .int .u8 x7] 35 (0, 0)) := hx5
        have HX5 := Aside0.mk hx5
        clear hok hbl hbo hx5
        obtain ⟨z0, z1, z2, z3, z4, z5, z6, z7⟩ := cellsA HX5.out
        go_wp2_with fail
        go_region_held3 (fun W => W.cell? ⟨g4, 0, none⟩ = some (.int .u8 x0) ∧ W.cell? ⟨g4, 1, none⟩ = some (.int .u8 x1) ∧ W.cell? ⟨g4, 2, none⟩ = some (.int .u8 x2) ∧ W.cell? ⟨g4, 3, none⟩ = some (.int .u8 x3) ∧ W.cell? ⟨g4, 4, none⟩ = some (.int .u8 x4) ∧ W.cell? ⟨g4, 5, none⟩ = some (.int .u8 x5) ∧ W.cell? ⟨g4, 6, none⟩ = some (.int .u8 x6) ∧ W.cell? ⟨g4, 7, none⟩ = some (.int .u8 x7)) (first
          | (with_reducible exact cellsA (blk_drew HX5.out))
          | (with_reducible exact cellsA HX5.out)
          | (with_reducible exact cellsA HX6.out)
          | (with_reducible exact cellsA (blk_drew HX6.out))
          | (with_reducible exact cellsA (farA HX6.out NE.out.symm _ _ _ _ _ _ _ _))
          | (with_reducible exact cellsA (blk_drew (farA HX6.out NE.out.symm _ _ _ _ _ _ _ _)))) (first
          | ((with_reducible (refine Calls.mono (HHEX.out _) ?_)); rintro e w6 ⟨rfl, hb⟩; have HX6 := Aside0.mk (blk_below (blk_drew HX5.out) hb); have HZ6 := Aside0.mk (blk_below (blk_drew HZ.out) hb); have HB6 := Aside0.mk (below_step (below_drew1 HB.out) hb); clear hb; obtain ⟨y0, y1, y2, y3, y4, y5, y6, y7⟩ := cellsA HZ6.out; obtain ⟨f0, f1, f2, f3, f4, f5, f6, f7⟩ := frozenA HZ6.out))
        all_goals
          go_wp2
          rw [HBL.out, HBO.out]
          exact bodyPost_ret (results_ct rfl _ _ w.heap.size 35 _ (0, 0) _ rfl (putA HZ6.out _ _ _ _ _ _ _ _) hu35 rfl info35) rfl ⟨rfl, belowA HB6.out (Nat.le_refl _) _ _ _ _ _ _ _ _⟩
  · have t1 : ((s.size : Int) != 16) = true := by simp; omega
    have e1 : blockL s = [0, 0, 0, 0, 0, 0, 0, 0] := by unfold blockL; rw [if_neg hs]; rfl
    have e2 : blockO s = false := by unfold blockO; rw [decide_eq_false hs]; rfl
    rw [e1, e2]
    clear e1 e2
    go_enter Tryd.func28, Tryd.ntmps28
    go_wp2
    have q1 := blk_new (w.alloc (.cells #[.int .u8 0, .int .u8 0, .int .u8 0, .int .u8 0, .int .u8 0, .int .u8 0, .int .u8 0, .int .u8 0] 35)) (.cells #[.int .u8 0, .int .u8 0, .int .u8 0, .int .u8 0, .int .u8 0, .int .u8 0, .int .u8 0, .int .u8 0] 35)
    refine bodyPost_ret (v := .tuple #[agg8 [0, 0, 0, 0, 0, 0, 0, 0], .bool false]) (by simp [results, Tryd.results28, go_sem, hu35]; rfl) rfl ⟨rfl, ?_⟩
    repeat (first | exact Below.refl _ _ | apply below_alloc | refine below_set ?_ (by simp))
end Go.Proofs.YthbnghdobmghlaaDoor.ST
