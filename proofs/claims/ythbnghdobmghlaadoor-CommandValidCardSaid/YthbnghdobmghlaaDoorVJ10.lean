import Derived.Test.YthbnghdobmghlaaDoorVJ9
namespace Go.Proofs.YthbnghdobmghlaaDoor.ST
open Go.RowKit Go.Proofs.YthbnghdobmghlaaDoorW.PrintWords Go.Proofs.YthbnghdobmghlaaDoorW.PrintLast Go.Proofs.YthbnghdobmghlaaDoorW.PrintMore Go.Proofs.YthbnghdobmghlaaDoor.PC
set_option linter.unusedVariables false
set_option linter.unusedSimpArgs false
def eB : ByteArray := ⟨#[]⟩
def kindUpto (x : ByteArray) : Nat → Int
  | 0 => 0
  | j + 1 => if kindB j = x then j else kindUpto x j
def kindOf (x : ByteArray) : Int := kindUpto x 8
def nO (L : List ByteArray) : Nat := if 1 < L.length ∧ L.getD (L.length - 1) eB = orderedB then L.length - 1 else L.length
def oO (L : List ByteArray) : Int := if 1 < L.length ∧ L.getD (L.length - 1) eB = orderedB then 1 else 0
def nF (L : List ByteArray) (n : Nat) : Nat := if 1 < n ∧ L.getD (n - 1) eB = forceB then n - 1 else n
def fF (L : List ByteArray) (n : Nat) : Bool := decide (1 < n ∧ L.getD (n - 1) eB = forceB)
def wAt (L : List ByteArray) (n i : Nat) : ByteArray := if i < n then L.getD i eB else eB
def numB (x : ByteArray) : Int := numOf x.data.toList
def of8 (l : List Int) : S35 := ⟨l.getD 0 0, l.getD 1 0, l.getD 2 0, l.getD 3 0, l.getD 4 0, l.getD 5 0, l.getD 6 0, l.getD 7 0⟩
def blkOf (x : ByteArray) : S35 := of8 (blockL x)
def baseC (L : List ByteArray) : Cmd :=
  let n := nF L (nO L)
  let k := kindOf (L.getD 0 eB)
  let data := if k = 2 then ((L.take n).drop 4).map blkOf else []
  { tag := numB (wAt L n 1), kind := k, order := oO L, force := fF L (nO L), vol := wAt L n 2,
    other := if k = 6 then wAt L n 3 else eB,
    pos := if k = 1 ∨ k = 3 ∨ k = 2 then numB (wAt L n 3) else if k = 5 then numB (wAt L n 4) else 0,
    len := if k = 1 ∨ k = 3 then numB (wAt L n 4) else if k = 2 then data.length else if k = 5 then numB (wAt L n 3) else 0,
    data := data }
def parseC (s : ByteArray) : Cmd × Int :=
  if ((mkB (textC (baseC (splB s)))).toList == s.toList) = true ∧ s.toList.isEmpty = false then (baseC (splB s), 0)
  else twinC (baseC (splB s)) (nF (splB s) (nO (splB s))) s
theorem list8_of8 {l : List Int} (h : l.length = 8) : list8 (of8 l) = l := by
  obtain ⟨x0, x1, x2, x3, x4, x5, x6, x7, rfl⟩ := lit8 l h
  rfl
theorem fill_bd : ∀ (l acc : List Int), (∀ n ∈ acc, 0 ≤ n ∧ n ≤ 255) → ∀ n ∈ (fillB l acc).1, 0 ≤ n ∧ n ≤ 255
  | [], acc, h => by unfold fillB; exact h
  | [c], acc, h => by unfold fillB; exact h
  | c :: d :: r, acc, h => by
    unfold fillB
    cases hx : hexs 0 [c, d] with
    | none => exact h
    | some n =>
      refine fill_bd r (acc ++ [n]) (fun m hm => ?_)
      rcases List.mem_append.1 hm with hm | hm
      · exact h m hm
      · rw [List.mem_singleton.1 hm]; exact hexs_bd hx
theorem blockL_ok (s : ByteArray) : okL (blockL s) := by
  unfold blockL
  split
  · exact ⟨pad_len _, fun i hi => pad_bd _ (fill_bd _ [] (fun n hn => by cases hn)) i hi⟩
  · exact ⟨pad_len _, fun i hi => pad_bd _ (fun n hn => by cases hn) i hi⟩
theorem ok35_of8 {l : List Int} (h : okL l) : ok35 (of8 l) = true := by
  have h0 := h.2 0 (by decide); have h1 := h.2 1 (by decide); have h2 := h.2 2 (by decide); have h3 := h.2 3 (by decide)
  have h4 := h.2 4 (by decide); have h5 := h.2 5 (by decide); have h6 := h.2 6 (by decide); have h7 := h.2 7 (by decide)
  unfold ok35 of8
  simp only [Bool.and_eq_true, decide_eq_true_eq]
  exact ⟨h0, h1, h2, h3, h4, h5, h6, h7⟩
theorem blk_ok (x : ByteArray) : ok35 (blkOf x) = true := ok35_of8 (blockL_ok x)
theorem agg_blk (x : ByteArray) : agg8 (blockL x) = .agg (cells35 (blkOf x)) := by
  rw [← agg_list8, show list8 (blkOf x) = blockL x from list8_of8 (blockL_ok x).1]
def Wd (W : World) (gl : Nat) (L : List ByteArray) : Prop := ∃ cur, W.heap[gl]? = some (.cells cur 9 (0, 0)) ∧ ∀ (k : Nat) x, L[k]? = some x → cur[k]? = some (.string x)
theorem Wd.below {W W' : World} {gl : Nat} {L : List ByteArray} (h : Wd W gl L) (hb : Below W.heap.size W W') : Wd W' gl L := by
  obtain ⟨cur, h1, h2⟩ := h
  exact ⟨cur, blk_below h1 hb, h2⟩
theorem Wd.far {W : World} {gl : Nat} {L : List ByteArray} (h : Wd W gl L) {g : Nat} (hne : gl ≠ g) (i : Nat) (u : Value) : Wd (W.setCell ⟨g, i, none⟩ u) gl L := by
  obtain ⟨cur, h1, h2⟩ := h
  exact ⟨cur, blk_far h1 (p := ⟨g, i, none⟩) hne u, h2⟩
theorem Wd.lt {W : World} {gl : Nat} {L : List ByteArray} (h : Wd W gl L) : gl < W.heap.size := by
  obtain ⟨cur, h1, _⟩ := h
  exact blk_lt h1
theorem Wd.ne {W : World} {gl g : Nat} {L : List ByteArray} (h : Wd W gl L) {t : TypeId} {cs : Array Value} (hg : W.heap[g]? = some (.cells cs t (0, 0))) (ht : t ≠ 9) : gl ≠ g := by
  obtain ⟨cur, h1, _⟩ := h
  exact blk_ne h1 hg (Ne.symm ht)
theorem Wd.at {W : World} {gl : Nat} {L : List ByteArray} (h : Wd W gl L) (i : Nat) (hi : i < L.length) : W.cell? ⟨gl, i, none⟩ = some (.string (L.getD i eB)) := by
  obtain ⟨cur, h1, h2⟩ := h
  rw [blk_cell h1 i]
  have := h2 i L[i] (List.getElem?_eq_getElem hi)
  rw [this, List.getD_eq_getElem?_getD, List.getElem?_eq_getElem hi]
  rfl
theorem at_any (W : World) (g4 gl n cap i : Nat) (L : List ByteArray) (h4 : W.heap[g4]? = some (.cells #[.slice (some ⟨gl, 0, none⟩) n cap] 38 (0, 0))) (hw : Wd W gl L) (hn : n ≤ L.length) (hl : L.length ≤ 4294967290) :
    Calls Tryd.prog 26 #[.int .i64 i, .pointer (some ⟨g4, 0, none⟩)] W fun e w' => e = .returned (.string (wAt L n i)) ∧ W = w' := by
  have c4 := (blk_cell h4 0).trans (show _ = some (Value.slice (some ⟨gl, 0, none⟩) n cap) from rfl)
  by_cases h : i < n
  · have e : wAt L n i = L.getD i eB := by unfold wAt; rw [if_pos h]
    rw [e]
    have d1 : decide ((i : Int) < (n : Int)) = true := decide_eq_true (by omega)
    have p1 : (0 ≤ (i : Int)) = True := eq_true (by omega)
    have p2 : ((i : Int) < (n : Int)) = True := eq_true (by omega)
    have hc := hw.at i (by omega)
    generalize L.getD i eB = x at hc ⊢
    clear e
    go_enter Tryd.func26, Tryd.ntmps26
    go_wp2
    go_ret
    exact ⟨rfl, rfl⟩
  · have e : wAt L n i = eB := by unfold wAt; rw [if_neg h]
    rw [e]
    have d1 : decide ((i : Int) < (n : Int)) = false := decide_eq_false (by omega)
    clear e
    go_enter Tryd.func26, Tryd.ntmps26
    go_wp2
    go_ret
    exact ⟨rfl, rfl⟩
theorem spl_cut (l a b : List UInt8) (h : Lib.cut l [32] = (a, b, true)) : spl l = a :: spl b ∧ b.length < l.length := by
  unfold Lib.cut at h
  split at h
  · rename_i hi
    simp only [Prod.mk.injEq] at h
    obtain ⟨rfl, rfl, _⟩ := h
    have hne : ¬ (Lib.index l [32] == -1) = true := fun e => by rw [beq_iff_eq] at e; omega
    have hd := Lib.drop_shorter (sub := [32]) (by decide) hne
    refine ⟨?_, hd⟩
    have hc := Lib.count_hit (s := l) (sub := [32]) (i := (Lib.index l [32]).toNat) (by decide) (by omega)
    unfold spl
    rw [hc, Nat.add_comm 1]
    conv => lhs; unfold Lib.splitK
    rw [if_neg hne, Nat.add_zero]
  · simp at h
theorem spl_one (l a b : List UInt8) (h : Lib.cut l [32] = (a, b, false)) : spl l = [a] := by
  unfold Lib.cut at h
  split at h
  · simp at h
  · rename_i hi
    simp only [Prod.mk.injEq] at h
    obtain ⟨rfl, _, _⟩ := h
    have := Lib.index_ge l [32]
    have he : Lib.index l [32] = -1 := by omega
    have hc : Lib.count l [32] = 0 := by unfold Lib.count Lib.countFrom; rw [he]; rfl
    unfold spl
    rw [hc]
    rfl
end Go.Proofs.YthbnghdobmghlaaDoor.ST
