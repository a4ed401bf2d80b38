import Derived.Test.YthbnghdobmghlaaDoorVJ1
import Derived.Test.YthbnghdobmghlaaDoorVJ4
import Derived.Lib.ItoaLen
namespace Go.Proofs.YthbnghdobmghlaaDoor.ST
open Go.RowKit Go.Proofs.YthbnghdobmghlaaDoorW.PrintWords Go.Proofs.YthbnghdobmghlaaDoorW.PrintLast Go.Proofs.YthbnghdobmghlaaDoorW.PrintMore Go.Proofs.YthbnghdobmghlaaDoor.PC
set_option linter.unusedVariables false
set_option linter.unusedSimpArgs false
theorem bytes_ext {a b : ByteArray} (h : a.toList = b.toList) : a = b := by
  have h2 : a.data.toList = b.data.toList := by rw [← ByteArray.toList_eq, ← ByteArray.toList_eq]; exact h
  obtain ⟨a⟩ := a
  obtain ⟨b⟩ := b
  congr 1
  exact Array.toList_inj.1 h2
theorem toList_iff (a b : ByteArray) : (a.toList == b.toList) = true ↔ a = b := ⟨fun h => bytes_ext (beq_iff_eq.1 h), fun h => by rw [h]; simp⟩
theorem empty_iff (a : ByteArray) : a.toList.isEmpty = true ↔ a = ⟨#[]⟩ := by
  rw [List.isEmpty_iff]
  constructor
  · intro h; exact bytes_ext (by rw [h, ByteArray.toList_eq])
  · intro h; rw [h, ByteArray.toList_eq]
theorem toList_eqv (a b : ByteArray) : a.toList = b.toList ↔ a = b := ⟨bytes_ext, fun h => by rw [h]⟩
theorem toList_nil (a : ByteArray) : a.toList = [] ↔ a = ⟨#[]⟩ := by rw [← empty_iff, List.isEmpty_iff]
theorem sameC_iff (c d : Cmd) : sameC c d = true ↔ c = d := by
  obtain ⟨t, k, o, f, v, ot, p, l, dt⟩ := c
  obtain ⟨t', k', o', f', v', ot', p', l', dt'⟩ := d
  unfold sameC headEq
  simp only [Bool.and_eq_true, eqL_iff, toList_iff, beq_iff_eq, Cmd.mk.injEq]
  constructor
  · rintro ⟨h8, h0, h1, h2, h3, h4, h5, h6, h7⟩
    exact ⟨h0, h1, h2, h3, bytes_ext h4, bytes_ext h5, h6, h7, h8⟩
  · rintro ⟨h0, h1, h2, h3, h4, h5, h6, h7, h8⟩
    exact ⟨h8, h0, h1, h2, h3, by rw [h4], by rw [h5], h6, h7⟩
theorem valid_iff (c : Cmd) : validC c = true ↔ headC c = true ∧ okC c = true ∧ c = usedC c := by
  unfold validC
  rw [Bool.and_eq_true, Bool.and_eq_true, sameC_iff]
theorem inside_iff (p n : Int) : insideB p n = true ↔ 0 ≤ p ∧ 1 ≤ n ∧ p ≤ 65536 ∧ n ≤ 65536 - p := by
  unfold insideB
  simp only [Bool.and_eq_true, decide_eq_true_eq]
theorem name_bd {s : ByteArray} (h : nameB s = true) : 1 ≤ s.size ∧ s.size ≤ 16 := by
  unfold nameB at h
  simp only [Bool.and_eq_true, decide_eq_true_eq] at h
  exact ⟨h.1.1.1.1, h.1.1.1.2⟩
def isValid (c : Cmd) : Prop :=
  (0 ≤ c.tag ∧ c.tag ≤ 2147483647) ∧ (c.order = 0 ∨ c.order = 1) ∧
  ((c.kind = 1 ∧ nameB c.vol = true ∧ insideB c.pos c.len = true ∧ c.len ≤ 16 ∧ c.force = false ∧ c.other = ⟨#[]⟩ ∧ c.data = []) ∨
   (c.kind = 2 ∧ nameB c.vol = true ∧ insideB c.pos c.len = true ∧ c.len ≤ 16 ∧ (c.data.length : Int) = c.len ∧ c.other = ⟨#[]⟩) ∨
   (c.kind = 3 ∧ nameB c.vol = true ∧ insideB c.pos c.len = true ∧ c.other = ⟨#[]⟩ ∧ c.data = []) ∨
   (c.kind = 4 ∧ c.vol = ⟨#[]⟩ ∧ c.force = false ∧ c.other = ⟨#[]⟩ ∧ c.pos = 0 ∧ c.len = 0 ∧ c.data = []) ∨
   (c.kind = 5 ∧ nameB c.vol = true ∧ (1 ≤ c.len ∧ c.len ≤ 65536 ∧ 0 ≤ c.pos ∧ c.pos ≤ c.len) ∧ c.force = false ∧ c.other = ⟨#[]⟩ ∧ c.data = []) ∨
   (c.kind = 6 ∧ nameB c.vol = true ∧ nameB c.other = true ∧ c.other ≠ c.vol ∧ c.force = false ∧ c.pos = 0 ∧ c.len = 0 ∧ c.data = []) ∨
   (c.kind = 7 ∧ nameB c.vol = true ∧ c.force = false ∧ c.other = ⟨#[]⟩ ∧ c.pos = 0 ∧ c.len = 0 ∧ c.data = []))
theorem valid_is (c : Cmd) : validC c = true ↔ isValid c := by
  rw [valid_iff]
  obtain ⟨t, k, o, f, v, ot, p, l, dt⟩ := c
  unfold headC okC usedC isValid
  simp only [Bool.and_eq_true, Bool.or_eq_true, decide_eq_true_eq, beq_iff_eq]
  by_cases k1 : k = 1
  · subst k1
    simp [Cmd.mk.injEq]
    constructor
    · rintro ⟨⟨h1, h2, h3⟩, ⟨h4, h5, h6⟩, rfl, rfl, rfl⟩; exact ⟨⟨h1, h2⟩, h3, h4, h5, h6, rfl, rfl, rfl⟩
    · rintro ⟨⟨h1, h2⟩, h3, h4, h5, h6, rfl, rfl, rfl⟩; exact ⟨⟨h1, h2, h3⟩, ⟨h4, h5, h6⟩, rfl, rfl, rfl⟩
  by_cases k2 : k = 2
  · subst k2
    simp [Cmd.mk.injEq]
    constructor
    · rintro ⟨⟨h1, h2, h3⟩, ⟨h4, h5, h6, h7⟩, rfl⟩; exact ⟨⟨h1, h2⟩, h3, h4, h5, h6, h7, rfl⟩
    · rintro ⟨⟨h1, h2⟩, h3, h4, h5, h6, h7, rfl⟩; exact ⟨⟨h1, h2, h3⟩, ⟨h4, h5, h6, h7⟩, rfl⟩
  by_cases k3 : k = 3
  · subst k3
    simp [Cmd.mk.injEq]
    constructor
    · rintro ⟨⟨h1, h2, h3⟩, ⟨h4, h5⟩, rfl, rfl⟩; exact ⟨⟨h1, h2⟩, h3, h4, h5, rfl, rfl⟩
    · rintro ⟨⟨h1, h2⟩, h3, h4, h5, rfl, rfl⟩; exact ⟨⟨h1, h2, h3⟩, ⟨h4, h5⟩, rfl, rfl⟩
  by_cases k4 : k = 4
  · subst k4
    simp [Cmd.mk.injEq, toList_eqv, toList_nil, and_assoc]
  by_cases k5 : k = 5
  · subst k5
    simp [Cmd.mk.injEq, toList_eqv, toList_nil, and_assoc]
  by_cases k6 : k = 6
  · subst k6
    simp [Cmd.mk.injEq, toList_eqv, toList_nil, and_assoc]
  by_cases k7 : k = 7
  · subst k7
    simp [Cmd.mk.injEq, toList_eqv, toList_nil, and_assoc]
  simp [k1, k2, k3, k4, k5, k6, k7]
theorem valid_bd {c : Cmd} (h : validC c = true) : (1 ≤ c.kind ∧ c.kind ≤ 7) ∧ (0 ≤ c.tag ∧ c.tag ≤ 2147483647) ∧ (c.vol.size ≤ 16 ∧ c.other.size ≤ 16) ∧ (0 ≤ c.pos ∧ c.pos ≤ 65536) ∧ (0 ≤ c.len ∧ c.len ≤ 65536) ∧ c.data.length ≤ 16 ∧ (c.order = 0 ∨ c.order = 1) := by
  rw [valid_is] at h
  obtain ⟨ht, ho, h⟩ := h
  have e0 : (⟨#[]⟩ : ByteArray).size = 0 := rfl
  rcases h with ⟨k, n, i, l, f, ot, d⟩ | ⟨k, n, i, l, dl, ot⟩ | ⟨k, n, i, ot, d⟩ | ⟨k, v, f, ot, p, l, d⟩ | ⟨k, n, i, f, ot, d⟩ | ⟨k, n, n2, ne, f, p, l, d⟩ | ⟨k, n, f, ot, p, l, d⟩
  · have := name_bd n; have := (inside_iff _ _).1 i; rw [k, ot, d]; simp only [List.length_nil]; omega
  · have := name_bd n; have := (inside_iff _ _).1 i; rw [k, ot]; omega
  · have := name_bd n; have := (inside_iff _ _).1 i; rw [k, ot, d]; simp only [List.length_nil]; omega
  · rw [k, v, ot, p, l, d]; simp only [List.length_nil]; omega
  · have := name_bd n; rw [k, ot, d]; simp only [List.length_nil]; omega
  · have := name_bd n; have := name_bd n2; rw [k, p, l, d]; simp only [List.length_nil]; omega
  · have := name_bd n; rw [k, ot, p, l, d]; simp only [List.length_nil]; omega
def itoaB (n : Int) : ByteArray := ⟨(Lib.itoa n).toArray⟩
def forceB : ByteArray := ⟨#[102, 111, 114, 99, 101]⟩
def orderedB : ByteArray := ⟨#[111, 114, 100, 101, 114, 101, 100]⟩
def tailW (c : Cmd) : List ByteArray :=
  if c.kind = 1 ∨ c.kind = 3 then [itoaB c.pos, itoaB c.len]
  else if c.kind = 2 then itoaB c.pos :: c.data.map hexB
  else if c.kind = 5 then [itoaB c.len, itoaB c.pos]
  else if c.kind = 6 then [c.other]
  else []
def volW (c : Cmd) : List ByteArray := if c.kind = 4 then [] else [c.vol]
def flagW (c : Cmd) : List ByteArray := (if c.force = true then [forceB] else []) ++ (if c.order = 1 then [orderedB] else [])
def wordsC (c : Cmd) : List ByteArray := [kindB c.kind.toNat, itoaB c.tag] ++ (volW c ++ (tailW c ++ flagW c))
def textC (c : Cmd) : List UInt8 := if validC c = true then Lib.join ((wordsC c).map (·.data.toList)) [32] else []
theorem strNums_size (l : List Int) : (strOfNums l).size = l.length := by
  unfold strOfNums
  simp [ByteArray.size]
theorem hexB_size (x : S35) : (hexB x).size = 16 := by
  unfold hexB
  rw [strNums_size, hexN_len]
  rfl
theorem kindB_size (k : Nat) : (kindB k).size ≤ 6 := by
  rcases (by omega : k = 0 ∨ k = 1 ∨ k = 2 ∨ k = 3 ∨ k = 4 ∨ k = 5 ∨ k = 6 ∨ k = 7 ∨ 8 ≤ k) with rfl | rfl | rfl | rfl | rfl | rfl | rfl | rfl | h
  all_goals first | decide | skip
  unfold kindB
  rw [List.getD_eq_getElem?_getD, List.getElem?_eq_none (by exact h)]
  decide
theorem itoaB_size (n : Int) (h0 : 0 ≤ n) (h1 : n ≤ 2147483647) : (itoaB n).size ≤ 21 := by
  have := Lib.itoa_length_le n (by omega) (by omega)
  simpa [itoaB, ByteArray.size] using this
theorem words_bd {c : Cmd} (h : validC c = true) : (∀ x ∈ wordsC c, x.size ≤ 100) ∧ (wordsC c).length ≤ 30 := by
  obtain ⟨hk, ht, hv, hp, hl, hd, ho⟩ := valid_bd h
  have e1 : forceB.size ≤ 100 := by decide
  have e2 : orderedB.size ≤ 100 := by decide
  have e3 := itoaB_size c.pos hp.1 (by omega)
  have e4 := itoaB_size c.len hl.1 (by omega)
  have e5 := itoaB_size c.tag ht.1 ht.2
  have e6 := kindB_size c.kind.toNat
  constructor
  · intro x hx
    unfold wordsC at hx
    rcases List.mem_append.1 hx with hx | hx
    · rcases List.mem_cons.1 hx with rfl | hx
      · omega
      · rw [List.mem_singleton.1 hx]; omega
    rcases List.mem_append.1 hx with hx | hx
    · unfold volW at hx
      split at hx
      · cases hx
      · rw [List.mem_singleton.1 hx]; omega
    rcases List.mem_append.1 hx with hx | hx
    · unfold tailW at hx
      split at hx
      · rcases List.mem_cons.1 hx with rfl | hx
        · omega
        · rw [List.mem_singleton.1 hx]; omega
      split at hx
      · rcases List.mem_cons.1 hx with rfl | hx
        · omega
        · obtain ⟨y, _, rfl⟩ := List.mem_map.1 hx
          rw [hexB_size]; omega
      split at hx
      · rcases List.mem_cons.1 hx with rfl | hx
        · omega
        · rw [List.mem_singleton.1 hx]; omega
      split at hx
      · rw [List.mem_singleton.1 hx]; omega
      · cases hx
    · unfold flagW at hx
      rcases List.mem_append.1 hx with hx | hx <;> split at hx
      · rw [List.mem_singleton.1 hx]; omega
      · cases hx
      · rw [List.mem_singleton.1 hx]; omega
      · cases hx
  · have l1 : (volW c).length ≤ 1 := by unfold volW; split <;> simp
    have l2 : (tailW c).length ≤ 17 := by
      unfold tailW
      split
      · simp
      split
      · simp; omega
      split
      · simp
      split <;> simp
    have l3 : (flagW c).length ≤ 2 := by unfold flagW; rw [List.length_append]; split <;> split <;> simp
    unfold wordsC
    simp only [List.length_append, List.length_cons, List.length_nil]
    omega
theorem join_bd (ws : List (List UInt8)) (h : ∀ x ∈ ws, x.length ≤ 100) : (Lib.join ws [32]).length ≤ 101 * ws.length := by
  cases ws with
  | nil => simp [Lib.join_nil]
  | cons x r =>
    rw [Lib.join_cons, List.length_append]
    have hx := h x (List.mem_cons_self ..)
    have hr : (Lib.joinTail [32] r).length ≤ 101 * r.length := by
      have hr' : ∀ y ∈ r, y.length ≤ 100 := fun y hy => h y (List.mem_cons_of_mem _ hy)
      clear h hx
      induction r with
      | nil => simp [Lib.joinTail]
      | cons y t ih =>
        have := ih (fun z hz => hr' z (List.mem_cons_of_mem _ hz))
        have hy := hr' y (List.mem_cons_self ..)
        unfold Lib.joinTail at this ⊢
        simp only [List.map_cons, List.flatten_cons, List.length_append, List.length_cons, List.length_nil] at this ⊢
        omega
    simp only [List.length_cons]
    omega
theorem text_bd {c : Cmd} (h : validC c = true) : (Lib.join ((wordsC c).map (·.data.toList)) [32]).length ≤ 4000 := by
  obtain ⟨h1, h2⟩ := words_bd h
  have := join_bd ((wordsC c).map (·.data.toList)) (fun x hx => by
    obtain ⟨y, hy, rfl⟩ := List.mem_map.1 hx
    have := h1 y hy
    rw [Array.length_toList]; exact this)
  rw [List.length_map] at this
  omega
end Go.Proofs.YthbnghdobmghlaaDoor.ST
