import Derived.Test.YthbnghdobmghlaaDoorVM1
import Derived.Test.YthbnghdobmghlaaDoorVPCx11
import Derived.Test.YthbnghdobmghlaaDoorVL1
namespace Go.Proofs.YthbnghdobmghlaaDoor.ST
open Go.RowKit Go.Proofs.YthbnghdobmghlaaDoorW.PrintWords Go.Proofs.YthbnghdobmghlaaDoorW.PrintLast Go.Proofs.YthbnghdobmghlaaDoorW.PrintMore Go.Proofs.YthbnghdobmghlaaDoor.PC
set_option linter.unusedVariables false
set_option linter.unusedSimpArgs false
def gl : ByteArray → List ByteArray → ByteArray
  | acc, [] => acc
  | acc, w :: r => gl ((acc ++ (⟨#[32]⟩ : ByteArray)) ++ w) r
theorem gl_data : ∀ (r : List ByteArray) (acc : ByteArray), (gl acc r).data.toList = acc.data.toList ++ Lib.joinTail [32] (r.map (·.data.toList))
  | [], acc => by simp [gl, Lib.joinTail]
  | w :: r, acc => by
    rw [gl, gl_data r]
    simp [Lib.joinTail]
theorem gl_join (x : ByteArray) (r : List ByteArray) : gl x r = (⟨(Lib.join ((x :: r).map (·.data.toList)) [32]).toArray⟩ : ByteArray) := by
  apply ByteArray.ext
  rw [← Array.toList_inj, gl_data, List.map_cons, Lib.join_cons]
theorem gl_app : ∀ (a b : List ByteArray) (acc : ByteArray), gl acc (a ++ b) = gl (gl acc a) b
  | [], b, acc => rfl
  | w :: r, b, acc => by rw [List.cons_append, gl, gl, gl_app r b]
theorem gl_size : ∀ (l : List ByteArray) (acc : ByteArray), (∀ x ∈ l, x.size ≤ 100) → (gl acc l).size ≤ acc.size + 101 * l.length
  | [], acc, _ => by simp [gl]
  | w :: r, acc, h => by
    have h1 := gl_size r ((acc ++ (⟨#[32]⟩ : ByteArray)) ++ w) (fun x hx => h x (List.mem_cons_of_mem _ hx))
    have h2 := h w (List.mem_cons_self ..)
    have h3 : (⟨#[32]⟩ : ByteArray).size = 1 := rfl
    rw [ByteArray.size_append, ByteArray.size_append, h3] at h1
    rw [gl, List.length_cons]
    omega
theorem loop_ref (c : Cmd) (hd : ∀ x ∈ c.data, ok35 x = true) : ∀ (m k i : Nat) (acc : ByteArray), c.data.length - i = m → i ≤ c.data.length → m < k → acc.size + 17 * m ≤ 4611686018427387904 → c.data.length ≤ 16 →
    tegularef39_words.l0 k acc (i : Int) c.tag c.kind c.order c.force c.vol c.other c.pos c.len c.data = some (gl acc ((c.data.drop i).map hexB)) := by
  intro m
  induction m with
  | zero =>
    intro k i acc h1 h2 h3 h4 h5
    obtain ⟨k, rfl⟩ : ∃ j, k = j + 1 := ⟨k - 1, by omega⟩
    rw [tegularef39_words.l0, if_neg (by omega), List.drop_eq_nil_of_le (by omega)]
    rfl
  | succ m ih =>
    intro k i acc h1 h2 h3 h4 h5
    obtain ⟨k, rfl⟩ : ∃ j, k = j + 1 := ⟨k - 1, by omega⟩
    have hi : i < c.data.length := by omega
    have hx : rd_T35 c.data (i : Int) = c.data[i] := by
      unfold rd_T35
      rw [Int.toNat_natCast, List.getD_eq_getElem?_getD, List.getElem?_eq_getElem hi]
      rfl
    have hok := hd _ (List.getElem_mem hi)
    have hb : tegularef39_block.f (c.data[i]).f0 (c.data[i]).f1 (c.data[i]).f2 (c.data[i]).f3 (c.data[i]).f4 (c.data[i]).f5 (c.data[i]).f6 (c.data[i]).f7 = some (hexB c.data[i]) := by
      unfold tegularef39_block.f
      exact if_pos hok
    have hw : wrap64 ((i : Int) + 1) = ((i + 1 : Nat) : Int) := by unfold wrap64; omega
    have e32 : (⟨#[32]⟩ : ByteArray).size = 1 := rfl
    rw [tegularef39_words.l0, if_pos (by omega), if_pos (by omega), if_pos (by omega), hx, hb, Option.bind_some, if_pos (by rw [ByteArray.size_append, e32, hexB_size]; omega), hw,
      ih k (i + 1) _ (by omega) (by omega) (by omega) (by rw [ByteArray.size_append, ByteArray.size_append, e32, hexB_size]; omega) h5, List.drop_eq_getElem_cons hi, List.map_cons, gl]
theorem words_ref (c : Cmd) (hv : validC c = true) (hd : ∀ x ∈ c.data, ok35 x = true) (k : Nat) (hk : 40 ≤ k) :
    tegularef39_words.f k c.tag c.kind c.order c.force c.vol c.other c.pos c.len c.data = some (gl (kindB c.kind.toNat) (itoaB c.tag :: (volW c ++ tailW c))) := by
  obtain ⟨hkd, ht, hs, hp, hl, hdl, _⟩ := valid_bd hv
  have z1 := itoaB_size c.tag ht.1 ht.2
  have z2 := itoaB_size c.pos hp.1 (by omega)
  have z3 := itoaB_size c.len hl.1 (by omega)
  have e32 : (⟨#[32]⟩ : ByteArray).size = 1 := rfl
  have hloop := fun acc h => loop_ref c hd (c.data.length) k 0 acc (by omega) (by omega) (by omega) h hdl
  rw [List.drop_zero] at hloop
  have g1 := number_ref k (by omega) c.tag ht.1 (by omega)
  have g2 := number_ref k (by omega) c.pos hp.1 (by omega)
  have g3 := number_ref k (by omega) c.len hl.1 (by omega)
  unfold tegularef39_words.f
  rw [g1, g2, g3]
  simp only [Option.bind_some]
  clear g1 g2 g3 hv
  obtain ⟨tag, kind, order, force, vol, other, pos, len, data⟩ := c
  simp only at hkd ht hs hp hl hdl z1 z2 z3 hloop ⊢
  have n1 : (⟨#[114, 101, 97, 100]⟩ : ByteArray).size = 4 := rfl
  have n2 : (⟨#[119, 114, 105, 116, 101]⟩ : ByteArray).size = 5 := rfl
  have n3 : (⟨#[116, 114, 105, 109]⟩ : ByteArray).size = 4 := rfl
  have n4 : (⟨#[102, 108, 117, 115, 104]⟩ : ByteArray).size = 5 := rfl
  have n5 : (⟨#[99, 114, 101, 97, 116, 101]⟩ : ByteArray).size = 6 := rfl
  have n6 : (⟨#[99, 108, 111, 110, 101]⟩ : ByteArray).size = 5 := rfl
  have n7 : (⟨#[100, 101, 108, 101, 116, 101]⟩ : ByteArray).size = 6 := rfl
  rw [if_pos (by omega), if_pos (by omega), if_pos (by omega)]
  have h7 : kind = 1 ∨ kind = 2 ∨ kind = 3 ∨ kind = 4 ∨ kind = 5 ∨ kind = 6 ∨ kind = 7 := by omega
  rcases h7 with rfl | rfl | rfl | rfl | rfl | rfl | rfl
  · rw [if_pos rfl]
    repeat rw [if_pos (by simp only [ByteArray.size_append, e32, n1]; omega)]
    simp [volW, tailW, gl, ByteArray.append_assoc]
    rfl
  · rw [if_neg (by decide), if_pos rfl]
    repeat rw [if_pos (by simp only [ByteArray.size_append, e32, n2]; omega)]
    rw [show (0 : Int) = ((0 : Nat) : Int) from rfl, hloop _ (by simp only [ByteArray.size_append, e32, n2]; omega)]
    simp [volW, tailW, gl, ByteArray.append_assoc]
    rfl
  · rw [if_neg (by decide), if_neg (by decide), if_pos rfl]
    repeat rw [if_pos (by simp only [ByteArray.size_append, e32, n3]; omega)]
    simp [volW, tailW, gl, ByteArray.append_assoc]
    rfl
  · rw [if_neg (by decide), if_neg (by decide), if_neg (by decide), if_pos rfl]
    repeat rw [if_pos (by simp only [ByteArray.size_append, e32, n4]; omega)]
    simp [volW, tailW, gl, ByteArray.append_assoc]
    rfl
  · rw [if_neg (by decide), if_neg (by decide), if_neg (by decide), if_neg (by decide), if_pos rfl]
    repeat rw [if_pos (by simp only [ByteArray.size_append, e32, n5]; omega)]
    simp [volW, tailW, gl, ByteArray.append_assoc]
    rfl
  · rw [if_neg (by decide), if_neg (by decide), if_neg (by decide), if_neg (by decide), if_neg (by decide), if_pos rfl]
    repeat rw [if_pos (by simp only [ByteArray.size_append, e32, n6]; omega)]
    simp [volW, tailW, gl, ByteArray.append_assoc]
    rfl
  · rw [if_neg (by decide), if_neg (by decide), if_neg (by decide), if_neg (by decide), if_neg (by decide), if_neg (by decide)]
    repeat rw [if_pos (by simp only [ByteArray.size_append, e32, n7]; omega)]
    simp [volW, tailW, gl, ByteArray.append_assoc]
    rfl
theorem text_ref (c : Cmd) (hd : ∀ x ∈ c.data, ok35 x = true) (k : Nat) (hk : 40 ≤ k) :
    tegularef39_Text.f k c.tag c.kind c.order c.force c.vol c.other c.pos c.len c.data = some (⟨(textC c).toArray⟩ : ByteArray) := by
  unfold tegularef39_Text.f textC
  rw [valid_ref c k hk, Option.bind_some]
  cases hv : validC c
  · rfl
  rw [if_pos rfl, if_pos rfl, words_ref c hv hd k hk, Option.bind_some]
  have hw := words_bd hv
  have hsz : (gl (kindB c.kind.toNat) (itoaB c.tag :: (volW c ++ tailW c))).size ≤ 4000 := by
    have := gl_size (itoaB c.tag :: (volW c ++ tailW c)) (kindB c.kind.toNat) (fun x hx => hw.1 x (by
      unfold wordsC
      simp only [List.mem_append, List.mem_cons, List.not_mem_nil, or_false] at hx ⊢
      rcases hx with h | h | h
      · exact Or.inl (Or.inr h)
      · exact Or.inr (Or.inl h)
      · exact Or.inr (Or.inr (Or.inl h))))
    have h1 := kindB_size c.kind.toNat
    have h2 := hw.2
    unfold wordsC at h2
    simp only [List.length_append, List.length_cons, List.length_nil] at h2 this
    omega
  have e : (⟨(Lib.join ((wordsC c).map (·.data.toList)) [32]).toArray⟩ : ByteArray) = gl (gl (kindB c.kind.toNat) (itoaB c.tag :: (volW c ++ tailW c))) (flagW c) := by
    rw [← gl_app]
    unfold wordsC
    rw [← List.append_assoc (volW c), List.cons_append, List.cons_append, List.nil_append, ← gl_join, List.cons_append]
  rw [e]
  generalize gl (kindB c.kind.toNat) (itoaB c.tag :: (volW c ++ tailW c)) = t at hsz ⊢
  have e6 : (⟨#[32, 102, 111, 114, 99, 101]⟩ : ByteArray) = (⟨#[32]⟩ : ByteArray) ++ forceB := rfl
  have e8 : (⟨#[32, 111, 114, 100, 101, 114, 101, 100]⟩ : ByteArray) = (⟨#[32]⟩ : ByteArray) ++ orderedB := rfl
  have s6 : (⟨#[32, 102, 111, 114, 99, 101]⟩ : ByteArray).size = 6 := rfl
  unfold flagW
  cases hf : c.force
  · by_cases ho : c.order = 1
    · rw [if_neg (by decide), if_pos ho, if_pos (by omega), e8, if_neg (by decide), if_pos ho]
      simp [gl, ByteArray.append_assoc]
    · rw [if_neg (by decide), if_neg ho, if_neg (by decide), if_neg ho]
      rfl
  · by_cases ho : c.order = 1
    · rw [if_pos rfl, if_pos (by omega), if_pos ho, if_pos (by rw [ByteArray.size_append, s6]; omega), e6, e8, if_pos rfl, if_pos ho]
      simp [gl, ByteArray.append_assoc]
    · rw [if_pos rfl, if_pos (by omega), if_neg ho, e6, if_pos rfl, if_neg ho]
      simp [gl, ByteArray.append_assoc]
end Go.Proofs.YthbnghdobmghlaaDoor.ST
