import Derived.Test.YthbnghdobmghlaaDoorVPCx0
import Derived.Test.YthbnghdobmghlaaDoorVShelf
import Derived.Shelf.Strings.SlTrimAscii
import Derived.Lib.Hide
namespace Go.Proofs.YthbnghdobmghlaaDoor.ST
open Go.RowKit Go.Proofs.YthbnghdobmghlaaDoorW.PrintWords Go.Proofs.YthbnghdobmghlaaDoorW.PrintLast Go.Proofs.YthbnghdobmghlaaDoorW.PrintMore Go.Proofs.YthbnghdobmghlaaDoor.PC
set_option linter.unusedVariables false
set_option linter.unusedSimpArgs false
structure Cmd where
  tag : Int
  kind : Int
  order : Int
  force : Bool
  vol : ByteArray
  other : ByteArray
  pos : Int
  len : Int
  data : List S35
def alnum (b : UInt8) : Bool := (decide (97 ≤ b.toNat) && decide (b.toNat ≤ 122)) || (decide (48 ≤ b.toNat) && decide (b.toNat ≤ 57))
def nameB (s : ByteArray) : Bool := decide (1 ≤ s.size) && decide (s.size ≤ 16) && decide (97 ≤ bt s 0) && decide (bt s 0 ≤ 122) && s.data.toList.all alnum
def setB : ByteArray := ⟨#[97, 98, 99, 100, 101, 102, 103, 104, 105, 106, 107, 108, 109, 110, 111, 112, 113, 114, 115, 116, 117, 118, 119, 120, 121, 122, 48, 49, 50, 51, 52, 53, 54, 55, 56, 57]⟩
theorem set_alnum (b : UInt8) : setB.data.toList.contains b = alnum b := by
  have h : ∀ n : Fin 256, setB.data.toList.contains (UInt8.ofNat n.val) = alnum (UInt8.ofNat n.val) := by decide +kernel
  have := h ⟨b.toNat, b.toNat_lt⟩
  simpa using this
theorem dropW_nil {α : Type} (p : α → Bool) : ∀ l : List α, l.dropWhile p = [] ↔ l.all p = true
  | [] => by simp
  | x :: r => by
    by_cases h : p x = true
    · rw [List.dropWhile_cons_of_pos h, dropW_nil p r]; simp [h]
    · rw [List.dropWhile_cons_of_neg h]; simp [h]
theorem trimS_nil (l : List UInt8) : (Lib.trimS l setB.data.toList == []) = l.all alnum := by
  have hc : (fun b => setB.data.toList.contains b) = alnum := funext set_alnum
  unfold Lib.trimS Lib.trimLeftS Lib.trimRightS
  rw [hc]
  have h1 : ((l.reverse.dropWhile alnum).reverse.dropWhile alnum = []) ↔ l.all alnum = true := by
    rw [dropW_nil]
    constructor
    · intro h
      have h2 : l.reverse = l.reverse.takeWhile alnum ++ l.reverse.dropWhile alnum := (List.takeWhile_append_dropWhile).symm
      have h3 : l.reverse.all alnum = true := by
        rw [h2, List.all_append, Bool.and_eq_true]
        refine ⟨?_, by rw [← List.all_reverse]; exact h⟩
        rw [List.all_eq_true]
        intro x hx
        exact List.all_eq_true.1 List.all_takeWhile x hx
      rwa [List.all_reverse] at h3
    · intro h
      rw [List.all_reverse]
      rw [← List.all_reverse] at h
      have h2 : l.reverse = l.reverse.takeWhile alnum ++ l.reverse.dropWhile alnum := (List.takeWhile_append_dropWhile).symm
      rw [h2, List.all_append, Bool.and_eq_true] at h
      exact h.2
  cases h : l.all alnum
  · rw [beq_eq_false_iff_ne]
    intro e
    rw [h1.1 e] at h; cases h
  · rw [beq_iff_eq]; exact h1.2 h
theorem Trim_any (s : ByteArray) (w : World) (hs : s.size ≤ 9223372036854775807) : Calls Tryd.prog 47 #[.string s, .string setB] w fun e w' => e = .returned (.string ⟨(Lib.trimS s.data.toList setB.data.toList).toArray⟩) ∧ Below w.heap.size w w' :=
  Any.strings_Trim_laid Tryd.lays160 (by kernel_rfl) s setB w hs (by decide) (ascii_of_all (by decide))
set_option maxHeartbeats 4000000 in
theorem name_any (s : ByteArray) (w : World) : Calls Tryd.prog 34 #[.string s] w fun e w' => e = .returned (.bool (nameB s)) ∧ Below w.heap.size w w' := by
  have hx : ∀ h : 0 < s.size, ((s[0]'h).toNat : Int) = bt s 0 := bt_at s 0
  by_cases h1 : 1 ≤ s.size
  · have d1 : decide ((s.size : Int) < 1) = false := decide_eq_false (by omega)
    by_cases h2 : s.size ≤ 16
    · have d2 : decide ((16 : Int) < (s.size : Int)) = false := decide_eq_false (by omega)
      have p0 : (0 : Int) < (s.size : Int) := by omega
      have d3 : decide ((0 : Int) < (s.size : Int)) = true := decide_eq_true p0
      by_cases h3 : 97 ≤ bt s 0
      · have d4 : decide (bt s 0 < 97) = false := decide_eq_false (by omega)
        by_cases h4 : bt s 0 ≤ 122
        · have d5 : decide (122 < bt s 0) = false := decide_eq_false (by omega)
          have hn : nameB s = (Lib.trimS s.data.toList setB.data.toList).isEmpty := by
            have : (Lib.trimS s.data.toList setB.data.toList).isEmpty = s.data.toList.all alnum := by rw [← trimS_nil]; cases Lib.trimS s.data.toList setB.data.toList <;> rfl
            unfold nameB
            rw [decide_eq_true h1, decide_eq_true h2, decide_eq_true h3, decide_eq_true h4, Bool.true_and, Bool.true_and, Bool.true_and, Bool.true_and]
            exact this.symm
          have HN := Lib.hid hn
          clear hn
          go_enter Tryd.func34, Tryd.ntmps34
          go_wp2_with fail
          refine (Trim_any s _ (by omega)).mono ?_
          rintro e w' ⟨rfl, hb⟩
          have HB := Aside0.mk hb
          clear hb
          go_wp2
          go_ret
          exact ⟨by rw [HN.out]; rfl, HB.out⟩
        · have d5 : decide (122 < bt s 0) = true := decide_eq_true (by omega)
          have hn : nameB s = false := by unfold nameB; rw [decide_eq_false h4]; simp
          rw [hn]
          go_enter Tryd.func34, Tryd.ntmps34
          go_wp2
          go_ret
          exact ⟨rfl, Below.refl _ _⟩
      · have d4 : decide (bt s 0 < 97) = true := decide_eq_true (by omega)
        have hn : nameB s = false := by unfold nameB; rw [decide_eq_false h3]; simp
        rw [hn]
        go_enter Tryd.func34, Tryd.ntmps34
        go_wp2
        go_ret
        exact ⟨rfl, Below.refl _ _⟩
    · have d2 : decide ((16 : Int) < (s.size : Int)) = true := decide_eq_true (by omega)
      have hn : nameB s = false := by unfold nameB; rw [decide_eq_false h2]; simp
      rw [hn]
      go_enter Tryd.func34, Tryd.ntmps34
      go_wp2
      go_ret
      exact ⟨rfl, Below.refl _ _⟩
  · have d1 : decide ((s.size : Int) < 1) = true := decide_eq_true (by omega)
    have hn : nameB s = false := by unfold nameB; rw [decide_eq_false h1]; simp
    rw [hn]
    go_enter Tryd.func34, Tryd.ntmps34
    go_wp2
    go_ret
    exact ⟨rfl, Below.refl _ _⟩
end Go.Proofs.YthbnghdobmghlaaDoor.ST
