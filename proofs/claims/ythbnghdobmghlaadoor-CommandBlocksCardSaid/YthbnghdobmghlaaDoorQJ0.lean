import Derived.Test.YthbnghdobmghlaaDoorQPCx0
import Derived.Test.YthbnghdobmghlaaDoorQShelf
import Derived.Shelf.Strings.SlTrimAscii
import Derived.Lib.Hide
namespace Go.Proofs.YthbnghdobmghlaaDoor.ST
open Go.RowKit Go.Proofs.YthbnghdobmghlaaDoorW.PrintWords Go.Proofs.YthbnghdobmghlaaDoorW.PrintLast Go.Proofs.YthbnghdobmghlaaDoorW.PrintMore Go.Proofs.YthbnghdobmghlaaDoor.PC
set_option linter.unusedVariables false
set_option linter.unusedSimpArgs false
structure Cmd where
  tag : Int
  kind : Int
  order : Int
  force : Bool
  vol : ByteArray
  other : ByteArray
  pos : Int
  len : Int
  data : List S35
def alnum (b : UInt8) : Bool := (decide (97 ≤ b.toNat) && decide (b.toNat ≤ 122)) || (decide (48 ≤ b.toNat) && decide (b.toNat ≤ 57))
def nameB (s : ByteArray) : Bool := decide (1 ≤ s.size) && decide (s.size ≤ 16) && decide (97 ≤ bt s 0) && decide (bt s 0 ≤ 122) && s.data.toList.all alnum
def setB : ByteArray := ⟨#[97, 98, 99, 100, 101, 102, 103, 104, 105, 106, 107, 108, 109, 110, 111, 112, 113, 114, 115, 116, 117, 118, 119, 120, 121, 122, 48, 49, 50, 51, 52, 53, 54, 55, 56, 57]⟩
theorem set_alnum (b : UInt8) : setB.data.toList.contains b = alnum b := by
  have h : ∀ n : Fin 256, setB.data.toList.contains (UInt8.ofNat n.val) = alnum (UInt8.ofNat n.val) := by decide +kernel
  have := h ⟨b.toNat, b.toNat_lt⟩
  simpa using this
theorem dropW_nil {α : Type} (p : α → Bool) : ∀ l : List α, l.dropWhile p = [] ↔ l.all p = true
  | [] => by simp
  | x :: r => by
    by_cases h : p x = true
    · rw [List.dropWhile_cons_of_pos h, dropW_nil p r]; simp [h]
    · rw [List.dropWhile_cons_of_neg h]; simp [h]
theorem trimS_nil (l : List UInt8) : (Lib.trimS l setB.data.toList == []) = l.all alnum := by
  have hc : (fun b => setB.data.toList.contains b) = alnum := funext set_alnum
  unfold Lib.trimS Lib.trimLeftS Lib.trimRightS
  rw [hc]
  have h1 : ((l.reverse.dropWhile alnum).reverse.dropWhile alnum = []) ↔ l.all alnum = true := by
    rw [dropW_nil]
    constructor
    · intro h
      have h2 : l.reverse = l.reverse.takeWhile alnum ++ l.reverse.dropWhile alnum := (List.takeWhile_append_dropWhile).symm
      have h3 : l.reverse.all alnum = true := by
        rw [h2, List.all_append, Bool.and_eq_true]
        refine ⟨?_, by rw [← List.all_reverse]; exact h⟩
        rw [List.all_eq_true]
        intro x hx
        exact List.all_eq_true.1 List.all_takeWhile x hx
      rwa [List.all_reverse] at h3
    · intro h
      rw [List.all_reverse]
      rw [← List.all_reverse] at h
      have h2 : l.reverse = l.reverse.takeWhile alnum ++ l.reverse.dropWhile alnum := (List.takeWhile_append_dropWhile).symm
      rw [h2, List.all_append, Bool.and_eq_true] at h
      exact h.2
  cases h : l.all alnum
  · rw [beq_eq_false_iff_ne]
    intro e
    rw [h1.1 e] at h; cases h
  · rw [beq_iff_eq]; exact h1.2 h
theorem Trim_any (s : ByteArray) (w : World) (hs : s.size ≤ 9223372036854775807) : Calls Tryd.prog 47 #[.string s, .string setB] w fun e w' => e = .returned (.string ⟨(Lib.trimS s.data.toList setB.data.toList).toArray⟩) ∧ Below w.heap.size w w' :=
  Any.strings_Trim_laid Tryd.lays160 (by kernel_rfl) s setB w hs (by decide) (ascii_of_all (by decide))
set_option maxHeartbeats 4000000 in
theorem name_any (s : ByteArray) (w : World) : Calls Tryd.prog 34 #[.string s] w fun e w' => e = .returned (.bool (nameB s)) ∧ Below w.heap.size w w' := by
  have hx : ∀ h : 0 < s.size, ((s[0]'h).toNat : Int) = bt s 0 := bt_at s 0
  by_cases h1 : 1 ≤ s.size
  · have d1 : decide ((s.size : Int) < 1) = false := decide_eq_false (by omega)
    by_cases h2 : s.size ≤ 16
    · have d2 : decide ((16 : Int) < (s.size : Int)) = false := decide_eq_false (by omega)
      have p0 : (0 : Int) < (s.size : Int) := by omega
      have d3 : decide ((0 : Int) < (s.size : Int)) = true := decide_eq_true p0
      by_cases h3 : 97 ≤ bt s 0
      · have d4 : decide (bt s 0 < 97) = false := decide_eq_false (by omega)
        by_cases h4 : bt s 0 ≤ 122
        · have d5 : decide (122 < bt s 0) = false := decide_eq_false (by omega)
          have hn : nameB s = (Lib.trimS s.data.toList setB.data.toList).isEmpty := by
            have : (Lib.trimS s.data.toList setB.data.toList).isEmpty = s.data.toList.all alnum := by rw [← trimS_nil]; cases Lib.trimS s.data.toList setB.data.toList <;> rfl
            unfold nameB
            rw [decide_eq_true h1, decide_eq_true h2, decide_eq_true h3, decide_eq_true h4, Bool.true_and, Bool.true_and, Bool.true_and, Bool.true_and]
            exact this.symm
          have HN := Lib.hid hn
          clear hn
          go_enter Tryd.func34, Tryd.ntmps34
          go_wp2_with fail
          refine (Trim_any s _ (by omega)).mono ?_
          rintro e w' ⟨rfl, hb⟩
          have HB := Aside0.mk hb
          clear hb
          go_wp2
          go_ret
          exact ⟨by rw [HN.out]; rfl, HB.out⟩
        · have d5 : decide (122 < bt s 0) = true := decide_eq_true (by omega)
          have hn : nameB s = false := by unfold nameB; rw [decide_eq_false h4]; simp
          rw [hn]
          go_enter Tryd.func34, Tryd.ntmps34
          go_wp2
          go_ret
          exact ⟨rfl, Below.refl _ _⟩
      · have d4 : decide (bt s 0 < 97) = true := decide_eq_true (by omega)
        have hn : nameB s = false := by unfold nameB; rw [decide_eq_false h3]; simp
        rw [hn]
        go_enter Tryd.func34, Tryd.ntmps34
        go_wp2
        go_ret
        exact ⟨rfl, Below.refl _ _⟩
    · have d2 : decide ((16 : Int) < (s.size : Int)) = true := decide_eq_true (by omega)
      have hn : nameB s = false := by unfold nameB; rw [decide_eq_false h2]; simp
      rw [hn]
      go_enter Tryd.func34, Tryd.ntmps34
      go_wp2
      go_ret
      exact ⟨rfl, Below.refl _ _⟩
  · have d1 : decide ((s.size : Int) < 1) = true := decide_eq_true (by omega)
    have hn : nameB s = false := by unfold nameB; rw [decide_eq_false h1]; simp
    rw [hn]
    go_enter Tryd.func34, Tryd.ntmps34
    go_wp2
    go_ret
    exact ⟨rfl, Below.refl _ _⟩
def share1 (a b4 b5 : ByteArray) : Bool := !a.toList.isEmpty && (a.toList == b4.toList || a.toList == b5.toList)
def sharesB (a4 a5 b4 b5 : ByteArray) : Bool := share1 a4 b4 b5 || share1 a5 b4 b5
set_option maxHeartbeats 4000000 in
set_option maxRecDepth 100000 in
theorem shares_any (a4 a5 b4 b5 : ByteArray) (a0 a1 a2 : Int) (a3 : Bool) (a6 a7 : Int) (va : Value) (b0 b1 b2 : Int) (b3 : Bool) (b6 b7 : Int) (vb : Value) (w : World) :
    Calls Tryd.prog 21 #[.agg #[.int .i64 a0, .int .i64 a1, .int .i64 a2, .bool a3, .string a4, .string a5, .int .i64 a6, .int .i64 a7, va], .agg #[.int .i64 b0, .int .i64 b1, .int .i64 b2, .bool b3, .string b4, .string b5, .int .i64 b6, .int .i64 b7, vb]] w fun e w' => e = .returned (.bool (sharesB a4 a5 b4 b5)) ∧ Below w.heap.size w w' := by
  have hu24 := Tryd.underlying24
  have hi0 : ∀ w : World, (Instr.index 52 (.agg #[.string a4, .string a5]) (.int .i64 0)).run Tryd.prog w = .ok (.string a4) w := fun _ => rfl
  have hi1 : ∀ w : World, (Instr.index 52 (.agg #[.string a4, .string a5]) (.int .i64 1)).run Tryd.prog w = .ok (.string a5) w := fun _ => rfl
  go_enter Tryd.func21, Tryd.ntmps21
  go_wp2
  have hb := below_alloc (below_alloc (Below.refl w.heap.size w) (.cells #[.int .i64 a0, .int .i64 a1, .int .i64 a2, .bool a3, .string a4, .string a5, .int .i64 a6, .int .i64 a7, va] 24)) (.cells #[.int .i64 b0, .int .i64 b1, .int .i64 b2, .bool b3, .string b4, .string b5, .int .i64 b6, .int .i64 b7, vb] 24)
  have hk := blk_new (w.alloc (.cells #[.int .i64 a0, .int .i64 a1, .int .i64 a2, .bool a3, .string a4, .string a5, .int .i64 a6, .int .i64 a7, va] 24)) (.cells #[.int .i64 b0, .int .i64 b1, .int .i64 b2, .bool b3, .string b4, .string b5, .int .i64 b6, .int .i64 b7, vb] 24)
  rw [show (w.alloc (.cells #[.int .i64 a0, .int .i64 a1, .int .i64 a2, .bool a3, .string a4, .string a5, .int .i64 a6, .int .i64 a7, va] 24)).heap.size = w.heap.size + 1 by simp] at hk
  generalize (w.alloc (.cells #[.int .i64 a0, .int .i64 a1, .int .i64 a2, .bool a3, .string a4, .string a5, .int .i64 a6, .int .i64 a7, va] 24)).alloc (.cells #[.int .i64 b0, .int .i64 b1, .int .i64 b2, .bool b3, .string b4, .string b5, .int .i64 b6, .int .i64 b7, vb] 24) = w2 at hb hk ⊢
  generalize hgb : w.heap.size + 1 = gb at hk ⊢
  have HB := Aside0.mk hb
  have HK := Aside0.mk hk
  clear hb hk hgb
  go_loopg [12] 2 (fun kq v12 w' => ∃ i : Nat, v12 = .int .i64 i ∧ Aside0 (i ≤ 2 ∧ kq = 2 - i) ∧ Aside0 (1 ≤ i → share1 a4 b4 b5 = false) ∧ Aside0 (2 ≤ i → share1 a5 b4 b5 = false) ∧ Aside0 (w'.heap[gb]? = some (.cells #[.int .i64 b0, .int .i64 b1, .int .i64 b2, .bool b3, .string b4, .string b5, .int .i64 b6, .int .i64 b7, vb] 24 (0, 0))) ∧ Aside0 (Below w.heap.size w w'))
  case atStart => exact ⟨0, rfl, ⟨by omega, rfl⟩, ⟨fun h => by omega⟩, ⟨fun h => by omega⟩, HK, HB⟩
  case round =>
    clear HK HB
    obtain ⟨i, rfl, HI, H4, H5, HK, HB⟩ := hrel
    have hc4 := (blk_cell HK.out 4).trans (show _ = some (Value.string b4) from rfl)
    have hc5 := (blk_cell HK.out 5).trans (show _ = some (Value.string b5) from rfl)
    have h3 : i = 0 ∨ i = 1 ∨ i = 2 := by have := HI.out; omega
    rcases h3 with rfl | rfl | rfl
    · cases hs : share1 a4 b4 b5
      · have HS := Lib.hid hs
        unfold share1 at hs
        cases n4 : a4.toList.isEmpty <;> cases e4 : a4.toList == b4.toList <;> cases e5 : a4.toList == b5.toList <;> rw [n4, e4, e5] at hs <;> first | (cases hs; done) | skip
        all_goals
          clear hs
          go_wp2
          go_roundg 1
          case measure => have := HI.out; omega
          case rel => exact ⟨1, rfl, ⟨by omega, rfl⟩, ⟨fun _ => HS.out⟩, ⟨fun h => by omega⟩, HK, HB⟩
      · have HS : Aside0 (sharesB a4 a5 b4 b5 = true) := ⟨by unfold sharesB; rw [hs]; rfl⟩
        unfold share1 at hs
        cases n4 : a4.toList.isEmpty <;> cases e4 : a4.toList == b4.toList <;> cases e5 : a4.toList == b5.toList <;> rw [n4, e4, e5] at hs <;> first | (cases hs; done) | skip
        all_goals
          clear hs
          go_wp2
          go_ret
          exact ⟨by rw [HS.out]; rfl, HB.out⟩
    · cases hs : share1 a5 b4 b5
      · have HS := Lib.hid hs
        unfold share1 at hs
        cases n4 : a5.toList.isEmpty <;> cases e4 : a5.toList == b4.toList <;> cases e5 : a5.toList == b5.toList <;> rw [n4, e4, e5] at hs <;> first | (cases hs; done) | skip
        all_goals
          clear hs
          go_wp2
          go_roundg 0
          case measure => have := HI.out; omega
          case rel => exact ⟨2, rfl, ⟨by omega, rfl⟩, ⟨fun _ => H4.out (by omega)⟩, ⟨fun _ => HS.out⟩, HK, HB⟩
      · have HS : Aside0 (sharesB a4 a5 b4 b5 = true) := ⟨by unfold sharesB; rw [hs, Bool.or_true]⟩
        unfold share1 at hs
        cases n4 : a5.toList.isEmpty <;> cases e4 : a5.toList == b4.toList <;> cases e5 : a5.toList == b5.toList <;> rw [n4, e4, e5] at hs <;> first | (cases hs; done) | skip
        all_goals
          clear hs
          go_wp2
          go_ret
          exact ⟨by rw [HS.out]; rfl, HB.out⟩
    · have HS : Aside0 (sharesB a4 a5 b4 b5 = false) := ⟨by unfold sharesB; rw [H4.out (by omega), H5.out (by omega)]; rfl⟩
      go_wp2
      go_ret
      exact ⟨by rw [HS.out]; rfl, HB.out⟩
end Go.Proofs.YthbnghdobmghlaaDoor.ST
