import Derived.Test.YthbnghdobmghlaaDoorVJ2
import Derived.Test.YthbnghdobmghlaaDoorVShelf
import Derived.Lib.AppendIntMem
import Derived.Lib.AtoiAllCases
import Derived.Lib.AtoiErrMem
namespace Go.Proofs.YthbnghdobmghlaaDoor.ST
open Go.RowKit Go.Proofs.YthbnghdobmghlaaDoorW.PrintWords Go.Proofs.YthbnghdobmghlaaDoorW.PrintLast Go.Proofs.YthbnghdobmghlaaDoorW.PrintMore Go.Proofs.YthbnghdobmghlaaDoor.PC
set_option linter.unusedVariables false
set_option linter.unusedSimpArgs false
structure Ld (w : World) : Prop where
  tab : Lib.TabIs Tryd.prog w "internal/strconv.uint64pow10" .u64 Lib.pow10Tab
  mx : ∃ m, w.cell? ⟨0, 0, none⟩ = some (.int .i64 m)
  es : ∃ ev, w.cell? ⟨1, 0, none⟩ = some ev ∧ (ev = .nilIface ∨ ∃ te pe, ev = .iface te pe)
  er : ∃ ev, w.cell? ⟨2, 0, none⟩ = some ev ∧ (ev = .nilIface ∨ ∃ te pe, ev = .iface te pe)
theorem Ld.below {w w' : World} (h : Ld w) (hb : Below w.heap.size w w') : Ld w' := by
  have hc : ∀ (p : Addr) v, w.cell? p = some v → w'.cell? p = some v := fun p v e => by
    rw [hb.cell (World.block_lt_of_cell? w p e)]; exact e
  obtain ⟨m, e0⟩ := h.mx
  obtain ⟨v1, e1, k1⟩ := h.es
  obtain ⟨v2, e2, k2⟩ := h.er
  exact ⟨Lib.tabBelow_of_tabIs h.tab w' hb, ⟨m, hc _ _ e0⟩, ⟨v1, hc _ _ e1, k1⟩, ⟨v2, hc _ _ e2, k2⟩⟩
theorem info9 : (Tryd.prog.info? 9).map (fun i => (i.zero, i.size, i.bytes)) = some (some (.string ByteArray.empty), 1, 16) := by kernel_rfl
theorem Itoa_any (n : Int) (h0 : -9223372036854775808 ≤ n) (h1 : n ≤ 9223372036854775807) (w : World) (hL : Ld w) :
    Calls Tryd.prog 30 #[.int .i64 n] w fun e w' => e = .returned (.string ⟨(Lib.itoa n).toArray⟩) ∧ Below w.heap.size w w' := by
  refine (Tryd.strconv_Itoa n h0 h1 w hL.tab).mono ?_
  rintro e w' ⟨rfl, k, os, rfl⟩
  exact ⟨rfl, Lib.below_grow w.heap.size w (Nat.le_refl _) k os⟩
theorem Join_R (w : World) (base : Nat) (ok : Nat → Prop) (v : Value) (xs : List ByteArray) (sep : ByteArray) (h : Kd.R Kd.string 9 w base ok v xs) (hN : xs.length ≤ 140737488355328) (hlen : (Lib.join (xs.map (·.data.toList)) sep.data.toList).length ≤ 140737488355328) :
    Calls Tryd.prog 32 #[v, .string sep] w fun e w' => e = .returned (.string ⟨(Lib.join (xs.map (·.data.toList)) sep.data.toList).toArray⟩) ∧ Below w.heap.size w w' := by
  rcases Nat.eq_zero_or_pos xs.length with z | z
  · obtain ⟨A, c, rfl⟩ := Kd.R_slice h
    obtain rfl := List.length_eq_zero_iff.1 z
    refine (Tryd.strings_Join_none A c sep w).mono ?_
    rintro e w' ⟨rfl, rfl⟩
    exact ⟨rfl, Below.refl _ _⟩
  · obtain ⟨inner, hown⟩ := Kd.R_own h
    rcases hown.2 with ⟨rfl, h0⟩ | ⟨g, cap, cur, rfl, hg, hh, hle, _⟩
    · omega
    · obtain ⟨ad, he, hc⟩ := (Kd.R_reads' h).2.2.2.2 z
      cases he
      refine Tryd.strings_Join g 0 cap xs sep w ?_ (blk_lt hh) hN hle hlen
      intro j x hx
      obtain ⟨c, hl, hk, hcell⟩ := hc j x hx
      have e : c = [.string x] := hk
      subst e
      have := hcell 0 (.string x) rfl
      rw [show j * Kd.string.sz + 0 = j from by rw [show Kd.string.sz = 1 from rfl]; omega] at this
      rcases j with _ | j <;> simpa [Addr.add] using this
def numOf (w : List UInt8) : Int := match Lib.atoiAll w with | .ok v => v | .range => Lib.atoiSat w | _ => 0
theorem number_any (s : ByteArray) (hs : s.size < 4294967281) (w : World) (hL : Ld w) :
    Calls Tryd.prog 27 #[.string s] w fun e w' => e = .returned (.int .i64 (numOf s.data.toList)) ∧ Below w.heap.size w w' := by
  obtain ⟨ev1, he1, hk1⟩ := hL.es
  obtain ⟨ev2, he2, hk2⟩ := hL.er
  cases h : Lib.atoiAll s.data.toList with
  | ok v =>
    have e1 : numOf s.data.toList = v := by unfold numOf; rw [h]
    rw [e1]
    go_enter Tryd.func27, Tryd.ntmps27
    go_wp2_with fail
    refine (Tryd.strconv_Atoi_ok s (by omega) v h _).mono ?_
    rintro e w1 ⟨rfl, hw⟩
    have hb1 : Below w.heap.size w w1 := by
      rcases hw with rfl | ⟨t, rfl⟩
      · exact Below.refl _ _
      · exact Lib.bytesWorld_below _ _ _
    clear hw
    have HB1 := Aside0.mk hb1
    clear hb1
    go_wp2
    go_ret
    exact ⟨rfl, HB1.out⟩
  | range =>
    have e1 : numOf s.data.toList = Lib.atoiSat s.data.toList := by unfold numOf; rw [h]
    rw [e1]
    go_enter Tryd.func27, Tryd.ntmps27
    go_wp2_with fail
    refine (Tryd.strconv_Atoi_range s (by omega) h ev2 _ he2 hk2).mono ?_
    rintro e w1 ⟨N, rfl, hN, hc, hb1⟩
    have HB1 := Aside0.mk hb1
    clear hb1 hN hc
    go_wp2
    go_ret
    exact ⟨rfl, HB1.out⟩
  | _ =>
    have e1 : numOf s.data.toList = 0 := by unfold numOf; rw [h]
    rw [e1]
    go_enter Tryd.func27, Tryd.ntmps27
    go_wp2_with fail
    refine (Tryd.strconv_Atoi_syntax s (by omega) h ev1 _ he1 hk1).mono ?_
    rintro e w1 ⟨N, rfl, hN, hc, hb1⟩
    have HB1 := Aside0.mk hb1
    clear hb1 hN hc
    go_wp2
    go_ret
    exact ⟨rfl, HB1.out⟩
def kindsL : List ByteArray := [⟨#[]⟩, ⟨#[114, 101, 97, 100]⟩, ⟨#[119, 114, 105, 116, 101]⟩, ⟨#[116, 114, 105, 109]⟩, ⟨#[102, 108, 117, 115, 104]⟩, ⟨#[99, 114, 101, 97, 116, 101]⟩, ⟨#[99, 108, 111, 110, 101]⟩, ⟨#[100, 101, 108, 101, 116, 101]⟩]
def kindsV : Value := .agg (kindsL.map Value.string).toArray
set_option maxRecDepth 100000 in
theorem kinds_any (w : World) : Calls Tryd.prog 25 #[] w fun e w' => e = .returned kindsV ∧ Below w.heap.size w w' := by
  have hu41 := Tryd.underlying41
  go_enter Tryd.func25, Tryd.ntmps25
  go_wp2
  refine bodyPost_ret (v := kindsV) (by simp [results, Tryd.results25, go_sem, hu41]; rfl) rfl ⟨rfl, ?_⟩
  repeat (first | exact Below.refl _ _ | apply below_alloc)
def kindB (k : Nat) : ByteArray := kindsL.getD k ⟨#[]⟩
set_option maxRecDepth 100000 in
theorem kinds_index (i : Nat) (hi : i < 8) (w : World) : (Instr.index 41 kindsV (.int .i64 i)).run Tryd.prog w = .ok (.string (kindB i)) w := by
  have h8 : i = 0 ∨ i = 1 ∨ i = 2 ∨ i = 3 ∨ i = 4 ∨ i = 5 ∨ i = 6 ∨ i = 7 := by omega
  rcases h8 with rfl | rfl | rfl | rfl | rfl | rfl | rfl | rfl <;> rfl
end Go.Proofs.YthbnghdobmghlaaDoor.ST
