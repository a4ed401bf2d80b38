/- The law FaultText. -/
import Derived.Test.YtgofecclceoeiaaDoorI1
import Derived.Test.YtgofecclceoeiaaDoorG6
namespace Go.Proofs.YtgofecclceoeiaaDoor.ST
open Go.RowKit Go.Proofs.YtgofecclceoeiaaDoorW.PrintWords Go.Proofs.YtgofecclceoeiaaDoorW.PrintLast Go.Proofs.YtgofecclceoeiaaDoorW.PrintMore Go.Proofs.YtgofecclceoeiaaDoor.PF
set_option linter.unusedVariables false
set_option linter.unusedSimpArgs false
theorem parse_any (w : World) (s : ByteArray) (hL : Ld w) (hs : s.size < 4294967281) :
    Calls Tryd.prog 14 #[.string s] w fun e w' => ∃ v, e = .returned (.tuple #[v, .int .i64 (errOf (parseB s))]) ∧ Kd.R k32 32 w' w.heap.size (fun _ => True) v ((parseB s).getD []) ∧ Below w.heap.size w w' :=
  Parse_any w s hL hs (parts_len s) (by have := parts_bound s; omega) (fun p hp => by have := parts_size s p hp; omega)
set_option maxRecDepth 100000 in
theorem Text_bad (w : World) (A0 : Option Addr) (c0 : Nat) (l : List S32) (hr0 : Kd.C k32 w A0 l.length l) (hc0 : l.length ≤ c0) (hn : l.length ≤ 5864062014634) (hv : okAll (-1) l = false) :
    Calls Tryd.prog 12 #[.slice A0 l.length c0] w fun e w' => e = .returned (.string ⟨#[]⟩) ∧ Below w.heap.size w w' := by
  have HV := Aside0.mk (show fault_Valid.f (l.length + 1) l = some false by rw [valid_f l (by omega), hv])
  have HR0 := Aside0.mk hr0
  have HC0 := Aside0.mk hc0
  clear hr0 hc0 hn hv
  go_enter Tryd.func12, Tryd.ntmps12
  go_wp2_with fail
  refine (fault_Valid.calls (l.length + 1) A0 c0 l false w HR0.out HC0.out HV.out).mono ?_
  rintro e w1 ⟨rfl, hb⟩
  have HB := Aside0.mk hb
  clear hb
  go_wp2
  go_ret
  exact ⟨rfl, HB.out⟩
def textOf (l : List S32) : ByteArray := if okAll (-1) l = true then str (textL l) else str []
theorem text_any (w : World) (A0 : Option Addr) (c0 : Nat) (l : List S32) (hr0 : Kd.C k32 w A0 l.length l) (hc0 : l.length ≤ c0) (hL : Ld w) (hw : ∀ x ∈ l, x.f0 ≤ 9223372036854775807 ∧ x.f2 ≤ 9223372036854775807) (hn : l.length ≤ 1048576) :
    Calls Tryd.prog 12 #[.slice A0 l.length c0] w fun e w' => e = .returned (.string (textOf l)) ∧ Below w.heap.size w w' := by
  cases hv : okAll (-1) l
  · have e : textOf l = ⟨#[]⟩ := by unfold textOf; rw [hv, if_neg (by decide)]; rfl
    rw [e]
    exact Text_bad w A0 c0 l hr0 hc0 (by omega) hv
  · have e : textOf l = ⟨(textL l).toArray⟩ := by unfold textOf; rw [hv, if_pos rfl]; rfl
    rw [e]
    refine Text_any w A0 c0 l hr0 hc0 hL hw (by omega) hv ?_
    have := join_len (l.map oneL) (fun y hy => by
      obtain ⟨x, hx', rfl⟩ := List.mem_map.1 hy
      exact oneL_len (fine_of hv hw x hx'))
    rw [List.length_map] at this
    rw [textL_eq]
    omega
theorem textOf_size (l : List S32) (hw : ∀ x ∈ l, x.f0 ≤ 9223372036854775807 ∧ x.f2 ≤ 9223372036854775807) (hn : l.length ≤ 1048576) : (textOf l).size < 4294967281 := by
  unfold textOf
  split
  · rename_i hv
    rw [str_size, textL_eq]
    have := join_len (l.map oneL) (fun y hy => by
      obtain ⟨x, hx', rfl⟩ := List.mem_map.1 hy
      exact oneL_len (fine_of hv hw x hx'))
    rw [List.length_map] at this
    omega
  · rw [str_size]; decide
theorem parse_textOf (l : List S32) (hw : ∀ x ∈ l, x.f0 ≤ 9223372036854775807 ∧ x.f2 ≤ 9223372036854775807) : parseB (textOf l) = some (if okAll (-1) l = true then l else []) := by
  unfold textOf
  split
  · rename_i hv
    exact parse_text hv hw
  · unfold parseB
    rw [if_pos (by rw [ByteArray.toList_eq]; rfl)]
set_option maxHeartbeats 1000000 in
set_option maxRecDepth 100000 in
theorem FaultText_law (w : World) (A0 : Option Addr) (c0 : Nat) (l : List S32) (hr0 : Kd.C k32 w A0 l.length l) (hc0 : l.length ≤ c0) (hL : Ld w) (hn0 : l.length ≤ 5864062014634) (hw : ∀ x ∈ l, x.f0 ≤ 9223372036854775807 ∧ x.f2 ≤ 9223372036854775807) (hn : l.length ≤ 1048576) :
    Calls Tryd.prog 4 #[.slice A0 l.length c0] w fun e w' => e = .returned (.bool true) ∧ Below w.heap.size w w' := by
  have HN := Aside0.mk hn
  have HW := Aside0.mk hw
  have HR := Aside0.mk hr0
  have HC := Aside0.mk hc0
  clear hn hn0 hw hr0 hc0
  have HT := Aside0.mk (textOf_size l HW.out HN.out)
  have HP := Lib.hid (parse_textOf l HW.out)
  have HRT := Lib.hid (show tegularef13_Text.f (l.length + 20) l = some (textOf l) from rtext_f l (by have := HN.out; omega) HW.out _ (Nat.le_refl _))
  generalize htx : textOf l = T at HT HP HRT
  go_enter Tryd.func4, Tryd.ntmps4
  go_wp2_with fail
  refine (text_any w A0 c0 l HR.out HC.out hL HW.out HN.out).mono ?_
  rw [htx]
  clear htx
  rintro e w1 ⟨rfl, hb⟩
  have HB := Aside0.mk hb
  clear hb
  go_wp2_with fail
  refine (awake_any w1 (hL.below HB.out)).mono ?_
  rintro e w2 ⟨rfl, hb⟩
  replace HB := Aside0.mk (below_step HB.out hb)
  clear hb
  go_wp2_with fail
  refine (tegularef13_Text.calls (l.length + 20) A0 c0 l T w2 (Kd.C_below HR.out HB.out) HC.out HRT.out).mono ?_
  rintro e w3 ⟨rfl, hb⟩
  replace HB := Aside0.mk (below_step HB.out hb)
  clear hb
  have c1 := parse_any
  clear c1
  go_wp2_with fail
  have c1 := parse_any w3 T (hL.below HB.out) HT.out
  rw [HP.out] at c1
  refine c1.mono ?_
  clear c1
  rintro e w4 ⟨v, rfl, hR, hb⟩
  obtain ⟨Av, cv, rfl, hle, hC⟩ := Kd.R_reads hR
  have HCC := Aside0.mk hC
  have HLE := Aside0.mk hle
  replace HB := Aside0.mk (below_step HB.out hb)
  clear hb hR hC hle
  obtain ⟨b, hv⟩ : ∃ b, okAll (-1) l = b := ⟨_, rfl⟩
  have HRV := Aside0.mk (show tegularef13_Valid.f (l.length + 1) l = some b by rw [rvalid_f l (by have := HN.out; omega), hv])
  have HV := Lib.hid hv
  clear hv
  cases b
  · have e0 : (if okAll (-1) l = true then l else []) = [] := by rw [HV.out, if_neg (by decide)]
    simp only [Option.getD_some, e0] at HCC HLE ⊢
    clear e0
    go_wp2_with fail
    refine (tegularef13_Valid.calls (l.length + 1) A0 c0 l false w4 (Kd.C_below HR.out HB.out) HC.out HRV.out).mono ?_
    rintro e w5 ⟨rfl, hb⟩
    replace HB := Aside0.mk (below_step HB.out hb)
    clear hb
    go_wp2
    go_ret
    exact ⟨rfl, HB.out⟩
  · have e0 : (if okAll (-1) l = true then l else []) = l := by rw [HV.out, if_pos rfl]
    simp only [Option.getD_some, e0] at HCC HLE ⊢
    clear e0
    go_wp2_with fail
    refine (tegularef13_Valid.calls (l.length + 1) A0 c0 l true w4 (Kd.C_below HR.out HB.out) HC.out HRV.out).mono ?_
    rintro e w5 ⟨rfl, hb⟩
    replace HCC := Aside0.mk (Kd.C_below HCC.out hb)
    replace HB := Aside0.mk (below_step HB.out hb)
    clear hb
    go_wp2_with fail
    refine (tegularef13_Same.calls (l.length + 1) Av cv l A0 c0 l true w5 HCC.out HLE.out (Kd.C_below HR.out HB.out) HC.out (same_f l (by have := HN.out; omega))).mono ?_
    rintro e w6 ⟨rfl, hd⟩
    replace HB := Aside0.mk (below_step HB.out hd.below)
    clear hd
    go_wp2
    go_ret
    exact ⟨rfl, HB.out⟩
end Go.Proofs.YtgofecclceoeiaaDoor.ST
