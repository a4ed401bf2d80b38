import Derived.Test.YthbnghdobmghlaaDoorVJ8a
import Derived.Test.YthbnghdobmghlaaDoorVJ8b
import Derived.Test.YthbnghdobmghlaaDoorVJ8c
import Derived.Deep.RegionHeld3
namespace Go.Proofs.YthbnghdobmghlaaDoor.ST
open Go.RowKit Go.Proofs.YthbnghdobmghlaaDoorW.PrintWords Go.Proofs.YthbnghdobmghlaaDoorW.PrintLast Go.Proofs.YthbnghdobmghlaaDoorW.PrintMore Go.Proofs.YthbnghdobmghlaaDoor.PC
set_option linter.unusedVariables false
set_option linter.unusedSimpArgs false
set_option maxHeartbeats 8000000 in
set_option maxRecDepth 100000 in
theorem text_no (c : Cmd) (w : World) (A : Option Addr) (cap : Nat) (hA : Kd.C k35 w A c.data.length c.data) (hcap : c.data.length ≤ cap) (hn : c.data.length ≤ 140737488355328) (hv : validC c = false) :
    Calls Tryd.prog 15 #[cmdV c (.slice A c.data.length cap)] w fun e w' => e = .returned (.string ⟨#[]⟩) ∧ Below w.heap.size w w' := by
  obtain ⟨tag, kind, order, force, vol, other, pos, len, data⟩ := c
  unfold cmdV
  try simp only at hA hcap hn ⊢
  have hu24 := Tryd.underlying24
  have HA := Aside0.mk hA
  have HCAP := Aside0.mk hcap
  have HN := Aside0.mk hn
  have HV := Lib.hid hv
  clear hA hcap hn hv
  go_enter Tryd.func15, Tryd.ntmps15
  go_wp2_with fail
  have HB := Aside0.mk (below_allocs w (.cells #[.int .i64 tag, .int .i64 kind, .int .i64 order, .bool force, .string vol, .string other, .int .i64 pos, .int .i64 len, .slice A data.length cap] 24))
  generalize w.alloc (.cells #[.int .i64 tag, .int .i64 kind, .int .i64 order, .bool force, .string vol, .string other, .int .i64 pos, .int .i64 len, .slice A data.length cap] 24) = w1 at HB ⊢
  have c := Valid_any ⟨tag, kind, order, force, vol, other, pos, len, data⟩ w1 A cap (Kd.C_below HA.out HB.out) HCAP.out HN.out
  rw [HV.out] at c
  refine c.mono ?_
  clear c
  rintro e w2 ⟨rfl, hb⟩
  replace HB := Aside0.mk (below_step HB.out hb)
  clear hb
  go_wp2
  go_ret
  exact ⟨rfl, HB.out⟩
theorem Text_any (c : Cmd) (w : World) (A : Option Addr) (cap : Nat) (hA : Kd.C k35 w A c.data.length c.data) (hcap : c.data.length ≤ cap) (hn : c.data.length ≤ 140737488355328) (hx : ∀ x ∈ c.data, ok35 x = true) (hL : Ld w) :
    Calls Tryd.prog 15 #[cmdV c (.slice A c.data.length cap)] w fun e w' => e = .returned (.string ⟨(textC c).toArray⟩) ∧ Below w.heap.size w w' := by
  cases hv : validC c
  · have e : textC c = [] := by unfold textC; rw [hv]; rfl
    rw [e]
    exact text_no c w A cap hA hcap hn hv
  · have e : textC c = Lib.join ((wordsC c).map (·.data.toList)) [32] := by unfold textC; rw [hv, if_pos rfl]
    rw [e]
    have hk := (valid_bd hv).1
    obtain ⟨tag, kind, order, force, vol, other, pos, len, data⟩ := c
    simp only at hk hA hcap hn hx
    have h7 : kind = 1 ∨ kind = 2 ∨ kind = 3 ∨ kind = 4 ∨ kind = 5 ∨ kind = 6 ∨ kind = 7 := by omega
    rcases h7 with rfl | rfl | rfl | rfl | rfl | rfl | rfl
    · exact text_1 tag order force vol other pos len data w A cap hA hcap hL hx hv
    · exact text_2 tag order force vol other pos len data w A cap hA hcap hL hx hv
    · exact text_3 tag order force vol other pos len data w A cap hA hcap hL hx hv
    · exact text_4 tag order force vol other pos len data w A cap hA hcap hL hx hv
    · exact text_5 tag order force vol other pos len data w A cap hA hcap hL hx hv
    · exact text_6 tag order force vol other pos len data w A cap hA hcap hL hx hv
    · exact text_7 tag order force vol other pos len data w A cap hA hcap hL hx hv
end Go.Proofs.YthbnghdobmghlaaDoor.ST
