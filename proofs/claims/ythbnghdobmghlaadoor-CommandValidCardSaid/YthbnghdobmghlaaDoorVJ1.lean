import Derived.Test.YthbnghdobmghlaaDoorVJ1a
import Derived.Test.YthbnghdobmghlaaDoorVJ1b
import Derived.Test.YthbnghdobmghlaaDoorVJ1c
import Derived.Test.YthbnghdobmghlaaDoorVJ1d
namespace Go.Proofs.YthbnghdobmghlaaDoor.ST
open Go.RowKit Go.Proofs.YthbnghdobmghlaaDoorW.PrintWords Go.Proofs.YthbnghdobmghlaaDoorW.PrintLast Go.Proofs.YthbnghdobmghlaaDoorW.PrintMore Go.Proofs.YthbnghdobmghlaaDoor.PC
set_option linter.unusedVariables false
set_option linter.unusedSimpArgs false
theorem head_no {c : Cmd} (h : headC c = false) : validC c = false := by unfold validC; rw [h]; rfl
set_option maxHeartbeats 8000000 in
set_option maxRecDepth 100000 in
theorem Valid_any (c : Cmd) (w : World) (A : Option Addr) (cap : Nat) (hA : Kd.C k35 w A c.data.length c.data) (hcap : c.data.length ≤ cap) (hn : c.data.length ≤ 140737488355328) :
    Calls Tryd.prog 18 #[cmdV c (.slice A c.data.length cap)] w fun e w' => e = .returned (.bool (validC c)) ∧ Below w.heap.size w w' := by
  obtain ⟨tag, kind, order, force, vol, other, pos, len, data⟩ := c
  unfold cmdV
  try simp only at hA hcap hn ⊢
  have HA := Aside0.mk hA
  have HCAP := Aside0.mk hcap
  have HN := Aside0.mk hn
  clear hA hcap hn
  by_cases h0 : tag < 0
  · have t0 : decide (tag < 0) = true := decide_eq_true h0
    have hv : validC ⟨tag, kind, order, force, vol, other, pos, len, data⟩ = false := head_no (by unfold headC; rw [decide_eq_false (by show ¬ (0 ≤ tag); omega)]; rfl)
    rw [hv]
    clear hv h0
    have hu24 := Tryd.underlying24
    go_enter Tryd.func18, Tryd.ntmps18
    go_wp2
    go_ret
    exact ⟨rfl, by repeat (first | exact Below.refl _ _ | apply below_alloc)⟩
  have t0 : decide (tag < 0) = false := decide_eq_false h0
  by_cases h1 : 2147483647 < tag
  · have t1 : decide (2147483647 < tag) = true := decide_eq_true h1
    have hv : validC ⟨tag, kind, order, force, vol, other, pos, len, data⟩ = false := head_no (by unfold headC; rw [decide_eq_false (show ¬ (tag ≤ 2147483647) by omega), Bool.false_and, Bool.and_false])
    rw [hv]
    clear hv h0 h1
    have hu24 := Tryd.underlying24
    go_enter Tryd.func18, Tryd.ntmps18
    go_wp2
    go_ret
    exact ⟨rfl, by repeat (first | exact Below.refl _ _ | apply below_alloc)⟩
  have t1 : decide (2147483647 < tag) = false := decide_eq_false h1
  have hd : ∀ o : Bool, (order == 0 || order == 1) = o → headC ⟨tag, kind, order, force, vol, other, pos, len, data⟩ = o := fun o ho => by unfold headC; rw [decide_eq_true (show 0 ≤ tag by omega), decide_eq_true (show tag ≤ 2147483647 by omega), Bool.true_and, Bool.true_and]; exact ho
  have go : ∀ P : World → Bool → Prop, headC ⟨tag, kind, order, force, vol, other, pos, len, data⟩ = true → validC ⟨tag, kind, order, force, vol, other, pos, len, data⟩ = (okC ⟨tag, kind, order, force, vol, other, pos, len, data⟩ && sameC ⟨tag, kind, order, force, vol, other, pos, len, data⟩ (usedC ⟨tag, kind, order, force, vol, other, pos, len, data⟩)) := fun _ h => by unfold validC; rw [h, Bool.true_and]
  have go := go (fun _ _ => True)
  by_cases o0 : order = 0
  · have t2 : (order != 0) = false := by rw [o0]; rfl
    rw [go (hd true (by rw [o0]; rfl))]
    clear hd go o0
    by_cases e1 : kind = 1
    · subst e1; exact valid_1_a tag order force vol other pos len data w A cap HA.out HCAP.out HN.out t0 t1 t2
    by_cases e2 : kind = 2
    · subst e2; exact valid_2_a tag order force vol other pos len data w A cap HA.out HCAP.out HN.out t0 t1 t2
    by_cases e3 : kind = 3
    · subst e3; exact valid_3_a tag order force vol other pos len data w A cap HA.out HCAP.out HN.out t0 t1 t2
    by_cases e4 : kind = 4
    · subst e4; exact valid_4_a tag order force vol other pos len data w A cap HA.out HCAP.out HN.out t0 t1 t2
    by_cases e5 : kind = 5
    · subst e5; exact valid_5_a tag order force vol other pos len data w A cap HA.out HCAP.out HN.out t0 t1 t2
    by_cases e6 : kind = 6
    · subst e6; exact valid_6_a tag order force vol other pos len data w A cap HA.out HCAP.out HN.out t0 t1 t2
    by_cases e7 : kind = 7
    · subst e7; exact valid_7_a tag order force vol other pos len data w A cap HA.out HCAP.out HN.out t0 t1 t2
    exact valid_kind_a tag kind order force vol other pos len data w A cap HA.out HCAP.out HN.out t0 t1 t2 (beq_eq_false_iff_ne.2 e1) (beq_eq_false_iff_ne.2 e2) (beq_eq_false_iff_ne.2 e3) (beq_eq_false_iff_ne.2 e4) (beq_eq_false_iff_ne.2 e5) (beq_eq_false_iff_ne.2 e6) (beq_eq_false_iff_ne.2 e7)

  have t2 : (order != 0) = true := by simp [o0]
  by_cases o1 : order = 1
  · have t3 : (order != 1) = false := by rw [o1]; rfl
    rw [go (hd true (by rw [o1]; rfl))]
    clear hd go o0 o1
    by_cases e1 : kind = 1
    · subst e1; exact valid_1_b tag order force vol other pos len data w A cap HA.out HCAP.out HN.out t0 t1 t2 t3
    by_cases e2 : kind = 2
    · subst e2; exact valid_2_b tag order force vol other pos len data w A cap HA.out HCAP.out HN.out t0 t1 t2 t3
    by_cases e3 : kind = 3
    · subst e3; exact valid_3_b tag order force vol other pos len data w A cap HA.out HCAP.out HN.out t0 t1 t2 t3
    by_cases e4 : kind = 4
    · subst e4; exact valid_4_b tag order force vol other pos len data w A cap HA.out HCAP.out HN.out t0 t1 t2 t3
    by_cases e5 : kind = 5
    · subst e5; exact valid_5_b tag order force vol other pos len data w A cap HA.out HCAP.out HN.out t0 t1 t2 t3
    by_cases e6 : kind = 6
    · subst e6; exact valid_6_b tag order force vol other pos len data w A cap HA.out HCAP.out HN.out t0 t1 t2 t3
    by_cases e7 : kind = 7
    · subst e7; exact valid_7_b tag order force vol other pos len data w A cap HA.out HCAP.out HN.out t0 t1 t2 t3
    exact valid_kind_b tag kind order force vol other pos len data w A cap HA.out HCAP.out HN.out t0 t1 t2 t3 (beq_eq_false_iff_ne.2 e1) (beq_eq_false_iff_ne.2 e2) (beq_eq_false_iff_ne.2 e3) (beq_eq_false_iff_ne.2 e4) (beq_eq_false_iff_ne.2 e5) (beq_eq_false_iff_ne.2 e6) (beq_eq_false_iff_ne.2 e7)

  have t3 : (order != 1) = true := by simp [o1]
  have hv : validC ⟨tag, kind, order, force, vol, other, pos, len, data⟩ = false := head_no (hd false (by simp [o0, o1]))
  rw [hv]
  clear hv hd go o0 o1 h0 h1
  have hu24 := Tryd.underlying24
  go_enter Tryd.func18, Tryd.ntmps18
  go_wp2
  go_ret
  exact ⟨rfl, by repeat (first | exact Below.refl _ _ | apply below_alloc)⟩
end Go.Proofs.YthbnghdobmghlaaDoor.ST
