/- The law SumtreeCheck returns true for every root, length, place, sum and path, without any condition. -/
import Derived.Test.YtpofcknfnipkgaaRows
import Derived.Test.YtpofcknfnipkgaaE1
import Derived.WalkKit
import Derived.ProofKit
import Derived.OpenShut
import Derived.ShutString
import Derived.ChangeOld
import Derived.Below
import Derived.SizedLaws
import Derived.Test.YtpofcknfnipkgaaWSized
namespace Go.Proofs.Ytpofcknfnipkgaa.sumtreeCheck
open Go.ChangeShapes Go.WideShapes Go.ChangeAt Go.RowKit
open Go.ChangeMaps (open_string shut_string)
set_option linter.unusedVariables false
theorem own : ownKnob Try.prog.godebug = none := by kernel_rfl
theorem laidOut : laidOutB Try.prog = true := by kernel_rfl
def IsRow (k : IntKind) (w : World) (a : Option Addr) (len cap : Nat) (zs : List Int) : Prop :=
  (a = none ∧ len = 0 ∧ cap = 0 ∧ zs = []) ∨
  ∃ x, a = some x ∧ len ≤ cap ∧ cap ≤ maxLen ∧ zs.length = cap ∧ (∀ i, i < zs.length → w.cell? (x.add i) = some (.int k (zs.getD i 0))) ∧ ∀ n ∈ zs, (Lit.int k n).wf = true
open Go.Deep in
/-- The argument, opened: five fields, the last of which reads as a list. -/
theorem opened {H : Type} {enc : TypeId × Value → H} {W : World} {b0 : Nat} {v : Value} {d : DataW H} {p : List MemPlace} (hv : Value.okWide Try.prog W .any b0 36 v) (h : DataW.Trod enc Try.prog W 0 (fun _ => true) true 36 v d p) :
    ∃ (r s n i : Int) (A : Option Addr) (l : List Int) (c : Nat), v = .agg #[.int .u64 r, .int .u64 s, .int .i64 n, .int .i64 i, .slice A l.length c] ∧ ST.Rd W A c l := by
  obtain ⟨cs, rfl, hsz⟩ := okWide_struct Try.underlying36 hv
  have hC : Try.prog.cellsOf 36 = 5 := by kernel_rfl
  obtain ⟨cl⟩ := cs
  match cl, hsz.trans hC with
  | [c0, c1, c2, c3, c4], _ =>
    obtain ⟨fuel, hf⟩ := h
    obtain ⟨xs, n, _, _, _, hlen, hg⟩ := DataW.trod_struct Try.underlying36 hf
    have h34 : Try.prog.cellsOf 34 = 1 := by kernel_rfl
    have h3 : Try.prog.cellsOf 3 = 1 := by kernel_rfl
    have h22 : Try.prog.cellsOf 22 = 1 := by kernel_rfl
    match xs, hlen with
    | [y0, y1, y2, y3, y4], _ =>
      have g0 : DataW.trod enc Try.prog W 0 (fun _ => true) true n 34 [c0] = some y0 := by simpa [Value.cells, h34] using hg 0 _ rfl
      have g1 : DataW.trod enc Try.prog W 0 (fun _ => true) true n 34 [c1] = some y1 := by simpa [Value.cells, h34] using hg 1 _ rfl
      have g2 : DataW.trod enc Try.prog W 0 (fun _ => true) true n 3 [c2] = some y2 := by simpa [Value.cells, h3] using hg 2 _ rfl
      have g3 : DataW.trod enc Try.prog W 0 (fun _ => true) true n 3 [c3] = some y3 := by simpa [Value.cells, h3] using hg 3 _ rfl
      have g4 : DataW.trod enc Try.prog W 0 (fun _ => true) true n 22 [c4] = some y4 := by simpa [Value.cells, h22] using hg 4 _ rfl
      obtain ⟨x0, e0, _, _⟩ := DataW.trod_int Try.underlying34 g0
      obtain ⟨x1, e1, _, _⟩ := DataW.trod_int Try.underlying34 g1
      obtain ⟨x2, e2, _, _⟩ := DataW.trod_int Try.underlying3 g2
      obtain ⟨x3, e3, _, _⟩ := DataW.trod_int Try.underlying3 g3
      simp at e0 e1 e2 e3
      subst e0 e1 e2 e3
      have hrow : ∃ (A : Option Addr) (len cap : Nat) (zs : List Int), c4 = .slice A len cap ∧ ST.IsRow .u64 W A len cap zs := by
        rcases open_ints Try.underlying22 Try.underlying34 (by kernel_rfl) g4 with ⟨hcs, _⟩ | ⟨x, l, c, zs, hcs, _, hl, hm, hz, _, hcell, hwz⟩
        · simp at hcs
          exact ⟨none, 0, 0, [], hcs, .inl ⟨rfl, rfl, rfl, rfl⟩⟩
        · simp at hcs
          exact ⟨some x, l, c, zs, hcs, .inr ⟨x, rfl, hl, hm, by simpa using hz, hcell, hwz⟩⟩
      obtain ⟨A, len, cap, zs, rfl, hz⟩ := hrow
      obtain ⟨l, rfl, hr⟩ := hz.rd
      exact ⟨x0, x1, x2, x3, A, l, cap, rfl, hr⟩
set_option maxRecDepth 100000 in
theorem lifted (os : Os) (started : os.Started) (H : Type) (enc : TypeId × Value → H) :
    ReturnsInHanded {} Try.checked os 4 .any (Rows.sumtreeCheckSpec.pre6 enc Try.prog Try.f4 Rows.sumtreeCheckRow.domain false) (Rows.sumtreeCheckSpec.post enc Try.prog Try.f4 false true false false) := by
  refine returnsInHanded_of_change_sized (C := Try.checked) own started (by kernel_rfl) Try.func4
    (ChangeSpec.witness6 (enc := enc) (C := Try.checked) false ⟨#[], #[.agg #[.int .u64 0, .int .u64 0, .int .i64 0, .int .i64 0, .slice none 0 0]], []⟩ 8 (by kernel_rfl) (by kernel_rfl) (by kernel_rfl) (by kernel_rfl)) ?_
  intro W base args ds gs before hval0 hW hcnd hsz0 _
  have hsz : (DataW.weightsEach Try.prog (Try.f4.params.toList ++ Rows.sumtreeCheckSpec.plain.varTypes Try.prog) (ds ++ gs)).all (· ≤ reachBytes) = true := hsz0
  have hval : ∀ (j : Nat) t v, Try.f4.params[j]? = some t → args[j]? = some v → Value.okWide Try.prog W .any base t v := hval0
  have hW' := hW
  obtain ⟨p, q, hA0, hV, rfl, hfz, hnd⟩ := hW
  have hA : DataW.TrodAll enc Try.prog W 0 (fun _ => true) true Try.f4.params.toList args.toList ds p := hA0
  rw [Try.params4] at hA hval hsz
  obtain ⟨v0, vs0, d0, ds0, p0, q0, hargs, rfl, rfl, h0, r0⟩ := trodAll_cons hA
  obtain ⟨rfl, rfl, rfl⟩ := trodAll_nil r0
  obtain rfl : args = #[v0] := by cases args; simp_all
  obtain ⟨rfl, rfl⟩ := trodVars_none hV
  have k0 := h0
  have lt0 : ∀ x ∈ p0, x.block < W.heap.size := by obtain ⟨m, hm⟩ := k0; exact DataW.trod_lt m _ _ _ hm
  obtain ⟨r, s, n, i, A, l, c, hv, hr⟩ := opened (hval 0 36 v0 rfl rfl) h0
  subst hv
  clear hA0 hval0 hsz0 hsz
  refine (ST.SumtreeCheck_row A c l r s n i W hr).mono fun e W' ⟨he, bel⟩ => ?_
  subst he
  exact ⟨_, rfl, _, _, _, [], _, [], hW', trodAll_mk1 (shut_bool Try.underlying4 _), (trodAll_cons_mk (Below.trod laidOut (by kernel_rfl) (of_decide_eq_true (by kernel_rfl)) k0 bel lt0) trodAll_mk0), rfl, bel.frame _, fun h => by cases h⟩
theorem over : Rows.sumtreeCheckRow.holds Try.pinned (OpenSpec.ofChange Rows.sumtreeCheckSpec) :=
  OpenClaim.holds_of_wide 4 Try.f4 rfl rfl rfl rfl rfl rfl rfl ⟨rfl, rfl, rfl, rfl, rfl⟩ rfl rfl rfl rfl rfl (by kernel_rfl) Try.func4 (by kernel_rfl)
    (of_decide_eq_true (by kernel_rfl)) (by unfold Func.isWrapper; first | (rw [if_pos (by decide +kernel)]; kernel_rfl) | (rw [if_neg (by decide +kernel)]; exact ⟨rfl, rfl⟩))
    (fun os started H enc _ => lifted os started H enc)
theorem proved : Rows.SumtreeCheckSaid := over
#print axioms proved
end Go.Proofs.Ytpofcknfnipkgaa.sumtreeCheck
namespace Go.Proofs.Ytpofcknfnipkgaa
/-- The row, under a short name, for the claim. -/
theorem sumtreeCheck_holds : Rows.SumtreeCheckSaid := sumtreeCheck.proved
end Go.Proofs.Ytpofcknfnipkgaa
