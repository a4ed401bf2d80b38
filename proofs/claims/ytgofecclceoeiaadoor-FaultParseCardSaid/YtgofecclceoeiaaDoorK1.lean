/- From a row's conditions to the walks: the listed variables, a slice of faults that came in, an input that fits. -/
import Derived.Test.YtgofecclceoeiaaDoorRows
import Derived.Test.YtgofecclceoeiaaDoorG1
import Derived.WalkKit
import Derived.ProofKit
import Derived.OpenShut
import Derived.ShutString
import Derived.SizedLaws
import Derived.Deep.Slices
import Derived.Deep.DeepHandedRow
import Derived.Lib.LaidTab
import Derived.Stop.LaidErr
import Derived.Lay
import Derived.MakeChecks
namespace Go.Proofs.YtgofecclceoeiaaDoor.ST
open Go.RowKit Go.Proofs.YtgofecclceoeiaaDoorW.PrintWords Go.Proofs.YtgofecclceoeiaaDoorW.PrintLast Go.Proofs.YtgofecclceoeiaaDoorW.PrintMore Go.Proofs.YtgofecclceoeiaaDoor.PF
open Go.ChangeShapes Go.WideShapes Go.ChangeAt Go.Deep
set_option linter.unusedVariables false
set_option linter.unusedSimpArgs false
theorem g1 : Tryd.prog.globalNamed "strconv.ErrSyntax" = some 1 := by kernel_rfl
theorem g2 : Tryd.prog.globalNamed "strconv.ErrRange" = some 2 := by kernel_rfl
theorem g3 : Tryd.prog.globalNamed "internal/strconv.uint64pow10" = some 3 := by kernel_rfl
theorem t1 : (Tryd.prog.globals[1]?).map (·.type) = some 49 := by kernel_rfl
theorem t2 : (Tryd.prog.globals[2]?).map (·.type) = some 49 := by kernel_rfl
theorem t3 : (Tryd.prog.globals[3]?).map (·.type) = some 97 := by kernel_rfl
theorem c97 : Tryd.prog.cellsOf 97 = 20 := by kernel_rfl
theorem c78 : Tryd.prog.cellsOf 78 = 1 := by kernel_rfl
theorem c106 : Tryd.prog.cellsOf 106 = 1 := by kernel_rfl
theorem c9 : Tryd.prog.cellsOf 9 = 1 := by kernel_rfl
theorem c32 : Tryd.prog.cellsOf 32 = 3 := by kernel_rfl
theorem c3 : Tryd.prog.cellsOf 3 = 1 := by kernel_rfl
theorem b32 : Tryd.prog.bytesOf 32 = 24 := by kernel_rfl
theorem star : "*" ++ "errors.errorString" = "*errors.errorString" := by decide
theorem row104 (u : TypeId) (h : Tryd.prog.typeName? 3 u = some "*errors.errorString") : u = 104 :=
  typeName_ptr_named (nm := "errors.errorString") (by rw [star]; kernel_rfl) (by kernel_rfl) (by decide) u (by rw [star]; exact h)
theorem laid_plain : (Rows.faultValidRow.laid.all fun x => x.2.handleName?.isNone) = true := by kernel_rfl
/-- What the row's conditions give. -/
theorem Ld_of {W : World} (h : laidMetH Tryd.prog Rows.faultValidRow.laid W) (hs : W.ShapedOpen Tryd.prog) : Ld W := by
  rw [MakeChecks.laidMetH_plain _ _ _ laid_plain] at h
  have h2 := h.tail.tail
  have h4 := h2.tail.tail
  obtain ⟨a0, s0, hv0, -, -, -⟩ := laid_sentinel h4 g2 t2 Tryd.underlying49 row104 Tryd.underlying104 Tryd.underlying106 rfl rfl Tryd.underlying9 c106 c9
  obtain ⟨a1, s1, hv1, -, -, -⟩ := laid_sentinel h4.tail g1 t1 Tryd.underlying49 row104 Tryd.underlying104 Tryd.underlying106 rfl rfl Tryd.underlying9 c106 c9
  exact ⟨Lib.tabIs_of_head g3 t3 Tryd.underlying97 Tryd.underlying78 c78 c97 h2, Tryd.laysM145.s1_3 W hs,
    ⟨_, by have h0 := World.var?_cell g1 hv1 0; simpa using h0, Or.inr ⟨_, _, rfl⟩⟩, ⟨_, by have h0 := World.var?_cell g2 hv0 0; simpa using h0, Or.inr ⟨_, _, rfl⟩⟩⟩
set_option maxRecDepth 100000 in
/-- A slice of faults that came in. -/
theorem open_faults {H : Type} {enc : TypeId × Value → H} {W : World} {base : Nat} {spare : Nat → Bool} {held : Bool} {a : Option Addr} {len cap : Nat} {d : DataW H} {ps : List MemPlace} {ts : List TypeId} {ds : List (DataW H)} {j : Nat}
    (hsz : (DataW.weightsEach Tryd.prog ts ds).all (· ≤ reachBytes) = true) (ht : ts[j]? = some 22) (hd : ds[j]? = some d)
    (h : DataW.Trod enc Tryd.prog W base spare held 22 (.slice a len cap) d ps) : ∃ l : List S32, len = l.length ∧ len ≤ cap ∧ len ≤ 5864062014634 ∧ Kd.C k32 W a l.length l ∧ (∀ x ∈ l, x.f0 ≤ 9223372036854775807 ∧ x.f2 ≤ 9223372036854775807) ∧ (d = .nil ∧ len = 0 ∨ ∃ el sp, d = .slice el sp ∧ el.length = len) := by
  obtain ⟨fuel, hf⟩ := h
  rcases open_slice Tryd.underlying22 hf with ⟨hcs, hx⟩ | ⟨x, ln, cp, m, n, D, Pl, hcs, _, hl, hm, hmm, hx, hel⟩
  · simp [Value.cells] at hcs
    obtain ⟨rfl, rfl, rfl⟩ := hcs
    obtain ⟨rfl, _⟩ := Prod.mk.inj hx
    exact ⟨[], rfl, Nat.le_refl _, by omega, ⟨rfl, by decide, fun h => absurd h (by decide)⟩, (fun x hx => by cases hx), .inl ⟨rfl, rfl⟩⟩
  · simp [Value.cells] at hcs
    obtain ⟨rfl, rfl, rfl⟩ := hcs
    obtain ⟨rfl, _⟩ := Prod.mk.inj hx
    have hlm : len ≤ m := by rw [hmm]; split <;> omega
    have each : ∀ i, i < len → ∃ y : S32, W.cell? (x.add (i * 3)) = some (.int .i64 y.f0) ∧ W.cell? (x.add (i * 3 + 1)) = some (.int .i64 y.f1) ∧ W.cell? (x.add (i * 3 + 2)) = some (.int .i64 y.f2) ∧ y.f0 ≤ 9223372036854775807 ∧ y.f2 ≤ 9223372036854775807 := by
      intro i hi
      obtain ⟨cs', h1, h2⟩ := hel i (by omega)
      rw [c32] at h1
      obtain ⟨_, hlen, hcell⟩ := World.cells?_some h1
      obtain ⟨xs, k, hk, hxy, _, hxl, hf⟩ := DataW.trod_struct Tryd.underlying32 h2
      match xs, hxl, cs', hlen with
      | [y0, y1, y2], _, [v0, v1, v2], _ =>
        have q0 := hf 0 _ rfl
        have q1 := hf 1 _ rfl
        have q2 := hf 2 _ rfl
        simp [c3] at q0 q1 q2
        obtain ⟨n0, e0, _, w0⟩ := DataW.trod_int Tryd.underlying3 q0
        obtain ⟨n1, e1, _, w1⟩ := DataW.trod_int Tryd.underlying3 q1
        obtain ⟨n2, e2, _, w2⟩ := DataW.trod_int Tryd.underlying3 q2
        simp only [List.cons.injEq, and_true] at e0 e1 e2
        subst e0 e1 e2
        have z0 := hcell 0 (by omega)
        have z1 := hcell 1 (by omega)
        have z2 := hcell 2 (by omega)
        rw [Deep.add_add] at z0 z1 z2
        have r0 : n0 ≤ 9223372036854775807 := by
          have : -9223372036854775808 ≤ n0 ∧ n0 ≤ 9223372036854775807 := by simpa [Lit.wf, IntKind.min, IntKind.max, IntKind.signed, IntKind.bits] using w0
          exact this.2
        have r2 : n2 ≤ 9223372036854775807 := by
          have : -9223372036854775808 ≤ n2 ∧ n2 ≤ 9223372036854775807 := by simpa [Lit.wf, IntKind.min, IntKind.max, IntKind.signed, IntKind.bits] using w2
          exact this.2
        exact ⟨⟨n0, n1, n2⟩, by simpa using z0, by simpa using z1, by simpa using z2, r0, r2⟩
    haveI : Inhabited S32 := ⟨z32⟩
    obtain ⟨y, hy⟩ := choose_lt each
    have hlen : len ≤ 5864062014634 := by
      have z := sized_slice hsz ht hd Tryd.underlying22
      rw [b32] at z
      simp only [List.length_map, List.length_range, reachBytes] at z
      omega
    refine ⟨(List.range len).map y, by simp, hl, hlen, ⟨rfl, by simp; omega, fun _ => ⟨x, rfl, ?_⟩⟩, ?_, .inr ⟨_, _, rfl, by simp⟩⟩
    · intro j p hp
      have hj : j < len := by
        have := (List.getElem?_eq_some_iff.1 hp).1
        simpa using this
      have ep : p = y j := by
        rw [List.getElem?_map, List.getElem?_range hj] at hp
        exact (Option.some.inj hp).symm
      subst ep
      obtain ⟨z0, z1, z2, _, _⟩ := hy j hj
      refine ⟨_, rfl, k32_mk W (y j), ?_⟩
      intro i u hu
      have hi : i < 3 := by have := (List.getElem?_eq_some_iff.1 hu).1; simpa using this
      have e3 : k32.sz = 3 := rfl
      rw [e3]
      rcases (by omega : i = 0 ∨ i = 1 ∨ i = 2) with rfl | rfl | rfl
      · obtain rfl := Option.some.inj hu; simpa using z0
      · obtain rfl := Option.some.inj hu; exact z1
      · obtain rfl := Option.some.inj hu; exact z2
    · intro p hp
      obtain ⟨j, hj, rfl⟩ := List.mem_map.1 hp
      have := hy j (List.mem_range.1 hj)
      exact ⟨this.2.2.2.1, this.2.2.2.2⟩
/-- An input that fits. -/
theorem witness_row_shaped {H : Type} {enc : TypeId × Value → H} {C : Checked} {os : Os} {f : FuncId} {fn : Func} {s : OpenSpec} {conds : List PathCond} {apart : Bool} {laid : List (String × DataW Unit)} (modest : Bool) (w0 : World) (args : Array Value) (hos : w0.os = os)
    (hsh : (w0.forCall (fun _ _ => 0) ⟨#[], args, []⟩).Shaped C.prog)
    (hok : Input.okWideB C.prog (w0.forCall (fun _ _ => 0) ⟨#[], args, []⟩) f ⟨#[], args, []⟩ = true)
    (hrow : s.preRow enc C.prog fn conds apart laid (w0.forCall (fun _ _ => 0) ⟨#[], args, []⟩).memory args) :
    ∃ (w : World) (tape : Tape) (i : Input), w.os = os ∧ (w.forCall tape i).Shaped C.prog ∧ i.vars = [] ∧ Input.okWide C.prog (w.forCall tape i) .any w.heap.size f i ∧
      s.preRow enc C.prog fn conds apart laid (w.forCall tape i).memory i.args ∧ ({ modest := modest } : Assume).holds C.prog (lone (Frame.enter C.prog f i.args .normal) [] (w.forCall tape i)) :=
  ⟨w0, fun _ _ => 0, ⟨#[], args, []⟩, hos, hsh, (Input.okWide_of_okWideB (base := 0) hok).1, (Input.okWide_of_okWideB hok).2, hrow, by
    simp only [Assume.holds]
    exact ⟨by simp, by simp, fun _ => Modest.zero, by simp, by simp⟩⟩
noncomputable def laidW (os : Os) : World := World.laidAll Tryd.prog os Rows.faultValidRow.laid
theorem laidW_met (os : Os) (args : Array Value) : laidMetH Tryd.prog Rows.faultValidRow.laid ((laidW os).forCall (fun _ _ => 0) ⟨#[], args, []⟩).memory := by
  rw [MakeChecks.laidMetH_plain _ _ _ laid_plain]
  exact laidMet_laidAll _ (by kernel_rfl) (by kernel_rfl)
theorem laidW_shaped (os : Os) (args : Array Value) : ((laidW os).forCall (fun _ _ => 0) ⟨#[], args, []⟩).Shaped Tryd.prog := World.shaped_of_ZipB (by kernel_rfl) (by kernel_rfl)
end Go.Proofs.YtgofecclceoeiaaDoor.ST
