import Derived.Test.YthbnghdobmghlaaDoorRows
import Derived.Test.YthbnghdobmghlaaDoorVJ7
import Derived.WalkKit
import Derived.ProofKit
import Derived.OpenShut
import Derived.ShutString
import Derived.SizedLaws
import Derived.Deep.Slices
import Derived.Deep.DeepHandedRow
import Derived.Lib.LaidTab
import Derived.Stop.LaidErr
import Derived.Lay
import Derived.MakeChecks
namespace Go.Proofs.YthbnghdobmghlaaDoor.ST
open Go.RowKit Go.Proofs.YthbnghdobmghlaaDoorW.PrintWords Go.Proofs.YthbnghdobmghlaaDoorW.PrintLast Go.Proofs.YthbnghdobmghlaaDoorW.PrintMore Go.Proofs.YthbnghdobmghlaaDoor.PC
open Go.ChangeShapes Go.WideShapes Go.ChangeAt Go.Deep
set_option linter.unusedVariables false
set_option linter.unusedSimpArgs false
theorem g1 : Tryd.prog.globalNamed "strconv.ErrSyntax" = some 1 := by kernel_rfl
theorem g2 : Tryd.prog.globalNamed "strconv.ErrRange" = some 2 := by kernel_rfl
theorem g3 : Tryd.prog.globalNamed "internal/strconv.uint64pow10" = some 3 := by kernel_rfl
theorem t1 : (Tryd.prog.globals[1]?).map (·.type) = some 54 := by kernel_rfl
theorem t2 : (Tryd.prog.globals[2]?).map (·.type) = some 54 := by kernel_rfl
theorem t3 : (Tryd.prog.globals[3]?).map (·.type) = some 113 := by kernel_rfl
theorem c97 : Tryd.prog.cellsOf 113 = 20 := by kernel_rfl
theorem c78 : Tryd.prog.cellsOf 57 = 1 := by kernel_rfl
theorem c106 : Tryd.prog.cellsOf 120 = 1 := by kernel_rfl
theorem c9 : Tryd.prog.cellsOf 9 = 1 := by kernel_rfl
theorem c24 : Tryd.prog.cellsOf 24 = 9 := by kernel_rfl
theorem c4 : Tryd.prog.cellsOf 4 = 1 := by kernel_rfl
theorem c5 : Tryd.prog.cellsOf 5 = 1 := by kernel_rfl
theorem c22 : Tryd.prog.cellsOf 22 = 1 := by kernel_rfl
theorem c35 : Tryd.prog.cellsOf 35 = 8 := by kernel_rfl
theorem c3 : Tryd.prog.cellsOf 3 = 1 := by kernel_rfl
theorem star : "*" ++ "errors.errorString" = "*errors.errorString" := by decide
theorem row104 (u : TypeId) (h : Tryd.prog.typeName? 3 u = some "*errors.errorString") : u = 118 :=
  typeName_ptr_named (nm := "errors.errorString") (by rw [star]; kernel_rfl) (by kernel_rfl) (by decide) u (by rw [star]; exact h)
theorem laid_plain : (Rows.commandSelfRow.laid.all fun x => x.2.handleName?.isNone) = true := by kernel_rfl
theorem Ld_of {W : World} (h : laidMetH Tryd.prog Rows.commandSelfRow.laid W) (hs : W.ShapedOpen Tryd.prog) : Ld W := by
  rw [MakeChecks.laidMetH_plain _ _ _ laid_plain] at h
  have h2 := h.tail.tail
  have h4 := h2.tail.tail
  obtain ⟨a0, s0, hv0, -, -, -⟩ := laid_sentinel h4 g2 t2 Tryd.underlying54 row104 Tryd.underlying118 Tryd.underlying120 rfl rfl Tryd.underlying9 c106 c9
  obtain ⟨a1, s1, hv1, -, -, -⟩ := laid_sentinel h4.tail g1 t1 Tryd.underlying54 row104 Tryd.underlying118 Tryd.underlying120 rfl rfl Tryd.underlying9 c106 c9
  exact ⟨Lib.tabIs_of_head g3 t3 Tryd.underlying113 Tryd.underlying57 c78 c97 h2, Tryd.laysM145.s1_3 W hs,
    ⟨_, by have h0 := World.var?_cell g1 hv1 0; simpa using h0, Or.inr ⟨_, _, rfl⟩⟩, ⟨_, by have h0 := World.var?_cell g2 hv0 0; simpa using h0, Or.inr ⟨_, _, rfl⟩⟩⟩
theorem eight {α : Type} {l : List α} (h : l.length = 8) : ∃ a0 a1 a2 a3 a4 a5 a6 a7, l = [a0, a1, a2, a3, a4, a5, a6, a7] := by
  rcases l with _ | ⟨a0, _ | ⟨a1, _ | ⟨a2, _ | ⟨a3, _ | ⟨a4, _ | ⟨a5, _ | ⟨a6, _ | ⟨a7, _ | ⟨a8, l⟩⟩⟩⟩⟩⟩⟩⟩⟩ <;> simp at h
  exact ⟨a0, a1, a2, a3, a4, a5, a6, a7, rfl⟩
theorem nine {α : Type} {l : List α} (h : l.length = 9) : ∃ a0 a1 a2 a3 a4 a5 a6 a7 a8, l = [a0, a1, a2, a3, a4, a5, a6, a7, a8] := by
  rcases l with _ | ⟨a0, _ | ⟨a1, _ | ⟨a2, _ | ⟨a3, _ | ⟨a4, _ | ⟨a5, _ | ⟨a6, _ | ⟨a7, _ | ⟨a8, _ | ⟨a9, l⟩⟩⟩⟩⟩⟩⟩⟩⟩⟩ <;> simp at h
  exact ⟨a0, a1, a2, a3, a4, a5, a6, a7, a8, rfl⟩
theorem u8_bd {n : Int} (h : (Lit.int .u8 n).wf = true) : 0 ≤ n ∧ n ≤ 255 := by
  simpa [Lit.wf, IntKind.min, IntKind.max, IntKind.signed, IntKind.bits] using h
set_option maxRecDepth 100000 in
theorem open_block {H : Type} {enc : TypeId × Value → H} {W : World} {base : Nat} {spare : Nat → Bool} {held : Bool} {fuel : Nat} {cs : List Value} {x : DataW H × List MemPlace} (h : DataW.trod enc Tryd.prog W base spare held fuel 35 cs = some x) :
    ∃ y : S35, cs = [.int .u8 y.f0, .int .u8 y.f1, .int .u8 y.f2, .int .u8 y.f3, .int .u8 y.f4, .int .u8 y.f5, .int .u8 y.f6, .int .u8 y.f7] ∧ ok35 y = true := by
  obtain ⟨xs, m, _, _, hcl, hxl, hg⟩ := DataW.trod_array Tryd.underlying35 h
  obtain ⟨v0, v1, v2, v3, v4, v5, v6, v7, rfl⟩ := eight (hcl.trans c35)
  obtain ⟨y0, y1, y2, y3, y4, y5, y6, y7, rfl⟩ := eight hxl
  have q0 := hg 0 (by decide)
  have q1 := hg 1 (by decide)
  have q2 := hg 2 (by decide)
  have q3 := hg 3 (by decide)
  have q4 := hg 4 (by decide)
  have q5 := hg 5 (by decide)
  have q6 := hg 6 (by decide)
  have q7 := hg 7 (by decide)
  simp [c5] at q0 q1 q2 q3 q4 q5 q6 q7
  obtain ⟨n0, e0, _, w0⟩ := DataW.trod_int Tryd.underlying5 q0
  obtain ⟨n1, e1, _, w1⟩ := DataW.trod_int Tryd.underlying5 q1
  obtain ⟨n2, e2, _, w2⟩ := DataW.trod_int Tryd.underlying5 q2
  obtain ⟨n3, e3, _, w3⟩ := DataW.trod_int Tryd.underlying5 q3
  obtain ⟨n4, e4, _, w4⟩ := DataW.trod_int Tryd.underlying5 q4
  obtain ⟨n5, e5, _, w5⟩ := DataW.trod_int Tryd.underlying5 q5
  obtain ⟨n6, e6, _, w6⟩ := DataW.trod_int Tryd.underlying5 q6
  obtain ⟨n7, e7, _, w7⟩ := DataW.trod_int Tryd.underlying5 q7
  simp only [List.cons.injEq, and_true] at e0 e1 e2 e3 e4 e5 e6 e7
  subst e0 e1 e2 e3 e4 e5 e6 e7
  refine ⟨⟨n0, n1, n2, n3, n4, n5, n6, n7⟩, rfl, ?_⟩
  unfold ok35
  simp only [Bool.and_eq_true, decide_eq_true_eq]
  exact ⟨u8_bd w0, u8_bd w1, u8_bd w2, u8_bd w3, u8_bd w4, u8_bd w5, u8_bd w6, u8_bd w7⟩
set_option maxRecDepth 100000 in
theorem open_blocks {H : Type} {enc : TypeId × Value → H} {W : World} {base : Nat} {spare : Nat → Bool} {held : Bool} {fuel : Nat} {v : Value} {x : DataW H × List MemPlace} (hf : DataW.trod enc Tryd.prog W base spare held fuel 22 [v] = some x) :
    ∃ (a : Option Addr) (l : List S35) (cap : Nat), v = .slice a l.length cap ∧ l.length ≤ cap ∧ Kd.C k35 W a l.length l ∧ (∀ x ∈ l, ok35 x = true) ∧ (x.1 = .nil ∧ l.length = 0 ∨ ∃ el sp, x.1 = .slice el sp ∧ el.length = l.length) := by
  rcases open_slice Tryd.underlying22 hf with ⟨hcs, hx⟩ | ⟨ad, len, cap, m, n, D, Pl, hcs, _, hl, hm, hmm, hx, hel⟩
  · simp at hcs
    subst hcs
    exact ⟨none, [], 0, rfl, Nat.le_refl _, ⟨rfl, by decide, fun h => absurd h (by decide)⟩, (fun x hx => by cases hx), .inl ⟨by rw [hx], rfl⟩⟩
  · simp at hcs
    subst hcs
    have hlm : len ≤ m := by rw [hmm]; split <;> omega
    have each : ∀ i, i < len → ∃ y : S35, W.cells? base (ad.add (i * 8)) 8 = some [.int .u8 y.f0, .int .u8 y.f1, .int .u8 y.f2, .int .u8 y.f3, .int .u8 y.f4, .int .u8 y.f5, .int .u8 y.f6, .int .u8 y.f7] ∧ ok35 y = true := by
      intro i hi
      obtain ⟨cs', h1, h2⟩ := hel i (by omega)
      rw [c35] at h1
      obtain ⟨y, rfl, hok⟩ := open_block h2
      exact ⟨y, h1, hok⟩
    haveI : Inhabited S35 := ⟨z35⟩
    obtain ⟨y, hy⟩ := choose_lt each
    have hlen : ((List.range len).map y).length = len := by simp
    refine ⟨some ad, (List.range len).map y, cap, by rw [hlen], by rw [hlen]; exact hl, ⟨rfl, by rw [hlen]; exact Nat.le_trans hl hm, fun _ => ⟨ad, rfl, ?_⟩⟩, ?_, .inr ⟨_, _, by rw [hx], by simp⟩⟩
    · intro j p hp
      have hj : j < len := by
        have := (List.getElem?_eq_some_iff.1 hp).1
        simpa using this
      have ep : p = y j := by
        rw [List.getElem?_map, List.getElem?_range hj] at hp
        exact (Option.some.inj hp).symm
      subst ep
      obtain ⟨z, _⟩ := hy j hj
      obtain ⟨_, hlz, hcell⟩ := World.cells?_some z
      refine ⟨_, rfl, k35_mk W (y j), ?_⟩
      intro i u hu
      have hi : i < 8 := by have := (List.getElem?_eq_some_iff.1 hu).1; simpa using this
      have e3 : k35.sz = 8 := rfl
      rw [e3]
      have hz := hcell i (by simpa using hi)
      rw [Deep.add_add] at hz
      rcases (by omega : i = 0 ∨ i = 1 ∨ i = 2 ∨ i = 3 ∨ i = 4 ∨ i = 5 ∨ i = 6 ∨ i = 7) with rfl | rfl | rfl | rfl | rfl | rfl | rfl | rfl <;> (obtain rfl := Option.some.inj hu; simpa using hz)
    · intro p hp
      obtain ⟨j, hj, rfl⟩ := List.mem_map.1 hp
      exact (hy j (List.mem_range.1 hj)).2
set_option maxRecDepth 100000 in
theorem open_cmd {H : Type} {enc : TypeId × Value → H} {W : World} {b0 : Nat} {spare : Nat → Bool} {held : Bool} {v : Value} {d : DataW H} {p : List MemPlace} (hv : Value.okWide Tryd.prog W .any b0 24 v) (h : DataW.Trod enc Tryd.prog W 0 spare held 24 v d p) :
    ∃ (c : Cmd) (A : Option Addr) (cap : Nat), v = cmdV c (.slice A c.data.length cap) ∧ Kd.C k35 W A c.data.length c.data ∧ c.data.length ≤ cap ∧ ∀ x ∈ c.data, ok35 x = true := by
  obtain ⟨cs, rfl, hsz⟩ := okWide_struct Tryd.underlying24 hv
  obtain ⟨cl⟩ := cs
  obtain ⟨v0, v1, v2, v3, v4, v5, v6, v7, v8, rfl⟩ := nine (hsz.trans c24)
  obtain ⟨fuel, hf⟩ := h
  obtain ⟨xs, n, _, _, _, hlen, hg⟩ := DataW.trod_struct Tryd.underlying24 hf
  obtain ⟨y0, y1, y2, y3, y4, y5, y6, y7, y8, rfl⟩ := nine hlen
  have g0 : DataW.trod enc Tryd.prog W 0 spare held n 3 [v0] = some y0 := by simpa [Value.cells, c3] using hg 0 _ rfl
  have g1 : DataW.trod enc Tryd.prog W 0 spare held n 3 [v1] = some y1 := by simpa [Value.cells, c3] using hg 1 _ rfl
  have g2 : DataW.trod enc Tryd.prog W 0 spare held n 3 [v2] = some y2 := by simpa [Value.cells, c3] using hg 2 _ rfl
  have g3 : DataW.trod enc Tryd.prog W 0 spare held n 4 [v3] = some y3 := by simpa [Value.cells, c4] using hg 3 _ rfl
  have g4 : DataW.trod enc Tryd.prog W 0 spare held n 9 [v4] = some y4 := by simpa [Value.cells, c9] using hg 4 _ rfl
  have g5 : DataW.trod enc Tryd.prog W 0 spare held n 9 [v5] = some y5 := by simpa [Value.cells, c9] using hg 5 _ rfl
  have g6 : DataW.trod enc Tryd.prog W 0 spare held n 3 [v6] = some y6 := by simpa [Value.cells, c3] using hg 6 _ rfl
  have g7 : DataW.trod enc Tryd.prog W 0 spare held n 3 [v7] = some y7 := by simpa [Value.cells, c3] using hg 7 _ rfl
  have g8 : DataW.trod enc Tryd.prog W 0 spare held n 22 [v8] = some y8 := by simpa [Value.cells, c22] using hg 8 _ rfl
  obtain ⟨x0, e0, _, _⟩ := DataW.trod_int Tryd.underlying3 g0
  obtain ⟨x1, e1, _, _⟩ := DataW.trod_int Tryd.underlying3 g1
  obtain ⟨x2, e2, _, _⟩ := DataW.trod_int Tryd.underlying3 g2
  obtain ⟨x3, e3, _⟩ := DataW.trod_bool Tryd.underlying4 g3
  obtain ⟨x4, e4, _, _⟩ := DataW.trod_string Tryd.underlying9 g4
  obtain ⟨x5, e5, _, _⟩ := DataW.trod_string Tryd.underlying9 g5
  obtain ⟨x6, e6, _, _⟩ := DataW.trod_int Tryd.underlying3 g6
  obtain ⟨x7, e7, _, _⟩ := DataW.trod_int Tryd.underlying3 g7
  simp only [List.cons.injEq, and_true] at e0 e1 e2 e3 e4 e5 e6 e7
  subst e0 e1 e2 e3 e4 e5 e6 e7
  obtain ⟨A, l, cap, rfl, hle, hC, hok, _⟩ := open_blocks g8
  exact ⟨⟨x0, x1, x2, x3, x4, x5, x6, x7, l⟩, A, cap, rfl, hC, hle, hok⟩
theorem witness_row_shaped {H : Type} {enc : TypeId × Value → H} {C : Checked} {os : Os} {f : FuncId} {fn : Func} {s : OpenSpec} {conds : List PathCond} {apart : Bool} {laid : List (String × DataW Unit)} (modest : Bool) (w0 : World) (args : Array Value) (hos : w0.os = os)
    (hsh : (w0.forCall (fun _ _ => 0) ⟨#[], args, []⟩).Shaped C.prog)
    (hok : Input.okWideB C.prog (w0.forCall (fun _ _ => 0) ⟨#[], args, []⟩) f ⟨#[], args, []⟩ = true)
    (hrow : s.preRow enc C.prog fn conds apart laid (w0.forCall (fun _ _ => 0) ⟨#[], args, []⟩).memory args) :
    ∃ (w : World) (tape : Tape) (i : Input), w.os = os ∧ (w.forCall tape i).Shaped C.prog ∧ i.vars = [] ∧ Input.okWide C.prog (w.forCall tape i) .any w.heap.size f i ∧
      s.preRow enc C.prog fn conds apart laid (w.forCall tape i).memory i.args ∧ ({ modest := modest } : Assume).holds C.prog (lone (Frame.enter C.prog f i.args .normal) [] (w.forCall tape i)) :=
  ⟨w0, fun _ _ => 0, ⟨#[], args, []⟩, hos, hsh, (Input.okWide_of_okWideB (base := 0) hok).1, (Input.okWide_of_okWideB hok).2, hrow, by
    simp only [Assume.holds]
    exact ⟨by simp, by simp, fun _ => Modest.zero, by simp, by simp⟩⟩
noncomputable def laidW (os : Os) : World := World.laidAll Tryd.prog os Rows.commandSelfRow.laid
theorem laidW_met (os : Os) (args : Array Value) : laidMetH Tryd.prog Rows.commandSelfRow.laid ((laidW os).forCall (fun _ _ => 0) ⟨#[], args, []⟩).memory := by
  rw [MakeChecks.laidMetH_plain _ _ _ laid_plain]
  exact laidMet_laidAll _ (by kernel_rfl) (by kernel_rfl)
theorem laidW_shaped (os : Os) (args : Array Value) : ((laidW os).forCall (fun _ _ => 0) ⟨#[], args, []⟩).Shaped Tryd.prog := World.shaped_of_ZipB (by kernel_rfl) (by kernel_rfl)
end Go.Proofs.YthbnghdobmghlaaDoor.ST
