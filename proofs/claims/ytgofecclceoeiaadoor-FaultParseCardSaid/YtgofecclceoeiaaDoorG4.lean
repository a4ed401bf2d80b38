/- The memory of fault.Parse while it reads a part. -/
import Derived.Test.YtgofecclceoeiaaDoorG3
namespace Go.Proofs.YtgofecclceoeiaaDoor.ST
open Go.RowKit Go.Proofs.YtgofecclceoeiaaDoorW.PrintWords Go.Proofs.YtgofecclceoeiaaDoorW.PrintLast Go.Proofs.YtgofecclceoeiaaDoorW.PrintMore Go.Proofs.YtgofecclceoeiaaDoor.PF
set_option linter.unusedVariables false
set_option linter.unusedSimpArgs false
/-- rest in block b1, ok in block b2, the parts in block gp, the fault in block g, the list in v. -/
structure Sx (w : World) (b1 b2 gp : Nat) (arr : Array Value) (g : Nat) (v : Value) (l : List S32) (W : World) (r : ByteArray) (o : Bool) (f0 f1 f2 : Int) : Prop where
  h1 : W.heap[b1]? = some (.cells #[.string r] 9 (0, 0))
  h2 : W.heap[b2]? = some (.cells #[.bool o] 4 (0, 0))
  hp : W.heap[gp]? = some (.cells arr 9 (0, 0))
  hg : W.heap[g]? = some (.cells #[.int .i64 f0, .int .i64 f1, .int .i64 f2] 32 (0, 0))
  hb : Below w.heap.size w W
  n1 : w.heap.size ≤ b1
  n2 : w.heap.size ≤ b2
  ng : w.heap.size ≤ g
  ne : gp ≠ b1
  hl : Kd.R k32 32 W w.heap.size (fun k => k ≠ b1 ∧ k ≠ b2 ∧ k ≠ g) v l
variable {w W W' : World} {b1 b2 gp g : Nat} {arr : Array Value} {v : Value} {l : List S32} {r : ByteArray} {o : Bool} {f0 f1 f2 : Int}
theorem Sx.below (h : Sx w b1 b2 gp arr g v l W r o f0 f1 f2) (hb : Below W.heap.size W W') : Sx w b1 b2 gp arr g v l W' r o f0 f1 f2 :=
  ⟨blk_below h.h1 hb, blk_below h.h2 hb, blk_below h.hp hb, blk_below h.hg hb, below_step h.hb hb, h.n1, h.n2, h.ng, h.ne, Kd.R_below h.hl hb⟩
theorem Sx.d12 (h : Sx w b1 b2 gp arr g v l W r o f0 f1 f2) : b1 ≠ b2 := blk_ne h.h1 h.h2 (by decide)
theorem Sx.d1g (h : Sx w b1 b2 gp arr g v l W r o f0 f1 f2) : b1 ≠ g := blk_ne h.h1 h.hg (by decide)
theorem Sx.d2g (h : Sx w b1 b2 gp arr g v l W r o f0 f1 f2) : b2 ≠ g := blk_ne h.h2 h.hg (by decide)
theorem Sx.dp2 (h : Sx w b1 b2 gp arr g v l W r o f0 f1 f2) : gp ≠ b2 := blk_ne h.hp h.h2 (by decide)
theorem Sx.dpg (h : Sx w b1 b2 gp arr g v l W r o f0 f1 f2) : gp ≠ g := blk_ne h.hp h.hg (by decide)
theorem Sx.rest (h : Sx w b1 b2 gp arr g v l W r o f0 f1 f2) (r' : ByteArray) : Sx w b1 b2 gp arr g v l (W.setCell ⟨b1, 0, none⟩ (.string r')) r' o f0 f1 f2 :=
  ⟨blk_put h.h1 0 _ rfl, blk_far h.h2 (p := ⟨b1, 0, none⟩) h.d12.symm _, blk_far h.hp (p := ⟨b1, 0, none⟩) h.ne _, blk_far h.hg (p := ⟨b1, 0, none⟩) h.d1g.symm _, below_set h.hb h.n1, h.n1, h.n2, h.ng, h.ne, Kd.R_far (p := ⟨b1, 0, none⟩) h.hl (fun _ hk => hk.1) _⟩
theorem Sx.okay (h : Sx w b1 b2 gp arr g v l W r o f0 f1 f2) (o' : Bool) : Sx w b1 b2 gp arr g v l (W.setCell ⟨b2, 0, none⟩ (.bool o')) r o' f0 f1 f2 :=
  ⟨blk_far h.h1 (p := ⟨b2, 0, none⟩) h.d12 _, blk_put h.h2 0 _ rfl, blk_far h.hp (p := ⟨b2, 0, none⟩) h.dp2 _, blk_far h.hg (p := ⟨b2, 0, none⟩) h.d2g.symm _, below_set h.hb h.n2, h.n1, h.n2, h.ng, h.ne, Kd.R_far (p := ⟨b2, 0, none⟩) h.hl (fun _ hk => hk.2.1) _⟩
theorem Sx.fld0 (h : Sx w b1 b2 gp arr g v l W r o f0 f1 f2) (u : Int) : Sx w b1 b2 gp arr g v l (W.setCell ⟨g, 0, none⟩ (.int .i64 u)) r o u f1 f2 :=
  ⟨blk_far h.h1 (p := ⟨g, 0, none⟩) h.d1g _, blk_far h.h2 (p := ⟨g, 0, none⟩) h.d2g _, blk_far h.hp (p := ⟨g, 0, none⟩) h.dpg _, blk_put h.hg 0 _ rfl, below_set h.hb h.ng, h.n1, h.n2, h.ng, h.ne, Kd.R_far (p := ⟨g, 0, none⟩) h.hl (fun _ hk => hk.2.2) _⟩
theorem Sx.fld1 (h : Sx w b1 b2 gp arr g v l W r o f0 f1 f2) (u : Int) : Sx w b1 b2 gp arr g v l (W.setCell ⟨g, 1, none⟩ (.int .i64 u)) r o f0 u f2 :=
  ⟨blk_far h.h1 (p := ⟨g, 1, none⟩) h.d1g _, blk_far h.h2 (p := ⟨g, 1, none⟩) h.d2g _, blk_far h.hp (p := ⟨g, 1, none⟩) h.dpg _, blk_put h.hg 1 _ rfl, below_set h.hb h.ng, h.n1, h.n2, h.ng, h.ne, Kd.R_far (p := ⟨g, 1, none⟩) h.hl (fun _ hk => hk.2.2) _⟩
theorem Sx.fld2 (h : Sx w b1 b2 gp arr g v l W r o f0 f1 f2) (u : Int) : Sx w b1 b2 gp arr g v l (W.setCell ⟨g, 2, none⟩ (.int .i64 u)) r o f0 f1 u :=
  ⟨blk_far h.h1 (p := ⟨g, 2, none⟩) h.d1g _, blk_far h.h2 (p := ⟨g, 2, none⟩) h.d2g _, blk_far h.hp (p := ⟨g, 2, none⟩) h.dpg _, blk_put h.hg 2 _ rfl, below_set h.hb h.ng, h.n1, h.n2, h.ng, h.ne, Kd.R_far (p := ⟨g, 2, none⟩) h.hl (fun _ hk => hk.2.2) _⟩
theorem word_sx (hL : Ld w) (h : Sx w b1 b2 gp arr g v l W r o f0 f1 f2) (hr : r.size < 4294967281) (sep : ByteArray) :
    Calls Tryd.prog 26 #[.string sep, .pointer (some ⟨b1, 0, none⟩), .pointer (some ⟨b2, 0, none⟩)] W fun e W' => e = .returned (.string ⟨(Lib.cut r.data.toList sep.data.toList).1.toArray⟩) ∧ Sx w b1 b2 gp arr g v l W' ⟨(Lib.cut r.data.toList sep.data.toList).2.1.toArray⟩ (o && (Lib.cut r.data.toList sep.data.toList).2.2) f0 f1 f2 := by
  refine (word_any W b1 b2 r sep o (hL.below h.hb) h.h1 h.h2 hr).mono ?_
  rintro e W' ⟨n, rfl, rfl⟩
  exact ⟨rfl, ((h.below (pw_below_drewN (Below.refl _ _) n)).okay _).rest _⟩
theorem number_sx (hL : Ld w) (h : Sx w b1 b2 gp arr g v l W r o f0 f1 f2) (s : ByteArray) (hs : s.size < 4294967281) :
    Calls Tryd.prog 28 #[.string s, .pointer (some ⟨b2, 0, none⟩)] W fun e W' => e = .returned (.int .i64 (numOf s.data.toList)) ∧ Sx w b1 b2 gp arr g v l W' r (o && okNum s.data.toList) f0 f1 f2 := by
  refine (number_any W b2 s o (hL.below h.hb) h.h2 hs).mono ?_
  rintro e W' ⟨rfl, wm, hb, rfl⟩
  exact ⟨rfl, (h.below hb).okay _⟩
/-- The same where no fault is being read. -/
structure Lp (w : World) (b1 b2 gp : Nat) (arr : Array Value) (v : Value) (l : List S32) (W : World) (r : ByteArray) (o : Bool) : Prop where
  h1 : W.heap[b1]? = some (.cells #[.string r] 9 (0, 0))
  h2 : W.heap[b2]? = some (.cells #[.bool o] 4 (0, 0))
  hp : W.heap[gp]? = some (.cells arr 9 (0, 0))
  hb : Below w.heap.size w W
  n1 : w.heap.size ≤ b1
  n2 : w.heap.size ≤ b2
  ne : gp ≠ b1
  hl : Kd.R k32 32 W w.heap.size (fun k => k ≠ b1 ∧ k ≠ b2) v l
theorem Lp.rest (h : Lp w b1 b2 gp arr v l W r o) (r' : ByteArray) : Lp w b1 b2 gp arr v l (W.setCell ⟨b1, 0, none⟩ (.string r')) r' o :=
  ⟨blk_put h.h1 0 _ rfl, blk_far h.h2 (p := ⟨b1, 0, none⟩) (blk_ne h.h2 h.h1 (by decide)) _, blk_far h.hp (p := ⟨b1, 0, none⟩) h.ne _, below_set h.hb h.n1, h.n1, h.n2, h.ne, Kd.R_far (p := ⟨b1, 0, none⟩) h.hl (fun _ hk => hk.1) _⟩
theorem Lp.box (h : Lp w b1 b2 gp arr v l W r o) (hbox : W'.heap[g]? = some (.cells #[.int .i64 0, .int .i64 0, .int .i64 0] 32 (0, 0))) (hb : Below W.heap.size W W') (hg : g = W.heap.size) : Sx w b1 b2 gp arr g v l W' r o 0 0 0 :=
  ⟨blk_below h.h1 hb, blk_below h.h2 hb, blk_below h.hp hb, hbox, below_step h.hb hb, h.n1, h.n2, by rw [hg]; exact h.hb.size, h.ne, Kd.R_mono (Kd.R_below (Kd.R_elderB h.hl g (by omega)) hb) (fun _ hk => ⟨hk.1.1, hk.1.2, hk.2⟩)⟩
theorem Sx.fresh (h : Sx w b1 b2 gp arr g v l W r o f0 f1 f2) : ∀ k, W.heap.size ≤ k → k ≠ b1 ∧ k ≠ b2 ∧ k ≠ g := fun k hk =>
  ⟨by have := blk_lt h.h1; omega, by have := blk_lt h.h2; omega, by have := blk_lt h.hg; omega⟩
theorem Sx.done (h : Sx w b1 b2 gp arr g v l W r o f0 f1 f2) {v1 : Value} {w1 : World} {l1 : List S32} (ho : Kd.R k32 32 w1 w.heap.size (fun k => k ≠ b1 ∧ k ≠ b2 ∧ k ≠ g) v1 l1) (hb : Below w.heap.size w w1) (hg : W.grownBy w1 v.ownBlock) : Lp w b1 b2 gp arr v1 l1 w1 r o := by
  have t1 := h.hl.1
  have t2 := (Kd.R_types h.hl h.hp (by decide)).1
  refine ⟨blk_grown h.h1 hg ?_, blk_grown h.h2 hg ?_, blk_grown h.hp hg ?_, hb, h.n1, h.n2, h.ne, Kd.R_mono ho (fun _ hk => ⟨hk.1, hk.2.1⟩)⟩
  · intro e; exact (t1 _ e.symm).1 rfl
  · intro e; exact (t1 _ e.symm).2.1 rfl
  · intro e; exact (t2 _ e.symm).2 rfl
/-- The kind of a name, as the loop of Parse finds it. -/
def kindUpto (name : List UInt8) : Nat → Int
  | 0 => 0
  | j + 1 => if 0 < j ∧ (wordB j).data.toList = name then j else kindUpto name j
def kindOf (name : List UInt8) : Int := kindUpto name 8
/-- A part, as Parse reads it: the fault, and whether all went well. -/
def partF (p : List UInt8) : S32 × Bool :=
  let c := Lib.cut p [32]
  let k := kindOf c.1
  if (k == 3 || k == 5) = true then
    let d := Lib.cut c.2.1 [32, 116, 111, 32]
    (⟨numOf d.1, k, numOf d.2.1⟩, (c.2.2 && d.2.2) && okNum d.1 && okNum d.2.1)
  else (⟨numOf c.2.1, k, 0⟩, c.2.2 && okNum c.2.1)
end Go.Proofs.YtgofecclceoeiaaDoor.ST
