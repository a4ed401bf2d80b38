import Derived.Test.YthbnghdobmghlaaDoorVJ7
import Derived.Test.YthbnghdobmghlaaDoorVJ6
import Derived.Deep.RegionHeld3
namespace Go.Proofs.YthbnghdobmghlaaDoor.ST
open Go.RowKit Go.Proofs.YthbnghdobmghlaaDoorW.PrintWords Go.Proofs.YthbnghdobmghlaaDoorW.PrintLast Go.Proofs.YthbnghdobmghlaaDoorW.PrintMore Go.Proofs.YthbnghdobmghlaaDoor.PC
set_option linter.unusedVariables false
set_option linter.unusedSimpArgs false
theorem ItoaB_any (n : Int) (h0 : -9223372036854775808 ≤ n) (h1 : n ≤ 9223372036854775807) (w : World) (hL : Ld w) :
    Calls Tryd.prog 30 #[.int .i64 n] w fun e w' => e = .returned (.string (itoaB n)) ∧ Below w.heap.size w w' := Itoa_any n h0 h1 w hL
theorem lit2_R (W : World) (base : Nat) (ok : Nat → Prop) (a b : ByteArray) (hb : base ≤ W.heap.size) (hok : ok W.heap.size) : Kd.R Kd.string 9 (W.alloc (.cells #[.string a, .string b] 9)) base ok (.slice (some ⟨W.heap.size, 0, none⟩) 2 2) [a, b] := by
  refine ⟨fun k hk => ?_, [.string a, .string b], ?_, ?_⟩
  · have : W.heap.size = k := by simpa [Value.ownBlock] using hk
    subst this
    exact hok
  · have h2 := World.ownsRow_lit (base := base) (e := 9) (size := 1) W #[.string a, .string b] 2 hb (by decide) (by simp)
    exact h2
  · exact Reps.snoc (ps := [a]) (cs := [.string a]) (c := [.string b]) (Reps.snoc (ps := []) (cs := []) (c := [.string a]) (Reps.none _ _) rfl rfl) rfl rfl
theorem two_Cs (W : World) (a b : ByteArray) : ReadsRow (Kd.string.K (W.alloc (.cells #[.string a, .string b] 9))) Kd.string.sz (W.alloc (.cells #[.string a, .string b] 9)) (some ⟨W.heap.size, 0, none⟩) 2 [a, b] := by
  have h := blk_new W (.cells #[.string a, .string b] 9)
  refine ⟨rfl, by decide, fun _ => ⟨⟨W.heap.size, 0, none⟩, rfl, fun j p hp => ?_⟩⟩
  refine ⟨_, rfl, rfl, ?_⟩
  intro i u hu
  have hj : j < 2 := (List.getElem?_eq_some_iff.1 hp).1
  have hi : i < 1 := by have := (List.getElem?_eq_some_iff.1 hu).1; simpa using this
  obtain rfl : i = 0 := by omega
  rcases (by omega : j = 0 ∨ j = 1) with rfl | rfl <;>
    (obtain rfl := Option.some.inj hp; obtain rfl := Option.some.inj hu; exact (blk_cell h _).trans rfl)
theorem farA_R {w : World} {g e base : Nat} {ok : Nat → Prop} {v : Value} {xs : List ByteArray} (h : Kd.R Kd.string e w base ok v xs) (hok : ∀ k, ok k → k ≠ g) (x0 x1 x2 x3 x4 x5 x6 x7 : Value) :
    Kd.R Kd.string e ((((((((w.setCell ⟨g, 0, none⟩ x0).setCell ⟨g, 1, none⟩ x1).setCell ⟨g, 2, none⟩ x2).setCell ⟨g, 3, none⟩ x3).setCell ⟨g, 4, none⟩ x4).setCell ⟨g, 5, none⟩ x5).setCell ⟨g, 6, none⟩ x6).setCell ⟨g, 7, none⟩ x7) base ok v xs :=
  Kd.R_far (p := ⟨g, 7, none⟩) (Kd.R_far (p := ⟨g, 6, none⟩) (Kd.R_far (p := ⟨g, 5, none⟩) (Kd.R_far (p := ⟨g, 4, none⟩) (Kd.R_far (p := ⟨g, 3, none⟩) (Kd.R_far (p := ⟨g, 2, none⟩) (Kd.R_far (p := ⟨g, 1, none⟩) (Kd.R_far (p := ⟨g, 0, none⟩) h hok x0) hok x1) hok x2) hok x3) hok x4) hok x5) hok x6) hok x7
end Go.Proofs.YthbnghdobmghlaaDoor.ST
