/- The examples of the document. -/
import Derived.Test.YtgofecclceoeiaaDoorG5
namespace Go.Proofs.YtgofecclceoeiaaDoor.ST
open Go.RowKit Go.Proofs.YtgofecclceoeiaaDoorW.PrintWords Go.Proofs.YtgofecclceoeiaaDoorW.PrintLast Go.Proofs.YtgofecclceoeiaaDoorW.PrintMore Go.Proofs.YtgofecclceoeiaaDoor.PF
set_option linter.unusedVariables false
set_option linter.unusedSimpArgs false
def exL : List S32 := [⟨3, 1, 0⟩, ⟨7, 3, 12⟩, ⟨20, 7, 0⟩]
def exB : ByteArray := ⟨#[100, 114, 111, 112, 32, 51, 59, 32, 115, 116, 114, 97, 121, 32, 55, 32, 116, 111, 32, 49, 50, 59, 32, 100, 105, 101, 32, 50, 48]⟩
def exC : ByteArray := ⟨#[100, 114, 111, 112, 32, 48, 51]⟩
theorem ex1 : okAll (-1) exL = true := by decide
theorem ex2 : textL exL = exB.data.toList := by decide +kernel
instance instS32 : DecidableEq S32
  | ⟨a, b, c⟩, ⟨a', b', c'⟩ => if h : a = a' ∧ b = b' ∧ c = c' then isTrue (by obtain ⟨rfl, rfl, rfl⟩ := h; rfl) else isFalse (fun e => h (by cases e; exact ⟨rfl, rfl, rfl⟩))
theorem ex3 : parseB exB = some exL := by decide +kernel
theorem ex4 : parseB exC = none := by decide +kernel
theorem ex5 : (partsB exB).length = Lib.countB exB sepB + 1 ∧ (partsB exB).length ≤ 4294967290 ∧ (∀ p ∈ partsB exB, p.size < 4294967281) ∧ exB.size < 4294967281 := by decide +kernel
theorem ex6 : (partsB exC).length = Lib.countB exC sepB + 1 ∧ (partsB exC).length ≤ 4294967290 ∧ (∀ p ∈ partsB exC, p.size < 4294967281) ∧ exC.size < 4294967281 := by decide +kernel
theorem ex_C (W : World) (b : Nat) (h : W.heap[b]? = some (.cells #[.int .i64 3, .int .i64 1, .int .i64 0, .int .i64 7, .int .i64 3, .int .i64 12, .int .i64 20, .int .i64 7, .int .i64 0] 32 (0, 0))) : Kd.C k32 W (some ⟨b, 0, none⟩) exL.length exL := by
  refine ⟨rfl, by decide, fun _ => ⟨⟨b, 0, none⟩, rfl, fun j p hp => ?_⟩⟩
  refine ⟨_, rfl, k32_mk W p, ?_⟩
  intro i u hu
  have hj : j < 3 := (List.getElem?_eq_some_iff.1 hp).1
  have hi : i < 3 := by have := (List.getElem?_eq_some_iff.1 hu).1; simpa using this
  rcases (by omega : j = 0 ∨ j = 1 ∨ j = 2) with rfl | rfl | rfl <;> rcases (by omega : i = 0 ∨ i = 1 ∨ i = 2) with rfl | rfl | rfl <;>
    (obtain rfl := Option.some.inj hp; obtain rfl := Option.some.inj hu; exact (blk_cell h _).trans rfl)
/-- tegularef13.Same of a list and itself. -/
theorem same_l0 (l : List S32) (hn : l.length ≤ 140737488355328) : ∀ (k i : Nat), i ≤ l.length → l.length - i < k → tegularef13_Same.l0 k l l (i : Int) = some true
  | 0, i, hi, hk => by omega
  | k + 1, i, hi, hk => by
    simp only [tegularef13_Same.l0]
    by_cases h : i < l.length
    · rw [if_pos (by omega), if_pos (by omega), if_pos (by omega), w64 i l.length h hn, same_l0 l hn k (i + 1) h (by omega)]
      simp
    · rw [if_neg (by omega)]
theorem same_f (l : List S32) (hn : l.length ≤ 140737488355328) : tegularef13_Same.f (l.length + 1) l l = some true := by
  unfold tegularef13_Same.f
  rw [if_pos rfl]
  have := same_l0 l hn (l.length + 1) 0 (by omega) (by omega)
  simpa using this
set_option maxHeartbeats 4000000 in
set_option maxRecDepth 100000 in
theorem awake_any (w : World) (hL : Ld w) : Calls Tryd.prog 9 #[] w fun e w' => e = .returned (.bool true) ∧ Below w.heap.size w w' := by
  have hu32 := Tryd.underlying32
  go_enter Tryd.func9, Tryd.ntmps9
  go_wp2_with fail
  have q0 := Aside0.mk (blk_new w (.cells #[.int .i64 3, .int .i64 1, .int .i64 0, .int .i64 7, .int .i64 3, .int .i64 12, .int .i64 20, .int .i64 7, .int .i64 0] 32))
  have HB := Aside0.mk (below_alloc (Below.refl w.heap.size w) (.cells #[.int .i64 3, .int .i64 1, .int .i64 0, .int .i64 7, .int .i64 3, .int .i64 12, .int .i64 20, .int .i64 7, .int .i64 0] 32))
  generalize w.alloc (.cells #[.int .i64 3, .int .i64 1, .int .i64 0, .int .i64 7, .int .i64 3, .int .i64 12, .int .i64 20, .int .i64 7, .int .i64 0] 32) = w1 at q0 HB ⊢
  generalize w.heap.size = b at q0 ⊢
  have c1 := Parse_any w1 exB (hL.below HB.out) ex5.2.2.2 ex5.1 ex5.2.1 ex5.2.2.1
  rw [ex3] at c1
  refine c1.mono ?_
  clear c1
  rintro e w2 ⟨v, rfl, hR, hb⟩
  obtain ⟨Av, cv, rfl, hle, hC⟩ := Kd.R_reads hR
  have HC := Aside0.mk hC
  have HLE := Aside0.mk hle
  replace q0 := Aside0.mk (blk_below q0.out hb)
  replace HB := Aside0.mk (below_step HB.out hb)
  clear hb hR hC hle
  go_wp2_with fail
  have c2 := Parse_any w2 exC (hL.below HB.out) ex6.2.2.2 ex6.1 ex6.2.1 ex6.2.2.1
  rw [ex4] at c2
  refine c2.mono ?_
  clear c2
  rintro e w3 ⟨v2, rfl, hR, hb⟩
  replace q0 := Aside0.mk (blk_below q0.out hb)
  replace HC := Aside0.mk (Kd.C_below HC.out hb)
  replace HB := Aside0.mk (below_step HB.out hb)
  clear hb hR
  go_wp2_with fail
  refine (fault_Valid.calls 4 (some ⟨b, 0, none⟩) 3 exL true w3 (ex_C w3 b q0.out) (by decide) (by rw [show (4 : Nat) = exL.length + 1 from rfl, valid_f exL (by decide), ex1])).mono ?_
  rintro e w4 ⟨rfl, hb⟩
  replace q0 := Aside0.mk (blk_below q0.out hb)
  replace HC := Aside0.mk (Kd.C_below HC.out hb)
  replace HB := Aside0.mk (below_step HB.out hb)
  clear hb
  go_wp2_with fail
  refine (Text_any w4 (some ⟨b, 0, none⟩) 3 exL (ex_C w4 b q0.out) (by decide) (hL.below HB.out) (by decide) (by decide) ex1 (by rw [ex2]; decide)).mono ?_
  rintro e w5 ⟨rfl, hb⟩
  replace q0 := Aside0.mk (blk_below q0.out hb)
  replace HC := Aside0.mk (Kd.C_below HC.out hb)
  replace HB := Aside0.mk (below_step HB.out hb)
  clear hb
  rw [show (⟨(textL exL).toArray⟩ : ByteArray) = ⟨#[100, 114, 111, 112, 32, 51, 59, 32, 115, 116, 114, 97, 121, 32, 55, 32, 116, 111, 32, 49, 50, 59, 32, 100, 105, 101, 32, 50, 48]⟩ from by rw [ex2]; rfl]
  go_wp2_with fail
  refine (tegularef13_Same.calls 4 Av cv exL (some ⟨b, 0, none⟩) 3 exL true w5 HC.out HLE.out (ex_C w5 b q0.out) (by decide) (by rw [show (4 : Nat) = exL.length + 1 from rfl, same_f exL (by decide)])).mono ?_
  rintro e w6 ⟨rfl, hd⟩
  replace HB := Aside0.mk (below_step HB.out hd.below)
  clear hd
  go_wp2
  go_ret
  exact ⟨rfl, HB.out⟩
end Go.Proofs.YtgofecclceoeiaaDoor.ST
