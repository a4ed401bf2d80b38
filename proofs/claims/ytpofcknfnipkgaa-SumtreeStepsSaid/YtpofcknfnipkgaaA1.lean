/- What the printed functions of the checksums answer: numbers in eight bytes, the sum of bytes, the sum of a run, the root; the program's and the reference's are the same. -/
import Derived.Test.YtpofcknfnipkgaaPSx
import Derived.IntWalk
namespace Go.Proofs.Ytpofcknfnipkgaa.ST
open Go.RowKit Go.Proofs.YtpofcknfnipkgaaW.PrintWords Go.Proofs.YtpofcknfnipkgaaW.PrintLast Go.Proofs.YtpofcknfnipkgaaW.PrintMore Go.Proofs.Ytpofcknfnipkgaa.PS
set_option linter.unusedVariables false
set_option linter.unusedSimpArgs false

theorem w64 {n : Int} (h0 : -9223372036854775808 ≤ n) (h1 : n ≤ 9223372036854775807) : wrap64 n = n := by unfold wrap64; omega

/-- Byte i of a number. -/
def nb (n : Int) (i : Nat) : Int := (n / 2 ^ (8 * i)) % 256
def numB (n : Int) : List Int := [nb n 0, nb n 1, nb n 2, nb n 3, nb n 4, nb n 5, nb n 6, nb n 7]
theorem numB_length (n : Int) : (numB n).length = 8 := rfl

theorem number_step (k : Nat) (b : List Int) (n : Int) (i : Nat) (hi : i < 8) (hb : b.length < 1000000) : sumtree_number.l0 (k + 1) b n i = sumtree_number.l0 k (b ++ [nb n i]) n ((i + 1 : Nat) : Int) := by
  have e1 : wrap64 (8 * (i : Int)) = 8 * i := w64 (by omega) (by omega)
  have e2 : wrap64 ((i : Int) + 1) = ((i + 1 : Nat) : Int) := by rw [w64 (by omega) (by omega)]; simp
  have e3 : shr .u64 n (8 * (i : Int)) = n / 2 ^ (8 * i) := by
    unfold shr
    have : min (8 * (i : Int)).toNat IntKind.u64.bits = 8 * i := by simp only [IntKind.bits]; omega
    rw [this]
  simp only [sumtree_number.l0, e1, e2, e3]
  rw [if_pos (by omega), if_pos (by omega), if_pos (by omega)]
  rfl
theorem number_ev (b : List Int) (n : Int) (hb : b.length < 900000) : Ev (fun k => sumtree_number.f k b n) (b ++ numB n) := by
  refine Ev.congr (f := fun k => sumtree_number.l0 k b n ((0 : Nat) : Int)) (fun k => rfl) ?_
  refine Ev.step (fun k => number_step k _ n 0 (by omega) (by omega)) ?_
  refine Ev.step (fun k => number_step k _ n 1 (by omega) (by simp; omega)) ?_
  refine Ev.step (fun k => number_step k _ n 2 (by omega) (by simp; omega)) ?_
  refine Ev.step (fun k => number_step k _ n 3 (by omega) (by simp; omega)) ?_
  refine Ev.step (fun k => number_step k _ n 4 (by omega) (by simp; omega)) ?_
  refine Ev.step (fun k => number_step k _ n 5 (by omega) (by simp; omega)) ?_
  refine Ev.step (fun k => number_step k _ n 6 (by omega) (by simp; omega)) ?_
  refine Ev.step (fun k => number_step k _ n 7 (by omega) (by simp; omega)) ?_
  refine Ev.step (f := fun _ => some (b ++ numB n)) (fun k => ?_) (Ev.now _)
  simp only [sumtree_number.l0]
  rw [if_neg (by omega)]
  simp [numB]

theorem put_step (k : Nat) (b : List Int) (n : Int) (i : Nat) (hi : i < 8) (hb : b.length < 1000000) : tegularef15_Put.l0 (k + 1) b n 8 i = tegularef15_Put.l0 k (b ++ [nb n i]) n 8 ((i + 1 : Nat) : Int) := by
  have e0 : IntKind.u64.wrap (i : Int) = i := by simp only [IntKind.wrap, IntKind.min, IntKind.max, IntKind.bits, IntKind.signed]; simp; omega
  have e1 : IntKind.u64.wrap (8 * (i : Int)) = 8 * i := by simp only [IntKind.wrap, IntKind.min, IntKind.max, IntKind.bits, IntKind.signed]; simp; omega
  have e2 : wrap64 ((i : Int) + 1) = ((i + 1 : Nat) : Int) := by rw [w64 (by omega) (by omega)]; simp
  have e3 : shr .u64 n (8 * (i : Int)) = n / 2 ^ (8 * i) := by
    unfold shr
    have : min (8 * (i : Int)).toNat IntKind.u64.bits = 8 * i := by simp only [IntKind.bits]; omega
    rw [this]
  simp only [tegularef15_Put.l0, e0, e1, e2, e3]
  rw [if_pos (by omega), if_pos (by omega), if_pos (by omega)]
  rfl
theorem put_ev (b : List Int) (n : Int) (hb : b.length < 900000) : Ev (fun k => tegularef15_Put.f k b n 8) (b ++ numB n) := by
  refine Ev.congr (f := fun k => tegularef15_Put.l0 k b n 8 ((0 : Nat) : Int)) (fun k => ?_) ?_
  · unfold tegularef15_Put.f
    simp only [Option.bind_some, List.length_nil, List.nil_append]
    rw [if_pos (by omega)]
    rfl
  refine Ev.step (fun k => put_step k _ n 0 (by omega) (by omega)) ?_
  refine Ev.step (fun k => put_step k _ n 1 (by omega) (by simp; omega)) ?_
  refine Ev.step (fun k => put_step k _ n 2 (by omega) (by simp; omega)) ?_
  refine Ev.step (fun k => put_step k _ n 3 (by omega) (by simp; omega)) ?_
  refine Ev.step (fun k => put_step k _ n 4 (by omega) (by simp; omega)) ?_
  refine Ev.step (fun k => put_step k _ n 5 (by omega) (by simp; omega)) ?_
  refine Ev.step (fun k => put_step k _ n 6 (by omega) (by simp; omega)) ?_
  refine Ev.step (fun k => put_step k _ n 7 (by omega) (by simp; omega)) ?_
  refine Ev.step (f := fun _ => some (b ++ numB n)) (fun k => ?_) (Ev.now _)
  simp only [tegularef15_Put.l0]
  rw [if_neg (by omega)]
  simp [numB]

/-- One step of the register. -/
def stepV (x : Int) : Int := if (Go.bits .and .u64 x 1) = 1 then Go.bits .xor .u64 (x / 2) 14514072000185962306 else x / 2
theorem step_f (x : Int) : crc64_step.f x = some (stepV x) := by unfold crc64_step.f stepV; split <;> rfl
def stepN : Nat → Int → Int
  | 0, x => x
  | k + 1, x => stepN k (stepV x)
def inV (x c : Int) : Int := Go.bits .xor .u64 x (IntKind.u64.wrap c)
def flip (x : Int) : Int := Go.bits .xor .u64 18446744073709551615 x
def sumV (b : List Int) : Int := flip (b.foldl (fun x c => stepN 8 (inV x c)) (flip 0))

theorem crc_l1 (l : List Int) (n i r : Int) (d : Nat) : ∀ (j : Nat) (x : Int), j + d = 8 → Ev (fun k => crc64_Update.l0 k (stepN d x) l n (wrap64 (i + 1))) r → Ev (fun k => crc64_Update.l1 k x l n i j) r := by
  induction d with
  | zero =>
    intro j x hj h
    refine Ev.step (fun k => ?_) h
    simp only [crc64_Update.l1]
    rw [if_neg (by omega)]
    rfl
  | succ d ih =>
    intro j x hj h
    refine Ev.step (fun k => ?_) (ih (j + 1) (stepV x) (by omega) h)
    simp only [crc64_Update.l1, step_f, Option.bind_some]
    rw [if_pos (by omega), w64 (by omega) (by omega)]
    simp
theorem rd_at (l : List Int) (i : Nat) : rd l (i : Int) = l.getD i 0 := by simp [rd]
theorem crc_l0 (l : List Int) (hl : l.length < 1000000) (d : Nat) : ∀ (i : Nat) (x : Int), i + d = l.length → Ev (fun k => crc64_Update.l0 k x l (l.length : Int) i) (flip ((l.drop i).foldl (fun x c => stepN 8 (inV x c)) x)) := by
  induction d with
  | zero =>
    intro i x hi
    refine Ev.step (fun k => ?_) (Ev.now _)
    simp only [crc64_Update.l0]
    rw [if_neg (by omega), List.drop_of_length_le (by omega)]
    rfl
  | succ d ih =>
    intro i x hi
    have hlt : i < l.length := by omega
    have e : (l.drop i).foldl (fun x c => stepN 8 (inV x c)) x = (l.drop (i + 1)).foldl (fun x c => stepN 8 (inV x c)) (stepN 8 (inV x (l.getD i 0))) := by
      rw [List.drop_eq_getElem_cons hlt, List.foldl_cons]; simp [List.getD_eq_getElem?_getD, hlt]
    rw [e]
    refine Ev.step (fun k => ?_) (crc_l1 l (l.length : Int) i _ 8 0 (inV x (l.getD i 0)) (by omega) (Ev.congr (fun k => ?_) (ih (i + 1) _ (by omega))))
    · simp only [crc64_Update.l0]
      rw [if_pos (by omega), if_pos (by omega), if_pos (by omega), rd_at]
      rfl
    · rw [w64 (by omega) (by omega)]
      simp
theorem sum_ev (l : List Int) (hl : l.length < 1000000) : Ev (fun k => crc64_Sum.f k l) (sumV l) := by
  refine Ev.bind (a := sumV l) ?_ (Ev.now _)
  exact crc_l0 l hl l.length 0 _ (by omega)

theorem steps_l0 (d : Nat) : ∀ (j : Nat) (x : Int), j + d = 8 → Ev (fun k => tegularef08_steps.l0 k x 8 j) (stepN d x) := by
  induction d with
  | zero =>
    intro j x hj
    refine Ev.step (fun k => ?_) (Ev.now _)
    simp only [tegularef08_steps.l0]
    rw [if_neg (by omega)]
    rfl
  | succ d ih =>
    intro j x hj
    refine Ev.step (fun k => ?_) (ih (j + 1) (stepV x) (by omega))
    simp only [tegularef08_steps.l0]
    rw [if_pos (by omega), w64 (by omega) (by omega)]
    unfold stepV
    split <;> simp
theorem ref_l0 (l : List Int) (hl : l.length < 1000000) (d : Nat) : ∀ (i : Nat) (x : Int), i + d = l.length → Ev (fun k => tegularef08_Update.l0 k l x i) (flip ((l.drop i).foldl (fun x c => stepN 8 (inV x c)) x)) := by
  induction d with
  | zero =>
    intro i x hi
    refine Ev.step (fun k => ?_) (Ev.now _)
    simp only [tegularef08_Update.l0]
    rw [if_neg (by omega), List.drop_of_length_le (by omega)]
    rfl
  | succ d ih =>
    intro i x hi
    have hlt : i < l.length := by omega
    have e : (l.drop i).foldl (fun x c => stepN 8 (inV x c)) x = (l.drop (i + 1)).foldl (fun x c => stepN 8 (inV x c)) (stepN 8 (inV x (l.getD i 0))) := by
      rw [List.drop_eq_getElem_cons hlt, List.foldl_cons]; simp [List.getD_eq_getElem?_getD, hlt]
    rw [e]
    refine Ev.step (f := fun k => (tegularef08_steps.f k (inV x (l.getD i 0)) 8).bind fun t => tegularef08_Update.l0 k l t ((i + 1 : Nat) : Int)) (fun k => ?_) (Ev.bind (steps_l0 8 0 _ (by omega)) (ih (i + 1) _ (by omega)))
    simp only [tegularef08_Update.l0]
    rw [if_pos (by omega), if_pos (by omega), rd_at, w64 (by omega) (by omega)]
    rfl
theorem ref_sum_ev (l : List Int) (hl : l.length < 1000000) : Ev (fun k => tegularef08_Sum.f k l) (sumV l) := by
  refine Ev.bind (a := sumV l) ?_ (Ev.now _)
  exact ref_l0 l hl l.length 0 _ (by omega)

/-- The sum of a run of nodes, and the root. -/
def runV (l : List Int) : Int := sumV (((l.length : Int) % 256) :: l.flatMap numB)
def topV (n : Int) (t : Int) : Int := sumV (numB (IntKind.u64.wrap n) ++ numB t)

theorem flat_len (l : List Int) : (l.flatMap numB).length = 8 * l.length := by
  induction l with
  | nil => rfl
  | cons a l ih => simp [List.flatMap_cons, ih, numB_length]; omega
theorem run_l0 (l : List Int) (hl : l.length < 1000) (d : Nat) : ∀ (i : Nat) (b : List Int), i + d = l.length → b.length ≤ 1 + 8 * i → Ev (fun k => sumtree_run.l0 k b l (l.length : Int) i) (sumV (b ++ (l.drop i).flatMap numB)) := by
  induction d with
  | zero =>
    intro i b hi hb
    refine Ev.step (f := fun k => (crc64_Sum.f k b).bind fun t => some t) (fun k => ?_) ?_
    · simp only [sumtree_run.l0]
      rw [if_neg (by omega)]
    · rw [List.drop_of_length_le (by omega)]
      simp only [List.flatMap_nil, List.append_nil]
      exact Ev.bind (sum_ev b (by omega)) (Ev.now _)
  | succ d ih =>
    intro i b hi hb
    have hlt : i < l.length := by omega
    have e : (l.drop i).flatMap numB = numB (l.getD i 0) ++ (l.drop (i + 1)).flatMap numB := by
      rw [List.drop_eq_getElem_cons hlt, List.flatMap_cons]; simp [List.getD_eq_getElem?_getD, hlt]
    rw [e, ← List.append_assoc]
    refine Ev.step (f := fun k => (sumtree_number.f k b (l.getD i 0)).bind fun t => sumtree_run.l0 k t l (l.length : Int) ((i + 1 : Nat) : Int)) (fun k => ?_) (Ev.bind (number_ev b _ (by omega)) (ih (i + 1) _ (by omega) (by simp [numB_length]; omega)))
    simp only [sumtree_run.l0]
    rw [if_pos (by omega), if_pos (by omega), if_pos (by omega), rd_at, w64 (by omega) (by omega)]
    rfl
theorem run_ev (l : List Int) (hl : l.length < 1000) : Ev (fun k => sumtree_run.f k l) (runV l) := by
  have h := run_l0 l hl l.length 0 [((l.length : Int)) % 256] (by omega) (by simp)
  exact h
theorem ref_run_l0 (l : List Int) (hl : l.length < 1000) (d : Nat) : ∀ (i : Nat) (b : List Int), i + d = l.length → b.length ≤ 1 + 8 * i → Ev (fun k => tegularef26_run.l0 k l b i) (sumV (b ++ (l.drop i).flatMap numB)) := by
  induction d with
  | zero =>
    intro i b hi hb
    refine Ev.step (f := fun k => (tegularef08_Sum.f k b).bind fun t => some t) (fun k => ?_) ?_
    · simp only [tegularef26_run.l0]
      rw [if_neg (by omega)]
    · rw [List.drop_of_length_le (by omega)]
      simp only [List.flatMap_nil, List.append_nil]
      exact Ev.bind (ref_sum_ev b (by omega)) (Ev.now _)
  | succ d ih =>
    intro i b hi hb
    have hlt : i < l.length := by omega
    have e : (l.drop i).flatMap numB = numB (l.getD i 0) ++ (l.drop (i + 1)).flatMap numB := by
      rw [List.drop_eq_getElem_cons hlt, List.flatMap_cons]; simp [List.getD_eq_getElem?_getD, hlt]
    rw [e, ← List.append_assoc]
    refine Ev.step (f := fun k => (tegularef15_Put.f k b (l.getD i 0) 8).bind fun t => tegularef26_run.l0 k l t ((i + 1 : Nat) : Int)) (fun k => ?_) (Ev.bind (put_ev b _ (by omega)) (ih (i + 1) _ (by omega) (by simp [numB_length]; omega)))
    simp only [tegularef26_run.l0]
    rw [if_pos (by omega), if_pos (by omega), rd_at, w64 (by omega) (by omega)]
    rfl
theorem ref_run_ev (l : List Int) (hl : l.length < 1000) : Ev (fun k => tegularef26_run.f k l) (runV l) := by
  have h := ref_run_l0 l hl l.length 0 [((l.length : Int)) % 256] (by omega) (by simp)
  exact h
theorem root_ev (n t : Int) : Ev (fun k => sumtree_root.f k n t) (topV n t) := by
  refine Ev.bind (number_ev [] _ (by simp)) (Ev.bind (number_ev _ t (by simp [numB_length])) (Ev.bind (a := topV n t) ?_ (Ev.now _)))
  exact sum_ev _ (by simp [numB_length])
theorem top_ev (n t : Int) : Ev (fun k => tegularef26_Top.f k n t) (topV n t) := by
  refine Ev.bind (put_ev [] _ (by simp)) (Ev.bind (put_ev _ t (by simp [numB_length])) (Ev.bind (a := topV n t) ?_ (Ev.now _)))
  exact ref_sum_ev _ (by simp [numB_length])
end Go.Proofs.Ytpofcknfnipkgaa.ST
