import Derived.Test.YthbnghdobmghlaaDoorVPCx0
import Derived.Test.YthbnghdobmghlaaDoorVPCx9
namespace Go.Proofs.YthbnghdobmghlaaDoor.PC
open Go.RowKit Go.Proofs.YthbnghdobmghlaaDoorW.PrintWords Go.Proofs.YthbnghdobmghlaaDoorW.PrintLast Go.Proofs.YthbnghdobmghlaaDoorW.PrintMore
attribute [local go_sem] max2_int min2_int max_two min_two max_three min_three max_four min_four   -- for this text's walks alone
set_option linter.unusedVariables false
set_option linter.unusedSimpArgs false
def tegularef39_words.l0 : Nat → ByteArray → Int → Int → Int → Int → Bool → ByteArray → ByteArray → Int → Int → List (S35) → Option (ByteArray)
  | 0, _, _, _, _, _, _, _, _, _, _, _ => none
  | k + 1, x6, x7, x156000, x156001, x156002, x156003, x156004, x156005, x156006, x156007, x156008 => if x7 < (x156008.length : Int) then (if x6.size + 1 ≤ 9223372036854775807 then (if 0 ≤ x7 then ((tegularef39_block.f ((rd_T35 x156008 x7).f0) ((rd_T35 x156008 x7).f1) ((rd_T35 x156008 x7).f2) ((rd_T35 x156008 x7).f3) ((rd_T35 x156008 x7).f4) ((rd_T35 x156008 x7).f5) ((rd_T35 x156008 x7).f6) ((rd_T35 x156008 x7).f7)).bind fun t160 => (if (x6 ++ (⟨#[32]⟩ : ByteArray)).size + t160.size ≤ 9223372036854775807 then (tegularef39_words.l0 k ((x6 ++ (⟨#[32]⟩ : ByteArray)) ++ t160) (wrap64 (x7 + 1)) x156000 x156001 x156002 x156003 x156004 x156005 x156006 x156007 x156008) else (none))) else (none)) else (none)) else (some x6)
def tegularef39_words.f (k : Nat) (a0_0 : Int) (a0_1 : Int) (a0_2 : Int) (a0_3 : Bool) (a0_4 : ByteArray) (a0_5 : ByteArray) (a0_6 : Int) (a0_7 : Int) (l0_8 : List (S35)) : Option (ByteArray) := (tegularef13_Number.f k a0_0).bind fun t156 => (if 1 + t156.size ≤ 9223372036854775807 then ((tegularef13_Number.f k a0_6).bind fun t157 => (if 1 + t157.size ≤ 9223372036854775807 then ((tegularef13_Number.f k a0_7).bind fun t158 => (if 1 + t158.size ≤ 9223372036854775807 then (if a0_1 = 1 then (if 4 + ((⟨#[32]⟩ : ByteArray) ++ t156).size ≤ 9223372036854775807 then (if ((⟨#[114, 101, 97, 100]⟩ : ByteArray) ++ ((⟨#[32]⟩ : ByteArray) ++ t156)).size + 1 ≤ 9223372036854775807 then (if (((⟨#[114, 101, 97, 100]⟩ : ByteArray) ++ ((⟨#[32]⟩ : ByteArray) ++ t156)) ++ (⟨#[32]⟩ : ByteArray)).size + a0_4.size ≤ 9223372036854775807 then (if ((((⟨#[114, 101, 97, 100]⟩ : ByteArray) ++ ((⟨#[32]⟩ : ByteArray) ++ t156)) ++ (⟨#[32]⟩ : ByteArray)) ++ a0_4).size + ((⟨#[32]⟩ : ByteArray) ++ t157).size ≤ 9223372036854775807 then (if (((((⟨#[114, 101, 97, 100]⟩ : ByteArray) ++ ((⟨#[32]⟩ : ByteArray) ++ t156)) ++ (⟨#[32]⟩ : ByteArray)) ++ a0_4) ++ ((⟨#[32]⟩ : ByteArray) ++ t157)).size + ((⟨#[32]⟩ : ByteArray) ++ t158).size ≤ 9223372036854775807 then (some ((((((⟨#[114, 101, 97, 100]⟩ : ByteArray) ++ ((⟨#[32]⟩ : ByteArray) ++ t156)) ++ (⟨#[32]⟩ : ByteArray)) ++ a0_4) ++ ((⟨#[32]⟩ : ByteArray) ++ t157)) ++ ((⟨#[32]⟩ : ByteArray) ++ t158))) else (none)) else (none)) else (none)) else (none)) else (none)) else (if a0_1 = 2 then (if 5 + ((⟨#[32]⟩ : ByteArray) ++ t156).size ≤ 9223372036854775807 then (if ((⟨#[119, 114, 105, 116, 101]⟩ : ByteArray) ++ ((⟨#[32]⟩ : ByteArray) ++ t156)).size + 1 ≤ 9223372036854775807 then (if (((⟨#[119, 114, 105, 116, 101]⟩ : ByteArray) ++ ((⟨#[32]⟩ : ByteArray) ++ t156)) ++ (⟨#[32]⟩ : ByteArray)).size + a0_4.size ≤ 9223372036854775807 then (if ((((⟨#[119, 114, 105, 116, 101]⟩ : ByteArray) ++ ((⟨#[32]⟩ : ByteArray) ++ t156)) ++ (⟨#[32]⟩ : ByteArray)) ++ a0_4).size + ((⟨#[32]⟩ : ByteArray) ++ t157).size ≤ 9223372036854775807 then (tegularef39_words.l0 k (((((⟨#[119, 114, 105, 116, 101]⟩ : ByteArray) ++ ((⟨#[32]⟩ : ByteArray) ++ t156)) ++ (⟨#[32]⟩ : ByteArray)) ++ a0_4) ++ ((⟨#[32]⟩ : ByteArray) ++ t157)) 0 a0_0 a0_1 a0_2 a0_3 a0_4 a0_5 a0_6 a0_7 l0_8) else (none)) else (none)) else (none)) else (none)) else (if a0_1 = 3 then (if 4 + ((⟨#[32]⟩ : ByteArray) ++ t156).size ≤ 9223372036854775807 then (if ((⟨#[116, 114, 105, 109]⟩ : ByteArray) ++ ((⟨#[32]⟩ : ByteArray) ++ t156)).size + 1 ≤ 9223372036854775807 then (if (((⟨#[116, 114, 105, 109]⟩ : ByteArray) ++ ((⟨#[32]⟩ : ByteArray) ++ t156)) ++ (⟨#[32]⟩ : ByteArray)).size + a0_4.size ≤ 9223372036854775807 then (if ((((⟨#[116, 114, 105, 109]⟩ : ByteArray) ++ ((⟨#[32]⟩ : ByteArray) ++ t156)) ++ (⟨#[32]⟩ : ByteArray)) ++ a0_4).size + ((⟨#[32]⟩ : ByteArray) ++ t157).size ≤ 9223372036854775807 then (if (((((⟨#[116, 114, 105, 109]⟩ : ByteArray) ++ ((⟨#[32]⟩ : ByteArray) ++ t156)) ++ (⟨#[32]⟩ : ByteArray)) ++ a0_4) ++ ((⟨#[32]⟩ : ByteArray) ++ t157)).size + ((⟨#[32]⟩ : ByteArray) ++ t158).size ≤ 9223372036854775807 then (some ((((((⟨#[116, 114, 105, 109]⟩ : ByteArray) ++ ((⟨#[32]⟩ : ByteArray) ++ t156)) ++ (⟨#[32]⟩ : ByteArray)) ++ a0_4) ++ ((⟨#[32]⟩ : ByteArray) ++ t157)) ++ ((⟨#[32]⟩ : ByteArray) ++ t158))) else (none)) else (none)) else (none)) else (none)) else (none)) else (if a0_1 = 4 then (if 5 + ((⟨#[32]⟩ : ByteArray) ++ t156).size ≤ 9223372036854775807 then (some ((⟨#[102, 108, 117, 115, 104]⟩ : ByteArray) ++ ((⟨#[32]⟩ : ByteArray) ++ t156))) else (none)) else (if a0_1 = 5 then (if 6 + ((⟨#[32]⟩ : ByteArray) ++ t156).size ≤ 9223372036854775807 then (if ((⟨#[99, 114, 101, 97, 116, 101]⟩ : ByteArray) ++ ((⟨#[32]⟩ : ByteArray) ++ t156)).size + 1 ≤ 9223372036854775807 then (if (((⟨#[99, 114, 101, 97, 116, 101]⟩ : ByteArray) ++ ((⟨#[32]⟩ : ByteArray) ++ t156)) ++ (⟨#[32]⟩ : ByteArray)).size + a0_4.size ≤ 9223372036854775807 then (if ((((⟨#[99, 114, 101, 97, 116, 101]⟩ : ByteArray) ++ ((⟨#[32]⟩ : ByteArray) ++ t156)) ++ (⟨#[32]⟩ : ByteArray)) ++ a0_4).size + ((⟨#[32]⟩ : ByteArray) ++ t158).size ≤ 9223372036854775807 then (if (((((⟨#[99, 114, 101, 97, 116, 101]⟩ : ByteArray) ++ ((⟨#[32]⟩ : ByteArray) ++ t156)) ++ (⟨#[32]⟩ : ByteArray)) ++ a0_4) ++ ((⟨#[32]⟩ : ByteArray) ++ t158)).size + ((⟨#[32]⟩ : ByteArray) ++ t157).size ≤ 9223372036854775807 then (some ((((((⟨#[99, 114, 101, 97, 116, 101]⟩ : ByteArray) ++ ((⟨#[32]⟩ : ByteArray) ++ t156)) ++ (⟨#[32]⟩ : ByteArray)) ++ a0_4) ++ ((⟨#[32]⟩ : ByteArray) ++ t158)) ++ ((⟨#[32]⟩ : ByteArray) ++ t157))) else (none)) else (none)) else (none)) else (none)) else (none)) else (if a0_1 = 6 then (if 5 + ((⟨#[32]⟩ : ByteArray) ++ t156).size ≤ 9223372036854775807 then (if ((⟨#[99, 108, 111, 110, 101]⟩ : ByteArray) ++ ((⟨#[32]⟩ : ByteArray) ++ t156)).size + 1 ≤ 9223372036854775807 then (if (((⟨#[99, 108, 111, 110, 101]⟩ : ByteArray) ++ ((⟨#[32]⟩ : ByteArray) ++ t156)) ++ (⟨#[32]⟩ : ByteArray)).size + a0_4.size ≤ 9223372036854775807 then (if ((((⟨#[99, 108, 111, 110, 101]⟩ : ByteArray) ++ ((⟨#[32]⟩ : ByteArray) ++ t156)) ++ (⟨#[32]⟩ : ByteArray)) ++ a0_4).size + 1 ≤ 9223372036854775807 then (if (((((⟨#[99, 108, 111, 110, 101]⟩ : ByteArray) ++ ((⟨#[32]⟩ : ByteArray) ++ t156)) ++ (⟨#[32]⟩ : ByteArray)) ++ a0_4) ++ (⟨#[32]⟩ : ByteArray)).size + a0_5.size ≤ 9223372036854775807 then (some ((((((⟨#[99, 108, 111, 110, 101]⟩ : ByteArray) ++ ((⟨#[32]⟩ : ByteArray) ++ t156)) ++ (⟨#[32]⟩ : ByteArray)) ++ a0_4) ++ (⟨#[32]⟩ : ByteArray)) ++ a0_5)) else (none)) else (none)) else (none)) else (none)) else (none)) else (if 6 + ((⟨#[32]⟩ : ByteArray) ++ t156).size ≤ 9223372036854775807 then (if ((⟨#[100, 101, 108, 101, 116, 101]⟩ : ByteArray) ++ ((⟨#[32]⟩ : ByteArray) ++ t156)).size + 1 ≤ 9223372036854775807 then (if (((⟨#[100, 101, 108, 101, 116, 101]⟩ : ByteArray) ++ ((⟨#[32]⟩ : ByteArray) ++ t156)) ++ (⟨#[32]⟩ : ByteArray)).size + a0_4.size ≤ 9223372036854775807 then (some ((((⟨#[100, 101, 108, 101, 116, 101]⟩ : ByteArray) ++ ((⟨#[32]⟩ : ByteArray) ++ t156)) ++ (⟨#[32]⟩ : ByteArray)) ++ a0_4)) else (none)) else (none)) else (none)))))))) else (none))) else (none))) else (none))
def tegularef39_words.T2 : Bool × List (List Nat × List Nat) := (true, [([], []), ([0], [0]), ([1], [1]), ([2], [2]), ([], []), ([4], [4]), ([5, 2], [5]), ([6], [6]), ([3, 6, 0, 1, 2, 3], [3]), ([7, 8, 0, 1, 2, 3, 4, 5, 6, 7, 8], [7])])
def tegularef39_words.B2 : List Nat := [0, 1, 3, 7, 0, 16, 55, 119, 127, 511]
theorem tegularef39_words.tab2 : rtab .any (opsOf Tryd.f37 2) = tegularef39_words.T2 := by kernel_rfl
theorem tegularef39_words.bits2 : waitsOk tegularef39_words.T2.2 tegularef39_words.B2 = true := by kernel_rfl
set_option maxHeartbeats 8000000 in
set_option maxRecDepth 100000 in
theorem tegularef39_words.calls (k : Nat) (a0_0 : Int) (a0_1 : Int) (a0_2 : Int) (a0_3 : Bool) (a0_4 : ByteArray) (a0_5 : ByteArray) (a0_6 : Int) (a0_7 : Int) (A0_8 : Option Addr) (c0_8 : Nat) (l0_8 : List (S35)) (r : ByteArray) (w : World) (hr0_8 : Kd.C k35 w A0_8 l0_8.length l0_8) (hc0_8 : l0_8.length ≤ c0_8) (h : tegularef39_words.f k a0_0 a0_1 a0_2 a0_3 a0_4 a0_5 a0_6 a0_7 l0_8 = some r) :
    Calls Tryd.prog 37 #[.agg #[.int .i64 a0_0, .int .i64 a0_1, .int .i64 a0_2, .bool a0_3, .string a0_4, .string a0_5, .int .i64 a0_6, .int .i64 a0_7, .slice A0_8 l0_8.length c0_8]] w fun e w' => e = .returned (.string r) ∧ Below w.heap.size w w' := by
  have hu24 := Tryd.underlying24
  have hu35 := Tryd.underlying35
  have HR0_8 := Aside0.mk hr0_8
  have HC0_8 := Aside0.mk hc0_8
  clear hr0_8 hc0_8
  have HB := Aside0.mk (Below.refl w.heap.size w)
  have H : ((tegularef13_Number.f k a0_0).bind fun t156 => (if 1 + t156.size ≤ 9223372036854775807 then ((tegularef13_Number.f k a0_6).bind fun t157 => (if 1 + t157.size ≤ 9223372036854775807 then ((tegularef13_Number.f k a0_7).bind fun t158 => (if 1 + t158.size ≤ 9223372036854775807 then (if a0_1 = 1 then (if 4 + ((⟨#[32]⟩ : ByteArray) ++ t156).size ≤ 9223372036854775807 then (if ((⟨#[114, 101, 97, 100]⟩ : ByteArray) ++ ((⟨#[32]⟩ : ByteArray) ++ t156)).size + 1 ≤ 9223372036854775807 then (if (((⟨#[114, 101, 97, 100]⟩ : ByteArray) ++ ((⟨#[32]⟩ : ByteArray) ++ t156)) ++ (⟨#[32]⟩ : ByteArray)).size + a0_4.size ≤ 9223372036854775807 then (if ((((⟨#[114, 101, 97, 100]⟩ : ByteArray) ++ ((⟨#[32]⟩ : ByteArray) ++ t156)) ++ (⟨#[32]⟩ : ByteArray)) ++ a0_4).size + ((⟨#[32]⟩ : ByteArray) ++ t157).size ≤ 9223372036854775807 then (if (((((⟨#[114, 101, 97, 100]⟩ : ByteArray) ++ ((⟨#[32]⟩ : ByteArray) ++ t156)) ++ (⟨#[32]⟩ : ByteArray)) ++ a0_4) ++ ((⟨#[32]⟩ : ByteArray) ++ t157)).size + ((⟨#[32]⟩ : ByteArray) ++ t158).size ≤ 9223372036854775807 then (some ((((((⟨#[114, 101, 97, 100]⟩ : ByteArray) ++ ((⟨#[32]⟩ : ByteArray) ++ t156)) ++ (⟨#[32]⟩ : ByteArray)) ++ a0_4) ++ ((⟨#[32]⟩ : ByteArray) ++ t157)) ++ ((⟨#[32]⟩ : ByteArray) ++ t158))) else (none)) else (none)) else (none)) else (none)) else (none)) else (if a0_1 = 2 then (if 5 + ((⟨#[32]⟩ : ByteArray) ++ t156).size ≤ 9223372036854775807 then (if ((⟨#[119, 114, 105, 116, 101]⟩ : ByteArray) ++ ((⟨#[32]⟩ : ByteArray) ++ t156)).size + 1 ≤ 9223372036854775807 then (if (((⟨#[119, 114, 105, 116, 101]⟩ : ByteArray) ++ ((⟨#[32]⟩ : ByteArray) ++ t156)) ++ (⟨#[32]⟩ : ByteArray)).size + a0_4.size ≤ 9223372036854775807 then (if ((((⟨#[119, 114, 105, 116, 101]⟩ : ByteArray) ++ ((⟨#[32]⟩ : ByteArray) ++ t156)) ++ (⟨#[32]⟩ : ByteArray)) ++ a0_4).size + ((⟨#[32]⟩ : ByteArray) ++ t157).size ≤ 9223372036854775807 then (tegularef39_words.l0 k (((((⟨#[119, 114, 105, 116, 101]⟩ : ByteArray) ++ ((⟨#[32]⟩ : ByteArray) ++ t156)) ++ (⟨#[32]⟩ : ByteArray)) ++ a0_4) ++ ((⟨#[32]⟩ : ByteArray) ++ t157)) 0 a0_0 a0_1 a0_2 a0_3 a0_4 a0_5 a0_6 a0_7 l0_8) else (none)) else (none)) else (none)) else (none)) else (if a0_1 = 3 then (if 4 + ((⟨#[32]⟩ : ByteArray) ++ t156).size ≤ 9223372036854775807 then (if ((⟨#[116, 114, 105, 109]⟩ : ByteArray) ++ ((⟨#[32]⟩ : ByteArray) ++ t156)).size + 1 ≤ 9223372036854775807 then (if (((⟨#[116, 114, 105, 109]⟩ : ByteArray) ++ ((⟨#[32]⟩ : ByteArray) ++ t156)) ++ (⟨#[32]⟩ : ByteArray)).size + a0_4.size ≤ 9223372036854775807 then (if ((((⟨#[116, 114, 105, 109]⟩ : ByteArray) ++ ((⟨#[32]⟩ : ByteArray) ++ t156)) ++ (⟨#[32]⟩ : ByteArray)) ++ a0_4).size + ((⟨#[32]⟩ : ByteArray) ++ t157).size ≤ 9223372036854775807 then (if (((((⟨#[116, 114, 105, 109]⟩ : ByteArray) ++ ((⟨#[32]⟩ : ByteArray) ++ t156)) ++ (⟨#[32]⟩ : ByteArray)) ++ a0_4) ++ ((⟨#[32]⟩ : ByteArray) ++ t157)).size + ((⟨#[32]⟩ : ByteArray) ++ t158).size ≤ 9223372036854775807 then (some ((((((⟨#[116, 114, 105, 109]⟩ : ByteArray) ++ ((⟨#[32]⟩ : ByteArray) ++ t156)) ++ (⟨#[32]⟩ : ByteArray)) ++ a0_4) ++ ((⟨#[32]⟩ : ByteArray) ++ t157)) ++ ((⟨#[32]⟩ : ByteArray) ++ t158))) else (none)) else (none)) else (none)) else (none)) else (none)) else (if a0_1 = 4 then (if 5 + ((⟨#[32]⟩ : ByteArray) ++ t156).size ≤ 9223372036854775807 then (some ((⟨#[102, 108, 117, 115, 104]⟩ : ByteArray) ++ ((⟨#[32]⟩ : ByteArray) ++ t156))) else (none)) else (if a0_1 = 5 then (if 6 + ((⟨#[32]⟩ : ByteArray) ++ t156).size ≤ 9223372036854775807 then (if ((⟨#[99, 114, 101, 97, 116, 101]⟩ : ByteArray) ++ ((⟨#[32]⟩ : ByteArray) ++ t156)).size + 1 ≤ 9223372036854775807 then (if (((⟨#[99, 114, 101, 97, 116, 101]⟩ : ByteArray) ++ ((⟨#[32]⟩ : ByteArray) ++ t156)) ++ (⟨#[32]⟩ : ByteArray)).size + a0_4.size ≤ 9223372036854775807 then (if ((((⟨#[99, 114, 101, 97, 116, 101]⟩ : ByteArray) ++ ((⟨#[32]⟩ : ByteArray) ++ t156)) ++ (⟨#[32]⟩ : ByteArray)) ++ a0_4).size + ((⟨#[32]⟩ : ByteArray) ++ t158).size ≤ 9223372036854775807 then (if (((((⟨#[99, 114, 101, 97, 116, 101]⟩ : ByteArray) ++ ((⟨#[32]⟩ : ByteArray) ++ t156)) ++ (⟨#[32]⟩ : ByteArray)) ++ a0_4) ++ ((⟨#[32]⟩ : ByteArray) ++ t158)).size + ((⟨#[32]⟩ : ByteArray) ++ t157).size ≤ 9223372036854775807 then (some ((((((⟨#[99, 114, 101, 97, 116, 101]⟩ : ByteArray) ++ ((⟨#[32]⟩ : ByteArray) ++ t156)) ++ (⟨#[32]⟩ : ByteArray)) ++ a0_4) ++ ((⟨#[32]⟩ : ByteArray) ++ t158)) ++ ((⟨#[32]⟩ : ByteArray) ++ t157))) else (none)) else (none)) else (none)) else (none)) else (none)) else (if a0_1 = 6 then (if 5 + ((⟨#[32]⟩ : ByteArray) ++ t156).size ≤ 9223372036854775807 then (if ((⟨#[99, 108, 111, 110, 101]⟩ : ByteArray) ++ ((⟨#[32]⟩ : ByteArray) ++ t156)).size + 1 ≤ 9223372036854775807 then (if (((⟨#[99, 108, 111, 110, 101]⟩ : ByteArray) ++ ((⟨#[32]⟩ : ByteArray) ++ t156)) ++ (⟨#[32]⟩ : ByteArray)).size + a0_4.size ≤ 9223372036854775807 then (if ((((⟨#[99, 108, 111, 110, 101]⟩ : ByteArray) ++ ((⟨#[32]⟩ : ByteArray) ++ t156)) ++ (⟨#[32]⟩ : ByteArray)) ++ a0_4).size + 1 ≤ 9223372036854775807 then (if (((((⟨#[99, 108, 111, 110, 101]⟩ : ByteArray) ++ ((⟨#[32]⟩ : ByteArray) ++ t156)) ++ (⟨#[32]⟩ : ByteArray)) ++ a0_4) ++ (⟨#[32]⟩ : ByteArray)).size + a0_5.size ≤ 9223372036854775807 then (some ((((((⟨#[99, 108, 111, 110, 101]⟩ : ByteArray) ++ ((⟨#[32]⟩ : ByteArray) ++ t156)) ++ (⟨#[32]⟩ : ByteArray)) ++ a0_4) ++ (⟨#[32]⟩ : ByteArray)) ++ a0_5)) else (none)) else (none)) else (none)) else (none)) else (none)) else (if 6 + ((⟨#[32]⟩ : ByteArray) ++ t156).size ≤ 9223372036854775807 then (if ((⟨#[100, 101, 108, 101, 116, 101]⟩ : ByteArray) ++ ((⟨#[32]⟩ : ByteArray) ++ t156)).size + 1 ≤ 9223372036854775807 then (if (((⟨#[100, 101, 108, 101, 116, 101]⟩ : ByteArray) ++ ((⟨#[32]⟩ : ByteArray) ++ t156)) ++ (⟨#[32]⟩ : ByteArray)).size + a0_4.size ≤ 9223372036854775807 then (some ((((⟨#[100, 101, 108, 101, 116, 101]⟩ : ByteArray) ++ ((⟨#[32]⟩ : ByteArray) ++ t156)) ++ (⟨#[32]⟩ : ByteArray)) ++ a0_4)) else (none)) else (none)) else (none)))))))) else (none))) else (none))) else (none))) = some r := h
  clear h
  replace H := Option.bind_eq_some_iff.mp H
  obtain ⟨t156, A20, H⟩ := H
  replace H : (if 1 + t156.size ≤ 9223372036854775807 then ((tegularef13_Number.f k a0_6).bind fun t157 => (if 1 + t157.size ≤ 9223372036854775807 then ((tegularef13_Number.f k a0_7).bind fun t158 => (if 1 + t158.size ≤ 9223372036854775807 then (if a0_1 = 1 then (if 4 + ((⟨#[32]⟩ : ByteArray) ++ t156).size ≤ 9223372036854775807 then (if ((⟨#[114, 101, 97, 100]⟩ : ByteArray) ++ ((⟨#[32]⟩ : ByteArray) ++ t156)).size + 1 ≤ 9223372036854775807 then (if (((⟨#[114, 101, 97, 100]⟩ : ByteArray) ++ ((⟨#[32]⟩ : ByteArray) ++ t156)) ++ (⟨#[32]⟩ : ByteArray)).size + a0_4.size ≤ 9223372036854775807 then (if ((((⟨#[114, 101, 97, 100]⟩ : ByteArray) ++ ((⟨#[32]⟩ : ByteArray) ++ t156)) ++ (⟨#[32]⟩ : ByteArray)) ++ a0_4).size + ((⟨#[32]⟩ : ByteArray) ++ t157).size ≤ 9223372036854775807 then (if (((((⟨#[114, 101, 97, 100]⟩ : ByteArray) ++ ((⟨#[32]⟩ : ByteArray) ++ t156)) ++ (⟨#[32]⟩ : ByteArray)) ++ a0_4) ++ ((⟨#[32]⟩ : ByteArray) ++ t157)).size + ((⟨#[32]⟩ : ByteArray) ++ t158).size ≤ 9223372036854775807 then (some ((((((⟨#[114, 101, 97, 100]⟩ : ByteArray) ++ ((⟨#[32]⟩ : ByteArray) ++ t156)) ++ (⟨#[32]⟩ : ByteArray)) ++ a0_4) ++ ((⟨#[32]⟩ : ByteArray) ++ t157)) ++ ((⟨#[32]⟩ : ByteArray) ++ t158))) else (none)) else (none)) else (none)) else (none)) else (none)) else (if a0_1 = 2 then (if 5 + ((⟨#[32]⟩ : ByteArray) ++ t156).size ≤ 9223372036854775807 then (if ((⟨#[119, 114, 105, 116, 101]⟩ : ByteArray) ++ ((⟨#[32]⟩ : ByteArray) ++ t156)).size + 1 ≤ 9223372036854775807 then (if (((⟨#[119, 114, 105, 116, 101]⟩ : ByteArray) ++ ((⟨#[32]⟩ : ByteArray) ++ t156)) ++ (⟨#[32]⟩ : ByteArray)).size + a0_4.size ≤ 9223372036854775807 then (if ((((⟨#[119, 114, 105, 116, 101]⟩ : ByteArray) ++ ((⟨#[32]⟩ : ByteArray) ++ t156)) ++ (⟨#[32]⟩ : ByteArray)) ++ a0_4).size + ((⟨#[32]⟩ : ByteArray) ++ t157).size ≤ 9223372036854775807 then (tegularef39_words.l0 k (((((⟨#[119, 114, 105, 116, 101]⟩ : ByteArray) ++ ((⟨#[32]⟩ : ByteArray) ++ t156)) ++ (⟨#[32]⟩ : ByteArray)) ++ a0_4) ++ ((⟨#[32]⟩ : ByteArray) ++ t157)) 0 a0_0 a0_1 a0_2 a0_3 a0_4 a0_5 a0_6 a0_7 l0_8) else (none)) else (none)) else (none)) else (none)) else (if a0_1 = 3 then (if 4 + ((⟨#[32]⟩ : ByteArray) ++ t156).size ≤ 9223372036854775807 then (if ((⟨#[116, 114, 105, 109]⟩ : ByteArray) ++ ((⟨#[32]⟩ : ByteArray) ++ t156)).size + 1 ≤ 9223372036854775807 then (if (((⟨#[116, 114, 105, 109]⟩ : ByteArray) ++ ((⟨#[32]⟩ : ByteArray) ++ t156)) ++ (⟨#[32]⟩ : ByteArray)).size + a0_4.size ≤ 9223372036854775807 then (if ((((⟨#[116, 114, 105, 109]⟩ : ByteArray) ++ ((⟨#[32]⟩ : ByteArray) ++ t156)) ++ (⟨#[32]⟩ : ByteArray)) ++ a0_4).size + ((⟨#[32]⟩ : ByteArray) ++ t157).size ≤ 9223372036854775807 then (if (((((⟨#[116, 114, 105, 109]⟩ : ByteArray) ++ ((⟨#[32]⟩ : ByteArray) ++ t156)) ++ (⟨#[32]⟩ : ByteArray)) ++ a0_4) ++ ((⟨#[32]⟩ : ByteArray) ++ t157)).size + ((⟨#[32]⟩ : ByteArray) ++ t158).size ≤ 9223372036854775807 then (some ((((((⟨#[116, 114, 105, 109]⟩ : ByteArray) ++ ((⟨#[32]⟩ : ByteArray) ++ t156)) ++ (⟨#[32]⟩ : ByteArray)) ++ a0_4) ++ ((⟨#[32]⟩ : ByteArray) ++ t157)) ++ ((⟨#[32]⟩ : ByteArray) ++ t158))) else (none)) else (none)) else (none)) else (none)) else (none)) else (if a0_1 = 4 then (if 5 + ((⟨#[32]⟩ : ByteArray) ++ t156).size ≤ 9223372036854775807 then (some ((⟨#[102, 108, 117, 115, 104]⟩ : ByteArray) ++ ((⟨#[32]⟩ : ByteArray) ++ t156))) else (none)) else (if a0_1 = 5 then (if 6 + ((⟨#[32]⟩ : ByteArray) ++ t156).size ≤ 9223372036854775807 then (if ((⟨#[99, 114, 101, 97, 116, 101]⟩ : ByteArray) ++ ((⟨#[32]⟩ : ByteArray) ++ t156)).size + 1 ≤ 9223372036854775807 then (if (((⟨#[99, 114, 101, 97, 116, 101]⟩ : ByteArray) ++ ((⟨#[32]⟩ : ByteArray) ++ t156)) ++ (⟨#[32]⟩ : ByteArray)).size + a0_4.size ≤ 9223372036854775807 then (if ((((⟨#[99, 114, 101, 97, 116, 101]⟩ : ByteArray) ++ ((⟨#[32]⟩ : ByteArray) ++ t156)) ++ (⟨#[32]⟩ : ByteArray)) ++ a0_4).size + ((⟨#[32]⟩ : ByteArray) ++ t158).size ≤ 9223372036854775807 then (if (((((⟨#[99, 114, 101, 97, 116, 101]⟩ : ByteArray) ++ ((⟨#[32]⟩ : ByteArray) ++ t156)) ++ (⟨#[32]⟩ : ByteArray)) ++ a0_4) ++ ((⟨#[32]⟩ : ByteArray) ++ t158)).size + ((⟨#[32]⟩ : ByteArray) ++ t157).size ≤ 9223372036854775807 then (some ((((((⟨#[99, 114, 101, 97, 116, 101]⟩ : ByteArray) ++ ((⟨#[32]⟩ : ByteArray) ++ t156)) ++ (⟨#[32]⟩ : ByteArray)) ++ a0_4) ++ ((⟨#[32]⟩ : ByteArray) ++ t158)) ++ ((⟨#[32]⟩ : ByteArray) ++ t157))) else (none)) else (none)) else (none)) else (none)) else (none)) else (if a0_1 = 6 then (if 5 + ((⟨#[32]⟩ : ByteArray) ++ t156).size ≤ 9223372036854775807 then (if ((⟨#[99, 108, 111, 110, 101]⟩ : ByteArray) ++ ((⟨#[32]⟩ : ByteArray) ++ t156)).size + 1 ≤ 9223372036854775807 then (if (((⟨#[99, 108, 111, 110, 101]⟩ : ByteArray) ++ ((⟨#[32]⟩ : ByteArray) ++ t156)) ++ (⟨#[32]⟩ : ByteArray)).size + a0_4.size ≤ 9223372036854775807 then (if ((((⟨#[99, 108, 111, 110, 101]⟩ : ByteArray) ++ ((⟨#[32]⟩ : ByteArray) ++ t156)) ++ (⟨#[32]⟩ : ByteArray)) ++ a0_4).size + 1 ≤ 9223372036854775807 then (if (((((⟨#[99, 108, 111, 110, 101]⟩ : ByteArray) ++ ((⟨#[32]⟩ : ByteArray) ++ t156)) ++ (⟨#[32]⟩ : ByteArray)) ++ a0_4) ++ (⟨#[32]⟩ : ByteArray)).size + a0_5.size ≤ 9223372036854775807 then (some ((((((⟨#[99, 108, 111, 110, 101]⟩ : ByteArray) ++ ((⟨#[32]⟩ : ByteArray) ++ t156)) ++ (⟨#[32]⟩ : ByteArray)) ++ a0_4) ++ (⟨#[32]⟩ : ByteArray)) ++ a0_5)) else (none)) else (none)) else (none)) else (none)) else (none)) else (if 6 + ((⟨#[32]⟩ : ByteArray) ++ t156).size ≤ 9223372036854775807 then (if ((⟨#[100, 101, 108, 101, 116, 101]⟩ : ByteArray) ++ ((⟨#[32]⟩ : ByteArray) ++ t156)).size + 1 ≤ 9223372036854775807 then (if (((⟨#[100, 101, 108, 101, 116, 101]⟩ : ByteArray) ++ ((⟨#[32]⟩ : ByteArray) ++ t156)) ++ (⟨#[32]⟩ : ByteArray)).size + a0_4.size ≤ 9223372036854775807 then (some ((((⟨#[100, 101, 108, 101, 116, 101]⟩ : ByteArray) ++ ((⟨#[32]⟩ : ByteArray) ++ t156)) ++ (⟨#[32]⟩ : ByteArray)) ++ a0_4)) else (none)) else (none)) else (none)))))))) else (none))) else (none))) else (none)) = some r := H
  have A2 := Aside0.mk A20
  clear A20
  by_cases c3 : 1 + t156.size ≤ 9223372036854775807
  · rw [if_pos c3] at H
    have c3b0 := eq_true c3
    have c3b1 : decide (1 + t156.size ≤ 9223372036854775807) = true := decide_eq_true c3
    try have c3b2 : (9223372036854775807 < 1 + t156.size) = False := eq_false (Nat.not_lt.2 c3)
    replace H := Option.bind_eq_some_iff.mp H
    obtain ⟨t157, A40, H⟩ := H
    replace H : (if 1 + t157.size ≤ 9223372036854775807 then ((tegularef13_Number.f k a0_7).bind fun t158 => (if 1 + t158.size ≤ 9223372036854775807 then (if a0_1 = 1 then (if 4 + ((⟨#[32]⟩ : ByteArray) ++ t156).size ≤ 9223372036854775807 then (if ((⟨#[114, 101, 97, 100]⟩ : ByteArray) ++ ((⟨#[32]⟩ : ByteArray) ++ t156)).size + 1 ≤ 9223372036854775807 then (if (((⟨#[114, 101, 97, 100]⟩ : ByteArray) ++ ((⟨#[32]⟩ : ByteArray) ++ t156)) ++ (⟨#[32]⟩ : ByteArray)).size + a0_4.size ≤ 9223372036854775807 then (if ((((⟨#[114, 101, 97, 100]⟩ : ByteArray) ++ ((⟨#[32]⟩ : ByteArray) ++ t156)) ++ (⟨#[32]⟩ : ByteArray)) ++ a0_4).size + ((⟨#[32]⟩ : ByteArray) ++ t157).size ≤ 9223372036854775807 then (if (((((⟨#[114, 101, 97, 100]⟩ : ByteArray) ++ ((⟨#[32]⟩ : ByteArray) ++ t156)) ++ (⟨#[32]⟩ : ByteArray)) ++ a0_4) ++ ((⟨#[32]⟩ : ByteArray) ++ t157)).size + ((⟨#[32]⟩ : ByteArray) ++ t158).size ≤ 9223372036854775807 then (some ((((((⟨#[114, 101, 97, 100]⟩ : ByteArray) ++ ((⟨#[32]⟩ : ByteArray) ++ t156)) ++ (⟨#[32]⟩ : ByteArray)) ++ a0_4) ++ ((⟨#[32]⟩ : ByteArray) ++ t157)) ++ ((⟨#[32]⟩ : ByteArray) ++ t158))) else (none)) else (none)) else (none)) else (none)) else (none)) else (if a0_1 = 2 then (if 5 + ((⟨#[32]⟩ : ByteArray) ++ t156).size ≤ 9223372036854775807 then (if ((⟨#[119, 114, 105, 116, 101]⟩ : ByteArray) ++ ((⟨#[32]⟩ : ByteArray) ++ t156)).size + 1 ≤ 9223372036854775807 then (if (((⟨#[119, 114, 105, 116, 101]⟩ : ByteArray) ++ ((⟨#[32]⟩ : ByteArray) ++ t156)) ++ (⟨#[32]⟩ : ByteArray)).size + a0_4.size ≤ 9223372036854775807 then (if ((((⟨#[119, 114, 105, 116, 101]⟩ : ByteArray) ++ ((⟨#[32]⟩ : ByteArray) ++ t156)) ++ (⟨#[32]⟩ : ByteArray)) ++ a0_4).size + ((⟨#[32]⟩ : ByteArray) ++ t157).size ≤ 9223372036854775807 then (tegularef39_words.l0 k (((((⟨#[119, 114, 105, 116, 101]⟩ : ByteArray) ++ ((⟨#[32]⟩ : ByteArray) ++ t156)) ++ (⟨#[32]⟩ : ByteArray)) ++ a0_4) ++ ((⟨#[32]⟩ : ByteArray) ++ t157)) 0 a0_0 a0_1 a0_2 a0_3 a0_4 a0_5 a0_6 a0_7 l0_8) else (none)) else (none)) else (none)) else (none)) else (if a0_1 = 3 then (if 4 + ((⟨#[32]⟩ : ByteArray) ++ t156).size ≤ 9223372036854775807 then (if ((⟨#[116, 114, 105, 109]⟩ : ByteArray) ++ ((⟨#[32]⟩ : ByteArray) ++ t156)).size + 1 ≤ 9223372036854775807 then (if (((⟨#[116, 114, 105, 109]⟩ : ByteArray) ++ ((⟨#[32]⟩ : ByteArray) ++ t156)) ++ (⟨#[32]⟩ : ByteArray)).size + a0_4.size ≤ 9223372036854775807 then (if ((((⟨#[116, 114, 105, 109]⟩ : ByteArray) ++ ((⟨#[32]⟩ : ByteArray) ++ t156)) ++ (⟨#[32]⟩ : ByteArray)) ++ a0_4).size + ((⟨#[32]⟩ : ByteArray) ++ t157).size ≤ 9223372036854775807 then (if (((((⟨#[116, 114, 105, 109]⟩ : ByteArray) ++ ((⟨#[32]⟩ : ByteArray) ++ t156)) ++ (⟨#[32]⟩ : ByteArray)) ++ a0_4) ++ ((⟨#[32]⟩ : ByteArray) ++ t157)).size + ((⟨#[32]⟩ : ByteArray) ++ t158).size ≤ 9223372036854775807 then (some ((((((⟨#[116, 114, 105, 109]⟩ : ByteArray) ++ ((⟨#[32]⟩ : ByteArray) ++ t156)) ++ (⟨#[32]⟩ : ByteArray)) ++ a0_4) ++ ((⟨#[32]⟩ : ByteArray) ++ t157)) ++ ((⟨#[32]⟩ : ByteArray) ++ t158))) else (none)) else (none)) else (none)) else (none)) else (none)) else (if a0_1 = 4 then (if 5 + ((⟨#[32]⟩ : ByteArray) ++ t156).size ≤ 9223372036854775807 then (some ((⟨#[102, 108, 117, 115, 104]⟩ : ByteArray) ++ ((⟨#[32]⟩ : ByteArray) ++ t156))) else (none)) else (if a0_1 = 5 then (if 6 + ((⟨#[32]⟩ : ByteArray) ++ t156).size ≤ 9223372036854775807 then (if ((⟨#[99, 114, 101, 97, 116, 101]⟩ : ByteArray) ++ ((⟨#[32]⟩ : ByteArray) ++ t156)).size + 1 ≤ 9223372036854775807 then (if (((⟨#[99, 114, 101, 97, 116, 101]⟩ : ByteArray) ++ ((⟨#[32]⟩ : ByteArray) ++ t156)) ++ (⟨#[32]⟩ : ByteArray)).size + a0_4.size ≤ 9223372036854775807 then (if ((((⟨#[99, 114, 101, 97, 116, 101]⟩ : ByteArray) ++ ((⟨#[32]⟩ : ByteArray) ++ t156)) ++ (⟨#[32]⟩ : ByteArray)) ++ a0_4).size + ((⟨#[32]⟩ : ByteArray) ++ t158).size ≤ 9223372036854775807 then (if (((((⟨#[99, 114, 101, 97, 116, 101]⟩ : ByteArray) ++ ((⟨#[32]⟩ : ByteArray) ++ t156)) ++ (⟨#[32]⟩ : ByteArray)) ++ a0_4) ++ ((⟨#[32]⟩ : ByteArray) ++ t158)).size + ((⟨#[32]⟩ : ByteArray) ++ t157).size ≤ 9223372036854775807 then (some ((((((⟨#[99, 114, 101, 97, 116, 101]⟩ : ByteArray) ++ ((⟨#[32]⟩ : ByteArray) ++ t156)) ++ (⟨#[32]⟩ : ByteArray)) ++ a0_4) ++ ((⟨#[32]⟩ : ByteArray) ++ t158)) ++ ((⟨#[32]⟩ : ByteArray) ++ t157))) else (none)) else (none)) else (none)) else (none)) else (none)) else (if a0_1 = 6 then (if 5 + ((⟨#[32]⟩ : ByteArray) ++ t156).size ≤ 9223372036854775807 then (if ((⟨#[99, 108, 111, 110, 101]⟩ : ByteArray) ++ ((⟨#[32]⟩ : ByteArray) ++ t156)).size + 1 ≤ 9223372036854775807 then (if (((⟨#[99, 108, 111, 110, 101]⟩ : ByteArray) ++ ((⟨#[32]⟩ : ByteArray) ++ t156)) ++ (⟨#[32]⟩ : ByteArray)).size + a0_4.size ≤ 9223372036854775807 then (if ((((⟨#[99, 108, 111, 110, 101]⟩ : ByteArray) ++ ((⟨#[32]⟩ : ByteArray) ++ t156)) ++ (⟨#[32]⟩ : ByteArray)) ++ a0_4).size + 1 ≤ 9223372036854775807 then (if (((((⟨#[99, 108, 111, 110, 101]⟩ : ByteArray) ++ ((⟨#[32]⟩ : ByteArray) ++ t156)) ++ (⟨#[32]⟩ : ByteArray)) ++ a0_4) ++ (⟨#[32]⟩ : ByteArray)).size + a0_5.size ≤ 9223372036854775807 then (some ((((((⟨#[99, 108, 111, 110, 101]⟩ : ByteArray) ++ ((⟨#[32]⟩ : ByteArray) ++ t156)) ++ (⟨#[32]⟩ : ByteArray)) ++ a0_4) ++ (⟨#[32]⟩ : ByteArray)) ++ a0_5)) else (none)) else (none)) else (none)) else (none)) else (none)) else (if 6 + ((⟨#[32]⟩ : ByteArray) ++ t156).size ≤ 9223372036854775807 then (if ((⟨#[100, 101, 108, 101, 116, 101]⟩ : ByteArray) ++ ((⟨#[32]⟩ : ByteArray) ++ t156)).size + 1 ≤ 9223372036854775807 then (if (((⟨#[100, 101, 108, 101, 116, 101]⟩ : ByteArray) ++ ((⟨#[32]⟩ : ByteArray) ++ t156)) ++ (⟨#[32]⟩ : ByteArray)).size + a0_4.size ≤ 9223372036854775807 then (some ((((⟨#[100, 101, 108, 101, 116, 101]⟩ : ByteArray) ++ ((⟨#[32]⟩ : ByteArray) ++ t156)) ++ (⟨#[32]⟩ : ByteArray)) ++ a0_4)) else (none)) else (none)) else (none)))))))) else (none))) else (none)) = some r := H
    have A4 := Aside0.mk A40
    clear A40
    by_cases c5 : 1 + t157.size ≤ 9223372036854775807
    · rw [if_pos c5] at H
      have c5b0 := eq_true c5
      have c5b1 : decide (1 + t157.size ≤ 9223372036854775807) = true := decide_eq_true c5
      try have c5b2 : (9223372036854775807 < 1 + t157.size) = False := eq_false (Nat.not_lt.2 c5)
      replace H := Option.bind_eq_some_iff.mp H
      obtain ⟨t158, A60, H⟩ := H
      replace H : (if 1 + t158.size ≤ 9223372036854775807 then (if a0_1 = 1 then (if 4 + ((⟨#[32]⟩ : ByteArray) ++ t156).size ≤ 9223372036854775807 then (if ((⟨#[114, 101, 97, 100]⟩ : ByteArray) ++ ((⟨#[32]⟩ : ByteArray) ++ t156)).size + 1 ≤ 9223372036854775807 then (if (((⟨#[114, 101, 97, 100]⟩ : ByteArray) ++ ((⟨#[32]⟩ : ByteArray) ++ t156)) ++ (⟨#[32]⟩ : ByteArray)).size + a0_4.size ≤ 9223372036854775807 then (if ((((⟨#[114, 101, 97, 100]⟩ : ByteArray) ++ ((⟨#[32]⟩ : ByteArray) ++ t156)) ++ (⟨#[32]⟩ : ByteArray)) ++ a0_4).size + ((⟨#[32]⟩ : ByteArray) ++ t157).size ≤ 9223372036854775807 then (if (((((⟨#[114, 101, 97, 100]⟩ : ByteArray) ++ ((⟨#[32]⟩ : ByteArray) ++ t156)) ++ (⟨#[32]⟩ : ByteArray)) ++ a0_4) ++ ((⟨#[32]⟩ : ByteArray) ++ t157)).size + ((⟨#[32]⟩ : ByteArray) ++ t158).size ≤ 9223372036854775807 then (some ((((((⟨#[114, 101, 97, 100]⟩ : ByteArray) ++ ((⟨#[32]⟩ : ByteArray) ++ t156)) ++ (⟨#[32]⟩ : ByteArray)) ++ a0_4) ++ ((⟨#[32]⟩ : ByteArray) ++ t157)) ++ ((⟨#[32]⟩ : ByteArray) ++ t158))) else (none)) else (none)) else (none)) else (none)) else (none)) else (if a0_1 = 2 then (if 5 + ((⟨#[32]⟩ : ByteArray) ++ t156).size ≤ 9223372036854775807 then (if ((⟨#[119, 114, 105, 116, 101]⟩ : ByteArray) ++ ((⟨#[32]⟩ : ByteArray) ++ t156)).size + 1 ≤ 9223372036854775807 then (if (((⟨#[119, 114, 105, 116, 101]⟩ : ByteArray) ++ ((⟨#[32]⟩ : ByteArray) ++ t156)) ++ (⟨#[32]⟩ : ByteArray)).size + a0_4.size ≤ 9223372036854775807 then (if ((((⟨#[119, 114, 105, 116, 101]⟩ : ByteArray) ++ ((⟨#[32]⟩ : ByteArray) ++ t156)) ++ (⟨#[32]⟩ : ByteArray)) ++ a0_4).size + ((⟨#[32]⟩ : ByteArray) ++ t157).size ≤ 9223372036854775807 then (tegularef39_words.l0 k (((((⟨#[119, 114, 105, 116, 101]⟩ : ByteArray) ++ ((⟨#[32]⟩ : ByteArray) ++ t156)) ++ (⟨#[32]⟩ : ByteArray)) ++ a0_4) ++ ((⟨#[32]⟩ : ByteArray) ++ t157)) 0 a0_0 a0_1 a0_2 a0_3 a0_4 a0_5 a0_6 a0_7 l0_8) else (none)) else (none)) else (none)) else (none)) else (if a0_1 = 3 then (if 4 + ((⟨#[32]⟩ : ByteArray) ++ t156).size ≤ 9223372036854775807 then (if ((⟨#[116, 114, 105, 109]⟩ : ByteArray) ++ ((⟨#[32]⟩ : ByteArray) ++ t156)).size + 1 ≤ 9223372036854775807 then (if (((⟨#[116, 114, 105, 109]⟩ : ByteArray) ++ ((⟨#[32]⟩ : ByteArray) ++ t156)) ++ (⟨#[32]⟩ : ByteArray)).size + a0_4.size ≤ 9223372036854775807 then (if ((((⟨#[116, 114, 105, 109]⟩ : ByteArray) ++ ((⟨#[32]⟩ : ByteArray) ++ t156)) ++ (⟨#[32]⟩ : ByteArray)) ++ a0_4).size + ((⟨#[32]⟩ : ByteArray) ++ t157).size ≤ 9223372036854775807 then (if (((((⟨#[116, 114, 105, 109]⟩ : ByteArray) ++ ((⟨#[32]⟩ : ByteArray) ++ t156)) ++ (⟨#[32]⟩ : ByteArray)) ++ a0_4) ++ ((⟨#[32]⟩ : ByteArray) ++ t157)).size + ((⟨#[32]⟩ : ByteArray) ++ t158).size ≤ 9223372036854775807 then (some ((((((⟨#[116, 114, 105, 109]⟩ : ByteArray) ++ ((⟨#[32]⟩ : ByteArray) ++ t156)) ++ (⟨#[32]⟩ : ByteArray)) ++ a0_4) ++ ((⟨#[32]⟩ : ByteArray) ++ t157)) ++ ((⟨#[32]⟩ : ByteArray) ++ t158))) else (none)) else (none)) else (none)) else (none)) else (none)) else (if a0_1 = 4 then (if 5 + ((⟨#[32]⟩ : ByteArray) ++ t156).size ≤ 9223372036854775807 then (some ((⟨#[102, 108, 117, 115, 104]⟩ : ByteArray) ++ ((⟨#[32]⟩ : ByteArray) ++ t156))) else (none)) else (if a0_1 = 5 then (if 6 + ((⟨#[32]⟩ : ByteArray) ++ t156).size ≤ 9223372036854775807 then (if ((⟨#[99, 114, 101, 97, 116, 101]⟩ : ByteArray) ++ ((⟨#[32]⟩ : ByteArray) ++ t156)).size + 1 ≤ 9223372036854775807 then (if (((⟨#[99, 114, 101, 97, 116, 101]⟩ : ByteArray) ++ ((⟨#[32]⟩ : ByteArray) ++ t156)) ++ (⟨#[32]⟩ : ByteArray)).size + a0_4.size ≤ 9223372036854775807 then (if ((((⟨#[99, 114, 101, 97, 116, 101]⟩ : ByteArray) ++ ((⟨#[32]⟩ : ByteArray) ++ t156)) ++ (⟨#[32]⟩ : ByteArray)) ++ a0_4).size + ((⟨#[32]⟩ : ByteArray) ++ t158).size ≤ 9223372036854775807 then (if (((((⟨#[99, 114, 101, 97, 116, 101]⟩ : ByteArray) ++ ((⟨#[32]⟩ : ByteArray) ++ t156)) ++ (⟨#[32]⟩ : ByteArray)) ++ a0_4) ++ ((⟨#[32]⟩ : ByteArray) ++ t158)).size + ((⟨#[32]⟩ : ByteArray) ++ t157).size ≤ 9223372036854775807 then (some ((((((⟨#[99, 114, 101, 97, 116, 101]⟩ : ByteArray) ++ ((⟨#[32]⟩ : ByteArray) ++ t156)) ++ (⟨#[32]⟩ : ByteArray)) ++ a0_4) ++ ((⟨#[32]⟩ : ByteArray) ++ t158)) ++ ((⟨#[32]⟩ : ByteArray) ++ t157))) else (none)) else (none)) else (none)) else (none)) else (none)) else (if a0_1 = 6 then (if 5 + ((⟨#[32]⟩ : ByteArray) ++ t156).size ≤ 9223372036854775807 then (if ((⟨#[99, 108, 111, 110, 101]⟩ : ByteArray) ++ ((⟨#[32]⟩ : ByteArray) ++ t156)).size + 1 ≤ 9223372036854775807 then (if (((⟨#[99, 108, 111, 110, 101]⟩ : ByteArray) ++ ((⟨#[32]⟩ : ByteArray) ++ t156)) ++ (⟨#[32]⟩ : ByteArray)).size + a0_4.size ≤ 9223372036854775807 then (if ((((⟨#[99, 108, 111, 110, 101]⟩ : ByteArray) ++ ((⟨#[32]⟩ : ByteArray) ++ t156)) ++ (⟨#[32]⟩ : ByteArray)) ++ a0_4).size + 1 ≤ 9223372036854775807 then (if (((((⟨#[99, 108, 111, 110, 101]⟩ : ByteArray) ++ ((⟨#[32]⟩ : ByteArray) ++ t156)) ++ (⟨#[32]⟩ : ByteArray)) ++ a0_4) ++ (⟨#[32]⟩ : ByteArray)).size + a0_5.size ≤ 9223372036854775807 then (some ((((((⟨#[99, 108, 111, 110, 101]⟩ : ByteArray) ++ ((⟨#[32]⟩ : ByteArray) ++ t156)) ++ (⟨#[32]⟩ : ByteArray)) ++ a0_4) ++ (⟨#[32]⟩ : ByteArray)) ++ a0_5)) else (none)) else (none)) else (none)) else (none)) else (none)) else (if 6 + ((⟨#[32]⟩ : ByteArray) ++ t156).size ≤ 9223372036854775807 then (if ((⟨#[100, 101, 108, 101, 116, 101]⟩ : ByteArray) ++ ((⟨#[32]⟩ : ByteArray) ++ t156)).size + 1 ≤ 9223372036854775807 then (if (((⟨#[100, 101, 108, 101, 116, 101]⟩ : ByteArray) ++ ((⟨#[32]⟩ : ByteArray) ++ t156)) ++ (⟨#[32]⟩ : ByteArray)).size + a0_4.size ≤ 9223372036854775807 then (some ((((⟨#[100, 101, 108, 101, 116, 101]⟩ : ByteArray) ++ ((⟨#[32]⟩ : ByteArray) ++ t156)) ++ (⟨#[32]⟩ : ByteArray)) ++ a0_4)) else (none)) else (none)) else (none)))))))) else (none)) = some r := H
      have A6 := Aside0.mk A60
      clear A60
      by_cases c7 : 1 + t158.size ≤ 9223372036854775807
      · rw [if_pos c7] at H
        have c7b0 := eq_true c7
        have c7b1 : decide (1 + t158.size ≤ 9223372036854775807) = true := decide_eq_true c7
        try have c7b2 : (9223372036854775807 < 1 + t158.size) = False := eq_false (Nat.not_lt.2 c7)
        by_cases c8 : a0_1 = 1
        · rw [if_pos c8] at H
          have c8b0 : (a0_1 == 1) = true := beq_iff_eq.mpr c8
          have c8b1 : (a0_1 != 1) = false := bne_eq_false_iff_eq.mpr c8
          clear c8
          by_cases c9 : 4 + ((⟨#[32]⟩ : ByteArray) ++ t156).size ≤ 9223372036854775807
          · rw [if_pos c9] at H
            have c9b0 := eq_true c9
            have c9b1 : decide (4 + ((⟨#[32]⟩ : ByteArray) ++ t156).size ≤ 9223372036854775807) = true := decide_eq_true c9
            try have c9b2 : (9223372036854775807 < 4 + ((⟨#[32]⟩ : ByteArray) ++ t156).size) = False := eq_false (Nat.not_lt.2 c9)
            try have c9b3 : (9223372036854775807 < 4 + (1 + t156.size)) = False := by
                  have z := c9
                  simp only [ByteArray.size_append] at z
                  refine eq_false (Nat.not_lt.2 (Nat.le_trans (Nat.le_of_eq ?_) z))
                  rfl
            by_cases c10 : ((⟨#[114, 101, 97, 100]⟩ : ByteArray) ++ ((⟨#[32]⟩ : ByteArray) ++ t156)).size + 1 ≤ 9223372036854775807
            · rw [if_pos c10] at H
              have c10b0 := eq_true c10
              have c10b1 : decide (((⟨#[114, 101, 97, 100]⟩ : ByteArray) ++ ((⟨#[32]⟩ : ByteArray) ++ t156)).size + 1 ≤ 9223372036854775807) = true := decide_eq_true c10
              try have c10b2 : (9223372036854775807 < ((⟨#[114, 101, 97, 100]⟩ : ByteArray) ++ ((⟨#[32]⟩ : ByteArray) ++ t156)).size + 1) = False := eq_false (Nat.not_lt.2 c10)
              try have c10b3 : (9223372036854775807 < (4 + (1 + t156.size)) + 1) = False := by
                    have z := c10
                    simp only [ByteArray.size_append] at z
                    refine eq_false (Nat.not_lt.2 (Nat.le_trans (Nat.le_of_eq ?_) z))
                    rfl
              by_cases c11 : (((⟨#[114, 101, 97, 100]⟩ : ByteArray) ++ ((⟨#[32]⟩ : ByteArray) ++ t156)) ++ (⟨#[32]⟩ : ByteArray)).size + a0_4.size ≤ 9223372036854775807
              · rw [if_pos c11] at H
                have c11b0 := eq_true c11
                have c11b1 : decide ((((⟨#[114, 101, 97, 100]⟩ : ByteArray) ++ ((⟨#[32]⟩ : ByteArray) ++ t156)) ++ (⟨#[32]⟩ : ByteArray)).size + a0_4.size ≤ 9223372036854775807) = true := decide_eq_true c11
                try have c11b2 : (9223372036854775807 < (((⟨#[114, 101, 97, 100]⟩ : ByteArray) ++ ((⟨#[32]⟩ : ByteArray) ++ t156)) ++ (⟨#[32]⟩ : ByteArray)).size + a0_4.size) = False := eq_false (Nat.not_lt.2 c11)
                try have c11b3 : (9223372036854775807 < ((4 + (1 + t156.size)) + 1) + a0_4.size) = False := by
                      have z := c11
                      simp only [ByteArray.size_append] at z
                      refine eq_false (Nat.not_lt.2 (Nat.le_trans (Nat.le_of_eq ?_) z))
                      rfl
                by_cases c12 : ((((⟨#[114, 101, 97, 100]⟩ : ByteArray) ++ ((⟨#[32]⟩ : ByteArray) ++ t156)) ++ (⟨#[32]⟩ : ByteArray)) ++ a0_4).size + ((⟨#[32]⟩ : ByteArray) ++ t157).size ≤ 9223372036854775807
                · rw [if_pos c12] at H
                  have c12b0 := eq_true c12
                  have c12b1 : decide (((((⟨#[114, 101, 97, 100]⟩ : ByteArray) ++ ((⟨#[32]⟩ : ByteArray) ++ t156)) ++ (⟨#[32]⟩ : ByteArray)) ++ a0_4).size + ((⟨#[32]⟩ : ByteArray) ++ t157).size ≤ 9223372036854775807) = true := decide_eq_true c12
                  try have c12b2 : (9223372036854775807 < ((((⟨#[114, 101, 97, 100]⟩ : ByteArray) ++ ((⟨#[32]⟩ : ByteArray) ++ t156)) ++ (⟨#[32]⟩ : ByteArray)) ++ a0_4).size + ((⟨#[32]⟩ : ByteArray) ++ t157).size) = False := eq_false (Nat.not_lt.2 c12)
                  try have c12b3 : (9223372036854775807 < (((4 + (1 + t156.size)) + 1) + a0_4.size) + (1 + t157.size)) = False := by
                        have z := c12
                        simp only [ByteArray.size_append] at z
                        refine eq_false (Nat.not_lt.2 (Nat.le_trans (Nat.le_of_eq ?_) z))
                        rfl
                  by_cases c13 : (((((⟨#[114, 101, 97, 100]⟩ : ByteArray) ++ ((⟨#[32]⟩ : ByteArray) ++ t156)) ++ (⟨#[32]⟩ : ByteArray)) ++ a0_4) ++ ((⟨#[32]⟩ : ByteArray) ++ t157)).size + ((⟨#[32]⟩ : ByteArray) ++ t158).size ≤ 9223372036854775807
                  · rw [if_pos c13] at H
                    have c13b0 := eq_true c13
                    have c13b1 : decide ((((((⟨#[114, 101, 97, 100]⟩ : ByteArray) ++ ((⟨#[32]⟩ : ByteArray) ++ t156)) ++ (⟨#[32]⟩ : ByteArray)) ++ a0_4) ++ ((⟨#[32]⟩ : ByteArray) ++ t157)).size + ((⟨#[32]⟩ : ByteArray) ++ t158).size ≤ 9223372036854775807) = true := decide_eq_true c13
                    try have c13b2 : (9223372036854775807 < (((((⟨#[114, 101, 97, 100]⟩ : ByteArray) ++ ((⟨#[32]⟩ : ByteArray) ++ t156)) ++ (⟨#[32]⟩ : ByteArray)) ++ a0_4) ++ ((⟨#[32]⟩ : ByteArray) ++ t157)).size + ((⟨#[32]⟩ : ByteArray) ++ t158).size) = False := eq_false (Nat.not_lt.2 c13)
                    try have c13b3 : (9223372036854775807 < ((((4 + (1 + t156.size)) + 1) + a0_4.size) + (1 + t157.size)) + (1 + t158.size)) = False := by
                          have z := c13
                          simp only [ByteArray.size_append] at z
                          refine eq_false (Nat.not_lt.2 (Nat.le_trans (Nat.le_of_eq ?_) z))
                          rfl
                    obtain rfl := Option.some.inj H
                    go_enter Tryd.func37, Tryd.ntmps37
                    try go_wp2_with (first | ((with_reducible refine gate_dst (N := 1) rfl ?_); refine box_event ?hg (N := 1) ?hd (cs := #[.int .i64 a0_0, .int .i64 a0_1, .int .i64 a0_2, .bool a0_3, .string a0_4, .string a0_5, .int .i64 a0_6, .int .i64 a0_7, .slice A0_8 l0_8.length c0_8]) (t := 24) ?hr ?_; (case hd => rfl); (case hg => rfl); (case hr => first | (go_simp; done) | (go_simp; rfl)); intro gb155 hg w14 hbox hb; have n0_ := Aside0.mk (below_step (by repeat (first | (with_reducible first | exact HB.out | apply below_alloc | apply pw_below_drewN | apply below_drew1) | exact HB.out)) hb); have n1_ := Aside0.mk (hbox); have n2_ := Aside0.mk ((by rw [hg]; exact (below_size (by repeat (first | (with_reducible first | exact HB.out | apply below_alloc | apply pw_below_drewN | apply below_drew1) | exact HB.out))) : w.heap.size ≤ gb155)); have n3_ := Aside0.mk ((by rw [hg]; exact (below_size (by repeat (first | (with_reducible first | exact HB.out | apply below_alloc | apply pw_below_drewN | apply below_drew1) | exact HB.out))) : w.heap.size ≤ gb155)); clear HB; have HB := n0_; have BK155 := n1_; have GW155 := n2_; have GE155 := n3_; clear n0_ n1_ n2_ n3_; clear hb hbox hg; have hcz15_0 : w14.cell? ⟨gb155, 0, none⟩ = some (.int .i64 a0_0) := (blk_cell BK155.out 0).trans rfl; have hcz15_1 : w14.cell? ⟨gb155, 1, none⟩ = some (.int .i64 a0_1) := (blk_cell BK155.out 1).trans rfl; have hcz15_2 : w14.cell? ⟨gb155, 2, none⟩ = some (.int .i64 a0_2) := (blk_cell BK155.out 2).trans rfl; have hcz15_3 : w14.cell? ⟨gb155, 3, none⟩ = some (.bool a0_3) := (blk_cell BK155.out 3).trans rfl; have hcz15_4 : w14.cell? ⟨gb155, 4, none⟩ = some (.string a0_4) := (blk_cell BK155.out 4).trans rfl; have hcz15_5 : w14.cell? ⟨gb155, 5, none⟩ = some (.string a0_5) := (blk_cell BK155.out 5).trans rfl; have hcz15_6 : w14.cell? ⟨gb155, 6, none⟩ = some (.int .i64 a0_6) := (blk_cell BK155.out 6).trans rfl; have hcz15_7 : w14.cell? ⟨gb155, 7, none⟩ = some (.int .i64 a0_7) := (blk_cell BK155.out 7).trans rfl; have hcz15_8 : w14.cell? ⟨gb155, 8, none⟩ = some (.slice A0_8 l0_8.length c0_8) := (blk_cell BK155.out 8).trans rfl; have hfz15_0 := blk_frozen BK155.out 0; have hfz15_1 := blk_frozen BK155.out 1; have hfz15_2 := blk_frozen BK155.out 2; have hfz15_3 := blk_frozen BK155.out 3; have hfz15_4 := blk_frozen BK155.out 4; have hfz15_5 := blk_frozen BK155.out 5; have hfz15_6 := blk_frozen BK155.out 6; have hfz15_7 := blk_frozen BK155.out 7; have hfz15_8 := blk_frozen BK155.out 8) | ((with_reducible refine gate_callee (f := 48) rfl ?_); refine goesL_ (some 10) rfl rfl Tryd.func48 (by kernel_rfl) rfl #[.int .i64 a0_0] rfl (by (try simp only [List.map_toArray, List.map_cons, List.map_nil]); first | done | rfl | (simp only [List.length_drop, List.length_take]; rfl)) ?_; (with_reducible refine (tegularef13_Number.calls k a0_0 t156 _ A2.out).mono ?_); rintro e w16 ⟨rfl, hb⟩; refine ⟨_, rfl, ?_⟩; have n0_ := Aside0.mk (blk_below (g := gb155) (o := .cells #[.int .i64 a0_0, .int .i64 a0_1, .int .i64 a0_2, .bool a0_3, .string a0_4, .string a0_5, .int .i64 a0_6, .int .i64 a0_7, .slice A0_8 l0_8.length c0_8] 24 (0, 0)) (by (with_reducible repeat (first | refine blk_drewN ?_ _ | refine blk_drew ?_ | refine blk_alloc ?_ _)); exact BK155.out) hb); have n1_ := Aside0.mk (below_step (by repeat (first | (with_reducible first | exact HB.out | apply below_alloc | apply pw_below_drewN | apply below_drew1 | refine below_set ?_ GE155.out) | exact HB.out)) hb); clear BK155; clear HB; have BK155 := n0_; have HB := n1_; clear n0_ n1_; (try clear hb); (try clear hb2); (try clear hk); (try clear hi)))
                    have n0_ := Aside0.mk (blk_drew BK155.out)
                    have n1_ := Aside0.mk (below_drew1 HB.out)
                    clear BK155
                    clear HB
                    have BK155 := n0_
                    have HB := n1_
                    clear n0_ n1_
                    refine start_ (n := 10) (S := fun w' => w'.cell? ⟨gb155, 0, none⟩ = some (.int .i64 a0_0) ∧ w'.cell? ⟨gb155, 1, none⟩ = some (.int .i64 a0_1) ∧ w'.cell? ⟨gb155, 2, none⟩ = some (.int .i64 a0_2) ∧ w'.cell? ⟨gb155, 3, none⟩ = some (.bool a0_3) ∧ w'.cell? ⟨gb155, 4, none⟩ = some (.string a0_4) ∧ w'.cell? ⟨gb155, 5, none⟩ = some (.string a0_5) ∧ w'.cell? ⟨gb155, 6, none⟩ = some (.int .i64 a0_6) ∧ w'.cell? ⟨gb155, 7, none⟩ = some (.int .i64 a0_7) ∧ w'.cell? ⟨gb155, 8, none⟩ = some (.slice A0_8 l0_8.length c0_8)) (ds := []) #[false, false, false, false, false, false, false, false, false, false] (by kernel_rfl) rfl rfl ⟨(blk_cell BK155.out 0).trans rfl, (blk_cell BK155.out 1).trans rfl, (blk_cell BK155.out 2).trans rfl, (blk_cell BK155.out 3).trans rfl, (blk_cell BK155.out 4).trans rfl, (blk_cell BK155.out 5).trans rfl, (blk_cell BK155.out 6).trans rfl, (blk_cell BK155.out 7).trans rfl, (blk_cell BK155.out 8).trans rfl⟩ (fun hHeld => ?_); refine with_tabW tegularef39_words.tab2 tegularef39_words.bits2 (fun HT_ HW_ => ?_)
                    generalize w16.drew = w17 at BK155 HB hHeld ⊢
                    refine pure_ (i := 0) (N := some 12) (v := ?_) (a' := ?_) #[true, false, false, false, false, false, false, false, false, false] rfl rfl (any_of HT_.out (by kernel_rfl)) (fun _ _ _ h => h) (Or.inl ⟨by rfl, ?_⟩) ?_ ?_
                    rotate_left
                    · intro w'
                      go_simp
                      with_reducible rfl
                    rotate_left
                    · simp only [Act.put, List.setIfInBounds_toArray, List.set_cons_zero, List.set_cons_succ, i64_w, i32_w]
                      rfl
                    refine pure_ (i := 4) (N := some 16) (v := ?_) (a' := ?_) #[true, false, false, false, true, false, false, false, false, false] rfl rfl (any_of HT_.out (by kernel_rfl)) (fun _ _ _ h => h) (Or.inl ⟨by rfl, ?_⟩) ?_ ?_
                    rotate_left
                    · intro w'
                      go_simp
                      with_reducible rfl
                    rotate_left
                    · simp only [Act.put, List.setIfInBounds_toArray, List.set_cons_zero, List.set_cons_succ, i64_w, i32_w]
                      rfl
                    refine take_ (i := 1) (N := some 13) (v := ?_) (a' := ?_) #[true, true, false, false, true, false, false, false, false, false] rfl rfl (take_ofW HT_.out HW_.out (by kernel_rfl)) (fun _ _ _ h => h) (Or.inl ⟨by rfl, ?_⟩) hHeld ?_ ?_
                    rotate_left
                    · rintro w' ⟨s0, s1, s2, s3, s4, s5, s6, s7, s8⟩
                      go_simp
                      with_reducible rfl
                    rotate_left
                    · simp only [Act.put, List.setIfInBounds_toArray, List.set_cons_zero, List.set_cons_succ, i64_w, i32_w]
                      rfl
                    refine take_ (i := 5) (N := some 17) (v := ?_) (a' := ?_) #[true, true, false, false, true, true, false, false, false, false] rfl rfl (take_ofW HT_.out HW_.out (by kernel_rfl)) (fun _ _ _ h => h) (Or.inl ⟨by rfl, ?_⟩) hHeld ?_ ?_
                    rotate_left
                    · rintro w' ⟨s0, s1, s2, s3, s4, s5, s6, s7, s8⟩
                      go_simp
                      with_reducible rfl
                    rotate_left
                    · simp only [Act.put, List.setIfInBounds_toArray, List.set_cons_zero, List.set_cons_succ, i64_w, i32_w]
                      rfl
                    refine one_ (i := 2) (N := some 14) #[true, true, true, false, true, true, false, false, false, false] rfl rfl (one_of HT_.out (by kernel_rfl)) (by decide) (fun K hK => ?_)
                    refine goes_ Tryd.func48 (by kernel_rfl) rfl #[.int .i64 a0_6] (by rfl) rfl rfl (by (try simp only [List.map_toArray, List.map_cons, List.map_nil]); first | done | rfl | (simp only [List.length_drop, List.length_take]; rfl)) ?_
                    with_reducible refine (tegularef13_Number.calls k a0_6 t157 _ A4.out).mono ?_
                    rintro e w18 ⟨rfl, hb⟩
                    refine ⟨_, rfl, ?_⟩
                    have n0_ := Aside0.mk (blk_below (g := gb155) (o := .cells #[.int .i64 a0_0, .int .i64 a0_1, .int .i64 a0_2, .bool a0_3, .string a0_4, .string a0_5, .int .i64 a0_6, .int .i64 a0_7, .slice A0_8 l0_8.length c0_8] 24 (0, 0)) (by (with_reducible repeat (first | refine blk_drewN ?_ _ | refine blk_drew ?_ | refine blk_alloc ?_ _)); exact BK155.out) hb)
                    have n1_ := Aside0.mk (below_step (by repeat (first | (with_reducible first | exact HB.out | apply below_alloc | apply pw_below_drewN | apply below_drew1 | refine below_set ?_ GE155.out) | exact HB.out)) hb)
                    clear BK155
                    clear HB
                    have BK155 := n0_
                    have HB := n1_
                    clear n0_ n1_
                    (try clear hb)
                    (try clear hb2)
                    (try clear hk)
                    (try clear hi)
                    refine hK.out _ _ ⟨(blk_cell BK155.out 0).trans rfl, (blk_cell BK155.out 1).trans rfl, (blk_cell BK155.out 2).trans rfl, (blk_cell BK155.out 3).trans rfl, (blk_cell BK155.out 4).trans rfl, (blk_cell BK155.out 5).trans rfl, (blk_cell BK155.out 6).trans rfl, (blk_cell BK155.out 7).trans rfl, (blk_cell BK155.out 8).trans rfl⟩ (fun hHeld => ?_)
                    clear hK K
                    refine norm_ (a' := ?_) ?_ ?_
                    rotate_left
                    · show Act.put _ (some 14) _ = _
                      simp only [Act.put, List.setIfInBounds_toArray, List.set_cons_zero, List.set_cons_succ, i64_w, i32_w]
                      rfl
                    refine pure_ (i := 3) (N := some 15) (v := ?_) (a' := ?_) #[true, true, true, true, true, true, false, false, false, false] rfl rfl (any_of HT_.out (by kernel_rfl)) (fun _ _ _ h => h) (Or.inl ⟨by rfl, ?_⟩) ?_ ?_
                    rotate_left
                    · intro w'
                      go_simp
                      with_reducible rfl
                    rotate_left
                    · simp only [Act.put, List.setIfInBounds_toArray, List.set_cons_zero, List.set_cons_succ, i64_w, i32_w]
                      rfl
                    refine one_ (i := 6) (N := some 18) #[true, true, true, true, true, true, true, false, false, false] rfl rfl (one_of HT_.out (by kernel_rfl)) (by decide) (fun K hK => ?_)
                    refine goes_ Tryd.func48 (by kernel_rfl) rfl #[.int .i64 a0_7] (by rfl) rfl rfl (by (try simp only [List.map_toArray, List.map_cons, List.map_nil]); first | done | rfl | (simp only [List.length_drop, List.length_take]; rfl)) ?_
                    with_reducible refine (tegularef13_Number.calls k a0_7 t158 _ A6.out).mono ?_
                    rintro e w19 ⟨rfl, hb⟩
                    refine ⟨_, rfl, ?_⟩
                    have n0_ := Aside0.mk (blk_below (g := gb155) (o := .cells #[.int .i64 a0_0, .int .i64 a0_1, .int .i64 a0_2, .bool a0_3, .string a0_4, .string a0_5, .int .i64 a0_6, .int .i64 a0_7, .slice A0_8 l0_8.length c0_8] 24 (0, 0)) (by (with_reducible repeat (first | refine blk_drewN ?_ _ | refine blk_drew ?_ | refine blk_alloc ?_ _)); exact BK155.out) hb)
                    have n1_ := Aside0.mk (below_step (by repeat (first | (with_reducible first | exact HB.out | apply below_alloc | apply pw_below_drewN | apply below_drew1 | refine below_set ?_ GE155.out) | exact HB.out)) hb)
                    clear BK155
                    clear HB
                    have BK155 := n0_
                    have HB := n1_
                    clear n0_ n1_
                    (try clear hb)
                    (try clear hb2)
                    (try clear hk)
                    (try clear hi)
                    refine hK.out _ _ ⟨(blk_cell BK155.out 0).trans rfl, (blk_cell BK155.out 1).trans rfl, (blk_cell BK155.out 2).trans rfl, (blk_cell BK155.out 3).trans rfl, (blk_cell BK155.out 4).trans rfl, (blk_cell BK155.out 5).trans rfl, (blk_cell BK155.out 6).trans rfl, (blk_cell BK155.out 7).trans rfl, (blk_cell BK155.out 8).trans rfl⟩ (fun hHeld => ?_)
                    clear hK K
                    refine norm_ (a' := ?_) ?_ ?_
                    rotate_left
                    · show Act.put _ (some 18) _ = _
                      simp only [Act.put, List.setIfInBounds_toArray, List.set_cons_zero, List.set_cons_succ, i64_w, i32_w]
                      rfl
                    refine pure_ (i := 7) (N := some 19) (v := ?_) (a' := ?_) #[true, true, true, true, true, true, true, true, false, false] rfl rfl (any_of HT_.out (by kernel_rfl)) (fun _ _ _ h => h) (Or.inl ⟨by rfl, ?_⟩) ?_ ?_
                    rotate_left
                    · intro w'
                      go_simp
                      with_reducible rfl
                    rotate_left
                    · simp only [Act.put, List.setIfInBounds_toArray, List.set_cons_zero, List.set_cons_succ, i64_w, i32_w]
                      rfl
                    refine pure_ (i := 8) (N := some 4) (v := ?_) (a' := ?_) #[true, true, true, true, true, true, true, true, true, false] rfl rfl (any_of HT_.out (by kernel_rfl)) (fun _ _ _ h => h) (Or.inl ⟨by rfl, ?_⟩) ?_ ?_
                    rotate_left
                    · intro w'
                      go_simp
                      with_reducible rfl
                    rotate_left
                    · simp only [Act.put, List.setIfInBounds_toArray, List.set_cons_zero, List.set_cons_succ, i64_w, i32_w]
                      rfl
                    refine pure_ (i := 9) (N := some 5) (v := ?_) (a' := ?_) #[true, true, true, true, true, true, true, true, true, true] rfl rfl (any_of HT_.out (by kernel_rfl)) (fun _ _ _ h => h) (Or.inl ⟨by rfl, ?_⟩) ?_ ?_
                    rotate_left
                    · intro w'
                      go_simp
                      with_reducible rfl
                    rotate_left
                    · simp only [Act.put, List.setIfInBounds_toArray, List.set_cons_zero, List.set_cons_succ, i64_w, i32_w]
                      rfl
                    refine done_ (done_of HT_.out (by kernel_rfl)) ?_
                    have hcz20_0 : w19.cell? ⟨gb155, 0, none⟩ = some (.int .i64 a0_0) := (blk_cell BK155.out 0).trans rfl
                    have hcz20_1 : w19.cell? ⟨gb155, 1, none⟩ = some (.int .i64 a0_1) := (blk_cell BK155.out 1).trans rfl
                    have hcz20_2 : w19.cell? ⟨gb155, 2, none⟩ = some (.int .i64 a0_2) := (blk_cell BK155.out 2).trans rfl
                    have hcz20_3 : w19.cell? ⟨gb155, 3, none⟩ = some (.bool a0_3) := (blk_cell BK155.out 3).trans rfl
                    have hcz20_4 : w19.cell? ⟨gb155, 4, none⟩ = some (.string a0_4) := (blk_cell BK155.out 4).trans rfl
                    have hcz20_5 : w19.cell? ⟨gb155, 5, none⟩ = some (.string a0_5) := (blk_cell BK155.out 5).trans rfl
                    have hcz20_6 : w19.cell? ⟨gb155, 6, none⟩ = some (.int .i64 a0_6) := (blk_cell BK155.out 6).trans rfl
                    have hcz20_7 : w19.cell? ⟨gb155, 7, none⟩ = some (.int .i64 a0_7) := (blk_cell BK155.out 7).trans rfl
                    have hcz20_8 : w19.cell? ⟨gb155, 8, none⟩ = some (.slice A0_8 l0_8.length c0_8) := (blk_cell BK155.out 8).trans rfl
                    have hfz20_0 := blk_frozen BK155.out 0
                    have hfz20_1 := blk_frozen BK155.out 1
                    have hfz20_2 := blk_frozen BK155.out 2
                    have hfz20_3 := blk_frozen BK155.out 3
                    have hfz20_4 := blk_frozen BK155.out 4
                    have hfz20_5 := blk_frozen BK155.out 5
                    have hfz20_6 := blk_frozen BK155.out 6
                    have hfz20_7 := blk_frozen BK155.out 7
                    have hfz20_8 := blk_frozen BK155.out 8
                    try go_wp2
                    go_ret
                    exact ⟨by first | rfl | (simp [errW_none, errW_some] <;> rfl) | (simp [*, errW_none, errW_some] <;> rfl), by repeat (first | (with_reducible first | exact HB.out | apply below_alloc | apply pw_below_drewN | apply below_drew1 | refine below_set ?_ GE155.out) | exact HB.out)⟩
                  · rw [if_neg c13] at H
                    exact absurd H (by simp)
                · rw [if_neg c12] at H
                  exact absurd H (by simp)
              · rw [if_neg c11] at H
                exact absurd H (by simp)
            · rw [if_neg c10] at H
              exact absurd H (by simp)
          · rw [if_neg c9] at H
            exact absurd H (by simp)
        · rw [if_neg c8] at H
          have c8b0 : (a0_1 == 1) = false := beq_eq_false_iff_ne.mpr c8
          have c8b1 : (a0_1 != 1) = true := bne_iff_ne.mpr c8
          by_cases c21 : a0_1 = 2
          · rw [if_pos c21] at H
            have c21b0 : (a0_1 == 2) = true := beq_iff_eq.mpr c21
            have c21b1 : (a0_1 != 2) = false := bne_eq_false_iff_eq.mpr c21
            clear c21
            by_cases c22 : 5 + ((⟨#[32]⟩ : ByteArray) ++ t156).size ≤ 9223372036854775807
            · rw [if_pos c22] at H
              have c22b0 := eq_true c22
              have c22b1 : decide (5 + ((⟨#[32]⟩ : ByteArray) ++ t156).size ≤ 9223372036854775807) = true := decide_eq_true c22
              try have c22b2 : (9223372036854775807 < 5 + ((⟨#[32]⟩ : ByteArray) ++ t156).size) = False := eq_false (Nat.not_lt.2 c22)
              try have c22b3 : (9223372036854775807 < 5 + (1 + t156.size)) = False := by
                    have z := c22
                    simp only [ByteArray.size_append] at z
                    refine eq_false (Nat.not_lt.2 (Nat.le_trans (Nat.le_of_eq ?_) z))
                    rfl
              by_cases c23 : ((⟨#[119, 114, 105, 116, 101]⟩ : ByteArray) ++ ((⟨#[32]⟩ : ByteArray) ++ t156)).size + 1 ≤ 9223372036854775807
              · rw [if_pos c23] at H
                have c23b0 := eq_true c23
                have c23b1 : decide (((⟨#[119, 114, 105, 116, 101]⟩ : ByteArray) ++ ((⟨#[32]⟩ : ByteArray) ++ t156)).size + 1 ≤ 9223372036854775807) = true := decide_eq_true c23
                try have c23b2 : (9223372036854775807 < ((⟨#[119, 114, 105, 116, 101]⟩ : ByteArray) ++ ((⟨#[32]⟩ : ByteArray) ++ t156)).size + 1) = False := eq_false (Nat.not_lt.2 c23)
                try have c23b3 : (9223372036854775807 < (5 + (1 + t156.size)) + 1) = False := by
                      have z := c23
                      simp only [ByteArray.size_append] at z
                      refine eq_false (Nat.not_lt.2 (Nat.le_trans (Nat.le_of_eq ?_) z))
                      rfl
                by_cases c24 : (((⟨#[119, 114, 105, 116, 101]⟩ : ByteArray) ++ ((⟨#[32]⟩ : ByteArray) ++ t156)) ++ (⟨#[32]⟩ : ByteArray)).size + a0_4.size ≤ 9223372036854775807
                · rw [if_pos c24] at H
                  have c24b0 := eq_true c24
                  have c24b1 : decide ((((⟨#[119, 114, 105, 116, 101]⟩ : ByteArray) ++ ((⟨#[32]⟩ : ByteArray) ++ t156)) ++ (⟨#[32]⟩ : ByteArray)).size + a0_4.size ≤ 9223372036854775807) = true := decide_eq_true c24
                  try have c24b2 : (9223372036854775807 < (((⟨#[119, 114, 105, 116, 101]⟩ : ByteArray) ++ ((⟨#[32]⟩ : ByteArray) ++ t156)) ++ (⟨#[32]⟩ : ByteArray)).size + a0_4.size) = False := eq_false (Nat.not_lt.2 c24)
                  try have c24b3 : (9223372036854775807 < ((5 + (1 + t156.size)) + 1) + a0_4.size) = False := by
                        have z := c24
                        simp only [ByteArray.size_append] at z
                        refine eq_false (Nat.not_lt.2 (Nat.le_trans (Nat.le_of_eq ?_) z))
                        rfl
                  by_cases c25 : ((((⟨#[119, 114, 105, 116, 101]⟩ : ByteArray) ++ ((⟨#[32]⟩ : ByteArray) ++ t156)) ++ (⟨#[32]⟩ : ByteArray)) ++ a0_4).size + ((⟨#[32]⟩ : ByteArray) ++ t157).size ≤ 9223372036854775807
                  · rw [if_pos c25] at H
                    have c25b0 := eq_true c25
                    have c25b1 : decide (((((⟨#[119, 114, 105, 116, 101]⟩ : ByteArray) ++ ((⟨#[32]⟩ : ByteArray) ++ t156)) ++ (⟨#[32]⟩ : ByteArray)) ++ a0_4).size + ((⟨#[32]⟩ : ByteArray) ++ t157).size ≤ 9223372036854775807) = true := decide_eq_true c25
                    try have c25b2 : (9223372036854775807 < ((((⟨#[119, 114, 105, 116, 101]⟩ : ByteArray) ++ ((⟨#[32]⟩ : ByteArray) ++ t156)) ++ (⟨#[32]⟩ : ByteArray)) ++ a0_4).size + ((⟨#[32]⟩ : ByteArray) ++ t157).size) = False := eq_false (Nat.not_lt.2 c25)
                    try have c25b3 : (9223372036854775807 < (((5 + (1 + t156.size)) + 1) + a0_4.size) + (1 + t157.size)) = False := by
                          have z := c25
                          simp only [ByteArray.size_append] at z
                          refine eq_false (Nat.not_lt.2 (Nat.le_trans (Nat.le_of_eq ?_) z))
                          rfl
                    have H' := Aside0.mk H
                    clear H
                    go_enter Tryd.func37, Tryd.ntmps37
                    try go_wp2_with (first | ((with_reducible refine gate_dst (N := 1) rfl ?_); refine box_event ?hg (N := 1) ?hd (cs := #[.int .i64 a0_0, .int .i64 a0_1, .int .i64 a0_2, .bool a0_3, .string a0_4, .string a0_5, .int .i64 a0_6, .int .i64 a0_7, .slice A0_8 l0_8.length c0_8]) (t := 24) ?hr ?_; (case hd => rfl); (case hg => rfl); (case hr => first | (go_simp; done) | (go_simp; rfl)); intro gb155 hg w26 hbox hb; have n0_ := Aside0.mk (below_step (by repeat (first | (with_reducible first | exact HB.out | apply below_alloc | apply pw_below_drewN | apply below_drew1) | exact HB.out)) hb); have n1_ := Aside0.mk (hbox); have n2_ := Aside0.mk ((by rw [hg]; exact (below_size (by repeat (first | (with_reducible first | exact HB.out | apply below_alloc | apply pw_below_drewN | apply below_drew1) | exact HB.out))) : w.heap.size ≤ gb155)); have n3_ := Aside0.mk ((by rw [hg]; exact (below_size (by repeat (first | (with_reducible first | exact HB.out | apply below_alloc | apply pw_below_drewN | apply below_drew1) | exact HB.out))) : w.heap.size ≤ gb155)); clear HB; have HB := n0_; have BK155 := n1_; have GW155 := n2_; have GE155 := n3_; clear n0_ n1_ n2_ n3_; clear hb hbox hg; have hcz27_0 : w26.cell? ⟨gb155, 0, none⟩ = some (.int .i64 a0_0) := (blk_cell BK155.out 0).trans rfl; have hcz27_1 : w26.cell? ⟨gb155, 1, none⟩ = some (.int .i64 a0_1) := (blk_cell BK155.out 1).trans rfl; have hcz27_2 : w26.cell? ⟨gb155, 2, none⟩ = some (.int .i64 a0_2) := (blk_cell BK155.out 2).trans rfl; have hcz27_3 : w26.cell? ⟨gb155, 3, none⟩ = some (.bool a0_3) := (blk_cell BK155.out 3).trans rfl; have hcz27_4 : w26.cell? ⟨gb155, 4, none⟩ = some (.string a0_4) := (blk_cell BK155.out 4).trans rfl; have hcz27_5 : w26.cell? ⟨gb155, 5, none⟩ = some (.string a0_5) := (blk_cell BK155.out 5).trans rfl; have hcz27_6 : w26.cell? ⟨gb155, 6, none⟩ = some (.int .i64 a0_6) := (blk_cell BK155.out 6).trans rfl; have hcz27_7 : w26.cell? ⟨gb155, 7, none⟩ = some (.int .i64 a0_7) := (blk_cell BK155.out 7).trans rfl; have hcz27_8 : w26.cell? ⟨gb155, 8, none⟩ = some (.slice A0_8 l0_8.length c0_8) := (blk_cell BK155.out 8).trans rfl; have hfz27_0 := blk_frozen BK155.out 0; have hfz27_1 := blk_frozen BK155.out 1; have hfz27_2 := blk_frozen BK155.out 2; have hfz27_3 := blk_frozen BK155.out 3; have hfz27_4 := blk_frozen BK155.out 4; have hfz27_5 := blk_frozen BK155.out 5; have hfz27_6 := blk_frozen BK155.out 6; have hfz27_7 := blk_frozen BK155.out 7; have hfz27_8 := blk_frozen BK155.out 8) | ((with_reducible refine gate_callee (f := 48) rfl ?_); refine goesL_ (some 10) rfl rfl Tryd.func48 (by kernel_rfl) rfl #[.int .i64 a0_0] rfl (by (try simp only [List.map_toArray, List.map_cons, List.map_nil]); first | done | rfl | (simp only [List.length_drop, List.length_take]; rfl)) ?_; (with_reducible refine (tegularef13_Number.calls k a0_0 t156 _ A2.out).mono ?_); rintro e w28 ⟨rfl, hb⟩; refine ⟨_, rfl, ?_⟩; have n0_ := Aside0.mk (blk_below (g := gb155) (o := .cells #[.int .i64 a0_0, .int .i64 a0_1, .int .i64 a0_2, .bool a0_3, .string a0_4, .string a0_5, .int .i64 a0_6, .int .i64 a0_7, .slice A0_8 l0_8.length c0_8] 24 (0, 0)) (by (with_reducible repeat (first | refine blk_drewN ?_ _ | refine blk_drew ?_ | refine blk_alloc ?_ _)); exact BK155.out) hb); have n1_ := Aside0.mk (below_step (by repeat (first | (with_reducible first | exact HB.out | apply below_alloc | apply pw_below_drewN | apply below_drew1 | refine below_set ?_ GE155.out) | exact HB.out)) hb); clear BK155; clear HB; have BK155 := n0_; have HB := n1_; clear n0_ n1_; (try clear hb); (try clear hb2); (try clear hk); (try clear hi)))
                    have n0_ := Aside0.mk (blk_drew BK155.out)
                    have n1_ := Aside0.mk (below_drew1 HB.out)
                    clear BK155
                    clear HB
                    have BK155 := n0_
                    have HB := n1_
                    clear n0_ n1_
                    refine start_ (n := 10) (S := fun w' => w'.cell? ⟨gb155, 0, none⟩ = some (.int .i64 a0_0) ∧ w'.cell? ⟨gb155, 1, none⟩ = some (.int .i64 a0_1) ∧ w'.cell? ⟨gb155, 2, none⟩ = some (.int .i64 a0_2) ∧ w'.cell? ⟨gb155, 3, none⟩ = some (.bool a0_3) ∧ w'.cell? ⟨gb155, 4, none⟩ = some (.string a0_4) ∧ w'.cell? ⟨gb155, 5, none⟩ = some (.string a0_5) ∧ w'.cell? ⟨gb155, 6, none⟩ = some (.int .i64 a0_6) ∧ w'.cell? ⟨gb155, 7, none⟩ = some (.int .i64 a0_7) ∧ w'.cell? ⟨gb155, 8, none⟩ = some (.slice A0_8 l0_8.length c0_8)) (ds := []) #[false, false, false, false, false, false, false, false, false, false] (by kernel_rfl) rfl rfl ⟨(blk_cell BK155.out 0).trans rfl, (blk_cell BK155.out 1).trans rfl, (blk_cell BK155.out 2).trans rfl, (blk_cell BK155.out 3).trans rfl, (blk_cell BK155.out 4).trans rfl, (blk_cell BK155.out 5).trans rfl, (blk_cell BK155.out 6).trans rfl, (blk_cell BK155.out 7).trans rfl, (blk_cell BK155.out 8).trans rfl⟩ (fun hHeld => ?_); refine with_tabW tegularef39_words.tab2 tegularef39_words.bits2 (fun HT_ HW_ => ?_)
                    generalize w28.drew = w29 at BK155 HB hHeld ⊢
                    refine pure_ (i := 0) (N := some 12) (v := ?_) (a' := ?_) #[true, false, false, false, false, false, false, false, false, false] rfl rfl (any_of HT_.out (by kernel_rfl)) (fun _ _ _ h => h) (Or.inl ⟨by rfl, ?_⟩) ?_ ?_
                    rotate_left
                    · intro w'
                      go_simp
                      with_reducible rfl
                    rotate_left
                    · simp only [Act.put, List.setIfInBounds_toArray, List.set_cons_zero, List.set_cons_succ, i64_w, i32_w]
                      rfl
                    refine pure_ (i := 4) (N := some 16) (v := ?_) (a' := ?_) #[true, false, false, false, true, false, false, false, false, false] rfl rfl (any_of HT_.out (by kernel_rfl)) (fun _ _ _ h => h) (Or.inl ⟨by rfl, ?_⟩) ?_ ?_
                    rotate_left
                    · intro w'
                      go_simp
                      with_reducible rfl
                    rotate_left
                    · simp only [Act.put, List.setIfInBounds_toArray, List.set_cons_zero, List.set_cons_succ, i64_w, i32_w]
                      rfl
                    refine take_ (i := 1) (N := some 13) (v := ?_) (a' := ?_) #[true, true, false, false, true, false, false, false, false, false] rfl rfl (take_ofW HT_.out HW_.out (by kernel_rfl)) (fun _ _ _ h => h) (Or.inl ⟨by rfl, ?_⟩) hHeld ?_ ?_
                    rotate_left
                    · rintro w' ⟨s0, s1, s2, s3, s4, s5, s6, s7, s8⟩
                      go_simp
                      with_reducible rfl
                    rotate_left
                    · simp only [Act.put, List.setIfInBounds_toArray, List.set_cons_zero, List.set_cons_succ, i64_w, i32_w]
                      rfl
                    refine take_ (i := 5) (N := some 17) (v := ?_) (a' := ?_) #[true, true, false, false, true, true, false, false, false, false] rfl rfl (take_ofW HT_.out HW_.out (by kernel_rfl)) (fun _ _ _ h => h) (Or.inl ⟨by rfl, ?_⟩) hHeld ?_ ?_
                    rotate_left
                    · rintro w' ⟨s0, s1, s2, s3, s4, s5, s6, s7, s8⟩
                      go_simp
                      with_reducible rfl
                    rotate_left
                    · simp only [Act.put, List.setIfInBounds_toArray, List.set_cons_zero, List.set_cons_succ, i64_w, i32_w]
                      rfl
                    refine one_ (i := 2) (N := some 14) #[true, true, true, false, true, true, false, false, false, false] rfl rfl (one_of HT_.out (by kernel_rfl)) (by decide) (fun K hK => ?_)
                    refine goes_ Tryd.func48 (by kernel_rfl) rfl #[.int .i64 a0_6] (by rfl) rfl rfl (by (try simp only [List.map_toArray, List.map_cons, List.map_nil]); first | done | rfl | (simp only [List.length_drop, List.length_take]; rfl)) ?_
                    with_reducible refine (tegularef13_Number.calls k a0_6 t157 _ A4.out).mono ?_
                    rintro e w30 ⟨rfl, hb⟩
                    refine ⟨_, rfl, ?_⟩
                    have n0_ := Aside0.mk (blk_below (g := gb155) (o := .cells #[.int .i64 a0_0, .int .i64 a0_1, .int .i64 a0_2, .bool a0_3, .string a0_4, .string a0_5, .int .i64 a0_6, .int .i64 a0_7, .slice A0_8 l0_8.length c0_8] 24 (0, 0)) (by (with_reducible repeat (first | refine blk_drewN ?_ _ | refine blk_drew ?_ | refine blk_alloc ?_ _)); exact BK155.out) hb)
                    have n1_ := Aside0.mk (below_step (by repeat (first | (with_reducible first | exact HB.out | apply below_alloc | apply pw_below_drewN | apply below_drew1 | refine below_set ?_ GE155.out) | exact HB.out)) hb)
                    clear BK155
                    clear HB
                    have BK155 := n0_
                    have HB := n1_
                    clear n0_ n1_
                    (try clear hb)
                    (try clear hb2)
                    (try clear hk)
                    (try clear hi)
                    refine hK.out _ _ ⟨(blk_cell BK155.out 0).trans rfl, (blk_cell BK155.out 1).trans rfl, (blk_cell BK155.out 2).trans rfl, (blk_cell BK155.out 3).trans rfl, (blk_cell BK155.out 4).trans rfl, (blk_cell BK155.out 5).trans rfl, (blk_cell BK155.out 6).trans rfl, (blk_cell BK155.out 7).trans rfl, (blk_cell BK155.out 8).trans rfl⟩ (fun hHeld => ?_)
                    clear hK K
                    refine norm_ (a' := ?_) ?_ ?_
                    rotate_left
                    · show Act.put _ (some 14) _ = _
                      simp only [Act.put, List.setIfInBounds_toArray, List.set_cons_zero, List.set_cons_succ, i64_w, i32_w]
                      rfl
                    refine pure_ (i := 3) (N := some 15) (v := ?_) (a' := ?_) #[true, true, true, true, true, true, false, false, false, false] rfl rfl (any_of HT_.out (by kernel_rfl)) (fun _ _ _ h => h) (Or.inl ⟨by rfl, ?_⟩) ?_ ?_
                    rotate_left
                    · intro w'
                      go_simp
                      with_reducible rfl
                    rotate_left
                    · simp only [Act.put, List.setIfInBounds_toArray, List.set_cons_zero, List.set_cons_succ, i64_w, i32_w]
                      rfl
                    refine one_ (i := 6) (N := some 18) #[true, true, true, true, true, true, true, false, false, false] rfl rfl (one_of HT_.out (by kernel_rfl)) (by decide) (fun K hK => ?_)
                    refine goes_ Tryd.func48 (by kernel_rfl) rfl #[.int .i64 a0_7] (by rfl) rfl rfl (by (try simp only [List.map_toArray, List.map_cons, List.map_nil]); first | done | rfl | (simp only [List.length_drop, List.length_take]; rfl)) ?_
                    with_reducible refine (tegularef13_Number.calls k a0_7 t158 _ A6.out).mono ?_
                    rintro e w31 ⟨rfl, hb⟩
                    refine ⟨_, rfl, ?_⟩
                    have n0_ := Aside0.mk (blk_below (g := gb155) (o := .cells #[.int .i64 a0_0, .int .i64 a0_1, .int .i64 a0_2, .bool a0_3, .string a0_4, .string a0_5, .int .i64 a0_6, .int .i64 a0_7, .slice A0_8 l0_8.length c0_8] 24 (0, 0)) (by (with_reducible repeat (first | refine blk_drewN ?_ _ | refine blk_drew ?_ | refine blk_alloc ?_ _)); exact BK155.out) hb)
                    have n1_ := Aside0.mk (below_step (by repeat (first | (with_reducible first | exact HB.out | apply below_alloc | apply pw_below_drewN | apply below_drew1 | refine below_set ?_ GE155.out) | exact HB.out)) hb)
                    clear BK155
                    clear HB
                    have BK155 := n0_
                    have HB := n1_
                    clear n0_ n1_
                    (try clear hb)
                    (try clear hb2)
                    (try clear hk)
                    (try clear hi)
                    refine hK.out _ _ ⟨(blk_cell BK155.out 0).trans rfl, (blk_cell BK155.out 1).trans rfl, (blk_cell BK155.out 2).trans rfl, (blk_cell BK155.out 3).trans rfl, (blk_cell BK155.out 4).trans rfl, (blk_cell BK155.out 5).trans rfl, (blk_cell BK155.out 6).trans rfl, (blk_cell BK155.out 7).trans rfl, (blk_cell BK155.out 8).trans rfl⟩ (fun hHeld => ?_)
                    clear hK K
                    refine norm_ (a' := ?_) ?_ ?_
                    rotate_left
                    · show Act.put _ (some 18) _ = _
                      simp only [Act.put, List.setIfInBounds_toArray, List.set_cons_zero, List.set_cons_succ, i64_w, i32_w]
                      rfl
                    refine pure_ (i := 7) (N := some 19) (v := ?_) (a' := ?_) #[true, true, true, true, true, true, true, true, false, false] rfl rfl (any_of HT_.out (by kernel_rfl)) (fun _ _ _ h => h) (Or.inl ⟨by rfl, ?_⟩) ?_ ?_
                    rotate_left
                    · intro w'
                      go_simp
                      with_reducible rfl
                    rotate_left
                    · simp only [Act.put, List.setIfInBounds_toArray, List.set_cons_zero, List.set_cons_succ, i64_w, i32_w]
                      rfl
                    refine pure_ (i := 8) (N := some 4) (v := ?_) (a' := ?_) #[true, true, true, true, true, true, true, true, true, false] rfl rfl (any_of HT_.out (by kernel_rfl)) (fun _ _ _ h => h) (Or.inl ⟨by rfl, ?_⟩) ?_ ?_
                    rotate_left
                    · intro w'
                      go_simp
                      with_reducible rfl
                    rotate_left
                    · simp only [Act.put, List.setIfInBounds_toArray, List.set_cons_zero, List.set_cons_succ, i64_w, i32_w]
                      rfl
                    refine pure_ (i := 9) (N := some 5) (v := ?_) (a' := ?_) #[true, true, true, true, true, true, true, true, true, true] rfl rfl (any_of HT_.out (by kernel_rfl)) (fun _ _ _ h => h) (Or.inl ⟨by rfl, ?_⟩) ?_ ?_
                    rotate_left
                    · intro w'
                      go_simp
                      with_reducible rfl
                    rotate_left
                    · simp only [Act.put, List.setIfInBounds_toArray, List.set_cons_zero, List.set_cons_succ, i64_w, i32_w]
                      rfl
                    refine done_ (done_of HT_.out (by kernel_rfl)) ?_
                    have hcz32_0 : w31.cell? ⟨gb155, 0, none⟩ = some (.int .i64 a0_0) := (blk_cell BK155.out 0).trans rfl
                    have hcz32_1 : w31.cell? ⟨gb155, 1, none⟩ = some (.int .i64 a0_1) := (blk_cell BK155.out 1).trans rfl
                    have hcz32_2 : w31.cell? ⟨gb155, 2, none⟩ = some (.int .i64 a0_2) := (blk_cell BK155.out 2).trans rfl
                    have hcz32_3 : w31.cell? ⟨gb155, 3, none⟩ = some (.bool a0_3) := (blk_cell BK155.out 3).trans rfl
                    have hcz32_4 : w31.cell? ⟨gb155, 4, none⟩ = some (.string a0_4) := (blk_cell BK155.out 4).trans rfl
                    have hcz32_5 : w31.cell? ⟨gb155, 5, none⟩ = some (.string a0_5) := (blk_cell BK155.out 5).trans rfl
                    have hcz32_6 : w31.cell? ⟨gb155, 6, none⟩ = some (.int .i64 a0_6) := (blk_cell BK155.out 6).trans rfl
                    have hcz32_7 : w31.cell? ⟨gb155, 7, none⟩ = some (.int .i64 a0_7) := (blk_cell BK155.out 7).trans rfl
                    have hcz32_8 : w31.cell? ⟨gb155, 8, none⟩ = some (.slice A0_8 l0_8.length c0_8) := (blk_cell BK155.out 8).trans rfl
                    have hfz32_0 := blk_frozen BK155.out 0
                    have hfz32_1 := blk_frozen BK155.out 1
                    have hfz32_2 := blk_frozen BK155.out 2
                    have hfz32_3 := blk_frozen BK155.out 3
                    have hfz32_4 := blk_frozen BK155.out 4
                    have hfz32_5 := blk_frozen BK155.out 5
                    have hfz32_6 := blk_frozen BK155.out 6
                    have hfz32_7 := blk_frozen BK155.out 7
                    have hfz32_8 := blk_frozen BK155.out 8
                    try go_wp2
                    go_loopg [6, 7] k (fun kq v6 v7 w' => ∃ (x6_1 : ByteArray) (x7_1 : Int), v6 = .string x6_1 ∧ v7 = .int .i64 x7_1 ∧ Aside0 (tegularef39_words.l0 kq x6_1 x7_1 a0_0 a0_1 a0_2 a0_3 a0_4 a0_5 a0_6 a0_7 l0_8 = some r) ∧ Aside0 (kq ≤ k) ∧ Aside0 (w'.heap[gb155]? = some (.cells #[.int .i64 a0_0, .int .i64 a0_1, .int .i64 a0_2, .bool a0_3, .string a0_4, .string a0_5, .int .i64 a0_6, .int .i64 a0_7, (.slice A0_8 l0_8.length c0_8)] 24 (0, 0))) ∧ Aside0 (Below w.heap.size w w'))
                    case atStart => exact ⟨(((((⟨#[119, 114, 105, 116, 101]⟩ : ByteArray) ++ ((⟨#[32]⟩ : ByteArray) ++ t156)) ++ (⟨#[32]⟩ : ByteArray)) ++ a0_4) ++ ((⟨#[32]⟩ : ByteArray) ++ t157)), (0), (by first | rfl | (simp; done) | (simp [*]; done)), (by first | rfl | (simp; done) | (simp [*]; done)), H', ⟨Nat.le_refl _⟩, ⟨by (with_reducible repeat (first | refine blk_drewN ?_ _ | refine blk_drew ?_ | refine blk_alloc ?_ _)); exact BK155.out⟩, ⟨by repeat (first | (with_reducible first | exact HB.out | apply below_alloc | apply pw_below_drewN | apply below_drew1 | refine below_set ?_ GE155.out) | exact HB.out)⟩⟩
                    case round =>
                      clear H'
                      try clear c1
                      try clear c2
                      try clear p2
                      try clear c3
                      try clear c3b0
                      try clear c3b1
                      try clear c3b2
                      try clear c4
                      try clear c5
                      try clear c5b0
                      try clear c5b1
                      try clear c5b2
                      try clear c7
                      try clear c7b0
                      try clear c7b1
                      try clear c7b2
                      try clear c8
                      try clear c8b0
                      try clear c8b1
                      try clear c9
                      try clear c9b0
                      try clear c9b1
                      try clear c9b2
                      try clear c10
                      try clear c10b0
                      try clear c10b1
                      try clear c10b2
                      try clear c11
                      try clear c11b0
                      try clear c11b1
                      try clear c11b2
                      try clear c12
                      try clear c12b0
                      try clear c12b1
                      try clear c12b2
                      try clear c13
                      try clear c13b0
                      try clear c13b1
                      try clear c13b2
                      try clear c21
                      try clear c21b0
                      try clear c21b1
                      try clear c22
                      try clear c22b0
                      try clear c22b1
                      try clear c22b2
                      try clear c23
                      try clear c23b0
                      try clear c23b1
                      try clear c23b2
                      try clear c24
                      try clear c24b0
                      try clear c24b1
                      try clear c24b2
                      try clear c25
                      try clear c25b0
                      try clear c25b1
                      try clear c25b2
                      try clear hcz15_0
                      try clear hcz15_1
                      try clear hcz15_2
                      try clear hcz15_3
                      try clear hcz15_4
                      try clear hcz15_5
                      try clear hcz15_6
                      try clear hcz15_7
                      try clear hcz15_8
                      try clear hcz20_0
                      try clear hcz20_1
                      try clear hcz20_2
                      try clear hcz20_3
                      try clear hcz20_4
                      try clear hcz20_5
                      try clear hcz20_6
                      try clear hcz20_7
                      try clear hcz20_8
                      try clear hcz27_0
                      try clear hcz27_1
                      try clear hcz27_2
                      try clear hcz27_3
                      try clear hcz27_4
                      try clear hcz27_5
                      try clear hcz27_6
                      try clear hcz27_7
                      try clear hcz27_8
                      try clear hcz32_0
                      try clear hcz32_1
                      try clear hcz32_2
                      try clear hcz32_3
                      try clear hcz32_4
                      try clear hcz32_5
                      try clear hcz32_6
                      try clear hcz32_7
                      try clear hcz32_8
                      try clear hfz15_0
                      try clear hfz15_1
                      try clear hfz15_2
                      try clear hfz15_3
                      try clear hfz15_4
                      try clear hfz15_5
                      try clear hfz15_6
                      try clear hfz15_7
                      try clear hfz15_8
                      try clear hfz20_0
                      try clear hfz20_1
                      try clear hfz20_2
                      try clear hfz20_3
                      try clear hfz20_4
                      try clear hfz20_5
                      try clear hfz20_6
                      try clear hfz20_7
                      try clear hfz20_8
                      try clear hfz27_0
                      try clear hfz27_1
                      try clear hfz27_2
                      try clear hfz27_3
                      try clear hfz27_4
                      try clear hfz27_5
                      try clear hfz27_6
                      try clear hfz27_7
                      try clear hfz27_8
                      try clear hfz32_0
                      try clear hfz32_1
                      try clear hfz32_2
                      try clear hfz32_3
                      try clear hfz32_4
                      try clear hfz32_5
                      try clear hfz32_6
                      try clear hfz32_7
                      try clear hfz32_8
                      obtain ⟨x6_1, x7_1, rfl, rfl, HA, HK1, BK155, HB⟩ := hrel
                      cases gk with
                      | zero => exact absurd HA.out (by simp [tegularef39_words.l0])
                      | succ k1 =>
                        have H := HA.out
                        clear HA
                        simp only [tegularef39_words.l0] at H
                        by_cases c33 : x7_1 < (l0_8.length : Int)
                        · rw [if_pos c33] at H
                          have c33b0 : decide (x7_1 < (l0_8.length : Int)) = true := decide_eq_true c33
                          clear c33
                          by_cases c34 : x6_1.size + 1 ≤ 9223372036854775807
                          · rw [if_pos c34] at H
                            have c34b0 := eq_true c34
                            have c34b1 : decide (x6_1.size + 1 ≤ 9223372036854775807) = true := decide_eq_true c34
                            try have c34b2 : (9223372036854775807 < x6_1.size + 1) = False := eq_false (Nat.not_lt.2 c34)
                            by_cases c35 : 0 ≤ x7_1
                            · rw [if_pos c35] at H
                              have c35b0 : decide (0 ≤ x7_1) = true := decide_eq_true c35
                              clear c35
                              replace H := Option.bind_eq_some_iff.mp H
                              obtain ⟨t160, A360, H⟩ := H
                              replace H : (if (x6_1 ++ (⟨#[32]⟩ : ByteArray)).size + t160.size ≤ 9223372036854775807 then (tegularef39_words.l0 k1 ((x6_1 ++ (⟨#[32]⟩ : ByteArray)) ++ t160) (wrap64 (x7_1 + 1)) a0_0 a0_1 a0_2 a0_3 a0_4 a0_5 a0_6 a0_7 l0_8) else (none)) = some r := H
                              have A36 := Aside0.mk A360
                              clear A360
                              by_cases c37 : (x6_1 ++ (⟨#[32]⟩ : ByteArray)).size + t160.size ≤ 9223372036854775807
                              · rw [if_pos c37] at H
                                have c37b0 := eq_true c37
                                have c37b1 : decide ((x6_1 ++ (⟨#[32]⟩ : ByteArray)).size + t160.size ≤ 9223372036854775807) = true := decide_eq_true c37
                                try have c37b2 : (9223372036854775807 < (x6_1 ++ (⟨#[32]⟩ : ByteArray)).size + t160.size) = False := eq_false (Nat.not_lt.2 c37)
                                try have c37b3 : (9223372036854775807 < (x6_1.size + 1) + t160.size) = False := by
                                      have z := c37
                                      simp only [ByteArray.size_append] at z
                                      refine eq_false (Nat.not_lt.2 (Nat.le_trans (Nat.le_of_eq ?_) z))
                                      rfl
                                have H' := Aside0.mk H
                                clear H
                                have hcz38_0 : wr.cell? ⟨gb155, 0, none⟩ = some (.int .i64 a0_0) := (blk_cell BK155.out 0).trans rfl
                                have hcz38_1 : wr.cell? ⟨gb155, 1, none⟩ = some (.int .i64 a0_1) := (blk_cell BK155.out 1).trans rfl
                                have hcz38_2 : wr.cell? ⟨gb155, 2, none⟩ = some (.int .i64 a0_2) := (blk_cell BK155.out 2).trans rfl
                                have hcz38_3 : wr.cell? ⟨gb155, 3, none⟩ = some (.bool a0_3) := (blk_cell BK155.out 3).trans rfl
                                have hcz38_4 : wr.cell? ⟨gb155, 4, none⟩ = some (.string a0_4) := (blk_cell BK155.out 4).trans rfl
                                have hcz38_5 : wr.cell? ⟨gb155, 5, none⟩ = some (.string a0_5) := (blk_cell BK155.out 5).trans rfl
                                have hcz38_6 : wr.cell? ⟨gb155, 6, none⟩ = some (.int .i64 a0_6) := (blk_cell BK155.out 6).trans rfl
                                have hcz38_7 : wr.cell? ⟨gb155, 7, none⟩ = some (.int .i64 a0_7) := (blk_cell BK155.out 7).trans rfl
                                have hcz38_8 : wr.cell? ⟨gb155, 8, none⟩ = some (.slice A0_8 l0_8.length c0_8) := (blk_cell BK155.out 8).trans rfl
                                have hfz38_0 := blk_frozen BK155.out 0
                                have hfz38_1 := blk_frozen BK155.out 1
                                have hfz38_2 := blk_frozen BK155.out 2
                                have hfz38_3 := blk_frozen BK155.out 3
                                have hfz38_4 := blk_frozen BK155.out 4
                                have hfz38_5 := blk_frozen BK155.out 5
                                have hfz38_6 := blk_frozen BK155.out 6
                                have hfz38_7 := blk_frozen BK155.out 7
                                have hfz38_8 := blk_frozen BK155.out 8
                                have p159 : 0 ≤ (x7_1 : Int) := of_decide_eq_true (by first | (with_reducible assumption) | assumption)
                                have q159 : x7_1 < (l0_8.length : Int) := of_decide_eq_true (by first | (with_reducible assumption) | assumption)
                                obtain ⟨ad159, e159, hx159_0, hx159_1, hx159_2, hx159_3, hx159_4, hx159_5, hx159_6, hx159_7⟩ := at_T35 HR0_8.out x7_1 p159 q159
                                cases e159
                                replace hx159_0 := (HB.out.cell (World.block_lt_of_cell? w _ hx159_0)).trans hx159_0
                                replace hx159_1 := (HB.out.cell (World.block_lt_of_cell? w _ hx159_1)).trans hx159_1
                                replace hx159_2 := (HB.out.cell (World.block_lt_of_cell? w _ hx159_2)).trans hx159_2
                                replace hx159_3 := (HB.out.cell (World.block_lt_of_cell? w _ hx159_3)).trans hx159_3
                                replace hx159_4 := (HB.out.cell (World.block_lt_of_cell? w _ hx159_4)).trans hx159_4
                                replace hx159_5 := (HB.out.cell (World.block_lt_of_cell? w _ hx159_5)).trans hx159_5
                                replace hx159_6 := (HB.out.cell (World.block_lt_of_cell? w _ hx159_6)).trans hx159_6
                                replace hx159_7 := (HB.out.cell (World.block_lt_of_cell? w _ hx159_7)).trans hx159_7
                                replace p159 := eq_true p159
                                replace q159 := eq_true q159
                                go_wp2_with (first | ((with_reducible refine gate_callee (f := 49) rfl ?_); refine goesL_ (some 58) rfl rfl Tryd.func49 (by kernel_rfl) rfl #[.agg #[.int .u8 ((rd_T35 l0_8 x7_1).f0), .int .u8 ((rd_T35 l0_8 x7_1).f1), .int .u8 ((rd_T35 l0_8 x7_1).f2), .int .u8 ((rd_T35 l0_8 x7_1).f3), .int .u8 ((rd_T35 l0_8 x7_1).f4), .int .u8 ((rd_T35 l0_8 x7_1).f5), .int .u8 ((rd_T35 l0_8 x7_1).f6), .int .u8 ((rd_T35 l0_8 x7_1).f7)]] rfl (by (try simp only [List.map_toArray, List.map_cons, List.map_nil]); first | done | rfl | (simp only [List.length_drop, List.length_take]; rfl)) ?_; (with_reducible refine (tegularef39_block.calls ((rd_T35 l0_8 x7_1).f0) ((rd_T35 l0_8 x7_1).f1) ((rd_T35 l0_8 x7_1).f2) ((rd_T35 l0_8 x7_1).f3) ((rd_T35 l0_8 x7_1).f4) ((rd_T35 l0_8 x7_1).f5) ((rd_T35 l0_8 x7_1).f6) ((rd_T35 l0_8 x7_1).f7) t160 _ A36.out).mono ?_); rintro e w39 ⟨rfl, hb⟩; refine ⟨_, rfl, ?_⟩; have n0_ := Aside0.mk (blk_below (g := gb155) (o := .cells #[.int .i64 a0_0, .int .i64 a0_1, .int .i64 a0_2, .bool a0_3, .string a0_4, .string a0_5, .int .i64 a0_6, .int .i64 a0_7, .slice (some ad159) l0_8.length c0_8] 24 (0, 0)) (by (with_reducible repeat (first | refine blk_drewN ?_ _ | refine blk_drew ?_ | refine blk_alloc ?_ _)); exact BK155.out) hb); have n1_ := Aside0.mk (below_step (by repeat (first | (with_reducible first | exact HB.out | apply below_alloc | apply pw_below_drewN | apply below_drew1 | refine below_set ?_ GE155.out) | exact HB.out)) hb); clear BK155; clear HB; have BK155 := n0_; have HB := n1_; clear n0_ n1_; (try clear hb); (try clear hb2); (try clear hk); (try clear hi)))
                                go_roundg k1
                                case measure => have := HK1.out; omega
                                case rel => exact ⟨((x6_1 ++ (⟨#[32]⟩ : ByteArray)) ++ t160), (wrap64 (x7_1 + 1)), (by first | rfl | (simp; done) | (simp [*]; done)), (by first | rfl | (simp; done) | (simp [*]; done)), H', ⟨by have := HK1.out; omega⟩, ⟨by (with_reducible repeat (first | refine blk_drewN ?_ _ | refine blk_drew ?_ | refine blk_alloc ?_ _)); exact BK155.out⟩, ⟨by repeat (first | (with_reducible first | exact HB.out | apply below_alloc | apply pw_below_drewN | apply below_drew1 | refine below_set ?_ GE155.out) | exact HB.out)⟩⟩
                              · rw [if_neg c37] at H
                                exact absurd H (by simp)
                            · rw [if_neg c35] at H
                              exact absurd H (by simp)
                          · rw [if_neg c34] at H
                            exact absurd H (by simp)
                        · rw [if_neg c33] at H
                          have c33b0 : decide (x7_1 < (l0_8.length : Int)) = false := decide_eq_false c33
                          clear c33
                          obtain rfl := Option.some.inj H
                          have hcz40_0 : wr.cell? ⟨gb155, 0, none⟩ = some (.int .i64 a0_0) := (blk_cell BK155.out 0).trans rfl
                          have hcz40_1 : wr.cell? ⟨gb155, 1, none⟩ = some (.int .i64 a0_1) := (blk_cell BK155.out 1).trans rfl
                          have hcz40_2 : wr.cell? ⟨gb155, 2, none⟩ = some (.int .i64 a0_2) := (blk_cell BK155.out 2).trans rfl
                          have hcz40_3 : wr.cell? ⟨gb155, 3, none⟩ = some (.bool a0_3) := (blk_cell BK155.out 3).trans rfl
                          have hcz40_4 : wr.cell? ⟨gb155, 4, none⟩ = some (.string a0_4) := (blk_cell BK155.out 4).trans rfl
                          have hcz40_5 : wr.cell? ⟨gb155, 5, none⟩ = some (.string a0_5) := (blk_cell BK155.out 5).trans rfl
                          have hcz40_6 : wr.cell? ⟨gb155, 6, none⟩ = some (.int .i64 a0_6) := (blk_cell BK155.out 6).trans rfl
                          have hcz40_7 : wr.cell? ⟨gb155, 7, none⟩ = some (.int .i64 a0_7) := (blk_cell BK155.out 7).trans rfl
                          have hcz40_8 : wr.cell? ⟨gb155, 8, none⟩ = some (.slice A0_8 l0_8.length c0_8) := (blk_cell BK155.out 8).trans rfl
                          have hfz40_0 := blk_frozen BK155.out 0
                          have hfz40_1 := blk_frozen BK155.out 1
                          have hfz40_2 := blk_frozen BK155.out 2
                          have hfz40_3 := blk_frozen BK155.out 3
                          have hfz40_4 := blk_frozen BK155.out 4
                          have hfz40_5 := blk_frozen BK155.out 5
                          have hfz40_6 := blk_frozen BK155.out 6
                          have hfz40_7 := blk_frozen BK155.out 7
                          have hfz40_8 := blk_frozen BK155.out 8
                          go_wp2
                          go_ret
                          exact ⟨by first | rfl | (simp [errW_none, errW_some] <;> rfl) | (simp [*, errW_none, errW_some] <;> rfl), by repeat (first | (with_reducible first | exact HB.out | apply below_alloc | apply pw_below_drewN | apply below_drew1 | refine below_set ?_ GE155.out) | exact HB.out)⟩
                  · rw [if_neg c25] at H
                    exact absurd H (by simp)
                · rw [if_neg c24] at H
                  exact absurd H (by simp)
              · rw [if_neg c23] at H
                exact absurd H (by simp)
            · rw [if_neg c22] at H
              exact absurd H (by simp)
          · rw [if_neg c21] at H
            have c21b0 : (a0_1 == 2) = false := beq_eq_false_iff_ne.mpr c21
            have c21b1 : (a0_1 != 2) = true := bne_iff_ne.mpr c21
            by_cases c41 : a0_1 = 3
            · rw [if_pos c41] at H
              have c41b0 : (a0_1 == 3) = true := beq_iff_eq.mpr c41
              have c41b1 : (a0_1 != 3) = false := bne_eq_false_iff_eq.mpr c41
              clear c41
              by_cases c42 : 4 + ((⟨#[32]⟩ : ByteArray) ++ t156).size ≤ 9223372036854775807
              · rw [if_pos c42] at H
                have c42b0 := eq_true c42
                have c42b1 : decide (4 + ((⟨#[32]⟩ : ByteArray) ++ t156).size ≤ 9223372036854775807) = true := decide_eq_true c42
                try have c42b2 : (9223372036854775807 < 4 + ((⟨#[32]⟩ : ByteArray) ++ t156).size) = False := eq_false (Nat.not_lt.2 c42)
                try have c42b3 : (9223372036854775807 < 4 + (1 + t156.size)) = False := by
                      have z := c42
                      simp only [ByteArray.size_append] at z
                      refine eq_false (Nat.not_lt.2 (Nat.le_trans (Nat.le_of_eq ?_) z))
                      rfl
                by_cases c43 : ((⟨#[116, 114, 105, 109]⟩ : ByteArray) ++ ((⟨#[32]⟩ : ByteArray) ++ t156)).size + 1 ≤ 9223372036854775807
                · rw [if_pos c43] at H
                  have c43b0 := eq_true c43
                  have c43b1 : decide (((⟨#[116, 114, 105, 109]⟩ : ByteArray) ++ ((⟨#[32]⟩ : ByteArray) ++ t156)).size + 1 ≤ 9223372036854775807) = true := decide_eq_true c43
                  try have c43b2 : (9223372036854775807 < ((⟨#[116, 114, 105, 109]⟩ : ByteArray) ++ ((⟨#[32]⟩ : ByteArray) ++ t156)).size + 1) = False := eq_false (Nat.not_lt.2 c43)
                  try have c43b3 : (9223372036854775807 < (4 + (1 + t156.size)) + 1) = False := by
                        have z := c43
                        simp only [ByteArray.size_append] at z
                        refine eq_false (Nat.not_lt.2 (Nat.le_trans (Nat.le_of_eq ?_) z))
                        rfl
                  by_cases c44 : (((⟨#[116, 114, 105, 109]⟩ : ByteArray) ++ ((⟨#[32]⟩ : ByteArray) ++ t156)) ++ (⟨#[32]⟩ : ByteArray)).size + a0_4.size ≤ 9223372036854775807
                  · rw [if_pos c44] at H
                    have c44b0 := eq_true c44
                    have c44b1 : decide ((((⟨#[116, 114, 105, 109]⟩ : ByteArray) ++ ((⟨#[32]⟩ : ByteArray) ++ t156)) ++ (⟨#[32]⟩ : ByteArray)).size + a0_4.size ≤ 9223372036854775807) = true := decide_eq_true c44
                    try have c44b2 : (9223372036854775807 < (((⟨#[116, 114, 105, 109]⟩ : ByteArray) ++ ((⟨#[32]⟩ : ByteArray) ++ t156)) ++ (⟨#[32]⟩ : ByteArray)).size + a0_4.size) = False := eq_false (Nat.not_lt.2 c44)
                    try have c44b3 : (9223372036854775807 < ((4 + (1 + t156.size)) + 1) + a0_4.size) = False := by
                          have z := c44
                          simp only [ByteArray.size_append] at z
                          refine eq_false (Nat.not_lt.2 (Nat.le_trans (Nat.le_of_eq ?_) z))
                          rfl
                    by_cases c45 : ((((⟨#[116, 114, 105, 109]⟩ : ByteArray) ++ ((⟨#[32]⟩ : ByteArray) ++ t156)) ++ (⟨#[32]⟩ : ByteArray)) ++ a0_4).size + ((⟨#[32]⟩ : ByteArray) ++ t157).size ≤ 9223372036854775807
                    · rw [if_pos c45] at H
                      have c45b0 := eq_true c45
                      have c45b1 : decide (((((⟨#[116, 114, 105, 109]⟩ : ByteArray) ++ ((⟨#[32]⟩ : ByteArray) ++ t156)) ++ (⟨#[32]⟩ : ByteArray)) ++ a0_4).size + ((⟨#[32]⟩ : ByteArray) ++ t157).size ≤ 9223372036854775807) = true := decide_eq_true c45
                      try have c45b2 : (9223372036854775807 < ((((⟨#[116, 114, 105, 109]⟩ : ByteArray) ++ ((⟨#[32]⟩ : ByteArray) ++ t156)) ++ (⟨#[32]⟩ : ByteArray)) ++ a0_4).size + ((⟨#[32]⟩ : ByteArray) ++ t157).size) = False := eq_false (Nat.not_lt.2 c45)
                      try have c45b3 : (9223372036854775807 < (((4 + (1 + t156.size)) + 1) + a0_4.size) + (1 + t157.size)) = False := by
                            have z := c45
                            simp only [ByteArray.size_append] at z
                            refine eq_false (Nat.not_lt.2 (Nat.le_trans (Nat.le_of_eq ?_) z))
                            rfl
                      by_cases c46 : (((((⟨#[116, 114, 105, 109]⟩ : ByteArray) ++ ((⟨#[32]⟩ : ByteArray) ++ t156)) ++ (⟨#[32]⟩ : ByteArray)) ++ a0_4) ++ ((⟨#[32]⟩ : ByteArray) ++ t157)).size + ((⟨#[32]⟩ : ByteArray) ++ t158).size ≤ 9223372036854775807
                      · rw [if_pos c46] at H
                        have c46b0 := eq_true c46
                        have c46b1 : decide ((((((⟨#[116, 114, 105, 109]⟩ : ByteArray) ++ ((⟨#[32]⟩ : ByteArray) ++ t156)) ++ (⟨#[32]⟩ : ByteArray)) ++ a0_4) ++ ((⟨#[32]⟩ : ByteArray) ++ t157)).size + ((⟨#[32]⟩ : ByteArray) ++ t158).size ≤ 9223372036854775807) = true := decide_eq_true c46
                        try have c46b2 : (9223372036854775807 < (((((⟨#[116, 114, 105, 109]⟩ : ByteArray) ++ ((⟨#[32]⟩ : ByteArray) ++ t156)) ++ (⟨#[32]⟩ : ByteArray)) ++ a0_4) ++ ((⟨#[32]⟩ : ByteArray) ++ t157)).size + ((⟨#[32]⟩ : ByteArray) ++ t158).size) = False := eq_false (Nat.not_lt.2 c46)
                        try have c46b3 : (9223372036854775807 < ((((4 + (1 + t156.size)) + 1) + a0_4.size) + (1 + t157.size)) + (1 + t158.size)) = False := by
                              have z := c46
                              simp only [ByteArray.size_append] at z
                              refine eq_false (Nat.not_lt.2 (Nat.le_trans (Nat.le_of_eq ?_) z))
                              rfl
                        obtain rfl := Option.some.inj H
                        go_enter Tryd.func37, Tryd.ntmps37
                        try go_wp2_with (first | ((with_reducible refine gate_dst (N := 1) rfl ?_); refine box_event ?hg (N := 1) ?hd (cs := #[.int .i64 a0_0, .int .i64 a0_1, .int .i64 a0_2, .bool a0_3, .string a0_4, .string a0_5, .int .i64 a0_6, .int .i64 a0_7, .slice A0_8 l0_8.length c0_8]) (t := 24) ?hr ?_; (case hd => rfl); (case hg => rfl); (case hr => first | (go_simp; done) | (go_simp; rfl)); intro gb155 hg w47 hbox hb; have n0_ := Aside0.mk (below_step (by repeat (first | (with_reducible first | exact HB.out | apply below_alloc | apply pw_below_drewN | apply below_drew1) | exact HB.out)) hb); have n1_ := Aside0.mk (hbox); have n2_ := Aside0.mk ((by rw [hg]; exact (below_size (by repeat (first | (with_reducible first | exact HB.out | apply below_alloc | apply pw_below_drewN | apply below_drew1) | exact HB.out))) : w.heap.size ≤ gb155)); have n3_ := Aside0.mk ((by rw [hg]; exact (below_size (by repeat (first | (with_reducible first | exact HB.out | apply below_alloc | apply pw_below_drewN | apply below_drew1) | exact HB.out))) : w.heap.size ≤ gb155)); clear HB; have HB := n0_; have BK155 := n1_; have GW155 := n2_; have GE155 := n3_; clear n0_ n1_ n2_ n3_; clear hb hbox hg; have hcz48_0 : w47.cell? ⟨gb155, 0, none⟩ = some (.int .i64 a0_0) := (blk_cell BK155.out 0).trans rfl; have hcz48_1 : w47.cell? ⟨gb155, 1, none⟩ = some (.int .i64 a0_1) := (blk_cell BK155.out 1).trans rfl; have hcz48_2 : w47.cell? ⟨gb155, 2, none⟩ = some (.int .i64 a0_2) := (blk_cell BK155.out 2).trans rfl; have hcz48_3 : w47.cell? ⟨gb155, 3, none⟩ = some (.bool a0_3) := (blk_cell BK155.out 3).trans rfl; have hcz48_4 : w47.cell? ⟨gb155, 4, none⟩ = some (.string a0_4) := (blk_cell BK155.out 4).trans rfl; have hcz48_5 : w47.cell? ⟨gb155, 5, none⟩ = some (.string a0_5) := (blk_cell BK155.out 5).trans rfl; have hcz48_6 : w47.cell? ⟨gb155, 6, none⟩ = some (.int .i64 a0_6) := (blk_cell BK155.out 6).trans rfl; have hcz48_7 : w47.cell? ⟨gb155, 7, none⟩ = some (.int .i64 a0_7) := (blk_cell BK155.out 7).trans rfl; have hcz48_8 : w47.cell? ⟨gb155, 8, none⟩ = some (.slice A0_8 l0_8.length c0_8) := (blk_cell BK155.out 8).trans rfl; have hfz48_0 := blk_frozen BK155.out 0; have hfz48_1 := blk_frozen BK155.out 1; have hfz48_2 := blk_frozen BK155.out 2; have hfz48_3 := blk_frozen BK155.out 3; have hfz48_4 := blk_frozen BK155.out 4; have hfz48_5 := blk_frozen BK155.out 5; have hfz48_6 := blk_frozen BK155.out 6; have hfz48_7 := blk_frozen BK155.out 7; have hfz48_8 := blk_frozen BK155.out 8) | ((with_reducible refine gate_callee (f := 48) rfl ?_); refine goesL_ (some 10) rfl rfl Tryd.func48 (by kernel_rfl) rfl #[.int .i64 a0_0] rfl (by (try simp only [List.map_toArray, List.map_cons, List.map_nil]); first | done | rfl | (simp only [List.length_drop, List.length_take]; rfl)) ?_; (with_reducible refine (tegularef13_Number.calls k a0_0 t156 _ A2.out).mono ?_); rintro e w49 ⟨rfl, hb⟩; refine ⟨_, rfl, ?_⟩; have n0_ := Aside0.mk (blk_below (g := gb155) (o := .cells #[.int .i64 a0_0, .int .i64 a0_1, .int .i64 a0_2, .bool a0_3, .string a0_4, .string a0_5, .int .i64 a0_6, .int .i64 a0_7, .slice A0_8 l0_8.length c0_8] 24 (0, 0)) (by (with_reducible repeat (first | refine blk_drewN ?_ _ | refine blk_drew ?_ | refine blk_alloc ?_ _)); exact BK155.out) hb); have n1_ := Aside0.mk (below_step (by repeat (first | (with_reducible first | exact HB.out | apply below_alloc | apply pw_below_drewN | apply below_drew1 | refine below_set ?_ GE155.out) | exact HB.out)) hb); clear BK155; clear HB; have BK155 := n0_; have HB := n1_; clear n0_ n1_; (try clear hb); (try clear hb2); (try clear hk); (try clear hi)))
                        have n0_ := Aside0.mk (blk_drew BK155.out)
                        have n1_ := Aside0.mk (below_drew1 HB.out)
                        clear BK155
                        clear HB
                        have BK155 := n0_
                        have HB := n1_
                        clear n0_ n1_
                        refine start_ (n := 10) (S := fun w' => w'.cell? ⟨gb155, 0, none⟩ = some (.int .i64 a0_0) ∧ w'.cell? ⟨gb155, 1, none⟩ = some (.int .i64 a0_1) ∧ w'.cell? ⟨gb155, 2, none⟩ = some (.int .i64 a0_2) ∧ w'.cell? ⟨gb155, 3, none⟩ = some (.bool a0_3) ∧ w'.cell? ⟨gb155, 4, none⟩ = some (.string a0_4) ∧ w'.cell? ⟨gb155, 5, none⟩ = some (.string a0_5) ∧ w'.cell? ⟨gb155, 6, none⟩ = some (.int .i64 a0_6) ∧ w'.cell? ⟨gb155, 7, none⟩ = some (.int .i64 a0_7) ∧ w'.cell? ⟨gb155, 8, none⟩ = some (.slice A0_8 l0_8.length c0_8)) (ds := []) #[false, false, false, false, false, false, false, false, false, false] (by kernel_rfl) rfl rfl ⟨(blk_cell BK155.out 0).trans rfl, (blk_cell BK155.out 1).trans rfl, (blk_cell BK155.out 2).trans rfl, (blk_cell BK155.out 3).trans rfl, (blk_cell BK155.out 4).trans rfl, (blk_cell BK155.out 5).trans rfl, (blk_cell BK155.out 6).trans rfl, (blk_cell BK155.out 7).trans rfl, (blk_cell BK155.out 8).trans rfl⟩ (fun hHeld => ?_); refine with_tabW tegularef39_words.tab2 tegularef39_words.bits2 (fun HT_ HW_ => ?_)
                        generalize w49.drew = w50 at BK155 HB hHeld ⊢
                        refine pure_ (i := 0) (N := some 12) (v := ?_) (a' := ?_) #[true, false, false, false, false, false, false, false, false, false] rfl rfl (any_of HT_.out (by kernel_rfl)) (fun _ _ _ h => h) (Or.inl ⟨by rfl, ?_⟩) ?_ ?_
                        rotate_left
                        · intro w'
                          go_simp
                          with_reducible rfl
                        rotate_left
                        · simp only [Act.put, List.setIfInBounds_toArray, List.set_cons_zero, List.set_cons_succ, i64_w, i32_w]
                          rfl
                        refine pure_ (i := 4) (N := some 16) (v := ?_) (a' := ?_) #[true, false, false, false, true, false, false, false, false, false] rfl rfl (any_of HT_.out (by kernel_rfl)) (fun _ _ _ h => h) (Or.inl ⟨by rfl, ?_⟩) ?_ ?_
                        rotate_left
                        · intro w'
                          go_simp
                          with_reducible rfl
                        rotate_left
                        · simp only [Act.put, List.setIfInBounds_toArray, List.set_cons_zero, List.set_cons_succ, i64_w, i32_w]
                          rfl
                        refine take_ (i := 1) (N := some 13) (v := ?_) (a' := ?_) #[true, true, false, false, true, false, false, false, false, false] rfl rfl (take_ofW HT_.out HW_.out (by kernel_rfl)) (fun _ _ _ h => h) (Or.inl ⟨by rfl, ?_⟩) hHeld ?_ ?_
                        rotate_left
                        · rintro w' ⟨s0, s1, s2, s3, s4, s5, s6, s7, s8⟩
                          go_simp
                          with_reducible rfl
                        rotate_left
                        · simp only [Act.put, List.setIfInBounds_toArray, List.set_cons_zero, List.set_cons_succ, i64_w, i32_w]
                          rfl
                        refine take_ (i := 5) (N := some 17) (v := ?_) (a' := ?_) #[true, true, false, false, true, true, false, false, false, false] rfl rfl (take_ofW HT_.out HW_.out (by kernel_rfl)) (fun _ _ _ h => h) (Or.inl ⟨by rfl, ?_⟩) hHeld ?_ ?_
                        rotate_left
                        · rintro w' ⟨s0, s1, s2, s3, s4, s5, s6, s7, s8⟩
                          go_simp
                          with_reducible rfl
                        rotate_left
                        · simp only [Act.put, List.setIfInBounds_toArray, List.set_cons_zero, List.set_cons_succ, i64_w, i32_w]
                          rfl
                        refine one_ (i := 2) (N := some 14) #[true, true, true, false, true, true, false, false, false, false] rfl rfl (one_of HT_.out (by kernel_rfl)) (by decide) (fun K hK => ?_)
                        refine goes_ Tryd.func48 (by kernel_rfl) rfl #[.int .i64 a0_6] (by rfl) rfl rfl (by (try simp only [List.map_toArray, List.map_cons, List.map_nil]); first | done | rfl | (simp only [List.length_drop, List.length_take]; rfl)) ?_
                        with_reducible refine (tegularef13_Number.calls k a0_6 t157 _ A4.out).mono ?_
                        rintro e w51 ⟨rfl, hb⟩
                        refine ⟨_, rfl, ?_⟩
                        have n0_ := Aside0.mk (blk_below (g := gb155) (o := .cells #[.int .i64 a0_0, .int .i64 a0_1, .int .i64 a0_2, .bool a0_3, .string a0_4, .string a0_5, .int .i64 a0_6, .int .i64 a0_7, .slice A0_8 l0_8.length c0_8] 24 (0, 0)) (by (with_reducible repeat (first | refine blk_drewN ?_ _ | refine blk_drew ?_ | refine blk_alloc ?_ _)); exact BK155.out) hb)
                        have n1_ := Aside0.mk (below_step (by repeat (first | (with_reducible first | exact HB.out | apply below_alloc | apply pw_below_drewN | apply below_drew1 | refine below_set ?_ GE155.out) | exact HB.out)) hb)
                        clear BK155
                        clear HB
                        have BK155 := n0_
                        have HB := n1_
                        clear n0_ n1_
                        (try clear hb)
                        (try clear hb2)
                        (try clear hk)
                        (try clear hi)
                        refine hK.out _ _ ⟨(blk_cell BK155.out 0).trans rfl, (blk_cell BK155.out 1).trans rfl, (blk_cell BK155.out 2).trans rfl, (blk_cell BK155.out 3).trans rfl, (blk_cell BK155.out 4).trans rfl, (blk_cell BK155.out 5).trans rfl, (blk_cell BK155.out 6).trans rfl, (blk_cell BK155.out 7).trans rfl, (blk_cell BK155.out 8).trans rfl⟩ (fun hHeld => ?_)
                        clear hK K
                        refine norm_ (a' := ?_) ?_ ?_
                        rotate_left
                        · show Act.put _ (some 14) _ = _
                          simp only [Act.put, List.setIfInBounds_toArray, List.set_cons_zero, List.set_cons_succ, i64_w, i32_w]
                          rfl
                        refine pure_ (i := 3) (N := some 15) (v := ?_) (a' := ?_) #[true, true, true, true, true, true, false, false, false, false] rfl rfl (any_of HT_.out (by kernel_rfl)) (fun _ _ _ h => h) (Or.inl ⟨by rfl, ?_⟩) ?_ ?_
                        rotate_left
                        · intro w'
                          go_simp
                          with_reducible rfl
                        rotate_left
                        · simp only [Act.put, List.setIfInBounds_toArray, List.set_cons_zero, List.set_cons_succ, i64_w, i32_w]
                          rfl
                        refine one_ (i := 6) (N := some 18) #[true, true, true, true, true, true, true, false, false, false] rfl rfl (one_of HT_.out (by kernel_rfl)) (by decide) (fun K hK => ?_)
                        refine goes_ Tryd.func48 (by kernel_rfl) rfl #[.int .i64 a0_7] (by rfl) rfl rfl (by (try simp only [List.map_toArray, List.map_cons, List.map_nil]); first | done | rfl | (simp only [List.length_drop, List.length_take]; rfl)) ?_
                        with_reducible refine (tegularef13_Number.calls k a0_7 t158 _ A6.out).mono ?_
                        rintro e w52 ⟨rfl, hb⟩
                        refine ⟨_, rfl, ?_⟩
                        have n0_ := Aside0.mk (blk_below (g := gb155) (o := .cells #[.int .i64 a0_0, .int .i64 a0_1, .int .i64 a0_2, .bool a0_3, .string a0_4, .string a0_5, .int .i64 a0_6, .int .i64 a0_7, .slice A0_8 l0_8.length c0_8] 24 (0, 0)) (by (with_reducible repeat (first | refine blk_drewN ?_ _ | refine blk_drew ?_ | refine blk_alloc ?_ _)); exact BK155.out) hb)
                        have n1_ := Aside0.mk (below_step (by repeat (first | (with_reducible first | exact HB.out | apply below_alloc | apply pw_below_drewN | apply below_drew1 | refine below_set ?_ GE155.out) | exact HB.out)) hb)
                        clear BK155
                        clear HB
                        have BK155 := n0_
                        have HB := n1_
                        clear n0_ n1_
                        (try clear hb)
                        (try clear hb2)
                        (try clear hk)
                        (try clear hi)
                        refine hK.out _ _ ⟨(blk_cell BK155.out 0).trans rfl, (blk_cell BK155.out 1).trans rfl, (blk_cell BK155.out 2).trans rfl, (blk_cell BK155.out 3).trans rfl, (blk_cell BK155.out 4).trans rfl, (blk_cell BK155.out 5).trans rfl, (blk_cell BK155.out 6).trans rfl, (blk_cell BK155.out 7).trans rfl, (blk_cell BK155.out 8).trans rfl⟩ (fun hHeld => ?_)
                        clear hK K
                        refine norm_ (a' := ?_) ?_ ?_
                        rotate_left
                        · show Act.put _ (some 18) _ = _
                          simp only [Act.put, List.setIfInBounds_toArray, List.set_cons_zero, List.set_cons_succ, i64_w, i32_w]
                          rfl
                        refine pure_ (i := 7) (N := some 19) (v := ?_) (a' := ?_) #[true, true, true, true, true, true, true, true, false, false] rfl rfl (any_of HT_.out (by kernel_rfl)) (fun _ _ _ h => h) (Or.inl ⟨by rfl, ?_⟩) ?_ ?_
                        rotate_left
                        · intro w'
                          go_simp
                          with_reducible rfl
                        rotate_left
                        · simp only [Act.put, List.setIfInBounds_toArray, List.set_cons_zero, List.set_cons_succ, i64_w, i32_w]
                          rfl
                        refine pure_ (i := 8) (N := some 4) (v := ?_) (a' := ?_) #[true, true, true, true, true, true, true, true, true, false] rfl rfl (any_of HT_.out (by kernel_rfl)) (fun _ _ _ h => h) (Or.inl ⟨by rfl, ?_⟩) ?_ ?_
                        rotate_left
                        · intro w'
                          go_simp
                          with_reducible rfl
                        rotate_left
                        · simp only [Act.put, List.setIfInBounds_toArray, List.set_cons_zero, List.set_cons_succ, i64_w, i32_w]
                          rfl
                        refine pure_ (i := 9) (N := some 5) (v := ?_) (a' := ?_) #[true, true, true, true, true, true, true, true, true, true] rfl rfl (any_of HT_.out (by kernel_rfl)) (fun _ _ _ h => h) (Or.inl ⟨by rfl, ?_⟩) ?_ ?_
                        rotate_left
                        · intro w'
                          go_simp
                          with_reducible rfl
                        rotate_left
                        · simp only [Act.put, List.setIfInBounds_toArray, List.set_cons_zero, List.set_cons_succ, i64_w, i32_w]
                          rfl
                        refine done_ (done_of HT_.out (by kernel_rfl)) ?_
                        have hcz53_0 : w52.cell? ⟨gb155, 0, none⟩ = some (.int .i64 a0_0) := (blk_cell BK155.out 0).trans rfl
                        have hcz53_1 : w52.cell? ⟨gb155, 1, none⟩ = some (.int .i64 a0_1) := (blk_cell BK155.out 1).trans rfl
                        have hcz53_2 : w52.cell? ⟨gb155, 2, none⟩ = some (.int .i64 a0_2) := (blk_cell BK155.out 2).trans rfl
                        have hcz53_3 : w52.cell? ⟨gb155, 3, none⟩ = some (.bool a0_3) := (blk_cell BK155.out 3).trans rfl
                        have hcz53_4 : w52.cell? ⟨gb155, 4, none⟩ = some (.string a0_4) := (blk_cell BK155.out 4).trans rfl
                        have hcz53_5 : w52.cell? ⟨gb155, 5, none⟩ = some (.string a0_5) := (blk_cell BK155.out 5).trans rfl
                        have hcz53_6 : w52.cell? ⟨gb155, 6, none⟩ = some (.int .i64 a0_6) := (blk_cell BK155.out 6).trans rfl
                        have hcz53_7 : w52.cell? ⟨gb155, 7, none⟩ = some (.int .i64 a0_7) := (blk_cell BK155.out 7).trans rfl
                        have hcz53_8 : w52.cell? ⟨gb155, 8, none⟩ = some (.slice A0_8 l0_8.length c0_8) := (blk_cell BK155.out 8).trans rfl
                        have hfz53_0 := blk_frozen BK155.out 0
                        have hfz53_1 := blk_frozen BK155.out 1
                        have hfz53_2 := blk_frozen BK155.out 2
                        have hfz53_3 := blk_frozen BK155.out 3
                        have hfz53_4 := blk_frozen BK155.out 4
                        have hfz53_5 := blk_frozen BK155.out 5
                        have hfz53_6 := blk_frozen BK155.out 6
                        have hfz53_7 := blk_frozen BK155.out 7
                        have hfz53_8 := blk_frozen BK155.out 8
                        try go_wp2
                        go_ret
                        exact ⟨by first | rfl | (simp [errW_none, errW_some] <;> rfl) | (simp [*, errW_none, errW_some] <;> rfl), by repeat (first | (with_reducible first | exact HB.out | apply below_alloc | apply pw_below_drewN | apply below_drew1 | refine below_set ?_ GE155.out) | exact HB.out)⟩
                      · rw [if_neg c46] at H
                        exact absurd H (by simp)
                    · rw [if_neg c45] at H
                      exact absurd H (by simp)
                  · rw [if_neg c44] at H
                    exact absurd H (by simp)
                · rw [if_neg c43] at H
                  exact absurd H (by simp)
              · rw [if_neg c42] at H
                exact absurd H (by simp)
            · rw [if_neg c41] at H
              have c41b0 : (a0_1 == 3) = false := beq_eq_false_iff_ne.mpr c41
              have c41b1 : (a0_1 != 3) = true := bne_iff_ne.mpr c41
              by_cases c54 : a0_1 = 4
              · rw [if_pos c54] at H
                have c54b0 : (a0_1 == 4) = true := beq_iff_eq.mpr c54
                have c54b1 : (a0_1 != 4) = false := bne_eq_false_iff_eq.mpr c54
                clear c54
                by_cases c55 : 5 + ((⟨#[32]⟩ : ByteArray) ++ t156).size ≤ 9223372036854775807
                · rw [if_pos c55] at H
                  have c55b0 := eq_true c55
                  have c55b1 : decide (5 + ((⟨#[32]⟩ : ByteArray) ++ t156).size ≤ 9223372036854775807) = true := decide_eq_true c55
                  try have c55b2 : (9223372036854775807 < 5 + ((⟨#[32]⟩ : ByteArray) ++ t156).size) = False := eq_false (Nat.not_lt.2 c55)
                  try have c55b3 : (9223372036854775807 < 5 + (1 + t156.size)) = False := by
                        have z := c55
                        simp only [ByteArray.size_append] at z
                        refine eq_false (Nat.not_lt.2 (Nat.le_trans (Nat.le_of_eq ?_) z))
                        rfl
                  obtain rfl := Option.some.inj H
                  go_enter Tryd.func37, Tryd.ntmps37
                  try go_wp2_with (first | ((with_reducible refine gate_dst (N := 1) rfl ?_); refine box_event ?hg (N := 1) ?hd (cs := #[.int .i64 a0_0, .int .i64 a0_1, .int .i64 a0_2, .bool a0_3, .string a0_4, .string a0_5, .int .i64 a0_6, .int .i64 a0_7, .slice A0_8 l0_8.length c0_8]) (t := 24) ?hr ?_; (case hd => rfl); (case hg => rfl); (case hr => first | (go_simp; done) | (go_simp; rfl)); intro gb155 hg w56 hbox hb; have n0_ := Aside0.mk (below_step (by repeat (first | (with_reducible first | exact HB.out | apply below_alloc | apply pw_below_drewN | apply below_drew1) | exact HB.out)) hb); have n1_ := Aside0.mk (hbox); have n2_ := Aside0.mk ((by rw [hg]; exact (below_size (by repeat (first | (with_reducible first | exact HB.out | apply below_alloc | apply pw_below_drewN | apply below_drew1) | exact HB.out))) : w.heap.size ≤ gb155)); have n3_ := Aside0.mk ((by rw [hg]; exact (below_size (by repeat (first | (with_reducible first | exact HB.out | apply below_alloc | apply pw_below_drewN | apply below_drew1) | exact HB.out))) : w.heap.size ≤ gb155)); clear HB; have HB := n0_; have BK155 := n1_; have GW155 := n2_; have GE155 := n3_; clear n0_ n1_ n2_ n3_; clear hb hbox hg; have hcz57_0 : w56.cell? ⟨gb155, 0, none⟩ = some (.int .i64 a0_0) := (blk_cell BK155.out 0).trans rfl; have hcz57_1 : w56.cell? ⟨gb155, 1, none⟩ = some (.int .i64 a0_1) := (blk_cell BK155.out 1).trans rfl; have hcz57_2 : w56.cell? ⟨gb155, 2, none⟩ = some (.int .i64 a0_2) := (blk_cell BK155.out 2).trans rfl; have hcz57_3 : w56.cell? ⟨gb155, 3, none⟩ = some (.bool a0_3) := (blk_cell BK155.out 3).trans rfl; have hcz57_4 : w56.cell? ⟨gb155, 4, none⟩ = some (.string a0_4) := (blk_cell BK155.out 4).trans rfl; have hcz57_5 : w56.cell? ⟨gb155, 5, none⟩ = some (.string a0_5) := (blk_cell BK155.out 5).trans rfl; have hcz57_6 : w56.cell? ⟨gb155, 6, none⟩ = some (.int .i64 a0_6) := (blk_cell BK155.out 6).trans rfl; have hcz57_7 : w56.cell? ⟨gb155, 7, none⟩ = some (.int .i64 a0_7) := (blk_cell BK155.out 7).trans rfl; have hcz57_8 : w56.cell? ⟨gb155, 8, none⟩ = some (.slice A0_8 l0_8.length c0_8) := (blk_cell BK155.out 8).trans rfl; have hfz57_0 := blk_frozen BK155.out 0; have hfz57_1 := blk_frozen BK155.out 1; have hfz57_2 := blk_frozen BK155.out 2; have hfz57_3 := blk_frozen BK155.out 3; have hfz57_4 := blk_frozen BK155.out 4; have hfz57_5 := blk_frozen BK155.out 5; have hfz57_6 := blk_frozen BK155.out 6; have hfz57_7 := blk_frozen BK155.out 7; have hfz57_8 := blk_frozen BK155.out 8) | ((with_reducible refine gate_callee (f := 48) rfl ?_); refine goesL_ (some 10) rfl rfl Tryd.func48 (by kernel_rfl) rfl #[.int .i64 a0_0] rfl (by (try simp only [List.map_toArray, List.map_cons, List.map_nil]); first | done | rfl | (simp only [List.length_drop, List.length_take]; rfl)) ?_; (with_reducible refine (tegularef13_Number.calls k a0_0 t156 _ A2.out).mono ?_); rintro e w58 ⟨rfl, hb⟩; refine ⟨_, rfl, ?_⟩; have n0_ := Aside0.mk (blk_below (g := gb155) (o := .cells #[.int .i64 a0_0, .int .i64 a0_1, .int .i64 a0_2, .bool a0_3, .string a0_4, .string a0_5, .int .i64 a0_6, .int .i64 a0_7, .slice A0_8 l0_8.length c0_8] 24 (0, 0)) (by (with_reducible repeat (first | refine blk_drewN ?_ _ | refine blk_drew ?_ | refine blk_alloc ?_ _)); exact BK155.out) hb); have n1_ := Aside0.mk (below_step (by repeat (first | (with_reducible first | exact HB.out | apply below_alloc | apply pw_below_drewN | apply below_drew1 | refine below_set ?_ GE155.out) | exact HB.out)) hb); clear BK155; clear HB; have BK155 := n0_; have HB := n1_; clear n0_ n1_; (try clear hb); (try clear hb2); (try clear hk); (try clear hi)))
                  have n0_ := Aside0.mk (blk_drew BK155.out)
                  have n1_ := Aside0.mk (below_drew1 HB.out)
                  clear BK155
                  clear HB
                  have BK155 := n0_
                  have HB := n1_
                  clear n0_ n1_
                  refine start_ (n := 10) (S := fun w' => w'.cell? ⟨gb155, 0, none⟩ = some (.int .i64 a0_0) ∧ w'.cell? ⟨gb155, 1, none⟩ = some (.int .i64 a0_1) ∧ w'.cell? ⟨gb155, 2, none⟩ = some (.int .i64 a0_2) ∧ w'.cell? ⟨gb155, 3, none⟩ = some (.bool a0_3) ∧ w'.cell? ⟨gb155, 4, none⟩ = some (.string a0_4) ∧ w'.cell? ⟨gb155, 5, none⟩ = some (.string a0_5) ∧ w'.cell? ⟨gb155, 6, none⟩ = some (.int .i64 a0_6) ∧ w'.cell? ⟨gb155, 7, none⟩ = some (.int .i64 a0_7) ∧ w'.cell? ⟨gb155, 8, none⟩ = some (.slice A0_8 l0_8.length c0_8)) (ds := []) #[false, false, false, false, false, false, false, false, false, false] (by kernel_rfl) rfl rfl ⟨(blk_cell BK155.out 0).trans rfl, (blk_cell BK155.out 1).trans rfl, (blk_cell BK155.out 2).trans rfl, (blk_cell BK155.out 3).trans rfl, (blk_cell BK155.out 4).trans rfl, (blk_cell BK155.out 5).trans rfl, (blk_cell BK155.out 6).trans rfl, (blk_cell BK155.out 7).trans rfl, (blk_cell BK155.out 8).trans rfl⟩ (fun hHeld => ?_); refine with_tabW tegularef39_words.tab2 tegularef39_words.bits2 (fun HT_ HW_ => ?_)
                  generalize w58.drew = w59 at BK155 HB hHeld ⊢
                  refine pure_ (i := 0) (N := some 12) (v := ?_) (a' := ?_) #[true, false, false, false, false, false, false, false, false, false] rfl rfl (any_of HT_.out (by kernel_rfl)) (fun _ _ _ h => h) (Or.inl ⟨by rfl, ?_⟩) ?_ ?_
                  rotate_left
                  · intro w'
                    go_simp
                    with_reducible rfl
                  rotate_left
                  · simp only [Act.put, List.setIfInBounds_toArray, List.set_cons_zero, List.set_cons_succ, i64_w, i32_w]
                    rfl
                  refine pure_ (i := 4) (N := some 16) (v := ?_) (a' := ?_) #[true, false, false, false, true, false, false, false, false, false] rfl rfl (any_of HT_.out (by kernel_rfl)) (fun _ _ _ h => h) (Or.inl ⟨by rfl, ?_⟩) ?_ ?_
                  rotate_left
                  · intro w'
                    go_simp
                    with_reducible rfl
                  rotate_left
                  · simp only [Act.put, List.setIfInBounds_toArray, List.set_cons_zero, List.set_cons_succ, i64_w, i32_w]
                    rfl
                  refine take_ (i := 1) (N := some 13) (v := ?_) (a' := ?_) #[true, true, false, false, true, false, false, false, false, false] rfl rfl (take_ofW HT_.out HW_.out (by kernel_rfl)) (fun _ _ _ h => h) (Or.inl ⟨by rfl, ?_⟩) hHeld ?_ ?_
                  rotate_left
                  · rintro w' ⟨s0, s1, s2, s3, s4, s5, s6, s7, s8⟩
                    go_simp
                    with_reducible rfl
                  rotate_left
                  · simp only [Act.put, List.setIfInBounds_toArray, List.set_cons_zero, List.set_cons_succ, i64_w, i32_w]
                    rfl
                  refine take_ (i := 5) (N := some 17) (v := ?_) (a' := ?_) #[true, true, false, false, true, true, false, false, false, false] rfl rfl (take_ofW HT_.out HW_.out (by kernel_rfl)) (fun _ _ _ h => h) (Or.inl ⟨by rfl, ?_⟩) hHeld ?_ ?_
                  rotate_left
                  · rintro w' ⟨s0, s1, s2, s3, s4, s5, s6, s7, s8⟩
                    go_simp
                    with_reducible rfl
                  rotate_left
                  · simp only [Act.put, List.setIfInBounds_toArray, List.set_cons_zero, List.set_cons_succ, i64_w, i32_w]
                    rfl
                  refine one_ (i := 2) (N := some 14) #[true, true, true, false, true, true, false, false, false, false] rfl rfl (one_of HT_.out (by kernel_rfl)) (by decide) (fun K hK => ?_)
                  refine goes_ Tryd.func48 (by kernel_rfl) rfl #[.int .i64 a0_6] (by rfl) rfl rfl (by (try simp only [List.map_toArray, List.map_cons, List.map_nil]); first | done | rfl | (simp only [List.length_drop, List.length_take]; rfl)) ?_
                  with_reducible refine (tegularef13_Number.calls k a0_6 t157 _ A4.out).mono ?_
                  rintro e w60 ⟨rfl, hb⟩
                  refine ⟨_, rfl, ?_⟩
                  have n0_ := Aside0.mk (blk_below (g := gb155) (o := .cells #[.int .i64 a0_0, .int .i64 a0_1, .int .i64 a0_2, .bool a0_3, .string a0_4, .string a0_5, .int .i64 a0_6, .int .i64 a0_7, .slice A0_8 l0_8.length c0_8] 24 (0, 0)) (by (with_reducible repeat (first | refine blk_drewN ?_ _ | refine blk_drew ?_ | refine blk_alloc ?_ _)); exact BK155.out) hb)
                  have n1_ := Aside0.mk (below_step (by repeat (first | (with_reducible first | exact HB.out | apply below_alloc | apply pw_below_drewN | apply below_drew1 | refine below_set ?_ GE155.out) | exact HB.out)) hb)
                  clear BK155
                  clear HB
                  have BK155 := n0_
                  have HB := n1_
                  clear n0_ n1_
                  (try clear hb)
                  (try clear hb2)
                  (try clear hk)
                  (try clear hi)
                  refine hK.out _ _ ⟨(blk_cell BK155.out 0).trans rfl, (blk_cell BK155.out 1).trans rfl, (blk_cell BK155.out 2).trans rfl, (blk_cell BK155.out 3).trans rfl, (blk_cell BK155.out 4).trans rfl, (blk_cell BK155.out 5).trans rfl, (blk_cell BK155.out 6).trans rfl, (blk_cell BK155.out 7).trans rfl, (blk_cell BK155.out 8).trans rfl⟩ (fun hHeld => ?_)
                  clear hK K
                  refine norm_ (a' := ?_) ?_ ?_
                  rotate_left
                  · show Act.put _ (some 14) _ = _
                    simp only [Act.put, List.setIfInBounds_toArray, List.set_cons_zero, List.set_cons_succ, i64_w, i32_w]
                    rfl
                  refine pure_ (i := 3) (N := some 15) (v := ?_) (a' := ?_) #[true, true, true, true, true, true, false, false, false, false] rfl rfl (any_of HT_.out (by kernel_rfl)) (fun _ _ _ h => h) (Or.inl ⟨by rfl, ?_⟩) ?_ ?_
                  rotate_left
                  · intro w'
                    go_simp
                    with_reducible rfl
                  rotate_left
                  · simp only [Act.put, List.setIfInBounds_toArray, List.set_cons_zero, List.set_cons_succ, i64_w, i32_w]
                    rfl
                  refine one_ (i := 6) (N := some 18) #[true, true, true, true, true, true, true, false, false, false] rfl rfl (one_of HT_.out (by kernel_rfl)) (by decide) (fun K hK => ?_)
                  refine goes_ Tryd.func48 (by kernel_rfl) rfl #[.int .i64 a0_7] (by rfl) rfl rfl (by (try simp only [List.map_toArray, List.map_cons, List.map_nil]); first | done | rfl | (simp only [List.length_drop, List.length_take]; rfl)) ?_
                  with_reducible refine (tegularef13_Number.calls k a0_7 t158 _ A6.out).mono ?_
                  rintro e w61 ⟨rfl, hb⟩
                  refine ⟨_, rfl, ?_⟩
                  have n0_ := Aside0.mk (blk_below (g := gb155) (o := .cells #[.int .i64 a0_0, .int .i64 a0_1, .int .i64 a0_2, .bool a0_3, .string a0_4, .string a0_5, .int .i64 a0_6, .int .i64 a0_7, .slice A0_8 l0_8.length c0_8] 24 (0, 0)) (by (with_reducible repeat (first | refine blk_drewN ?_ _ | refine blk_drew ?_ | refine blk_alloc ?_ _)); exact BK155.out) hb)
                  have n1_ := Aside0.mk (below_step (by repeat (first | (with_reducible first | exact HB.out | apply below_alloc | apply pw_below_drewN | apply below_drew1 | refine below_set ?_ GE155.out) | exact HB.out)) hb)
                  clear BK155
                  clear HB
                  have BK155 := n0_
                  have HB := n1_
                  clear n0_ n1_
                  (try clear hb)
                  (try clear hb2)
                  (try clear hk)
                  (try clear hi)
                  refine hK.out _ _ ⟨(blk_cell BK155.out 0).trans rfl, (blk_cell BK155.out 1).trans rfl, (blk_cell BK155.out 2).trans rfl, (blk_cell BK155.out 3).trans rfl, (blk_cell BK155.out 4).trans rfl, (blk_cell BK155.out 5).trans rfl, (blk_cell BK155.out 6).trans rfl, (blk_cell BK155.out 7).trans rfl, (blk_cell BK155.out 8).trans rfl⟩ (fun hHeld => ?_)
                  clear hK K
                  refine norm_ (a' := ?_) ?_ ?_
                  rotate_left
                  · show Act.put _ (some 18) _ = _
                    simp only [Act.put, List.setIfInBounds_toArray, List.set_cons_zero, List.set_cons_succ, i64_w, i32_w]
                    rfl
                  refine pure_ (i := 7) (N := some 19) (v := ?_) (a' := ?_) #[true, true, true, true, true, true, true, true, false, false] rfl rfl (any_of HT_.out (by kernel_rfl)) (fun _ _ _ h => h) (Or.inl ⟨by rfl, ?_⟩) ?_ ?_
                  rotate_left
                  · intro w'
                    go_simp
                    with_reducible rfl
                  rotate_left
                  · simp only [Act.put, List.setIfInBounds_toArray, List.set_cons_zero, List.set_cons_succ, i64_w, i32_w]
                    rfl
                  refine pure_ (i := 8) (N := some 4) (v := ?_) (a' := ?_) #[true, true, true, true, true, true, true, true, true, false] rfl rfl (any_of HT_.out (by kernel_rfl)) (fun _ _ _ h => h) (Or.inl ⟨by rfl, ?_⟩) ?_ ?_
                  rotate_left
                  · intro w'
                    go_simp
                    with_reducible rfl
                  rotate_left
                  · simp only [Act.put, List.setIfInBounds_toArray, List.set_cons_zero, List.set_cons_succ, i64_w, i32_w]
                    rfl
                  refine pure_ (i := 9) (N := some 5) (v := ?_) (a' := ?_) #[true, true, true, true, true, true, true, true, true, true] rfl rfl (any_of HT_.out (by kernel_rfl)) (fun _ _ _ h => h) (Or.inl ⟨by rfl, ?_⟩) ?_ ?_
                  rotate_left
                  · intro w'
                    go_simp
                    with_reducible rfl
                  rotate_left
                  · simp only [Act.put, List.setIfInBounds_toArray, List.set_cons_zero, List.set_cons_succ, i64_w, i32_w]
                    rfl
                  refine done_ (done_of HT_.out (by kernel_rfl)) ?_
                  have hcz62_0 : w61.cell? ⟨gb155, 0, none⟩ = some (.int .i64 a0_0) := (blk_cell BK155.out 0).trans rfl
                  have hcz62_1 : w61.cell? ⟨gb155, 1, none⟩ = some (.int .i64 a0_1) := (blk_cell BK155.out 1).trans rfl
                  have hcz62_2 : w61.cell? ⟨gb155, 2, none⟩ = some (.int .i64 a0_2) := (blk_cell BK155.out 2).trans rfl
                  have hcz62_3 : w61.cell? ⟨gb155, 3, none⟩ = some (.bool a0_3) := (blk_cell BK155.out 3).trans rfl
                  have hcz62_4 : w61.cell? ⟨gb155, 4, none⟩ = some (.string a0_4) := (blk_cell BK155.out 4).trans rfl
                  have hcz62_5 : w61.cell? ⟨gb155, 5, none⟩ = some (.string a0_5) := (blk_cell BK155.out 5).trans rfl
                  have hcz62_6 : w61.cell? ⟨gb155, 6, none⟩ = some (.int .i64 a0_6) := (blk_cell BK155.out 6).trans rfl
                  have hcz62_7 : w61.cell? ⟨gb155, 7, none⟩ = some (.int .i64 a0_7) := (blk_cell BK155.out 7).trans rfl
                  have hcz62_8 : w61.cell? ⟨gb155, 8, none⟩ = some (.slice A0_8 l0_8.length c0_8) := (blk_cell BK155.out 8).trans rfl
                  have hfz62_0 := blk_frozen BK155.out 0
                  have hfz62_1 := blk_frozen BK155.out 1
                  have hfz62_2 := blk_frozen BK155.out 2
                  have hfz62_3 := blk_frozen BK155.out 3
                  have hfz62_4 := blk_frozen BK155.out 4
                  have hfz62_5 := blk_frozen BK155.out 5
                  have hfz62_6 := blk_frozen BK155.out 6
                  have hfz62_7 := blk_frozen BK155.out 7
                  have hfz62_8 := blk_frozen BK155.out 8
                  try go_wp2
                  go_ret
                  exact ⟨by first | rfl | (simp [errW_none, errW_some] <;> rfl) | (simp [*, errW_none, errW_some] <;> rfl), by repeat (first | (with_reducible first | exact HB.out | apply below_alloc | apply pw_below_drewN | apply below_drew1 | refine below_set ?_ GE155.out) | exact HB.out)⟩
                · rw [if_neg c55] at H
                  exact absurd H (by simp)
              · rw [if_neg c54] at H
                have c54b0 : (a0_1 == 4) = false := beq_eq_false_iff_ne.mpr c54
                have c54b1 : (a0_1 != 4) = true := bne_iff_ne.mpr c54
                by_cases c63 : a0_1 = 5
                · rw [if_pos c63] at H
                  have c63b0 : (a0_1 == 5) = true := beq_iff_eq.mpr c63
                  have c63b1 : (a0_1 != 5) = false := bne_eq_false_iff_eq.mpr c63
                  clear c63
                  by_cases c64 : 6 + ((⟨#[32]⟩ : ByteArray) ++ t156).size ≤ 9223372036854775807
                  · rw [if_pos c64] at H
                    have c64b0 := eq_true c64
                    have c64b1 : decide (6 + ((⟨#[32]⟩ : ByteArray) ++ t156).size ≤ 9223372036854775807) = true := decide_eq_true c64
                    try have c64b2 : (9223372036854775807 < 6 + ((⟨#[32]⟩ : ByteArray) ++ t156).size) = False := eq_false (Nat.not_lt.2 c64)
                    try have c64b3 : (9223372036854775807 < 6 + (1 + t156.size)) = False := by
                          have z := c64
                          simp only [ByteArray.size_append] at z
                          refine eq_false (Nat.not_lt.2 (Nat.le_trans (Nat.le_of_eq ?_) z))
                          rfl
                    by_cases c65 : ((⟨#[99, 114, 101, 97, 116, 101]⟩ : ByteArray) ++ ((⟨#[32]⟩ : ByteArray) ++ t156)).size + 1 ≤ 9223372036854775807
                    · rw [if_pos c65] at H
                      have c65b0 := eq_true c65
                      have c65b1 : decide (((⟨#[99, 114, 101, 97, 116, 101]⟩ : ByteArray) ++ ((⟨#[32]⟩ : ByteArray) ++ t156)).size + 1 ≤ 9223372036854775807) = true := decide_eq_true c65
                      try have c65b2 : (9223372036854775807 < ((⟨#[99, 114, 101, 97, 116, 101]⟩ : ByteArray) ++ ((⟨#[32]⟩ : ByteArray) ++ t156)).size + 1) = False := eq_false (Nat.not_lt.2 c65)
                      try have c65b3 : (9223372036854775807 < (6 + (1 + t156.size)) + 1) = False := by
                            have z := c65
                            simp only [ByteArray.size_append] at z
                            refine eq_false (Nat.not_lt.2 (Nat.le_trans (Nat.le_of_eq ?_) z))
                            rfl
                      by_cases c66 : (((⟨#[99, 114, 101, 97, 116, 101]⟩ : ByteArray) ++ ((⟨#[32]⟩ : ByteArray) ++ t156)) ++ (⟨#[32]⟩ : ByteArray)).size + a0_4.size ≤ 9223372036854775807
                      · rw [if_pos c66] at H
                        have c66b0 := eq_true c66
                        have c66b1 : decide ((((⟨#[99, 114, 101, 97, 116, 101]⟩ : ByteArray) ++ ((⟨#[32]⟩ : ByteArray) ++ t156)) ++ (⟨#[32]⟩ : ByteArray)).size + a0_4.size ≤ 9223372036854775807) = true := decide_eq_true c66
                        try have c66b2 : (9223372036854775807 < (((⟨#[99, 114, 101, 97, 116, 101]⟩ : ByteArray) ++ ((⟨#[32]⟩ : ByteArray) ++ t156)) ++ (⟨#[32]⟩ : ByteArray)).size + a0_4.size) = False := eq_false (Nat.not_lt.2 c66)
                        try have c66b3 : (9223372036854775807 < ((6 + (1 + t156.size)) + 1) + a0_4.size) = False := by
                              have z := c66
                              simp only [ByteArray.size_append] at z
                              refine eq_false (Nat.not_lt.2 (Nat.le_trans (Nat.le_of_eq ?_) z))
                              rfl
                        by_cases c67 : ((((⟨#[99, 114, 101, 97, 116, 101]⟩ : ByteArray) ++ ((⟨#[32]⟩ : ByteArray) ++ t156)) ++ (⟨#[32]⟩ : ByteArray)) ++ a0_4).size + ((⟨#[32]⟩ : ByteArray) ++ t158).size ≤ 9223372036854775807
                        · rw [if_pos c67] at H
                          have c67b0 := eq_true c67
                          have c67b1 : decide (((((⟨#[99, 114, 101, 97, 116, 101]⟩ : ByteArray) ++ ((⟨#[32]⟩ : ByteArray) ++ t156)) ++ (⟨#[32]⟩ : ByteArray)) ++ a0_4).size + ((⟨#[32]⟩ : ByteArray) ++ t158).size ≤ 9223372036854775807) = true := decide_eq_true c67
                          try have c67b2 : (9223372036854775807 < ((((⟨#[99, 114, 101, 97, 116, 101]⟩ : ByteArray) ++ ((⟨#[32]⟩ : ByteArray) ++ t156)) ++ (⟨#[32]⟩ : ByteArray)) ++ a0_4).size + ((⟨#[32]⟩ : ByteArray) ++ t158).size) = False := eq_false (Nat.not_lt.2 c67)
                          try have c67b3 : (9223372036854775807 < (((6 + (1 + t156.size)) + 1) + a0_4.size) + (1 + t158.size)) = False := by
                                have z := c67
                                simp only [ByteArray.size_append] at z
                                refine eq_false (Nat.not_lt.2 (Nat.le_trans (Nat.le_of_eq ?_) z))
                                rfl
                          by_cases c68 : (((((⟨#[99, 114, 101, 97, 116, 101]⟩ : ByteArray) ++ ((⟨#[32]⟩ : ByteArray) ++ t156)) ++ (⟨#[32]⟩ : ByteArray)) ++ a0_4) ++ ((⟨#[32]⟩ : ByteArray) ++ t158)).size + ((⟨#[32]⟩ : ByteArray) ++ t157).size ≤ 9223372036854775807
                          · rw [if_pos c68] at H
                            have c68b0 := eq_true c68
                            have c68b1 : decide ((((((⟨#[99, 114, 101, 97, 116, 101]⟩ : ByteArray) ++ ((⟨#[32]⟩ : ByteArray) ++ t156)) ++ (⟨#[32]⟩ : ByteArray)) ++ a0_4) ++ ((⟨#[32]⟩ : ByteArray) ++ t158)).size + ((⟨#[32]⟩ : ByteArray) ++ t157).size ≤ 9223372036854775807) = true := decide_eq_true c68
                            try have c68b2 : (9223372036854775807 < (((((⟨#[99, 114, 101, 97, 116, 101]⟩ : ByteArray) ++ ((⟨#[32]⟩ : ByteArray) ++ t156)) ++ (⟨#[32]⟩ : ByteArray)) ++ a0_4) ++ ((⟨#[32]⟩ : ByteArray) ++ t158)).size + ((⟨#[32]⟩ : ByteArray) ++ t157).size) = False := eq_false (Nat.not_lt.2 c68)
                            try have c68b3 : (9223372036854775807 < ((((6 + (1 + t156.size)) + 1) + a0_4.size) + (1 + t158.size)) + (1 + t157.size)) = False := by
                                  have z := c68
                                  simp only [ByteArray.size_append] at z
                                  refine eq_false (Nat.not_lt.2 (Nat.le_trans (Nat.le_of_eq ?_) z))
                                  rfl
                            obtain rfl := Option.some.inj H
                            go_enter Tryd.func37, Tryd.ntmps37
                            try go_wp2_with (first | ((with_reducible refine gate_dst (N := 1) rfl ?_); refine box_event ?hg (N := 1) ?hd (cs := #[.int .i64 a0_0, .int .i64 a0_1, .int .i64 a0_2, .bool a0_3, .string a0_4, .string a0_5, .int .i64 a0_6, .int .i64 a0_7, .slice A0_8 l0_8.length c0_8]) (t := 24) ?hr ?_; (case hd => rfl); (case hg => rfl); (case hr => first | (go_simp; done) | (go_simp; rfl)); intro gb155 hg w69 hbox hb; have n0_ := Aside0.mk (below_step (by repeat (first | (with_reducible first | exact HB.out | apply below_alloc | apply pw_below_drewN | apply below_drew1) | exact HB.out)) hb); have n1_ := Aside0.mk (hbox); have n2_ := Aside0.mk ((by rw [hg]; exact (below_size (by repeat (first | (with_reducible first | exact HB.out | apply below_alloc | apply pw_below_drewN | apply below_drew1) | exact HB.out))) : w.heap.size ≤ gb155)); have n3_ := Aside0.mk ((by rw [hg]; exact (below_size (by repeat (first | (with_reducible first | exact HB.out | apply below_alloc | apply pw_below_drewN | apply below_drew1) | exact HB.out))) : w.heap.size ≤ gb155)); clear HB; have HB := n0_; have BK155 := n1_; have GW155 := n2_; have GE155 := n3_; clear n0_ n1_ n2_ n3_; clear hb hbox hg; have hcz70_0 : w69.cell? ⟨gb155, 0, none⟩ = some (.int .i64 a0_0) := (blk_cell BK155.out 0).trans rfl; have hcz70_1 : w69.cell? ⟨gb155, 1, none⟩ = some (.int .i64 a0_1) := (blk_cell BK155.out 1).trans rfl; have hcz70_2 : w69.cell? ⟨gb155, 2, none⟩ = some (.int .i64 a0_2) := (blk_cell BK155.out 2).trans rfl; have hcz70_3 : w69.cell? ⟨gb155, 3, none⟩ = some (.bool a0_3) := (blk_cell BK155.out 3).trans rfl; have hcz70_4 : w69.cell? ⟨gb155, 4, none⟩ = some (.string a0_4) := (blk_cell BK155.out 4).trans rfl; have hcz70_5 : w69.cell? ⟨gb155, 5, none⟩ = some (.string a0_5) := (blk_cell BK155.out 5).trans rfl; have hcz70_6 : w69.cell? ⟨gb155, 6, none⟩ = some (.int .i64 a0_6) := (blk_cell BK155.out 6).trans rfl; have hcz70_7 : w69.cell? ⟨gb155, 7, none⟩ = some (.int .i64 a0_7) := (blk_cell BK155.out 7).trans rfl; have hcz70_8 : w69.cell? ⟨gb155, 8, none⟩ = some (.slice A0_8 l0_8.length c0_8) := (blk_cell BK155.out 8).trans rfl; have hfz70_0 := blk_frozen BK155.out 0; have hfz70_1 := blk_frozen BK155.out 1; have hfz70_2 := blk_frozen BK155.out 2; have hfz70_3 := blk_frozen BK155.out 3; have hfz70_4 := blk_frozen BK155.out 4; have hfz70_5 := blk_frozen BK155.out 5; have hfz70_6 := blk_frozen BK155.out 6; have hfz70_7 := blk_frozen BK155.out 7; have hfz70_8 := blk_frozen BK155.out 8) | ((with_reducible refine gate_callee (f := 48) rfl ?_); refine goesL_ (some 10) rfl rfl Tryd.func48 (by kernel_rfl) rfl #[.int .i64 a0_0] rfl (by (try simp only [List.map_toArray, List.map_cons, List.map_nil]); first | done | rfl | (simp only [List.length_drop, List.length_take]; rfl)) ?_; (with_reducible refine (tegularef13_Number.calls k a0_0 t156 _ A2.out).mono ?_); rintro e w71 ⟨rfl, hb⟩; refine ⟨_, rfl, ?_⟩; have n0_ := Aside0.mk (blk_below (g := gb155) (o := .cells #[.int .i64 a0_0, .int .i64 a0_1, .int .i64 a0_2, .bool a0_3, .string a0_4, .string a0_5, .int .i64 a0_6, .int .i64 a0_7, .slice A0_8 l0_8.length c0_8] 24 (0, 0)) (by (with_reducible repeat (first | refine blk_drewN ?_ _ | refine blk_drew ?_ | refine blk_alloc ?_ _)); exact BK155.out) hb); have n1_ := Aside0.mk (below_step (by repeat (first | (with_reducible first | exact HB.out | apply below_alloc | apply pw_below_drewN | apply below_drew1 | refine below_set ?_ GE155.out) | exact HB.out)) hb); clear BK155; clear HB; have BK155 := n0_; have HB := n1_; clear n0_ n1_; (try clear hb); (try clear hb2); (try clear hk); (try clear hi)))
                            have n0_ := Aside0.mk (blk_drew BK155.out)
                            have n1_ := Aside0.mk (below_drew1 HB.out)
                            clear BK155
                            clear HB
                            have BK155 := n0_
                            have HB := n1_
                            clear n0_ n1_
                            refine start_ (n := 10) (S := fun w' => w'.cell? ⟨gb155, 0, none⟩ = some (.int .i64 a0_0) ∧ w'.cell? ⟨gb155, 1, none⟩ = some (.int .i64 a0_1) ∧ w'.cell? ⟨gb155, 2, none⟩ = some (.int .i64 a0_2) ∧ w'.cell? ⟨gb155, 3, none⟩ = some (.bool a0_3) ∧ w'.cell? ⟨gb155, 4, none⟩ = some (.string a0_4) ∧ w'.cell? ⟨gb155, 5, none⟩ = some (.string a0_5) ∧ w'.cell? ⟨gb155, 6, none⟩ = some (.int .i64 a0_6) ∧ w'.cell? ⟨gb155, 7, none⟩ = some (.int .i64 a0_7) ∧ w'.cell? ⟨gb155, 8, none⟩ = some (.slice A0_8 l0_8.length c0_8)) (ds := []) #[false, false, false, false, false, false, false, false, false, false] (by kernel_rfl) rfl rfl ⟨(blk_cell BK155.out 0).trans rfl, (blk_cell BK155.out 1).trans rfl, (blk_cell BK155.out 2).trans rfl, (blk_cell BK155.out 3).trans rfl, (blk_cell BK155.out 4).trans rfl, (blk_cell BK155.out 5).trans rfl, (blk_cell BK155.out 6).trans rfl, (blk_cell BK155.out 7).trans rfl, (blk_cell BK155.out 8).trans rfl⟩ (fun hHeld => ?_); refine with_tabW tegularef39_words.tab2 tegularef39_words.bits2 (fun HT_ HW_ => ?_)
                            generalize w71.drew = w72 at BK155 HB hHeld ⊢
                            refine pure_ (i := 0) (N := some 12) (v := ?_) (a' := ?_) #[true, false, false, false, false, false, false, false, false, false] rfl rfl (any_of HT_.out (by kernel_rfl)) (fun _ _ _ h => h) (Or.inl ⟨by rfl, ?_⟩) ?_ ?_
                            rotate_left
                            · intro w'
                              go_simp
                              with_reducible rfl
                            rotate_left
                            · simp only [Act.put, List.setIfInBounds_toArray, List.set_cons_zero, List.set_cons_succ, i64_w, i32_w]
                              rfl
                            refine pure_ (i := 4) (N := some 16) (v := ?_) (a' := ?_) #[true, false, false, false, true, false, false, false, false, false] rfl rfl (any_of HT_.out (by kernel_rfl)) (fun _ _ _ h => h) (Or.inl ⟨by rfl, ?_⟩) ?_ ?_
                            rotate_left
                            · intro w'
                              go_simp
                              with_reducible rfl
                            rotate_left
                            · simp only [Act.put, List.setIfInBounds_toArray, List.set_cons_zero, List.set_cons_succ, i64_w, i32_w]
                              rfl
                            refine take_ (i := 1) (N := some 13) (v := ?_) (a' := ?_) #[true, true, false, false, true, false, false, false, false, false] rfl rfl (take_ofW HT_.out HW_.out (by kernel_rfl)) (fun _ _ _ h => h) (Or.inl ⟨by rfl, ?_⟩) hHeld ?_ ?_
                            rotate_left
                            · rintro w' ⟨s0, s1, s2, s3, s4, s5, s6, s7, s8⟩
                              go_simp
                              with_reducible rfl
                            rotate_left
                            · simp only [Act.put, List.setIfInBounds_toArray, List.set_cons_zero, List.set_cons_succ, i64_w, i32_w]
                              rfl
                            refine take_ (i := 5) (N := some 17) (v := ?_) (a' := ?_) #[true, true, false, false, true, true, false, false, false, false] rfl rfl (take_ofW HT_.out HW_.out (by kernel_rfl)) (fun _ _ _ h => h) (Or.inl ⟨by rfl, ?_⟩) hHeld ?_ ?_
                            rotate_left
                            · rintro w' ⟨s0, s1, s2, s3, s4, s5, s6, s7, s8⟩
                              go_simp
                              with_reducible rfl
                            rotate_left
                            · simp only [Act.put, List.setIfInBounds_toArray, List.set_cons_zero, List.set_cons_succ, i64_w, i32_w]
                              rfl
                            refine one_ (i := 2) (N := some 14) #[true, true, true, false, true, true, false, false, false, false] rfl rfl (one_of HT_.out (by kernel_rfl)) (by decide) (fun K hK => ?_)
                            refine goes_ Tryd.func48 (by kernel_rfl) rfl #[.int .i64 a0_6] (by rfl) rfl rfl (by (try simp only [List.map_toArray, List.map_cons, List.map_nil]); first | done | rfl | (simp only [List.length_drop, List.length_take]; rfl)) ?_
                            with_reducible refine (tegularef13_Number.calls k a0_6 t157 _ A4.out).mono ?_
                            rintro e w73 ⟨rfl, hb⟩
                            refine ⟨_, rfl, ?_⟩
                            have n0_ := Aside0.mk (blk_below (g := gb155) (o := .cells #[.int .i64 a0_0, .int .i64 a0_1, .int .i64 a0_2, .bool a0_3, .string a0_4, .string a0_5, .int .i64 a0_6, .int .i64 a0_7, .slice A0_8 l0_8.length c0_8] 24 (0, 0)) (by (with_reducible repeat (first | refine blk_drewN ?_ _ | refine blk_drew ?_ | refine blk_alloc ?_ _)); exact BK155.out) hb)
                            have n1_ := Aside0.mk (below_step (by repeat (first | (with_reducible first | exact HB.out | apply below_alloc | apply pw_below_drewN | apply below_drew1 | refine below_set ?_ GE155.out) | exact HB.out)) hb)
                            clear BK155
                            clear HB
                            have BK155 := n0_
                            have HB := n1_
                            clear n0_ n1_
                            (try clear hb)
                            (try clear hb2)
                            (try clear hk)
                            (try clear hi)
                            refine hK.out _ _ ⟨(blk_cell BK155.out 0).trans rfl, (blk_cell BK155.out 1).trans rfl, (blk_cell BK155.out 2).trans rfl, (blk_cell BK155.out 3).trans rfl, (blk_cell BK155.out 4).trans rfl, (blk_cell BK155.out 5).trans rfl, (blk_cell BK155.out 6).trans rfl, (blk_cell BK155.out 7).trans rfl, (blk_cell BK155.out 8).trans rfl⟩ (fun hHeld => ?_)
                            clear hK K
                            refine norm_ (a' := ?_) ?_ ?_
                            rotate_left
                            · show Act.put _ (some 14) _ = _
                              simp only [Act.put, List.setIfInBounds_toArray, List.set_cons_zero, List.set_cons_succ, i64_w, i32_w]
                              rfl
                            refine pure_ (i := 3) (N := some 15) (v := ?_) (a' := ?_) #[true, true, true, true, true, true, false, false, false, false] rfl rfl (any_of HT_.out (by kernel_rfl)) (fun _ _ _ h => h) (Or.inl ⟨by rfl, ?_⟩) ?_ ?_
                            rotate_left
                            · intro w'
                              go_simp
                              with_reducible rfl
                            rotate_left
                            · simp only [Act.put, List.setIfInBounds_toArray, List.set_cons_zero, List.set_cons_succ, i64_w, i32_w]
                              rfl
                            refine one_ (i := 6) (N := some 18) #[true, true, true, true, true, true, true, false, false, false] rfl rfl (one_of HT_.out (by kernel_rfl)) (by decide) (fun K hK => ?_)
                            refine goes_ Tryd.func48 (by kernel_rfl) rfl #[.int .i64 a0_7] (by rfl) rfl rfl (by (try simp only [List.map_toArray, List.map_cons, List.map_nil]); first | done | rfl | (simp only [List.length_drop, List.length_take]; rfl)) ?_
                            with_reducible refine (tegularef13_Number.calls k a0_7 t158 _ A6.out).mono ?_
                            rintro e w74 ⟨rfl, hb⟩
                            refine ⟨_, rfl, ?_⟩
                            have n0_ := Aside0.mk (blk_below (g := gb155) (o := .cells #[.int .i64 a0_0, .int .i64 a0_1, .int .i64 a0_2, .bool a0_3, .string a0_4, .string a0_5, .int .i64 a0_6, .int .i64 a0_7, .slice A0_8 l0_8.length c0_8] 24 (0, 0)) (by (with_reducible repeat (first | refine blk_drewN ?_ _ | refine blk_drew ?_ | refine blk_alloc ?_ _)); exact BK155.out) hb)
                            have n1_ := Aside0.mk (below_step (by repeat (first | (with_reducible first | exact HB.out | apply below_alloc | apply pw_below_drewN | apply below_drew1 | refine below_set ?_ GE155.out) | exact HB.out)) hb)
                            clear BK155
                            clear HB
                            have BK155 := n0_
                            have HB := n1_
                            clear n0_ n1_
                            (try clear hb)
                            (try clear hb2)
                            (try clear hk)
                            (try clear hi)
                            refine hK.out _ _ ⟨(blk_cell BK155.out 0).trans rfl, (blk_cell BK155.out 1).trans rfl, (blk_cell BK155.out 2).trans rfl, (blk_cell BK155.out 3).trans rfl, (blk_cell BK155.out 4).trans rfl, (blk_cell BK155.out 5).trans rfl, (blk_cell BK155.out 6).trans rfl, (blk_cell BK155.out 7).trans rfl, (blk_cell BK155.out 8).trans rfl⟩ (fun hHeld => ?_)
                            clear hK K
                            refine norm_ (a' := ?_) ?_ ?_
                            rotate_left
                            · show Act.put _ (some 18) _ = _
                              simp only [Act.put, List.setIfInBounds_toArray, List.set_cons_zero, List.set_cons_succ, i64_w, i32_w]
                              rfl
                            refine pure_ (i := 7) (N := some 19) (v := ?_) (a' := ?_) #[true, true, true, true, true, true, true, true, false, false] rfl rfl (any_of HT_.out (by kernel_rfl)) (fun _ _ _ h => h) (Or.inl ⟨by rfl, ?_⟩) ?_ ?_
                            rotate_left
                            · intro w'
                              go_simp
                              with_reducible rfl
                            rotate_left
                            · simp only [Act.put, List.setIfInBounds_toArray, List.set_cons_zero, List.set_cons_succ, i64_w, i32_w]
                              rfl
                            refine pure_ (i := 8) (N := some 4) (v := ?_) (a' := ?_) #[true, true, true, true, true, true, true, true, true, false] rfl rfl (any_of HT_.out (by kernel_rfl)) (fun _ _ _ h => h) (Or.inl ⟨by rfl, ?_⟩) ?_ ?_
                            rotate_left
                            · intro w'
                              go_simp
                              with_reducible rfl
                            rotate_left
                            · simp only [Act.put, List.setIfInBounds_toArray, List.set_cons_zero, List.set_cons_succ, i64_w, i32_w]
                              rfl
                            refine pure_ (i := 9) (N := some 5) (v := ?_) (a' := ?_) #[true, true, true, true, true, true, true, true, true, true] rfl rfl (any_of HT_.out (by kernel_rfl)) (fun _ _ _ h => h) (Or.inl ⟨by rfl, ?_⟩) ?_ ?_
                            rotate_left
                            · intro w'
                              go_simp
                              with_reducible rfl
                            rotate_left
                            · simp only [Act.put, List.setIfInBounds_toArray, List.set_cons_zero, List.set_cons_succ, i64_w, i32_w]
                              rfl
                            refine done_ (done_of HT_.out (by kernel_rfl)) ?_
                            have hcz75_0 : w74.cell? ⟨gb155, 0, none⟩ = some (.int .i64 a0_0) := (blk_cell BK155.out 0).trans rfl
                            have hcz75_1 : w74.cell? ⟨gb155, 1, none⟩ = some (.int .i64 a0_1) := (blk_cell BK155.out 1).trans rfl
                            have hcz75_2 : w74.cell? ⟨gb155, 2, none⟩ = some (.int .i64 a0_2) := (blk_cell BK155.out 2).trans rfl
                            have hcz75_3 : w74.cell? ⟨gb155, 3, none⟩ = some (.bool a0_3) := (blk_cell BK155.out 3).trans rfl
                            have hcz75_4 : w74.cell? ⟨gb155, 4, none⟩ = some (.string a0_4) := (blk_cell BK155.out 4).trans rfl
                            have hcz75_5 : w74.cell? ⟨gb155, 5, none⟩ = some (.string a0_5) := (blk_cell BK155.out 5).trans rfl
                            have hcz75_6 : w74.cell? ⟨gb155, 6, none⟩ = some (.int .i64 a0_6) := (blk_cell BK155.out 6).trans rfl
                            have hcz75_7 : w74.cell? ⟨gb155, 7, none⟩ = some (.int .i64 a0_7) := (blk_cell BK155.out 7).trans rfl
                            have hcz75_8 : w74.cell? ⟨gb155, 8, none⟩ = some (.slice A0_8 l0_8.length c0_8) := (blk_cell BK155.out 8).trans rfl
                            have hfz75_0 := blk_frozen BK155.out 0
                            have hfz75_1 := blk_frozen BK155.out 1
                            have hfz75_2 := blk_frozen BK155.out 2
                            have hfz75_3 := blk_frozen BK155.out 3
                            have hfz75_4 := blk_frozen BK155.out 4
                            have hfz75_5 := blk_frozen BK155.out 5
                            have hfz75_6 := blk_frozen BK155.out 6
                            have hfz75_7 := blk_frozen BK155.out 7
                            have hfz75_8 := blk_frozen BK155.out 8
                            try go_wp2
                            go_ret
                            exact ⟨by first | rfl | (simp [errW_none, errW_some] <;> rfl) | (simp [*, errW_none, errW_some] <;> rfl), by repeat (first | (with_reducible first | exact HB.out | apply below_alloc | apply pw_below_drewN | apply below_drew1 | refine below_set ?_ GE155.out) | exact HB.out)⟩
                          · rw [if_neg c68] at H
                            exact absurd H (by simp)
                        · rw [if_neg c67] at H
                          exact absurd H (by simp)
                      · rw [if_neg c66] at H
                        exact absurd H (by simp)
                    · rw [if_neg c65] at H
                      exact absurd H (by simp)
                  · rw [if_neg c64] at H
                    exact absurd H (by simp)
                · rw [if_neg c63] at H
                  have c63b0 : (a0_1 == 5) = false := beq_eq_false_iff_ne.mpr c63
                  have c63b1 : (a0_1 != 5) = true := bne_iff_ne.mpr c63
                  by_cases c76 : a0_1 = 6
                  · rw [if_pos c76] at H
                    have c76b0 : (a0_1 == 6) = true := beq_iff_eq.mpr c76
                    have c76b1 : (a0_1 != 6) = false := bne_eq_false_iff_eq.mpr c76
                    clear c76
                    by_cases c77 : 5 + ((⟨#[32]⟩ : ByteArray) ++ t156).size ≤ 9223372036854775807
                    · rw [if_pos c77] at H
                      have c77b0 := eq_true c77
                      have c77b1 : decide (5 + ((⟨#[32]⟩ : ByteArray) ++ t156).size ≤ 9223372036854775807) = true := decide_eq_true c77
                      try have c77b2 : (9223372036854775807 < 5 + ((⟨#[32]⟩ : ByteArray) ++ t156).size) = False := eq_false (Nat.not_lt.2 c77)
                      try have c77b3 : (9223372036854775807 < 5 + (1 + t156.size)) = False := by
                            have z := c77
                            simp only [ByteArray.size_append] at z
                            refine eq_false (Nat.not_lt.2 (Nat.le_trans (Nat.le_of_eq ?_) z))
                            rfl
                      by_cases c78 : ((⟨#[99, 108, 111, 110, 101]⟩ : ByteArray) ++ ((⟨#[32]⟩ : ByteArray) ++ t156)).size + 1 ≤ 9223372036854775807
                      · rw [if_pos c78] at H
                        have c78b0 := eq_true c78
                        have c78b1 : decide (((⟨#[99, 108, 111, 110, 101]⟩ : ByteArray) ++ ((⟨#[32]⟩ : ByteArray) ++ t156)).size + 1 ≤ 9223372036854775807) = true := decide_eq_true c78
                        try have c78b2 : (9223372036854775807 < ((⟨#[99, 108, 111, 110, 101]⟩ : ByteArray) ++ ((⟨#[32]⟩ : ByteArray) ++ t156)).size + 1) = False := eq_false (Nat.not_lt.2 c78)
                        try have c78b3 : (9223372036854775807 < (5 + (1 + t156.size)) + 1) = False := by
                              have z := c78
                              simp only [ByteArray.size_append] at z
                              refine eq_false (Nat.not_lt.2 (Nat.le_trans (Nat.le_of_eq ?_) z))
                              rfl
                        by_cases c79 : (((⟨#[99, 108, 111, 110, 101]⟩ : ByteArray) ++ ((⟨#[32]⟩ : ByteArray) ++ t156)) ++ (⟨#[32]⟩ : ByteArray)).size + a0_4.size ≤ 9223372036854775807
                        · rw [if_pos c79] at H
                          have c79b0 := eq_true c79
                          have c79b1 : decide ((((⟨#[99, 108, 111, 110, 101]⟩ : ByteArray) ++ ((⟨#[32]⟩ : ByteArray) ++ t156)) ++ (⟨#[32]⟩ : ByteArray)).size + a0_4.size ≤ 9223372036854775807) = true := decide_eq_true c79
                          try have c79b2 : (9223372036854775807 < (((⟨#[99, 108, 111, 110, 101]⟩ : ByteArray) ++ ((⟨#[32]⟩ : ByteArray) ++ t156)) ++ (⟨#[32]⟩ : ByteArray)).size + a0_4.size) = False := eq_false (Nat.not_lt.2 c79)
                          try have c79b3 : (9223372036854775807 < ((5 + (1 + t156.size)) + 1) + a0_4.size) = False := by
                                have z := c79
                                simp only [ByteArray.size_append] at z
                                refine eq_false (Nat.not_lt.2 (Nat.le_trans (Nat.le_of_eq ?_) z))
                                rfl
                          by_cases c80 : ((((⟨#[99, 108, 111, 110, 101]⟩ : ByteArray) ++ ((⟨#[32]⟩ : ByteArray) ++ t156)) ++ (⟨#[32]⟩ : ByteArray)) ++ a0_4).size + 1 ≤ 9223372036854775807
                          · rw [if_pos c80] at H
                            have c80b0 := eq_true c80
                            have c80b1 : decide (((((⟨#[99, 108, 111, 110, 101]⟩ : ByteArray) ++ ((⟨#[32]⟩ : ByteArray) ++ t156)) ++ (⟨#[32]⟩ : ByteArray)) ++ a0_4).size + 1 ≤ 9223372036854775807) = true := decide_eq_true c80
                            try have c80b2 : (9223372036854775807 < ((((⟨#[99, 108, 111, 110, 101]⟩ : ByteArray) ++ ((⟨#[32]⟩ : ByteArray) ++ t156)) ++ (⟨#[32]⟩ : ByteArray)) ++ a0_4).size + 1) = False := eq_false (Nat.not_lt.2 c80)
                            try have c80b3 : (9223372036854775807 < (((5 + (1 + t156.size)) + 1) + a0_4.size) + 1) = False := by
                                  have z := c80
                                  simp only [ByteArray.size_append] at z
                                  refine eq_false (Nat.not_lt.2 (Nat.le_trans (Nat.le_of_eq ?_) z))
                                  rfl
                            by_cases c81 : (((((⟨#[99, 108, 111, 110, 101]⟩ : ByteArray) ++ ((⟨#[32]⟩ : ByteArray) ++ t156)) ++ (⟨#[32]⟩ : ByteArray)) ++ a0_4) ++ (⟨#[32]⟩ : ByteArray)).size + a0_5.size ≤ 9223372036854775807
                            · rw [if_pos c81] at H
                              have c81b0 := eq_true c81
                              have c81b1 : decide ((((((⟨#[99, 108, 111, 110, 101]⟩ : ByteArray) ++ ((⟨#[32]⟩ : ByteArray) ++ t156)) ++ (⟨#[32]⟩ : ByteArray)) ++ a0_4) ++ (⟨#[32]⟩ : ByteArray)).size + a0_5.size ≤ 9223372036854775807) = true := decide_eq_true c81
                              try have c81b2 : (9223372036854775807 < (((((⟨#[99, 108, 111, 110, 101]⟩ : ByteArray) ++ ((⟨#[32]⟩ : ByteArray) ++ t156)) ++ (⟨#[32]⟩ : ByteArray)) ++ a0_4) ++ (⟨#[32]⟩ : ByteArray)).size + a0_5.size) = False := eq_false (Nat.not_lt.2 c81)
                              try have c81b3 : (9223372036854775807 < ((((5 + (1 + t156.size)) + 1) + a0_4.size) + 1) + a0_5.size) = False := by
                                    have z := c81
                                    simp only [ByteArray.size_append] at z
                                    refine eq_false (Nat.not_lt.2 (Nat.le_trans (Nat.le_of_eq ?_) z))
                                    rfl
                              obtain rfl := Option.some.inj H
                              go_enter Tryd.func37, Tryd.ntmps37
                              try go_wp2_with (first | ((with_reducible refine gate_dst (N := 1) rfl ?_); refine box_event ?hg (N := 1) ?hd (cs := #[.int .i64 a0_0, .int .i64 a0_1, .int .i64 a0_2, .bool a0_3, .string a0_4, .string a0_5, .int .i64 a0_6, .int .i64 a0_7, .slice A0_8 l0_8.length c0_8]) (t := 24) ?hr ?_; (case hd => rfl); (case hg => rfl); (case hr => first | (go_simp; done) | (go_simp; rfl)); intro gb155 hg w82 hbox hb; have n0_ := Aside0.mk (below_step (by repeat (first | (with_reducible first | exact HB.out | apply below_alloc | apply pw_below_drewN | apply below_drew1) | exact HB.out)) hb); have n1_ := Aside0.mk (hbox); have n2_ := Aside0.mk ((by rw [hg]; exact (below_size (by repeat (first | (with_reducible first | exact HB.out | apply below_alloc | apply pw_below_drewN | apply below_drew1) | exact HB.out))) : w.heap.size ≤ gb155)); have n3_ := Aside0.mk ((by rw [hg]; exact (below_size (by repeat (first | (with_reducible first | exact HB.out | apply below_alloc | apply pw_below_drewN | apply below_drew1) | exact HB.out))) : w.heap.size ≤ gb155)); clear HB; have HB := n0_; have BK155 := n1_; have GW155 := n2_; have GE155 := n3_; clear n0_ n1_ n2_ n3_; clear hb hbox hg; have hcz83_0 : w82.cell? ⟨gb155, 0, none⟩ = some (.int .i64 a0_0) := (blk_cell BK155.out 0).trans rfl; have hcz83_1 : w82.cell? ⟨gb155, 1, none⟩ = some (.int .i64 a0_1) := (blk_cell BK155.out 1).trans rfl; have hcz83_2 : w82.cell? ⟨gb155, 2, none⟩ = some (.int .i64 a0_2) := (blk_cell BK155.out 2).trans rfl; have hcz83_3 : w82.cell? ⟨gb155, 3, none⟩ = some (.bool a0_3) := (blk_cell BK155.out 3).trans rfl; have hcz83_4 : w82.cell? ⟨gb155, 4, none⟩ = some (.string a0_4) := (blk_cell BK155.out 4).trans rfl; have hcz83_5 : w82.cell? ⟨gb155, 5, none⟩ = some (.string a0_5) := (blk_cell BK155.out 5).trans rfl; have hcz83_6 : w82.cell? ⟨gb155, 6, none⟩ = some (.int .i64 a0_6) := (blk_cell BK155.out 6).trans rfl; have hcz83_7 : w82.cell? ⟨gb155, 7, none⟩ = some (.int .i64 a0_7) := (blk_cell BK155.out 7).trans rfl; have hcz83_8 : w82.cell? ⟨gb155, 8, none⟩ = some (.slice A0_8 l0_8.length c0_8) := (blk_cell BK155.out 8).trans rfl; have hfz83_0 := blk_frozen BK155.out 0; have hfz83_1 := blk_frozen BK155.out 1; have hfz83_2 := blk_frozen BK155.out 2; have hfz83_3 := blk_frozen BK155.out 3; have hfz83_4 := blk_frozen BK155.out 4; have hfz83_5 := blk_frozen BK155.out 5; have hfz83_6 := blk_frozen BK155.out 6; have hfz83_7 := blk_frozen BK155.out 7; have hfz83_8 := blk_frozen BK155.out 8) | ((with_reducible refine gate_callee (f := 48) rfl ?_); refine goesL_ (some 10) rfl rfl Tryd.func48 (by kernel_rfl) rfl #[.int .i64 a0_0] rfl (by (try simp only [List.map_toArray, List.map_cons, List.map_nil]); first | done | rfl | (simp only [List.length_drop, List.length_take]; rfl)) ?_; (with_reducible refine (tegularef13_Number.calls k a0_0 t156 _ A2.out).mono ?_); rintro e w84 ⟨rfl, hb⟩; refine ⟨_, rfl, ?_⟩; have n0_ := Aside0.mk (blk_below (g := gb155) (o := .cells #[.int .i64 a0_0, .int .i64 a0_1, .int .i64 a0_2, .bool a0_3, .string a0_4, .string a0_5, .int .i64 a0_6, .int .i64 a0_7, .slice A0_8 l0_8.length c0_8] 24 (0, 0)) (by (with_reducible repeat (first | refine blk_drewN ?_ _ | refine blk_drew ?_ | refine blk_alloc ?_ _)); exact BK155.out) hb); have n1_ := Aside0.mk (below_step (by repeat (first | (with_reducible first | exact HB.out | apply below_alloc | apply pw_below_drewN | apply below_drew1 | refine below_set ?_ GE155.out) | exact HB.out)) hb); clear BK155; clear HB; have BK155 := n0_; have HB := n1_; clear n0_ n1_; (try clear hb); (try clear hb2); (try clear hk); (try clear hi)))
                              have n0_ := Aside0.mk (blk_drew BK155.out)
                              have n1_ := Aside0.mk (below_drew1 HB.out)
                              clear BK155
                              clear HB
                              have BK155 := n0_
                              have HB := n1_
                              clear n0_ n1_
                              refine start_ (n := 10) (S := fun w' => w'.cell? ⟨gb155, 0, none⟩ = some (.int .i64 a0_0) ∧ w'.cell? ⟨gb155, 1, none⟩ = some (.int .i64 a0_1) ∧ w'.cell? ⟨gb155, 2, none⟩ = some (.int .i64 a0_2) ∧ w'.cell? ⟨gb155, 3, none⟩ = some (.bool a0_3) ∧ w'.cell? ⟨gb155, 4, none⟩ = some (.string a0_4) ∧ w'.cell? ⟨gb155, 5, none⟩ = some (.string a0_5) ∧ w'.cell? ⟨gb155, 6, none⟩ = some (.int .i64 a0_6) ∧ w'.cell? ⟨gb155, 7, none⟩ = some (.int .i64 a0_7) ∧ w'.cell? ⟨gb155, 8, none⟩ = some (.slice A0_8 l0_8.length c0_8)) (ds := []) #[false, false, false, false, false, false, false, false, false, false] (by kernel_rfl) rfl rfl ⟨(blk_cell BK155.out 0).trans rfl, (blk_cell BK155.out 1).trans rfl, (blk_cell BK155.out 2).trans rfl, (blk_cell BK155.out 3).trans rfl, (blk_cell BK155.out 4).trans rfl, (blk_cell BK155.out 5).trans rfl, (blk_cell BK155.out 6).trans rfl, (blk_cell BK155.out 7).trans rfl, (blk_cell BK155.out 8).trans rfl⟩ (fun hHeld => ?_); refine with_tabW tegularef39_words.tab2 tegularef39_words.bits2 (fun HT_ HW_ => ?_)
                              generalize w84.drew = w85 at BK155 HB hHeld ⊢
                              refine pure_ (i := 0) (N := some 12) (v := ?_) (a' := ?_) #[true, false, false, false, false, false, false, false, false, false] rfl rfl (any_of HT_.out (by kernel_rfl)) (fun _ _ _ h => h) (Or.inl ⟨by rfl, ?_⟩) ?_ ?_
                              rotate_left
                              · intro w'
                                go_simp
                                with_reducible rfl
                              rotate_left
                              · simp only [Act.put, List.setIfInBounds_toArray, List.set_cons_zero, List.set_cons_succ, i64_w, i32_w]
                                rfl
                              refine pure_ (i := 4) (N := some 16) (v := ?_) (a' := ?_) #[true, false, false, false, true, false, false, false, false, false] rfl rfl (any_of HT_.out (by kernel_rfl)) (fun _ _ _ h => h) (Or.inl ⟨by rfl, ?_⟩) ?_ ?_
                              rotate_left
                              · intro w'
                                go_simp
                                with_reducible rfl
                              rotate_left
                              · simp only [Act.put, List.setIfInBounds_toArray, List.set_cons_zero, List.set_cons_succ, i64_w, i32_w]
                                rfl
                              refine take_ (i := 1) (N := some 13) (v := ?_) (a' := ?_) #[true, true, false, false, true, false, false, false, false, false] rfl rfl (take_ofW HT_.out HW_.out (by kernel_rfl)) (fun _ _ _ h => h) (Or.inl ⟨by rfl, ?_⟩) hHeld ?_ ?_
                              rotate_left
                              · rintro w' ⟨s0, s1, s2, s3, s4, s5, s6, s7, s8⟩
                                go_simp
                                with_reducible rfl
                              rotate_left
                              · simp only [Act.put, List.setIfInBounds_toArray, List.set_cons_zero, List.set_cons_succ, i64_w, i32_w]
                                rfl
                              refine take_ (i := 5) (N := some 17) (v := ?_) (a' := ?_) #[true, true, false, false, true, true, false, false, false, false] rfl rfl (take_ofW HT_.out HW_.out (by kernel_rfl)) (fun _ _ _ h => h) (Or.inl ⟨by rfl, ?_⟩) hHeld ?_ ?_
                              rotate_left
                              · rintro w' ⟨s0, s1, s2, s3, s4, s5, s6, s7, s8⟩
                                go_simp
                                with_reducible rfl
                              rotate_left
                              · simp only [Act.put, List.setIfInBounds_toArray, List.set_cons_zero, List.set_cons_succ, i64_w, i32_w]
                                rfl
                              refine one_ (i := 2) (N := some 14) #[true, true, true, false, true, true, false, false, false, false] rfl rfl (one_of HT_.out (by kernel_rfl)) (by decide) (fun K hK => ?_)
                              refine goes_ Tryd.func48 (by kernel_rfl) rfl #[.int .i64 a0_6] (by rfl) rfl rfl (by (try simp only [List.map_toArray, List.map_cons, List.map_nil]); first | done | rfl | (simp only [List.length_drop, List.length_take]; rfl)) ?_
                              with_reducible refine (tegularef13_Number.calls k a0_6 t157 _ A4.out).mono ?_
                              rintro e w86 ⟨rfl, hb⟩
                              refine ⟨_, rfl, ?_⟩
                              have n0_ := Aside0.mk (blk_below (g := gb155) (o := .cells #[.int .i64 a0_0, .int .i64 a0_1, .int .i64 a0_2, .bool a0_3, .string a0_4, .string a0_5, .int .i64 a0_6, .int .i64 a0_7, .slice A0_8 l0_8.length c0_8] 24 (0, 0)) (by (with_reducible repeat (first | refine blk_drewN ?_ _ | refine blk_drew ?_ | refine blk_alloc ?_ _)); exact BK155.out) hb)
                              have n1_ := Aside0.mk (below_step (by repeat (first | (with_reducible first | exact HB.out | apply below_alloc | apply pw_below_drewN | apply below_drew1 | refine below_set ?_ GE155.out) | exact HB.out)) hb)
                              clear BK155
                              clear HB
                              have BK155 := n0_
                              have HB := n1_
                              clear n0_ n1_
                              (try clear hb)
                              (try clear hb2)
                              (try clear hk)
                              (try clear hi)
                              refine hK.out _ _ ⟨(blk_cell BK155.out 0).trans rfl, (blk_cell BK155.out 1).trans rfl, (blk_cell BK155.out 2).trans rfl, (blk_cell BK155.out 3).trans rfl, (blk_cell BK155.out 4).trans rfl, (blk_cell BK155.out 5).trans rfl, (blk_cell BK155.out 6).trans rfl, (blk_cell BK155.out 7).trans rfl, (blk_cell BK155.out 8).trans rfl⟩ (fun hHeld => ?_)
                              clear hK K
                              refine norm_ (a' := ?_) ?_ ?_
                              rotate_left
                              · show Act.put _ (some 14) _ = _
                                simp only [Act.put, List.setIfInBounds_toArray, List.set_cons_zero, List.set_cons_succ, i64_w, i32_w]
                                rfl
                              refine pure_ (i := 3) (N := some 15) (v := ?_) (a' := ?_) #[true, true, true, true, true, true, false, false, false, false] rfl rfl (any_of HT_.out (by kernel_rfl)) (fun _ _ _ h => h) (Or.inl ⟨by rfl, ?_⟩) ?_ ?_
                              rotate_left
                              · intro w'
                                go_simp
                                with_reducible rfl
                              rotate_left
                              · simp only [Act.put, List.setIfInBounds_toArray, List.set_cons_zero, List.set_cons_succ, i64_w, i32_w]
                                rfl
                              refine one_ (i := 6) (N := some 18) #[true, true, true, true, true, true, true, false, false, false] rfl rfl (one_of HT_.out (by kernel_rfl)) (by decide) (fun K hK => ?_)
                              refine goes_ Tryd.func48 (by kernel_rfl) rfl #[.int .i64 a0_7] (by rfl) rfl rfl (by (try simp only [List.map_toArray, List.map_cons, List.map_nil]); first | done | rfl | (simp only [List.length_drop, List.length_take]; rfl)) ?_
                              with_reducible refine (tegularef13_Number.calls k a0_7 t158 _ A6.out).mono ?_
                              rintro e w87 ⟨rfl, hb⟩
                              refine ⟨_, rfl, ?_⟩
                              have n0_ := Aside0.mk (blk_below (g := gb155) (o := .cells #[.int .i64 a0_0, .int .i64 a0_1, .int .i64 a0_2, .bool a0_3, .string a0_4, .string a0_5, .int .i64 a0_6, .int .i64 a0_7, .slice A0_8 l0_8.length c0_8] 24 (0, 0)) (by (with_reducible repeat (first | refine blk_drewN ?_ _ | refine blk_drew ?_ | refine blk_alloc ?_ _)); exact BK155.out) hb)
                              have n1_ := Aside0.mk (below_step (by repeat (first | (with_reducible first | exact HB.out | apply below_alloc | apply pw_below_drewN | apply below_drew1 | refine below_set ?_ GE155.out) | exact HB.out)) hb)
                              clear BK155
                              clear HB
                              have BK155 := n0_
                              have HB := n1_
                              clear n0_ n1_
                              (try clear hb)
                              (try clear hb2)
                              (try clear hk)
                              (try clear hi)
                              refine hK.out _ _ ⟨(blk_cell BK155.out 0).trans rfl, (blk_cell BK155.out 1).trans rfl, (blk_cell BK155.out 2).trans rfl, (blk_cell BK155.out 3).trans rfl, (blk_cell BK155.out 4).trans rfl, (blk_cell BK155.out 5).trans rfl, (blk_cell BK155.out 6).trans rfl, (blk_cell BK155.out 7).trans rfl, (blk_cell BK155.out 8).trans rfl⟩ (fun hHeld => ?_)
                              clear hK K
                              refine norm_ (a' := ?_) ?_ ?_
                              rotate_left
                              · show Act.put _ (some 18) _ = _
                                simp only [Act.put, List.setIfInBounds_toArray, List.set_cons_zero, List.set_cons_succ, i64_w, i32_w]
                                rfl
                              refine pure_ (i := 7) (N := some 19) (v := ?_) (a' := ?_) #[true, true, true, true, true, true, true, true, false, false] rfl rfl (any_of HT_.out (by kernel_rfl)) (fun _ _ _ h => h) (Or.inl ⟨by rfl, ?_⟩) ?_ ?_
                              rotate_left
                              · intro w'
                                go_simp
                                with_reducible rfl
                              rotate_left
                              · simp only [Act.put, List.setIfInBounds_toArray, List.set_cons_zero, List.set_cons_succ, i64_w, i32_w]
                                rfl
                              refine pure_ (i := 8) (N := some 4) (v := ?_) (a' := ?_) #[true, true, true, true, true, true, true, true, true, false] rfl rfl (any_of HT_.out (by kernel_rfl)) (fun _ _ _ h => h) (Or.inl ⟨by rfl, ?_⟩) ?_ ?_
                              rotate_left
                              · intro w'
                                go_simp
                                with_reducible rfl
                              rotate_left
                              · simp only [Act.put, List.setIfInBounds_toArray, List.set_cons_zero, List.set_cons_succ, i64_w, i32_w]
                                rfl
                              refine pure_ (i := 9) (N := some 5) (v := ?_) (a' := ?_) #[true, true, true, true, true, true, true, true, true, true] rfl rfl (any_of HT_.out (by kernel_rfl)) (fun _ _ _ h => h) (Or.inl ⟨by rfl, ?_⟩) ?_ ?_
                              rotate_left
                              · intro w'
                                go_simp
                                with_reducible rfl
                              rotate_left
                              · simp only [Act.put, List.setIfInBounds_toArray, List.set_cons_zero, List.set_cons_succ, i64_w, i32_w]
                                rfl
                              refine done_ (done_of HT_.out (by kernel_rfl)) ?_
                              have hcz88_0 : w87.cell? ⟨gb155, 0, none⟩ = some (.int .i64 a0_0) := (blk_cell BK155.out 0).trans rfl
                              have hcz88_1 : w87.cell? ⟨gb155, 1, none⟩ = some (.int .i64 a0_1) := (blk_cell BK155.out 1).trans rfl
                              have hcz88_2 : w87.cell? ⟨gb155, 2, none⟩ = some (.int .i64 a0_2) := (blk_cell BK155.out 2).trans rfl
                              have hcz88_3 : w87.cell? ⟨gb155, 3, none⟩ = some (.bool a0_3) := (blk_cell BK155.out 3).trans rfl
                              have hcz88_4 : w87.cell? ⟨gb155, 4, none⟩ = some (.string a0_4) := (blk_cell BK155.out 4).trans rfl
                              have hcz88_5 : w87.cell? ⟨gb155, 5, none⟩ = some (.string a0_5) := (blk_cell BK155.out 5).trans rfl
                              have hcz88_6 : w87.cell? ⟨gb155, 6, none⟩ = some (.int .i64 a0_6) := (blk_cell BK155.out 6).trans rfl
                              have hcz88_7 : w87.cell? ⟨gb155, 7, none⟩ = some (.int .i64 a0_7) := (blk_cell BK155.out 7).trans rfl
                              have hcz88_8 : w87.cell? ⟨gb155, 8, none⟩ = some (.slice A0_8 l0_8.length c0_8) := (blk_cell BK155.out 8).trans rfl
                              have hfz88_0 := blk_frozen BK155.out 0
                              have hfz88_1 := blk_frozen BK155.out 1
                              have hfz88_2 := blk_frozen BK155.out 2
                              have hfz88_3 := blk_frozen BK155.out 3
                              have hfz88_4 := blk_frozen BK155.out 4
                              have hfz88_5 := blk_frozen BK155.out 5
                              have hfz88_6 := blk_frozen BK155.out 6
                              have hfz88_7 := blk_frozen BK155.out 7
                              have hfz88_8 := blk_frozen BK155.out 8
                              try go_wp2
                              go_ret
                              exact ⟨by first | rfl | (simp [errW_none, errW_some] <;> rfl) | (simp [*, errW_none, errW_some] <;> rfl), by repeat (first | (with_reducible first | exact HB.out | apply below_alloc | apply pw_below_drewN | apply below_drew1 | refine below_set ?_ GE155.out) | exact HB.out)⟩
                            · rw [if_neg c81] at H
                              exact absurd H (by simp)
                          · rw [if_neg c80] at H
                            exact absurd H (by simp)
                        · rw [if_neg c79] at H
                          exact absurd H (by simp)
                      · rw [if_neg c78] at H
                        exact absurd H (by simp)
                    · rw [if_neg c77] at H
                      exact absurd H (by simp)
                  · rw [if_neg c76] at H
                    have c76b0 : (a0_1 == 6) = false := beq_eq_false_iff_ne.mpr c76
                    have c76b1 : (a0_1 != 6) = true := bne_iff_ne.mpr c76
                    by_cases c89 : 6 + ((⟨#[32]⟩ : ByteArray) ++ t156).size ≤ 9223372036854775807
                    · rw [if_pos c89] at H
                      have c89b0 := eq_true c89
                      have c89b1 : decide (6 + ((⟨#[32]⟩ : ByteArray) ++ t156).size ≤ 9223372036854775807) = true := decide_eq_true c89
                      try have c89b2 : (9223372036854775807 < 6 + ((⟨#[32]⟩ : ByteArray) ++ t156).size) = False := eq_false (Nat.not_lt.2 c89)
                      try have c89b3 : (9223372036854775807 < 6 + (1 + t156.size)) = False := by
                            have z := c89
                            simp only [ByteArray.size_append] at z
                            refine eq_false (Nat.not_lt.2 (Nat.le_trans (Nat.le_of_eq ?_) z))
                            rfl
                      by_cases c90 : ((⟨#[100, 101, 108, 101, 116, 101]⟩ : ByteArray) ++ ((⟨#[32]⟩ : ByteArray) ++ t156)).size + 1 ≤ 9223372036854775807
                      · rw [if_pos c90] at H
                        have c90b0 := eq_true c90
                        have c90b1 : decide (((⟨#[100, 101, 108, 101, 116, 101]⟩ : ByteArray) ++ ((⟨#[32]⟩ : ByteArray) ++ t156)).size + 1 ≤ 9223372036854775807) = true := decide_eq_true c90
                        try have c90b2 : (9223372036854775807 < ((⟨#[100, 101, 108, 101, 116, 101]⟩ : ByteArray) ++ ((⟨#[32]⟩ : ByteArray) ++ t156)).size + 1) = False := eq_false (Nat.not_lt.2 c90)
                        try have c90b3 : (9223372036854775807 < (6 + (1 + t156.size)) + 1) = False := by
                              have z := c90
                              simp only [ByteArray.size_append] at z
                              refine eq_false (Nat.not_lt.2 (Nat.le_trans (Nat.le_of_eq ?_) z))
                              rfl
                        by_cases c91 : (((⟨#[100, 101, 108, 101, 116, 101]⟩ : ByteArray) ++ ((⟨#[32]⟩ : ByteArray) ++ t156)) ++ (⟨#[32]⟩ : ByteArray)).size + a0_4.size ≤ 9223372036854775807
                        · rw [if_pos c91] at H
                          have c91b0 := eq_true c91
                          have c91b1 : decide ((((⟨#[100, 101, 108, 101, 116, 101]⟩ : ByteArray) ++ ((⟨#[32]⟩ : ByteArray) ++ t156)) ++ (⟨#[32]⟩ : ByteArray)).size + a0_4.size ≤ 9223372036854775807) = true := decide_eq_true c91
                          try have c91b2 : (9223372036854775807 < (((⟨#[100, 101, 108, 101, 116, 101]⟩ : ByteArray) ++ ((⟨#[32]⟩ : ByteArray) ++ t156)) ++ (⟨#[32]⟩ : ByteArray)).size + a0_4.size) = False := eq_false (Nat.not_lt.2 c91)
                          try have c91b3 : (9223372036854775807 < ((6 + (1 + t156.size)) + 1) + a0_4.size) = False := by
                                have z := c91
                                simp only [ByteArray.size_append] at z
                                refine eq_false (Nat.not_lt.2 (Nat.le_trans (Nat.le_of_eq ?_) z))
                                rfl
                          obtain rfl := Option.some.inj H
                          go_enter Tryd.func37, Tryd.ntmps37
                          try go_wp2_with (first | ((with_reducible refine gate_dst (N := 1) rfl ?_); refine box_event ?hg (N := 1) ?hd (cs := #[.int .i64 a0_0, .int .i64 a0_1, .int .i64 a0_2, .bool a0_3, .string a0_4, .string a0_5, .int .i64 a0_6, .int .i64 a0_7, .slice A0_8 l0_8.length c0_8]) (t := 24) ?hr ?_; (case hd => rfl); (case hg => rfl); (case hr => first | (go_simp; done) | (go_simp; rfl)); intro gb155 hg w92 hbox hb; have n0_ := Aside0.mk (below_step (by repeat (first | (with_reducible first | exact HB.out | apply below_alloc | apply pw_below_drewN | apply below_drew1) | exact HB.out)) hb); have n1_ := Aside0.mk (hbox); have n2_ := Aside0.mk ((by rw [hg]; exact (below_size (by repeat (first | (with_reducible first | exact HB.out | apply below_alloc | apply pw_below_drewN | apply below_drew1) | exact HB.out))) : w.heap.size ≤ gb155)); have n3_ := Aside0.mk ((by rw [hg]; exact (below_size (by repeat (first | (with_reducible first | exact HB.out | apply below_alloc | apply pw_below_drewN | apply below_drew1) | exact HB.out))) : w.heap.size ≤ gb155)); clear HB; have HB := n0_; have BK155 := n1_; have GW155 := n2_; have GE155 := n3_; clear n0_ n1_ n2_ n3_; clear hb hbox hg; have hcz93_0 : w92.cell? ⟨gb155, 0, none⟩ = some (.int .i64 a0_0) := (blk_cell BK155.out 0).trans rfl; have hcz93_1 : w92.cell? ⟨gb155, 1, none⟩ = some (.int .i64 a0_1) := (blk_cell BK155.out 1).trans rfl; have hcz93_2 : w92.cell? ⟨gb155, 2, none⟩ = some (.int .i64 a0_2) := (blk_cell BK155.out 2).trans rfl; have hcz93_3 : w92.cell? ⟨gb155, 3, none⟩ = some (.bool a0_3) := (blk_cell BK155.out 3).trans rfl; have hcz93_4 : w92.cell? ⟨gb155, 4, none⟩ = some (.string a0_4) := (blk_cell BK155.out 4).trans rfl; have hcz93_5 : w92.cell? ⟨gb155, 5, none⟩ = some (.string a0_5) := (blk_cell BK155.out 5).trans rfl; have hcz93_6 : w92.cell? ⟨gb155, 6, none⟩ = some (.int .i64 a0_6) := (blk_cell BK155.out 6).trans rfl; have hcz93_7 : w92.cell? ⟨gb155, 7, none⟩ = some (.int .i64 a0_7) := (blk_cell BK155.out 7).trans rfl; have hcz93_8 : w92.cell? ⟨gb155, 8, none⟩ = some (.slice A0_8 l0_8.length c0_8) := (blk_cell BK155.out 8).trans rfl; have hfz93_0 := blk_frozen BK155.out 0; have hfz93_1 := blk_frozen BK155.out 1; have hfz93_2 := blk_frozen BK155.out 2; have hfz93_3 := blk_frozen BK155.out 3; have hfz93_4 := blk_frozen BK155.out 4; have hfz93_5 := blk_frozen BK155.out 5; have hfz93_6 := blk_frozen BK155.out 6; have hfz93_7 := blk_frozen BK155.out 7; have hfz93_8 := blk_frozen BK155.out 8) | ((with_reducible refine gate_callee (f := 48) rfl ?_); refine goesL_ (some 10) rfl rfl Tryd.func48 (by kernel_rfl) rfl #[.int .i64 a0_0] rfl (by (try simp only [List.map_toArray, List.map_cons, List.map_nil]); first | done | rfl | (simp only [List.length_drop, List.length_take]; rfl)) ?_; (with_reducible refine (tegularef13_Number.calls k a0_0 t156 _ A2.out).mono ?_); rintro e w94 ⟨rfl, hb⟩; refine ⟨_, rfl, ?_⟩; have n0_ := Aside0.mk (blk_below (g := gb155) (o := .cells #[.int .i64 a0_0, .int .i64 a0_1, .int .i64 a0_2, .bool a0_3, .string a0_4, .string a0_5, .int .i64 a0_6, .int .i64 a0_7, .slice A0_8 l0_8.length c0_8] 24 (0, 0)) (by (with_reducible repeat (first | refine blk_drewN ?_ _ | refine blk_drew ?_ | refine blk_alloc ?_ _)); exact BK155.out) hb); have n1_ := Aside0.mk (below_step (by repeat (first | (with_reducible first | exact HB.out | apply below_alloc | apply pw_below_drewN | apply below_drew1 | refine below_set ?_ GE155.out) | exact HB.out)) hb); clear BK155; clear HB; have BK155 := n0_; have HB := n1_; clear n0_ n1_; (try clear hb); (try clear hb2); (try clear hk); (try clear hi)))
                          have n0_ := Aside0.mk (blk_drew BK155.out)
                          have n1_ := Aside0.mk (below_drew1 HB.out)
                          clear BK155
                          clear HB
                          have BK155 := n0_
                          have HB := n1_
                          clear n0_ n1_
                          refine start_ (n := 10) (S := fun w' => w'.cell? ⟨gb155, 0, none⟩ = some (.int .i64 a0_0) ∧ w'.cell? ⟨gb155, 1, none⟩ = some (.int .i64 a0_1) ∧ w'.cell? ⟨gb155, 2, none⟩ = some (.int .i64 a0_2) ∧ w'.cell? ⟨gb155, 3, none⟩ = some (.bool a0_3) ∧ w'.cell? ⟨gb155, 4, none⟩ = some (.string a0_4) ∧ w'.cell? ⟨gb155, 5, none⟩ = some (.string a0_5) ∧ w'.cell? ⟨gb155, 6, none⟩ = some (.int .i64 a0_6) ∧ w'.cell? ⟨gb155, 7, none⟩ = some (.int .i64 a0_7) ∧ w'.cell? ⟨gb155, 8, none⟩ = some (.slice A0_8 l0_8.length c0_8)) (ds := []) #[false, false, false, false, false, false, false, false, false, false] (by kernel_rfl) rfl rfl ⟨(blk_cell BK155.out 0).trans rfl, (blk_cell BK155.out 1).trans rfl, (blk_cell BK155.out 2).trans rfl, (blk_cell BK155.out 3).trans rfl, (blk_cell BK155.out 4).trans rfl, (blk_cell BK155.out 5).trans rfl, (blk_cell BK155.out 6).trans rfl, (blk_cell BK155.out 7).trans rfl, (blk_cell BK155.out 8).trans rfl⟩ (fun hHeld => ?_); refine with_tabW tegularef39_words.tab2 tegularef39_words.bits2 (fun HT_ HW_ => ?_)
                          generalize w94.drew = w95 at BK155 HB hHeld ⊢
                          refine pure_ (i := 0) (N := some 12) (v := ?_) (a' := ?_) #[true, false, false, false, false, false, false, false, false, false] rfl rfl (any_of HT_.out (by kernel_rfl)) (fun _ _ _ h => h) (Or.inl ⟨by rfl, ?_⟩) ?_ ?_
                          rotate_left
                          · intro w'
                            go_simp
                            with_reducible rfl
                          rotate_left
                          · simp only [Act.put, List.setIfInBounds_toArray, List.set_cons_zero, List.set_cons_succ, i64_w, i32_w]
                            rfl
                          refine pure_ (i := 4) (N := some 16) (v := ?_) (a' := ?_) #[true, false, false, false, true, false, false, false, false, false] rfl rfl (any_of HT_.out (by kernel_rfl)) (fun _ _ _ h => h) (Or.inl ⟨by rfl, ?_⟩) ?_ ?_
                          rotate_left
                          · intro w'
                            go_simp
                            with_reducible rfl
                          rotate_left
                          · simp only [Act.put, List.setIfInBounds_toArray, List.set_cons_zero, List.set_cons_succ, i64_w, i32_w]
                            rfl
                          refine take_ (i := 1) (N := some 13) (v := ?_) (a' := ?_) #[true, true, false, false, true, false, false, false, false, false] rfl rfl (take_ofW HT_.out HW_.out (by kernel_rfl)) (fun _ _ _ h => h) (Or.inl ⟨by rfl, ?_⟩) hHeld ?_ ?_
                          rotate_left
                          · rintro w' ⟨s0, s1, s2, s3, s4, s5, s6, s7, s8⟩
                            go_simp
                            with_reducible rfl
                          rotate_left
                          · simp only [Act.put, List.setIfInBounds_toArray, List.set_cons_zero, List.set_cons_succ, i64_w, i32_w]
                            rfl
                          refine take_ (i := 5) (N := some 17) (v := ?_) (a' := ?_) #[true, true, false, false, true, true, false, false, false, false] rfl rfl (take_ofW HT_.out HW_.out (by kernel_rfl)) (fun _ _ _ h => h) (Or.inl ⟨by rfl, ?_⟩) hHeld ?_ ?_
                          rotate_left
                          · rintro w' ⟨s0, s1, s2, s3, s4, s5, s6, s7, s8⟩
                            go_simp
                            with_reducible rfl
                          rotate_left
                          · simp only [Act.put, List.setIfInBounds_toArray, List.set_cons_zero, List.set_cons_succ, i64_w, i32_w]
                            rfl
                          refine one_ (i := 2) (N := some 14) #[true, true, true, false, true, true, false, false, false, false] rfl rfl (one_of HT_.out (by kernel_rfl)) (by decide) (fun K hK => ?_)
                          refine goes_ Tryd.func48 (by kernel_rfl) rfl #[.int .i64 a0_6] (by rfl) rfl rfl (by (try simp only [List.map_toArray, List.map_cons, List.map_nil]); first | done | rfl | (simp only [List.length_drop, List.length_take]; rfl)) ?_
                          with_reducible refine (tegularef13_Number.calls k a0_6 t157 _ A4.out).mono ?_
                          rintro e w96 ⟨rfl, hb⟩
                          refine ⟨_, rfl, ?_⟩
                          have n0_ := Aside0.mk (blk_below (g := gb155) (o := .cells #[.int .i64 a0_0, .int .i64 a0_1, .int .i64 a0_2, .bool a0_3, .string a0_4, .string a0_5, .int .i64 a0_6, .int .i64 a0_7, .slice A0_8 l0_8.length c0_8] 24 (0, 0)) (by (with_reducible repeat (first | refine blk_drewN ?_ _ | refine blk_drew ?_ | refine blk_alloc ?_ _)); exact BK155.out) hb)
                          have n1_ := Aside0.mk (below_step (by repeat (first | (with_reducible first | exact HB.out | apply below_alloc | apply pw_below_drewN | apply below_drew1 | refine below_set ?_ GE155.out) | exact HB.out)) hb)
                          clear BK155
                          clear HB
                          have BK155 := n0_
                          have HB := n1_
                          clear n0_ n1_
                          (try clear hb)
                          (try clear hb2)
                          (try clear hk)
                          (try clear hi)
                          refine hK.out _ _ ⟨(blk_cell BK155.out 0).trans rfl, (blk_cell BK155.out 1).trans rfl, (blk_cell BK155.out 2).trans rfl, (blk_cell BK155.out 3).trans rfl, (blk_cell BK155.out 4).trans rfl, (blk_cell BK155.out 5).trans rfl, (blk_cell BK155.out 6).trans rfl, (blk_cell BK155.out 7).trans rfl, (blk_cell BK155.out 8).trans rfl⟩ (fun hHeld => ?_)
                          clear hK K
                          refine norm_ (a' := ?_) ?_ ?_
                          rotate_left
                          · show Act.put _ (some 14) _ = _
                            simp only [Act.put, List.setIfInBounds_toArray, List.set_cons_zero, List.set_cons_succ, i64_w, i32_w]
                            rfl
                          refine pure_ (i := 3) (N := some 15) (v := ?_) (a' := ?_) #[true, true, true, true, true, true, false, false, false, false] rfl rfl (any_of HT_.out (by kernel_rfl)) (fun _ _ _ h => h) (Or.inl ⟨by rfl, ?_⟩) ?_ ?_
                          rotate_left
                          · intro w'
                            go_simp
                            with_reducible rfl
                          rotate_left
                          · simp only [Act.put, List.setIfInBounds_toArray, List.set_cons_zero, List.set_cons_succ, i64_w, i32_w]
                            rfl
                          refine one_ (i := 6) (N := some 18) #[true, true, true, true, true, true, true, false, false, false] rfl rfl (one_of HT_.out (by kernel_rfl)) (by decide) (fun K hK => ?_)
                          refine goes_ Tryd.func48 (by kernel_rfl) rfl #[.int .i64 a0_7] (by rfl) rfl rfl (by (try simp only [List.map_toArray, List.map_cons, List.map_nil]); first | done | rfl | (simp only [List.length_drop, List.length_take]; rfl)) ?_
                          with_reducible refine (tegularef13_Number.calls k a0_7 t158 _ A6.out).mono ?_
                          rintro e w97 ⟨rfl, hb⟩
                          refine ⟨_, rfl, ?_⟩
                          have n0_ := Aside0.mk (blk_below (g := gb155) (o := .cells #[.int .i64 a0_0, .int .i64 a0_1, .int .i64 a0_2, .bool a0_3, .string a0_4, .string a0_5, .int .i64 a0_6, .int .i64 a0_7, .slice A0_8 l0_8.length c0_8] 24 (0, 0)) (by (with_reducible repeat (first | refine blk_drewN ?_ _ | refine blk_drew ?_ | refine blk_alloc ?_ _)); exact BK155.out) hb)
                          have n1_ := Aside0.mk (below_step (by repeat (first | (with_reducible first | exact HB.out | apply below_alloc | apply pw_below_drewN | apply below_drew1 | refine below_set ?_ GE155.out) | exact HB.out)) hb)
                          clear BK155
                          clear HB
                          have BK155 := n0_
                          have HB := n1_
                          clear n0_ n1_
                          (try clear hb)
                          (try clear hb2)
                          (try clear hk)
                          (try clear hi)
                          refine hK.out _ _ ⟨(blk_cell BK155.out 0).trans rfl, (blk_cell BK155.out 1).trans rfl, (blk_cell BK155.out 2).trans rfl, (blk_cell BK155.out 3).trans rfl, (blk_cell BK155.out 4).trans rfl, (blk_cell BK155.out 5).trans rfl, (blk_cell BK155.out 6).trans rfl, (blk_cell BK155.out 7).trans rfl, (blk_cell BK155.out 8).trans rfl⟩ (fun hHeld => ?_)
                          clear hK K
                          refine norm_ (a' := ?_) ?_ ?_
                          rotate_left
                          · show Act.put _ (some 18) _ = _
                            simp only [Act.put, List.setIfInBounds_toArray, List.set_cons_zero, List.set_cons_succ, i64_w, i32_w]
                            rfl
                          refine pure_ (i := 7) (N := some 19) (v := ?_) (a' := ?_) #[true, true, true, true, true, true, true, true, false, false] rfl rfl (any_of HT_.out (by kernel_rfl)) (fun _ _ _ h => h) (Or.inl ⟨by rfl, ?_⟩) ?_ ?_
                          rotate_left
                          · intro w'
                            go_simp
                            with_reducible rfl
                          rotate_left
                          · simp only [Act.put, List.setIfInBounds_toArray, List.set_cons_zero, List.set_cons_succ, i64_w, i32_w]
                            rfl
                          refine pure_ (i := 8) (N := some 4) (v := ?_) (a' := ?_) #[true, true, true, true, true, true, true, true, true, false] rfl rfl (any_of HT_.out (by kernel_rfl)) (fun _ _ _ h => h) (Or.inl ⟨by rfl, ?_⟩) ?_ ?_
                          rotate_left
                          · intro w'
                            go_simp
                            with_reducible rfl
                          rotate_left
                          · simp only [Act.put, List.setIfInBounds_toArray, List.set_cons_zero, List.set_cons_succ, i64_w, i32_w]
                            rfl
                          refine pure_ (i := 9) (N := some 5) (v := ?_) (a' := ?_) #[true, true, true, true, true, true, true, true, true, true] rfl rfl (any_of HT_.out (by kernel_rfl)) (fun _ _ _ h => h) (Or.inl ⟨by rfl, ?_⟩) ?_ ?_
                          rotate_left
                          · intro w'
                            go_simp
                            with_reducible rfl
                          rotate_left
                          · simp only [Act.put, List.setIfInBounds_toArray, List.set_cons_zero, List.set_cons_succ, i64_w, i32_w]
                            rfl
                          refine done_ (done_of HT_.out (by kernel_rfl)) ?_
                          have hcz98_0 : w97.cell? ⟨gb155, 0, none⟩ = some (.int .i64 a0_0) := (blk_cell BK155.out 0).trans rfl
                          have hcz98_1 : w97.cell? ⟨gb155, 1, none⟩ = some (.int .i64 a0_1) := (blk_cell BK155.out 1).trans rfl
                          have hcz98_2 : w97.cell? ⟨gb155, 2, none⟩ = some (.int .i64 a0_2) := (blk_cell BK155.out 2).trans rfl
                          have hcz98_3 : w97.cell? ⟨gb155, 3, none⟩ = some (.bool a0_3) := (blk_cell BK155.out 3).trans rfl
                          have hcz98_4 : w97.cell? ⟨gb155, 4, none⟩ = some (.string a0_4) := (blk_cell BK155.out 4).trans rfl
                          have hcz98_5 : w97.cell? ⟨gb155, 5, none⟩ = some (.string a0_5) := (blk_cell BK155.out 5).trans rfl
                          have hcz98_6 : w97.cell? ⟨gb155, 6, none⟩ = some (.int .i64 a0_6) := (blk_cell BK155.out 6).trans rfl
                          have hcz98_7 : w97.cell? ⟨gb155, 7, none⟩ = some (.int .i64 a0_7) := (blk_cell BK155.out 7).trans rfl
                          have hcz98_8 : w97.cell? ⟨gb155, 8, none⟩ = some (.slice A0_8 l0_8.length c0_8) := (blk_cell BK155.out 8).trans rfl
                          have hfz98_0 := blk_frozen BK155.out 0
                          have hfz98_1 := blk_frozen BK155.out 1
                          have hfz98_2 := blk_frozen BK155.out 2
                          have hfz98_3 := blk_frozen BK155.out 3
                          have hfz98_4 := blk_frozen BK155.out 4
                          have hfz98_5 := blk_frozen BK155.out 5
                          have hfz98_6 := blk_frozen BK155.out 6
                          have hfz98_7 := blk_frozen BK155.out 7
                          have hfz98_8 := blk_frozen BK155.out 8
                          try go_wp2
                          go_ret
                          exact ⟨by first | rfl | (simp [errW_none, errW_some] <;> rfl) | (simp [*, errW_none, errW_some] <;> rfl), by repeat (first | (with_reducible first | exact HB.out | apply below_alloc | apply pw_below_drewN | apply below_drew1 | refine below_set ?_ GE155.out) | exact HB.out)⟩
                        · rw [if_neg c91] at H
                          exact absurd H (by simp)
                      · rw [if_neg c90] at H
                        exact absurd H (by simp)
                    · rw [if_neg c89] at H
                      exact absurd H (by simp)
      · rw [if_neg c7] at H
        exact absurd H (by simp)
    · rw [if_neg c5] at H
      exact absurd H (by simp)
  · rw [if_neg c3] at H
    exact absurd H (by simp)
end Go.Proofs.YthbnghdobmghlaaDoor.PC
