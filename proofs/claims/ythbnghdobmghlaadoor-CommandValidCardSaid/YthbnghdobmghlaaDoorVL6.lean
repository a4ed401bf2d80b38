import Derived.Test.YthbnghdobmghlaaDoorVL3
import Derived.Test.YthbnghdobmghlaaDoorVL2
namespace Go.Proofs.YthbnghdobmghlaaDoor.ST
open Go.RowKit Go.Proofs.YthbnghdobmghlaaDoorW.PrintWords Go.Proofs.YthbnghdobmghlaaDoorW.PrintLast Go.Proofs.YthbnghdobmghlaaDoorW.PrintMore Go.Proofs.YthbnghdobmghlaaDoor.PC
set_option linter.unusedVariables false
set_option linter.unusedSimpArgs false
theorem Range_any (c : Cmd) (w : World) (A : Option Addr) (cap : Nat) (hA : Kd.C k35 w A c.data.length c.data) (hcap : c.data.length ≤ cap) (hn : c.data.length ≤ 140737488355328) {r : ByteArray} {x y : Int} {z : Bool} (hr : rangeC c = (r, x, y, z)) :
    Calls Tryd.prog 13 #[cmdV c (.slice A c.data.length cap)] w fun e w' => e = .returned (.tuple #[.string r, .int .i64 x, .int .i64 y, .bool z]) ∧ Below w.heap.size w w' :=
  command_Range.calls _ _ _ _ _ _ _ _ A cap c.data r x y z w hA hcap ((range_prog c hn).trans (congrArg some hr))
end Go.Proofs.YthbnghdobmghlaaDoor.ST
