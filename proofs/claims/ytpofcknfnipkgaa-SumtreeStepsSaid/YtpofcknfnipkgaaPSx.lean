/- Functions of the seat, each as a plain Lean function, and the proof that its call answers what that function says (laid by a program). -/
import Derived.Test.YtpofcknfnipkgaaPSx0
import Derived.Test.YtpofcknfnipkgaaPSx1
import Derived.Test.YtpofcknfnipkgaaPSx2
import Derived.Test.YtpofcknfnipkgaaPSx3
import Derived.Test.YtpofcknfnipkgaaPSx4
import Derived.Test.YtpofcknfnipkgaaPSx5
import Derived.Test.YtpofcknfnipkgaaPSx6
namespace Go.Proofs.Ytpofcknfnipkgaa.PS
open Go.RowKit Go.Proofs.YtpofcknfnipkgaaW.PrintWords Go.Proofs.YtpofcknfnipkgaaW.PrintLast Go.Proofs.YtpofcknfnipkgaaW.PrintMore
attribute [local go_sem] max2_int min2_int max_two min_two max_three min_three max_four min_four   -- for this text's walks alone
set_option linter.unusedVariables false
set_option linter.unusedSimpArgs false

end Go.Proofs.Ytpofcknfnipkgaa.PS
