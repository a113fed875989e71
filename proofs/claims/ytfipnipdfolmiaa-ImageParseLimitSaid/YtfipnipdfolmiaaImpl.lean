/- Printed by a program of this session (a copy of the kit's print.py, one text for all functions of the seat), with some contracts typed by hand among them: for each Go function a Lean function and a proof that the code comes to its answers. -/
import Derived.Test.YtfipnipdfolmiaaImpl0
import Derived.Test.YtfipnipdfolmiaaImpl1
import Derived.Test.YtfipnipdfolmiaaImpl2
import Derived.Test.YtfipnipdfolmiaaImpl3
import Derived.Test.YtfipnipdfolmiaaImpl4
import Derived.Test.YtfipnipdfolmiaaImpl5
import Derived.Test.YtfipnipdfolmiaaImpl6
namespace Go.Proofs.Ytfipnipdfolmiaa.Impl
open Go.RowKit Go.Proofs.YtfipnipdfolmiaaW.PrintWords Go.Proofs.YtfipnipdfolmiaaW.PrintLast Go.Proofs.YtfipnipdfolmiaaW.PrintMore
attribute [local go_sem] max2_int min2_int max_two min_two max_three min_three max_four min_four   -- for this text's walks alone
set_option linter.unusedVariables false
set_option linter.unusedSimpArgs false

end Go.Proofs.Ytfipnipdfolmiaa.Impl
