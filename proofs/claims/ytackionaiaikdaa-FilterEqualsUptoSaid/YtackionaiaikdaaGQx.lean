-- Written for this claim by a program of this session (wip/tools/p2.py).
import Derived.Test.YtackionaiaikdaaGQx0
import Derived.Test.YtackionaiaikdaaGQx1
import Derived.Test.YtackionaiaikdaaGQx2
import Derived.Test.YtackionaiaikdaaGQx3
namespace Go.Proofs.Ytackionaiaikdaa.GQ
open Go.RowKit Go.Proofs.YtackionaiaikdaaW.PrintWords Go.Proofs.YtackionaiaikdaaW.PrintLast Go.Proofs.YtackionaiaikdaaW.PrintMore
attribute [local go_sem] max2_int min2_int max_two min_two max_three min_three max_four min_four   -- for this text's walks alone
set_option linter.unusedVariables false
set_option linter.unusedSimpArgs false

end Go.Proofs.Ytackionaiaikdaa.GQ
