-- Written for this claim by a program of this session (wip/tools/p2.py).
import Derived.Test.YtdckeakloifkdaaGMx0
import Derived.Test.YtdckeakloifkdaaGMx1
import Derived.Test.YtdckeakloifkdaaGMx2
import Derived.Test.YtdckeakloifkdaaGMx3
import Derived.Test.YtdckeakloifkdaaGMx4
import Derived.Test.YtdckeakloifkdaaGMx5
import Derived.Test.YtdckeakloifkdaaGMx6
namespace Go.Proofs.Ytdckeakloifkdaa.GM
open Go.RowKit Go.Proofs.YtdckeakloifkdaaW.PrintWords Go.Proofs.YtdckeakloifkdaaW.PrintLast Go.Proofs.YtdckeakloifkdaaW.PrintMore
attribute [local go_sem] max2_int min2_int max_two min_two max_three min_three max_four min_four   -- for this text's walks alone
set_option linter.unusedVariables false
set_option linter.unusedSimpArgs false

end Go.Proofs.Ytdckeakloifkdaa.GM
