-- Written for this claim by a program of this session (wip/tools/p2.py).
import Derived.Test.YtbpediccbeoifaaDoorGNx0
import Derived.Test.YtbpediccbeoifaaDoorGNx1
import Derived.Test.YtbpediccbeoifaaDoorGNx2
import Derived.Test.YtbpediccbeoifaaDoorGNx3
import Derived.Test.YtbpediccbeoifaaDoorGNx4
import Derived.Test.YtbpediccbeoifaaDoorGNx5
import Derived.Test.YtbpediccbeoifaaDoorGNx6
import Derived.Test.YtbpediccbeoifaaDoorGNx7
import Derived.Test.YtbpediccbeoifaaDoorGNx8
import Derived.Test.YtbpediccbeoifaaDoorGNx9
import Derived.Test.YtbpediccbeoifaaDoorGNx10
namespace Go.Proofs.YtbpediccbeoifaaDoor.GN
open Go.RowKit Go.Proofs.YtbpediccbeoifaaDoorW.PrintWords Go.Proofs.YtbpediccbeoifaaDoorW.PrintLast Go.Proofs.YtbpediccbeoifaaDoorW.PrintMore
attribute [local go_sem] max2_int min2_int max_two min_two max_three min_three max_four min_four   -- for this text's walks alone
set_option linter.unusedVariables false
set_option linter.unusedSimpArgs false

end Go.Proofs.YtbpediccbeoifaaDoor.GN
