-- Written for this claim by a program of this session (wip/tools/p2.py).
import Derived.Test.YtgihlldkdbjkkaaProg
import Derived.Test.YtgihlldkdbjkkaaFz
import Derived.Below
import Derived.Deep.Draws
import Derived.Deep.AppendLies
import Derived.Maps.AppendAt
import Derived.OwnWalk
import Derived.Laws.BytesArg
import Derived.Laws.MakeOwn
import Derived.Laws.OwnMore
import Derived.Deep.OwnRows
import Derived.Tactics
import Derived.Lib.ConvBytes
import Derived.Laws.Slices
import Derived.WalkKit
import Derived.KernelRfl
import Derived.RowKit3
import Derived.Deep.LoopGhost
import Derived.Deep.QuietTactic
import Derived.BigQuiet
import Derived.WideLaws
import Derived.Deep.DeepCutAuto
import Derived.Deep.CutBlock
import Derived.Deep.RegionHeld3
import Derived.Laws.Rows
import Derived.Lib.AppendStr
import Derived.ArgAppend
import Derived.Laws.IdiomCopy
import Derived.OrdersHeld
import Derived.Laws.BitsLemmas
import Derived.RowKit
import Derived.Test.YtgihlldkdbjkkaaWWords
import Derived.Test.YtgihlldkdbjkkaaWLast
import Derived.Test.YtgihlldkdbjkkaaWTab
import Derived.Test.YtgihlldkdbjkkaaWFour
import Derived.Test.YtgihlldkdbjkkaaWQPut
import Derived.Test.YtgihlldkdbjkkaaWApart
import Derived.Test.YtgihlldkdbjkkaaWArr
import Derived.Test.YtgihlldkdbjkkaaWZeros
import Derived.Test.YtgihlldkdbjkkaaWFoot
import Derived.Test.YtgihlldkdbjkkaaWKept
import Derived.Test.YtgihlldkdbjkkaaWShare
import Derived.Test.YtgihlldkdbjkkaaWN
import Derived.Test.YtgihlldkdbjkkaaWFootNe
import Derived.Test.YtgihlldkdbjkkaaWAt
import Derived.Test.YtgihlldkdbjkkaaWEqStruct
import Derived.Test.YtgihlldkdbjkkaaWRepsOne
import Derived.Test.YtgihlldkdbjkkaaWInv
import Derived.Test.YtgihlldkdbjkkaaWInvWords
import Derived.Test.YtgihlldkdbjkkaaWGuard
import Derived.Test.YtgihlldkdbjkkaaWNEv
import Derived.Test.YtgihlldkdbjkkaaWMore
namespace Go.Proofs.Ytgihlldkdbjkkaa.GP
open Go.RowKit Go.Proofs.YtgihlldkdbjkkaaW.PrintWords Go.Proofs.YtgihlldkdbjkkaaW.PrintLast Go.Proofs.YtgihlldkdbjkkaaW.PrintMore
attribute [local go_sem] max2_int min2_int max_two min_two max_three min_three max_four min_four   -- for this text's walks alone
set_option linter.unusedVariables false
set_option linter.unusedSimpArgs false



def errW : Option Int → Value
 | none => .nilIface
 | some c => .iface 0 (.int .i64 c)
theorem errW_none : errW none = .nilIface := rfl
theorem errW_some (c : Int) : errW (some c) = .iface 0 (.int .i64 c) := rfl

theorem info5 : (Try.prog.info? 5).map (fun i => (i.zero, i.size, i.bytes)) = some (some (.int .u8 0), 1, 1) := by kernel_rfl
-- the values' own types

end Go.Proofs.Ytgihlldkdbjkkaa.GP
