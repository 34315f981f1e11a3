-- Written for this claim by a program of this session (wip/tools/p2.py).
import Derived.Test.YtbloccjogadlmaaProg
import Derived.Test.YtbloccjogadlmaaFz
import Derived.Below
import Derived.Deep.Draws
import Derived.Deep.AppendLies
import Derived.Maps.AppendAt
import Derived.OwnWalk
import Derived.Laws.BytesArg
import Derived.Laws.MakeOwn
import Derived.Laws.OwnMore
import Derived.Deep.OwnRows
import Derived.Tactics
import Derived.Lib.ConvBytes
import Derived.Laws.Slices
import Derived.WalkKit
import Derived.KernelRfl
import Derived.RowKit3
import Derived.Deep.LoopGhost
import Derived.Deep.QuietTactic
import Derived.BigQuiet
import Derived.WideLaws
import Derived.Deep.DeepCutAuto
import Derived.Deep.CutBlock
import Derived.Deep.RegionHeld3
import Derived.Laws.Rows
import Derived.Lib.AppendStr
import Derived.ArgAppend
import Derived.Laws.IdiomCopy
import Derived.OrdersHeld
import Derived.Laws.BitsLemmas
import Derived.RowKit
import Derived.Test.YtbloccjogadlmaaWWords
import Derived.Test.YtbloccjogadlmaaWLast
import Derived.Test.YtbloccjogadlmaaWTab
import Derived.Test.YtbloccjogadlmaaWFour
import Derived.Test.YtbloccjogadlmaaWQPut
import Derived.Test.YtbloccjogadlmaaWApart
import Derived.Test.YtbloccjogadlmaaWArr
import Derived.Test.YtbloccjogadlmaaWZeros
import Derived.Test.YtbloccjogadlmaaWFoot
import Derived.Test.YtbloccjogadlmaaWKept
import Derived.Test.YtbloccjogadlmaaWShare
import Derived.Test.YtbloccjogadlmaaWN
import Derived.Test.YtbloccjogadlmaaWFootNe
import Derived.Test.YtbloccjogadlmaaWAt
import Derived.Test.YtbloccjogadlmaaWEqStruct
import Derived.Test.YtbloccjogadlmaaWRepsOne
import Derived.Test.YtbloccjogadlmaaWInv
import Derived.Test.YtbloccjogadlmaaWInvWords
import Derived.Test.YtbloccjogadlmaaWGuard
import Derived.Test.YtbloccjogadlmaaWNEv
import Derived.Test.YtbloccjogadlmaaWMore
namespace Go.Proofs.Ytbloccjogadlmaa.GU
open Go.RowKit Go.Proofs.YtbloccjogadlmaaW.PrintWords Go.Proofs.YtbloccjogadlmaaW.PrintLast Go.Proofs.YtbloccjogadlmaaW.PrintMore
attribute [local go_sem] max2_int min2_int max_two min_two max_three min_three max_four min_four   -- for this text's walks alone
set_option linter.unusedVariables false
set_option linter.unusedSimpArgs false



def errW : Option Int → Value
 | none => .nilIface
 | some c => .iface 0 (.int .i64 c)
theorem errW_none : errW none = .nilIface := rfl
theorem errW_some (c : Int) : errW (some c) = .iface 0 (.int .i64 c) := rfl

theorem info5 : (Try.prog.info? 5).map (fun i => (i.zero, i.size, i.bytes)) = some (some (.int .u8 0), 1, 1) := by kernel_rfl
-- the values' own types

end Go.Proofs.Ytbloccjogadlmaa.GU
