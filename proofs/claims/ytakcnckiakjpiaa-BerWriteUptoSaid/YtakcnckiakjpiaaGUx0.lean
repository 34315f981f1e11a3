-- Written for this claim by a program of this session (wip/tools/p2.py).
import Derived.Test.YtakcnckiakjpiaaProg
import Derived.Test.YtakcnckiakjpiaaFz
import Derived.Below
import Derived.Deep.Draws
import Derived.Deep.AppendLies
import Derived.Maps.AppendAt
import Derived.OwnWalk
import Derived.Laws.BytesArg
import Derived.Laws.MakeOwn
import Derived.Laws.OwnMore
import Derived.Deep.OwnRows
import Derived.Tactics
import Derived.Lib.ConvBytes
import Derived.Laws.Slices
import Derived.WalkKit
import Derived.KernelRfl
import Derived.RowKit3
import Derived.Deep.LoopGhost
import Derived.Deep.QuietTactic
import Derived.BigQuiet
import Derived.WideLaws
import Derived.Deep.DeepCutAuto
import Derived.Deep.CutBlock
import Derived.Deep.RegionHeld3
import Derived.Laws.Rows
import Derived.Lib.AppendStr
import Derived.ArgAppend
import Derived.Laws.IdiomCopy
import Derived.OrdersHeld
import Derived.Laws.BitsLemmas
import Derived.RowKit
import Derived.Test.YtakcnckiakjpiaaWWords
import Derived.Test.YtakcnckiakjpiaaWLast
import Derived.Test.YtakcnckiakjpiaaWTab
import Derived.Test.YtakcnckiakjpiaaWFour
import Derived.Test.YtakcnckiakjpiaaWQPut
import Derived.Test.YtakcnckiakjpiaaWApart
import Derived.Test.YtakcnckiakjpiaaWArr
import Derived.Test.YtakcnckiakjpiaaWZeros
import Derived.Test.YtakcnckiakjpiaaWFoot
import Derived.Test.YtakcnckiakjpiaaWKept
import Derived.Test.YtakcnckiakjpiaaWShare
import Derived.Test.YtakcnckiakjpiaaWN
import Derived.Test.YtakcnckiakjpiaaWFootNe
import Derived.Test.YtakcnckiakjpiaaWAt
import Derived.Test.YtakcnckiakjpiaaWEqStruct
import Derived.Test.YtakcnckiakjpiaaWRepsOne
import Derived.Test.YtakcnckiakjpiaaWInv
import Derived.Test.YtakcnckiakjpiaaWInvWords
import Derived.Test.YtakcnckiakjpiaaWGuard
import Derived.Test.YtakcnckiakjpiaaWNEv
import Derived.Test.YtakcnckiakjpiaaWMore
namespace Go.Proofs.Ytakcnckiakjpiaa.GU
open Go.RowKit Go.Proofs.YtakcnckiakjpiaaW.PrintWords Go.Proofs.YtakcnckiakjpiaaW.PrintLast Go.Proofs.YtakcnckiakjpiaaW.PrintMore
attribute [local go_sem] max2_int min2_int max_two min_two max_three min_three max_four min_four   -- for this text's walks alone
set_option linter.unusedVariables false
set_option linter.unusedSimpArgs false



def errW : Option Int → Value
 | none => .nilIface
 | some c => .iface 0 (.int .i64 c)
theorem errW_none : errW none = .nilIface := rfl
theorem errW_some (c : Int) : errW (some c) = .iface 0 (.int .i64 c) := rfl

theorem info5 : (Try.prog.info? 5).map (fun i => (i.zero, i.size, i.bytes)) = some (some (.int .u8 0), 1, 1) := by kernel_rfl
-- the values' own types

end Go.Proofs.Ytakcnckiakjpiaa.GU
