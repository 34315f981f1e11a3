-- Written for this claim by a program of this session (wip/tools/p2.py).
import Derived.Test.YtbgmnfkfbiemaaaProg
import Derived.Test.YtbgmnfkfbiemaaaFz
import Derived.Below
import Derived.Deep.Draws
import Derived.Deep.AppendLies
import Derived.Maps.AppendAt
import Derived.OwnWalk
import Derived.Laws.BytesArg
import Derived.Laws.MakeOwn
import Derived.Laws.OwnMore
import Derived.Deep.OwnRows
import Derived.Tactics
import Derived.Lib.ConvBytes
import Derived.Laws.Slices
import Derived.WalkKit
import Derived.KernelRfl
import Derived.RowKit3
import Derived.Deep.LoopGhost
import Derived.Deep.QuietTactic
import Derived.BigQuiet
import Derived.WideLaws
import Derived.Deep.DeepCutAuto
import Derived.Deep.CutBlock
import Derived.Deep.RegionHeld3
import Derived.Laws.Rows
import Derived.Lib.AppendStr
import Derived.ArgAppend
import Derived.Laws.IdiomCopy
import Derived.OrdersHeld
import Derived.Laws.BitsLemmas
import Derived.RowKit
import Derived.Test.YtbgmnfkfbiemaaaWWords
import Derived.Test.YtbgmnfkfbiemaaaWLast
import Derived.Test.YtbgmnfkfbiemaaaWTab
import Derived.Test.YtbgmnfkfbiemaaaWFour
import Derived.Test.YtbgmnfkfbiemaaaWQPut
import Derived.Test.YtbgmnfkfbiemaaaWApart
import Derived.Test.YtbgmnfkfbiemaaaWArr
import Derived.Test.YtbgmnfkfbiemaaaWZeros
import Derived.Test.YtbgmnfkfbiemaaaWFoot
import Derived.Test.YtbgmnfkfbiemaaaWKept
import Derived.Test.YtbgmnfkfbiemaaaWShare
import Derived.Test.YtbgmnfkfbiemaaaWN
import Derived.Test.YtbgmnfkfbiemaaaWFootNe
import Derived.Test.YtbgmnfkfbiemaaaWAt
import Derived.Test.YtbgmnfkfbiemaaaWEqStruct
import Derived.Test.YtbgmnfkfbiemaaaWRepsOne
import Derived.Test.YtbgmnfkfbiemaaaWInv
import Derived.Test.YtbgmnfkfbiemaaaWInvWords
import Derived.Test.YtbgmnfkfbiemaaaWGuard
import Derived.Test.YtbgmnfkfbiemaaaWNEv
import Derived.Test.YtbgmnfkfbiemaaaWMore
namespace Go.Proofs.Ytbgmnfkfbiemaaa.GA
open Go.RowKit Go.Proofs.YtbgmnfkfbiemaaaW.PrintWords Go.Proofs.YtbgmnfkfbiemaaaW.PrintLast Go.Proofs.YtbgmnfkfbiemaaaW.PrintMore
attribute [local go_sem] max2_int min2_int max_two min_two max_three min_three max_four min_four   -- for this text's walks alone
set_option linter.unusedVariables false
set_option linter.unusedSimpArgs false



def errW : Option Int → Value
 | none => .nilIface
 | some c => .iface 0 (.int .i64 c)
theorem errW_none : errW none = .nilIface := rfl
theorem errW_some (c : Int) : errW (some c) = .iface 0 (.int .i64 c) := rfl

theorem info5 : (Try.prog.info? 5).map (fun i => (i.zero, i.size, i.bytes)) = some (some (.int .u8 0), 1, 1) := by kernel_rfl
-- the values' own types

end Go.Proofs.Ytbgmnfkfbiemaaa.GA
