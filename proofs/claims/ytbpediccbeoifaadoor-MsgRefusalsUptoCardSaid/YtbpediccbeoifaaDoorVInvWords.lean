-- Words of the print, those that this claim reaches (wip/tools/pack.py).
import Derived.Test.YtbpediccbeoifaaDoorVInv
import Derived.Test.YtbpediccbeoifaaDoorVFootNe
namespace Go.Proofs.YtbpediccbeoifaaDoorW.PrintWords
open Go.RowKit
end Go.Proofs.YtbpediccbeoifaaDoorW.PrintWords
namespace Go.Proofs.YtbpediccbeoifaaDoorW.PrintLast
section
variable {ops : Array Oper} {a : Act} {o og : Oper} {g : Nat} {t : Tmp} {u : Bool}
end
end Go.Proofs.YtbpediccbeoifaaDoorW.PrintLast
