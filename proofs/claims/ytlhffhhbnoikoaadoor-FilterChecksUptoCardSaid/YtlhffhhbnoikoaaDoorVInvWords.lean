-- Words of the print, those that this claim reaches (wip/tools/pack.py).
import Derived.Test.YtlhffhhbnoikoaaDoorVInv
import Derived.Test.YtlhffhhbnoikoaaDoorVFootNe
namespace Go.Proofs.YtlhffhhbnoikoaaDoorW.PrintWords
open Go.RowKit
end Go.Proofs.YtlhffhhbnoikoaaDoorW.PrintWords
namespace Go.Proofs.YtlhffhhbnoikoaaDoorW.PrintLast
section
variable {ops : Array Oper} {a : Act} {o og : Oper} {g : Nat} {t : Tmp} {u : Bool}
end
end Go.Proofs.YtlhffhhbnoikoaaDoorW.PrintLast
