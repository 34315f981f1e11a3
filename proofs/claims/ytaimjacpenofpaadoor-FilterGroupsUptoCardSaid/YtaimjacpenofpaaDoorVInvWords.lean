-- Words of the print, those that this claim reaches (wip/tools/pack.py).
import Derived.Test.YtaimjacpenofpaaDoorVInv
import Derived.Test.YtaimjacpenofpaaDoorVFootNe
namespace Go.Proofs.YtaimjacpenofpaaDoorW.PrintWords
open Go.RowKit
end Go.Proofs.YtaimjacpenofpaaDoorW.PrintWords
namespace Go.Proofs.YtaimjacpenofpaaDoorW.PrintLast
section
variable {ops : Array Oper} {a : Act} {o og : Oper} {g : Nat} {t : Tmp} {u : Bool}
end
end Go.Proofs.YtaimjacpenofpaaDoorW.PrintLast
