-- Words of the print, those that this claim reaches (wip/tools/pack.py).
import Derived.Test.YtbpediccbeoifaaDoorVWords
namespace Go.Proofs.YtbpediccbeoifaaDoorW.PrintWords
open Go.RowKit
section
variable {P : Program} {ops : Array Oper} {rest : List Oper} {o : Oper} {a : Act} {Q : Exit → Act → World → Prop} {W : World}
end
end Go.Proofs.YtbpediccbeoifaaDoorW.PrintWords
