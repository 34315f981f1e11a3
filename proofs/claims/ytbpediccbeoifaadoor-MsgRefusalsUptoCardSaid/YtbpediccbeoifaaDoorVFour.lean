-- Words of the print, those that this claim reaches (wip/tools/pack.py).
import Derived.Test.YtbpediccbeoifaaDoorVTab
namespace Go.Proofs.YtbpediccbeoifaaDoorW.PrintLast
section
variable {P : Program} {ops : Array Oper} {Q : Exit → Act → World → Prop} {md : Region.Mode} {S : World → Prop} {ds : List Nat} {T : Bool × List (List Nat × List Nat)}
end
end Go.Proofs.YtbpediccbeoifaaDoorW.PrintLast
