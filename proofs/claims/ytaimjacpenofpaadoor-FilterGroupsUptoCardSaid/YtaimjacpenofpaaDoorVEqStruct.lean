-- Words of the print, those that this claim reaches (wip/tools/pack.py).
import Derived.Test.YtaimjacpenofpaaDoorVWords
import Derived.Laws.StructEq
namespace Go.Proofs.YtaimjacpenofpaaDoorW.PrintWords
open Go.RowKit
section
variable {P : Program} {d : Nat} {xs ys : Array Value} {f : Field} {fs : List Field} {a b : Value} {r s : Bool} {w : World}
end
end Go.Proofs.YtaimjacpenofpaaDoorW.PrintWords
