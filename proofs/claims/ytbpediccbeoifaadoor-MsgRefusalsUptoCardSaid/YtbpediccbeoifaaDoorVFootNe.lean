-- Words of the print, those that this claim reaches (wip/tools/pack.py).
import Derived.Test.YtbpediccbeoifaaDoorVN
namespace Go.Proofs.YtbpediccbeoifaaDoorW.PrintWords
open Go.RowKit
namespace Kd
section
variable {α : Type} {d : Kd α} {W : World} {g n : Nat} {S ok : Nat → Prop} {A : Option Addr} {ad : Addr} {xs : List α}
end
end Kd
end Go.Proofs.YtbpediccbeoifaaDoorW.PrintWords
