-- Words of the print, those that this claim reaches (wip/tools/pack.py).
import Derived.Test.YtbpediccbeoifaaDoorVFootNe
namespace Go.Proofs.YtbpediccbeoifaaDoorW.PrintWords
open Go.RowKit
section
variable {w w' u : World} {m B g : Nat} {o : Obj} {row : Option Nat} {S : Nat → Prop} {a : Addr} {v : Value}
end
namespace Kd
section
variable {α : Type} {d : Kd α} {e base n m : Nat} {ok : Nat → Prop} {w w' : World} {v : Value} {A : Option Addr} {xs : List α}
theorem C_at (hq : w.drewN m = w') (h : d.C w A n xs) : d.C w' A n xs := by subst hq; exact C_drewN h m
theorem F_at (hq : w.drewN m = w') (h : F d w ok A n xs) : F d w' ok A n xs := by subst hq; exact F_drewN h m
end
end Kd
end Go.Proofs.YtbpediccbeoifaaDoorW.PrintWords
