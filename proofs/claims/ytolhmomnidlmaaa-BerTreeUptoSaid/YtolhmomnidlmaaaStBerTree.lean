-- Written for this claim by a program of this session (wip/tools/rows.py).
import Derived.Test.YtolhmomnidlmaaaGTx3
namespace Go.Proofs.Ytolhmomnidlmaaa.StBerTree
open Go.RowKit Go.Proofs.Ytolhmomnidlmaaa.GT Go.Proofs.YtolhmomnidlmaaaW.PrintWords
/-- THE PURE STATEMENT of roster/rosterlaw02.BerTree. -/
def Pure : Prop := ∀ (a0 : ByteArray), a0.size ≤ 1048576 → ∃ k, rosterlaw02_BerTree.f k a0 = some true
end Go.Proofs.Ytolhmomnidlmaaa.StBerTree
