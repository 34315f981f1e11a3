-- Written for this claim by a program of this session (wip/tools/rows.py).
import Derived.Test.YtolhmomnidlmaaaGTx3
namespace Go.Proofs.Ytolhmomnidlmaaa.StBerSplit
open Go.RowKit Go.Proofs.Ytolhmomnidlmaaa.GT Go.Proofs.YtolhmomnidlmaaaW.PrintWords
/-- THE PURE STATEMENT of roster/rosterlaw02.BerSplit. -/
def Pure : Prop := ∀ (a0 : ByteArray), a0.size ≤ 1048576 → ∃ k, rosterlaw02_BerSplit.f k a0 = some true
end Go.Proofs.Ytolhmomnidlmaaa.StBerSplit
