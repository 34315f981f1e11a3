-- Written for this claim by a program of this session (wip/tools/rows.py).
import Derived.Test.YtolhmomnidlmaaaGTx4
namespace Go.Proofs.Ytolhmomnidlmaaa.StBerNest
open Go.RowKit Go.Proofs.Ytolhmomnidlmaaa.GT Go.Proofs.YtolhmomnidlmaaaW.PrintWords
/-- THE PURE STATEMENT of roster/rosterlaw02.BerNest. -/
def Pure : Prop := ∀ (a0 : ByteArray) (a1 : Int) (a2 : Int), a0.size ≤ 1048576 → (Lit.int .i64 a1).wf = true → (Lit.int .i64 a2).wf = true → ∃ k, rosterlaw02_BerNest.f k a0 a1 a2 = some true
end Go.Proofs.Ytolhmomnidlmaaa.StBerNest
