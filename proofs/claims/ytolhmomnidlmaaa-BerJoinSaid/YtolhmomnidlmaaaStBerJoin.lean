-- Written for this claim by a program of this session (wip/tools/rows.py).
import Derived.Test.YtolhmomnidlmaaaGJx1
namespace Go.Proofs.Ytolhmomnidlmaaa.StBerJoin
open Go.RowKit Go.Proofs.Ytolhmomnidlmaaa.GJ Go.Proofs.YtolhmomnidlmaaaW.PrintWords
/-- THE PURE STATEMENT of roster/rosterlaw02.BerJoin. -/
def Pure : Prop := ∀ (a0_0 : Int) (a0_1 : Bool) (a0_2 : Int) (a0_3 : ByteArray), (Lit.int .i64 a0_0).wf = true → (Lit.int .i64 a0_2).wf = true → a0_3.size ≤ 9223372036854775807 → ∃ k, rosterlaw02_BerJoin.f k a0_0 a0_1 a0_2 a0_3 = some true
end Go.Proofs.Ytolhmomnidlmaaa.StBerJoin
