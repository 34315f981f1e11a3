-- Written for this claim by a program of this session (wip/tools/rows.py).
import Derived.Test.YtcjlpedpiljnmaaGJx1
namespace Go.Proofs.Ytcjlpedpiljnmaa.StFrameJoins
open Go.RowKit Go.Proofs.Ytcjlpedpiljnmaa.GJ Go.Proofs.YtcjlpedpiljnmaaW.PrintWords
def bulk58 (x : S58) : Nat := 3 + x.f1.size
def wf58 (x : S58) : Prop := (Lit.int .i64 x.f0).wf = true
/-- THE PURE STATEMENT of roster/rosterlaw03.FrameJoins. -/
def Pure : Prop := ∀ (l0 : List S58), l0.length ≤ 1048576 → (l0.map bulk58).sum ≤ 1048576 → (∀ x ∈ l0, wf58 x) → rosterlaw03_FrameJoins.f l0 = some true
end Go.Proofs.Ytcjlpedpiljnmaa.StFrameJoins
