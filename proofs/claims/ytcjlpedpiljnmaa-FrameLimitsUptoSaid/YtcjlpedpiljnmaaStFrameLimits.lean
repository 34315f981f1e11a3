-- Written for this claim by a program of this session (wip/tools/rows.py).
import Derived.Test.YtcjlpedpiljnmaaGMx3
namespace Go.Proofs.Ytcjlpedpiljnmaa.StFrameLimits
open Go.RowKit Go.Proofs.Ytcjlpedpiljnmaa.GM Go.Proofs.YtcjlpedpiljnmaaW.PrintWords
/-- THE PURE STATEMENT of roster/rosterlaw03.FrameLimits. -/
def Pure : Prop := ∀ (a0 : Int) (a1 : ByteArray) (a2 : Int), (Lit.int .i64 a0).wf = true → a1.size ≤ 1048576 → (Lit.int .i64 a2).wf = true → ∃ k, rosterlaw03_FrameLimits.f k a0 a1 a2 = some true
end Go.Proofs.Ytcjlpedpiljnmaa.StFrameLimits
