-- Written for this claim by a program of this session (wip/tools/rows.py).
import Derived.Test.YtcjlpedpiljnmaaGMx1
namespace Go.Proofs.Ytcjlpedpiljnmaa.StFrameEnough
open Go.RowKit Go.Proofs.Ytcjlpedpiljnmaa.GM Go.Proofs.YtcjlpedpiljnmaaW.PrintWords
/-- THE PURE STATEMENT of roster/rosterlaw03.FrameEnough. -/
def Pure : Prop := ∀ (a0 : Int) (a1 : ByteArray) (a2 : ByteArray), (Lit.int .i64 a0).wf = true → a1.size ≤ 1048576 → a2.size ≤ 1048576 → ∃ k, rosterlaw03_FrameEnough.f k a0 a1 a2 = some true
end Go.Proofs.Ytcjlpedpiljnmaa.StFrameEnough
