-- Written for this claim by a program of this session (wip/tools/rows.py).
import Derived.Test.YtcjlpedpiljnmaaGEx1
namespace Go.Proofs.Ytcjlpedpiljnmaa.StFrameEnds
open Go.RowKit Go.Proofs.Ytcjlpedpiljnmaa.GE Go.Proofs.YtcjlpedpiljnmaaW.PrintWords
/-- THE PURE STATEMENT of roster/rosterlaw03.FrameEnds. -/
def Pure : Prop := ∀ (a0 : Int) (a1 : ByteArray) (a2 : Int) (l3 : List ByteArray), (Lit.int .i64 a0).wf = true → a1.size ≤ 1048576 → (Lit.int .i64 a2).wf = true → l3.length ≤ 1048576 → (l3.map fun x => x.size + 1).sum ≤ 1048576 → rosterlaw03_FrameEnds.f a0 a1 a2 l3 = some true
end Go.Proofs.Ytcjlpedpiljnmaa.StFrameEnds
