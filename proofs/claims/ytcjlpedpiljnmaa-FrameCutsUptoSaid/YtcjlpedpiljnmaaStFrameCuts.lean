-- Written for this claim by a program of this session (wip/tools/rows.py).
import Derived.Test.YtcjlpedpiljnmaaGCx1
namespace Go.Proofs.Ytcjlpedpiljnmaa.StFrameCuts
open Go.RowKit Go.Proofs.Ytcjlpedpiljnmaa.GC Go.Proofs.YtcjlpedpiljnmaaW.PrintWords
/-- THE PURE STATEMENT of roster/rosterlaw03.FrameCuts. -/
def Pure : Prop := ∀ (a0 : Int) (a1 : ByteArray) (l2 : List Int), (Lit.int .i64 a0).wf = true → a1.size ≤ 1048576 → l2.length ≤ 1048576 → (∀ x ∈ l2, (Lit.int .i64 x).wf = true) → rosterlaw03_FrameCuts.f a0 a1 l2 = some true
end Go.Proofs.Ytcjlpedpiljnmaa.StFrameCuts
