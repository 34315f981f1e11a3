/- FrameCuts: however a stream is cut into chunks, what is given out is what Split tells of the whole, the last error is its error, and what is kept is just what stands behind. -/
import Derived.Test.YtcjlpedpiljnmaaStFrameCuts
namespace Go.Proofs.Ytcjlpedpiljnmaa.Pure
theorem FrameCuts : StFrameCuts.Pure := by
  intro a0 a1 l2 h0 h1 h2 h3
  unfold GC.rosterlaw03_FrameCuts.f
  rw [if_pos ⟨h1, h2, h3⟩]
end Go.Proofs.Ytcjlpedpiljnmaa.Pure
