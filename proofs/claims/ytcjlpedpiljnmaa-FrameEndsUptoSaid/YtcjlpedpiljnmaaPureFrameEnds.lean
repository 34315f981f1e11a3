/- FrameEnds: behind a message that is taken a wrong first byte refuses the stream at once and for good; nothing is given out or kept then. -/
import Derived.Test.YtcjlpedpiljnmaaStFrameEnds
namespace Go.Proofs.Ytcjlpedpiljnmaa.Pure
theorem size_of_sum {l : List ByteArray} {N : Nat} (h : (l.map fun x => x.size + 1).sum ≤ N) : ∀ x ∈ l, x.size ≤ N := by
  induction l with
  | nil => intro x hx; cases hx
  | cons y l ih =>
    intro x hx
    simp only [List.map_cons, List.sum_cons] at h
    rcases List.mem_cons.1 hx with rfl | hx
    · omega
    · exact ih (by omega) x hx
theorem FrameEnds : StFrameEnds.Pure := by
  intro a0 a1 a2 l3 h0 h1 h2 h3 h4
  unfold GE.rosterlaw03_FrameEnds.f
  rw [if_pos ⟨h2, h1, h3, size_of_sum h4⟩]
end Go.Proofs.Ytcjlpedpiljnmaa.Pure
