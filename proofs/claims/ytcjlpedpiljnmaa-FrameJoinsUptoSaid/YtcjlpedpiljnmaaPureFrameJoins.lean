/- FrameJoins: messages laid end to end, under headers of every form, come back as they are, by Split and byte by byte; Need is 1 ahead of the byte that ends one; what is kept stays below the limit. -/
import Derived.Test.YtcjlpedpiljnmaaStFrameJoins
namespace Go.Proofs.Ytcjlpedpiljnmaa.Pure
open Go.Proofs.Ytcjlpedpiljnmaa.GJ
theorem sum_two (l : List S58) : ((l.map rosterlaw03_FrameJoins.dn).map fun x => x.2.size + 6).sum ≤ 2 * (l.map StFrameJoins.bulk58).sum := by
  induction l with
  | nil => exact Nat.le_refl _
  | cons x l ih =>
    have h : (rosterlaw03_FrameJoins.dn x).2.size + 6 ≤ 2 * StFrameJoins.bulk58 x := by
      show x.f1.size + 6 ≤ 2 * StFrameJoins.bulk58 x
      unfold StFrameJoins.bulk58
      omega
    rw [List.map_cons, List.map_cons, List.sum_cons, List.map_cons, List.sum_cons]
    omega
theorem FrameJoins : StFrameJoins.Pure := by
  intro l h1 h2 h3
  unfold rosterlaw03_FrameJoins.f
  have a := W.joins_size (l.map rosterlaw03_FrameJoins.dn)
  have b := sum_two l
  rw [if_pos ⟨h1, by omega⟩]
end Go.Proofs.Ytcjlpedpiljnmaa.Pure
