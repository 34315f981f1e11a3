/- FrameNeeds: for every limit and every text of at most 140737488351232 bytes frame.Need of each front is the document's. -/
import Derived.Test.YtcjlpedpiljnmaaGNx2
import Derived.Test.YtcjlpedpiljnmaaFN
namespace Go.Proofs.Ytcjlpedpiljnmaa.Pure
open Go.RowKit Go.Proofs.Ytcjlpedpiljnmaa.GN Go.Proofs.YtcjlpedpiljnmaaW.PrintWords Go.Proofs.YtcjlpedpiljnmaaW.PrintLast
set_option linter.unusedVariables false
set_option linter.unusedSimpArgs false

theorem front_loop (limit : Int) (b : ByteArray) (hb : b.size ≤ 140737488351232) (n : Nat) : ∀ i : Int, 0 ≤ i → i ≤ b.size + 1 → (b.size + 1 - i).toNat = n →
    Ev (fun k => rosterlaw03_FrameNeeds.l0 k limit b i) true := by
  induction n with
  | zero =>
    intro i h0 h1 hn
    refine Ev.step (f := fun k => rosterlaw03_FrameNeeds.j1 k limit b i false) (fun k => by rw [rosterlaw03_FrameNeeds.l0, if_neg (by omega)]) ?_
    refine Ev.step (f := fun k => (rosterref03_Need.f k limit b).bind fun t115 => some (W.needS limit b == t115)) (fun k => ?_) ?_
    · rw [rosterlaw03_FrameNeeds.j1, if_neg (by simp), W.need_f limit b hb, Option.bind_some]
    · exact Ev.bind (W.rneed_ev limit b hb) (Ev.congr (f := fun _ => some true) (fun k => by simp) (Ev.now _))
  | succ n ih =>
    intro i h0 h1 hn
    refine Ev.step (f := fun k => rosterlaw03_FrameNeeds.j1 k limit b i (decide (i ≤ 300))) (fun k => by rw [rosterlaw03_FrameNeeds.l0, if_pos (by omega)]) ?_
    by_cases c : i ≤ 300
    · have hz : (b.extract 0 i.toNat).size ≤ 140737488351232 := by simp; omega
      refine Ev.step (f := fun k => (rosterref03_Need.f k limit (b.extract 0 i.toNat)).bind fun t117 => if W.needS limit (b.extract 0 i.toNat) = t117 then rosterlaw03_FrameNeeds.l0 k limit b (wrap64 (i + 1)) else some false) (fun k => ?_) ?_
      · rw [rosterlaw03_FrameNeeds.j1, if_pos (by simpa using c), if_pos h0, if_pos (by omega), W.need_f limit _ hz, Option.bind_some]
      · refine Ev.bind (W.rneed_ev limit _ hz) ?_
        refine Ev.congr (f := fun k => rosterlaw03_FrameNeeds.l0 k limit b (i + 1)) (fun k => by rw [if_pos rfl, W.wr _ (by omega) (by omega)]) ?_
        exact ih (i + 1) (by omega) (by omega) (by omega)
    · refine Ev.step (f := fun k => (rosterref03_Need.f k limit b).bind fun t115 => some (W.needS limit b == t115)) (fun k => ?_) ?_
      · rw [rosterlaw03_FrameNeeds.j1, if_neg (by simpa using c), W.need_f limit b hb, Option.bind_some]
      · exact Ev.bind (W.rneed_ev limit b hb) (Ev.congr (f := fun _ => some true) (fun k => by simp) (Ev.now _))

theorem FrameNeeds : rosterlaw03_FrameNeeds.Pure := by
  intro limit b w0 hb
  refine Ev.rounds (g := fun k => rosterlaw03_FrameNeeds.f k limit b) ?_
  have e : W.needS limit (⟨#[]⟩ : ByteArray) = 2 := rfl
  refine Ev.congr (f := fun k => rosterlaw03_FrameNeeds.l0 k limit b 0) (fun k => ?_) (front_loop limit b hb _ 0 (by omega) (by omega) rfl)
  unfold rosterlaw03_FrameNeeds.f
  rw [W.need_f limit _ (by decide), e]
  rfl
end Go.Proofs.Ytcjlpedpiljnmaa.Pure
