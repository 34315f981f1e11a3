/- BerHead: for every text of at most 140737488351232 bytes ber.Head and the document's reader tell the same header and the same error. -/
import Derived.Test.YtolhmomnidlmaaaGHx2
import Derived.Test.YtolhmomnidlmaaaHdd
namespace Go.Proofs.Ytolhmomnidlmaaa.Pure
open Go.RowKit Go.Proofs.Ytolhmomnidlmaaa.GH Go.Proofs.YtolhmomnidlmaaaW.PrintWords Go.Proofs.YtolhmomnidlmaaaW.PrintLast
set_option linter.unusedVariables false
set_option linter.unusedSimpArgs false

theorem BerHead : rosterlaw02_BerHead.Pure := by
  intro a0 w0
  have k : W.headR a0 = ((W.refOf a0 0 a0.size).1, if (W.refOf a0 0 a0.size).2.1 = -1 then 20 else (W.refOf a0 0 a0.size).2.1) := by
    unfold W.headR W.refOf
    rw [W.hdr_as a0 0 a0.size 1 (by omega)]
    cases h : W.hdr a0 0 a0.size 2 with
    | ok h => simp
    | error x =>
      obtain ⟨c, q⟩ := x
      have hc := W.hdr_code h
      simp only [W.miss]
      rcases hc with rfl | rfl | rfl | rfl <;> simp [W.hd0]
  have z : (W.refOf a0 0 a0.size).2.1 = -1 → (W.refOf a0 0 a0.size).1 = ⟨0, false, 0, 0, 0⟩ := by
    unfold W.refOf
    cases h : W.hdr a0 0 a0.size 2 with
    | ok h => simp
    | error x => simp
  unfold rosterlaw02_BerHead.f ber_Head.f rosterref02_Head.f rosterref02_headAt.f
  rw [if_pos w0, if_pos ⟨by omega, by omega, w0⟩, k]
  generalize W.refOf a0 0 a0.size = r at z ⊢
  by_cases hm : r.2.1 = -1
  · simp [hm, z hm]
  · simp [hm]
end Go.Proofs.Ytolhmomnidlmaaa.Pure
