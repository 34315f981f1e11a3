-- Written for this claim by a program of this session (wip/tools/p2.py).
import Derived.Test.YtcjlpedpiljnmaaGJx0
import Derived.Test.YtcjlpedpiljnmaaLj
namespace Go.Proofs.Ytcjlpedpiljnmaa.GJ
open Go.RowKit Go.Proofs.YtcjlpedpiljnmaaW.PrintWords Go.Proofs.YtcjlpedpiljnmaaW.PrintLast Go.Proofs.YtcjlpedpiljnmaaW.PrintMore
attribute [local go_sem] max2_int min2_int max_two min_two max_three min_three max_four min_four   -- for this text's walks alone
set_option linter.unusedVariables false
set_option linter.unusedSimpArgs false

/-! ### rosterlaw03_FrameJoins: function 11, by hand -/
-- BY HAND: Lj
def rosterlaw03_FrameJoins.dn (x : S58) : Int × ByteArray := (x.f0, x.f1)
def rosterlaw03_FrameJoins.f (l0 : List S58) : Option Bool :=
  if l0.length ≤ 1048576 ∧ (W.joinL ((l0.map rosterlaw03_FrameJoins.dn).map W.msgOf)).size ≤ 16777216 then some true else none
theorem rosterlaw03_FrameJoins.calls (A0 : Option Addr) (c0 : Nat) (l0 : List S58) (r : Bool) (w : World) (hr0 : Kd.C k58 w A0 l0.length l0) (hc0 : l0.length ≤ c0) (h : rosterlaw03_FrameJoins.f l0 = some r) :
    Calls Try.prog 11 #[.slice A0 l0.length c0] w fun e w' => e = .returned (.bool r) ∧ Below w.heap.size w w' := by
  unfold rosterlaw03_FrameJoins.f at h
  by_cases c : l0.length ≤ 1048576 ∧ (W.joinL ((l0.map rosterlaw03_FrameJoins.dn).map W.msgOf)).size ≤ 16777216
  · rw [if_pos c] at h
    obtain rfl := Option.some.inj h
    have hl : (l0.map rosterlaw03_FrameJoins.dn).length = l0.length := List.length_map _
    have hC := W.C_iso (d := W.kBody) (f := rosterlaw03_FrameJoins.dn) hr0
    have hq := W.joins_any A0 c0 (l0.map rosterlaw03_FrameJoins.dn) w (by rw [hl]; exact hC) (by rw [hl]; exact hc0) (by rw [hl]; exact c.1) c.2
    rw [hl] at hq
    exact hq
  · rw [if_neg c] at h
    cases h

end Go.Proofs.Ytcjlpedpiljnmaa.GJ
