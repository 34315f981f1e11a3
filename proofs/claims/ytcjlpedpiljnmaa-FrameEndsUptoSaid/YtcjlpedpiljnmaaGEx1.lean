-- Written for this claim by a program of this session (wip/tools/p2.py).
import Derived.Test.YtcjlpedpiljnmaaGEx0
import Derived.Test.YtcjlpedpiljnmaaLe
namespace Go.Proofs.Ytcjlpedpiljnmaa.GE
open Go.RowKit Go.Proofs.YtcjlpedpiljnmaaW.PrintWords Go.Proofs.YtcjlpedpiljnmaaW.PrintLast Go.Proofs.YtcjlpedpiljnmaaW.PrintMore
attribute [local go_sem] max2_int min2_int max_two min_two max_three min_three max_four min_four   -- for this text's walks alone
set_option linter.unusedVariables false
set_option linter.unusedSimpArgs false

/-! ### rosterlaw03_FrameEnds: function 8, by hand -/
-- BY HAND: Le
def rosterlaw03_FrameEnds.f (a0 : Int) (a1 : ByteArray) (a2 : Int) (l3 : List ByteArray) : Option Bool :=
  if (Lit.int .i64 a2).wf = true ∧ a1.size ≤ 1048576 ∧ l3.length ≤ 1048576 ∧ (∀ x ∈ l3, x.size ≤ 1048576) then some true else none
theorem rosterlaw03_FrameEnds.calls (a0 : Int) (a1 : ByteArray) (a2 : Int) (A3 : Option Addr) (c3 : Nat) (l3 : List ByteArray) (r : Bool) (w : World) (hr3 : Kd.C Kd.string w A3 l3.length l3) (hc3 : l3.length ≤ c3) (h : rosterlaw03_FrameEnds.f a0 a1 a2 l3 = some r) :
    Calls Try.prog 8 #[.int .i64 a0, .string a1, .int .i64 a2, .slice A3 l3.length c3] w fun e w' => e = .returned (.bool r) ∧ Below w.heap.size w w' := by
  unfold rosterlaw03_FrameEnds.f at h
  by_cases c : (Lit.int .i64 a2).wf = true ∧ a1.size ≤ 1048576 ∧ l3.length ≤ 1048576 ∧ (∀ x ∈ l3, x.size ≤ 1048576)
  · rw [if_pos c] at h
    obtain rfl := Option.some.inj h
    exact W.ends_any a0 a1 a2 A3 c3 l3 w hr3 hc3 c.1 c.2.1 c.2.2.1 c.2.2.2
  · rw [if_neg c] at h
    cases h

end Go.Proofs.Ytcjlpedpiljnmaa.GE
