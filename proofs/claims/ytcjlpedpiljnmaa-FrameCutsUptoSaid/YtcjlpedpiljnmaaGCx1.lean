-- Written for this claim by a program of this session (wip/tools/p2.py).
import Derived.Test.YtcjlpedpiljnmaaGCx0
import Derived.Test.YtcjlpedpiljnmaaLc
namespace Go.Proofs.Ytcjlpedpiljnmaa.GC
open Go.RowKit Go.Proofs.YtcjlpedpiljnmaaW.PrintWords Go.Proofs.YtcjlpedpiljnmaaW.PrintLast Go.Proofs.YtcjlpedpiljnmaaW.PrintMore
attribute [local go_sem] max2_int min2_int max_two min_two max_three min_three max_four min_four   -- for this text's walks alone
set_option linter.unusedVariables false
set_option linter.unusedSimpArgs false

/-! ### rosterlaw03_FrameCuts: function 10, by hand -/
-- BY HAND: Lc
def rosterlaw03_FrameCuts.f (a0 : Int) (a1 : ByteArray) (l2 : List Int) : Option Bool :=
  if a1.size ≤ 1048576 ∧ l2.length ≤ 1048576 ∧ (∀ x ∈ l2, (Lit.int .i64 x).wf = true) then some true else none
theorem rosterlaw03_FrameCuts.calls (a0 : Int) (a1 : ByteArray) (A2 : Option Addr) (c2 : Nat) (l2 : List Int) (r : Bool) (w : World) (hr2 : Kd.C (Kd.int .i64) w A2 l2.length l2) (hc2 : l2.length ≤ c2) (h : rosterlaw03_FrameCuts.f a0 a1 l2 = some r) :
    Calls Try.prog 10 #[.int .i64 a0, .string a1, .slice A2 l2.length c2] w fun e w' => e = .returned (.bool r) ∧ Below w.heap.size w w' := by
  unfold rosterlaw03_FrameCuts.f at h
  by_cases c : a1.size ≤ 1048576 ∧ l2.length ≤ 1048576 ∧ (∀ x ∈ l2, (Lit.int .i64 x).wf = true)
  · rw [if_pos c] at h
    obtain rfl := Option.some.inj h
    exact W.cuts_any a0 a1 A2 c2 l2 w hr2 hc2 c.2.2 c.1 c.2.1
  · rw [if_neg c] at h
    cases h

end Go.Proofs.Ytcjlpedpiljnmaa.GC
