-- Written for this claim by a program of this session (wip/tools/p2.py).
import Derived.Test.YtackionaiaikdaaGQx0
import Derived.Test.YtackionaiaikdaaQf
namespace Go.Proofs.Ytackionaiaikdaa.GQ
open Go.RowKit Go.Proofs.YtackionaiaikdaaW.PrintWords Go.Proofs.YtackionaiaikdaaW.PrintLast Go.Proofs.YtackionaiaikdaaW.PrintMore
attribute [local go_sem] max2_int min2_int max_two min_two max_three min_three max_four min_four   -- for this text's walks alone
set_option linter.unusedVariables false
set_option linter.unusedSimpArgs false

/-! ### filter_Equal: function 4, by hand -/
-- BY HAND: Qf
def filter_Equal.dp (x : S29) : GE.S29 := ⟨x.f0, x.f1, x.f2⟩
def filter_Equal.dn (x : S31) : GE.S31 := ⟨x.f0, x.f1, x.f2, x.f3, filter_Equal.dp x.f4, x.f5, x.f6⟩
theorem filter_Equal.map {w : World} {A : Option Addr} {n : Nat} {xs : List S31} (h : Kd.C k31 w A n xs) : Kd.C GE.k31 w A n (xs.map filter_Equal.dn) := by
  obtain ⟨h1, h2, h3⟩ := h
  refine ⟨by rw [List.length_map]; exact h1, h2, fun hn => ?_⟩
  obtain ⟨ad, e, hc⟩ := h3 hn
  refine ⟨ad, e, fun j p hj => ?_⟩
  rw [List.getElem?_map] at hj
  obtain ⟨q, hq, rfl⟩ := Option.map_eq_some_iff.1 hj
  obtain ⟨c, g1, g2, g3⟩ := hc j q hq
  exact ⟨c, g1, g2, g3⟩
def filter_Equal.f (l0 : List S31) (l1 : List S31) : Option Bool :=
  if l0.length ≤ 1048576 ∧ (l0.all fun a => decide (a.f4.f1.length ≤ 1048576)) = true then some (decide (l0.map filter_Equal.dn = l1.map filter_Equal.dn)) else none
theorem filter_Equal.calls (A0 : Option Addr) (c0 : Nat) (l0 : List S31) (A1 : Option Addr) (c1 : Nat) (l1 : List S31) (r : Bool) (w : World) (hr0 : Kd.C k31 w A0 l0.length l0) (hc0 : l0.length ≤ c0) (hr1 : Kd.C k31 w A1 l1.length l1) (hc1 : l1.length ≤ c1) (h : filter_Equal.f l0 l1 = some r) :
    Calls Try.prog 4 #[.slice A0 l0.length c0, .slice A1 l1.length c1] w fun e w' => e = .returned (.bool r) ∧ Below w.heap.size w w' := by
  unfold filter_Equal.f at h
  by_cases c : l0.length ≤ 1048576 ∧ (l0.all fun a => decide (a.f4.f1.length ≤ 1048576)) = true
  · rw [if_pos c] at h
    obtain rfl := Option.some.inj h
    have e0 : (l0.map filter_Equal.dn).length = l0.length := List.length_map _
    have e1 : (l1.map filter_Equal.dn).length = l1.length := List.length_map _
    have hq := W.Equal_any A0 c0 (l0.map filter_Equal.dn) A1 c1 (l1.map filter_Equal.dn) w (by rw [e0]; exact filter_Equal.map hr0) (by rw [e0]; exact hc0) (by rw [e1]; exact filter_Equal.map hr1) (by rw [e1]; exact hc1) (by rw [e0]; exact c.1) (by
      intro a ha
      obtain ⟨b, hb, rfl⟩ := List.mem_map.1 ha
      exact of_decide_eq_true (List.all_eq_true.1 c.2 b hb))
    rw [e0, e1] at hq
    exact hq
  · rw [if_neg c] at h
    cases h

end Go.Proofs.Ytackionaiaikdaa.GQ
