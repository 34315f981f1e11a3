/- BerIntBack: every number comes back of its content, which has one to eight bytes; other numbers have other contents; the first bit tells a number below 0. -/
import Derived.Test.YtolhmomnidlmaaaGIx1
import Derived.Test.YtolhmomnidlmaaaIp
namespace Go.Proofs.Ytolhmomnidlmaaa.Pure
open Go.RowKit Go.Proofs.Ytolhmomnidlmaaa.GI Go.Proofs.YtolhmomnidlmaaaW.PrintWords Go.Proofs.YtolhmomnidlmaaaW.PrintLast
set_option linter.unusedVariables false
set_option linter.unusedSimpArgs false

theorem BerIntBack : rosterlaw02_BerIntBack.Pure := by
  intro n m hn hm
  have hn := W.i64_of hn
  have hm := W.i64_of hm
  obtain ⟨r1, r2, r3, r4⟩ := W.int_put n hn.1 hn.2
  obtain ⟨q1, q2, q3, q4⟩ := W.int_put m hm.1 hm.2
  refine ⟨1, ?_⟩
  unfold rosterlaw02_BerIntBack.f ber_PutInt.f ber_Int.f
  rw [if_pos hn, Option.bind_some, r1, Option.bind_some, if_pos rfl, if_pos rfl, if_neg (by omega)]
  have e1 : decide (((W.putS n).size : Int) > 8) = false := by simp; omega
  rw [e1, rosterlaw02_BerIntBack.j0, if_neg (by simp), if_pos (by omega)]
  have e2 : ((decide ((bt (W.putS n) 0) ≥ 128)) != (decide (n < 0))) = false := by
    have e : bt (W.putS n) 0 = W.byt (W.putS n) 0 := rfl
    rw [e]
    by_cases h : n < 0
    · have := r4.2 h
      simp [h, this]
    · have : ¬ 128 ≤ W.byt (W.putS n) 0 := fun z => h (r4.1 z)
      simp [h]
      omega
  rw [e2, if_neg (by simp)]
  unfold ber_PutInt.f
  rw [if_pos hm, Option.bind_some]
  congr 1
  by_cases h : n = m
  · subst h; simp
  · have h2 : W.putS n ≠ W.putS m := by
      intro e
      rw [e, q1] at r1
      exact h (Prod.mk.inj r1).1.symm
    have h3 : ¬ (W.putS n).toList = (W.putS m).toList := fun e => h2 (W.toList_inj.1 e)
    rw [beq_eq_false_iff_ne.2 h3, beq_eq_false_iff_ne.2 h]
    rfl
end Go.Proofs.Ytolhmomnidlmaaa.Pure
