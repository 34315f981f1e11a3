/- BerJoin: of every element ber.Join and the document's writer answer the same bytes and the same error. -/
import Derived.Test.YtolhmomnidlmaaaStBerJoin
import Derived.Test.YtolhmomnidlmaaaHj
namespace Go.Proofs.Ytolhmomnidlmaaa.Pure
open Go.RowKit Go.Proofs.Ytolhmomnidlmaaa.GJ Go.Proofs.YtolhmomnidlmaaaW.PrintWords
set_option linter.unusedVariables false
set_option linter.unusedSimpArgs false

theorem fine_named (cls tag : Int) : rosterref02_fine.f cls tag = some (W.namedB cls tag) := by
  unfold rosterref02_fine.f W.namedB
  by_cases h0 : 0 ≤ cls <;> by_cases h1 : cls ≤ 3 <;> by_cases h2 : 0 ≤ tag <;> by_cases h3 : tag ≤ 30 <;> simp [h0, h1, h2, h3] <;> omega

theorem BerJoin : StBerJoin.Pure := by
  intro cls made tag body w0 w1 w2
  refine ⟨40, ?_⟩
  unfold rosterlaw02_BerJoin.f ber_Join.f rosterref02_Join.f W.joinR
  rw [fine_named]
  cases hn : W.namedB cls tag with
  | false => simp
  | true =>
    have hb : (0 ≤ cls ∧ cls ≤ 3) ∧ 0 ≤ tag ∧ tag ≤ 30 := by
      unfold W.namedB at hn
      simp at hn
      omega
    by_cases hz : body.size ≤ 4294967295
    · have hz' : ¬ ((body.size : Int) > 4294967295) := by omega
      have hs := W.strOfNums_size (W.firstOf cls made tag :: W.lenNums body.size)
      have hl : (W.firstOf cls made tag :: W.lenNums (body.size : Int)).length ≤ 6 := by
        unfold W.lenNums
        repeat' split
        all_goals simp
      have hq : (strOfNums (W.firstOf cls made tag :: W.lenNums (body.size : Int))).size + body.size ≤ 9223372036854775807 := by omega
      simp only [Option.bind_some, if_true, if_pos hz, if_neg hz', W.header_f cls tag body.size made hb.1.1 hb.1.2 hb.2.1 hb.2.2 (by omega) (by omega), if_pos hq]
      simp [W.layS]
    · have hz' : (body.size : Int) > 4294967295 := by omega
      simp [if_neg hz, if_pos hz']
end Go.Proofs.Ytolhmomnidlmaaa.Pure
