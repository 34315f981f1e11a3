/- BerSplit: for every text (of at most 1048576 bytes) ber.Split answers the elements, or the error and its place, as the document's does. -/
import Derived.Test.YtolhmomnidlmaaaStBerSplit
namespace Go.Proofs.Ytolhmomnidlmaaa.Pure
open Go.RowKit Go.Proofs.Ytolhmomnidlmaaa.GT Go.Proofs.YtolhmomnidlmaaaW.PrintWords Go.Proofs.YtolhmomnidlmaaaW.PrintLast
set_option linter.unusedVariables false
set_option linter.unusedSimpArgs false

theorem same_loop (l : List S35) (hl : l.length ≤ 1000000000) : ∀ (m i : Nat), i + m = l.length → rosterlaw02_sameElems.l0 (m + 1) l l i = some true := by
  intro m
  induction m with
  | zero => intro i h; rw [rosterlaw02_sameElems.l0, if_neg (by omega)]
  | succ m ih =>
    intro i h
    have e : wrap64 ((i : Int) + 1) = ((i + 1 : Nat) : Int) := by unfold wrap64; omega
    rw [rosterlaw02_sameElems.l0, if_pos (by omega), if_pos (by omega), if_pos (by omega), if_neg (by simp), e]
    exact ih (i + 1) (by omega)
theorem same_f (l : List S35) (hl : l.length ≤ 1000000000) : rosterlaw02_sameElems.f (l.length + 1) l l = some true := by
  unfold rosterlaw02_sameElems.f
  rw [if_pos rfl]
  exact same_loop l hl l.length 0 (by omega)
theorem split_len (s : ByteArray) (hs : s.size ≤ 4194304) : (W.splitS s).1.length ≤ 1000000000 := by
  have h : ∀ n p, (W.splitN s n p).1.length ≤ n := by
    intro n
    induction n with
    | zero => intro p; simp [W.splitN]
    | succ n ih =>
      intro p
      rw [W.splitN]
      by_cases c : p < (s.size : Int)
      · rw [if_pos c]
        cases W.bnd s p s.size 1 with
        | error x => simp
        | ok k => simp; exact ih _
      · rw [if_neg c]; simp
  have := h (s.size + 1) 0
  have e : W.splitS s = W.splitR (W.splitN s (s.size + 1) 0) := rfl
  rw [e]
  cases hr : W.splitN s (s.size + 1) 0 with
  | mk l r =>
    rw [hr] at this
    cases r with
    | none => simp only [W.splitR]; simp only at this; omega
    | some x => simp [W.splitR]
theorem BerSplit : StBerSplit.Pure := by
  intro s hs
  refine ⟨(W.splitS s).1.length + 1, ?_⟩
  unfold rosterlaw02_BerSplit.f ber_Split.f rosterref02_Split.f
  simp only [if_pos (show s.size ≤ 4194304 by omega), Option.bind_some]
  have e : (W.splitS s).1.map ber_Split.up = (W.splitS s).1.map rosterref02_Split.up := rfl
  rw [e]
  have h := same_f ((W.splitS s).1.map rosterref02_Split.up) (by rw [List.length_map]; exact split_len s (by omega))
  rw [List.length_map] at h
  rw [h]
  simp
end Go.Proofs.Ytolhmomnidlmaaa.Pure
