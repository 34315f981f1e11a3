/- BerTree: for every text (of at most 1048576 bytes) ber.Tree answers the tree, or the error and its place, as the document's does. -/
import Derived.Test.YtolhmomnidlmaaaStBerTree
namespace Go.Proofs.Ytolhmomnidlmaaa.Pure
open Go.RowKit Go.Proofs.Ytolhmomnidlmaaa.GT Go.Proofs.YtolhmomnidlmaaaW.PrintWords Go.Proofs.YtolhmomnidlmaaaW.PrintLast
set_option linter.unusedVariables false
set_option linter.unusedSimpArgs false

theorem sameN_loop (l : List S49) (hl : l.length ≤ 1000000000) : ∀ (m i : Nat), i + m = l.length → rosterlaw02_sameNodes.l0 (m + 1) l l i = some true := by
  intro m
  induction m with
  | zero => intro i h; rw [rosterlaw02_sameNodes.l0, if_neg (by omega)]
  | succ m ih =>
    intro i h
    have e : wrap64 ((i : Int) + 1) = ((i + 1 : Nat) : Int) := by unfold wrap64; omega
    rw [rosterlaw02_sameNodes.l0, if_pos (by omega), if_pos (by omega), if_pos (by omega), if_neg (by simp), e]
    exact ih (i + 1) (by omega)
theorem sameN_f (l : List S49) (hl : l.length ≤ 1000000000) : rosterlaw02_sameNodes.f (l.length + 1) l l = some true := by
  unfold rosterlaw02_sameNodes.f
  rw [if_pos rfl]
  exact sameN_loop l hl l.length 0 (by omega)
theorem tree_len (s : ByteArray) (hs : s.size ≤ 4194304) : (W.treeS s).1.length ≤ 1000000000 := by
  unfold W.treeS
  obtain ⟨l, hl⟩ : ∃ l, (W.walkS s).1 = l := ⟨_, rfl⟩
  cases hr : (W.walkS s).2 with
  | error x =>
    have e : W.walkS s = (l, .error x) := by rw [← hl, ← hr]
    rw [e]
    simp [W.treeR]
  | ok q =>
    have e : W.walkS s = (l, .ok q) := by rw [← hl, ← hr]
    have ho := (W.elem_ok s (2 * s.size + 1)).1 0 s.size 1 q hr
    have hl' : (W.elemF s (2 * s.size + 1) 0 s.size 1).1 = l := hl
    rw [hl'] at ho
    rw [e]
    simp only [W.treeR]
    split
    · simp
    · simp only [List.length_map]; omega
theorem BerTree : StBerTree.Pure := by
  intro s hs
  refine ⟨(W.treeS s).1.length + 1, ?_⟩
  unfold rosterlaw02_BerTree.f ber_Tree.f rosterref02_Tree.f
  simp only [if_pos (show s.size ≤ 2097152 by omega), Option.bind_some]
  have e : (W.treeS s).1.map ber_Tree.up = (W.treeS s).1.map rosterref02_Tree.up := rfl
  rw [e]
  have h := sameN_f ((W.treeS s).1.map rosterref02_Tree.up) (by rw [List.length_map]; exact tree_len s (by omega))
  rw [List.length_map] at h
  rw [h]
  simp
end Go.Proofs.Ytolhmomnidlmaaa.Pure
