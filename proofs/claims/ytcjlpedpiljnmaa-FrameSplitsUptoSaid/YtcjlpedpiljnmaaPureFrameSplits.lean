/- FrameSplits: for every limit and every stream (of bulk at most 1048576) frame.Split answers as the document's; two shortest messages are two. -/
import Derived.Test.YtcjlpedpiljnmaaStFrameSplits
import Derived.Test.YtcjlpedpiljnmaaFRs
namespace Go.Proofs.Ytcjlpedpiljnmaa.Pure
open Go.RowKit Go.Proofs.Ytcjlpedpiljnmaa.GM Go.Proofs.YtcjlpedpiljnmaaW.PrintWords Go.Proofs.YtcjlpedpiljnmaaW.PrintLast
set_option linter.unusedVariables false
set_option linter.unusedSimpArgs false

theorem same_loop (l : List ByteArray) (hl : l.length ≤ 1000000000) : ∀ (m i : Nat), i + m = l.length → rosterlaw03_same.l0 (m + 1) l l i = some true := by
  intro m
  induction m with
  | zero => intro i h; rw [rosterlaw03_same.l0, if_neg (by omega)]
  | succ m ih =>
    intro i h
    have e : wrap64 ((i : Int) + 1) = ((i + 1 : Nat) : Int) := by unfold wrap64; omega
    rw [rosterlaw03_same.l0, if_pos (by omega), if_pos (by omega), if_pos (by omega), if_pos rfl, e]
    exact ih (i + 1) (by omega)
theorem same_f (l : List ByteArray) (hl : l.length ≤ 1000000000) : rosterlaw03_same.f (l.length + 1) l l = some true := by
  unfold rosterlaw03_same.f
  rw [if_pos rfl]
  exact same_loop l hl l.length 0 (by omega)
theorem cutN_len (limit : Int) (s : ByteArray) : ∀ n p, (W.cutN limit s n p).1.length ≤ n := by
  intro n
  induction n with
  | zero => intro p; simp [W.cutN]
  | succ n ih =>
    intro p
    rw [W.cutN]
    repeat' split
    all_goals simp
    exact ih _
theorem look_30 (limit : Int) (b : ByteArray) (h : 2 ≤ b.size) (h0 : W.byt b 0 = 48) (h1 : W.byt b 1 = 0) : W.lookS limit b = if limit < 2 then (0, 0, 33) else (2, 0, 0) := by
  unfold W.lookS
  rw [if_neg (by omega), if_neg (by omega), if_neg (by omega), if_neg (by omega), if_neg (by omega), if_pos (by omega), h1]
  rfl
theorem two_f (limit : Int) : rosterlaw03_splitsTwo.f limit = some true := by
  obtain ⟨s, hs⟩ : ∃ s : ByteArray, s = ⟨#[48, 0, 48, 0, 48]⟩ := ⟨_, rfl⟩
  have z : s.size = 5 := by rw [hs]; rfl
  have e0 : s.extract 0 s.size = ⟨#[48, 0, 48, 0, 48]⟩ := by rw [hs]; decide
  have e2 : s.extract 2 s.size = ⟨#[48, 0, 48]⟩ := by rw [hs]; decide
  have e4 : s.extract 4 s.size = ⟨#[48]⟩ := by rw [hs]; decide
  have l0 := look_30 limit ⟨#[48, 0, 48, 0, 48]⟩ (by decide) (by decide) (by decide)
  have l2 := look_30 limit ⟨#[48, 0, 48]⟩ (by decide) (by decide) (by decide)
  have l4 : W.lookS limit ⟨#[48]⟩ = (0, 0, 0) := by
    unfold W.lookS
    rw [if_neg (by decide), if_neg (by decide), if_pos (by decide)]
  unfold rosterlaw03_splitsTwo.f frame_Split.f
  rw [← hs, if_pos (by omega)]
  have c0 := W.cutAt_in (limit := limit) (s := s) (p := 0) (by omega)
  have c2 := W.cutAt_in (limit := limit) (s := s) (p := 2) (by omega)
  have c4 := W.cutAt_in (limit := limit) (s := s) (p := 4) (by omega)
  rw [e0, l0] at c0
  rw [e2, l2] at c2
  rw [e4, l4] at c4
  by_cases h : limit < 2
  · simp only [if_pos h] at c0
    rw [c0]
    simp [h]
  · simp only [if_neg h] at c0 c2
    have m1 : W.missS (2, 0, 0) (((⟨#[48, 0, 48, 0, 48]⟩ : ByteArray).size : Nat) : Int) = 0 := by decide
    have m2 : W.missS (2, 0, 0) (((⟨#[48, 0, 48]⟩ : ByteArray).size : Nat) : Int) = 0 := by decide
    have m4 : W.missS (0, 0, 0) (((⟨#[48]⟩ : ByteArray).size : Nat) : Int) = 1 := by decide
    rw [m1] at c0
    rw [m2] at c2
    rw [m4] at c4
    simp at c0 c2 c4
    rw [c4] at c2
    rw [c2] at c0
    rw [c0]
    simp [h]

theorem FrameSplits : StFrameSplits.Pure := by
  intro limit s w0 hs
  have hl : (W.cutAt limit s 0).1.length ≤ 1000000000 := by
    have := cutN_len limit s (s.size + 1 - 0) 0
    unfold W.cutAt
    omega
  refine ⟨(W.cutAt limit s 0).1.length + 1, ?_⟩
  unfold rosterlaw03_FrameSplits.f frame_Split.f rosterref03_Split.f
  rw [if_pos hs]
  simp only [Option.bind_some, if_true]
  rw [same_f _ hl, two_f]
  rfl
end Go.Proofs.Ytcjlpedpiljnmaa.Pure
