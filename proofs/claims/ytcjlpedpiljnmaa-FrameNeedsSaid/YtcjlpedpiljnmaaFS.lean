/- Plain law of a message's header (no program in sight): what its first bytes tell; how a stream is cut. -/
import Derived.Test.YtcjlpedpiljnmaaBS
namespace Go.Proofs.Ytcjlpedpiljnmaa.W
set_option linter.unusedVariables false
set_option linter.unusedSimpArgs false

/-- What the first bytes of a message tell: the header's bytes (0: not known), those behind it as far as they are told, the error. -/
def lookS (limit : Int) (b : ByteArray) : Int × Int × Int :=
  if b.size = 0 then (0, 0, 0) else if byt b 0 ≠ 48 then (0, 0, 30) else if b.size = 1 then (0, 0, 0)
  else if byt b 1 = 128 then (0, 0, 31) else if 132 < byt b 1 then (0, 0, 32)
  else if byt b 1 < 128 then (if limit < 2 + byt b 1 then (0, 0, 33) else (2, byt b 1, 0))
  else if byt b 1 - 126 ≤ (b.size : Int) ∧ limit < byt b 1 - 126 + numAt b 2 (byt b 1 - 128).toNat 0 then (0, 0, 33)
  else (byt b 1 - 126, numAt b 2 (byt b 1 - 128).toNat 0, 0)
/-- How many bytes must still come. -/
def missS (h : Int × Int × Int) (have_ : Int) : Int :=
  if h.1 = 0 ∧ h.2.1 = 0 ∧ h.2.2 = 0 then 2 - have_ else if h.2.2 = 0 then (if 0 < h.1 + h.2.1 - have_ then h.1 + h.2.1 - have_ else 0) else 0
def needS (limit : Int) (b : ByteArray) : Int := missS (lookS limit b) b.size

theorem look_range (limit : Int) (b : ByteArray) :
    (lookS limit b = (0, 0, 0) ∧ b.size < 2) ∨ (∃ e, lookS limit b = (0, 0, e) ∧ 30 ≤ e ∧ e ≤ 33) ∨
    (∃ s n, lookS limit b = (s, n, 0) ∧ 2 ≤ s ∧ s ≤ 6 ∧ 0 ≤ n ∧ n < 4294967296 ∧ 2 ≤ b.size ∧ (s ≤ (b.size : Int) → s + n ≤ limit)) := by
  have r0 := byt_range b 0
  have r1 := byt_range b 1
  unfold lookS
  by_cases c1 : b.size = 0
  · rw [if_pos c1]; exact .inl ⟨rfl, by omega⟩
  rw [if_neg c1]
  by_cases c2 : byt b 0 ≠ 48
  · rw [if_pos c2]; exact .inr (.inl ⟨30, rfl, by omega, by omega⟩)
  rw [if_neg c2]
  by_cases c3 : b.size = 1
  · rw [if_pos c3]; exact .inl ⟨rfl, by omega⟩
  rw [if_neg c3]
  by_cases c4 : byt b 1 = 128
  · rw [if_pos c4]; exact .inr (.inl ⟨31, rfl, by omega, by omega⟩)
  rw [if_neg c4]
  by_cases c5 : 132 < byt b 1
  · rw [if_pos c5]; exact .inr (.inl ⟨32, rfl, by omega, by omega⟩)
  rw [if_neg c5]
  by_cases c6 : byt b 1 < 128
  · rw [if_pos c6]
    by_cases c7 : limit < 2 + byt b 1
    · rw [if_pos c7]; exact .inr (.inl ⟨33, rfl, by omega, by omega⟩)
    · rw [if_neg c7]; exact .inr (.inr ⟨2, byt b 1, rfl, by omega, by omega, by omega, by omega, by omega, fun _ => by omega⟩)
  rw [if_neg c6]
  have hn := numAt_lt b 2 (byt b 1 - 128).toNat (by omega)
  by_cases c7 : byt b 1 - 126 ≤ (b.size : Int) ∧ limit < byt b 1 - 126 + numAt b 2 (byt b 1 - 128).toNat 0
  · rw [if_pos c7]; exact .inr (.inl ⟨33, rfl, by omega, by omega⟩)
  · rw [if_neg c7]; exact .inr (.inr ⟨_, _, rfl, by omega, by omega, hn.1, hn.2, by omega, fun h => by omega⟩)
theorem look_wide {limit s n : Int} {b : ByteArray} (h : lookS limit b = (s, n, 0)) (hs : (b.size : Int) < s) (h2 : 2 ≤ b.size) :
    s = byt b 1 - 126 ∧ 129 ≤ byt b 1 ∧ byt b 1 ≤ 132 ∧ n = numAt b 2 (byt b 1 - 128).toNat 0 := by
  unfold lookS at h
  have r1 := byt_range b 1
  repeat' split at h
  all_goals simp only [Prod.mk.injEq] at h
  all_goals first | omega | (obtain ⟨h1, h3, _⟩ := h; exact ⟨h1.symm, by omega, by omega, h3.symm⟩)
end Go.Proofs.Ytcjlpedpiljnmaa.W
