/- Plain law of a message's header (no program in sight): what its first bytes tell; how a stream is cut. -/
import Derived.Test.YtgihlldkdbjkkaaMa
namespace Go.Proofs.Ytgihlldkdbjkkaa.W
set_option linter.unusedVariables false
set_option linter.unusedSimpArgs false

/-- What the first bytes of a message tell: the header's bytes (0: not known), those behind it as far as they are told, the error. -/
def lookS (limit : Int) (b : ByteArray) : Int × Int × Int :=
  if b.size = 0 then (0, 0, 0) else if byt b 0 ≠ 48 then (0, 0, 30) else if b.size = 1 then (0, 0, 0)
  else if byt b 1 = 128 then (0, 0, 31) else if 132 < byt b 1 then (0, 0, 32)
  else if byt b 1 < 128 then (if limit < 2 + byt b 1 then (0, 0, 33) else (2, byt b 1, 0))
  else if byt b 1 - 126 ≤ (b.size : Int) ∧ limit < byt b 1 - 126 + numAt b 2 (byt b 1 - 128).toNat 0 then (0, 0, 33)
  else (byt b 1 - 126, numAt b 2 (byt b 1 - 128).toNat 0, 0)
/-- How many bytes must still come. -/
def missS (h : Int × Int × Int) (have_ : Int) : Int :=
  if h.1 = 0 ∧ h.2.1 = 0 ∧ h.2.2 = 0 then 2 - have_ else if h.2.2 = 0 then (if 0 < h.1 + h.2.1 - have_ then h.1 + h.2.1 - have_ else 0) else 0
def needS (limit : Int) (b : ByteArray) : Int := missS (lookS limit b) b.size

theorem look_range (limit : Int) (b : ByteArray) :
    (lookS limit b = (0, 0, 0) ∧ b.size < 2) ∨ (∃ e, lookS limit b = (0, 0, e) ∧ 30 ≤ e ∧ e ≤ 33) ∨
    (∃ s n, lookS limit b = (s, n, 0) ∧ 2 ≤ s ∧ s ≤ 6 ∧ 0 ≤ n ∧ n < 4294967296 ∧ 2 ≤ b.size ∧ (s ≤ (b.size : Int) → s + n ≤ limit)) := by
  have r0 := byt_range b 0
  have r1 := byt_range b 1
  unfold lookS
  by_cases c1 : b.size = 0
  · rw [if_pos c1]; exact .inl ⟨rfl, by omega⟩
  rw [if_neg c1]
  by_cases c2 : byt b 0 ≠ 48
  · rw [if_pos c2]; exact .inr (.inl ⟨30, rfl, by omega, by omega⟩)
  rw [if_neg c2]
  by_cases c3 : b.size = 1
  · rw [if_pos c3]; exact .inl ⟨rfl, by omega⟩
  rw [if_neg c3]
  by_cases c4 : byt b 1 = 128
  · rw [if_pos c4]; exact .inr (.inl ⟨31, rfl, by omega, by omega⟩)
  rw [if_neg c4]
  by_cases c5 : 132 < byt b 1
  · rw [if_pos c5]; exact .inr (.inl ⟨32, rfl, by omega, by omega⟩)
  rw [if_neg c5]
  by_cases c6 : byt b 1 < 128
  · rw [if_pos c6]
    by_cases c7 : limit < 2 + byt b 1
    · rw [if_pos c7]; exact .inr (.inl ⟨33, rfl, by omega, by omega⟩)
    · rw [if_neg c7]; exact .inr (.inr ⟨2, byt b 1, rfl, by omega, by omega, by omega, by omega, by omega, fun _ => by omega⟩)
  rw [if_neg c6]
  have hn := numAt_lt b 2 (byt b 1 - 128).toNat (by omega)
  by_cases c7 : byt b 1 - 126 ≤ (b.size : Int) ∧ limit < byt b 1 - 126 + numAt b 2 (byt b 1 - 128).toNat 0
  · rw [if_pos c7]; exact .inr (.inl ⟨33, rfl, by omega, by omega⟩)
  · rw [if_neg c7]; exact .inr (.inr ⟨_, _, rfl, by omega, by omega, hn.1, hn.2, by omega, fun h => by omega⟩)
theorem look_wide {limit s n : Int} {b : ByteArray} (h : lookS limit b = (s, n, 0)) (hs : (b.size : Int) < s) (h2 : 2 ≤ b.size) :
    s = byt b 1 - 126 ∧ 129 ≤ byt b 1 ∧ byt b 1 ≤ 132 ∧ n = numAt b 2 (byt b 1 - 128).toNat 0 := by
  unfold lookS at h
  have r1 := byt_range b 1
  repeat' split at h
  all_goals simp only [Prod.mk.injEq] at h
  all_goals first | omega | (obtain ⟨h1, h3, _⟩ := h; exact ⟨h1.symm, by omega, by omega, h3.symm⟩)
/-! How a whole stream is cut. -/
def cutN (limit : Int) (s : ByteArray) : Nat → Nat → List ByteArray × Int × Int
  | 0, p => ([], (p : Int), 0)
  | n + 1, p =>
    if s.size ≤ p then ([], (p : Int), 0)
    else if ¬ (lookS limit (s.extract p s.size)).2.2 = 0 then ([], (p : Int), (lookS limit (s.extract p s.size)).2.2)
    else if 0 < missS (lookS limit (s.extract p s.size)) ((s.extract p s.size).size : Int) then ([], (p : Int), 0)
    else ((s.extract p s.size).extract 0 ((lookS limit (s.extract p s.size)).1 + (lookS limit (s.extract p s.size)).2.1).toNat :: (cutN limit s n (p + ((lookS limit (s.extract p s.size)).1 + (lookS limit (s.extract p s.size)).2.1).toNat)).1,
      (cutN limit s n (p + ((lookS limit (s.extract p s.size)).1 + (lookS limit (s.extract p s.size)).2.1).toNat)).2)
/-- What is cut of the stream from the place p on. -/
def cutAt (limit : Int) (s : ByteArray) (p : Nat) : List ByteArray × Int × Int := cutN limit s (s.size + 1 - p) p
/-- A header that is whole, of a message that is whole. -/
theorem whole_of {limit : Int} {b : ByteArray} (hb : b.size ≠ 0) (h0 : (lookS limit b).2.2 = 0) (hm : ¬ 0 < missS (lookS limit b) (b.size : Int)) :
    2 ≤ (lookS limit b).1 ∧ (lookS limit b).1 ≤ 6 ∧ 0 ≤ (lookS limit b).2.1 ∧ (lookS limit b).2.1 < 4294967296 ∧ (lookS limit b).1 + (lookS limit b).2.1 ≤ b.size ∧ (lookS limit b).1 + (lookS limit b).2.1 ≤ limit := by
  rcases look_range limit b with ⟨h, h1⟩ | ⟨e, h, h1, h2⟩ | ⟨s, n, h, h1, h2, h3, h4, h5, h6⟩
  · rw [h] at hm
    have e : missS (0, 0, 0) (b.size : Int) = 2 - b.size := rfl
    rw [e] at hm
    omega
  · rw [h] at h0
    simp at h0
    omega
  · rw [h] at hm ⊢
    have e : missS (s, n, 0) (b.size : Int) = if 0 < s + n - b.size then s + n - b.size else 0 := by unfold missS; rw [if_neg (fun z => by have := z.1; simp at this; omega), if_pos rfl]
    rw [e] at hm
    have hle : s + n ≤ b.size := by
      split at hm <;> omega
    exact ⟨h1, h2, h3, h4, hle, h6 (by omega)⟩
theorem cutN_more (limit : Int) (s : ByteArray) : ∀ (n m p : Nat), s.size + 1 ≤ n + p → s.size + 1 ≤ m + p → cutN limit s n p = cutN limit s m p := by
  intro n
  induction n with
  | zero =>
    intro m p hn hm
    cases m with
    | zero => rfl
    | succ m => rw [cutN, cutN, if_pos (by omega)]
  | succ n ih =>
    intro m p hn hm
    cases m with
    | zero => rw [cutN, cutN, if_pos (by omega)]
    | succ m =>
      rw [cutN, cutN]
      by_cases c1 : s.size ≤ p
      · rw [if_pos c1, if_pos c1]
      rw [if_neg c1, if_neg c1]
      by_cases c2 : ¬ (lookS limit (s.extract p s.size)).2.2 = 0
      · rw [if_pos c2, if_pos c2]
      rw [if_neg c2, if_neg c2]
      by_cases c3 : 0 < missS (lookS limit (s.extract p s.size)) ((s.extract p s.size).size : Int)
      · rw [if_pos c3, if_pos c3]
      rw [if_neg c3, if_neg c3]
      have hw := whole_of (limit := limit) (b := s.extract p s.size) (by simp; omega) (by omega) c3
      rw [ih m _ (by omega) (by omega)]
theorem cutAt_end {limit : Int} {s : ByteArray} {p : Nat} (h : s.size ≤ p) : cutAt limit s p = ([], (p : Int), 0) := by
  unfold cutAt
  cases s.size + 1 - p with
  | zero => rfl
  | succ n => rw [cutN, if_pos h]
theorem cutAt_in {limit : Int} {s : ByteArray} {p : Nat} (h : p < s.size) : cutAt limit s p =
    if ¬ (lookS limit (s.extract p s.size)).2.2 = 0 then ([], (p : Int), (lookS limit (s.extract p s.size)).2.2)
    else if 0 < missS (lookS limit (s.extract p s.size)) ((s.extract p s.size).size : Int) then ([], (p : Int), 0)
    else ((s.extract p s.size).extract 0 ((lookS limit (s.extract p s.size)).1 + (lookS limit (s.extract p s.size)).2.1).toNat :: (cutAt limit s (p + ((lookS limit (s.extract p s.size)).1 + (lookS limit (s.extract p s.size)).2.1).toNat)).1,
      (cutAt limit s (p + ((lookS limit (s.extract p s.size)).1 + (lookS limit (s.extract p s.size)).2.1).toNat)).2) := by
  obtain ⟨n, hn⟩ : ∃ n, s.size + 1 - p = n + 1 := ⟨s.size - p, by omega⟩
  unfold cutAt
  rw [hn, cutN, if_neg (by omega)]
  by_cases c2 : ¬ (lookS limit (s.extract p s.size)).2.2 = 0
  · rw [if_pos c2, if_pos c2]
  rw [if_neg c2, if_neg c2]
  by_cases c3 : 0 < missS (lookS limit (s.extract p s.size)) ((s.extract p s.size).size : Int)
  · rw [if_pos c3, if_pos c3]
  rw [if_neg c3, if_neg c3]
  have hw := whole_of (limit := limit) (b := s.extract p s.size) (by simp; omega) (by omega) c3
  rw [cutN_more limit s n (s.size + 1 - (p + ((lookS limit (s.extract p s.size)).1 + (lookS limit (s.extract p s.size)).2.1).toNat)) _ (by omega) (by simp at hw; omega)]
end Go.Proofs.Ytgihlldkdbjkkaa.W
