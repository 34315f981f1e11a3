/- Plain law of streams (no program in sight): what is cut of a stream that comes in chunks is what is cut of the whole. -/
import Derived.Test.YtgihlldkdbjkkaaFdw
namespace Go.Proofs.Ytgihlldkdbjkkaa.W
open Go.RowKit
set_option linter.unusedVariables false
set_option linter.unusedSimpArgs false

theorem byt_l (b u : ByteArray) (i : Nat) (h : i < b.size) : byt (b ++ u) i = byt b i := by
  rw [← getD_byt, ← getD_byt]
  have e : (b ++ u).data.toList = b.data.toList ++ u.data.toList := by rw [ByteArray.data_append, Array.toList_append]
  rw [e, List.getD_eq_getElem?_getD, List.getD_eq_getElem?_getD, List.getElem?_append_left (by simpa using h)]
/-- A refusal stays, whatever comes. -/
theorem look_bad (limit : Int) (b u : ByteArray) (h : (lookS limit b).2.2 ≠ 0) : (lookS limit (b ++ u)).2.2 = (lookS limit b).2.2 := by
  have hz : (b ++ u).size = b.size + u.size := ByteArray.size_append
  have r1 := byt_range b 1
  unfold lookS at h ⊢
  by_cases c0 : b.size = 0
  · rw [if_pos c0] at h; exact absurd rfl h
  rw [if_neg c0] at h
  have y0 := byt_l b u 0 (by omega)
  simp only [Int.natCast_zero] at y0
  rw [if_neg (by omega), if_neg c0, y0]
  by_cases c1 : byt b 0 ≠ 48
  · rw [if_pos c1, if_pos c1]
  rw [if_neg c1] at h
  rw [if_neg c1, if_neg c1]
  by_cases c2 : b.size = 1
  · rw [if_pos c2] at h; exact absurd rfl h
  rw [if_neg c2] at h
  have y1 := byt_l b u 1 (by omega)
  simp only [Int.natCast_one] at y1
  rw [if_neg (by omega), if_neg c2, y1]
  by_cases c3 : byt b 1 = 128
  · rw [if_pos c3, if_pos c3]
  rw [if_neg c3] at h
  rw [if_neg c3, if_neg c3]
  by_cases c4 : 132 < byt b 1
  · rw [if_pos c4, if_pos c4]
  rw [if_neg c4] at h
  rw [if_neg c4, if_neg c4]
  by_cases c5 : byt b 1 < 128
  · rw [if_pos c5, if_pos c5]
  rw [if_neg c5] at h
  rw [if_neg c5, if_neg c5]
  by_cases c6 : byt b 1 - 126 ≤ (b.size : Int) ∧ limit < byt b 1 - 126 + numAt b 2 (byt b 1 - 128).toNat 0
  · have e : numAt (b ++ u) 2 (byt b 1 - 128).toNat 0 = numAt b 2 (byt b 1 - 128).toNat 0 := by
      refine numAt_six _ _ _ _ _ (fun j hj => ?_)
      have e2 : ((2 : Int) + j) = ((2 + j : Nat) : Int) := by omega
      rw [e2]
      exact byt_l b u (2 + j) (by omega)
    rw [if_pos c6, e, if_pos ⟨by omega, c6.2⟩]
  · rw [if_neg c6] at h; exact absurd rfl h
/-- A header that is whole says the same with more behind it. -/
theorem look_more (limit : Int) (b u : ByteArray) (h0 : (lookS limit b).2.2 = 0) (h2 : 2 ≤ (lookS limit b).1) (hs : (lookS limit b).1 ≤ b.size) : lookS limit (b ++ u) = lookS limit b := by
  have hz : (b ++ u).size = b.size + u.size := ByteArray.size_append
  have r1 := byt_range b 1
  unfold lookS at h0 h2 hs ⊢
  by_cases c0 : b.size = 0
  · rw [if_pos c0] at h2; simp at h2
  rw [if_neg c0] at h0 h2 hs
  have y0 := byt_l b u 0 (by omega)
  simp only [Int.natCast_zero] at y0
  rw [if_neg (by omega), if_neg c0, y0]
  by_cases c1 : byt b 0 ≠ 48
  · rw [if_pos c1, if_pos c1]
  rw [if_neg c1] at h0 h2 hs
  rw [if_neg c1, if_neg c1]
  by_cases c2 : b.size = 1
  · rw [if_pos c2] at h2; simp at h2
  rw [if_neg c2] at h0 h2 hs
  have y1 := byt_l b u 1 (by omega)
  simp only [Int.natCast_one] at y1
  rw [if_neg (by omega), if_neg c2, y1]
  by_cases c3 : byt b 1 = 128
  · rw [if_pos c3, if_pos c3]
  rw [if_neg c3] at h0 h2 hs
  rw [if_neg c3, if_neg c3]
  by_cases c4 : 132 < byt b 1
  · rw [if_pos c4, if_pos c4]
  rw [if_neg c4] at h0 h2 hs
  rw [if_neg c4, if_neg c4]
  by_cases c5 : byt b 1 < 128
  · rw [if_pos c5, if_pos c5]
  rw [if_neg c5] at h0 h2 hs
  rw [if_neg c5, if_neg c5]
  by_cases c6 : byt b 1 - 126 ≤ (b.size : Int) ∧ limit < byt b 1 - 126 + numAt b 2 (byt b 1 - 128).toNat 0
  · rw [if_pos c6] at h0; simp at h0
  rw [if_neg c6] at hs
  simp only at hs
  have e : numAt (b ++ u) 2 (byt b 1 - 128).toNat 0 = numAt b 2 (byt b 1 - 128).toNat 0 := by
    refine numAt_six _ _ _ _ _ (fun j hj => ?_)
    have e2 : ((2 : Int) + j) = ((2 + j : Nat) : Int) := by omega
    rw [e2]
    exact byt_l b u (2 + j) (by omega)
  rw [if_neg c6, e, if_neg (fun z => c6 ⟨by omega, z.2⟩)]
theorem ext_app (s u : ByteArray) (p : Nat) (hp : p ≤ s.size) : (s ++ u).extract p (s ++ u).size = s.extract p s.size ++ u := by
  have h : numsOf ((s ++ u).extract p (s ++ u).size) = numsOf (s.extract p s.size ++ u) := by
    rw [← nums_drop, nums_app, nums_app, ← nums_drop, List.drop_append_of_le_length (by rw [nums_len]; exact hp)]
  rw [← nums_str ((s ++ u).extract p (s ++ u).size), h, nums_str]
theorem ext_front (b u : ByteArray) (n : Nat) (h : n ≤ b.size) : (b ++ u).extract 0 n = b.extract 0 n := by
  have e : numsOf ((b ++ u).extract 0 n) = numsOf (b.extract 0 n) := by
    rw [← nums_take, ← nums_take, nums_app, List.take_append_of_le_length (by rw [nums_len]; exact h)]
  rw [← nums_str ((b ++ u).extract 0 n), e, nums_str]
theorem ext_ext (s : ByteArray) (p q : Nat) (hp : p ≤ s.size) : (s.extract p s.size).extract q (s.extract p s.size).size = s.extract (p + q) s.size := by
  have e : numsOf ((s.extract p s.size).extract q (s.extract p s.size).size) = numsOf (s.extract (p + q) s.size) := by
    rw [← nums_drop, ← nums_drop, ← nums_drop, List.drop_drop]
  rw [← nums_str ((s.extract p s.size).extract q (s.extract p s.size).size), e, nums_str]
/-- Where it is cut. -/
theorem cut_place (limit : Int) (s : ByteArray) : ∀ (n p : Nat), p ≤ s.size → s.size + 1 ≤ n + p → (p : Int) ≤ (cutAt limit s p).2.1 ∧ (cutAt limit s p).2.1 ≤ s.size := by
  intro n
  induction n with
  | zero => intro p hp hn; omega
  | succ n ih =>
    intro p hp hn
    by_cases hpe : p < s.size
    · rw [cutAt_in hpe]
      by_cases c1 : ¬ (lookS limit (s.extract p s.size)).2.2 = 0
      · rw [if_pos c1]; exact ⟨Int.le_refl _, by simp only; omega⟩
      rw [if_neg c1]
      by_cases c2 : 0 < missS (lookS limit (s.extract p s.size)) ((s.extract p s.size).size : Int)
      · rw [if_pos c2]; exact ⟨Int.le_refl _, by simp only; omega⟩
      rw [if_neg c2]
      have hw := whole_of (limit := limit) (b := s.extract p s.size) (by simp; omega) (Classical.not_not.1 c1) c2
      have hz : (s.extract p s.size).size = s.size - p := by simp
      rw [hz] at hw
      have := ih (p + ((lookS limit (s.extract p s.size)).1 + (lookS limit (s.extract p s.size)).2.1).toNat) (by omega) (by omega)
      simp only
      omega
    · rw [cutAt_end (by omega)]; exact ⟨Int.le_refl _, by simp only; omega⟩
/-- THE STAGE'S THEOREM, plainly: what is cut of a stream and more is what is cut of the stream, then what is cut of the rest and more. -/
theorem cut_more (limit : Int) (s u : ByteArray) : ∀ (n p : Nat), p ≤ s.size → s.size + 1 ≤ n + p →
    ((cutAt limit s p).2.2 ≠ 0 → cutAt limit (s ++ u) p = cutAt limit s p) ∧
    ((cutAt limit s p).2.2 = 0 → cutAt limit (s ++ u) p = ((cutAt limit s p).1 ++ (cutAt limit (s ++ u) (cutAt limit s p).2.1.toNat).1, (cutAt limit (s ++ u) (cutAt limit s p).2.1.toNat).2)) := by
  intro n
  induction n with
  | zero => intro p hp hn; omega
  | succ n ih =>
    intro p hp hn
    have hz : (s ++ u).size = s.size + u.size := ByteArray.size_append
    by_cases hpe : p < s.size
    · have hr : (s ++ u).extract p (s ++ u).size = s.extract p s.size ++ u := ext_app s u p hp
      rw [cutAt_in hpe]
      obtain ⟨b, hb⟩ : ∃ b, b = s.extract p s.size := ⟨_, rfl⟩
      rw [← hb] at hr ⊢
      have hbz : b.size = s.size - p := by rw [hb]; simp
      have hbu : (b ++ u).size = b.size + u.size := ByteArray.size_append
      by_cases c1 : ¬ (lookS limit b).2.2 = 0
      · rw [if_pos c1]
        refine ⟨fun _ => ?_, fun h => absurd h c1⟩
        rw [cutAt_in (by omega), hr, look_bad limit b u c1, if_pos c1]
      rw [if_neg c1]
      by_cases c2 : 0 < missS (lookS limit b) (b.size : Int)
      · rw [if_pos c2]
        refine ⟨fun h => absurd rfl h, fun _ => ?_⟩
        simp
      rw [if_neg c2]
      have hw := whole_of (limit := limit) (b := b) (by omega) (Classical.not_not.1 c1) c2
      have hl := look_more limit b u (Classical.not_not.1 c1) hw.1 (by omega)
      have hm : ¬ 0 < missS (lookS limit (b ++ u)) ((b ++ u).size : Int) := by
        rw [hl]
        unfold missS
        rw [if_neg (fun z => by omega), if_pos (Classical.not_not.1 c1), if_neg (by omega)]
        omega
      have hst : cutAt limit (s ++ u) p = (b.extract 0 ((lookS limit b).1 + (lookS limit b).2.1).toNat :: (cutAt limit (s ++ u) (p + ((lookS limit b).1 + (lookS limit b).2.1).toNat)).1, (cutAt limit (s ++ u) (p + ((lookS limit b).1 + (lookS limit b).2.1).toNat)).2) := by
        rw [cutAt_in (by omega), hr, if_neg (by rw [hl]; exact c1), if_neg hm, hl, ext_front b u _ (by omega)]
      have hi := ih (p + ((lookS limit b).1 + (lookS limit b).2.1).toNat) (by omega) (by omega)
      simp only
      refine ⟨fun h => ?_, fun h => ?_⟩
      · rw [hst, hi.1 h]
      · rw [hst, hi.2 h]
        simp
    · rw [cutAt_end (by omega)]
      refine ⟨fun h => absurd rfl h, fun _ => ?_⟩
      simp
/-- Cut from a place on: as cut of what stands there. -/
theorem cut_shift (limit : Int) (s : ByteArray) (q : Nat) (hq : q ≤ s.size) : ∀ (n p : Nat), p ≤ s.size - q → s.size - q + 1 ≤ n + p →
    cutAt limit s (q + p) = ((cutAt limit (s.extract q s.size) p).1, (q : Int) + (cutAt limit (s.extract q s.size) p).2.1, (cutAt limit (s.extract q s.size) p).2.2) := by
  intro n
  induction n with
  | zero => intro p hp hn; omega
  | succ n ih =>
    intro p hp hn
    have hz : (s.extract q s.size).size = s.size - q := by simp
    by_cases hpe : p < s.size - q
    · have he : (s.extract q s.size).extract p (s.extract q s.size).size = s.extract (q + p) s.size := ext_ext s q p hq
      rw [cutAt_in (limit := limit) (s := s) (p := q + p) (by omega), cutAt_in (limit := limit) (s := s.extract q s.size) (p := p) (by omega), he]
      by_cases c1 : ¬ (lookS limit (s.extract (q + p) s.size)).2.2 = 0
      · rw [if_pos c1, if_pos c1]; simp
      rw [if_neg c1, if_neg c1]
      by_cases c2 : 0 < missS (lookS limit (s.extract (q + p) s.size)) ((s.extract (q + p) s.size).size : Int)
      · rw [if_pos c2, if_pos c2]; simp
      rw [if_neg c2, if_neg c2]
      have hw := whole_of (limit := limit) (b := s.extract (q + p) s.size) (by simp; omega) (Classical.not_not.1 c1) c2
      have hz2 : (s.extract (q + p) s.size).size = s.size - (q + p) := by simp
      rw [hz2] at hw
      have hi := ih (p + ((lookS limit (s.extract (q + p) s.size)).1 + (lookS limit (s.extract (q + p) s.size)).2.1).toNat) (by omega) (by omega)
      rw [Nat.add_assoc, hi]
    · rw [cutAt_end (limit := limit) (s := s) (p := q + p) (by omega), cutAt_end (limit := limit) (s := s.extract q s.size) (p := p) (by omega)]
      simp
/-- What a framer that holds the rest of pre gives out for a chunk, against what is cut of pre and the chunk. -/
theorem feed_cut (limit : Int) (pre u : ByteArray) (h0 : (cutAt limit pre 0).2.2 = 0) :
    cutAt limit (pre ++ u) 0 = ((cutAt limit pre 0).1 ++ (cutAt limit (pre.extract (cutAt limit pre 0).2.1.toNat pre.size ++ u) 0).1,
      (cutAt limit pre 0).2.1 + (cutAt limit (pre.extract (cutAt limit pre 0).2.1.toNat pre.size ++ u) 0).2.1, (cutAt limit (pre.extract (cutAt limit pre 0).2.1.toNat pre.size ++ u) 0).2.2) := by
  have hp := cut_place limit pre (pre.size + 1) 0 (Nat.zero_le _) (by omega)
  have hm := (cut_more limit pre u (pre.size + 1) 0 (Nat.zero_le _) (by omega)).2 h0
  have hz : (pre ++ u).size = pre.size + u.size := ByteArray.size_append
  obtain ⟨q, hq⟩ : ∃ q, q = (cutAt limit pre 0).2.1.toNat := ⟨_, rfl⟩
  have hqi : (cutAt limit pre 0).2.1 = (q : Int) := by omega
  rw [← hq] at hm ⊢
  have hs := cut_shift limit (pre ++ u) q (by omega) ((pre ++ u).size + 1) 0 (Nat.zero_le _) (by omega)
  rw [Nat.add_zero, ext_app pre u q (by omega)] at hs
  rw [hm, hs, hqi]
end Go.Proofs.Ytgihlldkdbjkkaa.W
