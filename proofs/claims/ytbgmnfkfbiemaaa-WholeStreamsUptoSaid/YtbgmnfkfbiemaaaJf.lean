/- Texts of this session in one: Fd2, Fcp, Fd3, Ftw, Fq, Fj -/
import Derived.Test.YtbgmnfkfbiemaaaFd
import Derived.Test.YtbgmnfkfbiemaaaFdw
/-! ## Walks of frame.New and of the Framer's questions: Held, Need, Fault. -/
namespace Go.Proofs.Ytbgmnfkfbiemaaa.W
open Go.RowKit Go.Proofs.YtbgmnfkfbiemaaaW.PrintWords Go.Proofs.YtbgmnfkfbiemaaaW.PrintLast Go.Proofs.YtbgmnfkfbiemaaaW.PrintMore
attribute [local go_sem] max2_int min2_int max_two min_two   -- for this text's walks alone
set_option linter.unusedVariables false
set_option linter.unusedSimpArgs false

theorem New_any (limit : Int) (w : World) : Calls Try.prog 5 #[.int .i64 limit] w fun en w' => ∃ g, en = .returned (.pointer (some ⟨g, 0, none⟩)) ∧ w.heap.size ≤ g ∧ FrAt w' w.heap.size g (.slice none 0 0) limit ⟨#[]⟩ 0 0 ∧ Below w.heap.size w w' := by
  go_enter Try.func5, Try.ntmps5
  go_wp2_with fail
  go_ret
  exact ⟨_, rfl, Nat.le_refl _, ⟨At.new _ _ _, Kd.R_nil _ _ _ _ _⟩, (Below.refl _ _).alloc (Nat.le_refl _) _⟩
theorem Held_any (w : World) (B g : Nat) (v : Value) (limit given err : Int) (H : ByteArray) (h : FrAt w B g v limit H given err) :
    Calls Try.prog 9 #[.pointer (some ⟨g, 0, none⟩)] w fun en w' => en = .returned (.int .i64 (H.size : Int)) ∧ w = w' := by
  obtain ⟨A, c, rfl⟩ := Kd.R_slice h.row
  have c1 := (h.mem.cell 1).trans rfl
  have e := nums_len H
  have HE := Lib.hid e
  clear e
  go_enter Try.func9, Try.ntmps9
  go_wp2
  go_ret
  rw [HE.out]
  exact ⟨rfl, rfl⟩
end Go.Proofs.Ytbgmnfkfbiemaaa.W

/-! ## Plain law of streams (no program in sight): what is cut of a stream that comes in chunks is what is cut of the whole. -/
namespace Go.Proofs.Ytbgmnfkfbiemaaa.W
open Go.RowKit
set_option linter.unusedVariables false
set_option linter.unusedSimpArgs false

theorem byt_l (b u : ByteArray) (i : Nat) (h : i < b.size) : byt (b ++ u) i = byt b i := by
  rw [← getD_byt, ← getD_byt]
  have e : (b ++ u).data.toList = b.data.toList ++ u.data.toList := by rw [ByteArray.data_append, Array.toList_append]
  rw [e, List.getD_eq_getElem?_getD, List.getD_eq_getElem?_getD, List.getElem?_append_left (by simpa using h)]
/-- A refusal stays, whatever comes. -/
theorem look_bad (limit : Int) (b u : ByteArray) (h : (lookS limit b).2.2 ≠ 0) : (lookS limit (b ++ u)).2.2 = (lookS limit b).2.2 := by
  have hz : (b ++ u).size = b.size + u.size := ByteArray.size_append
  have r1 := byt_range b 1
  unfold lookS at h ⊢
  by_cases c0 : b.size = 0
  · rw [if_pos c0] at h; exact absurd rfl h
  rw [if_neg c0] at h
  have y0 := byt_l b u 0 (by omega)
  simp only [Int.natCast_zero] at y0
  rw [if_neg (by omega), if_neg c0, y0]
  by_cases c1 : byt b 0 ≠ 48
  · rw [if_pos c1, if_pos c1]
  rw [if_neg c1] at h
  rw [if_neg c1, if_neg c1]
  by_cases c2 : b.size = 1
  · rw [if_pos c2] at h; exact absurd rfl h
  rw [if_neg c2] at h
  have y1 := byt_l b u 1 (by omega)
  simp only [Int.natCast_one] at y1
  rw [if_neg (by omega), if_neg c2, y1]
  by_cases c3 : byt b 1 = 128
  · rw [if_pos c3, if_pos c3]
  rw [if_neg c3] at h
  rw [if_neg c3, if_neg c3]
  by_cases c4 : 132 < byt b 1
  · rw [if_pos c4, if_pos c4]
  rw [if_neg c4] at h
  rw [if_neg c4, if_neg c4]
  by_cases c5 : byt b 1 < 128
  · rw [if_pos c5, if_pos c5]
  rw [if_neg c5] at h
  rw [if_neg c5, if_neg c5]
  by_cases c6 : byt b 1 - 126 ≤ (b.size : Int) ∧ limit < byt b 1 - 126 + numAt b 2 (byt b 1 - 128).toNat 0
  · have e : numAt (b ++ u) 2 (byt b 1 - 128).toNat 0 = numAt b 2 (byt b 1 - 128).toNat 0 := by
      refine numAt_six _ _ _ _ _ (fun j hj => ?_)
      have e2 : ((2 : Int) + j) = ((2 + j : Nat) : Int) := by omega
      rw [e2]
      exact byt_l b u (2 + j) (by omega)
    rw [if_pos c6, e, if_pos ⟨by omega, c6.2⟩]
  · rw [if_neg c6] at h; exact absurd rfl h
/-- A header that is whole says the same with more behind it. -/
theorem look_more (limit : Int) (b u : ByteArray) (h0 : (lookS limit b).2.2 = 0) (h2 : 2 ≤ (lookS limit b).1) (hs : (lookS limit b).1 ≤ b.size) : lookS limit (b ++ u) = lookS limit b := by
  have hz : (b ++ u).size = b.size + u.size := ByteArray.size_append
  have r1 := byt_range b 1
  unfold lookS at h0 h2 hs ⊢
  by_cases c0 : b.size = 0
  · rw [if_pos c0] at h2; simp at h2
  rw [if_neg c0] at h0 h2 hs
  have y0 := byt_l b u 0 (by omega)
  simp only [Int.natCast_zero] at y0
  rw [if_neg (by omega), if_neg c0, y0]
  by_cases c1 : byt b 0 ≠ 48
  · rw [if_pos c1, if_pos c1]
  rw [if_neg c1] at h0 h2 hs
  rw [if_neg c1, if_neg c1]
  by_cases c2 : b.size = 1
  · rw [if_pos c2] at h2; simp at h2
  rw [if_neg c2] at h0 h2 hs
  have y1 := byt_l b u 1 (by omega)
  simp only [Int.natCast_one] at y1
  rw [if_neg (by omega), if_neg c2, y1]
  by_cases c3 : byt b 1 = 128
  · rw [if_pos c3, if_pos c3]
  rw [if_neg c3] at h0 h2 hs
  rw [if_neg c3, if_neg c3]
  by_cases c4 : 132 < byt b 1
  · rw [if_pos c4, if_pos c4]
  rw [if_neg c4] at h0 h2 hs
  rw [if_neg c4, if_neg c4]
  by_cases c5 : byt b 1 < 128
  · rw [if_pos c5, if_pos c5]
  rw [if_neg c5] at h0 h2 hs
  rw [if_neg c5, if_neg c5]
  by_cases c6 : byt b 1 - 126 ≤ (b.size : Int) ∧ limit < byt b 1 - 126 + numAt b 2 (byt b 1 - 128).toNat 0
  · rw [if_pos c6] at h0; simp at h0
  rw [if_neg c6] at hs
  simp only at hs
  have e : numAt (b ++ u) 2 (byt b 1 - 128).toNat 0 = numAt b 2 (byt b 1 - 128).toNat 0 := by
    refine numAt_six _ _ _ _ _ (fun j hj => ?_)
    have e2 : ((2 : Int) + j) = ((2 + j : Nat) : Int) := by omega
    rw [e2]
    exact byt_l b u (2 + j) (by omega)
  rw [if_neg c6, e, if_neg (fun z => c6 ⟨by omega, z.2⟩)]
theorem ext_app (s u : ByteArray) (p : Nat) (hp : p ≤ s.size) : (s ++ u).extract p (s ++ u).size = s.extract p s.size ++ u := by
  have h : numsOf ((s ++ u).extract p (s ++ u).size) = numsOf (s.extract p s.size ++ u) := by
    rw [← nums_drop, nums_app, nums_app, ← nums_drop, List.drop_append_of_le_length (by rw [nums_len]; exact hp)]
  rw [← nums_str ((s ++ u).extract p (s ++ u).size), h, nums_str]
theorem ext_front (b u : ByteArray) (n : Nat) (h : n ≤ b.size) : (b ++ u).extract 0 n = b.extract 0 n := by
  have e : numsOf ((b ++ u).extract 0 n) = numsOf (b.extract 0 n) := by
    rw [← nums_take, ← nums_take, nums_app, List.take_append_of_le_length (by rw [nums_len]; exact h)]
  rw [← nums_str ((b ++ u).extract 0 n), e, nums_str]
theorem ext_ext (s : ByteArray) (p q : Nat) (hp : p ≤ s.size) : (s.extract p s.size).extract q (s.extract p s.size).size = s.extract (p + q) s.size := by
  have e : numsOf ((s.extract p s.size).extract q (s.extract p s.size).size) = numsOf (s.extract (p + q) s.size) := by
    rw [← nums_drop, ← nums_drop, ← nums_drop, List.drop_drop]
  rw [← nums_str ((s.extract p s.size).extract q (s.extract p s.size).size), e, nums_str]
/-- Where it is cut. -/
theorem cut_place (limit : Int) (s : ByteArray) : ∀ (n p : Nat), p ≤ s.size → s.size + 1 ≤ n + p → (p : Int) ≤ (cutAt limit s p).2.1 ∧ (cutAt limit s p).2.1 ≤ s.size := by
  intro n
  induction n with
  | zero => intro p hp hn; omega
  | succ n ih =>
    intro p hp hn
    by_cases hpe : p < s.size
    · rw [cutAt_in hpe]
      by_cases c1 : ¬ (lookS limit (s.extract p s.size)).2.2 = 0
      · rw [if_pos c1]; exact ⟨Int.le_refl _, by simp only; omega⟩
      rw [if_neg c1]
      by_cases c2 : 0 < missS (lookS limit (s.extract p s.size)) ((s.extract p s.size).size : Int)
      · rw [if_pos c2]; exact ⟨Int.le_refl _, by simp only; omega⟩
      rw [if_neg c2]
      have hw := whole_of (limit := limit) (b := s.extract p s.size) (by simp; omega) (Classical.not_not.1 c1) c2
      have hz : (s.extract p s.size).size = s.size - p := by simp
      rw [hz] at hw
      have := ih (p + ((lookS limit (s.extract p s.size)).1 + (lookS limit (s.extract p s.size)).2.1).toNat) (by omega) (by omega)
      simp only
      omega
    · rw [cutAt_end (by omega)]; exact ⟨Int.le_refl _, by simp only; omega⟩
/-- THE STAGE'S THEOREM, plainly: what is cut of a stream and more is what is cut of the stream, then what is cut of the rest and more. -/
theorem cut_more (limit : Int) (s u : ByteArray) : ∀ (n p : Nat), p ≤ s.size → s.size + 1 ≤ n + p →
    ((cutAt limit s p).2.2 ≠ 0 → cutAt limit (s ++ u) p = cutAt limit s p) ∧
    ((cutAt limit s p).2.2 = 0 → cutAt limit (s ++ u) p = ((cutAt limit s p).1 ++ (cutAt limit (s ++ u) (cutAt limit s p).2.1.toNat).1, (cutAt limit (s ++ u) (cutAt limit s p).2.1.toNat).2)) := by
  intro n
  induction n with
  | zero => intro p hp hn; omega
  | succ n ih =>
    intro p hp hn
    have hz : (s ++ u).size = s.size + u.size := ByteArray.size_append
    by_cases hpe : p < s.size
    · have hr : (s ++ u).extract p (s ++ u).size = s.extract p s.size ++ u := ext_app s u p hp
      rw [cutAt_in hpe]
      obtain ⟨b, hb⟩ : ∃ b, b = s.extract p s.size := ⟨_, rfl⟩
      rw [← hb] at hr ⊢
      have hbz : b.size = s.size - p := by rw [hb]; simp
      have hbu : (b ++ u).size = b.size + u.size := ByteArray.size_append
      by_cases c1 : ¬ (lookS limit b).2.2 = 0
      · rw [if_pos c1]
        refine ⟨fun _ => ?_, fun h => absurd h c1⟩
        rw [cutAt_in (by omega), hr, look_bad limit b u c1, if_pos c1]
      rw [if_neg c1]
      by_cases c2 : 0 < missS (lookS limit b) (b.size : Int)
      · rw [if_pos c2]
        refine ⟨fun h => absurd rfl h, fun _ => ?_⟩
        simp
      rw [if_neg c2]
      have hw := whole_of (limit := limit) (b := b) (by omega) (Classical.not_not.1 c1) c2
      have hl := look_more limit b u (Classical.not_not.1 c1) hw.1 (by omega)
      have hm : ¬ 0 < missS (lookS limit (b ++ u)) ((b ++ u).size : Int) := by
        rw [hl]
        unfold missS
        rw [if_neg (fun z => by omega), if_pos (Classical.not_not.1 c1), if_neg (by omega)]
        omega
      have hst : cutAt limit (s ++ u) p = (b.extract 0 ((lookS limit b).1 + (lookS limit b).2.1).toNat :: (cutAt limit (s ++ u) (p + ((lookS limit b).1 + (lookS limit b).2.1).toNat)).1, (cutAt limit (s ++ u) (p + ((lookS limit b).1 + (lookS limit b).2.1).toNat)).2) := by
        rw [cutAt_in (by omega), hr, if_neg (by rw [hl]; exact c1), if_neg hm, hl, ext_front b u _ (by omega)]
      have hi := ih (p + ((lookS limit b).1 + (lookS limit b).2.1).toNat) (by omega) (by omega)
      simp only
      refine ⟨fun h => ?_, fun h => ?_⟩
      · rw [hst, hi.1 h]
      · rw [hst, hi.2 h]
        simp
    · rw [cutAt_end (by omega)]
      refine ⟨fun h => absurd rfl h, fun _ => ?_⟩
      simp
/-- Cut from a place on: as cut of what stands there. -/
theorem cut_shift (limit : Int) (s : ByteArray) (q : Nat) (hq : q ≤ s.size) : ∀ (n p : Nat), p ≤ s.size - q → s.size - q + 1 ≤ n + p →
    cutAt limit s (q + p) = ((cutAt limit (s.extract q s.size) p).1, (q : Int) + (cutAt limit (s.extract q s.size) p).2.1, (cutAt limit (s.extract q s.size) p).2.2) := by
  intro n
  induction n with
  | zero => intro p hp hn; omega
  | succ n ih =>
    intro p hp hn
    have hz : (s.extract q s.size).size = s.size - q := by simp
    by_cases hpe : p < s.size - q
    · have he : (s.extract q s.size).extract p (s.extract q s.size).size = s.extract (q + p) s.size := ext_ext s q p hq
      rw [cutAt_in (limit := limit) (s := s) (p := q + p) (by omega), cutAt_in (limit := limit) (s := s.extract q s.size) (p := p) (by omega), he]
      by_cases c1 : ¬ (lookS limit (s.extract (q + p) s.size)).2.2 = 0
      · rw [if_pos c1, if_pos c1]; simp
      rw [if_neg c1, if_neg c1]
      by_cases c2 : 0 < missS (lookS limit (s.extract (q + p) s.size)) ((s.extract (q + p) s.size).size : Int)
      · rw [if_pos c2, if_pos c2]; simp
      rw [if_neg c2, if_neg c2]
      have hw := whole_of (limit := limit) (b := s.extract (q + p) s.size) (by simp; omega) (Classical.not_not.1 c1) c2
      have hz2 : (s.extract (q + p) s.size).size = s.size - (q + p) := by simp
      rw [hz2] at hw
      have hi := ih (p + ((lookS limit (s.extract (q + p) s.size)).1 + (lookS limit (s.extract (q + p) s.size)).2.1).toNat) (by omega) (by omega)
      rw [Nat.add_assoc, hi]
    · rw [cutAt_end (limit := limit) (s := s) (p := q + p) (by omega), cutAt_end (limit := limit) (s := s.extract q s.size) (p := p) (by omega)]
      simp
/-- What a framer that holds the rest of pre gives out for a chunk, against what is cut of pre and the chunk. -/
theorem feed_cut (limit : Int) (pre u : ByteArray) (h0 : (cutAt limit pre 0).2.2 = 0) :
    cutAt limit (pre ++ u) 0 = ((cutAt limit pre 0).1 ++ (cutAt limit (pre.extract (cutAt limit pre 0).2.1.toNat pre.size ++ u) 0).1,
      (cutAt limit pre 0).2.1 + (cutAt limit (pre.extract (cutAt limit pre 0).2.1.toNat pre.size ++ u) 0).2.1, (cutAt limit (pre.extract (cutAt limit pre 0).2.1.toNat pre.size ++ u) 0).2.2) := by
  have hp := cut_place limit pre (pre.size + 1) 0 (Nat.zero_le _) (by omega)
  have hm := (cut_more limit pre u (pre.size + 1) 0 (Nat.zero_le _) (by omega)).2 h0
  have hz : (pre ++ u).size = pre.size + u.size := ByteArray.size_append
  obtain ⟨q, hq⟩ : ∃ q, q = (cutAt limit pre 0).2.1.toNat := ⟨_, rfl⟩
  have hqi : (cutAt limit pre 0).2.1 = (q : Int) := by omega
  rw [← hq] at hm ⊢
  have hs := cut_shift limit (pre ++ u) q (by omega) ((pre ++ u).size + 1) 0 (Nat.zero_le _) (by omega)
  rw [Nat.add_zero, ext_app pre u q (by omega)] at hs
  rw [hm, hs, hqi]
end Go.Proofs.Ytbgmnfkfbiemaaa.W

/-! ## A framer that has been fed a stream, whatever its chunks: what Feed, Held, Need and Fault answer then. -/
namespace Go.Proofs.Ytbgmnfkfbiemaaa.W
open Go.RowKit Go.Proofs.YtbgmnfkfbiemaaaW.PrintWords Go.Proofs.YtbgmnfkfbiemaaaW.PrintLast
set_option linter.unusedVariables false
set_option linter.unusedSimpArgs false

/-- A framer that has been fed pre. -/
def FrSt (w : World) (B g : Nat) (v : Value) (limit : Int) (pre : ByteArray) : Prop := FrAt w B g v limit (keptS pre (cutAt limit pre 0)) (cutAt limit pre 0).2.1 (cutAt limit pre 0).2.2
theorem kept_size (limit : Int) (pre : ByteArray) : (keptS pre (cutAt limit pre 0)).size ≤ pre.size := by
  unfold keptS
  split
  · rw [ByteArray.size_extract]; omega
  · exact Nat.zero_le _
theorem kept_good {limit : Int} {pre : ByteArray} (h : (cutAt limit pre 0).2.2 = 0) : keptS pre (cutAt limit pre 0) = pre.extract (cutAt limit pre 0).2.1.toNat pre.size := by unfold keptS; rw [if_pos h]
theorem kept_bad {limit : Int} {pre : ByteArray} (h : (cutAt limit pre 0).2.2 ≠ 0) : keptS pre (cutAt limit pre 0) = ⟨#[]⟩ := by unfold keptS; rw [if_neg h]
theorem kept_feed {limit : Int} {pre u : ByteArray} (h : (cutAt limit pre 0).2.2 = 0) :
    keptS (keptS pre (cutAt limit pre 0) ++ u) (cutAt limit (keptS pre (cutAt limit pre 0) ++ u) 0) = keptS (pre ++ u) (cutAt limit (pre ++ u) 0) := by
  have hp := cut_place limit pre (pre.size + 1) 0 (Nat.zero_le _) (by omega)
  have hf := feed_cut limit pre u h
  rw [kept_good h]
  obtain ⟨q, hq⟩ : ∃ q, q = (cutAt limit pre 0).2.1.toNat := ⟨_, rfl⟩
  have hqi : (cutAt limit pre 0).2.1 = (q : Int) := by omega
  rw [← hq, hqi] at hf
  rw [← hq]
  obtain ⟨k, hk⟩ : ∃ k, k = pre.extract q pre.size ++ u := ⟨_, rfl⟩
  rw [← hk] at hf ⊢
  have hp2 := cut_place limit k (k.size + 1) 0 (Nat.zero_le _) (by omega)
  unfold keptS
  rw [hf]
  simp only
  split
  · have e : ((q : Int) + (cutAt limit k 0).2.1).toNat = q + (cutAt limit k 0).2.1.toNat := by omega
    have hz : (pre ++ u).size = pre.size + u.size := ByteArray.size_append
    rw [e, hk, ← ext_app pre u q (by omega), ext_ext (pre ++ u) q _ (by omega)]
  · rfl
theorem FrSt.at {w w' : World} {B g : Nat} {v : Value} {limit : Int} {pre : ByteArray} (h : FrSt w B g v limit pre) (hb : Below w.heap.size w w') : FrSt w' B g v limit pre := FrAt.at h hb

/-- WHAT Feed ANSWERS. -/
theorem Feed_pre (w : World) (B g : Nat) (v : Value) (limit : Int) (pre u : ByteArray) (A : Option Addr) (c : Nat) (h : FrSt w B g v limit pre) (hC : Kd.C (Kd.int .u8) w A u.size (numsOf u)) (hc : u.size ≤ c)
    (hB : B ≤ w.heap.size) (hs : pre.size + u.size ≤ 16777216) :
    Calls Try.prog 7 #[.pointer (some ⟨g, 0, none⟩), .slice A u.size c] w fun en w' => ∃ v0 v' m, en = .returned (.tuple #[v0, .int .i64 (cutAt limit (pre ++ u) 0).2.2]) ∧
      (cutAt limit (pre ++ u) 0).1 = (cutAt limit pre 0).1 ++ m ∧ Kd.R Kd.string 9 w' w.heap.size (fun _ => True) v0 m ∧ FrSt w' B g v' limit (pre ++ u) ∧
      (v'.ownBlock = none ∨ v'.ownBlock = v.ownBlock ∨ ∃ b, v'.ownBlock = some b ∧ w.heap.size ≤ b) ∧ Two w w' g v.ownBlock := by
  have hp := cut_place limit pre (pre.size + 1) 0 (Nat.zero_le _) (by omega)
  have hk := kept_size limit pre
  by_cases he : (cutAt limit pre 0).2.2 = 0
  · have h1 : FrAt w B g v limit (keptS pre (cutAt limit pre 0)) (cutAt limit pre 0).2.1 0 := by
      have := h
      unfold FrSt at this
      rw [he] at this
      exact this
    refine (Feed_any w B g v limit (cutAt limit pre 0).2.1 (keptS pre (cutAt limit pre 0)) u A c h1 hC hc hB (by omega) (by omega) (by omega)).mono ?_
    rintro en w' ⟨v0, v', rfl, hR, hF, ho, hT⟩
    have hf := feed_cut limit pre u he
    rw [← kept_good he] at hf
    refine ⟨v0, v', (cutAt limit (keptS pre (cutAt limit pre 0) ++ u) 0).1, ?_, ?_, hR, ?_, ho, hT⟩
    · rw [hf]
    · rw [hf]
    · unfold FrSt
      rw [kept_feed he] at hF
      have e2 : (cutAt limit (pre ++ u) 0).2.1 = (cutAt limit pre 0).2.1 + (cutAt limit (keptS pre (cutAt limit pre 0) ++ u) 0).2.1 := by rw [hf]
      have e3 : (cutAt limit (pre ++ u) 0).2.2 = (cutAt limit (keptS pre (cutAt limit pre 0) ++ u) 0).2.2 := by rw [hf]
      rw [e2, e3]
      exact hF
  · have hm := (cut_more limit pre u (pre.size + 1) 0 (Nat.zero_le _) (by omega)).1 he
    refine (Feed_bad w B g v limit (cutAt limit pre 0).2.1 (cutAt limit pre 0).2.2 _ A u.size c h he).mono ?_
    rintro en w' ⟨rfl, hb⟩
    refine ⟨.slice none 0 0, v, [], ?_, by rw [hm]; simp, Kd.R_nil _ _ _ _ _, ?_, .inr (.inl rfl), (Two.refl w g _).below hb⟩
    · rw [hm]
    · have h2 := FrAt.at h hb
      unfold FrSt
      rw [hm]
      have e : keptS (pre ++ u) (cutAt limit pre 0) = keptS pre (cutAt limit pre 0) := by unfold keptS; rw [if_neg he, if_neg he]
      rw [e]
      exact h2
theorem New_st (limit : Int) (w : World) : Calls Try.prog 5 #[.int .i64 limit] w fun en w' => ∃ g, en = .returned (.pointer (some ⟨g, 0, none⟩)) ∧ w.heap.size ≤ g ∧ FrSt w' w.heap.size g (.slice none 0 0) limit ⟨#[]⟩ ∧ Below w.heap.size w w' := by
  refine (New_any limit w).mono ?_
  rintro en w' ⟨g, rfl, hg, hF, hb⟩
  refine ⟨g, rfl, hg, ?_, hb⟩
  unfold FrSt
  have e : cutAt limit ⟨#[]⟩ 0 = ([], 0, 0) := cutAt_end (Nat.le_refl _)
  rw [e]
  exact hF
theorem Held_st (w : World) (B g : Nat) (v : Value) (limit : Int) (pre : ByteArray) (h : FrSt w B g v limit pre) :
    Calls Try.prog 9 #[.pointer (some ⟨g, 0, none⟩)] w fun en w' => en = .returned (.int .i64 ((keptS pre (cutAt limit pre 0)).size : Int)) ∧ w = w' := Held_any w B g v limit _ _ _ h
end Go.Proofs.Ytbgmnfkfbiemaaa.W

/-! ## What a Feed leaves alone, told by types; a text's bytes as a slice. -/
namespace Go.Proofs.Ytbgmnfkfbiemaaa.W
open Go.RowKit Go.Proofs.YtbgmnfkfbiemaaaW.PrintWords Go.Proofs.YtbgmnfkfbiemaaaW.PrintLast
set_option linter.unusedVariables false
set_option linter.unusedSimpArgs false

theorem At.typed {w : World} {a b : Nat} {s t : TypeId} {cs ds : Array Value} (h : At w a s cs) (k : w.heap[b]? = some (.cells ds t (0, 0))) (hne : s ≠ t) : a ≠ b := h.ne (show At w b t ds from k) hne
theorem held_typed {w : World} {B : Nat} {ok : Nat → Prop} {v : Value} {ys : List Int} (hv : Kd.R (Kd.int .u8) 5 w B ok v ys) {b : Nat} (h : v.ownBlock = some b) : B ≤ b ∧ b < w.heap.size ∧ ∃ cells, w.heap[b]? = some (.cells cells 5 (0, 0)) := by
  obtain ⟨_, h1, h2, q, hq, cells, hc⟩ := (Kd.R_bound hv).1 b h
  have : q = 5 := by
    rcases List.mem_cons.1 hq with h | h
    · exact h
    · exact absurd h (by show q ∉ ([] : List Nat); simp)
  subst this
  exact ⟨h1, h2, cells, hc⟩
theorem Two.keep {w w' : World} {B g b : Nat} {t : TypeId} {cs : Array Value} {v : Value} {limit given err : Int} {H : ByteArray} (k : Two w w' g v.ownBlock) (hF : FrAt w B g v limit H given err) (h : At w b t cs) (h1 : t ≠ 51) (h2 : t ≠ 5) : At w' b t cs := by
  refine k.at h (h.ne hF.mem h1) (fun e => ?_)
  obtain ⟨_, _, cells, hc⟩ := held_typed hF.row e.symm
  exact h.typed hc h2 rfl
theorem Two.over {α : Type} {d : Kd α} {e base : Nat} {ok : Nat → Prop} {u : Value} {xs : List α} {w w' : World} {B g : Nat} {v : Value} {limit given err : Int} {H : ByteArray} (k : Two w w' g v.ownBlock) (hF : FrAt w B g v limit H given err) (h : d.R e w base ok u xs)
    (ht : ∀ q, q ∈ e :: d.E → q ≠ 51 ∧ q ≠ 5) : d.R e w' base ok u xs := by
  refine Kd.R_mono (Kd.R_move (Kd.R_bound h) (fun b hb => ?_)) (fun _ hk => hk.1)
  obtain ⟨_, _, hl, q, hq, cells, hc⟩ := hb
  refine k.block b hl (fun e => ?_) (fun e => ?_)
  · subst e
    exact (At.ne (show At w b q cells from hc) hF.mem (ht q hq).1) rfl
  · obtain ⟨_, _, cells2, hc2⟩ := held_typed hF.row e.symm
    exact (At.ne (show At w b q cells from hc) (show At w b 5 cells2 from hc2) (ht q hq).2) rfl
theorem Two.base {w w' w0 : World} {B0 B g : Nat} {v : Value} {limit given err : Int} {H : ByteArray} (k : Two w w' g v.ownBlock) (hF : FrAt w B g v limit H given err) (h : Below B0 w0 w) (hB : B0 ≤ w.heap.size) (hg : B0 ≤ g) (hb : B0 ≤ B) : Below B0 w0 w' :=
  k.far h hB hg (fun b e => by have := (held_typed hF.row e).1; omega)
/-- The framer, where rows of another type, or blocks of another, have been written. -/
theorem FrAt.grown {w w' : World} {B g : Nat} {v : Value} {limit given err : Int} {H : ByteArray} (h : FrAt w B g v limit H given err) {α : Type} {d : Kd α} {e base : Nat} {ok : Nat → Prop} {u : Value} {xs : List α} (hu : d.R e w base ok u xs) (h1 : e ≠ 51) (h2 : e ≠ 5) (hg : w.grownBy w' u.ownBlock) : FrAt w' B g v limit H given err := by
  refine ⟨(hg.block g h.mem.lt (Kd.R_ne hu h.mem h1)).trans h.mem, Kd.R_over h.row hu (fun q hq => ?_) hg⟩
  rcases List.mem_cons.1 hq with h | h
  · rw [h]; exact Ne.symm h2
  · exact absurd h (by show q ∉ ([] : List Nat); simp)
theorem str_conv (s : ByteArray) (W : World) : (convert 9 32 (.string s)).run Try.prog W = .ok (.slice (some ⟨W.heap.size, 0, none⟩) s.size (grownCap W s.size 0 5)) (Lib.bytesWorld W 5 s) :=
  print_bytes (P := Try.prog) 9 32 5 Try.underlying9 Try.underlying32 Try.underlying5 s W
theorem str_reads (W : World) (s : ByteArray) (hs : s.size ≤ 9223372036854775807) : Kd.C (Kd.int .u8) (Lib.bytesWorld W 5 s) (some ⟨W.heap.size, 0, none⟩) s.size (numsOf s) :=
  Kd.C_of_reads (d := (0 : Int)) (h1 := fun _ => rfl) (bytes_reads W 5 s hs)
theorem str_below (W : World) (s : ByteArray) : Below W.heap.size W (Lib.bytesWorld W 5 s) := bytes_below (Below.refl _ _) (Nat.le_refl _) 5 s
end Go.Proofs.Ytbgmnfkfbiemaaa.W

/-! ## Plain laws of the statements' own helpers: pieces (a stream cut anywhere), same. -/
namespace Go.Proofs.Ytbgmnfkfbiemaaa.W
open Go.RowKit Go.Proofs.YtbgmnfkfbiemaaaW.PrintWords
set_option linter.unusedVariables false
set_option linter.unusedSimpArgs false

/-- Texts, one behind the other. -/
def joinL : List ByteArray → ByteArray
  | [] => ⟨#[]⟩
  | x :: l => x ++ joinL l
theorem app_nil (s : ByteArray) : s ++ ⟨#[]⟩ = s := by
  have e : numsOf (s ++ ⟨#[]⟩) = numsOf s := by rw [nums_app]; show numsOf s ++ [] = _; simp
  rw [← nums_str (s ++ ⟨#[]⟩), e, nums_str]
theorem nil_app (s : ByteArray) : (⟨#[]⟩ : ByteArray) ++ s = s := by
  have e : numsOf ((⟨#[]⟩ : ByteArray) ++ s) = numsOf s := by rw [nums_app]; show [] ++ numsOf s = _; simp
  rw [← nums_str ((⟨#[]⟩ : ByteArray) ++ s), e, nums_str]
theorem app_assoc (a b c : ByteArray) : a ++ b ++ c = a ++ (b ++ c) := by
  have e : numsOf (a ++ b ++ c) = numsOf (a ++ (b ++ c)) := by rw [nums_app, nums_app, nums_app, nums_app, List.append_assoc]
  rw [← nums_str (a ++ b ++ c), e, nums_str]
theorem joinL_app (l m : List ByteArray) : joinL (l ++ m) = joinL l ++ joinL m := by
  induction l with
  | nil => rw [List.nil_append]; exact (nil_app _).symm
  | cons x l ih => rw [List.cons_append, joinL, joinL, ih, app_assoc]
theorem join_take (l : List ByteArray) (i : Nat) (h : i < l.length) : joinL (l.take (i + 1)) = joinL (l.take i) ++ l.getD i ⟨#[]⟩ := by
  rw [List.take_succ_eq_append_getElem h, joinL_app]
  congr 1
  rw [joinL, joinL, app_nil, List.getD_eq_getElem?_getD, List.getElem?_eq_getElem h]
  rfl
theorem ext_split (s : ByteArray) (n : Nat) (h : n ≤ s.size) : s.extract 0 n ++ s.extract n s.size = s := by
  have e : numsOf (s.extract 0 n ++ s.extract n s.size) = numsOf s := by rw [nums_app, ← nums_take, ← nums_drop, List.take_append_drop]
  rw [← nums_str (s.extract 0 n ++ s.extract n s.size), e, nums_str]
theorem wf_i64 {x : Int} (h : (Lit.int .i64 x).wf = true) : -9223372036854775808 ≤ x ∧ x < 9223372036854775808 := by
  simp [Lit.wf] at h
  have e : IntKind.i64.min = -9223372036854775808 := rfl
  omega
theorem cut_count (limit : Int) (s : ByteArray) : ∀ (n p : Nat), p ≤ s.size → s.size + 1 ≤ n + p → 2 * (cutAt limit s p).1.length + p ≤ s.size ∧ ∀ x ∈ (cutAt limit s p).1, x.size ≤ s.size := by
  intro n
  induction n with
  | zero => intro p hp hn; omega
  | succ n ih =>
    intro p hp hn
    by_cases hpe : p < s.size
    · rw [cutAt_in hpe]
      by_cases c1 : ¬ (lookS limit (s.extract p s.size)).2.2 = 0
      · rw [if_pos c1]; exact ⟨by simp; omega, fun x hx => by simp at hx⟩
      rw [if_neg c1]
      by_cases c2 : 0 < missS (lookS limit (s.extract p s.size)) ((s.extract p s.size).size : Int)
      · rw [if_pos c2]; exact ⟨by simp; omega, fun x hx => by simp at hx⟩
      rw [if_neg c2]
      have hw := whole_of (limit := limit) (b := s.extract p s.size) (by simp; omega) (Classical.not_not.1 c1) c2
      have hz : (s.extract p s.size).size = s.size - p := by simp
      rw [hz] at hw
      have := ih (p + ((lookS limit (s.extract p s.size)).1 + (lookS limit (s.extract p s.size)).2.1).toNat) (by omega) (by omega)
      refine ⟨by simp only [List.length_cons]; omega, fun x hx => ?_⟩
      rcases List.mem_cons.1 hx with rfl | hx
      · rw [ByteArray.size_extract]; omega
      · exact this.2 x hx
    · rw [cutAt_end (by omega)]; exact ⟨by simp; omega, fun x hx => by simp at hx⟩
end Go.Proofs.Ytbgmnfkfbiemaaa.W

/-! ## Plain law of messages laid end to end (no program in sight). -/
namespace Go.Proofs.Ytbgmnfkfbiemaaa.W
open Go.RowKit Go.Proofs.YtbgmnfkfbiemaaaW.PrintWords
set_option linter.unusedVariables false
set_option linter.unusedSimpArgs false

def shortS (s : ByteArray) : ByteArray := if s.size ≤ 4096 then s else s.extract 0 4096
theorem shortS_size (s : ByteArray) : (shortS s).size ≤ 4096 ∧ (shortS s).size ≤ s.size := by
  unfold shortS
  split
  · exact ⟨by omega, Nat.le_refl _⟩
  · rw [ByteArray.size_extract]; omega
/-- What a message made by wrap is: its header is whole, its size is told by it. -/
structure Msg (m : ByteArray) (a n : Int) : Prop where
  a2 : 2 ≤ a
  a6 : a ≤ 6
  n0 : 0 ≤ n
  size : (m.size : Int) = a + n
  look : ∀ limit : Int, a + n ≤ limit → lookS limit m = (a, n, 0)
/-- A message that is whole, something behind it. -/
theorem cut_msg (limit a n : Int) (m u : ByteArray) (hm : Msg m a n) (hl : a + n ≤ limit) : cutAt limit (m ++ u) 0 = (m :: (cutAt limit u 0).1, (m.size : Int) + (cutAt limit u 0).2.1, (cutAt limit u 0).2.2) := by
  have hs := hm.size
  have h2 := hm.a2
  have h0 := hm.n0
  have hz : (m ++ u).size = m.size + u.size := ByteArray.size_append
  have hk := hm.look limit hl
  have hmo := look_more limit m u (by rw [hk]) (by rw [hk]; exact h2) (by rw [hk]; simp only; omega)
  have hsh := cut_shift limit (m ++ u) m.size (by omega) ((m ++ u).size + 1) 0 (Nat.zero_le _) (by omega)
  have en : m.extract m.size m.size = ⟨#[]⟩ := by
    apply ByteArray.ext
    simp
  rw [Nat.add_zero, ext_app m u m.size (Nat.le_refl _), en, nil_app] at hsh
  rw [cutAt_in (by omega), extract_whole, hmo, hk, if_neg (by simp)]
  have m0 : missS (a, n, 0) ((m ++ u).size : Int) = 0 := by
    unfold missS
    rw [if_neg (fun z => by have := z.1; simp at this; omega), if_pos rfl, if_neg (by simp only; omega)]
  rw [m0, if_neg (by omega)]
  have e : (a + n).toNat = m.size := by omega
  simp only [e, Nat.zero_add, hsh]
  rw [ext_front m u _ (Nat.le_refl _), extract_whole]
theorem cut_msgs (limit : Int) (u : ByteArray) : ∀ ms : List ByteArray, (∀ m ∈ ms, ∃ a n, Msg m a n ∧ a + n ≤ limit) →
    cutAt limit (joinL ms ++ u) 0 = (ms ++ (cutAt limit u 0).1, ((joinL ms).size : Int) + (cutAt limit u 0).2.1, (cutAt limit u 0).2.2) := by
  intro ms
  induction ms with
  | nil =>
    intro _
    rw [joinL, nil_app]
    have : ((⟨#[]⟩ : ByteArray).size : Int) = 0 := rfl
    rw [this, Int.zero_add]
    rfl
  | cons m ms ih =>
    intro h
    obtain ⟨a, n, hm, hl⟩ := h m (by simp)
    have hz : (m ++ joinL ms).size = m.size + (joinL ms).size := ByteArray.size_append
    rw [joinL, app_assoc, cut_msg limit a n m _ hm hl, ih (fun x hx => h x (by simp [hx])), hz]
    simp only [List.cons_append]
    congr 2
    omega
theorem numAt_le (b t : ByteArray) : ∀ (n : Nat) (i v v' : Int), v ≤ v' → (∀ j : Nat, j < n → byt b (i + j) ≤ byt t (i + j)) → numAt b i n v ≤ numAt t i n v' := by
  intro n
  induction n with
  | zero => intro i v v' h _; exact h
  | succ n ih =>
    intro i v v' h hb
    have h0 := hb 0 (by omega)
    simp only [Int.natCast_zero, Int.add_zero] at h0
    refine ih (i + 1) _ _ (by omega) (fun j hj => ?_)
    have := hb (j + 1) (by omega)
    have e : i + ((j + 1 : Nat) : Int) = i + 1 + j := by omega
    rw [e] at this
    exact this
/-- What a known header says of the bytes. -/
theorem look_says {limit s n : Int} {t : ByteArray} (h : lookS limit t = (s, n, 0)) (h2 : 2 ≤ s) :
    2 ≤ t.size ∧ ((byt t 1 < 128 ∧ s = 2 ∧ n = byt t 1) ∨ (129 ≤ byt t 1 ∧ byt t 1 ≤ 132 ∧ s = byt t 1 - 126 ∧ n = numAt t 2 (byt t 1 - 128).toNat 0)) := by
  unfold lookS at h
  have r1 := byt_range t 1
  by_cases c1 : t.size = 0
  · rw [if_pos c1] at h; simp only [Prod.mk.injEq] at h; omega
  rw [if_neg c1] at h
  by_cases c2 : byt t 0 ≠ 48
  · rw [if_pos c2] at h; simp only [Prod.mk.injEq] at h; omega
  rw [if_neg c2] at h
  by_cases c3 : t.size = 1
  · rw [if_pos c3] at h; simp only [Prod.mk.injEq] at h; omega
  rw [if_neg c3] at h
  by_cases c4 : byt t 1 = 128
  · rw [if_pos c4] at h; simp only [Prod.mk.injEq] at h; omega
  rw [if_neg c4] at h
  by_cases c5 : 132 < byt t 1
  · rw [if_pos c5] at h; simp only [Prod.mk.injEq] at h; omega
  rw [if_neg c5] at h
  by_cases c6 : byt t 1 < 128
  · rw [if_pos c6] at h
    by_cases c7 : limit < 2 + byt t 1
    · rw [if_pos c7] at h; simp only [Prod.mk.injEq] at h; omega
    · rw [if_neg c7] at h; simp only [Prod.mk.injEq] at h; exact ⟨by omega, .inl ⟨c6, by omega, by omega⟩⟩
  rw [if_neg c6] at h
  by_cases c7 : byt t 1 - 126 ≤ (t.size : Int) ∧ limit < byt t 1 - 126 + numAt t 2 (byt t 1 - 128).toNat 0
  · rw [if_pos c7] at h; simp only [Prod.mk.injEq] at h; omega
  · rw [if_neg c7] at h
    simp only [Prod.mk.injEq] at h
    exact ⟨by omega, .inr ⟨by omega, by omega, by omega, h.2.1.symm⟩⟩
/-- A proper front of a message: nothing is cut of it, nothing refused; where one byte is lacking, Need is 1. -/
theorem front_none (limit a n : Int) (m : ByteArray) (hm : Msg m a n) (hl : a + n ≤ limit) (e : Nat) (he : e < m.size) :
    cutAt limit (m.extract 0 e) 0 = ([], 0, 0) ∧ (e + 1 = m.size → needS limit (m.extract 0 e) = 1) := by
  obtain ⟨r, hr⟩ : ∃ r, r = m.extract 0 e := ⟨_, rfl⟩
  obtain ⟨u, hu⟩ : ∃ u, u = m.extract e m.size := ⟨_, rfl⟩
  have hru : r ++ u = m := by rw [hr, hu]; exact ext_split m e (by omega)
  have hz : r.size = e := by rw [hr, ByteArray.size_extract]; omega
  have hk := hm.look limit hl
  have hs := hm.size
  have h2 := hm.a2
  have h0 := hm.n0
  rw [← hr]
  have herr : (lookS limit r).2.2 = 0 := by
    refine Classical.byContradiction fun h => ?_
    have := look_bad limit r u h
    rw [hru, hk] at this
    exact h this.symm
  have hmiss : r.size ≠ 0 → 0 < missS (lookS limit r) (r.size : Int) := by
    intro hr0
    refine Classical.byContradiction fun h => ?_
    have hw := whole_of hr0 herr h
    have hmo := look_more limit r u herr hw.1 (by omega)
    rw [hru, hk] at hmo
    rw [← hmo] at hw
    simp only at hw
    omega
  refine ⟨?_, fun h1 => ?_⟩
  · by_cases hr0 : r.size = 0
    · exact cutAt_end (by omega)
    · rw [cutAt_in (by omega), extract_whole, if_neg (fun z => z herr), if_pos (hmiss hr0)]
      rfl
  · rcases look_range limit r with ⟨h, h3⟩ | ⟨x, h, h3, h4⟩ | ⟨s, q, h, h3, h4, h5, h6, h7, h8⟩
    · unfold needS
      rw [h]
      show missS (0, 0, 0) _ = _
      unfold missS
      rw [if_pos ⟨rfl, rfl, rfl⟩]
      omega
    · rw [h] at herr
      simp at herr
      omega
    · have key : s + q = a + n := by
        by_cases hse : s ≤ (r.size : Int)
        · have hmo := look_more limit r u herr (by rw [h]; exact h3) (by rw [h]; exact hse)
          rw [hru, hk, h] at hmo
          simp only [Prod.mk.injEq] at hmo
          omega
        · obtain ⟨g1, g2⟩ := look_says h h3
          obtain ⟨f1, f2⟩ := look_says hk h2
          have y1 : byt m 1 = byt r 1 := by
            have := byt_l r u 1 (by omega)
            rw [hru] at this
            simpa using this
          rw [y1] at f2
          rcases g2 with ⟨p1, p2, p3⟩ | ⟨p1, p2, p3, p4⟩
          · omega
          · rcases f2 with ⟨o1, o2, o3⟩ | ⟨o1, o2, o3, o4⟩
            · omega
            · have hle := numAt_le r m (byt r 1 - 128).toNat 2 0 0 (Int.le_refl _) (fun j hj => by
                have e2 : ((2 : Int) + j) = ((2 + j : Nat) : Int) := by omega
                rw [e2]
                by_cases hj2 : 2 + j < r.size
                · have := byt_l r u (2 + j) hj2
                  rw [hru] at this
                  rw [this]
                  exact Int.le_refl _
                · rw [byt_out r (2 + j) (by omega)]
                  exact (byt_range _ _).1)
              rw [← p4, ← o4] at hle
              omega
      unfold needS missS
      rw [h, if_neg (fun z => by have := z.1; simp at this; omega), if_pos rfl, if_pos (by simp only; omega)]
      simp only
      omega
theorem join_at : ∀ (ms : List ByteArray) (i : Nat), i < (joinL ms).size → ∃ (j e : Nat) (m : ByteArray), ms[j]? = some m ∧ e < m.size ∧
    (joinL ms).extract 0 i = joinL (ms.take j) ++ m.extract 0 e ∧ (joinL ms).extract 0 (i + 1) = joinL (ms.take j) ++ m.extract 0 (e + 1) := by
  intro ms
  induction ms with
  | nil => intro i h; exact absurd h (Nat.not_lt_zero _)
  | cons x ms ih =>
    intro i h
    have hz : (x ++ joinL ms).size = x.size + (joinL ms).size := ByteArray.size_append
    rw [joinL] at h ⊢
    by_cases hx : i < x.size
    · exact ⟨0, i, x, rfl, hx, by rw [ext_front x _ i (by omega)]; exact (nil_app _).symm, by rw [ext_front x _ (i + 1) (by omega)]; exact (nil_app _).symm⟩
    · obtain ⟨j, e, m, h1, h2, h3, h4⟩ := ih (i - x.size) (by omega)
      have big : ∀ q, x.size ≤ q → (x ++ joinL ms).extract 0 q = x ++ (joinL ms).extract 0 (q - x.size) := by
        intro q hq
        have e1 : numsOf ((x ++ joinL ms).extract 0 q) = numsOf (x ++ (joinL ms).extract 0 (q - x.size)) := by
          rw [← nums_take, nums_app, nums_app, ← nums_take, List.take_append, nums_len, List.take_of_length_le (by rw [nums_len]; exact hq)]
        rw [← nums_str ((x ++ joinL ms).extract 0 q), e1, nums_str]
      refine ⟨j + 1, e, m, h1, h2, ?_, ?_⟩
      · rw [big i (by omega), h3, List.take_succ_cons, joinL, app_assoc]
      · have e2 : i + 1 - x.size = i - x.size + 1 := by omega
        rw [big (i + 1) (by omega), e2, h4, List.take_succ_cons, joinL, app_assoc]
theorem kept_join (j r : ByteArray) (l : List ByteArray) : keptS (j ++ r) (l, (j.size : Int), 0) = r := by
  have en : j.extract j.size j.size = ⟨#[]⟩ := by
    apply ByteArray.ext
    simp
  have ex := ext_app j r j.size (Nat.le_refl _)
  rw [en, nil_app] at ex
  unfold keptS
  rw [if_pos rfl]
  exact ex
theorem step_facts (L : Int) (ms : List ByteArray) (h : ∀ m ∈ ms, ∃ a n, Msg m a n ∧ a + n ≤ L) (i : Nat) (hi : i < (joinL ms).size) :
    (cutAt L ((joinL ms).extract 0 i) 0).2.2 = 0 ∧ (cutAt L ((joinL ms).extract 0 (i + 1)) 0).2.2 = 0 ∧ ((keptS ((joinL ms).extract 0 (i + 1)) (cutAt L ((joinL ms).extract 0 (i + 1)) 0)).size : Int) < L ∧
    ((cutAt L ((joinL ms).extract 0 (i + 1)) 0).1 = (cutAt L ((joinL ms).extract 0 i) 0).1 ∨
      ∃ x, (cutAt L ((joinL ms).extract 0 (i + 1)) 0).1 = (cutAt L ((joinL ms).extract 0 i) 0).1 ++ [x] ∧ needS L (keptS ((joinL ms).extract 0 i) (cutAt L ((joinL ms).extract 0 i) 0)) = 1) := by
  obtain ⟨j, e, m, h1, h2, h3, h4⟩ := join_at ms i hi
  obtain ⟨hj, hm⟩ := List.getElem?_eq_some_iff.1 h1
  obtain ⟨a, n, hM, hl⟩ := h m (by rw [← hm]; exact List.getElem_mem _)
  have hs := hM.size
  have g2 := hM.a2
  have g0 := hM.n0
  have ht : ∀ q ∈ ms.take j, ∃ a n, Msg q a n ∧ a + n ≤ L := fun q hq => h q (List.mem_of_mem_take hq)
  have f1 := front_none L a n m hM hl e h2
  have c1 := cut_msgs L (m.extract 0 e) (ms.take j) ht
  rw [f1.1] at c1
  simp only [List.append_nil, Int.add_zero] at c1
  rw [h3, h4, c1]
  by_cases he : e + 1 < m.size
  · have f2 := front_none L a n m hM hl (e + 1) he
    have c2 := cut_msgs L (m.extract 0 (e + 1)) (ms.take j) ht
    rw [f2.1] at c2
    simp only [List.append_nil, Int.add_zero] at c2
    rw [c2, kept_join]
    have hz : (m.extract 0 (e + 1)).size = e + 1 := by rw [ByteArray.size_extract]; omega
    exact ⟨rfl, rfl, by omega, .inl rfl⟩
  · have ee : e + 1 = m.size := by omega
    have c2 := cut_msgs L ⟨#[]⟩ (ms.take j ++ [m]) (fun q hq => by
      rcases List.mem_append.1 hq with hq | hq
      · exact ht q hq
      · rw [List.mem_singleton.1 hq]; exact ⟨a, n, hM, hl⟩)
    have c0 : cutAt L ⟨#[]⟩ 0 = ([], 0, 0) := cutAt_end (Nat.le_refl _)
    have ej : joinL (ms.take j ++ [m]) = joinL (ms.take j) ++ m := by rw [joinL_app, joinL, joinL, app_nil]
    rw [c0, app_nil] at c2
    simp only [List.append_nil, Int.add_zero] at c2
    have ek := kept_join (joinL (ms.take j ++ [m])) ⟨#[]⟩ (ms.take j ++ [m])
    rw [app_nil] at ek
    rw [ee, extract_whole, ← ej, c2, ek, kept_join]
    refine ⟨rfl, rfl, ?_, .inr ⟨m, rfl, f1.2 ee⟩⟩
    show (0 : Int) < L
    omega
theorem ext_step (s : ByteArray) (i : Nat) (h : i < s.size) : s.extract 0 (i + 1) = s.extract 0 i ++ s.extract i (i + 1) := by
  have e : numsOf (s.extract 0 (i + 1)) = numsOf (s.extract 0 i ++ s.extract i (i + 1)) := by
    rw [nums_app, ← nums_take, ← nums_take, nums_ext, List.take_add_one]
    congr 1
    rw [List.drop_append_of_le_length (by rw [List.length_take, nums_len]; omega)]
    rw [List.drop_of_length_le (by rw [List.length_take, nums_len]; omega), List.nil_append]
  rw [← nums_str (s.extract 0 (i + 1)), e, nums_str]
end Go.Proofs.Ytbgmnfkfbiemaaa.W
