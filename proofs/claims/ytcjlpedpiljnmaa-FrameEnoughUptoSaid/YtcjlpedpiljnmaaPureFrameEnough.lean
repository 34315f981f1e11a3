/- FrameEnough: with fewer bytes than Need tells, whatever they are, no message is whole; with just so many, where the header is whole, it is. -/
import Derived.Test.YtcjlpedpiljnmaaStFrameEnough
namespace Go.Proofs.Ytcjlpedpiljnmaa.Pure
open Go.RowKit Go.Proofs.Ytcjlpedpiljnmaa.GM Go.Proofs.YtcjlpedpiljnmaaW.PrintWords Go.Proofs.YtcjlpedpiljnmaaW.PrintLast
set_option linter.unusedVariables false
set_option linter.unusedSimpArgs false

theorem extract_all (s : ByteArray) : s.extract 0 s.size = s := by
  apply ByteArray.ext
  rw [ByteArray.data_extract]
  exact Array.extract_size
theorem byt_left (b u : ByteArray) (i : Nat) (h : i < b.size) : W.byt (b ++ u) i = W.byt b i := by
  rw [← W.getD_byt, ← W.getD_byt]
  have e : (b ++ u).data.toList = b.data.toList ++ u.data.toList := by rw [ByteArray.data_append, Array.toList_append]
  rw [e, List.getD_eq_getElem?_getD, List.getD_eq_getElem?_getD, List.getElem?_append_left (by simpa using h)]
theorem byt_beyond (b : ByteArray) (i : Nat) (h : b.size ≤ i) : W.byt b i = 0 := by
  unfold W.byt
  rw [dif_neg (by simp; omega)]
theorem numAt_le (b t : ByteArray) : ∀ (n : Nat) (i v v' : Int), v ≤ v' → (∀ j : Nat, j < n → W.byt b (i + j) ≤ W.byt t (i + j)) → W.numAt b i n v ≤ W.numAt t i n v' := by
  intro n
  induction n with
  | zero => intro i v v' h _; exact h
  | succ n ih =>
    intro i v v' h hb
    have h0 := hb 0 (by omega)
    simp only [Int.natCast_zero, Int.add_zero] at h0
    refine ih (i + 1) _ _ (by omega) (fun j hj => ?_)
    have := hb (j + 1) (by omega)
    have e : i + ((j + 1 : Nat) : Int) = i + 1 + j := by omega
    rw [e] at this
    exact this
theorem numAt_same (b t : ByteArray) (n : Nat) (i v : Int) (h : ∀ j : Nat, j < n → W.byt b (i + j) = W.byt t (i + j)) : W.numAt b i n v = W.numAt t i n v := by
  have h1 := numAt_le b t n i v v (Int.le_refl _) (fun j hj => by rw [h j hj]; exact Int.le_refl _)
  have h2 := numAt_le t b n i v v (Int.le_refl _) (fun j hj => by rw [h j hj]; exact Int.le_refl _)
  omega
/-- What a whole or a known header says of the bytes. -/
theorem look_says {limit s n : Int} {t : ByteArray} (h : W.lookS limit t = (s, n, 0)) (h2 : 2 ≤ s) :
    2 ≤ t.size ∧ W.byt t 0 = 48 ∧ ((W.byt t 1 < 128 ∧ s = 2 ∧ n = W.byt t 1 ∧ 2 + W.byt t 1 ≤ limit) ∨ (129 ≤ W.byt t 1 ∧ W.byt t 1 ≤ 132 ∧ s = W.byt t 1 - 126 ∧ n = W.numAt t 2 (W.byt t 1 - 128).toNat 0 ∧ (s ≤ (t.size : Int) → s + n ≤ limit))) := by
  unfold W.lookS at h
  have r1 := W.byt_range t 1
  by_cases c1 : t.size = 0
  · rw [if_pos c1] at h; simp only [Prod.mk.injEq] at h; omega
  rw [if_neg c1] at h
  by_cases c2 : W.byt t 0 ≠ 48
  · rw [if_pos c2] at h; simp only [Prod.mk.injEq] at h; omega
  rw [if_neg c2] at h
  by_cases c3 : t.size = 1
  · rw [if_pos c3] at h; simp only [Prod.mk.injEq] at h; omega
  rw [if_neg c3] at h
  by_cases c4 : W.byt t 1 = 128
  · rw [if_pos c4] at h; simp only [Prod.mk.injEq] at h; omega
  rw [if_neg c4] at h
  by_cases c5 : 132 < W.byt t 1
  · rw [if_pos c5] at h; simp only [Prod.mk.injEq] at h; omega
  rw [if_neg c5] at h
  by_cases c6 : W.byt t 1 < 128
  · rw [if_pos c6] at h
    by_cases c7 : limit < 2 + W.byt t 1
    · rw [if_pos c7] at h; simp only [Prod.mk.injEq] at h; omega
    · rw [if_neg c7] at h; simp only [Prod.mk.injEq] at h; exact ⟨by omega, by omega, .inl ⟨c6, by omega, by omega, by omega⟩⟩
  rw [if_neg c6] at h
  by_cases c7 : W.byt t 1 - 126 ≤ (t.size : Int) ∧ limit < W.byt t 1 - 126 + W.numAt t 2 (W.byt t 1 - 128).toNat 0
  · rw [if_pos c7] at h; simp only [Prod.mk.injEq] at h; omega
  · rw [if_neg c7] at h
    simp only [Prod.mk.injEq] at h
    exact ⟨by omega, by omega, .inr ⟨by omega, by omega, by omega, h.2.1.symm, fun hs => by omega⟩⟩
/-- A header that is whole says the same with more behind it. -/
theorem look_ext {limit s n : Int} {b : ByteArray} (u : ByteArray) (h : W.lookS limit b = (s, n, 0)) (h2 : 2 ≤ s) (hs : s ≤ b.size) : W.lookS limit (b ++ u) = (s, n, 0) := by
  obtain ⟨z, e0, hc⟩ := look_says h h2
  have y0 := byt_left b u 0 (by omega)
  have y1 := byt_left b u 1 (by omega)
  have hz : (b ++ u).size = b.size + u.size := ByteArray.size_append
  simp only [Int.natCast_zero, Int.natCast_one] at y0 y1
  unfold W.lookS
  rw [if_neg (by omega), if_neg (by rw [y0]; omega), if_neg (by omega), if_neg (by rw [y1]; omega), if_neg (by rw [y1]; omega), y1]
  rcases hc with ⟨q1, q2, q3, q4⟩ | ⟨q1, q2, q3, q4, q5⟩
  · rw [if_pos q1, if_neg (by omega), ← q3, q2]
  · rw [if_neg (by omega)]
    have e : W.numAt (b ++ u) 2 (W.byt b 1 - 128).toNat 0 = W.numAt b 2 (W.byt b 1 - 128).toNat 0 := by
      refine numAt_same _ _ _ _ _ (fun j hj => ?_)
      have := byt_left b u (2 + j) (by omega)
      simpa using this
    rw [e, ← q4, if_neg (by have := q5 hs; omega), q3]
theorem need_cases (limit : Int) (b : ByteArray) (h0 : (W.lookS limit b).2.2 = 0) :
    (b.size < 2 ∧ W.lookS limit b = (0, 0, 0) ∧ W.needS limit b = 2 - b.size) ∨
    (∃ s n, W.lookS limit b = (s, n, 0) ∧ 2 ≤ s ∧ s ≤ 6 ∧ 0 ≤ n ∧ n < 4294967296 ∧ W.needS limit b = if 0 < s + n - b.size then s + n - b.size else 0) := by
  rcases W.look_range limit b with ⟨h, h1⟩ | ⟨e, h, h1, h2⟩ | ⟨s, n, h, h1, h2, h3, h4, h5, h6⟩
  · refine .inl ⟨h1, h, ?_⟩
    unfold W.needS
    rw [h]
    rfl
  · rw [h] at h0
    simp at h0
    omega
  · refine .inr ⟨s, n, h, h1, h2, h3, h4, ?_⟩
    unfold W.needS W.missS
    rw [h, if_neg (fun z => by have := z.1; simp at this; omega), if_pos rfl]
/-- FEWER THAN NEED TELLS: no message is whole. -/
theorem less_none (limit : Int) (b u : ByteArray) (h0 : (W.lookS limit b).2.2 = 0) (hu : (u.size : Int) < W.needS limit b) : (W.cutAt limit (b ++ u) 0).1 = [] := by
  have hz : (b ++ u).size = b.size + u.size := ByteArray.size_append
  by_cases c0 : (b ++ u).size = 0
  · rw [W.cutAt_end (by omega)]
  rw [W.cutAt_in (by omega), extract_all]
  by_cases c1 : ¬ (W.lookS limit (b ++ u)).2.2 = 0
  · rw [if_pos c1]
  rw [if_neg c1]
  by_cases c2 : 0 < W.missS (W.lookS limit (b ++ u)) ((b ++ u).size : Int)
  · rw [if_pos c2]
  exfalso
  obtain ⟨w1, w2, w3, w4, w5, w6⟩ := W.whole_of c0 (Classical.not_not.1 c1) c2
  have ht : W.lookS limit (b ++ u) = ((W.lookS limit (b ++ u)).1, (W.lookS limit (b ++ u)).2.1, 0) := by rw [← Classical.not_not.1 c1]
  obtain ⟨z, e0, hc⟩ := look_says ht w1
  rcases need_cases limit b h0 with ⟨n1, n2, n3⟩ | ⟨s, n, n1, n2, n3, n4, n5, n6⟩
  · omega
  · have hb := look_says n1 n2
    obtain ⟨zb, eb, hcb⟩ := hb
    have y1 := byt_left b u 1 (by omega)
    simp only [Int.natCast_one] at y1
    rw [y1] at hc
    have key : s + n ≤ (W.lookS limit (b ++ u)).1 + (W.lookS limit (b ++ u)).2.1 := by
      rcases hcb with ⟨q1, q2, q3, q4⟩ | ⟨q1, q2, q3, q4, q5⟩
      · rcases hc with ⟨p1, p2, p3, p4⟩ | ⟨p1, p2, p3, p4, p5⟩
        · omega
        · omega
      · rcases hc with ⟨p1, p2, p3, p4⟩ | ⟨p1, p2, p3, p4, p5⟩
        · omega
        · have hle := numAt_le b (b ++ u) (W.byt b 1 - 128).toNat 2 0 0 (Int.le_refl _) (fun j hj => by
            by_cases hj2 : 2 + j < b.size
            · have := byt_left b u (2 + j) hj2
              have e : ((2 + j : Nat) : Int) = 2 + (j : Int) := by omega
              rw [e] at this
              rw [this]
              exact Int.le_refl _
            · have := byt_beyond b (2 + j) (by omega)
              have e : ((2 + j : Nat) : Int) = 2 + (j : Int) := by omega
              rw [e] at this
              rw [this]
              exact (W.byt_range _ _).1)
          rw [p3, p4, q3, q4]
          omega
    rw [n6] at hu
    split at hu <;> omega
/-- JUST SO MANY, behind a whole header: the message is whole. -/
theorem just_one (limit : Int) (b u : ByteArray) (h0 : (W.lookS limit b).2.2 = 0) (hp : 0 < W.needS limit b) (hu : (u.size : Int) = W.needS limit b) (hw : 6 < b.size ∨ (1 < b.size ∧ W.byt b 1 < 128)) : (W.cutAt limit (b ++ u) 0).1 = [b ++ u] := by
  have hz : (b ++ u).size = b.size + u.size := ByteArray.size_append
  rcases need_cases limit b h0 with ⟨n1, n2, n3⟩ | ⟨s, n, n1, n2, n3, n4, n5, n6⟩
  · omega
  obtain ⟨zb, eb, hcb⟩ := look_says n1 n2
  have hs : s ≤ b.size := by
    rcases hcb with ⟨q1, q2, q3, q4⟩ | ⟨q1, q2, q3, q4, q5⟩ <;> omega
  have hl := look_ext u n1 n2 hs
  have hx : W.needS limit b = s + n - b.size := by
    rw [n6] at hp ⊢
    by_cases c : 0 < s + n - b.size
    · rw [if_pos c]
    · rw [if_neg c] at hp; omega
  have htz : ((b ++ u).size : Int) = s + n := by omega
  have m0 : W.missS (s, n, 0) ((b ++ u).size : Int) = 0 := by
    unfold W.missS
    rw [if_neg (fun z => by have := z.1; simp at this; omega), if_pos rfl, if_neg (by simp; omega)]
  rw [W.cutAt_in (by omega), extract_all, hl, if_neg (by simp), m0, if_neg (by omega)]
  have e : (s + n).toNat = (b ++ u).size := by omega
  simp only [e, Nat.zero_add, extract_all]
  rw [W.cutAt_end (Nat.le_refl _)]
/-- What is cut of the whole, told by what its beginning says. -/
theorem cut_first (limit : Int) (b : ByteArray) : ((W.cutAt limit b 0).1 = [] ∧ ((W.cutAt limit b 0).2.2 = 0 → (W.lookS limit b).2.2 = 0 ∧ 0 < W.needS limit b) ∧ ((W.cutAt limit b 0).2.2 ≠ 0 → W.needS limit b = 0)) ∨
    (∃ x l, (W.cutAt limit b 0).1 = x :: l ∧ W.needS limit b = 0 ∧ x.size ≤ b.size ∧ x = b.extract 0 x.size) := by
  by_cases c0 : b.size = 0
  · left
    rw [W.cutAt_end (by omega)]
    have hl : W.lookS limit b = (0, 0, 0) := by unfold W.lookS; rw [if_pos c0]
    refine ⟨rfl, fun _ => ⟨by rw [hl], ?_⟩, fun h => absurd rfl h⟩
    unfold W.needS
    rw [hl]
    show 0 < W.missS (0, 0, 0) _
    unfold W.missS
    rw [if_pos ⟨rfl, rfl, rfl⟩]
    omega
  rw [W.cutAt_in (by omega), extract_all]
  by_cases c1 : ¬ (W.lookS limit b).2.2 = 0
  · left
    rw [if_pos c1]
    refine ⟨rfl, fun h => absurd h c1, fun _ => ?_⟩
    unfold W.needS W.missS
    rw [if_neg (fun z => c1 z.2.2), if_neg c1]
  rw [if_neg c1]
  by_cases c2 : 0 < W.missS (W.lookS limit b) (b.size : Int)
  · left
    rw [if_pos c2]
    exact ⟨rfl, fun _ => ⟨Classical.not_not.1 c1, c2⟩, fun h => absurd rfl h⟩
  · right
    rw [if_neg c2]
    obtain ⟨w1, w2, w3, w4, w5, w6⟩ := W.whole_of c0 (Classical.not_not.1 c1) c2
    have hx : (b.extract 0 ((W.lookS limit b).1 + (W.lookS limit b).2.1).toNat).size = ((W.lookS limit b).1 + (W.lookS limit b).2.1).toNat := by rw [ByteArray.size_extract]; omega
    refine ⟨_, _, rfl, ?_, by omega, by rw [hx]⟩
    rcases need_cases limit b (Classical.not_not.1 c1) with ⟨n1, n2, n3⟩ | ⟨s, n, n1, n2, n3, n4, n5, n6⟩
    · omega
    · rw [n1] at w5
      simp only at w5
      rw [n6, if_neg (by omega)]
theorem need_range (limit : Int) (b : ByteArray) (hb : b.size ≤ 1048576) : 0 ≤ W.needS limit b ∧ W.needS limit b < 5000000000 := by
  by_cases h0 : (W.lookS limit b).2.2 = 0
  · rcases need_cases limit b h0 with ⟨n1, n2, n3⟩ | ⟨s, n, n1, n2, n3, n4, n5, n6⟩
    · omega
    · rw [n6]
      split <;> omega
  · unfold W.needS W.missS
    rw [if_neg (fun z => h0 z.2.2), if_neg h0]
    omega

theorem FrameEnough : StFrameEnough.Pure := by
  intro limit b more w0 hb hm
  refine ⟨3, ?_⟩
  unfold rosterlaw03_FrameEnough.f
  have hn := need_range limit b hb
  have f1 : frame_Need.f limit b = some (W.needS limit b) := by unfold frame_Need.f; rw [if_pos (by omega)]
  have f2 : frame_Need.f limit ⟨#[]⟩ = some 2 := by
    unfold frame_Need.f
    rw [if_pos (by decide)]
    rfl
  have fs : ∀ t : ByteArray, t.size ≤ 2097152 → frame_Split.f limit t = some ((W.cutAt limit t 0).1, (W.cutAt limit t 0).2.1, (W.cutAt limit t 0).2.2) := by
    intro t ht
    unfold frame_Split.f
    rw [if_pos (by omega)]
  rw [f1, Option.bind_some, if_neg (by omega), f2, Option.bind_some]
  show rosterlaw03_FrameEnough.j0 (2 + 1) limit b more (W.needS limit b) false = _
  obtain ⟨x, hx⟩ : ∃ x, x = W.needS limit b := ⟨_, rfl⟩
  rw [← hx] at hn ⊢
  rw [rosterlaw03_FrameEnough.j0, if_neg (by simp), fs b (by omega), Option.bind_some]
  rcases cut_first limit b with ⟨c1, c2, c3⟩ | ⟨y, l, c1, c2, c3, c4⟩
  · rw [c1]
    simp only [List.length_nil, Int.natCast_zero]
    rw [if_neg (by decide)]
    by_cases e0 : (W.cutAt limit b 0).2.2 = 0
    · obtain ⟨l0, l1⟩ := c2 e0
      rw [← hx] at l1
      rw [if_pos e0, if_neg (by omega)]
      by_cases cm : (more.size : Int) < x
      · rw [if_pos cm, if_pos (by omega), fs _ (by rw [ByteArray.size_append]; omega), Option.bind_some, less_none limit b more l0 (by rw [← hx]; exact cm)]
        rfl
      · have ew : wrap64 (x - 1) = x - 1 := by unfold wrap64; omega
        have z1 : (more.extract 0 x.toNat).size = x.toNat := by rw [ByteArray.size_extract]; omega
        have z2 : (more.extract 0 (x - 1).toNat).size = (x - 1).toNat := by rw [ByteArray.size_extract]; omega
        have hl := less_none limit b (more.extract 0 (x - 1).toNat) l0 (by rw [z2, ← hx]; omega)
        have hj := just_one limit b (more.extract 0 x.toNat) l0 (by omega) (by rw [z1, ← hx]; omega)
        rw [if_neg cm, if_pos (by omega), if_pos (by omega), z1, if_pos (by omega), fs _ (by rw [ByteArray.size_append]; omega), Option.bind_some, ew, z2]
        have last : ((frame_Split.f limit (b ++ more.extract 0 (x - 1).toNat)).bind fun q => some ((q.1.length : Int) == 0)) = some true := by
          rw [fs _ (by rw [ByteArray.size_append]; omega), Option.bind_some, hl]
          rfl
        by_cases d1 : (b.size : Int) > 6
        · rw [if_pos d1, hj (.inl (by omega))]
          simp only [List.length_singleton, Int.natCast_one]
          rw [if_pos trivial, if_pos (by decide)]
          have er : rdOf ByteArray.empty [b ++ more.extract 0 x.toNat] 0 = b ++ more.extract 0 x.toNat := rfl
          rw [er, if_pos rfl, if_pos (by omega), if_pos (by omega), if_pos (by omega)]
          exact last
        · rw [if_neg d1]
          by_cases d2 : (b.size : Int) > 1
          · rw [if_pos d2, if_pos (by omega)]
            have eb : bt b 1 = W.byt b 1 := rfl
            rw [eb]
            by_cases d3 : W.byt b 1 < 128
            · rw [if_pos d3, hj (.inr ⟨by omega, d3⟩)]
              simp only [List.length_singleton, Int.natCast_one]
              rw [if_pos trivial, if_pos (by decide)]
              have er : rdOf ByteArray.empty [b ++ more.extract 0 x.toNat] 0 = b ++ more.extract 0 x.toNat := rfl
              rw [er, if_pos rfl, if_pos (by omega), if_pos (by omega), if_pos (by omega)]
              exact last
            · rw [if_neg d3, if_pos (by omega), if_pos (by omega), if_pos (by omega)]
              exact last
          · rw [if_neg d2, if_pos (by omega), if_pos (by omega), if_pos (by omega)]
            exact last
    · rw [if_neg e0]
      have := c3 e0
      rw [← hx] at this
      rw [this]
      rfl
  · rw [c1]
    simp only [List.length_cons]
    rw [if_pos (by omega), if_pos (by omega), if_pos (by omega)]
    have er : rdOf ByteArray.empty (y :: l) 0 = y := rfl
    rw [er, if_pos (by omega), if_pos (by omega)]
    have e2 : (((y.size : Int)) : Int).toNat = y.size := by omega
    rw [e2, ← c4]
    simp
end Go.Proofs.Ytcjlpedpiljnmaa.Pure
