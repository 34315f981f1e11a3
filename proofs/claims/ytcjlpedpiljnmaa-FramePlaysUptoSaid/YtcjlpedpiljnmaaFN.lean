/- Plain law: what the printed functions of frame and of the document's frame answer of one header (Need, Head, look). -/
import Derived.Test.YtcjlpedpiljnmaaGLx1
import Derived.Test.YtcjlpedpiljnmaaGLx2
import Derived.Test.YtcjlpedpiljnmaaFS
namespace Go.Proofs.Ytcjlpedpiljnmaa.W
open Go.RowKit Go.Proofs.Ytcjlpedpiljnmaa.GL Go.Proofs.YtcjlpedpiljnmaaW.PrintWords Go.Proofs.YtcjlpedpiljnmaaW.PrintLast
set_option linter.unusedVariables false
set_option linter.unusedSimpArgs false

theorem wr (x : Int) (h0 : 0 ≤ x) (h1 : x < 9223372036854775808) : wrap64 x = x := by unfold wrap64; omega
theorem bt_byt : bt = byt := rfl
theorem toList_len (b : ByteArray) : b.toList.length = b.size := by rw [ByteArray.toList_eq, Array.length_toList]; rfl
theorem toList_nil (b : ByteArray) : b.toList = ([] : List UInt8) ↔ b.size = 0 := by
  rw [← List.length_eq_zero_iff, toList_len]

def headS (limit : Int) (b : ByteArray) : Int × Int :=
  if ¬ (lookS limit b).2.2 = 0 then (0, (lookS limit b).2.2) else if (lookS limit b).1 = 0 then (0, 0) else if (b.size : Int) < (lookS limit b).1 then (0, 0)
  else ((lookS limit b).1 + (lookS limit b).2.1, 0)

theorem look_f (limit : Int) (b : ByteArray) (hb : b.size ≤ 140737488351232) : frame_look.f limit b = some (lookS limit b) := by
  have r0 := byt_range b 0
  have r1 := byt_range b 1
  unfold frame_look.f lookS
  rw [bt_byt]
  by_cases c1 : b.size = 0
  · rw [if_pos ((toList_nil b).2 c1), if_pos c1]
  rw [if_neg (fun h => c1 ((toList_nil b).1 h)), if_neg c1, if_pos (show (0 : Int) < b.size by omega)]
  by_cases c2 : byt b 0 = 48
  · rw [if_pos c2, if_neg (show ¬ byt b 0 ≠ 48 by omega)]
    by_cases c3 : b.size = 1
    · rw [if_pos (show (b.size : Int) = 1 by omega), if_pos c3]
    rw [if_neg (show ¬ (b.size : Int) = 1 by omega), if_neg c3, if_pos (show (1 : Int) < b.size by omega), wr (byt b 1) (by omega) (by omega)]
    by_cases c4 : byt b 1 = 128
    · rw [if_pos c4, if_pos c4]
    rw [if_neg c4, if_neg c4]
    by_cases c5 : 132 < byt b 1
    · rw [if_pos (show byt b 1 > 132 from c5), if_pos c5]
    rw [if_neg (show ¬ byt b 1 > 132 from c5), if_neg c5]
    by_cases c6 : byt b 1 < 128
    · rw [if_neg (show ¬ byt b 1 > 128 by omega), if_pos c6, if_pos (show (b.size : Int) ≥ 2 by omega), wr (2 + byt b 1) (by omega) (by omega)]
      by_cases c7 : limit < 2 + byt b 1
      · rw [if_pos (show 2 + byt b 1 > limit from c7), if_pos c7]
      · rw [if_neg (show ¬ 2 + byt b 1 > limit from c7), if_neg c7]
    · have e : wrap64 (byt b 1 - 128) = byt b 1 - 128 := wr _ (by omega) (by omega)
      have e2 : wrap64 (wrap64 (2 + byt b 1) - 128) = byt b 1 - 126 := by rw [wr (2 + byt b 1) (by omega) (by omega), wr _ (by omega) (by omega)]; omega
      have hn := numAt_lt b 2 (byt b 1 - 128).toNat (by omega)
      rw [if_pos (show byt b 1 > 128 by omega), if_neg c6, e, e2]
      unfold frame_length.f
      rw [if_pos ⟨hb, by omega, by omega⟩, Option.bind_some, wr (byt b 1 - 126 + numAt b 2 (byt b 1 - 128).toNat 0) (by omega) (by omega)]
      by_cases c7 : byt b 1 - 126 ≤ (b.size : Int)
      · rw [if_pos (show (b.size : Int) ≥ byt b 1 - 126 from c7)]
        by_cases c8 : limit < byt b 1 - 126 + numAt b 2 (byt b 1 - 128).toNat 0
        · rw [if_pos (show byt b 1 - 126 + numAt b 2 (byt b 1 - 128).toNat 0 > limit from c8), if_pos ⟨c7, c8⟩]
        · rw [if_neg (show ¬ byt b 1 - 126 + numAt b 2 (byt b 1 - 128).toNat 0 > limit from c8), if_neg (fun h => c8 h.2)]
      · rw [if_neg (show ¬ (b.size : Int) ≥ byt b 1 - 126 from c7), if_neg (fun h => c7 h.1)]
  · rw [if_neg c2, if_pos (show byt b 0 ≠ 48 from c2)]

theorem miss_f (h : Int × Int × Int) (n : Int) (h0 : 0 ≤ n) (h1 : n ≤ 140737488351232) (hh : (h.1 = 0 ∧ h.2.1 = 0 ∧ h.2.2 = 0) ∨ ¬ h.2.2 = 0 ∨ (2 ≤ h.1 ∧ h.1 ≤ 6 ∧ 0 ≤ h.2.1 ∧ h.2.1 < 4294967296 ∧ h.2.2 = 0)) :
    frame_head_missing.f h.1 h.2.1 h.2.2 n = some (missS h n) := by
  unfold frame_head_missing.f
  rw [if_pos ⟨h0, h1, hh⟩]
theorem look_ok (limit : Int) (b : ByteArray) : ((lookS limit b).1 = 0 ∧ (lookS limit b).2.1 = 0 ∧ (lookS limit b).2.2 = 0) ∨ ¬ (lookS limit b).2.2 = 0 ∨ (2 ≤ (lookS limit b).1 ∧ (lookS limit b).1 ≤ 6 ∧ 0 ≤ (lookS limit b).2.1 ∧ (lookS limit b).2.1 < 4294967296 ∧ (lookS limit b).2.2 = 0) := by
  rcases look_range limit b with ⟨h, _⟩ | ⟨e, h, h1, h2⟩ | ⟨s, n, h, h1, h2, h3, h4, _⟩
  · rw [h]; exact .inl ⟨rfl, rfl, rfl⟩
  · rw [h]; exact .inr (.inl (by simp; omega))
  · rw [h]; exact .inr (.inr ⟨h1, h2, h3, h4, rfl⟩)
theorem need_f (limit : Int) (b : ByteArray) (hb : b.size ≤ 140737488351232) : frame_Need.f limit b = some (needS limit b) := by
  unfold frame_Need.f needS
  rw [look_f limit b hb, Option.bind_some, miss_f _ _ (by omega) (by omega) (look_ok limit b)]
  rfl

/-! The document's header. -/
def finS (limit n x : Int) : Int × Int := if limit < 2 + n + x then (0, 33) else (2 + n + x, 0)
theorem head_step (limit n v i : Int) (b : ByteArray) (h : i < 2 + n) (hn : n ≤ 4) (hi : 0 ≤ i) (hs : i < (b.size : Int)) (v0 : 0 ≤ v) (v1 : v < 4294967296) (k : Nat) :
    rosterref03_Head.l0 (k + 1) limit b n v i = rosterref03_Head.l0 k limit b n (v * 256 + byt b i) (i + 1) := by
  have r := byt_range b i
  rw [rosterref03_Head.l0, wr (2 + n) (by omega) (by omega), if_pos h, if_pos hi, if_pos hs, bt_byt, wr (byt b i) (by omega) (by omega), wr (v * 256) (by omega) (by omega), wr _ (by omega) (by omega), wr _ (by omega) (by omega)]
theorem head_end (limit n v : Int) (b : ByteArray) (hn0 : 0 ≤ n) (hn : n ≤ 4) (v0 : 0 ≤ v) (v1 : v < 4294967296) (k : Nat) :
    rosterref03_Head.l0 (k + 1) limit b n v (2 + n) = some (finS limit n v) := by
  rw [rosterref03_Head.l0, wr (2 + n) (by omega) (by omega), if_neg (by omega), wr _ (by omega) (by omega)]
  unfold finS
  by_cases c : limit < 2 + n + v
  · rw [if_pos (by omega), if_pos c]
  · rw [if_neg (by omega), if_neg c]
theorem head_loop (limit n : Int) (b : ByteArray) (hn0 : 1 ≤ n) (hn : n ≤ 4) (hs : 2 + n ≤ (b.size : Int)) : Ev (fun k => rosterref03_Head.l0 k limit b n 0 2) (finS limit n (numAt b 2 n.toNat 0)) := by
  have r2 := byt_range b 2
  have r3 := byt_range b 3
  have r4 := byt_range b 4
  have r5 := byt_range b 5
  rcases (show n = 1 ∨ n = 2 ∨ n = 3 ∨ n = 4 by omega) with rfl | rfl | rfl | rfl
  · refine Ev.step (fun k => head_step limit 1 _ 2 b (by omega) (by omega) (by omega) (by omega) (by omega) (by omega) k) ?_
    exact Ev.step (f := fun _ => some _) (fun k => head_end limit 1 _ b (by omega) (by omega) (by omega) (by omega) k) (Ev.now _)
  · refine Ev.step (fun k => head_step limit 2 _ 2 b (by omega) (by omega) (by omega) (by omega) (by omega) (by omega) k) ?_
    refine Ev.step (fun k => head_step limit 2 _ 3 b (by omega) (by omega) (by omega) (by omega) (by omega) (by omega) k) ?_
    exact Ev.step (f := fun _ => some _) (fun k => head_end limit 2 _ b (by omega) (by omega) (by omega) (by omega) k) (Ev.now _)
  · refine Ev.step (fun k => head_step limit 3 _ 2 b (by omega) (by omega) (by omega) (by omega) (by omega) (by omega) k) ?_
    refine Ev.step (fun k => head_step limit 3 _ 3 b (by omega) (by omega) (by omega) (by omega) (by omega) (by omega) k) ?_
    refine Ev.step (fun k => head_step limit 3 _ 4 b (by omega) (by omega) (by omega) (by omega) (by omega) (by omega) k) ?_
    exact Ev.step (f := fun _ => some _) (fun k => head_end limit 3 _ b (by omega) (by omega) (by omega) (by omega) k) (Ev.now _)
  · refine Ev.step (fun k => head_step limit 4 _ 2 b (by omega) (by omega) (by omega) (by omega) (by omega) (by omega) k) ?_
    refine Ev.step (fun k => head_step limit 4 _ 3 b (by omega) (by omega) (by omega) (by omega) (by omega) (by omega) k) ?_
    refine Ev.step (fun k => head_step limit 4 _ 4 b (by omega) (by omega) (by omega) (by omega) (by omega) (by omega) k) ?_
    refine Ev.step (fun k => head_step limit 4 _ 5 b (by omega) (by omega) (by omega) (by omega) (by omega) (by omega) k) ?_
    exact Ev.step (f := fun _ => some _) (fun k => head_end limit 4 _ b (by omega) (by omega) (by omega) (by omega) k) (Ev.now _)

theorem further_f (c : Int) (h0 : 0 ≤ c) (h1 : c < 256) : rosterref03_further.f c = some (if c < 128 then 0 else if c = 128 then -1 else if 132 < c then -2 else c - 128) := by
  unfold rosterref03_further.f
  by_cases c1 : c < 128
  · rw [if_pos c1, if_pos c1]
  rw [if_neg c1, if_neg c1]
  by_cases c2 : c = 128
  · rw [if_pos c2, if_pos c2]
  rw [if_neg c2, if_neg c2]
  by_cases c3 : 132 < c
  · rw [if_pos (show c > 132 from c3), if_pos c3]
  · rw [if_neg (show ¬ c > 132 from c3), if_neg c3, wr c h0 (by omega), wr (c - 128) (by omega) (by omega)]

/-- THE DOCUMENT'S HEADER: what frame's own look tells of it. -/
theorem head_ev (limit : Int) (b : ByteArray) : Ev (fun k => rosterref03_Head.f k limit b) (headS limit b) := by
  have r0 := byt_range b 0
  have r1 := byt_range b 1
  by_cases c1 : b.size = 0
  · have hS : headS limit b = (0, 0) := by unfold headS lookS; simp [c1]
    rw [hS]
    refine Ev.congr (f := fun _ => some _) (fun k => ?_) (Ev.now _)
    unfold rosterref03_Head.f
    rw [if_pos (show (b.size : Int) = 0 by omega)]
  by_cases c2 : byt b 0 = 48
  rotate_left
  · have hS : headS limit b = (0, 30) := by unfold headS lookS; simp [c1, c2]
    rw [hS]
    refine Ev.congr (f := fun _ => some _) (fun k => ?_) (Ev.now _)
    unfold rosterref03_Head.f
    rw [bt_byt, if_neg (show ¬ (b.size : Int) = 0 by omega), if_pos (show (0 : Int) < b.size by omega), if_neg c2]
  by_cases c3 : b.size = 1
  · have hS : headS limit b = (0, 0) := by unfold headS lookS; simp [c1, c2, c3]
    rw [hS]
    refine Ev.congr (f := fun _ => some _) (fun k => ?_) (Ev.now _)
    unfold rosterref03_Head.f
    rw [bt_byt, if_neg (show ¬ (b.size : Int) = 0 by omega), if_pos (show (0 : Int) < b.size by omega), if_pos c2, if_pos (show (b.size : Int) = 1 by omega)]
  have h0 : ∀ k, rosterref03_Head.f k limit b = (rosterref03_further.f (byt b 1)).bind fun t109 => (if t109 = (-1) then (some (0, 31)) else (if t109 = (-2) then (some (0, 32)) else (if (b.size : Int) < (wrap64 (2 + t109)) then (some (0, 0)) else (if t109 = 0 then (rosterref03_Head.j0 k limit b t109 (wrap64 (byt b 1))) else (rosterref03_Head.j0 k limit b t109 0))))) := by
    intro k
    unfold rosterref03_Head.f
    rw [bt_byt, if_neg (show ¬ (b.size : Int) = 0 by omega), if_pos (show (0 : Int) < b.size by omega), if_pos c2, if_neg (show ¬ (b.size : Int) = 1 by omega), if_pos (show (1 : Int) < b.size by omega)]
  refine Ev.congr h0 ?_
  by_cases c4 : byt b 1 = 128
  · have hS : headS limit b = (0, 31) := by unfold headS lookS; simp [c1, c2, c3, c4]
    rw [hS]
    refine Ev.congr (f := fun _ => some _) (fun k => ?_) (Ev.now _)
    rw [further_f _ r1.1 r1.2, if_neg (show ¬ byt b 1 < 128 by omega), if_pos c4]
    rfl
  by_cases c5 : 132 < byt b 1
  · have hS : headS limit b = (0, 32) := by unfold headS lookS; simp [c1, c2, c3, c4, c5]
    rw [hS]
    refine Ev.congr (f := fun _ => some _) (fun k => ?_) (Ev.now _)
    rw [further_f _ r1.1 r1.2, if_neg (show ¬ byt b 1 < 128 by omega), if_neg c4, if_pos c5]
    rfl
  by_cases c6 : byt b 1 < 128
  · have hS : headS limit b = finS limit 0 (byt b 1) := by
      unfold headS lookS finS
      by_cases c7 : limit < 2 + byt b 1
      · have c8 : limit < 2 + 0 + byt b 1 := by omega
        simp [c1, c2, c3, c4, c5, c6, c7, c8]
      · have c8 : ¬ limit < 2 + 0 + byt b 1 := by omega
        have c9 : ¬ (b.size : Int) < 2 := by omega
        simp [c1, c2, c3, c4, c5, c6, c7, c8, c9]
    rw [hS]
    refine Ev.congr (f := fun k => rosterref03_Head.j0 k limit b 0 (byt b 1)) (fun k => ?_) ?_
    · rw [further_f _ r1.1 r1.2, if_pos c6, Option.bind_some, if_neg (by omega), if_neg (by omega), wr (2 + 0) (by omega) (by omega), if_neg (show ¬ (b.size : Int) < 2 + 0 by omega), if_pos rfl, wr (byt b 1) (by omega) (by omega)]
    refine Ev.step (f := fun k => rosterref03_Head.l0 k limit b 0 (byt b 1) (2 + 0)) (fun k => by rw [rosterref03_Head.j0]; rfl) ?_
    exact Ev.step (f := fun _ => some _) (fun k => head_end limit 0 _ b (by omega) (by omega) (by omega) (by omega) k) (Ev.now _)
  · have hn := numAt_lt b 2 (byt b 1 - 128).toNat (by omega)
    have hf : rosterref03_further.f (byt b 1) = some (byt b 1 - 128) := by rw [further_f _ r1.1 r1.2, if_neg c6, if_neg c4, if_neg c5]
    rw [hf]
    by_cases c7 : (b.size : Int) < 2 + (byt b 1 - 128)
    · have hS : headS limit b = (0, 0) := by
        unfold headS lookS
        have c8 : ¬ byt b 1 - 126 ≤ (b.size : Int) := by omega
        have c9 : ¬ byt b 1 - 126 = 0 := by omega
        have c10 : (b.size : Int) < byt b 1 - 126 := by omega
        simp [c1, c2, c3, c4, c5, c6, c8, c9, c10]
      rw [hS]
      refine Ev.congr (f := fun _ => some _) (fun k => ?_) (Ev.now _)
      rw [Option.bind_some, if_neg (by omega), if_neg (by omega), wr (2 + (byt b 1 - 128)) (by omega) (by omega), if_pos c7]
    · have hS : headS limit b = finS limit (byt b 1 - 128) (numAt b 2 (byt b 1 - 128).toNat 0) := by
        unfold headS lookS finS
        have c8 : byt b 1 - 126 ≤ (b.size : Int) := by omega
        have c9 : ¬ byt b 1 - 126 = 0 := by omega
        have c10 : ¬ (b.size : Int) < byt b 1 - 126 := by omega
        have e : 2 + (byt b 1 - 128) = byt b 1 - 126 := by omega
        rw [e]
        by_cases c11 : limit < byt b 1 - 126 + numAt b 2 (byt b 1 - 128).toNat 0
        · simp [c1, c2, c3, c4, c5, c6, c8, c9, c10, c11]
        · simp [c1, c2, c3, c4, c5, c6, c8, c9, c10, c11]
      rw [hS]
      refine Ev.congr (f := fun k => rosterref03_Head.j0 k limit b (byt b 1 - 128) 0) (fun k => ?_) ?_
      · rw [Option.bind_some, if_neg (by omega), if_neg (by omega), wr (2 + (byt b 1 - 128)) (by omega) (by omega), if_neg c7, if_neg (by omega)]
      refine Ev.step (f := fun k => rosterref03_Head.l0 k limit b (byt b 1 - 128) 0 2) (fun k => by rw [rosterref03_Head.j0]) ?_
      exact head_loop limit (byt b 1 - 128) b (by omega) (by omega) (by omega)

/-! The document's Need. -/
theorem rneed_step (n m v i : Int) (b : ByteArray) (h : i < 2 + n) (hn : n ≤ 4) (hi : 0 ≤ i) (v0 : 0 ≤ v) (v1 : v < 4294967296) (k : Nat) :
    rosterref03_Need.l0 (k + 1) b n m v i = rosterref03_Need.l0 k b n m (v * 256 + byt b i) (i + 1) := by
  have r := byt_range b i
  rw [rosterref03_Need.l0, wr (2 + n) (by omega) (by omega), if_pos h, wr (i + 1) (by omega) (by omega), wr (v * 256) (by omega) (by omega), bt_byt]
  by_cases c : i < (b.size : Int)
  · rw [if_pos c, if_pos hi, wr (byt b i) (by omega) (by omega), wr _ (by omega) (by omega)]
  · have z : byt b i = 0 := by unfold byt; rw [dif_neg (by omega)]
    rw [if_neg c, z, Int.add_zero]
theorem rneed_end (n m v : Int) (b : ByteArray) (hn0 : 0 ≤ n) (hn : n ≤ 4) (m0 : -1000000000000000 ≤ m) (m1 : m ≤ 10) (v0 : 0 ≤ v) (v1 : v < 4294967296) (k : Nat) :
    rosterref03_Need.l0 (k + 1) b n m v (2 + n) = some (m + v) := by
  rw [rosterref03_Need.l0, wr (2 + n) (by omega) (by omega), if_neg (by omega)]
  unfold wrap64
  congr 1
  omega
theorem rneed_loop (n m : Int) (b : ByteArray) (hn0 : 1 ≤ n) (hn : n ≤ 4) (m0 : -1000000000000000 ≤ m) (m1 : m ≤ 10) : Ev (fun k => rosterref03_Need.l0 k b n m 0 2) (m + numAt b 2 n.toNat 0) := by
  have r2 := byt_range b 2
  have r3 := byt_range b 3
  have r4 := byt_range b 4
  have r5 := byt_range b 5
  rcases (show n = 1 ∨ n = 2 ∨ n = 3 ∨ n = 4 by omega) with rfl | rfl | rfl | rfl
  · refine Ev.step (fun k => rneed_step 1 m _ 2 b (by omega) (by omega) (by omega) (by omega) (by omega) k) ?_
    exact Ev.step (f := fun _ => some _) (fun k => rneed_end 1 m _ b (by omega) (by omega) m0 m1 (by omega) (by omega) k) (Ev.now _)
  · refine Ev.step (fun k => rneed_step 2 m _ 2 b (by omega) (by omega) (by omega) (by omega) (by omega) k) ?_
    refine Ev.step (fun k => rneed_step 2 m _ 3 b (by omega) (by omega) (by omega) (by omega) (by omega) k) ?_
    exact Ev.step (f := fun _ => some _) (fun k => rneed_end 2 m _ b (by omega) (by omega) m0 m1 (by omega) (by omega) k) (Ev.now _)
  · refine Ev.step (fun k => rneed_step 3 m _ 2 b (by omega) (by omega) (by omega) (by omega) (by omega) k) ?_
    refine Ev.step (fun k => rneed_step 3 m _ 3 b (by omega) (by omega) (by omega) (by omega) (by omega) k) ?_
    refine Ev.step (fun k => rneed_step 3 m _ 4 b (by omega) (by omega) (by omega) (by omega) (by omega) k) ?_
    exact Ev.step (f := fun _ => some _) (fun k => rneed_end 3 m _ b (by omega) (by omega) m0 m1 (by omega) (by omega) k) (Ev.now _)
  · refine Ev.step (fun k => rneed_step 4 m _ 2 b (by omega) (by omega) (by omega) (by omega) (by omega) k) ?_
    refine Ev.step (fun k => rneed_step 4 m _ 3 b (by omega) (by omega) (by omega) (by omega) (by omega) k) ?_
    refine Ev.step (fun k => rneed_step 4 m _ 4 b (by omega) (by omega) (by omega) (by omega) (by omega) k) ?_
    refine Ev.step (fun k => rneed_step 4 m _ 5 b (by omega) (by omega) (by omega) (by omega) (by omega) k) ?_
    exact Ev.step (f := fun _ => some _) (fun k => rneed_end 4 m _ b (by omega) (by omega) m0 m1 (by omega) (by omega) k) (Ev.now _)

theorem rneed_ev (limit : Int) (b : ByteArray) (hb : b.size ≤ 140737488351232) : Ev (fun k => rosterref03_Need.f k limit b) (needS limit b) := by
  have r1 := byt_range b 1
  have hh := head_ev limit b
  unfold needS
  refine Ev.bind hh ?_
  unfold headS
  rcases look_range limit b with ⟨h, h1⟩ | ⟨e, h, h1, h2⟩ | ⟨s, n, h, h1, h2, h3, h4, h5, h6⟩
  · rw [h]
    have e : missS (0, 0, 0) (b.size : Int) = 2 - b.size := rfl
    rw [e, if_neg (by simp), if_pos rfl]
    refine Ev.congr (f := fun _ => some _) (fun k => ?_) (Ev.now _)
    rw [if_pos rfl, if_neg (by simp), if_pos (show (b.size : Int) < 2 by omega), wr _ (by omega) (by omega)]
  · rw [h]
    have hz : ¬ e = 0 := by omega
    have e : missS (0, 0, e) (b.size : Int) = 0 := by unfold missS; rw [if_neg (fun z => hz z.2.2), if_neg hz]
    rw [e, if_pos hz]
    refine Ev.congr (f := fun _ => some _) (fun k => ?_) (Ev.now _)
    rw [if_neg hz]
  · have e : missS (s, n, 0) (b.size : Int) = if 0 < s + n - b.size then s + n - b.size else 0 := by unfold missS; rw [if_neg (fun z => by have := z.1; simp at this; omega), if_pos rfl]
    rw [h, e]
    rw [if_neg (show ¬ ¬ (0 : Int) = 0 by simp), if_neg (show ¬ s = 0 by omega)]
    by_cases c : (b.size : Int) < s
    · obtain ⟨e1, e2, e3, e4⟩ := look_wide h c h5
      rw [if_pos c, if_pos (show 0 < s + n - (b.size : Int) by omega)]
      refine Ev.congr (f := fun k => rosterref03_Need.l0 k b (byt b 1 - 128) (s - b.size) 0 2) (fun k => ?_) ?_
      · have hf : rosterref03_further.f (byt b 1) = some (byt b 1 - 128) := by rw [further_f _ r1.1 r1.2, if_neg (by omega), if_neg (by omega), if_neg (by omega)]
        have ew : wrap64 (wrap64 (2 + (byt b 1 - 128)) - (b.size : Int)) = s - b.size := by rw [wr (2 + (byt b 1 - 128)) (by omega) (by omega), wr _ (by omega) (by omega)]; omega
        rw [if_pos rfl, if_neg (by simp), if_neg (show ¬ (b.size : Int) < 2 by omega), if_pos (show (1 : Int) < b.size by omega), bt_byt, hf, Option.bind_some, ew]
      · have hl := rneed_loop (byt b 1 - 128) (s - b.size) b (by omega) (by omega) (by omega) (by omega)
        rw [← e4] at hl
        rw [show s + n - (b.size : Int) = s - b.size + n by omega]
        exact hl
    · rw [if_neg c]
      refine Ev.congr (f := fun _ => some _) (fun k => ?_) (Ev.now _)
      rw [if_pos rfl, if_pos (show s + n > 0 by omega)]
      by_cases c2 : (b.size : Int) ≥ s + n
      · rw [if_pos c2, if_neg (show ¬ 0 < s + n - (b.size : Int) by omega)]
      · rw [if_neg c2, if_pos (show 0 < s + n - (b.size : Int) by omega), wr (s + n - (b.size : Int)) (by omega) (by omega)]

/-! The contracts, for later texts. -/
theorem look_any (limit : Int) (b : ByteArray) (w : World) (hb : b.size ≤ 140737488351232) :
    Calls Try.prog 49 #[.int .i64 limit, .string b] w fun e w' => e = .returned (.agg #[.int .i64 (lookS limit b).1, .int .i64 (lookS limit b).2.1, .int .i64 (lookS limit b).2.2]) ∧ Below w.heap.size w w' :=
  frame_look.calls limit b _ _ _ w (by rw [look_f limit b hb])
theorem fneed_any (limit : Int) (b : ByteArray) (w : World) (hb : b.size ≤ 140737488351232) :
    Calls Try.prog 15 #[.int .i64 limit, .string b] w fun e w' => e = .returned (.int .i64 (needS limit b)) ∧ Below w.heap.size w w' :=
  frame_Need.calls limit b _ w (need_f limit b hb)
theorem rhead_any (limit : Int) (b : ByteArray) (w : World) :
    Calls Try.prog 51 #[.int .i64 limit, .string b] w fun e w' => e = .returned (.tuple #[.int .i64 (headS limit b).1, .int .i64 (headS limit b).2]) ∧ Below w.heap.size w w' := by
  obtain ⟨k, hk⟩ := (head_ev limit b).rounds
  exact (rosterref03_Head.calls k limit b _ _ w (by rw [hk])).mono fun e w' h => ⟨h.1, h.2.below⟩
theorem rneed_any (limit : Int) (b : ByteArray) (w : World) (hb : b.size ≤ 140737488351232) :
    Calls Try.prog 16 #[.int .i64 limit, .string b] w fun e w' => e = .returned (.int .i64 (needS limit b)) ∧ Below w.heap.size w w' := by
  obtain ⟨k, hk⟩ := (rneed_ev limit b hb).rounds
  exact (rosterref03_Need.calls k limit b _ w hk).mono fun e w' h => ⟨h.1, h.2.below⟩
end Go.Proofs.Ytcjlpedpiljnmaa.W
