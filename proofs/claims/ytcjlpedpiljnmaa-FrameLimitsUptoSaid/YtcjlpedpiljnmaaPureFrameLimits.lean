/- FrameLimits: a message is taken just up to the limit, and refused when its header is whole, not a byte earlier. -/
import Derived.Test.YtcjlpedpiljnmaaStFrameLimits
import Derived.Test.YtcjlpedpiljnmaaFWl
namespace Go.Proofs.Ytcjlpedpiljnmaa.Pure
open Go.RowKit Go.Proofs.Ytcjlpedpiljnmaa.GM Go.Proofs.YtcjlpedpiljnmaaW.PrintWords Go.Proofs.YtcjlpedpiljnmaaW.PrintLast
set_option linter.unusedVariables false
set_option linter.unusedSimpArgs false

theorem extract_all (s : ByteArray) : s.extract 0 s.size = s := by
  apply ByteArray.ext
  rw [ByteArray.data_extract]
  exact Array.extract_size
theorem cut_refused (limit : Int) (t : ByteArray) (e : Int) (he : ¬ e = 0) (h : W.lookS limit t = (0, 0, e)) (hz : 0 < t.size) : W.cutAt limit t 0 = ([], 0, e) := by
  rw [W.cutAt_in hz, extract_all, h, if_pos he]
  rfl
theorem cut_short (limit : Int) (t : ByteArray) (h0 : (W.lookS limit t).2.2 = 0) (h1 : 0 < W.missS (W.lookS limit t) (t.size : Int)) : W.cutAt limit t 0 = ([], 0, 0) := by
  by_cases hz : 0 < t.size
  · rw [W.cutAt_in hz, extract_all, if_neg (fun z => z h0), if_pos h1]
    rfl
  · rw [W.cutAt_end (by omega)]
    rfl
theorem cut_one (limit a n : Int) (t : ByteArray) (ha : 2 ≤ a) (hn : 0 ≤ n) (h : W.lookS limit t = (a, n, 0)) (hz : (t.size : Int) = a + n) : W.cutAt limit t 0 = ([t], (t.size : Int), 0) := by
  have m0 : W.missS (a, n, 0) (t.size : Int) = 0 := by
    unfold W.missS
    rw [if_neg (fun z => by have := z.1; simp at this; omega), if_pos rfl, if_neg (by simp; omega)]
  rw [W.cutAt_in (by omega), extract_all, h, if_neg (by simp), m0, if_neg (by omega)]
  have e : (a + n).toNat = t.size := by omega
  simp only [e, Nat.zero_add, extract_all]
  rw [W.cutAt_end (Nat.le_refl _)]

theorem FrameLimits : StFrameLimits.Pure := by
  intro form body less w0 hs w1
  refine ⟨30, ?_⟩
  obtain ⟨b, hb, hb2⟩ : ∃ b : ByteArray, rosterlaw03_short.f body = some b ∧ b.size ≤ 4096 := by
    unfold rosterlaw03_short.f
    by_cases c : (body.size : Int) > 4096
    · rw [if_pos c, if_pos (by omega), if_pos (by omega)]
      exact ⟨_, rfl, by simp; omega⟩
    · rw [if_neg c]
      exact ⟨_, rfl, by omega⟩
  obtain ⟨k, hk⟩ : ∃ k, k = W.wrapK form b.size := ⟨_, rfl⟩
  have kr : 0 ≤ k ∧ k ≤ 4 ∧ (k = 0 → (b.size : Int) < 128) ∧ (k = 1 → (b.size : Int) < 256) := by
    rw [hk]
    unfold W.wrapK
    repeat' split
    all_goals omega
  obtain ⟨k0, k4, kc, kc1⟩ := kr
  have hwr := W.wrap_f form b hb2 10
  rw [← hk] at hwr
  have hlen := W.wrapH_len k b.size k0 k4
  have L := fun limit e => W.wrap_look limit k b.size k0 k4 (by omega) (by omega) kc kc1 b e
  have S := fun limit e => W.wrap_short limit k b.size k0 k4 (by omega) (by omega) kc kc1 b e
  have hz : ((W.wrapH k b.size).length : Nat) + b.size = (strOfNums (W.wrapH k b.size) ++ b).size := by rw [ByteArray.size_append, W.wstr_size]
  generalize strOfNums (W.wrapH k b.size) ++ b = m at hwr L S hz
  have hmz : (m.size : Int) = 2 + k + b.size := by omega
  unfold rosterlaw03_FrameLimits.f
  rw [hb, Option.bind_some, hwr, Option.bind_some]
  have l0 := L (m.size : Int) m.size (Nat.le_refl _) (by omega)
  rw [extract_all, if_neg (by omega)] at l0
  have c0 := cut_one (m.size : Int) (2 + k) b.size m (by omega) (by omega) l0 (by omega)
  unfold frame_Split.f
  rw [if_pos (by omega), c0]
  simp only [Option.bind_some, List.length_singleton]
  rw [if_pos (by rfl), if_pos (by decide)]
  have er : rdOf ByteArray.empty [m] 0 = m := rfl
  rw [er, if_pos rfl]
  have main : ∀ (q : Nat) (x : Int), 1 ≤ x → x ≤ (m.size : Int) → rosterlaw03_FrameLimits.j2 (q + 2) b x m = some true := by
    intro q x x1 x2
    have wl : wrap64 ((m.size : Int) - x) = m.size - x := by unfold wrap64; omega
    have wh : wrap64 ((m.size : Int) - (b.size : Int)) = 2 + k := by unfold wrap64; omega
    have wh1 : wrap64 (2 + k - 1) = 1 + k := by unfold wrap64; omega
    have l1 := L ((m.size : Int) - x) (2 + k).toNat (by omega) (by omega)
    rw [if_pos (by omega)] at l1
    have z1 : (m.extract 0 (2 + k).toNat).size = (2 + k).toNat := by rw [ByteArray.size_extract]; omega
    have c1 := cut_refused ((m.size : Int) - x) _ 33 (by decide) l1 (by omega)
    have s1 := S ((m.size : Int) - x) (1 + k).toNat (by omega) (by omega)
    have z2 : (m.extract 0 (1 + k).toNat).size = (1 + k).toNat := by rw [ByteArray.size_extract]; omega
    have c2 := cut_short ((m.size : Int) - x) (m.extract 0 (1 + k).toNat) s1.1 (by rw [z2]; exact s1.2)
    have l2 := L ((m.size : Int) - x) m.size (Nat.le_refl _) (by omega)
    rw [extract_all, if_pos (by omega)] at l2
    have n2 : W.needS ((m.size : Int) - x) m = 0 := by
      unfold W.needS
      rw [l2]
      rfl
    rw [show q + 2 = (q + 1) + 1 by omega, rosterlaw03_FrameLimits.j2, wh, wl, if_pos (by omega), if_pos (by omega)]
    unfold frame_Split.f
    rw [if_pos (by omega), c1]
    simp only [Option.bind_some]
    rw [if_pos (by trivial), if_pos (by trivial)]
    show rosterlaw03_FrameLimits.j3 (q + 1) x m (2 + k) false = _
    rw [rosterlaw03_FrameLimits.j3, if_neg (by simp), wh1, wl, if_pos (by omega), if_pos (by omega)]
    unfold frame_Split.f frame_Need.f
    rw [if_pos (by omega), c2, if_pos (by omega), n2]
    rfl
  show rosterlaw03_FrameLimits.j0 (29 + 1) b less m false = _
  rw [rosterlaw03_FrameLimits.j0, if_neg (by simp)]
  by_cases h1 : less < 1
  · rw [if_pos h1, rosterlaw03_FrameLimits.j1, if_pos rfl]
    exact main 26 1 (by omega) (by omega)
  · rw [if_neg h1, rosterlaw03_FrameLimits.j1]
    by_cases h2 : less > (m.size : Int)
    · rw [if_pos (by simpa using h2)]
      exact main 26 1 (by omega) (by omega)
    · rw [if_neg (by simpa using h2)]
      exact main 26 less (by omega) (by omega)
end Go.Proofs.Ytcjlpedpiljnmaa.Pure
