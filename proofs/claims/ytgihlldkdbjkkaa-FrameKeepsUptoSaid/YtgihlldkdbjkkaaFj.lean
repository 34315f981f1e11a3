/- Plain law of messages laid end to end (no program in sight). -/
import Derived.Test.YtgihlldkdbjkkaaFq
import Derived.Test.YtgihlldkdbjkkaaFd3
import Derived.Test.YtgihlldkdbjkkaaFWl
namespace Go.Proofs.Ytgihlldkdbjkkaa.W
open Go.RowKit Go.Proofs.YtgihlldkdbjkkaaW.PrintWords
open Go.Proofs.Ytgihlldkdbjkkaa.GP
set_option linter.unusedVariables false
set_option linter.unusedSimpArgs false

def shortS (s : ByteArray) : ByteArray := if s.size ≤ 4096 then s else s.extract 0 4096
theorem shortS_size (s : ByteArray) : (shortS s).size ≤ 4096 ∧ (shortS s).size ≤ s.size := by
  unfold shortS
  split
  · exact ⟨by omega, Nat.le_refl _⟩
  · rw [ByteArray.size_extract]; omega
def msgOf (x : Int × ByteArray) : ByteArray := strOfNums (wrapH (wrapK x.1 (shortS x.2).size) (shortS x.2).size) ++ shortS x.2
theorem msgOf_f (x : Int × ByteArray) : rosterlaw03_wrap.f 20 x.1 (shortS x.2) = some (msgOf x) := wrap_f x.1 (shortS x.2) (shortS_size x.2).1 0
/-- What a message made by wrap is: its header is whole, its size is told by it. -/
structure Msg (m : ByteArray) (a n : Int) : Prop where
  a2 : 2 ≤ a
  a6 : a ≤ 6
  n0 : 0 ≤ n
  size : (m.size : Int) = a + n
  look : ∀ limit : Int, a + n ≤ limit → lookS limit m = (a, n, 0)
theorem msgOf_msg (x : Int × ByteArray) : ∃ a, Msg (msgOf x) a (shortS x.2).size := by
  obtain ⟨b, hb⟩ : ∃ b, b = shortS x.2 := ⟨_, rfl⟩
  have hz := (shortS_size x.2).1
  unfold msgOf
  rw [← hb] at hz ⊢
  obtain ⟨k, hk⟩ : ∃ k, k = wrapK x.1 b.size := ⟨_, rfl⟩
  have kr : 0 ≤ k ∧ k ≤ 4 ∧ (k = 0 → (b.size : Int) < 128) ∧ (k = 1 → (b.size : Int) < 256) := by
    rw [hk]
    unfold wrapK
    repeat' split
    all_goals omega
  obtain ⟨k0, k4, kc, kc1⟩ := kr
  rw [← hk]
  have hlen := wrapH_len k b.size k0 k4
  have hz2 : (strOfNums (wrapH k b.size) ++ b).size = (wrapH k b.size).length + b.size := by rw [ByteArray.size_append, wstr_size]
  refine ⟨2 + k, by omega, by omega, by omega, by omega, fun limit hl => ?_⟩
  have h := wrap_look limit k b.size k0 k4 (by omega) (by omega) kc kc1 b (strOfNums (wrapH k b.size) ++ b).size (Nat.le_refl _) (by omega)
  rw [extract_whole, if_neg (by omega)] at h
  exact h
theorem msgOf_size (x : Int × ByteArray) : (msgOf x).size ≤ (shortS x.2).size + 6 := by
  obtain ⟨a, h⟩ := msgOf_msg x
  have := h.size
  have := h.a6
  omega
/-- A message that is whole, something behind it. -/
theorem cut_msg (limit a n : Int) (m u : ByteArray) (hm : Msg m a n) (hl : a + n ≤ limit) : cutAt limit (m ++ u) 0 = (m :: (cutAt limit u 0).1, (m.size : Int) + (cutAt limit u 0).2.1, (cutAt limit u 0).2.2) := by
  have hs := hm.size
  have h2 := hm.a2
  have h0 := hm.n0
  have hz : (m ++ u).size = m.size + u.size := ByteArray.size_append
  have hk := hm.look limit hl
  have hmo := look_more limit m u (by rw [hk]) (by rw [hk]; exact h2) (by rw [hk]; simp only; omega)
  have hsh := cut_shift limit (m ++ u) m.size (by omega) ((m ++ u).size + 1) 0 (Nat.zero_le _) (by omega)
  have en : m.extract m.size m.size = ⟨#[]⟩ := by
    apply ByteArray.ext
    simp
  rw [Nat.add_zero, ext_app m u m.size (Nat.le_refl _), en, nil_app] at hsh
  rw [cutAt_in (by omega), extract_whole, hmo, hk, if_neg (by simp)]
  have m0 : missS (a, n, 0) ((m ++ u).size : Int) = 0 := by
    unfold missS
    rw [if_neg (fun z => by have := z.1; simp at this; omega), if_pos rfl, if_neg (by simp only; omega)]
  rw [m0, if_neg (by omega)]
  have e : (a + n).toNat = m.size := by omega
  simp only [e, Nat.zero_add, hsh]
  rw [ext_front m u _ (Nat.le_refl _), extract_whole]
theorem cut_msgs (limit : Int) (u : ByteArray) : ∀ ms : List ByteArray, (∀ m ∈ ms, ∃ a n, Msg m a n ∧ a + n ≤ limit) →
    cutAt limit (joinL ms ++ u) 0 = (ms ++ (cutAt limit u 0).1, ((joinL ms).size : Int) + (cutAt limit u 0).2.1, (cutAt limit u 0).2.2) := by
  intro ms
  induction ms with
  | nil =>
    intro _
    rw [joinL, nil_app]
    have : ((⟨#[]⟩ : ByteArray).size : Int) = 0 := rfl
    rw [this, Int.zero_add]
    rfl
  | cons m ms ih =>
    intro h
    obtain ⟨a, n, hm, hl⟩ := h m (by simp)
    have hz : (m ++ joinL ms).size = m.size + (joinL ms).size := ByteArray.size_append
    rw [joinL, app_assoc, cut_msg limit a n m _ hm hl, ih (fun x hx => h x (by simp [hx])), hz]
    simp only [List.cons_append]
    congr 2
    omega
theorem numAt_le (b t : ByteArray) : ∀ (n : Nat) (i v v' : Int), v ≤ v' → (∀ j : Nat, j < n → byt b (i + j) ≤ byt t (i + j)) → numAt b i n v ≤ numAt t i n v' := by
  intro n
  induction n with
  | zero => intro i v v' h _; exact h
  | succ n ih =>
    intro i v v' h hb
    have h0 := hb 0 (by omega)
    simp only [Int.natCast_zero, Int.add_zero] at h0
    refine ih (i + 1) _ _ (by omega) (fun j hj => ?_)
    have := hb (j + 1) (by omega)
    have e : i + ((j + 1 : Nat) : Int) = i + 1 + j := by omega
    rw [e] at this
    exact this
/-- What a known header says of the bytes. -/
theorem look_says {limit s n : Int} {t : ByteArray} (h : lookS limit t = (s, n, 0)) (h2 : 2 ≤ s) :
    2 ≤ t.size ∧ ((byt t 1 < 128 ∧ s = 2 ∧ n = byt t 1) ∨ (129 ≤ byt t 1 ∧ byt t 1 ≤ 132 ∧ s = byt t 1 - 126 ∧ n = numAt t 2 (byt t 1 - 128).toNat 0)) := by
  unfold lookS at h
  have r1 := byt_range t 1
  by_cases c1 : t.size = 0
  · rw [if_pos c1] at h; simp only [Prod.mk.injEq] at h; omega
  rw [if_neg c1] at h
  by_cases c2 : byt t 0 ≠ 48
  · rw [if_pos c2] at h; simp only [Prod.mk.injEq] at h; omega
  rw [if_neg c2] at h
  by_cases c3 : t.size = 1
  · rw [if_pos c3] at h; simp only [Prod.mk.injEq] at h; omega
  rw [if_neg c3] at h
  by_cases c4 : byt t 1 = 128
  · rw [if_pos c4] at h; simp only [Prod.mk.injEq] at h; omega
  rw [if_neg c4] at h
  by_cases c5 : 132 < byt t 1
  · rw [if_pos c5] at h; simp only [Prod.mk.injEq] at h; omega
  rw [if_neg c5] at h
  by_cases c6 : byt t 1 < 128
  · rw [if_pos c6] at h
    by_cases c7 : limit < 2 + byt t 1
    · rw [if_pos c7] at h; simp only [Prod.mk.injEq] at h; omega
    · rw [if_neg c7] at h; simp only [Prod.mk.injEq] at h; exact ⟨by omega, .inl ⟨c6, by omega, by omega⟩⟩
  rw [if_neg c6] at h
  by_cases c7 : byt t 1 - 126 ≤ (t.size : Int) ∧ limit < byt t 1 - 126 + numAt t 2 (byt t 1 - 128).toNat 0
  · rw [if_pos c7] at h; simp only [Prod.mk.injEq] at h; omega
  · rw [if_neg c7] at h
    simp only [Prod.mk.injEq] at h
    exact ⟨by omega, .inr ⟨by omega, by omega, by omega, h.2.1.symm⟩⟩
/-- A proper front of a message: nothing is cut of it, nothing refused; where one byte is lacking, Need is 1. -/
theorem front_none (limit a n : Int) (m : ByteArray) (hm : Msg m a n) (hl : a + n ≤ limit) (e : Nat) (he : e < m.size) :
    cutAt limit (m.extract 0 e) 0 = ([], 0, 0) ∧ (e + 1 = m.size → needS limit (m.extract 0 e) = 1) := by
  obtain ⟨r, hr⟩ : ∃ r, r = m.extract 0 e := ⟨_, rfl⟩
  obtain ⟨u, hu⟩ : ∃ u, u = m.extract e m.size := ⟨_, rfl⟩
  have hru : r ++ u = m := by rw [hr, hu]; exact ext_split m e (by omega)
  have hz : r.size = e := by rw [hr, ByteArray.size_extract]; omega
  have hk := hm.look limit hl
  have hs := hm.size
  have h2 := hm.a2
  have h0 := hm.n0
  rw [← hr]
  have herr : (lookS limit r).2.2 = 0 := by
    refine Classical.byContradiction fun h => ?_
    have := look_bad limit r u h
    rw [hru, hk] at this
    exact h this.symm
  have hmiss : r.size ≠ 0 → 0 < missS (lookS limit r) (r.size : Int) := by
    intro hr0
    refine Classical.byContradiction fun h => ?_
    have hw := whole_of hr0 herr h
    have hmo := look_more limit r u herr hw.1 (by omega)
    rw [hru, hk] at hmo
    rw [← hmo] at hw
    simp only at hw
    omega
  refine ⟨?_, fun h1 => ?_⟩
  · by_cases hr0 : r.size = 0
    · exact cutAt_end (by omega)
    · rw [cutAt_in (by omega), extract_whole, if_neg (fun z => z herr), if_pos (hmiss hr0)]
      rfl
  · rcases look_range limit r with ⟨h, h3⟩ | ⟨x, h, h3, h4⟩ | ⟨s, q, h, h3, h4, h5, h6, h7, h8⟩
    · unfold needS
      rw [h]
      show missS (0, 0, 0) _ = _
      unfold missS
      rw [if_pos ⟨rfl, rfl, rfl⟩]
      omega
    · rw [h] at herr
      simp at herr
      omega
    · have key : s + q = a + n := by
        by_cases hse : s ≤ (r.size : Int)
        · have hmo := look_more limit r u herr (by rw [h]; exact h3) (by rw [h]; exact hse)
          rw [hru, hk, h] at hmo
          simp only [Prod.mk.injEq] at hmo
          omega
        · obtain ⟨g1, g2⟩ := look_says h h3
          obtain ⟨f1, f2⟩ := look_says hk h2
          have y1 : byt m 1 = byt r 1 := by
            have := byt_l r u 1 (by omega)
            rw [hru] at this
            simpa using this
          rw [y1] at f2
          rcases g2 with ⟨p1, p2, p3⟩ | ⟨p1, p2, p3, p4⟩
          · omega
          · rcases f2 with ⟨o1, o2, o3⟩ | ⟨o1, o2, o3, o4⟩
            · omega
            · have hle := numAt_le r m (byt r 1 - 128).toNat 2 0 0 (Int.le_refl _) (fun j hj => by
                have e2 : ((2 : Int) + j) = ((2 + j : Nat) : Int) := by omega
                rw [e2]
                by_cases hj2 : 2 + j < r.size
                · have := byt_l r u (2 + j) hj2
                  rw [hru] at this
                  rw [this]
                  exact Int.le_refl _
                · rw [byt_out r (2 + j) (by omega)]
                  exact (byt_range _ _).1)
              rw [← p4, ← o4] at hle
              omega
      unfold needS missS
      rw [h, if_neg (fun z => by have := z.1; simp at this; omega), if_pos rfl, if_pos (by simp only; omega)]
      simp only
      omega
theorem join_at : ∀ (ms : List ByteArray) (i : Nat), i < (joinL ms).size → ∃ (j e : Nat) (m : ByteArray), ms[j]? = some m ∧ e < m.size ∧
    (joinL ms).extract 0 i = joinL (ms.take j) ++ m.extract 0 e ∧ (joinL ms).extract 0 (i + 1) = joinL (ms.take j) ++ m.extract 0 (e + 1) := by
  intro ms
  induction ms with
  | nil => intro i h; exact absurd h (Nat.not_lt_zero _)
  | cons x ms ih =>
    intro i h
    have hz : (x ++ joinL ms).size = x.size + (joinL ms).size := ByteArray.size_append
    rw [joinL] at h ⊢
    by_cases hx : i < x.size
    · exact ⟨0, i, x, rfl, hx, by rw [ext_front x _ i (by omega)]; exact (nil_app _).symm, by rw [ext_front x _ (i + 1) (by omega)]; exact (nil_app _).symm⟩
    · obtain ⟨j, e, m, h1, h2, h3, h4⟩ := ih (i - x.size) (by omega)
      have big : ∀ q, x.size ≤ q → (x ++ joinL ms).extract 0 q = x ++ (joinL ms).extract 0 (q - x.size) := by
        intro q hq
        have e1 : numsOf ((x ++ joinL ms).extract 0 q) = numsOf (x ++ (joinL ms).extract 0 (q - x.size)) := by
          rw [← nums_take, nums_app, nums_app, ← nums_take, List.take_append, nums_len, List.take_of_length_le (by rw [nums_len]; exact hq)]
        rw [← nums_str ((x ++ joinL ms).extract 0 q), e1, nums_str]
      refine ⟨j + 1, e, m, h1, h2, ?_, ?_⟩
      · rw [big i (by omega), h3, List.take_succ_cons, joinL, app_assoc]
      · have e2 : i + 1 - x.size = i - x.size + 1 := by omega
        rw [big (i + 1) (by omega), e2, h4, List.take_succ_cons, joinL, app_assoc]
theorem kept_join (j r : ByteArray) (l : List ByteArray) : keptS (j ++ r) (l, (j.size : Int), 0) = r := by
  have en : j.extract j.size j.size = ⟨#[]⟩ := by
    apply ByteArray.ext
    simp
  have ex := ext_app j r j.size (Nat.le_refl _)
  rw [en, nil_app] at ex
  unfold keptS
  rw [if_pos rfl]
  exact ex
theorem step_facts (L : Int) (ms : List ByteArray) (h : ∀ m ∈ ms, ∃ a n, Msg m a n ∧ a + n ≤ L) (i : Nat) (hi : i < (joinL ms).size) :
    (cutAt L ((joinL ms).extract 0 i) 0).2.2 = 0 ∧ (cutAt L ((joinL ms).extract 0 (i + 1)) 0).2.2 = 0 ∧ ((keptS ((joinL ms).extract 0 (i + 1)) (cutAt L ((joinL ms).extract 0 (i + 1)) 0)).size : Int) < L ∧
    ((cutAt L ((joinL ms).extract 0 (i + 1)) 0).1 = (cutAt L ((joinL ms).extract 0 i) 0).1 ∨
      ∃ x, (cutAt L ((joinL ms).extract 0 (i + 1)) 0).1 = (cutAt L ((joinL ms).extract 0 i) 0).1 ++ [x] ∧ needS L (keptS ((joinL ms).extract 0 i) (cutAt L ((joinL ms).extract 0 i) 0)) = 1) := by
  obtain ⟨j, e, m, h1, h2, h3, h4⟩ := join_at ms i hi
  obtain ⟨hj, hm⟩ := List.getElem?_eq_some_iff.1 h1
  obtain ⟨a, n, hM, hl⟩ := h m (by rw [← hm]; exact List.getElem_mem _)
  have hs := hM.size
  have g2 := hM.a2
  have g0 := hM.n0
  have ht : ∀ q ∈ ms.take j, ∃ a n, Msg q a n ∧ a + n ≤ L := fun q hq => h q (List.mem_of_mem_take hq)
  have f1 := front_none L a n m hM hl e h2
  have c1 := cut_msgs L (m.extract 0 e) (ms.take j) ht
  rw [f1.1] at c1
  simp only [List.append_nil, Int.add_zero] at c1
  rw [h3, h4, c1]
  by_cases he : e + 1 < m.size
  · have f2 := front_none L a n m hM hl (e + 1) he
    have c2 := cut_msgs L (m.extract 0 (e + 1)) (ms.take j) ht
    rw [f2.1] at c2
    simp only [List.append_nil, Int.add_zero] at c2
    rw [c2, kept_join]
    have hz : (m.extract 0 (e + 1)).size = e + 1 := by rw [ByteArray.size_extract]; omega
    exact ⟨rfl, rfl, by omega, .inl rfl⟩
  · have ee : e + 1 = m.size := by omega
    have c2 := cut_msgs L ⟨#[]⟩ (ms.take j ++ [m]) (fun q hq => by
      rcases List.mem_append.1 hq with hq | hq
      · exact ht q hq
      · rw [List.mem_singleton.1 hq]; exact ⟨a, n, hM, hl⟩)
    have c0 : cutAt L ⟨#[]⟩ 0 = ([], 0, 0) := cutAt_end (Nat.le_refl _)
    have ej : joinL (ms.take j ++ [m]) = joinL (ms.take j) ++ m := by rw [joinL_app, joinL, joinL, app_nil]
    rw [c0, app_nil] at c2
    simp only [List.append_nil, Int.add_zero] at c2
    have ek := kept_join (joinL (ms.take j ++ [m])) ⟨#[]⟩ (ms.take j ++ [m])
    rw [app_nil] at ek
    rw [ee, extract_whole, ← ej, c2, ek, kept_join]
    refine ⟨rfl, rfl, ?_, .inr ⟨m, rfl, f1.2 ee⟩⟩
    show (0 : Int) < L
    omega
theorem ext_step (s : ByteArray) (i : Nat) (h : i < s.size) : s.extract 0 (i + 1) = s.extract 0 i ++ s.extract i (i + 1) := by
  have e : numsOf (s.extract 0 (i + 1)) = numsOf (s.extract 0 i ++ s.extract i (i + 1)) := by
    rw [nums_app, ← nums_take, ← nums_take, nums_ext, List.take_add_one]
    congr 1
    rw [List.drop_append_of_le_length (by rw [List.length_take, nums_len]; omega)]
    rw [List.drop_of_length_le (by rw [List.length_take, nums_len]; omega), List.nil_append]
  rw [← nums_str (s.extract 0 (i + 1)), e, nums_str]
end Go.Proofs.Ytgihlldkdbjkkaa.W
