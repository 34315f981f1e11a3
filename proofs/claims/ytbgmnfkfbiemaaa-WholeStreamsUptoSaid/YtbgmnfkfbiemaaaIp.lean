/- Plain law of the integers' contents (no program in sight): the shortest bytes that tell a number, and which bytes those are. -/
import Derived.Test.YtbgmnfkfbiemaaaBPi
import Derived.Test.YtbgmnfkfbiemaaaBIn
namespace Go.Proofs.Ytbgmnfkfbiemaaa.W
open Go.RowKit
set_option linter.unusedVariables false
set_option linter.unusedSimpArgs false

theorem i64_of {n : Int} (h : (Lit.int .i64 n).wf = true) : -9223372036854775808 ≤ n ∧ n ≤ 9223372036854775807 := by
  simpa [Lit.wf, IntKind.min, IntKind.max, IntKind.signed, IntKind.bits] using h
theorem toList_inj {a b : ByteArray} : a.toList = b.toList ↔ a = b := by
  constructor
  · intro h
    rw [ByteArray.toList_eq, ByteArray.toList_eq] at h
    exact ByteArray.ext (Array.toList_inj.1 h)
  · rintro rfl; rfl

theorem pow_8 (k : Nat) : (2 : Int) ^ (8 * k) = 256 ^ k := by rw [Int.pow_mul]; rfl
theorem p256_pos (k : Nat) : (0 : Int) < 256 ^ k := Int.pow_pos (by decide)
theorem putAt_256 (n : Int) (c j : Nat) : putAt n c j = n / 256 ^ (c - 1 - j) % 256 := by unfold putAt; rw [pow_8]
theorem fits_pow (k : Nat) : (2 : Int) ^ (8 * (k + 1) - 1) = 128 * 256 ^ k := by
  rw [show 8 * (k + 1) - 1 = 7 + 8 * k by omega, Int.pow_add, pow_8]
  rfl
theorem fits_div (n : Int) (k : Nat) : fits n (k + 1) ↔ -128 ≤ n / 256 ^ k ∧ n / 256 ^ k < 128 := by
  unfold fits
  rw [fits_pow, Int.le_ediv_iff_mul_le (p256_pos k), Int.ediv_lt_iff_lt_mul (p256_pos k), Int.neg_mul]
theorem div_succ (n : Int) (k : Nat) : n / 256 ^ (k + 1) = n / 256 ^ k / 256 := by
  rw [Int.pow_succ, Int.ediv_mul, if_neg (fun h => by have := p256_pos k; omega), Int.add_zero]
theorem div_succ' (n : Int) (k : Nat) : n / 256 ^ (k + 1) = n / 256 / 256 ^ k := by
  rw [Int.pow_succ, Int.mul_comm, Int.ediv_mul, if_neg (fun h => by omega), Int.add_zero]
theorem fits_up {n : Int} {k : Nat} (h : fits n (k + 1)) : fits n (k + 2) := by
  rw [fits_div] at h ⊢
  rw [div_succ]
  omega
theorem fits_le {n : Int} {k : Nat} (hk : 1 ≤ k) (h : fits n k) : ∀ m, k ≤ m → fits n m := by
  intro m
  induction m with
  | zero => intro hm; omega
  | succ m ih =>
    intro hm
    by_cases e : k = m + 1
    · rw [← e]; exact h
    · obtain ⟨q, rfl⟩ : ∃ q, m = q + 1 := ⟨m - 1, by omega⟩
      exact fits_up (ih (by omega))
theorem fits_1 (n : Int) : fits n 1 ↔ -128 ≤ n ∧ n < 128 := by
  have := fits_div n 0
  simpa using this
theorem fits_step (n : Int) (k : Nat) : fits n (k + 2) ↔ fits (n / 256) (k + 1) := by
  rw [fits_div, fits_div, div_succ']

/-- The least width: it fits, no smaller one does. -/
theorem putC_spec (n : Int) (h0 : -9223372036854775808 ≤ n) (h1 : n ≤ 9223372036854775807) : 1 ≤ putC n ∧ putC n ≤ 8 ∧ fits n (putC n) ∧ ∀ k, 1 ≤ k → k < putC n → ¬ fits n k := by
  unfold putC
  split
  · exact ⟨by omega, by omega, ⟨by simp; omega, by simp; omega⟩, fun k k1 k2 => by omega⟩
  split
  · exact ⟨by omega, by omega, ⟨by simp; omega, by simp; omega⟩, fun k k1 k2 => by obtain rfl : k = 1 := by omega
                                                                                   unfold fits; simp; omega⟩
  split
  · exact ⟨by omega, by omega, ⟨by simp; omega, by simp; omega⟩, fun k k1 k2 => by rcases (show k = 1 ∨ k = 2 by omega) with rfl | rfl <;> (unfold fits; simp; omega)⟩
  split
  · exact ⟨by omega, by omega, ⟨by simp; omega, by simp; omega⟩, fun k k1 k2 => by rcases (show k = 1 ∨ k = 2 ∨ k = 3 by omega) with rfl | rfl | rfl <;> (unfold fits; simp; omega)⟩
  split
  · exact ⟨by omega, by omega, ⟨by simp; omega, by simp; omega⟩, fun k k1 k2 => by rcases (show k = 1 ∨ k = 2 ∨ k = 3 ∨ k = 4 by omega) with rfl | rfl | rfl | rfl <;> (unfold fits; simp; omega)⟩
  split
  · exact ⟨by omega, by omega, ⟨by simp; omega, by simp; omega⟩, fun k k1 k2 => by rcases (show k = 1 ∨ k = 2 ∨ k = 3 ∨ k = 4 ∨ k = 5 by omega) with rfl | rfl | rfl | rfl | rfl <;> (unfold fits; simp; omega)⟩
  split
  · exact ⟨by omega, by omega, ⟨by simp; omega, by simp; omega⟩, fun k k1 k2 => by rcases (show k = 1 ∨ k = 2 ∨ k = 3 ∨ k = 4 ∨ k = 5 ∨ k = 6 by omega) with rfl | rfl | rfl | rfl | rfl | rfl <;> (unfold fits; simp; omega)⟩
  · exact ⟨by omega, by omega, ⟨by simp; omega, by simp; omega⟩, fun k k1 k2 => by rcases (show k = 1 ∨ k = 2 ∨ k = 3 ∨ k = 4 ∨ k = 5 ∨ k = 6 ∨ k = 7 by omega) with rfl | rfl | rfl | rfl | rfl | rfl | rfl <;> (unfold fits; simp; omega)⟩
/-- A width that fits, where the next smaller one doesn't, is the least. -/
theorem putC_uniq {n : Int} {c : Nat} (hc : 1 ≤ c) (c8 : c ≤ 8) (h : fits n c) (hn : 1 < c → ¬ fits n (c - 1)) : putC n = c ∧ -9223372036854775808 ≤ n ∧ n ≤ 9223372036854775807 := by
  have r : -9223372036854775808 ≤ n ∧ n ≤ 9223372036854775807 := by
    have := fits_le hc h 8 c8
    unfold fits at this
    simp at this
    omega
  obtain ⟨p1, p8, pf, pn⟩ := putC_spec n r.1 r.2
  refine ⟨?_, r⟩
  rcases Nat.lt_trichotomy (putC n) c with l | e | g
  · exact absurd (fits_le p1 pf (c - 1) (by omega)) (hn (by omega))
  · exact e
  · exact absurd h (pn c hc g)

/-! The digits. -/
theorem numAt_digits (s : ByteArray) (i x : Int) : ∀ n : Nat, numAt s i n x / 256 ^ n = x ∧ ∀ j, j < n → numAt s i n x / 256 ^ (n - 1 - j) % 256 = byt s (i + j) := by
  intro n
  induction n with
  | zero => exact ⟨by simp [numAt], fun j hj => by omega⟩
  | succ n ih =>
    have b := byt_range s (i + n)
    have e1 : numAt s i (n + 1) x / 256 = numAt s i n x := by rw [numAt_snoc]; omega
    have e2 : numAt s i (n + 1) x % 256 = byt s (i + n) := by rw [numAt_snoc]; omega
    refine ⟨by rw [div_succ', e1]; exact ih.1, fun j hj => ?_⟩
    by_cases e : j = n
    · subst e
      rw [show j + 1 - 1 - j = 0 by omega]
      simpa using e2
    · rw [show n + 1 - 1 - j = (n - 1 - j) + 1 by omega, div_succ', e1]
      exact ih.2 j (by omega)
theorem numAt_of (s : ByteArray) (i : Int) : ∀ (n : Nat) (v : Int), (∀ j, j < n → v / 256 ^ (n - 1 - j) % 256 = byt s (i + j)) → numAt s i n (v / 256 ^ n) = v := by
  intro n
  induction n with
  | zero => intro v _; simp [numAt]
  | succ n ih =>
    intro v h
    have hn := h n (by omega)
    rw [show n + 1 - 1 - n = 0 by omega] at hn
    rw [numAt_snoc, div_succ', ih (v / 256) (fun j hj => by
      have := h j (by omega)
      rw [show n + 1 - 1 - j = (n - 1 - j) + 1 by omega, div_succ'] at this
      exact this), ← hn]
    simp
    omega

/-! The bytes. -/
theorem str_size (l : List Int) : (strOfNums l).size = l.length := by
  show (l.map fun n => UInt8.ofNat n.toNat).toArray.size = _
  simp
theorem str_byt (l : List Int) (j : Nat) (hj : j < l.length) (h : 0 ≤ l[j] ∧ l[j] < 256) : byt (strOfNums l) j = l[j] := by
  have hs : j < (strOfNums l).size := by rw [str_size]; exact hj
  have e0 : byt (strOfNums l) j = (((strOfNums l)[j]'hs).toNat : Int) := (byt_at (strOfNums l) j hs).symm
  have e : (strOfNums l)[j]'hs = UInt8.ofNat (l[j]).toNat := by
    show (l.map fun n => UInt8.ofNat n.toNat).toArray[j]'(by simpa using hj) = _
    simp
  rw [e0, e, UInt8.toNat_ofNat']
  omega
theorem str_ext {a b : ByteArray} (h : a.size = b.size) (hb : ∀ j : Nat, j < a.size → byt a j = byt b j) : a = b := by
  apply ByteArray.ext
  apply Array.ext h
  intro j h1 h2
  have := hb j h1
  unfold byt at this
  rw [dif_pos (by simpa using h1), dif_pos (by simpa using h2)] at this
  have e : (a[(j : Int).toNat]'h1).toNat = (b[(j : Int).toNat]'h2).toNat := by omega
  exact UInt8.toNat_inj.1 e
theorem putL_len (n : Int) (c : Nat) : (putL n c).length = c := by simp [putL]
theorem putS_size (n : Int) : (putS n).size = putC n := by unfold putS; rw [str_size, putL_len]
theorem putS_byt (n : Int) (j : Nat) (hj : j < putC n) : byt (putS n) j = n / 256 ^ (putC n - 1 - j) % 256 := by
  unfold putS
  have e : (putL n (putC n))[j]'(by rw [putL_len]; exact hj) = n / 256 ^ (putC n - 1 - j) % 256 := by simp [putL, putAt_256]
  rw [str_byt _ j (by rw [putL_len]; exact hj) (by rw [e]; omega), e]
/-- A number's own bytes mean it. -/
theorem int_put (n : Int) (h0 : -9223372036854775808 ≤ n) (h1 : n ≤ 9223372036854775807) : intS (putS n) = (n, 0) ∧ 1 ≤ (putS n).size ∧ (putS n).size ≤ 8 ∧ (128 ≤ byt (putS n) 0 ↔ n < 0) := by
  obtain ⟨p1, p8, pf, pn⟩ := putC_spec n h0 h1
  obtain ⟨c, hc⟩ : ∃ c, putC n = c + 1 := ⟨putC n - 1, by omega⟩
  have b0 := putS_byt n 0 (by omega)
  rw [hc] at b0 pf
  rw [fits_div] at pf
  rw [show c + 1 - 1 - 0 = c by omega] at b0
  have sg : signed (byt (putS n) 0) = n / 256 ^ c := by
    have e : ((0 : Nat) : Int) = 0 := rfl
    rw [e] at b0
    unfold signed
    rw [b0]
    split <;> omega
  have hneg : n / 256 ^ c < 0 ↔ n < 0 := by
    rw [Int.ediv_lt_iff_lt_mul (p256_pos c)]
    simp
  have hsz := putS_size n
  rw [hc] at hsz
  refine ⟨?_, by omega, by omega, ?_⟩
  · unfold intS
    rw [if_neg (by omega)]
    have hv : numAt (putS n) 1 c (n / 256 ^ c) = n := by
      apply numAt_of
      intro j hj
      have := putS_byt n (j + 1) (by omega)
      rw [hc, show c + 1 - 1 - (j + 1) = c - 1 - j by omega] at this
      rw [← this]
      congr 1
      omega
    rw [if_neg ?_, sg, hsz, show c + 1 - 1 = c by omega, hv]
    intro h
    obtain ⟨k, rfl⟩ : ∃ k, c = k + 1 := ⟨c - 1, by omega⟩
    have nf := pn (k + 1) (by omega) (by omega)
    rw [fits_div] at nf
    have b1 := putS_byt n 1 (by omega)
    rw [hc, show k + 1 + 1 - 1 - 1 = k by omega] at b1
    rw [div_succ] at b0
    have e0 : ((0 : Nat) : Int) = 0 := rfl
    have e1 : ((1 : Nat) : Int) = 1 := rfl
    rw [e0] at b0
    rw [e1] at b1
    rw [div_succ] at pf
    omega
  · have e : ((0 : Nat) : Int) = 0 := rfl
    rw [e] at b0
    rw [b0]
    omega
/-- A content that is a number is that number's own bytes. -/
theorem put_int (s : ByteArray) (h : (intS s).2 = 0) : putS (intS s).1 = s ∧ -9223372036854775808 ≤ (intS s).1 ∧ (intS s).1 ≤ 9223372036854775807 ∧ 1 ≤ s.size ∧ s.size ≤ 8 := by
  unfold intS at h ⊢
  split at h
  · simp at h
  rename_i hz
  split at h
  · simp at h
  rename_i hg
  rw [if_neg hz, if_neg hg]
  show putS (numAt s 1 (s.size - 1) (signed (byt s 0))) = s ∧ _
  obtain ⟨c, hc⟩ : ∃ c, s.size = c + 1 := ⟨s.size - 1, by omega⟩
  rw [hc, show c + 1 - 1 = c by omega]
  obtain ⟨v, hv⟩ : ∃ v, v = numAt s 1 c (signed (byt s 0)) := ⟨_, rfl⟩
  have d := numAt_digits s 1 (signed (byt s 0)) c
  rw [← hv] at d ⊢
  have r0 := byt_range s 0
  have hf : fits v (c + 1) := by
    rw [fits_div, d.1]
    unfold signed
    split <;> omega
  have hn : 1 < c + 1 → ¬ fits v (c + 1 - 1) := by
    intro hc1
    obtain ⟨k, rfl⟩ : ∃ k, c = k + 1 := ⟨c - 1, by omega⟩
    rw [show k + 1 + 1 - 1 = k + 1 by omega, fits_div]
    have d0 := d.2 0 (by omega)
    rw [show k + 1 - 1 - 0 = k by omega] at d0
    have d1 := d.1
    rw [div_succ] at d1
    have e : (1 : Int) + ((0 : Nat) : Int) = 1 := rfl
    rw [e] at d0
    have r1 := byt_range s 1
    unfold signed at d1
    intro hh
    apply hg
    refine ⟨by omega, ?_⟩
    split at d1 <;> omega
  obtain ⟨u, u0, u1⟩ := putC_uniq (by omega) (by omega) hf hn
  refine ⟨?_, u0, u1, by omega, by omega⟩
  apply str_ext
  · rw [putS_size, u, hc]
  · intro j hj
    rw [putS_size, u] at hj
    rw [putS_byt v j (by omega), u]
    cases j with
    | zero =>
      rw [show c + 1 - 1 - 0 = c by omega, d.1]
      show signed (byt s 0) % 256 = byt s 0
      unfold signed
      split <;> omega
    | succ j =>
      rw [show c + 1 - 1 - (j + 1) = c - 1 - j by omega, d.2 j (by omega)]
      congr 1
      omega
end Go.Proofs.Ytbgmnfkfbiemaaa.W
