/- Texts of this claim in one: Ip, RiV, Pvw, Pvw2 -/
import Derived.Test.YtogjljpncdmlkaaDoorB3
import Derived.Test.YtogjljpncdmlkaaDoorB23
import Derived.Test.YtogjljpncdmlkaaDoorB21
import Derived.Test.YtogjljpncdmlkaaDoorB24
import Derived.Test.YtogjljpncdmlkaaDoorB26
section
namespace Go.Proofs.YtogjljpncdmlkaaDoor.W
open Go.RowKit
set_option linter.unusedVariables false
set_option linter.unusedSimpArgs false
theorem toList_inj {a b : ByteArray} : a.toList = b.toList ↔ a = b := by
  constructor
  · intro h
    rw [ByteArray.toList_eq, ByteArray.toList_eq] at h
    exact ByteArray.ext (Array.toList_inj.1 h)
  · rintro rfl; rfl
theorem pow_8 (k : Nat) : (2 : Int) ^ (8 * k) = 256 ^ k := by rw [Int.pow_mul]; rfl
theorem p256_pos (k : Nat) : (0 : Int) < 256 ^ k := Int.pow_pos q19_
theorem putAt_256 (n : Int) (c j : Nat) : putAt n c j = n / 256 ^ (c - 1 - j) % 256 := by unfold putAt; rw [pow_8]
theorem fits_pow (k : Nat) : (2 : Int) ^ (8 * (k + 1) - 1) = 128 * 256 ^ k := by
  rw [show 8 * (k + 1) - 1 = 7 + 8 * k by omega, Int.pow_add, pow_8]
  rfl
theorem fits_div (n : Int) (k : Nat) : fits n (k + 1) ↔ -128 ≤ n / 256 ^ k ∧ n / 256 ^ k < 128 := by
  unfold fits
  rw [fits_pow, Int.le_ediv_iff_mul_le (p256_pos k), Int.ediv_lt_iff_lt_mul (p256_pos k), Int.neg_mul]
theorem div_succ (n : Int) (k : Nat) : n / 256 ^ (k + 1) = n / 256 ^ k / 256 := by
  rw [Int.pow_succ, Int.ediv_mul, if_neg (fun h => by have := p256_pos k; omega), Int.add_zero]
theorem div_succ' (n : Int) (k : Nat) : n / 256 ^ (k + 1) = n / 256 / 256 ^ k := by
  rw [Int.pow_succ, Int.mul_comm, Int.ediv_mul, if_neg (fun h => by omega), Int.add_zero]
theorem fits_up {n : Int} {k : Nat} (h : fits n (k + 1)) : fits n (k + 2) := by
  rw [fits_div] at h ⊢
  rw [div_succ]
  omega
theorem fits_le {n : Int} {k : Nat} (hk : 1 ≤ k) (h : fits n k) : ∀ m, k ≤ m → fits n m := by
  intro m
  induction m with
  | zero => intro hm; omega
  | succ m ih =>
    intro hm
    by_cases e : k = m + 1
    · rw [← e]; exact h
    · obtain ⟨q, rfl⟩ : ∃ q, m = q + 1 := ⟨m - 1, q2_⟩
      exact fits_up (ih q2_)
theorem fits_1 (n : Int) : fits n 1 ↔ -128 ≤ n ∧ n < 128 := by
  have := fits_div n 0
  simpa using this
theorem fits_step (n : Int) (k : Nat) : fits n (k + 2) ↔ fits (n / 256) (k + 1) := by
  rw [fits_div, fits_div, div_succ']
theorem putC_spec (n : Int) (h0 : -9223372036854775808 ≤ n) (h1 : n ≤ 9223372036854775807) : 1 ≤ putC n ∧ putC n ≤ 8 ∧ fits n (putC n) ∧ ∀ k, 1 ≤ k → k < putC n → ¬ fits n k := by
  unfold putC
  split
  · exact ⟨q2_, q2_, ⟨q39_, q39_⟩, fun k k1 k2 => by omega⟩
  split
  · exact ⟨q2_, q2_, ⟨q39_, q39_⟩, fun k k1 k2 => by obtain rfl : k = 1 := (by omega); unfold fits; simp; omega⟩
  split
  · exact ⟨q2_, q2_, ⟨q39_, q39_⟩, fun k k1 k2 => by rcases (show k = 1 ∨ k = 2 by omega) with rfl | rfl <;> (unfold fits; simp; omega)⟩
  split
  · exact ⟨q2_, q2_, ⟨q39_, q39_⟩, fun k k1 k2 => by rcases (show k = 1 ∨ k = 2 ∨ k = 3 by omega) with rfl | rfl | rfl <;> (unfold fits; simp; omega)⟩
  split
  · exact ⟨q2_, q2_, ⟨q39_, q39_⟩, fun k k1 k2 => by rcases (show k = 1 ∨ k = 2 ∨ k = 3 ∨ k = 4 by omega) with rfl | rfl | rfl | rfl <;> (unfold fits; simp; omega)⟩
  split
  · exact ⟨q2_, q2_, ⟨q39_, q39_⟩, fun k k1 k2 => by rcases (show k = 1 ∨ k = 2 ∨ k = 3 ∨ k = 4 ∨ k = 5 by omega) with rfl | rfl | rfl | rfl | rfl <;> (unfold fits; simp; omega)⟩
  split
  · exact ⟨q2_, q2_, ⟨q39_, q39_⟩, fun k k1 k2 => by rcases (show k = 1 ∨ k = 2 ∨ k = 3 ∨ k = 4 ∨ k = 5 ∨ k = 6 by omega) with rfl | rfl | rfl | rfl | rfl | rfl <;> (unfold fits; simp; omega)⟩
  · exact ⟨q2_, q2_, ⟨q39_, q39_⟩, fun k k1 k2 => by rcases (show k = 1 ∨ k = 2 ∨ k = 3 ∨ k = 4 ∨ k = 5 ∨ k = 6 ∨ k = 7 by omega) with rfl | rfl | rfl | rfl | rfl | rfl | rfl <;> (unfold fits; simp; omega)⟩
theorem putC_uniq {n : Int} {c : Nat} (hc : 1 ≤ c) (c8 : c ≤ 8) (h : fits n c) (hn : 1 < c → ¬ fits n (c - 1)) : putC n = c ∧ -9223372036854775808 ≤ n ∧ n ≤ 9223372036854775807 := by
  have r : -9223372036854775808 ≤ n ∧ n ≤ 9223372036854775807 := by
    have := fits_le hc h 8 c8
    unfold fits at this
    simp at this
    omega
  obtain ⟨p1, p8, pf, pn⟩ := putC_spec n r.1 r.2
  refine ⟨?_, r⟩
  rcases Nat.lt_trichotomy (putC n) c with l | e | g
  · exact absurd (fits_le p1 pf (c - 1) q2_) (hn q2_)
  · exact e
  · exact absurd h (pn c hc g)
theorem numAt_digits (s : ByteArray) (i x : Int) : ∀ n : Nat, numAt s i n x / 256 ^ n = x ∧ ∀ j, j < n → numAt s i n x / 256 ^ (n - 1 - j) % 256 = byt s (i + j) := by
  intro n
  induction n with
  | zero => exact ⟨by simp [numAt], fun j hj => by omega⟩
  | succ n ih =>
    have b := byt_range s (i + n)
    have e1 : numAt s i (n + 1) x / 256 = numAt s i n x := by rw [numAt_snoc]; omega
    have e2 : numAt s i (n + 1) x % 256 = byt s (i + n) := by rw [numAt_snoc]; omega
    refine ⟨by rw [div_succ', e1]; exact ih.1, fun j hj => ?_⟩
    by_cases e : j = n
    · subst e
      rw [show j + 1 - 1 - j = 0 by omega]
      simpa using e2
    · rw [show n + 1 - 1 - j = (n - 1 - j) + 1 by omega, div_succ', e1]
      exact ih.2 j q2_
theorem str_size (l : List Int) : (strOfNums l).size = l.length := by
  show (l.map fun n => UInt8.ofNat n.toNat).toArray.size = _
  simp
theorem str_byt (l : List Int) (j : Nat) (hj : j < l.length) (h : 0 ≤ l[j] ∧ l[j] < 256) : byt (strOfNums l) j = l[j] := by
  have hs : j < (strOfNums l).size := by rw [str_size]; exact hj
  have e0 : byt (strOfNums l) j = (((strOfNums l)[j]'hs).toNat : Int) := (byt_at (strOfNums l) j hs).symm
  have e : (strOfNums l)[j]'hs = UInt8.ofNat (l[j]).toNat := by
    show (l.map fun n => UInt8.ofNat n.toNat).toArray[j]'(by simpa using hj) = _
    simp
  rw [e0, e, UInt8.toNat_ofNat']
  omega
theorem str_ext {a b : ByteArray} (h : a.size = b.size) (hb : ∀ j : Nat, j < a.size → byt a j = byt b j) : a = b := by
  apply ByteArray.ext
  apply Array.ext h
  intro j h1 h2
  have := hb j h1
  unfold byt at this
  rw [dif_pos (by simpa using h1), dif_pos (by simpa using h2)] at this
  have e : (a[(j : Int).toNat]'h1).toNat = (b[(j : Int).toNat]'h2).toNat := by omega
  exact UInt8.toNat_inj.1 e
theorem putL_len (n : Int) (c : Nat) : (putL n c).length = c := by simp [putL]
theorem putS_size (n : Int) : (putS n).size = putC n := by unfold putS; rw [str_size, putL_len]
theorem putS_byt (n : Int) (j : Nat) (hj : j < putC n) : byt (putS n) j = n / 256 ^ (putC n - 1 - j) % 256 := by
  unfold putS
  have e : (putL n (putC n))[j]'(by rw [putL_len]; exact hj) = n / 256 ^ (putC n - 1 - j) % 256 := by simp [putL, putAt_256]
  rw [str_byt _ j (by rw [putL_len]; exact hj) (by rw [e]; omega), e]
theorem put_int (s : ByteArray) (h : (intS s).2 = 0) : putS (intS s).1 = s ∧ -9223372036854775808 ≤ (intS s).1 ∧ (intS s).1 ≤ 9223372036854775807 ∧ 1 ≤ s.size ∧ s.size ≤ 8 := by
  unfold intS at h ⊢
  split at h
  · simp at h
  rename_i hz
  split at h
  · simp at h
  rename_i hg
  rw [if_neg hz, if_neg hg]
  show putS (numAt s 1 (s.size - 1) (signed (byt s 0))) = s ∧ _
  obtain ⟨c, hc⟩ : ∃ c, s.size = c + 1 := ⟨s.size - 1, q2_⟩
  rw [hc, show c + 1 - 1 = c by omega]
  obtain ⟨v, hv⟩ : ∃ v, v = numAt s 1 c (signed (byt s 0)) := ⟨_, rfl⟩
  have d := numAt_digits s 1 (signed (byt s 0)) c
  rw [← hv] at d ⊢
  have r0 := byt_range s 0
  have hf : fits v (c + 1) := by
    rw [fits_div, d.1]
    unfold signed
    split <;> omega
  have hn : 1 < c + 1 → ¬ fits v (c + 1 - 1) := by
    intro hc1
    obtain ⟨k, rfl⟩ : ∃ k, c = k + 1 := ⟨c - 1, q2_⟩
    rw [show k + 1 + 1 - 1 = k + 1 by omega, fits_div]
    have d0 := d.2 0 q2_
    rw [show k + 1 - 1 - 0 = k by omega] at d0
    have d1 := d.1
    rw [div_succ] at d1
    have e : (1 : Int) + ((0 : Nat) : Int) = 1 := rfl
    rw [e] at d0
    have r1 := byt_range s 1
    unfold signed at d1
    intro hh
    apply hg
    refine ⟨q2_, ?_⟩
    split at d1 <;> omega
  obtain ⟨u, u0, u1⟩ := putC_uniq q2_ q2_ hf hn
  refine ⟨?_, u0, u1, q2_, q2_⟩
  apply str_ext
  · rw [putS_size, u, hc]
  · intro j hj
    rw [putS_size, u] at hj
    rw [putS_byt v j q2_, u]
    cases j with
    | zero =>
      rw [show c + 1 - 1 - 0 = c by omega, d.1]
      show signed (byt s 0) % 256 = byt s 0
      unfold signed
      split <;> omega
    | succ j =>
      rw [show c + 1 - 1 - (j + 1) = c - 1 - j by omega, d.2 j q2_]
      congr 1
      omega
end Go.Proofs.YtogjljpncdmlkaaDoor.W
end
section
namespace Go.Proofs.YtogjljpncdmlkaaDoor.RiV
open Go.RowKit Go.Proofs.YtogjljpncdmlkaaDoor.GV Go.Proofs.YtogjljpncdmlkaaDoorW.PrintWords Go.Proofs.YtogjljpncdmlkaaDoorW.PrintLast
set_option linter.unusedVariables false
set_option linter.unusedSimpArgs false
theorem bt_is2 : bt = W.byt := rfl
theorem w64 (x : Int) (h0 : -9223372036854775808 ≤ x) (h1 : x ≤ 9223372036854775807) : wrap64 x = x := by unfold wrap64; omega
theorem rput_round (n : Int) (a : ByteArray) (h0 : -9223372036854775808 ≤ n) (h1 : n ≤ 9223372036854775807) (ha : a.size ≤ 100) (k : Nat) :
    rosterref02_PutInt.l0 (k + 1) n a = if -128 ≤ n ∧ n < 128 then some (strOfNums [n % 256] ++ a) else rosterref02_PutInt.l0 k (n / 256) (strOfNums [n % 256] ++ a) := by
  have t1 := Int.mul_tdiv_add_tmod n 256
  have t2 : n.tmod 256 < 256 := Int.tmod_lt_of_pos n q19_
  have t3 : -256 < n.tmod 256 := Int.lt_tmod_of_pos n q19_
  have hsz : (strOfNums [n % 256]).size + a.size ≤ 9223372036854775807 := by rw [W.str_size]; simp; omega
  have hq : Int.tdiv (n - n % 256) 256 = n / 256 := by
    rw [show n - n % 256 = 256 * (n / 256) by omega]
    exact Int.mul_tdiv_cancel_left _ q19_
  have ew : wrap64 (n - n % 256) = n - n % 256 := w64 _ q2_ q2_
  have eq : wrap64 (n / 256) = n / 256 := w64 _ q2_ q2_
  have em : n % 256 % 256 = n % 256 := by omega
  rw [rosterref02_PutInt.l0]
  have key : (if n / 256 = 0 then (if n % 256 < 128 then (some ((strOfNums [n % 256]) ++ a)) else (if n / 256 = (-1) then (if n % 256 ≥ 128 then (some ((strOfNums [n % 256]) ++ a)) else (rosterref02_PutInt.l0 k (n / 256) ((strOfNums [n % 256]) ++ a))) else (rosterref02_PutInt.l0 k (n / 256) ((strOfNums [n % 256]) ++ a)))) else (if n / 256 = (-1) then (if n % 256 ≥ 128 then (some ((strOfNums [n % 256]) ++ a)) else (rosterref02_PutInt.l0 k (n / 256) ((strOfNums [n % 256]) ++ a))) else (rosterref02_PutInt.l0 k (n / 256) ((strOfNums [n % 256]) ++ a)))) =
      if -128 ≤ n ∧ n < 128 then some (strOfNums [n % 256] ++ a) else rosterref02_PutInt.l0 k (n / 256) (strOfNums [n % 256] ++ a) := by
    by_cases q0 : n / 256 = 0
    · rw [if_pos q0]
      by_cases d0 : n % 256 < 128
      · rw [if_pos d0, if_pos q2_]
      · rw [if_neg d0, if_neg q2_, if_neg (show ¬ (-128 ≤ n ∧ n < 128) by omega)]
    · rw [if_neg q0]
      by_cases q1 : n / 256 = -1
      · rw [if_pos q1]
        by_cases d0 : n % 256 ≥ 128
        · rw [if_pos d0, if_pos (show -128 ≤ n ∧ n < 128 by omega)]
        · rw [if_neg d0, if_neg (show ¬ (-128 ≤ n ∧ n < 128) by omega)]
      · rw [if_neg q1, if_neg (show ¬ (-128 ≤ n ∧ n < 128) by omega)]
  by_cases c : n.tmod 256 < 0
  · have e : wrap64 (n.tmod 256 + 256) = n % 256 := by rw [w64 _ q2_ q2_]; omega
    rw [if_pos c, e, em, Option.bind_some, if_pos hsz, ew, hq, eq]
    exact key
  · have e : n.tmod 256 = n % 256 := by omega
    rw [if_neg c, e, em, Option.bind_some, if_pos hsz, ew, hq, eq]
    exact key
theorem strOfNums_app (l m : List Int) (b : ByteArray) : strOfNums (l ++ m) ++ b = strOfNums l ++ (strOfNums m ++ b) := by
  apply ByteArray.ext
  have hd : ∀ l, (strOfNums l).data = (l.map fun n => UInt8.ofNat n.toNat).toArray := fun _ => rfl
  rw [ByteArray.data_append, ByteArray.data_append, ByteArray.data_append, hd, hd, hd, List.map_append, ← List.append_toArray, Array.append_assoc]
theorem putL_succ (n : Int) (c : Nat) : W.putL n (c + 1 + 1) = W.putL (n / 256) (c + 1) ++ [n % 256] := by
  apply List.ext_getElem
  · simp [W.putL]
  · intro j h1 h2
    have hj : j < c + 2 := by simpa [W.putL] using h1
    by_cases e : j = c + 1
    · subst e
      rw [List.getElem_append_right (by simp [W.putL])]
      simp only [W.putL, List.getElem_ofFn, W.putAt_256]
      rw [show c + 1 + 1 - 1 - (c + 1) = 0 by omega]
      simp
    · rw [List.getElem_append_left (by simp [W.putL]; omega)]
      simp only [W.putL, List.getElem_ofFn, W.putAt_256]
      rw [show c + 1 + 1 - 1 - j = (c + 1 - 1 - j) + 1 by omega, W.div_succ']
theorem putL_one (n : Int) : W.putL n 1 = [n % 256] := by
  simp [W.putL, W.putAt_256]
theorem rput (c : Nat) : ∀ (n : Int) (a : ByteArray), c ≤ 7 → W.putC n = c + 1 → -9223372036854775808 ≤ n → n ≤ 9223372036854775807 → a.size + c ≤ 100 →
    ∀ k, rosterref02_PutInt.l0 (k + c + 1) n a = some (strOfNums (W.putL n (c + 1)) ++ a) := by
  induction c with
  | zero =>
    intro n a _ hc h0 h1 ha k
    obtain ⟨_, _, pf, _⟩ := W.putC_spec n h0 h1
    rw [hc, W.fits_1] at pf
    rw [rput_round n a h0 h1 q2_, if_pos pf, putL_one]
  | succ c ih =>
    intro n a c7 hc h0 h1 ha k
    obtain ⟨_, _, pf, pn⟩ := W.putC_spec n h0 h1
    have n1 := pn 1 q2_ q2_
    rw [W.fits_1] at n1
    rw [hc] at pf pn
    have hc' : W.putC (n / 256) = c + 1 := by
      refine (W.putC_uniq q2_ q2_ ((W.fits_step n c).1 pf) (fun h => ?_)).1
      obtain ⟨q, rfl⟩ : ∃ q, c = q + 1 := ⟨c - 1, q2_⟩
      have := pn (q + 2) q2_ q2_
      rw [W.fits_step] at this
      exact this
    rw [show k + (c + 1) + 1 = (k + c + 1) + 1 by omega, rput_round n a h0 h1 q2_, if_neg n1, ih (n / 256) _ q2_ hc' q2_ q2_ (by rw [ByteArray.size_append, W.str_size]; simp; omega) k, putL_succ, strOfNums_app]
theorem rput_f (n : Int) (h0 : -9223372036854775808 ≤ n) (h1 : n ≤ 9223372036854775807) (k : Nat) : rosterref02_PutInt.f (k + 8) n = some (W.putS n) := by
  obtain ⟨p1, p8, pf, pn⟩ := W.putC_spec n h0 h1
  unfold rosterref02_PutInt.f
  have h := rput (W.putC n - 1) n ⟨#[]⟩ q2_ q2_ h0 h1 (by show 0 + _ ≤ 100; omega) (k + 8 - W.putC n)
  rw [show k + 8 - W.putC n + (W.putC n - 1) + 1 = k + 8 by omega, show W.putC n - 1 + 1 = W.putC n by omega] at h
  rw [h]
  unfold W.putS
  congr 1
  apply ByteArray.ext
  simp [ByteArray.data_append]
theorem rint_loop (s : ByteArray) (x : Int) (hx : x = 0 ∨ x = -1) (hs : s.size ≤ 8) (hb : (x = 0 → W.byt s 0 < 128) ∧ (x = -1 → 128 ≤ W.byt s 0)) : ∀ (m i : Nat), i + m = s.size →
    ∀ k, rosterref02_Int.l0 (k + m + 1) s (W.numAt s 0 i x) i = rosterref02_Int.l0 (k + 1) s (W.numAt s 0 s.size x) s.size := by
  intro m
  induction m with
  | zero => intro i h k; obtain rfl : i = s.size := by omega
            rfl
  | succ m ih =>
    intro i h k
    have b := W.byt_range s i
    have r : -36028797018963968 ≤ W.numAt s 0 i x ∧ W.numAt s 0 i x < 36028797018963968 := by
      cases i with
      | zero => simp only [W.numAt]; omega
      | succ i =>
        have e : W.numAt s 0 (i + 1) x = W.numAt s 1 i (x * 256 + W.byt s 0) := rfl
        rw [e]
        have b0 := W.byt_range s 0
        exact W.numAt_in s _ q2_ q2_ i q2_
    have e1 : wrap64 (W.numAt s 0 i x * 256) = W.numAt s 0 i x * 256 := w64 _ q2_ q2_
    have e2 : wrap64 (bt s (i : Int)) = W.byt s i := by rw [bt_is2]; exact w64 _ q2_ q2_
    have e3 : wrap64 (W.numAt s 0 i x * 256 + W.byt s i) = W.numAt s 0 (i + 1) x := by
      rw [W.numAt_snoc, show (0 : Int) + (i : Int) = i by omega]
      exact w64 _ q2_ q2_
    have e4 : wrap64 ((i : Int) + 1) = ((i + 1 : Nat) : Int) := by rw [w64 _ q2_ q2_]; omega
    rw [show k + (m + 1) + 1 = (k + m + 1) + 1 by omega, rosterref02_Int.l0, if_pos q2_, if_pos q2_, e1, e2, e3, e4]
    exact ih (i + 1) q2_ k
theorem rint_j1 (s : ByteArray) (x : Int) (hx : x = 0 ∨ x = -1) (h1 : 1 ≤ s.size) (hs : s.size ≤ 8) (hb : (x = 0 → W.byt s 0 < 128) ∧ (x = -1 → 128 ≤ W.byt s 0)) :
    rosterref02_Int.j1 (s.size + 20) s x = some (W.intS s) := by
  have hl := rint_loop s x hx hs hb s.size 0 q2_ 18
  have sg : x * 256 + W.byt s 0 = W.signed (W.byt s 0) := by
    have b0 := W.byt_range s 0
    unfold W.signed
    rcases hx with rfl | rfl
    · have := hb.1 rfl
      rw [if_pos this]; omega
    · have := hb.2 rfl
      rw [if_neg q2_]; omega
  have ev : W.numAt s 0 s.size x = W.numAt s 1 (s.size - 1) (W.signed (W.byt s 0)) := by
    obtain ⟨c, hc⟩ : ∃ c, s.size = c + 1 := ⟨s.size - 1, q2_⟩
    rw [hc, show c + 1 - 1 = c by omega, ← sg]
    rfl
  rw [show s.size + 20 = (18 + s.size + 1) + 1 by omega, rosterref02_Int.j1]
  have e0 : rosterref02_Int.l0 (18 + s.size + 1) s x 0 = rosterref02_Int.l0 (18 + s.size + 1) s (W.numAt s 0 0 x) ((0 : Nat) : Int) := rfl
  rw [e0, hl, rosterref02_Int.l0, if_neg q2_, ev]
  obtain ⟨v, hv⟩ : ∃ v, v = W.numAt s 1 (s.size - 1) (W.signed (W.byt s 0)) := ⟨_, rfl⟩
  rw [← hv]
  have d := W.numAt_digits s 1 (W.signed (W.byt s 0)) (s.size - 1)
  rw [← hv] at d
  have hf : W.fits v s.size := by
    have b0 := W.byt_range s 0
    rw [show s.size = (s.size - 1) + 1 by omega, W.fits_div, d.1]
    unfold W.signed
    split <;> omega
  have hr : -9223372036854775808 ≤ v ∧ v ≤ 9223372036854775807 := by
    have := W.fits_le h1 hf 8 hs
    unfold W.fits at this
    simp at this
    omega
  rw [rput_f v hr.1 hr.2 10, Option.bind_some]
  by_cases hg : (W.intS s).2 = 0
  · have hp := W.put_int s hg
    have hi : W.intS s = (v, 0) := by
      have : (W.intS s).1 = v := by
        unfold W.intS at hg ⊢
        split at hg
        · simp at hg
        rename_i hz
        split at hg
        · simp at hg
        rename_i hy
        rw [if_neg hz, if_neg hy, hv]
      rw [← this, ← hg]
    rw [hi] at hp ⊢
    rw [if_pos (by rw [hp.1])]
  · have hi : W.intS s = (0, 29) ∧ 1 < s.size ∧ ((W.byt s 0 = 0 ∧ W.byt s 1 < 128) ∨ (W.byt s 0 = 255 ∧ 128 ≤ W.byt s 1)) := by
      unfold W.intS at hg ⊢
      rw [if_neg q2_] at hg ⊢
      by_cases hy : 1 < s.size ∧ ((W.byt s 0 = 0 ∧ W.byt s 1 < 128) ∨ (W.byt s 0 = 255 ∧ 128 ≤ W.byt s 1))
      · rw [if_pos hy]
        exact ⟨rfl, hy⟩
      · rw [if_neg hy] at hg
        exact absurd rfl hg
    rw [hi.1, if_neg ?_]
    intro e
    have e := W.toList_inj.1 e
    have hsz := W.putS_size v
    rw [e] at hsz
    obtain ⟨p1, p8, pf, pn⟩ := W.putC_spec v hr.1 hr.2
    obtain ⟨q, hq⟩ : ∃ q, s.size = q + 2 := ⟨s.size - 2, q2_⟩
    have nf := pn (q + 1) q2_ q2_
    apply nf
    rw [W.fits_div]
    have d1 := d.1
    have d0 := d.2 0 q2_
    rw [hq, show q + 2 - 1 = q + 1 by omega, W.div_succ] at d1
    rw [hq, show q + 2 - 1 - 1 - 0 = q by omega] at d0
    have e1 : (1 : Int) + ((0 : Nat) : Int) = 1 := rfl
    rw [e1] at d0
    have h3 := hi.2.2
    unfold W.signed at d1
    split at d1 <;> omega
theorem rint_f (s : ByteArray) : rosterref02_Int.f (s.size + 21) s = some (W.intS s) := by
  unfold rosterref02_Int.f
  by_cases c0 : s.size = 0
  · have hI : W.intS s = (0, 29) := by unfold W.intS; rw [if_pos (Or.inl c0)]
    rw [if_pos q2_, hI, rosterref02_Int.j0]
    rfl
  rw [if_neg q2_]
  by_cases c8 : 8 < s.size
  · have hI : W.intS s = (0, 29) := by unfold W.intS; rw [if_pos (Or.inr c8)]
    have e : decide ((s.size : Int) > 8) = true := by simp; omega
    rw [e, hI, rosterref02_Int.j0]
    rfl
  have e : decide ((s.size : Int) > 8) = false := by simp; omega
  rw [e, rosterref02_Int.j0, if_neg q28_, if_pos q2_, bt_is2]
  by_cases b0 : W.byt s 0 ≥ 128
  · rw [if_pos b0]
    exact rint_j1 s (-1) (Or.inr rfl) q2_ q2_ ⟨fun h => by omega, fun _ => b0⟩
  · rw [if_neg b0]
    exact rint_j1 s 0 (Or.inl rfl) q2_ q2_ ⟨fun _ => by omega, fun h => by omega⟩
theorem rint_k (s : ByteArray) (k : Nat) (hk : s.size + 21 ≤ k) : rosterref02_Int.f k s = some (W.intS s) := by
  obtain ⟨j, rfl⟩ : ∃ j, k = s.size + 21 + j := ⟨k - (s.size + 21), q2_⟩
  induction j with
  | zero => exact rint_f s
  | succ j ih => exact rosterref02_Int.mono _ _ _ (ih q2_)
theorem rput_k (n : Int) (h0 : -9223372036854775808 ≤ n) (h1 : n ≤ 9223372036854775807) (k : Nat) (hk : 8 ≤ k) : rosterref02_PutInt.f k n = some (W.putS n) := by
  obtain ⟨j, rfl⟩ : ∃ j, k = j + 8 := ⟨k - 8, q2_⟩
  exact rput_f n h0 h1 j
end Go.Proofs.YtogjljpncdmlkaaDoor.RiV
end
section
namespace Go.Proofs.YtogjljpncdmlkaaDoor.Pv
open Go.RowKit Go.Proofs.YtogjljpncdmlkaaDoor.GV Go.Proofs.YtogjljpncdmlkaaDoor.W Go.Proofs.YtogjljpncdmlkaaDoorW.PrintWords Go.Proofs.YtogjljpncdmlkaaDoorW.PrintLast
set_option linter.unusedVariables false
set_option linter.unusedSimpArgs false
abbrev K := S25
abbrev N := S43
theorem wr (i : Nat) (h : i ≤ 4294967296) : wrap64 ((i : Int) + 1) = ((i + 1 : Nat) : Int) := by unfold wrap64; omega
theorem bsB {β : Type} (b : Bool) (f : Bool → Option β) : (some b).bind f = f b := rfl
theorem utf_f (s : ByteArray) (hs : s.size ≤ 140737488355328) : view_utf8.f s = some (Tx.U s) := by
  unfold view_utf8.f text_Check.f
  rw [if_pos hs]; rfl
theorem isU_f (s : ByteArray) (hs : s.size ≤ 140737488355328) : rosterref22_isUTF8.f s = some (Tx.U s) := by
  unfold rosterref22_isUTF8.f rosterref01_Check.f
  rw [if_pos hs]; rfl
def nodeK (x : K) : List N := [⟨2, 0, true, 16, ⟨#[]⟩⟩, ⟨3, 0, false, 4, x.f0⟩] ++ (if x.f1.toList = ([] : List UInt8) then [] else [⟨3, 2, false, 0, x.f1⟩]) ++ (if x.f2 = true then [⟨3, 2, false, 1, ⟨#[255]⟩⟩] else [])
def fin (acc : List N) : Option (ByteArray × Int) := (ber_Write.f acc).bind fun bt => if bt.2.1 = 0 then some (bt.1, 0) else some ((⟨#[]⟩ : ByteArray), 224)
def encR : List N → List K → Option (ByteArray × Int)
  | acc, [] => fin acc
  | acc, x :: r => if Tx.U x.f0 = true ∧ Tx.U x.f1 = true then encR (acc ++ nodeK x) r else some ((⟨#[]⟩ : ByteArray), 224)
def okK (l : List K) : Prop := ∀ x ∈ l, x.f0.size ≤ 2097152 ∧ x.f1.size ≤ 2097152
theorem rdK (l : List K) (i : Nat) (h : i < l.length) : rd_T25 l (i : Int) = l[i] := by
  unfold rd_T25
  rw [Int.toNat_natCast, List.getD_eq_getElem?_getD, List.getElem?_eq_getElem h]; rfl
theorem nodeK_len (x : K) : (nodeK x).length ≤ 4 := by
  unfold nodeK
  split <;> split <;> simp
theorem vEnc_l (l : List K) (ho : okK l) (hl : l.length ≤ 1048576) : ∀ (j i k : Nat) (acc : List N), i + j = l.length → acc.length ≤ 1 + 4 * i → view_EncodeKeys.l0 (k + 3 * j + 1) acc l (l.length : Int) (i : Int) = encR acc (l.drop i) := by
  intro j
  induction j with
  | zero =>
    intro i k acc hi ha
    rw [view_EncodeKeys.l0, if_neg q2_, List.drop_of_length_le q2_]
    rfl
  | succ j ih =>
    intro i k acc hi ha
    have hil : i < l.length := by omega
    have hx := ho l[i] (List.getElem_mem hil)
    have hd : l.drop i = l[i] :: l.drop (i + 1) := List.drop_eq_getElem_cons hil
    rw [show k + 3 * (j + 1) + 1 = (k + 3 * j + 1) + 1 + 1 + 1 by omega, view_EncodeKeys.l0, if_pos q2_, if_pos q2_, if_pos q2_, rdK l i hil, hd, encR]
    generalize l[i] = x at hx ⊢
    rw [utf_f _ q2_, bsB]
    by_cases u0 : Tx.U x.f0 = true
    · rw [if_pos u0, utf_f _ q2_, bsB, view_EncodeKeys.j1]
      by_cases u1 : Tx.U x.f1 = true
      · have e1 : (!Tx.U x.f1) = false := by rw [u1]; rfl
        rw [e1, if_neg Bool.false_ne_true, if_pos ⟨u0, u1⟩]
        unfold view_sequence.f view_octets.f view_context.f
        simp only [Option.bind_some]
        have hq : ∀ (m : Nat) (a : List N), m = k + 3 * j + 1 → a.length ≤ 1 + 4 * (i + 1) → view_EncodeKeys.l0 m a l (l.length : Int) (wrap64 ((i : Int) + 1)) = encR a (l.drop (i + 1)) := by
          rintro m a rfl h
          rw [wr i q2_]
          exact ih (i + 1) k a q2_ h
        rw [if_pos q39_]
        unfold nodeK
        by_cases r0 : x.f1.toList = ([] : List UInt8)
        · rw [if_pos r0, if_pos r0, view_EncodeKeys.j2]
          by_cases r1 : x.f2 = true
          · rw [if_pos r1, if_pos r1]
            unfold ber_PutBool.f
            simp only [if_true, Option.bind_some, view_context.f]
            rw [if_pos q39_, hq _ _ rfl q39_]
            simp
          · rw [if_neg r1, if_neg r1, hq _ _ rfl q39_]
            simp
        · rw [if_neg r0, if_neg r0, if_pos q39_, view_EncodeKeys.j2]
          by_cases r1 : x.f2 = true
          · rw [if_pos r1, if_pos r1]
            unfold ber_PutBool.f
            simp only [if_true, Option.bind_some, view_context.f]
            rw [if_pos q39_, hq _ _ rfl q39_]
            simp
          · rw [if_neg r1, if_neg r1, hq _ _ rfl q39_]
            simp
      · have e1 : (!Tx.U x.f1) = true := by rw [Bool.eq_false_iff.2 u1]; rfl
        rw [e1, if_pos rfl, if_neg (fun h => u1 h.2)]
    · rw [if_neg u0, view_EncodeKeys.j1, if_pos rfl, if_neg (fun h => u0 h.1)]
theorem rEnc_l (l : List K) (ho : okK l) (hl : l.length ≤ 1048576) : ∀ (j i k : Nat) (acc : List N), i + j = l.length → acc.length ≤ 1 + 4 * i → rosterref22_EncodeKeys.l0 (k + 2 * j + 1) l acc (i : Int) = encR acc (l.drop i) := by
  intro j
  induction j with
  | zero =>
    intro i k acc hi ha
    rw [rosterref22_EncodeKeys.l0, if_neg q2_, List.drop_of_length_le q2_]
    rfl
  | succ j ih =>
    intro i k acc hi ha
    have hil : i < l.length := by omega
    have hx := ho l[i] (List.getElem_mem hil)
    have hd : l.drop i = l[i] :: l.drop (i + 1) := List.drop_eq_getElem_cons hil
    rw [show k + 2 * (j + 1) + 1 = (k + 2 * j + 1) + 1 + 1 by omega, rosterref22_EncodeKeys.l0, if_pos q2_, if_pos q2_, rdK l i hil, hd, encR]
    generalize l[i] = x at hx ⊢
    rw [isU_f _ q2_, bsB]
    by_cases u0 : Tx.U x.f0 = true
    · rw [if_pos u0, isU_f _ q2_, bsB, rosterref22_EncodeKeys.j1]
      by_cases u1 : Tx.U x.f1 = true
      · have e1 : (!Tx.U x.f1) = false := by rw [u1]; rfl
        rw [e1, if_neg Bool.false_ne_true, if_pos ⟨u0, u1⟩]
        unfold rosterref22_made.f rosterref22_leaf.f
        simp only [Option.bind_some]
        have hq : ∀ (m : Nat) (a : List N), m = k + 2 * j + 1 → a.length ≤ 1 + 4 * (i + 1) → rosterref22_EncodeKeys.l0 m l a (wrap64 ((i : Int) + 1)) = encR a (l.drop (i + 1)) := by
          rintro m a rfl h
          rw [wr i q2_]
          exact ih (i + 1) k a q2_ h
        rw [if_pos q39_]
        unfold nodeK
        by_cases r0 : x.f1.toList = ([] : List UInt8)
        · rw [if_pos r0, if_pos r0]
          by_cases r1 : x.f2 = true
          · rw [if_pos r1, if_pos r1, if_pos q39_, hq _ _ rfl q39_]
            simp
          · rw [if_neg r1, if_neg r1, hq _ _ rfl q39_]
            simp
        · rw [if_neg r0, if_neg r0, if_pos q39_]
          by_cases r1 : x.f2 = true
          · rw [if_pos r1, if_pos r1, if_pos q39_, hq _ _ rfl q39_]
            simp
          · rw [if_neg r1, if_neg r1, hq _ _ rfl q39_]
            simp
      · have e1 : (!Tx.U x.f1) = true := by rw [Bool.eq_false_iff.2 u1]; rfl
        rw [e1, if_pos rfl, if_neg (fun h => u1 h.2)]
    · rw [if_neg u0, rosterref22_EncodeKeys.j1, if_pos rfl, if_neg (fun h => u0 h.1)]
def root : N := ⟨1, 0, true, 16, ⟨#[]⟩⟩
theorem vEnc_f (l : List K) (ho : okK l) (hl : l.length ≤ 1048576) (k : Nat) (hk : 3 * l.length + 1 ≤ k) : view_EncodeKeys.f k l = encR [root] l := by
  obtain ⟨q, rfl⟩ : ∃ q, k = q + 3 * l.length + 1 := ⟨k - (3 * l.length + 1), q2_⟩
  exact vEnc_l l ho hl l.length 0 q [root] q2_ q28_
theorem rEnc_f (l : List K) (ho : okK l) (hl : l.length ≤ 1048576) (k : Nat) (hk : 2 * l.length + 1 ≤ k) : rosterref22_EncodeKeys.f k l = encR [root] l := by
  obtain ⟨q, rfl⟩ : ∃ q, k = q + 2 * l.length + 1 := ⟨k - (2 * l.length + 1), q2_⟩
  exact rEnc_l l ho hl l.length 0 q [root] q2_ q28_
def hd (xs : List NodeT) (d c : Int) (m : Bool) (t : Int) : Bool := match xs with
  | n :: _ => nxB n d c m t
  | [] => false
def bd (xs : List NodeT) : ByteArray := match xs with
  | n :: _ => n.2.2.2.2
  | [] => ⟨#[]⟩
theorem nx_hd (d c : Int) (m : Bool) (t : Int) (xs : List NodeT) : nx d c m t xs = if hd xs d c m t = true then some (bd xs, xs.tail) else none := by
  cases xs <;> rfl
theorem must_hd (d c : Int) (m : Bool) (t : Int) (xs : List NodeT) (bad : Bool) : mustS d c m t xs bad = if hd xs d c m t = true then (bd xs, xs.tail, bad) else (⟨#[]⟩, xs, true) := by
  unfold mustS
  rw [nx_hd]
  by_cases h : hd xs d c m t = true
  · rw [if_pos h, if_pos h]
  · rw [if_neg h, if_neg h]
theorem next_hd (d c : Int) (m : Bool) (t : Int) (xs : List NodeT) : nextS d c m t xs = if hd xs d c m t = true then (bd xs, true, xs.tail) else (⟨#[]⟩, false, xs) := by
  unfold nextS
  rw [nx_hd]
  by_cases h : hd xs d c m t = true
  · rw [if_pos h, if_pos h]
  · rw [if_neg h, if_neg h]
theorem must_stays (d c : Int) (m : Bool) (t : Int) (xs : List NodeT) : (mustS d c m t xs true).2.2 = true := by
  rw [must_hd]
  split <;> rfl
theorem key_bad1 (xs : List NodeT) (h : hd xs 2 0 true 16 = false) : (keyS xs false).2.2 = true := by
  have h1 : (mustS 2 0 true 16 xs false).2 = (xs, true) := by rw [must_hd, h]; rfl
  have h2 := must_stays 3 0 false 4 xs
  unfold keyS
  simp only [h1, h2, Bool.true_or]
theorem key_bad2 (xs : List NodeT) (h : hd xs 2 0 true 16 = true) (h2 : hd xs.tail 3 0 false 4 = false) : (keyS xs false).2.2 = true := by
  have h1 : (mustS 2 0 true 16 xs false).2 = (xs.tail, false) := by rw [must_hd, h]; rfl
  have h3 : mustS 3 0 false 4 xs.tail false = (⟨#[]⟩, xs.tail, true) := by rw [must_hd, h2]; rfl
  unfold keyS
  simp only [h1, h3, Bool.true_or]
theorem key_good (xs : List NodeT) (h : hd xs 2 0 true 16 = true) (h2 : hd xs.tail 3 0 false 4 = true) (b3 : ByteArray) (o3 : Bool) (x3 : List NodeT) (b4 : ByteArray) (o4 : Bool) (x4 : List NodeT)
    (e3 : nextS 3 2 false 0 xs.tail.tail = (b3, o3, x3)) (e4 : nextS 3 2 false 1 x3 = (b4, o4, x4)) :
    keyS xs false = ((bd xs.tail, b3, if o4 = true then (boolV b4).1 else false), x4, ((o3 && b3.toList.isEmpty) || (o4 && (boolV b4).2 != 0)) || !(Tx.U (bd xs.tail)) || !(Tx.U b3)) := by
  have h1 : (mustS 2 0 true 16 xs false).2 = (xs.tail, false) := by rw [must_hd, h]; rfl
  have h3 : mustS 3 0 false 4 xs.tail false = (bd xs.tail, xs.tail.tail, false) := by rw [must_hd, h2]; rfl
  unfold keyS
  simp only [h1, h3, e3, e4, Bool.false_or]
theorem tail_drop (l : List NodeT) (i : Nat) : (l.drop i).tail = l.drop (i + 1) := by rw [List.tail_drop]
abbrev up := rosterref02_Tree.up
theorem rdN (l : List NodeT) (i : Nat) (h : i < l.length) : rd_T43 (l.map up) (i : Int) = up l[i] := by
  unfold rd_T43
  rw [Int.toNat_natCast, List.getD_eq_getElem?_getD, List.getElem?_map, List.getElem?_eq_getElem h]; rfl
theorem bd_drop (l : List NodeT) (i : Nat) (h : i < l.length) : (rd_T43 (l.map up) (i : Int)).f4 = bd (l.drop i) := by
  rw [rdN l i h, List.drop_eq_getElem_cons h]; rfl
theorem hd_lt (l : List NodeT) (i : Nat) (d c : Int) (m : Bool) (t : Int) (h : hd (l.drop i) d c m t = true) : i < l.length := by
  by_cases hi : i < l.length
  · exact hi
  · rw [List.drop_of_length_le q2_] at h; cases h
theorem is_f (l : List NodeT) (i : Nat) (d c t : Int) (m : Bool) : rosterref22_is.f (l.map up) (i : Int) d c t m = some (hd (l.drop i) d c m t) := by
  unfold rosterref22_is.f
  rw [List.length_map]
  by_cases hi : i < l.length
  · rw [if_pos q2_, if_pos q2_, rdN l i hi, List.drop_eq_getElem_cons hi]
    generalize l[i] = n
    show (if n.1 = d then (if n.2.1 = c then (if n.2.2.2.1 = t then some (n.2.2.1 == m) else some false) else some false) else some false) = some (nxB n d c m t)
    unfold nxB
    by_cases h0 : n.1 = d
    · rw [if_pos h0]
      by_cases h1 : n.2.1 = c
      · rw [if_pos h1]
        by_cases h2 : n.2.2.2.1 = t
        · rw [if_pos h2, h0, h1, h2]; simp
        · rw [if_neg h2, beq_eq_false_iff_ne.2 h2]; simp
      · rw [if_neg h1, beq_eq_false_iff_ne.2 h1]; simp
    · rw [if_neg h0, beq_eq_false_iff_ne.2 h0]; simp
  · rw [if_neg q2_, List.drop_of_length_le q2_]; rfl
def upK (x : KeyT) : K := ⟨x.1, x.2.1, x.2.2⟩
def outK (r : List KeyT × Bool) : List K × Int := if r.2 = true then ([], 224) else (r.1.map upK, 0)
theorem keysF_bad (n : Nat) (xs : List NodeT) (acc : List KeyT) : keysF n xs true acc = (acc, true) := by
  cases n with
  | zero => rfl
  | succ n => rw [keysF, if_neg q28_]
theorem rbool_f (s : ByteArray) : rosterref02_Bool.f s = some (boolV s) := by
  unfold rosterref02_Bool.f boolV
  by_cases h : s.size = 1
  · rw [if_pos q2_, if_pos q2_, if_pos h]; rfl
  · rw [if_neg q2_, if_neg h]
theorem small_bd {l : List NodeT} (hs : Small l) (i : Nat) : (bd (l.drop i)).size ≤ 2097152 := by
  unfold bd
  split
  · rename_i n r e
    exact hs n (List.mem_of_mem_drop (by rw [e]; exact List.mem_cons_self))
  · exact Nat.zero_le _
theorem wr2 (i c : Nat) (h : i ≤ 4294967296) (hc : c ≤ 100) : wrap64 ((i : Int) + (c : Int)) = ((i + c : Nat) : Int) := by unfold wrap64; omega
theorem rDec_l (l : List NodeT) (hl : l.length ≤ 2097153) (hs : Small l) : ∀ (j i k n : Nat) (acc : List KeyT), i + j = l.length → acc.length ≤ i → j + 1 ≤ n → rosterref22_DecodeKeys.l0 (k + 4 * j + 1) (l.map up) (acc.map upK) (i : Int) = some (outK (keysF n (l.drop i) false acc)) := by
  intro j
  induction j using Nat.strongRecOn with
  | _ j ih =>
    intro i k n acc hi ha hn
    obtain ⟨n, rfl⟩ : ∃ q, n = q + 1 := ⟨n - 1, q2_⟩
    rw [rosterref22_DecodeKeys.l0, keysF]
    have hlm : ((l.map up).length : Int) = (l.length : Int) := by rw [List.length_map]
    by_cases hil : i < l.length
    · rw [hlm, if_pos q2_, if_pos ⟨rfl, by rw [List.length_drop]; omega⟩, is_f, bsB]
      have E : ∀ m : Nat, (keyS (l.drop i) false).2.2 = true → some (([] : List K), (224 : Int)) = some (outK (keysF n (keyS (l.drop i) false).2.1 (keyS (l.drop i) false).2.2 (acc ++ [(keyS (l.drop i) false).1]))) := by
        intro m h
        rw [h, keysF_bad]; rfl
      obtain ⟨j, rfl⟩ : ∃ q, j = q + 1 := ⟨j - 1, q2_⟩
      rw [show k + 4 * (j + 1) = (k + 4 * j + 1) + 1 + 1 + 1 by omega]
      by_cases h1 : hd (l.drop i) 2 0 true 16 = true
      · rw [if_pos h1, show wrap64 ((i : Int) + 1) = ((i + 1 : Nat) : Int) from wr i q2_, is_f, bsB]
        by_cases h2 : hd (l.drop (i + 1)) 3 0 false 4 = true
        · have hi1 := hd_lt _ _ _ _ _ _ h2
          have h2' : hd (l.drop i).tail 3 0 false 4 = true := by rw [tail_drop]; exact h2
          rw [h2, rosterref22_DecodeKeys.j2, if_neg q19_, hlm, show wrap64 ((i : Int) + 1) = ((i + 1 : Nat) : Int) from wr i q2_, show wrap64 ((i : Int) + 2) = ((i + 2 : Nat) : Int) from wr2 i 2 q2_ q2_, if_pos q2_, if_pos q2_, is_f, bsB, bd_drop l (i + 1) hi1]
          obtain ⟨b3, o3, x3, e3⟩ : ∃ b3 o3 x3, nextS 3 2 false 0 (l.drop i).tail.tail = (b3, o3, x3) := ⟨_, _, _, rfl⟩
          obtain ⟨b4, o4, x4, e4⟩ : ∃ b4 o4 x4, nextS 3 2 false 1 x3 = (b4, o4, x4) := ⟨_, _, _, rfl⟩
          have hk := key_good (l.drop i) h1 h2' b3 o3 x3 b4 o4 x4 e3 e4
          rw [tail_drop] at hk
          rw [tail_drop, tail_drop, next_hd] at e3
          -- behind the rule
          have J3 : ∀ i3 : Nat, i + 2 ≤ i3 → i3 ≤ l.length → x3 = l.drop i3 → b3.size ≤ 2097152 → (o3 && b3.toList.isEmpty) = false →
              rosterref22_DecodeKeys.j3 (k + 4 * j + 1 + 1 + 1) (l.map up) (acc.map upK) (i3 : Int) (bd (l.drop (i + 1))) b3 false = some (outK (keysF n (keyS (l.drop i) false).2.1 (keyS (l.drop i) false).2.2 (acc ++ [(keyS (l.drop i) false).1]))) := by
            intro i3 h30 h31 hx3 hb3 hg
            subst hx3
            rw [hg, Bool.false_or] at hk
            rw [rosterref22_DecodeKeys.j3, is_f, bsB]
            rw [next_hd] at e4
            have J4 : ∀ (i4 : Nat) (v : Bool), i + 2 ≤ i4 → i4 ≤ l.length → keyS (l.drop i) false = ((bd (l.drop (i + 1)), b3, v), l.drop i4, !(Tx.U (bd (l.drop (i + 1)))) || !(Tx.U b3)) →
                rosterref22_DecodeKeys.j4 (k + 4 * j + 1 + 1) (l.map up) (acc.map upK) (i4 : Int) (bd (l.drop (i + 1))) b3 v = some (outK (keysF n (keyS (l.drop i) false).2.1 (keyS (l.drop i) false).2.2 (acc ++ [(keyS (l.drop i) false).1]))) := by
              intro i4 v h40 h41 hk4
              have E' := E 0
              rw [hk4] at E' ⊢
              rw [rosterref22_DecodeKeys.j4, isU_f _ (by have := small_bd hs (i + 1); omega), bsB]
              by_cases u0 : Tx.U (bd (l.drop (i + 1))) = true
              · rw [if_pos u0, isU_f _ q2_, bsB]
                by_cases u1 : Tx.U b3 = true
                · rw [if_pos u1, if_pos (by rw [List.length_map]; omega)]
                  have hf : (!(Tx.U (bd (l.drop (i + 1)))) || !(Tx.U b3)) = false := by rw [u0, u1]; rfl
                  rw [hf]
                  have := ih (l.length - i4) q2_ i4 (k + 4 * (j - (l.length - i4))) n (acc ++ [(bd (l.drop (i + 1)), b3, v)]) q2_ q39_ q2_
                  rw [show k + 4 * (j - (l.length - i4)) + 4 * (l.length - i4) + 1 = k + 4 * j + 1 by omega, List.map_append] at this
                  exact this
                · rw [if_neg u1]
                  exact E' (by simp [u0, Bool.eq_false_iff.2 u1])
              · rw [if_neg u0]
                exact E' (by simp [Bool.eq_false_iff.2 u0])
            by_cases h4 : hd (l.drop i3) 3 2 false 1 = true
            · have hi3 := hd_lt _ _ _ _ _ _ h4
              rw [if_pos h4] at e4 ⊢
              obtain ⟨rfl, rfl, rfl⟩ : bd (l.drop i3) = b4 ∧ true = o4 ∧ (l.drop i3).tail = x4 := by
                injection e4 with q1 q2; injection q2 with q2 q3; exact ⟨q1, q2, q3⟩
              rw [hlm, if_pos q2_, if_pos q2_, bd_drop l i3 hi3, rbool_f, Option.bind_some]
              by_cases e : (boolV (bd (l.drop i3))).2 = 0
              · rw [if_pos e, show wrap64 ((i3 : Int) + 1) = ((i3 + 1 : Nat) : Int) from wr i3 q2_]
                refine J4 (i3 + 1) _ q2_ q2_ ?_
                rw [hk, tail_drop, e]
                rfl
              · rw [if_neg e]
                refine E 0 ?_
                rw [hk]
                have : ((boolV (bd (l.drop i3))).2 != 0) = true := bne_iff_ne.2 e
                simp [this]
            · rw [if_neg h4] at e4 ⊢
              obtain ⟨rfl, rfl, rfl⟩ : (⟨#[]⟩ : ByteArray) = b4 ∧ false = o4 ∧ l.drop i3 = x4 := by
                injection e4 with q1 q2; injection q2 with q2 q3; exact ⟨q1, q2, q3⟩
              refine J4 i3 false h30 h31 ?_
              rw [hk]
              rfl
          by_cases h3 : hd (l.drop (i + 2)) 3 2 false 0 = true
          · have hi2 := hd_lt _ _ _ _ _ _ h3
            rw [show i + 1 + 1 = i + 2 from rfl, if_pos h3] at e3
            rw [if_pos h3, if_pos q2_, if_pos q2_, bd_drop l (i + 2) hi2]
            obtain ⟨rfl, rfl, rfl⟩ : bd (l.drop (i + 2)) = b3 ∧ true = o3 ∧ (l.drop (i + 2)).tail = x3 := by
              injection e3 with q1 q2; injection q2 with q2 q3; exact ⟨q1, q2, q3⟩
            by_cases r0 : (bd (l.drop (i + 2))).toList = ([] : List UInt8)
            · rw [if_pos r0]
              refine E 0 ?_
              rw [hk, r0]
              rfl
            · rw [if_neg r0, show wrap64 (((i + 2 : Nat) : Int) + 1) = ((i + 3 : Nat) : Int) from wr (i + 2) q2_]
              refine J3 (i + 3) q2_ q2_ (by rw [tail_drop]) (small_bd hs _) ?_
              rw [Bool.true_and, Bool.eq_false_iff]
              exact fun h => r0 (List.isEmpty_iff.1 h)
          · rw [show i + 1 + 1 = i + 2 from rfl, if_neg h3] at e3
            rw [if_neg h3]
            obtain ⟨rfl, rfl, rfl⟩ : (⟨#[]⟩ : ByteArray) = b3 ∧ false = o3 ∧ l.drop (i + 2) = x3 := by
              injection e3 with q1 q2; injection q2 with q2 q3; exact ⟨q1, q2, q3⟩
            exact J3 (i + 2) q2_ q2_ rfl (Nat.zero_le _) rfl
        · rw [Bool.eq_false_iff.2 h2, rosterref22_DecodeKeys.j2, if_pos (show (!false) = true from rfl)]
          exact E 0 (key_bad2 _ h1 (by rw [tail_drop]; exact Bool.eq_false_iff.2 h2))
      · rw [if_neg h1, rosterref22_DecodeKeys.j2, if_pos rfl]
        exact E 0 (key_bad1 _ (Bool.eq_false_iff.2 h1))
    · rw [hlm, if_neg q2_, if_neg (by rw [List.length_drop]; omega)]
      rfl
end Go.Proofs.YtogjljpncdmlkaaDoor.Pv
end
section
namespace Go.Proofs.YtogjljpncdmlkaaDoor.Pv
open Go.RowKit Go.Proofs.YtogjljpncdmlkaaDoor.GV Go.Proofs.YtogjljpncdmlkaaDoor.W Go.Proofs.YtogjljpncdmlkaaDoorW.PrintWords Go.Proofs.YtogjljpncdmlkaaDoorW.PrintLast
set_option linter.unusedVariables false
set_option linter.unusedSimpArgs false
theorem tree_len (s : ByteArray) (hs : s.size ≤ 2097152) : (treeS s).1.length ≤ 2097153 := by
  unfold treeS
  generalize hw : walkS s = r
  obtain ⟨l, x⟩ := r
  have hl : l = (elemF s (2 * s.size + 1) 0 s.size 1).1 := (congrArg Prod.fst hw).symm
  have hx : x = (elemF s (2 * s.size + 1) 0 s.size 1).2 := (congrArg Prod.snd hw).symm
  cases x with
  | error x => exact Nat.zero_le _
  | ok q =>
    have h := (elem_ok s (2 * s.size + 1)).1 0 s.size 1 q hx.symm
    rw [← hl] at h
    simp only [treeR]
    split
    · exact Nat.zero_le _
    · rw [List.length_map]; omega
theorem rTree_f (s : ByteArray) (hs : s.size ≤ 2097152) : rosterref02_Tree.f s = some ((treeS s).1.map up, (treeS s).2.1, (treeS s).2.2) := by
  unfold rosterref02_Tree.f
  rw [if_pos hs]
theorem vDecK_f (s : ByteArray) (hs : s.size ≤ 2097152) : view_DecodeKeys.f s = some ((decKeys s).1.map upK, (decKeys s).2) := by
  unfold view_DecodeKeys.f
  rw [if_pos hs]
  rfl
theorem rDecK_f (s : ByteArray) (hs : s.size ≤ 2097152) (k : Nat) (hk : 8388620 ≤ k) : rosterref22_DecodeKeys.f k s = some ((decKeys s).1.map upK, (decKeys s).2) := by
  have hl := tree_len s hs
  have hsm := tree_small s hs
  unfold rosterref22_DecodeKeys.f
  rw [rTree_f s hs, Option.bind_some]
  unfold decKeys openV
  generalize treeS s = T at hl hsm
  obtain ⟨l, e, at_⟩ := T
  simp only at hl hsm ⊢
  obtain ⟨q, rfl⟩ : ∃ q, k = q + 1 := ⟨k - 1, q2_⟩
  by_cases he : e = 0
  · subst he
    rw [if_pos rfl, show ((0 : Int) != 0) = false by decide]
    have h0 := is_f l 0 1 0 16 true
    rw [show ((0 : Nat) : Int) = 0 from rfl, List.drop_zero] at h0
    rw [h0, bsB, must_hd]
    by_cases hh : hd l 1 0 true 16 = true
    · rw [if_pos hh, hh, rosterref22_DecodeKeys.j0, if_neg q19_]
      have hp := hd_lt l 0 1 0 true 16 (by rw [List.drop_zero]; exact hh)
      have h1 := rDec_l l hl hsm (l.length - 1) 1 (q - (4 * (l.length - 1) + 1)) (l.tail.length + 1) [] q2_ q28_ (by rw [List.length_tail]; omega)
      rw [show q - (4 * (l.length - 1) + 1) + 4 * (l.length - 1) + 1 = q by omega] at h1
      rw [show ([] : List K) = ([] : List KeyT).map upK from rfl, show (1 : Int) = ((1 : Nat) : Int) from rfl, h1, show l.drop 1 = l.tail from List.drop_one]
      simp only
      generalize keysF (l.tail.length + 1) l.tail false [] = r
      unfold outK
      by_cases hr : r.2 = true
      · rw [if_pos hr, if_pos hr]; rfl
      · rw [if_neg hr, if_neg hr]
    · rw [if_neg hh, Bool.eq_false_iff.2 hh, rosterref22_DecodeKeys.j0, if_pos q43_]
      simp only [keysF_bad]
      rfl
  · rw [if_neg he, rosterref22_DecodeKeys.j0, if_pos rfl, bne_iff_ne.2 he]
    have := must_stays 1 0 true 16 l
    rw [this, keysF_bad]
    rfl
theorem vDecP_f (s : ByteArray) (hs : s.size ≤ 2097152) : view_DecodePage.f s = some ((decPage s).1, (decPage s).2.1, (decPage s).2.2) := by
  unfold view_DecodePage.f
  rw [if_pos hs]
theorem pb_bad (n e : Int) (xs : List NodeT) : pageBad n e xs true = true := rfl
theorem rDecP_f (s : ByteArray) (hs : s.size ≤ 2097152) (k : Nat) (hk : 8388620 ≤ k) : rosterref22_DecodePage.f k s = some ((decPage s).1, (decPage s).2.1, (decPage s).2.2) := by
  have hsm := tree_small s hs
  unfold rosterref22_DecodePage.f
  rw [rTree_f s hs, Option.bind_some]
  unfold decPage openV
  generalize treeS s = T at hsm
  obtain ⟨l, e, at_⟩ := T
  simp only at hsm ⊢
  obtain ⟨q, rfl⟩ : ∃ q, k = q + 1 := ⟨k - 1, q2_⟩
  have J0 : rosterref22_DecodePage.j0 (q + 1) (l.map up) true = some (0, (⟨#[]⟩ : ByteArray), 224) := by rw [rosterref22_DecodePage.j0, if_pos rfl]
  have hlm : ((l.map up).length : Int) = (l.length : Int) := by rw [List.length_map]
  rw [hlm]
  by_cases he : e = 0
  · subst he
    rw [if_pos rfl, show ((0 : Int) != 0) = false by decide]
    have h0 := is_f l 0 1 0 16 true
    have h1 := is_f l 1 2 0 2 false
    have h2 := is_f l 2 2 0 4 false
    rw [show ((0 : Nat) : Int) = 0 from rfl, List.drop_zero] at h0
    rw [show ((1 : Nat) : Int) = 1 from rfl] at h1
    rw [show ((2 : Nat) : Int) = 2 from rfl] at h2
    have e1 : l.tail = l.drop 1 := List.drop_one.symm
    have e2 : (l.drop 1).tail = l.drop 2 := tail_drop l 1
    have e3 : (l.drop 2).tail = l.drop 3 := tail_drop l 2
    have M1 : mustS 1 0 true 16 l false = if hd l 1 0 true 16 = true then (bd l, l.drop 1, false) else (⟨#[]⟩, l, true) := by rw [must_hd, e1]
    rw [M1]
    by_cases g0 : hd l 1 0 true 16 = true
    · rw [if_pos g0]
      simp only
      have M2 : mustS 2 0 false 2 (l.drop 1) false = if hd (l.drop 1) 2 0 false 2 = true then (bd (l.drop 1), l.drop 2, false) else (⟨#[]⟩, l.drop 1, true) := by rw [must_hd, e2]
      rw [M2]
      by_cases g1 : hd (l.drop 1) 2 0 false 2 = true
      · rw [if_pos g1]
        simp only
        have M3 : mustS 2 0 false 4 (l.drop 2) false = if hd (l.drop 2) 2 0 false 4 = true then (bd (l.drop 2), l.drop 3, false) else (⟨#[]⟩, l.drop 2, true) := by rw [must_hd, e3]
        rw [M3]
        by_cases g2 : hd (l.drop 2) 2 0 false 4 = true
        · rw [if_pos g2]
          simp only
          have hp := hd_lt l 2 _ _ _ _ g2
          by_cases h3 : (l.length : Int) = 3
          · have hbs := small_bd hsm 1
            rw [if_pos h3, h0, bsB, if_pos g0, h1, bsB, if_pos g1, h2, bsB, g2, rosterref22_DecodePage.j0, if_neg q19_, hlm, if_pos q2_, show (1 : Int) = ((1 : Nat) : Int) from rfl, bd_drop l 1 q2_, RiV.rint_k _ _ q2_, Option.bind_some, show (2 : Int) = ((2 : Nat) : Int) from rfl, bd_drop l 2 q2_]
            have hz : (l.drop 3).length = 0 := by rw [List.length_drop]; omega
            unfold pageBad
            rw [hz]
            generalize intS (bd (l.drop 1)) = I
            obtain ⟨n, e⟩ := I
            simp only
            by_cases q0 : e = 0
            · subst q0
              rw [if_pos rfl, show ((0 : Int) != 0) = false by decide]
              by_cases q1 : n < 0
              · rw [if_pos q1, decide_eq_true q1]; rfl
              · rw [if_neg q1, decide_eq_false q1]
                by_cases q2 : n > 2147483647
                · rw [if_pos q2, decide_eq_true (show 2147483647 < n from q2)]; rfl
                · rw [if_neg q2, decide_eq_false (show ¬ 2147483647 < n from q2), if_pos q2_]; rfl
            · rw [if_neg q0, bne_iff_ne.2 q0]; rfl
          · rw [if_neg h3, J0]
            unfold pageBad
            have hz : decide (0 < (l.drop 3).length) = true := decide_eq_true (by rw [List.length_drop]; omega)
            rw [hz]
            simp
        · rw [if_neg g2]
          simp only [pb_bad, if_true]
          by_cases h3 : (l.length : Int) = 3
          · rw [if_pos h3, h0, bsB, if_pos g0, h1, bsB, if_pos g1, h2, bsB, Bool.eq_false_iff.2 g2]; exact J0
          · rw [if_neg h3, J0]
      · rw [if_neg g1]
        have := must_stays 2 0 false 4 (l.drop 1)
        simp only [this, pb_bad, if_true]
        by_cases h3 : (l.length : Int) = 3
        · rw [if_pos h3, h0, bsB, if_pos g0, h1, bsB, if_neg g1]; exact J0
        · rw [if_neg h3, J0]
    · rw [if_neg g0]
      simp only
      have e4 := must_stays 2 0 false 2 l
      obtain ⟨b, x, bb, hm⟩ : ∃ b x bb, mustS 2 0 false 2 l true = (b, x, bb) := ⟨_, _, _, rfl⟩
      rw [hm] at e4
      simp only at e4
      subst e4
      rw [hm]
      have := must_stays 2 0 false 4 x
      simp only [this, pb_bad, if_true]
      by_cases h3 : (l.length : Int) = 3
      · rw [if_pos h3, h0, bsB, if_neg g0]; exact J0
      · rw [if_neg h3, J0]
  · rw [if_neg he, J0, bne_iff_ne.2 he]
    have e5 := must_stays 1 0 true 16 l
    obtain ⟨b, x, bb, hm⟩ : ∃ b x bb, mustS 1 0 true 16 l true = (b, x, bb) := ⟨_, _, _, rfl⟩
    rw [hm] at e5
    simp only at e5
    subst e5
    rw [hm]
    simp only
    have e4 := must_stays 2 0 false 2 x
    obtain ⟨b', x', bb, hm⟩ : ∃ b x' bb, mustS 2 0 false 2 x true = (b, x', bb) := ⟨_, _, _, rfl⟩
    rw [hm] at e4
    simp only at e4
    subst e4
    rw [hm]
    have := must_stays 2 0 false 4 x'
    simp only [this, pb_bad, if_true]
def Wt (acc : List N) : Nat := (acc.map fun n => n.f4.size + 6).sum
theorem Wt_app (a b : List N) : Wt (a ++ b) = Wt a + Wt b := by unfold Wt; rw [List.map_append, List.sum_append]
theorem wt_Wt (a : List N) : wt (a.map ber_Write.dn) 0 (a.map ber_Write.dn).length = Wt a := by
  unfold wt Wt
  rw [List.take_of_length_le (Nat.le_refl _), List.drop_zero, List.map_map]
  rfl
theorem write_some (a : List N) (h1 : a.length ≤ 100000000) (h2 : Wt a ≤ 134217728) : ber_Write.f a = some ((writeS (a.map ber_Write.dn)).1, (writeS (a.map ber_Write.dn)).2.1, (writeS (a.map ber_Write.dn)).2.2) := by
  unfold ber_Write.f
  rw [if_pos ⟨q83_, by rw [wt_Wt]; exact h2⟩]
theorem nodeK_wt (x : K) : Wt (nodeK x) ≤ x.f0.size + x.f1.size + 25 := by
  unfold nodeK
  rw [Wt_app, Wt_app]
  have a1 : Wt ([⟨2, 0, true, 16, ⟨#[]⟩⟩, ⟨3, 0, false, 4, x.f0⟩] : List N) = x.f0.size + 12 := by
    show (⟨#[]⟩ : ByteArray).size + 6 + (x.f0.size + 6 + 0) = _
    rw [show (⟨#[]⟩ : ByteArray).size = 0 from rfl]; omega
  have a2 : Wt (if x.f1.toList = ([] : List UInt8) then ([] : List N) else [⟨3, 2, false, 0, x.f1⟩]) ≤ x.f1.size + 6 := by
    split
    · exact Nat.zero_le _
    · show x.f1.size + 6 + 0 ≤ _; omega
  have a3 : Wt (if x.f2 = true then ([⟨3, 2, false, 1, ⟨#[255]⟩⟩] : List N) else []) ≤ 7 := by
    split
    · show (⟨#[255]⟩ : ByteArray).size + 6 + 0 ≤ _; rw [show (⟨#[255]⟩ : ByteArray).size = 1 from rfl]; omega
    · exact Nat.zero_le _
  omega
def kw (l : List K) : Nat := (l.map fun x => x.f0.size + x.f1.size + 25).sum
theorem enc_some : ∀ (l : List K) (acc : List N), Wt acc + kw l ≤ 134217728 → acc.length + 4 * l.length ≤ 100000000 → ∃ r, encR acc l = some r := by
  intro l
  induction l with
  | nil =>
    intro acc h1 h2
    rw [encR, fin, write_some acc (by simpa using h2) (by simpa [kw] using h1), Option.bind_some]
    split <;> exact ⟨_, rfl⟩
  | cons x l ih =>
    intro acc h1 h2
    rw [encR]
    split
    · have hk : kw (x :: l) = x.f0.size + x.f1.size + 25 + kw l := rfl
      have hn := nodeK_wt x
      have hm := nodeK_len x
      refine ih _ (by rw [Wt_app]; omega) (by rw [List.length_append]; simp only [List.length_cons] at h2; omega)
    · exact ⟨_, rfl⟩
def pageN (n : Int) (c : ByteArray) : List N := [⟨1, 0, true, 16, ⟨#[]⟩⟩, ⟨2, 0, false, 2, putS n⟩, ⟨2, 0, false, 4, c⟩]
def encP (n : Int) (c : ByteArray) : Option (ByteArray × Int) := if n < 0 ∨ 2147483647 < n then some ((⟨#[]⟩ : ByteArray), 224) else fin (pageN n c)
theorem vEncP_f (n : Int) (c : ByteArray) (k : Nat) (hk : 10 ≤ k) : view_EncodePage.f k n c = encP n c := by
  obtain ⟨q, rfl⟩ : ∃ q, k = q + 1 := ⟨k - 1, q2_⟩
  unfold view_EncodePage.f encP
  by_cases h0 : n < 0
  · rw [if_pos h0, if_pos (Or.inl h0), view_EncodePage.j0, if_pos rfl]
  · rw [if_neg h0, view_EncodePage.j0]
    by_cases h1 : n > 2147483647
    · rw [if_pos (decide_eq_true h1), if_pos (Or.inr h1)]
    · rw [if_neg (by simpa using h1), if_neg q2_]
      unfold view_sequence.f view_octets.f ber_PutInt.f
      rw [if_pos q2_]
      rfl
theorem rEncP_f (n : Int) (c : ByteArray) (k : Nat) (hk : 10 ≤ k) : rosterref22_EncodePage.f k n c = encP n c := by
  obtain ⟨q, rfl⟩ : ∃ q, k = q + 1 := ⟨k - 1, q2_⟩
  unfold rosterref22_EncodePage.f encP
  by_cases h0 : n < 0
  · rw [if_pos h0, if_pos (Or.inl h0), rosterref22_EncodePage.j0, if_pos rfl]
  · rw [if_neg h0, rosterref22_EncodePage.j0]
    by_cases h1 : n > 2147483647
    · rw [if_pos (decide_eq_true h1), if_pos (Or.inr h1)]
    · rw [if_neg (by simpa using h1), if_neg q2_, RiV.rput_k n q2_ q2_ q q2_]
      unfold rosterref22_made.f rosterref22_leaf.f
      rfl
theorem putS_small (n : Int) (h0 : 0 ≤ n) (h1 : n ≤ 2147483647) : (putS n).size ≤ 8 := by
  have := putC_spec n q2_ q2_
  rw [putS_size]
  omega
theorem encP_some (n : Int) (c : ByteArray) (hc : c.size ≤ 2097152) : ∃ r, encP n c = some r := by
  unfold encP
  split
  · exact ⟨_, rfl⟩
  · have hp := putS_small n q2_ q2_
    have hw : Wt (pageN n c) = (putS n).size + c.size + 18 := by
      show (⟨#[]⟩ : ByteArray).size + 6 + ((putS n).size + 6 + (c.size + 6 + 0)) = _
      rw [show (⟨#[]⟩ : ByteArray).size = 0 from rfl]; omega
    unfold fin
    rw [write_some _ (by show 3 ≤ _; omega) q2_, Option.bind_some]
    split <;> exact ⟨_, rfl⟩
end Go.Proofs.YtogjljpncdmlkaaDoor.Pv
end
