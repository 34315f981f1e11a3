/- BerInt: of every content the same number and the same truth, of every number and of both truths the same content as the document's. -/
import Derived.Test.YtolhmomnidlmaaaGIx4
import Derived.Test.YtolhmomnidlmaaaIp
namespace Go.Proofs.Ytolhmomnidlmaaa.Pure
open Go.RowKit Go.Proofs.Ytolhmomnidlmaaa.GI Go.Proofs.YtolhmomnidlmaaaW.PrintWords Go.Proofs.YtolhmomnidlmaaaW.PrintLast
set_option linter.unusedVariables false
set_option linter.unusedSimpArgs false

theorem bt_is2 : bt = W.byt := rfl
theorem w64 (x : Int) (h0 : -9223372036854775808 ≤ x) (h1 : x ≤ 9223372036854775807) : wrap64 x = x := by unfold wrap64; omega
/-- One digit of the document's writer. -/
theorem rput_round (n : Int) (a : ByteArray) (h0 : -9223372036854775808 ≤ n) (h1 : n ≤ 9223372036854775807) (ha : a.size ≤ 100) (k : Nat) :
    rosterref02_PutInt.l0 (k + 1) n a = if -128 ≤ n ∧ n < 128 then some (strOfNums [n % 256] ++ a) else rosterref02_PutInt.l0 k (n / 256) (strOfNums [n % 256] ++ a) := by
  have t1 := Int.mul_tdiv_add_tmod n 256
  have t2 : n.tmod 256 < 256 := Int.tmod_lt_of_pos n (by decide)
  have t3 : -256 < n.tmod 256 := Int.lt_tmod_of_pos n (by decide)
  have hsz : (strOfNums [n % 256]).size + a.size ≤ 9223372036854775807 := by rw [W.str_size]; simp; omega
  have hq : Int.tdiv (n - n % 256) 256 = n / 256 := by
    rw [show n - n % 256 = 256 * (n / 256) by omega]
    exact Int.mul_tdiv_cancel_left _ (by decide)
  have ew : wrap64 (n - n % 256) = n - n % 256 := w64 _ (by omega) (by omega)
  have eq : wrap64 (n / 256) = n / 256 := w64 _ (by omega) (by omega)
  have em : n % 256 % 256 = n % 256 := by omega
  rw [rosterref02_PutInt.l0]
  have key : (if n / 256 = 0 then (if n % 256 < 128 then (some ((strOfNums [n % 256]) ++ a)) else (if n / 256 = (-1) then (if n % 256 ≥ 128 then (some ((strOfNums [n % 256]) ++ a)) else (rosterref02_PutInt.l0 k (n / 256) ((strOfNums [n % 256]) ++ a))) else (rosterref02_PutInt.l0 k (n / 256) ((strOfNums [n % 256]) ++ a)))) else (if n / 256 = (-1) then (if n % 256 ≥ 128 then (some ((strOfNums [n % 256]) ++ a)) else (rosterref02_PutInt.l0 k (n / 256) ((strOfNums [n % 256]) ++ a))) else (rosterref02_PutInt.l0 k (n / 256) ((strOfNums [n % 256]) ++ a)))) =
      if -128 ≤ n ∧ n < 128 then some (strOfNums [n % 256] ++ a) else rosterref02_PutInt.l0 k (n / 256) (strOfNums [n % 256] ++ a) := by
    by_cases q0 : n / 256 = 0
    · rw [if_pos q0]
      by_cases d0 : n % 256 < 128
      · rw [if_pos d0, if_pos (by omega)]
      · rw [if_neg d0, if_neg (by omega), if_neg (show ¬ (-128 ≤ n ∧ n < 128) by omega)]
    · rw [if_neg q0]
      by_cases q1 : n / 256 = -1
      · rw [if_pos q1]
        by_cases d0 : n % 256 ≥ 128
        · rw [if_pos d0, if_pos (show -128 ≤ n ∧ n < 128 by omega)]
        · rw [if_neg d0, if_neg (show ¬ (-128 ≤ n ∧ n < 128) by omega)]
      · rw [if_neg q1, if_neg (show ¬ (-128 ≤ n ∧ n < 128) by omega)]
  by_cases c : n.tmod 256 < 0
  · have e : wrap64 (n.tmod 256 + 256) = n % 256 := by rw [w64 _ (by omega) (by omega)]; omega
    rw [if_pos c, e, em, Option.bind_some, if_pos hsz, ew, hq, eq]
    exact key
  · have e : n.tmod 256 = n % 256 := by omega
    rw [if_neg c, e, em, Option.bind_some, if_pos hsz, ew, hq, eq]
    exact key

theorem strOfNums_app (l m : List Int) (b : ByteArray) : strOfNums (l ++ m) ++ b = strOfNums l ++ (strOfNums m ++ b) := by
  apply ByteArray.ext
  have hd : ∀ l, (strOfNums l).data = (l.map fun n => UInt8.ofNat n.toNat).toArray := fun _ => rfl
  rw [ByteArray.data_append, ByteArray.data_append, ByteArray.data_append, hd, hd, hd, List.map_append, ← List.append_toArray, Array.append_assoc]
theorem putL_succ (n : Int) (c : Nat) : W.putL n (c + 1 + 1) = W.putL (n / 256) (c + 1) ++ [n % 256] := by
  apply List.ext_getElem
  · simp [W.putL]
  · intro j h1 h2
    have hj : j < c + 2 := by simpa [W.putL] using h1
    by_cases e : j = c + 1
    · subst e
      rw [List.getElem_append_right (by simp [W.putL])]
      simp only [W.putL, List.getElem_ofFn, W.putAt_256]
      rw [show c + 1 + 1 - 1 - (c + 1) = 0 by omega]
      simp
    · rw [List.getElem_append_left (by simp [W.putL]; omega)]
      simp only [W.putL, List.getElem_ofFn, W.putAt_256]
      rw [show c + 1 + 1 - 1 - j = (c + 1 - 1 - j) + 1 by omega, W.div_succ']
theorem putL_one (n : Int) : W.putL n 1 = [n % 256] := by
  simp [W.putL, W.putAt_256]
/-- The document's writer: the shortest bytes. -/
theorem rput (c : Nat) : ∀ (n : Int) (a : ByteArray), c ≤ 7 → W.putC n = c + 1 → -9223372036854775808 ≤ n → n ≤ 9223372036854775807 → a.size + c ≤ 100 →
    ∀ k, rosterref02_PutInt.l0 (k + c + 1) n a = some (strOfNums (W.putL n (c + 1)) ++ a) := by
  induction c with
  | zero =>
    intro n a _ hc h0 h1 ha k
    obtain ⟨_, _, pf, _⟩ := W.putC_spec n h0 h1
    rw [hc, W.fits_1] at pf
    rw [rput_round n a h0 h1 (by omega), if_pos pf, putL_one]
  | succ c ih =>
    intro n a c7 hc h0 h1 ha k
    obtain ⟨_, _, pf, pn⟩ := W.putC_spec n h0 h1
    have n1 := pn 1 (by omega) (by omega)
    rw [W.fits_1] at n1
    rw [hc] at pf pn
    have hc' : W.putC (n / 256) = c + 1 := by
      refine (W.putC_uniq (by omega) (by omega) ((W.fits_step n c).1 pf) (fun h => ?_)).1
      obtain ⟨q, rfl⟩ : ∃ q, c = q + 1 := ⟨c - 1, by omega⟩
      have := pn (q + 2) (by omega) (by omega)
      rw [W.fits_step] at this
      exact this
    rw [show k + (c + 1) + 1 = (k + c + 1) + 1 by omega, rput_round n a h0 h1 (by omega), if_neg n1, ih (n / 256) _ (by omega) hc' (by omega) (by omega) (by rw [ByteArray.size_append, W.str_size]; simp; omega) k, putL_succ, strOfNums_app]
theorem rput_f (n : Int) (h0 : -9223372036854775808 ≤ n) (h1 : n ≤ 9223372036854775807) (k : Nat) : rosterref02_PutInt.f (k + 8) n = some (W.putS n) := by
  obtain ⟨p1, p8, pf, pn⟩ := W.putC_spec n h0 h1
  unfold rosterref02_PutInt.f
  have h := rput (W.putC n - 1) n ⟨#[]⟩ (by omega) (by omega) h0 h1 (by show 0 + _ ≤ 100; omega) (k + 8 - W.putC n)
  rw [show k + 8 - W.putC n + (W.putC n - 1) + 1 = k + 8 by omega, show W.putC n - 1 + 1 = W.putC n by omega] at h
  rw [h]
  unfold W.putS
  congr 1
  apply ByteArray.ext
  simp [ByteArray.data_append]

/-! The document's reader. -/
theorem rint_loop (s : ByteArray) (x : Int) (hx : x = 0 ∨ x = -1) (hs : s.size ≤ 8) (hb : (x = 0 → W.byt s 0 < 128) ∧ (x = -1 → 128 ≤ W.byt s 0)) : ∀ (m i : Nat), i + m = s.size →
    ∀ k, rosterref02_Int.l0 (k + m + 1) s (W.numAt s 0 i x) i = rosterref02_Int.l0 (k + 1) s (W.numAt s 0 s.size x) s.size := by
  intro m
  induction m with
  | zero => intro i h k; obtain rfl : i = s.size := by omega
            rfl
  | succ m ih =>
    intro i h k
    have b := W.byt_range s i
    have r : -36028797018963968 ≤ W.numAt s 0 i x ∧ W.numAt s 0 i x < 36028797018963968 := by
      cases i with
      | zero => simp only [W.numAt]; omega
      | succ i =>
        have e : W.numAt s 0 (i + 1) x = W.numAt s 1 i (x * 256 + W.byt s 0) := rfl
        rw [e]
        have b0 := W.byt_range s 0
        exact W.numAt_in s _ (by omega) (by omega) i (by omega)
    have e1 : wrap64 (W.numAt s 0 i x * 256) = W.numAt s 0 i x * 256 := w64 _ (by omega) (by omega)
    have e2 : wrap64 (bt s (i : Int)) = W.byt s i := by rw [bt_is2]; exact w64 _ (by omega) (by omega)
    have e3 : wrap64 (W.numAt s 0 i x * 256 + W.byt s i) = W.numAt s 0 (i + 1) x := by
      rw [W.numAt_snoc, show (0 : Int) + (i : Int) = i by omega]
      exact w64 _ (by omega) (by omega)
    have e4 : wrap64 ((i : Int) + 1) = ((i + 1 : Nat) : Int) := by rw [w64 _ (by omega) (by omega)]; omega
    rw [show k + (m + 1) + 1 = (k + m + 1) + 1 by omega, rosterref02_Int.l0, if_pos (by omega), if_pos (by omega), e1, e2, e3, e4]
    exact ih (i + 1) (by omega) k
theorem rint_j1 (s : ByteArray) (x : Int) (hx : x = 0 ∨ x = -1) (h1 : 1 ≤ s.size) (hs : s.size ≤ 8) (hb : (x = 0 → W.byt s 0 < 128) ∧ (x = -1 → 128 ≤ W.byt s 0)) :
    rosterref02_Int.j1 (s.size + 20) s x = some (W.intS s) := by
  have hl := rint_loop s x hx hs hb s.size 0 (by omega) 18
  have sg : x * 256 + W.byt s 0 = W.signed (W.byt s 0) := by
    have b0 := W.byt_range s 0
    unfold W.signed
    rcases hx with rfl | rfl
    · have := hb.1 rfl
      rw [if_pos this]; omega
    · have := hb.2 rfl
      rw [if_neg (by omega)]; omega
  have ev : W.numAt s 0 s.size x = W.numAt s 1 (s.size - 1) (W.signed (W.byt s 0)) := by
    obtain ⟨c, hc⟩ : ∃ c, s.size = c + 1 := ⟨s.size - 1, by omega⟩
    rw [hc, show c + 1 - 1 = c by omega, ← sg]
    rfl
  rw [show s.size + 20 = (18 + s.size + 1) + 1 by omega, rosterref02_Int.j1]
  have e0 : rosterref02_Int.l0 (18 + s.size + 1) s x 0 = rosterref02_Int.l0 (18 + s.size + 1) s (W.numAt s 0 0 x) ((0 : Nat) : Int) := rfl
  rw [e0, hl, rosterref02_Int.l0, if_neg (by omega), ev]
  obtain ⟨v, hv⟩ : ∃ v, v = W.numAt s 1 (s.size - 1) (W.signed (W.byt s 0)) := ⟨_, rfl⟩
  rw [← hv]
  have d := W.numAt_digits s 1 (W.signed (W.byt s 0)) (s.size - 1)
  rw [← hv] at d
  have hf : W.fits v s.size := by
    have b0 := W.byt_range s 0
    rw [show s.size = (s.size - 1) + 1 by omega, W.fits_div, d.1]
    unfold W.signed
    split <;> omega
  have hr : -9223372036854775808 ≤ v ∧ v ≤ 9223372036854775807 := by
    have := W.fits_le h1 hf 8 hs
    unfold W.fits at this
    simp at this
    omega
  rw [rput_f v hr.1 hr.2 10, Option.bind_some]
  by_cases hg : (W.intS s).2 = 0
  · have hp := W.put_int s hg
    have hi : W.intS s = (v, 0) := by
      have : (W.intS s).1 = v := by
        unfold W.intS at hg ⊢
        split at hg
        · simp at hg
        rename_i hz
        split at hg
        · simp at hg
        rename_i hy
        rw [if_neg hz, if_neg hy, hv]
      rw [← this, ← hg]
    rw [hi] at hp ⊢
    rw [if_pos (by rw [hp.1])]
  · have hi : W.intS s = (0, 29) ∧ 1 < s.size ∧ ((W.byt s 0 = 0 ∧ W.byt s 1 < 128) ∨ (W.byt s 0 = 255 ∧ 128 ≤ W.byt s 1)) := by
      unfold W.intS at hg ⊢
      rw [if_neg (by omega)] at hg ⊢
      by_cases hy : 1 < s.size ∧ ((W.byt s 0 = 0 ∧ W.byt s 1 < 128) ∨ (W.byt s 0 = 255 ∧ 128 ≤ W.byt s 1))
      · rw [if_pos hy]
        exact ⟨rfl, hy⟩
      · rw [if_neg hy] at hg
        exact absurd rfl hg
    rw [hi.1, if_neg ?_]
    intro e
    have e := W.toList_inj.1 e
    have hsz := W.putS_size v
    rw [e] at hsz
    obtain ⟨p1, p8, pf, pn⟩ := W.putC_spec v hr.1 hr.2
    obtain ⟨q, hq⟩ : ∃ q, s.size = q + 2 := ⟨s.size - 2, by omega⟩
    have nf := pn (q + 1) (by omega) (by omega)
    apply nf
    rw [W.fits_div]
    have d1 := d.1
    have d0 := d.2 0 (by omega)
    rw [hq, show q + 2 - 1 = q + 1 by omega, W.div_succ] at d1
    rw [hq, show q + 2 - 1 - 1 - 0 = q by omega] at d0
    have e1 : (1 : Int) + ((0 : Nat) : Int) = 1 := rfl
    rw [e1] at d0
    have h3 := hi.2.2
    unfold W.signed at d1
    split at d1 <;> omega
theorem rint_f (s : ByteArray) : rosterref02_Int.f (s.size + 21) s = some (W.intS s) := by
  unfold rosterref02_Int.f
  by_cases c0 : s.size = 0
  · have hI : W.intS s = (0, 29) := by unfold W.intS; rw [if_pos (Or.inl c0)]
    rw [if_pos (by omega), hI, rosterref02_Int.j0]
    rfl
  rw [if_neg (by omega)]
  by_cases c8 : 8 < s.size
  · have hI : W.intS s = (0, 29) := by unfold W.intS; rw [if_pos (Or.inr c8)]
    have e : decide ((s.size : Int) > 8) = true := by simp; omega
    rw [e, hI, rosterref02_Int.j0]
    rfl
  have e : decide ((s.size : Int) > 8) = false := by simp; omega
  rw [e, rosterref02_Int.j0, if_neg (by simp), if_pos (by omega), bt_is2]
  by_cases b0 : W.byt s 0 ≥ 128
  · rw [if_pos b0]
    exact rint_j1 s (-1) (Or.inr rfl) (by omega) (by omega) ⟨fun h => by omega, fun _ => b0⟩
  · rw [if_neg b0]
    exact rint_j1 s 0 (Or.inl rfl) (by omega) (by omega) ⟨fun _ => by omega, fun h => by omega⟩

theorem BerInt : rosterlaw02_BerInt.Pure := by
  intro s n v hs hn
  have hn := W.i64_of hn
  refine ⟨s.size + 21, ?_⟩
  have hb : rosterref02_Bool.f s = ber_Bool.f s := rfl
  obtain ⟨y, hy⟩ : ∃ y, ber_Bool.f s = some y := by
    unfold ber_Bool.f
    by_cases c : (s.size : Int) = 1
    · rw [if_pos c, if_pos (by omega)]; exact ⟨_, rfl⟩
    · rw [if_neg c]; exact ⟨_, rfl⟩
  obtain ⟨z, hz⟩ : ∃ z, ber_PutBool.f v = some z := by
    unfold ber_PutBool.f
    split <;> exact ⟨_, rfl⟩
  have hz2 : rosterref02_PutBool.f v = some z := hz
  unfold rosterlaw02_BerInt.f ber_Int.f
  rw [rint_f, hb, hy]
  simp only [Option.bind_some, if_true]
  rw [show (y.1 != y.1) = false by simp, show (y.2 != y.2) = false by simp, if_neg (by simp), show s.size + 21 = (s.size + 12 + 8) + 1 by omega, rosterlaw02_BerInt.j0, if_neg (by simp), rput_f n hn.1 hn.2 (s.size + 12), hz, hz2]
  unfold ber_PutInt.f
  rw [if_pos hn]
  simp
end Go.Proofs.Ytolhmomnidlmaaa.Pure
