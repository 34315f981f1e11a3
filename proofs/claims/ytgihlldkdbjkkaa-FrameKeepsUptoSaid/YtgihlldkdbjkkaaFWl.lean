/- Plain law: what the header of a wrapped content tells, and of its fronts. -/
import Derived.Test.YtgihlldkdbjkkaaFWr
namespace Go.Proofs.Ytgihlldkdbjkkaa.W
open Go.RowKit Go.Proofs.YtgihlldkdbjkkaaW.PrintWords
set_option linter.unusedVariables false
set_option linter.unusedSimpArgs false

theorem byt_front (s : ByteArray) (e j : Nat) (h : j < e) (he : e ≤ s.size) : byt (s.extract 0 e) j = byt s j := by
  rw [byt_extract s 0 e j (by omega) he]
  simp
theorem byt_app (l : List Int) (b : ByteArray) (j : Nat) (hj : j < l.length) (h : 0 ≤ l[j] ∧ l[j] < 256) : byt (strOfNums l ++ b) j = l[j] := by
  have hs : j < (strOfNums l ++ b).size := by rw [ByteArray.size_append, wstr_size]; omega
  have e0 : byt (strOfNums l ++ b) j = (((strOfNums l ++ b)[j]'hs).toNat : Int) := (byt_at (strOfNums l ++ b) j hs).symm
  have hs2 : j < (strOfNums l).size := by rw [wstr_size]; exact hj
  have e1 : (strOfNums l ++ b)[j]'hs = (strOfNums l)[j]'hs2 := by
    rw [ByteArray.getElem_append_left hs2]
  have e : (strOfNums l)[j]'hs2 = UInt8.ofNat (l[j]).toNat := by
    show (l.map fun n => UInt8.ofNat n.toNat).toArray[j]'(by simpa using hj) = _
    simp
  rw [e0, e1, e, UInt8.toNat_ofNat']
  omega

theorem wrapH_len (k n : Int) (h0 : 0 ≤ k) (h4 : k ≤ 4) : ((wrapH k n).length : Int) = 2 + k := by
  rcases (show k = 0 ∨ k = 1 ∨ k = 2 ∨ k = 3 ∨ k = 4 by omega) with rfl | rfl | rfl | rfl | rfl <;> rfl
theorem wrapH_byte (k n : Int) (h0 : 0 ≤ k) (h4 : k ≤ 4) (n0 : 0 ≤ n) (n1 : n ≤ 4096) (hc : k = 0 → n < 128) (hc1 : k = 1 → n < 256) (j : Nat) (hj : j < (wrapH k n).length) : 0 ≤ (wrapH k n)[j] ∧ (wrapH k n)[j] < 256 := by
  have e : ∀ x ∈ wrapH k n, 0 ≤ x ∧ x < 256 := by
    rcases (show k = 0 ∨ k = 1 ∨ k = 2 ∨ k = 3 ∨ k = 4 by omega) with rfl | rfl | rfl | rfl | rfl
    · have := hc rfl
      simp [wrapH]; omega
    · have := hc1 rfl
      simp [wrapH]; omega
    · simp [wrapH]; omega
    · simp [wrapH]; omega
    · simp [wrapH]; omega
  exact e _ (List.getElem_mem hj)
/-- A front of a wrapped content: its first bytes are the header's. -/
theorem front_byt (k n : Int) (h0 : 0 ≤ k) (h4 : k ≤ 4) (n0 : 0 ≤ n) (n1 : n ≤ 4096) (hc : k = 0 → n < 128) (hc1 : k = 1 → n < 256) (b : ByteArray) (e : Nat) (he : e ≤ (strOfNums (wrapH k n) ++ b).size) (j : Nat) (hj : j < (wrapH k n).length) (hje : j < e) :
    byt ((strOfNums (wrapH k n) ++ b).extract 0 e) j = (wrapH k n).getD j 0 := by
  rw [byt_front _ _ _ hje he, byt_app _ _ _ hj (wrapH_byte k n h0 h4 n0 n1 hc hc1 j hj), List.getD_eq_getElem?_getD, List.getElem?_eq_getElem hj]
  rfl
/-- What a front tells that has the whole header. -/
theorem wrap_look (limit k n : Int) (h0 : 0 ≤ k) (h4 : k ≤ 4) (n0 : 0 ≤ n) (n1 : n ≤ 4096) (hc : k = 0 → n < 128) (hc1 : k = 1 → n < 256) (b : ByteArray) (e : Nat) (he : e ≤ (strOfNums (wrapH k n) ++ b).size) (hle : 2 + k ≤ (e : Int)) :
    lookS limit ((strOfNums (wrapH k n) ++ b).extract 0 e) = if limit < 2 + k + n then (0, 0, 33) else (2 + k, n, 0) := by
  have F := front_byt k n h0 h4 n0 n1 hc hc1 b e he
  have hz : ((strOfNums (wrapH k n) ++ b).extract 0 e).size = e := by rw [ByteArray.size_extract]; omega
  have hl := wrapH_len k n h0 h4
  generalize ht : (strOfNums (wrapH k n) ++ b).extract 0 e = t at F hz ⊢
  have f0 := F 0 (by omega) (by omega)
  have f1 := F 1 (by omega) (by omega)
  have c0 : ((0 : Nat) : Int) = 0 := rfl
  have c1 : ((1 : Nat) : Int) = 1 := rfl
  rw [c0] at f0
  rw [c1] at f1
  unfold lookS
  rcases (show k = 0 ∨ k = 1 ∨ k = 2 ∨ k = 3 ∨ k = 4 by omega) with rfl | rfl | rfl | rfl | rfl
  · have := hc rfl
    have f0 : byt t 0 = 48 := f0
    have f1 : byt t 1 = n := f1
    rw [if_neg (by omega), if_neg (by omega), if_neg (by omega), if_neg (by omega), if_neg (by omega), if_pos (by omega), f1]
    simp
  · have := hc1 rfl
    have f2 : byt t 2 = n := F 2 (by omega) (by omega)
    have f0 : byt t 0 = 48 := f0
    have f1 : byt t 1 = 129 := f1
    rw [if_neg (by omega), if_neg (by omega), if_neg (by omega), if_neg (by omega), if_neg (by omega), if_neg (by omega), f1]
    have en : numAt t 2 (129 - 128 : Int).toNat 0 = n := by show 0 * 256 + byt t 2 = n; omega
    rw [en]
    by_cases g : limit < 2 + 1 + n
    · rw [if_pos ⟨by omega, by omega⟩, if_pos g]
    · rw [if_neg (fun z => g (by omega)), if_neg g]
      rfl
  · have f2 : byt t 2 = n / 256 := F 2 (by omega) (by omega)
    have f3 : byt t 3 = n % 256 := F 3 (by omega) (by omega)
    have f0 : byt t 0 = 48 := f0
    have f1 : byt t 1 = 130 := f1
    rw [if_neg (by omega), if_neg (by omega), if_neg (by omega), if_neg (by omega), if_neg (by omega), if_neg (by omega), f1]
    have en : numAt t 2 (130 - 128 : Int).toNat 0 = n := by show (0 * 256 + byt t 2) * 256 + byt t 3 = n; omega
    rw [en]
    by_cases g : limit < 2 + 2 + n
    · rw [if_pos ⟨by omega, by omega⟩, if_pos g]
    · rw [if_neg (fun z => g (by omega)), if_neg g]
      rfl
  · have f2 : byt t 2 = 0 := F 2 (by omega) (by omega)
    have f3 : byt t 3 = n / 256 := F 3 (by omega) (by omega)
    have f4 : byt t 4 = n % 256 := F 4 (by omega) (by omega)
    have f0 : byt t 0 = 48 := f0
    have f1 : byt t 1 = 131 := f1
    rw [if_neg (by omega), if_neg (by omega), if_neg (by omega), if_neg (by omega), if_neg (by omega), if_neg (by omega), f1]
    have en : numAt t 2 (131 - 128 : Int).toNat 0 = n := by show ((0 * 256 + byt t 2) * 256 + byt t 3) * 256 + byt t 4 = n; omega
    rw [en]
    by_cases g : limit < 2 + 3 + n
    · rw [if_pos ⟨by omega, by omega⟩, if_pos g]
    · rw [if_neg (fun z => g (by omega)), if_neg g]
      rfl
  · have f2 : byt t 2 = 0 := F 2 (by omega) (by omega)
    have f3 : byt t 3 = 0 := F 3 (by omega) (by omega)
    have f4 : byt t 4 = n / 256 := F 4 (by omega) (by omega)
    have f5 : byt t 5 = n % 256 := F 5 (by omega) (by omega)
    have f0 : byt t 0 = 48 := f0
    have f1 : byt t 1 = 132 := f1
    rw [if_neg (by omega), if_neg (by omega), if_neg (by omega), if_neg (by omega), if_neg (by omega), if_neg (by omega), f1]
    have en : numAt t 2 (132 - 128 : Int).toNat 0 = n := by show (((0 * 256 + byt t 2) * 256 + byt t 3) * 256 + byt t 4) * 256 + byt t 5 = n; omega
    rw [en]
    by_cases g : limit < 2 + 4 + n
    · rw [if_pos ⟨by omega, by omega⟩, if_pos g]
    · rw [if_neg (fun z => g (by omega)), if_neg g]
      rfl
/-- Of a front whose header lacks a byte nothing is taken, and nothing refused. -/
theorem wrap_short (limit k n : Int) (h0 : 0 ≤ k) (h4 : k ≤ 4) (n0 : 0 ≤ n) (n1 : n ≤ 4096) (hc : k = 0 → n < 128) (hc1 : k = 1 → n < 256) (b : ByteArray) (e : Nat) (he : e ≤ (strOfNums (wrapH k n) ++ b).size) (hle : 1 + k = (e : Int)) :
    (lookS limit ((strOfNums (wrapH k n) ++ b).extract 0 e)).2.2 = 0 ∧ 0 < missS (lookS limit ((strOfNums (wrapH k n) ++ b).extract 0 e)) (e : Int) := by
  have F := front_byt k n h0 h4 n0 n1 hc hc1 b e he
  have hz : ((strOfNums (wrapH k n) ++ b).extract 0 e).size = e := by rw [ByteArray.size_extract]; omega
  have hl := wrapH_len k n h0 h4
  generalize ht : (strOfNums (wrapH k n) ++ b).extract 0 e = t at F hz ⊢
  have f0 : byt t 0 = 48 := by
    have := F 0 (by omega) (by omega)
    have e0 : (wrapH k n).getD 0 0 = 48 := by
      rcases (show k = 0 ∨ k = 1 ∨ k = 2 ∨ k = 3 ∨ k = 4 by omega) with rfl | rfl | rfl | rfl | rfl <;> rfl
    rw [e0] at this
    exact this
  by_cases hk : k = 0
  · subst hk
    have e1 : lookS limit t = (0, 0, 0) := by
      unfold lookS
      rw [if_neg (by omega), if_neg (by omega), if_pos (by omega)]
    rw [e1]
    refine ⟨rfl, ?_⟩
    show 0 < 2 - (e : Int)
    omega
  · have f1 : byt t 1 = 128 + k := by
      have := F 1 (by omega) (by omega)
      have e0 : (wrapH k n).getD 1 0 = 128 + k := by
        rcases (show k = 1 ∨ k = 2 ∨ k = 3 ∨ k = 4 by omega) with rfl | rfl | rfl | rfl <;> rfl
      rw [e0] at this
      exact this
    have hn := numAt_lt t 2 (byt t 1 - 128).toNat (by omega)
    have e1 : lookS limit t = (byt t 1 - 126, numAt t 2 (byt t 1 - 128).toNat 0, 0) := by
      unfold lookS
      rw [if_neg (by omega), if_neg (by omega), if_neg (by omega), if_neg (by omega), if_neg (by omega), if_neg (by omega), if_neg (fun z => by omega)]
    rw [e1]
    refine ⟨rfl, ?_⟩
    unfold missS
    rw [if_neg (fun z => by have := z.1; simp at this; omega), if_pos rfl, if_pos (by simp; omega)]
    simp
    omega
end Go.Proofs.Ytgihlldkdbjkkaa.W
