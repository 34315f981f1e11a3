/- Texts of this claim in one: Tx -/
import Derived.Test.YtogjljpncdmlkaaDoorB3
import Derived.Test.YtogjljpncdmlkaaDoorB5
section
namespace Go.Proofs.YtogjljpncdmlkaaDoor.Tx
open Go.RowKit Go.Proofs.YtogjljpncdmlkaaDoorW.PrintWords Go.Proofs.YtogjljpncdmlkaaDoor.GX
set_option linter.unusedVariables false
set_option linter.unusedSimpArgs false
theorem getD_bt (s : ByteArray) (j : Nat) : ((s.data.toList.getD j 0).toNat : Int) = W.bt s j := by
  unfold W.bt
  by_cases h : j < s.size
  · rw [dif_pos h, List.getD_eq_getElem?_getD, List.getElem?_eq_getElem (by simpa using h)]
    simp
    rfl
  · rw [dif_neg h, List.getD_eq_getElem?_getD, List.getElem?_eq_none (by simp; exact Nat.le_of_not_lt h)]
    rfl
theorem bt_W (s : ByteArray) (j : Nat) : bt s (j : Int) = W.bt s j := rfl
theorem bt_ex (s : ByteArray) (i j : Nat) : bt (s.extract i s.size) (j : Int) = W.bt s (i + j) := by
  rw [bt_W, ← getD_bt, ← getD_bt]
  have e : (s.extract i s.size).data = s.data.extract i s.size := by simp
  rw [e, List.getD_eq_getElem?_getD, List.getD_eq_getElem?_getD, Array.toList_extract]
  simp only [List.extract_eq_take_drop, List.getElem?_take, List.getElem?_drop]
  by_cases h : j < s.size - i
  · rw [if_pos h]
  · rw [if_neg h]
    have e : s.data.toList[i + j]? = none := List.getElem?_eq_none (by simp; show s.size ≤ i + j; omega)
    rw [e]
theorem W_range (s : ByteArray) (j : Nat) : 0 ≤ W.bt s j ∧ W.bt s j ≤ 255 := by
  unfold W.bt
  split
  · rename_i h
    have := (s[j]'h).toNat_lt
    omega
  · omega
def rowsOf (b0 b1 b2 b3 n : Int) : Int :=
  if 1 ≤ n ∧ 0 ≤ b0 ∧ b0 ≤ 127 then 1
  else if 2 ≤ n ∧ 194 ≤ b0 ∧ b0 ≤ 223 ∧ 128 ≤ b1 ∧ b1 ≤ 191 then 2
  else if 3 ≤ n ∧ 224 ≤ b0 ∧ b0 ≤ 224 ∧ 160 ≤ b1 ∧ b1 ≤ 191 ∧ 128 ≤ b2 ∧ b2 ≤ 191 then 3
  else if 3 ≤ n ∧ 225 ≤ b0 ∧ b0 ≤ 236 ∧ 128 ≤ b1 ∧ b1 ≤ 191 ∧ 128 ≤ b2 ∧ b2 ≤ 191 then 3
  else if 3 ≤ n ∧ 237 ≤ b0 ∧ b0 ≤ 237 ∧ 128 ≤ b1 ∧ b1 ≤ 159 ∧ 128 ≤ b2 ∧ b2 ≤ 191 then 3
  else if 3 ≤ n ∧ 238 ≤ b0 ∧ b0 ≤ 239 ∧ 128 ≤ b1 ∧ b1 ≤ 191 ∧ 128 ≤ b2 ∧ b2 ≤ 191 then 3
  else if 4 ≤ n ∧ 240 ≤ b0 ∧ b0 ≤ 240 ∧ 144 ≤ b1 ∧ b1 ≤ 191 ∧ 128 ≤ b2 ∧ b2 ≤ 191 ∧ 128 ≤ b3 ∧ b3 ≤ 191 then 4
  else if 4 ≤ n ∧ 241 ≤ b0 ∧ b0 ≤ 243 ∧ 128 ≤ b1 ∧ b1 ≤ 191 ∧ 128 ≤ b2 ∧ b2 ≤ 191 ∧ 128 ≤ b3 ∧ b3 ≤ 191 then 4
  else if 4 ≤ n ∧ 244 ≤ b0 ∧ b0 ≤ 244 ∧ 128 ≤ b1 ∧ b1 ≤ 143 ∧ 128 ≤ b2 ∧ b2 ≤ 191 ∧ 128 ≤ b3 ∧ b3 ≤ 191 then 4
  else 0
theorem fit_iff (s : ByteArray) (i r : Nat) (P : Prop) (h : W.Fit s i r ↔ P) : (W.fitB s i r = true) = P := propext ((W.fitB_iff s i r).trans h)
theorem f1 (s : ByteArray) (i r : Nat) (l0 u0 : Int) (e : W.T (r * 9) = 1) (e0 : W.T (r * 9 + 1) = l0) (e1 : W.T (r * 9 + 2) = u0) : W.Fit s i r ↔ (1 ≤ (s.size : Int) - i ∧ l0 ≤ W.bt s i ∧ W.bt s i ≤ u0) := by
  unfold W.Fit
  rw [e]
  constructor
  · rintro ⟨h, k⟩
    have k0 := k 0 q14_
    rw [show r * 9 + (1 + 2 * 0) = r * 9 + 1 by omega, show r * 9 + (2 + 2 * 0) = r * 9 + 2 by omega, e0, e1, Nat.add_zero] at k0
    exact ⟨q2_, k0.1, k0.2⟩
  · rintro ⟨h, a, b⟩
    refine ⟨q2_, fun j hj => ?_⟩
    obtain rfl : j = 0 := by omega
    rw [show r * 9 + (1 + 2 * 0) = r * 9 + 1 by omega, show r * 9 + (2 + 2 * 0) = r * 9 + 2 by omega, e0, e1, Nat.add_zero]
    exact ⟨a, b⟩
theorem f2 (s : ByteArray) (i r : Nat) (l0 u0 l1 u1 : Int) (e : W.T (r * 9) = 2) (e0 : W.T (r * 9 + 1) = l0) (e1 : W.T (r * 9 + 2) = u0) (e2 : W.T (r * 9 + 3) = l1) (e3 : W.T (r * 9 + 4) = u1) :
    W.Fit s i r ↔ (2 ≤ (s.size : Int) - i ∧ l0 ≤ W.bt s i ∧ W.bt s i ≤ u0 ∧ l1 ≤ W.bt s (i + 1) ∧ W.bt s (i + 1) ≤ u1) := by
  unfold W.Fit
  rw [e]
  have x0 : r * 9 + (1 + 2 * 0) = r * 9 + 1 := by omega
  have x1 : r * 9 + (2 + 2 * 0) = r * 9 + 2 := by omega
  have x2 : r * 9 + (1 + 2 * 1) = r * 9 + 3 := by omega
  have x3 : r * 9 + (2 + 2 * 1) = r * 9 + 4 := by omega
  constructor
  · rintro ⟨h, k⟩
    have k0 := k 0 q14_
    have k1 := k 1 q14_
    rw [x0, x1, e0, e1, Nat.add_zero] at k0
    rw [x2, x3, e2, e3] at k1
    exact ⟨q2_, k0.1, k0.2, k1.1, k1.2⟩
  · rintro ⟨h, a, b, c, d⟩
    refine ⟨q2_, fun j hj => ?_⟩
    rcases (show j = 0 ∨ j = 1 by omega) with rfl | rfl
    · rw [x0, x1, e0, e1, Nat.add_zero]; exact ⟨a, b⟩
    · rw [x2, x3, e2, e3]; exact ⟨c, d⟩
theorem f3 (s : ByteArray) (i r : Nat) (l0 u0 l1 u1 l2 u2 : Int) (e : W.T (r * 9) = 3) (e0 : W.T (r * 9 + 1) = l0) (e1 : W.T (r * 9 + 2) = u0) (e2 : W.T (r * 9 + 3) = l1) (e3 : W.T (r * 9 + 4) = u1) (e4 : W.T (r * 9 + 5) = l2) (e5 : W.T (r * 9 + 6) = u2) :
    W.Fit s i r ↔ (3 ≤ (s.size : Int) - i ∧ l0 ≤ W.bt s i ∧ W.bt s i ≤ u0 ∧ l1 ≤ W.bt s (i + 1) ∧ W.bt s (i + 1) ≤ u1 ∧ l2 ≤ W.bt s (i + 2) ∧ W.bt s (i + 2) ≤ u2) := by
  unfold W.Fit
  rw [e]
  have x0 : r * 9 + (1 + 2 * 0) = r * 9 + 1 := by omega
  have x1 : r * 9 + (2 + 2 * 0) = r * 9 + 2 := by omega
  have x2 : r * 9 + (1 + 2 * 1) = r * 9 + 3 := by omega
  have x3 : r * 9 + (2 + 2 * 1) = r * 9 + 4 := by omega
  have x4 : r * 9 + (1 + 2 * 2) = r * 9 + 5 := by omega
  have x5 : r * 9 + (2 + 2 * 2) = r * 9 + 6 := by omega
  constructor
  · rintro ⟨h, k⟩
    have k0 := k 0 q14_
    have k1 := k 1 q14_
    have k2 := k 2 q14_
    rw [x0, x1, e0, e1, Nat.add_zero] at k0
    rw [x2, x3, e2, e3] at k1
    rw [x4, x5, e4, e5] at k2
    exact ⟨q2_, k0.1, k0.2, k1.1, k1.2, k2.1, k2.2⟩
  · rintro ⟨h, a, b, c, d, f, g⟩
    refine ⟨q2_, fun j hj => ?_⟩
    rcases (show j = 0 ∨ j = 1 ∨ j = 2 by omega) with rfl | rfl | rfl
    · rw [x0, x1, e0, e1, Nat.add_zero]; exact ⟨a, b⟩
    · rw [x2, x3, e2, e3]; exact ⟨c, d⟩
    · rw [x4, x5, e4, e5]; exact ⟨f, g⟩
theorem f4 (s : ByteArray) (i r : Nat) (l0 u0 l1 u1 l2 u2 l3 u3 : Int) (e : W.T (r * 9) = 4) (e0 : W.T (r * 9 + 1) = l0) (e1 : W.T (r * 9 + 2) = u0) (e2 : W.T (r * 9 + 3) = l1) (e3 : W.T (r * 9 + 4) = u1) (e4 : W.T (r * 9 + 5) = l2) (e5 : W.T (r * 9 + 6) = u2) (e6 : W.T (r * 9 + 7) = l3) (e7 : W.T (r * 9 + 8) = u3) :
    W.Fit s i r ↔ (4 ≤ (s.size : Int) - i ∧ l0 ≤ W.bt s i ∧ W.bt s i ≤ u0 ∧ l1 ≤ W.bt s (i + 1) ∧ W.bt s (i + 1) ≤ u1 ∧ l2 ≤ W.bt s (i + 2) ∧ W.bt s (i + 2) ≤ u2 ∧ l3 ≤ W.bt s (i + 3) ∧ W.bt s (i + 3) ≤ u3) := by
  unfold W.Fit
  rw [e]
  have x0 : r * 9 + (1 + 2 * 0) = r * 9 + 1 := by omega
  have x1 : r * 9 + (2 + 2 * 0) = r * 9 + 2 := by omega
  have x2 : r * 9 + (1 + 2 * 1) = r * 9 + 3 := by omega
  have x3 : r * 9 + (2 + 2 * 1) = r * 9 + 4 := by omega
  have x4 : r * 9 + (1 + 2 * 2) = r * 9 + 5 := by omega
  have x5 : r * 9 + (2 + 2 * 2) = r * 9 + 6 := by omega
  have x6 : r * 9 + (1 + 2 * 3) = r * 9 + 7 := by omega
  have x7 : r * 9 + (2 + 2 * 3) = r * 9 + 8 := by omega
  constructor
  · rintro ⟨h, k⟩
    have k0 := k 0 q14_
    have k1 := k 1 q14_
    have k2 := k 2 q14_
    have k3 := k 3 q14_
    rw [x0, x1, e0, e1, Nat.add_zero] at k0
    rw [x2, x3, e2, e3] at k1
    rw [x4, x5, e4, e5] at k2
    rw [x6, x7, e6, e7] at k3
    exact ⟨q2_, k0.1, k0.2, k1.1, k1.2, k2.1, k2.2, k3.1, k3.2⟩
  · rintro ⟨h, a, b, c, d, f, g, p, q⟩
    refine ⟨q2_, fun j hj => ?_⟩
    rcases (show j = 0 ∨ j = 1 ∨ j = 2 ∨ j = 3 by omega) with rfl | rfl | rfl | rfl
    · rw [x0, x1, e0, e1, Nat.add_zero]; exact ⟨a, b⟩
    · rw [x2, x3, e2, e3]; exact ⟨c, d⟩
    · rw [x4, x5, e4, e5]; exact ⟨f, g⟩
    · rw [x6, x7, e6, e7]; exact ⟨p, q⟩
theorem seqB_rows (s : ByteArray) (i : Nat) : W.seqB s i = rowsOf (W.bt s i) (W.bt s (i + 1)) (W.bt s (i + 2)) (W.bt s (i + 3)) ((s.size : Int) - i) := by
  unfold W.seqB rowsOf
  simp only [W.seqFrom, fit_iff s i 0 _ (f1 s i 0 0 127 rfl rfl rfl), fit_iff s i (0 + 1) _ (f2 s i 1 194 223 128 191 rfl rfl rfl rfl rfl), fit_iff s i (0 + 1 + 1) _ (f3 s i 2 224 224 160 191 128 191 rfl rfl rfl rfl rfl rfl rfl),
    fit_iff s i (0 + 1 + 1 + 1) _ (f3 s i 3 225 236 128 191 128 191 rfl rfl rfl rfl rfl rfl rfl), fit_iff s i (0 + 1 + 1 + 1 + 1) _ (f3 s i 4 237 237 128 159 128 191 rfl rfl rfl rfl rfl rfl rfl), fit_iff s i (0 + 1 + 1 + 1 + 1 + 1) _ (f3 s i 5 238 239 128 191 128 191 rfl rfl rfl rfl rfl rfl rfl),
    fit_iff s i (0 + 1 + 1 + 1 + 1 + 1 + 1) _ (f4 s i 6 240 240 144 191 128 191 128 191 rfl rfl rfl rfl rfl rfl rfl rfl rfl), fit_iff s i (0 + 1 + 1 + 1 + 1 + 1 + 1 + 1) _ (f4 s i 7 241 243 128 191 128 191 128 191 rfl rfl rfl rfl rfl rfl rfl rfl rfl), fit_iff s i (0 + 1 + 1 + 1 + 1 + 1 + 1 + 1 + 1) _ (f4 s i 8 244 244 128 143 128 191 128 191 rfl rfl rfl rfl rfl rfl rfl rfl rfl)]
  rfl
theorem rows1 (b0 b1 b2 b3 n : Int) (hp : 0 < n) (h : 0 ≤ b0 ∧ b0 < 128) : rowsOf b0 b1 b2 b3 n = 1 := by
  unfold rowsOf
  rw [if_pos q2_]
theorem rows0 (b0 b1 b2 b3 n : Int) (h : 128 ≤ b0 ∧ b0 < 194 ∨ 244 < b0) : rowsOf b0 b1 b2 b3 n = 0 := by
  unfold rowsOf
  rw [if_neg q2_, if_neg q2_, if_neg q2_, if_neg q2_, if_neg q2_, if_neg q2_, if_neg q2_, if_neg q2_, if_neg q2_]
theorem rows2 (b0 b1 b2 b3 n : Int) (h : 194 ≤ b0 ∧ b0 ≤ 223) : rowsOf b0 b1 b2 b3 n = if 2 ≤ n ∧ 128 ≤ b1 ∧ b1 ≤ 191 then 2 else 0 := by
  unfold rowsOf
  rw [if_neg q2_]
  by_cases c : 2 ≤ n ∧ 128 ≤ b1 ∧ b1 ≤ 191
  · rw [if_pos c, if_pos q2_]
  · rw [if_neg c, if_neg (fun x => c ⟨x.1, x.2.2.2.1, x.2.2.2.2⟩), if_neg q2_, if_neg q2_, if_neg q2_, if_neg q2_, if_neg q2_, if_neg q2_, if_neg q2_]
theorem rows3 (b0 b1 b2 b3 n lo up : Int) (hc : (b0 = 224 ∧ lo = 160 ∧ up = 191) ∨ (b0 = 237 ∧ lo = 128 ∧ up = 159) ∨ (225 ≤ b0 ∧ b0 ≤ 239 ∧ b0 ≠ 237 ∧ lo = 128 ∧ up = 191)) : rowsOf b0 b1 b2 b3 n = if 3 ≤ n ∧ lo ≤ b1 ∧ b1 ≤ up ∧ 128 ≤ b2 ∧ b2 ≤ 191 then 3 else 0 := by
  unfold rowsOf
  by_cases c : 3 ≤ n ∧ lo ≤ b1 ∧ b1 ≤ up ∧ 128 ≤ b2 ∧ b2 ≤ 191
  · rw [if_pos c]
    rcases hc with ⟨h0, h1, h2⟩ | ⟨h0, h1, h2⟩ | ⟨h0, h0', h0'', h1, h2⟩
    · rw [if_neg q2_, if_neg q2_, if_pos q2_]
    · rw [if_neg q2_, if_neg q2_, if_neg q2_, if_neg q2_, if_pos q2_]
    · by_cases d : b0 ≤ 236
      · rw [if_neg q2_, if_neg q2_, if_neg q2_, if_pos q2_]
      · rw [if_neg q2_, if_neg q2_, if_neg q2_, if_neg q2_, if_neg q2_, if_pos q2_]
  · rw [if_neg c]
    have c' : ∀ l u : Int, l = lo → u = up → ¬ (3 ≤ n ∧ 1 = 1 ∧ 1 = 1 ∧ l ≤ b1 ∧ b1 ≤ u ∧ 128 ≤ b2 ∧ b2 ≤ 191) := fun l u e1 e2 x => c (by rw [← e1, ← e2]; exact ⟨x.1, x.2.2.2⟩)
    clear c
    rcases hc with ⟨h0, h1, h2⟩ | ⟨h0, h1, h2⟩ | ⟨h0, h0', h0'', h1, h2⟩
    · have c := c' 160 191 h1.symm h2.symm
      clear c'
      have e : ¬ (3 ≤ n ∧ 224 ≤ b0 ∧ b0 ≤ 224 ∧ 160 ≤ b1 ∧ b1 ≤ 191 ∧ 128 ≤ b2 ∧ b2 ≤ 191) := fun x => c ⟨x.1, rfl, rfl, x.2.2.2⟩
      clear c
      rw [if_neg q25_, if_neg q25_, if_neg e, if_neg q25_, if_neg q25_, if_neg q25_, if_neg q25_, if_neg q25_, if_neg q25_]
    · have c := c' 128 159 h1.symm h2.symm
      clear c'
      have e : ¬ (3 ≤ n ∧ 237 ≤ b0 ∧ b0 ≤ 237 ∧ 128 ≤ b1 ∧ b1 ≤ 159 ∧ 128 ≤ b2 ∧ b2 ≤ 191) := fun x => c ⟨x.1, rfl, rfl, x.2.2.2⟩
      clear c
      rw [if_neg q25_, if_neg q25_, if_neg q25_, if_neg q25_, if_neg e, if_neg q25_, if_neg q25_, if_neg q25_, if_neg q25_]
    · have c := c' 128 191 h1.symm h2.symm
      clear c'
      have e : ¬ (3 ≤ n ∧ 225 ≤ b0 ∧ b0 ≤ 236 ∧ 128 ≤ b1 ∧ b1 ≤ 191 ∧ 128 ≤ b2 ∧ b2 ≤ 191) := fun x => c ⟨x.1, rfl, rfl, x.2.2.2⟩
      have e' : ¬ (3 ≤ n ∧ 238 ≤ b0 ∧ b0 ≤ 239 ∧ 128 ≤ b1 ∧ b1 ≤ 191 ∧ 128 ≤ b2 ∧ b2 ≤ 191) := fun x => c ⟨x.1, rfl, rfl, x.2.2.2⟩
      clear c
      rw [if_neg (by clear e e'; omega), if_neg (by clear e e'; omega), if_neg (by clear e e'; omega), if_neg e, if_neg (by clear e e'; omega), if_neg e', if_neg (by clear e e'; omega), if_neg (by clear e e'; omega), if_neg (by clear e e'; omega)]
theorem rows4 (b0 b1 b2 b3 n lo up : Int) (hc : (b0 = 240 ∧ lo = 144 ∧ up = 191) ∨ (241 ≤ b0 ∧ b0 ≤ 243 ∧ lo = 128 ∧ up = 191) ∨ (b0 = 244 ∧ lo = 128 ∧ up = 143)) : rowsOf b0 b1 b2 b3 n = if 4 ≤ n ∧ lo ≤ b1 ∧ b1 ≤ up ∧ 128 ≤ b2 ∧ b2 ≤ 191 ∧ 128 ≤ b3 ∧ b3 ≤ 191 then 4 else 0 := by
  unfold rowsOf
  by_cases c : 4 ≤ n ∧ lo ≤ b1 ∧ b1 ≤ up ∧ 128 ≤ b2 ∧ b2 ≤ 191 ∧ 128 ≤ b3 ∧ b3 ≤ 191
  · rw [if_pos c]
    rcases hc with ⟨h0, h1, h2⟩ | ⟨h0, h0', h1, h2⟩ | ⟨h0, h1, h2⟩
    · rw [if_neg q2_, if_neg q2_, if_neg q2_, if_neg q2_, if_neg q2_, if_neg q2_, if_pos q2_]
    · rw [if_neg q2_, if_neg q2_, if_neg q2_, if_neg q2_, if_neg q2_, if_neg q2_, if_neg q2_, if_pos q2_]
    · rw [if_neg q2_, if_neg q2_, if_neg q2_, if_neg q2_, if_neg q2_, if_neg q2_, if_neg q2_, if_neg q2_, if_pos q2_]
  · rw [if_neg c]
    have c' : ∀ l u : Int, l = lo → u = up → ∀ p q : Int, ¬ (4 ≤ n ∧ p ≤ b0 ∧ b0 ≤ q ∧ l ≤ b1 ∧ b1 ≤ u ∧ 128 ≤ b2 ∧ b2 ≤ 191 ∧ 128 ≤ b3 ∧ b3 ≤ 191) := fun l u e1 e2 p q x => c (by rw [← e1, ← e2]; exact ⟨x.1, x.2.2.2⟩)
    clear c
    rcases hc with ⟨h0, h1, h2⟩ | ⟨h0, h0', h1, h2⟩ | ⟨h0, h1, h2⟩
    · have e := c' 144 191 h1.symm h2.symm 240 240
      clear c'
      rw [if_neg q25_, if_neg q25_, if_neg q25_, if_neg q25_, if_neg q25_, if_neg q25_, if_neg e, if_neg q25_, if_neg q25_]
    · have e := c' 128 191 h1.symm h2.symm 241 243
      clear c'
      rw [if_neg q25_, if_neg q25_, if_neg q25_, if_neg q25_, if_neg q25_, if_neg q25_, if_neg q25_, if_neg e, if_neg q25_]
    · have e := c' 128 143 h1.symm h2.symm 244 244
      clear c'
      rw [if_neg q25_, if_neg q25_, if_neg q25_, if_neg q25_, if_neg q25_, if_neg q25_, if_neg q25_, if_neg q25_, if_neg e]
theorem goesOn_f (b : Int) : text_goesOn.f b = some (decide (128 ≤ b ∧ b ≤ 191)) := by
  unfold text_goesOn.f
  by_cases c : b ≥ 128
  · rw [if_pos c]; congr 1; rw [decide_eq_decide]; exact ⟨fun x => ⟨c, x⟩, fun x => x.2⟩
  · rw [if_neg c]; congr 1; exact (decide_eq_false (fun x => c x.1)).symm
theorem seqj1 (kk : Nat) (t : ByteArray) (x3 lo up b1 b2 : Int) (h1 : bt t 1 = b1) (h2 : bt t 2 = b2) (hn : 3 ≤ (t.size : Int)) (hx : 0 ≤ x3 ∧ x3 ≤ 3) : text_sequence.j1 (kk + 1) t x3 lo up = some (if lo ≤ b1 ∧ b1 ≤ up ∧ 128 ≤ b2 ∧ b2 ≤ 191 then x3 + 1 else 0) := by
  have hw : wrap64 (x3 + 1) = x3 + 1 := by unfold wrap64; omega
  rw [text_sequence.j1, if_pos q2_, goesOn_f, Option.bind_some, h1, h2, hw]
  by_cases e0 : 128 ≤ b2 ∧ b2 ≤ 191
  rotate_left
  · rw [decide_eq_false e0, if_neg q14_, if_neg (fun x => e0 x.2.2)]
  rw [decide_eq_true e0, if_pos rfl, if_pos q2_]
  by_cases e1 : b1 < lo
  · rw [if_pos e1, if_neg (fun x => by omega)]
  rw [if_neg e1]
  by_cases e2 : b1 > up
  · rw [if_pos e2, if_neg (fun x => by omega)]
  rw [if_neg e2, if_pos ⟨q2_, q2_, e0⟩]
theorem seq_f (k : Nat) (t : ByteArray) (b0 b1 b2 b3 n : Int) (h0 : bt t 0 = b0) (h1 : bt t 1 = b1) (h2 : bt t 2 = b2) (h3 : bt t 3 = b3) (hn : (t.size : Int) = n) (hp : 0 < n)
    (r0 : 0 ≤ b0 ∧ b0 ≤ 255) : text_sequence.f (k + 4) t = some (rowsOf b0 b1 b2 b3 n) := by
  have w1 : wrap64 (0 + 1) = 1 := by kernel_rfl
  have w2 : wrap64 (1 + 1) = 2 := by kernel_rfl
  have w3 : wrap64 (2 + 1) = 3 := by kernel_rfl
  have w4 : wrap64 (3 + 1) = 4 := by kernel_rfl
  unfold text_sequence.f
  rw [hn, if_pos hp]
  unfold text_missing.f
  rw [h0]
  clear h0
  by_cases c0 : b0 < 128
  · rw [if_pos c0, Option.bind_some, if_pos rfl, w1, text_sequence.j0, decide_eq_false (by omega : ¬ n < 1), if_neg q14_, if_neg q2_, if_neg q2_, if_neg q2_, w1, rows1 _ _ _ _ _ hp ⟨r0.1, c0⟩]
  rw [if_neg c0]
  by_cases c1 : b0 ≥ 194
  rotate_left
  · rw [if_neg c1, text_missing.j0, if_neg q14_, if_neg q2_, if_neg q2_, if_neg q2_, text_missing.j1, if_neg q14_, if_neg q2_, if_neg q2_, text_missing.j2, if_neg q14_, if_neg q2_, Option.bind_some, if_neg q14_, text_sequence.j0, if_pos rfl, rows0 _ _ _ _ _ q2_]
  rw [if_pos c1, text_missing.j0]
  by_cases c2 : b0 ≤ 223
  · rw [decide_eq_true c2, if_pos rfl, Option.bind_some, if_pos rfl, w2, text_sequence.j0, rows2 _ _ _ _ _ ⟨c1, c2⟩]
    by_cases d : n < 2
    · rw [decide_eq_true d, if_pos rfl, if_neg q2_]
    rw [decide_eq_false d, if_neg q14_, if_neg q2_, if_neg q2_, if_pos q2_, hn, if_pos q2_, h1]
    by_cases e1 : b1 < 128
    · rw [if_pos e1, if_neg q2_]
    rw [if_neg e1]
    by_cases e2 : b1 > 191
    · rw [if_pos e2, if_neg q2_]
    rw [if_neg e2, w2, if_pos q2_]
  rw [decide_eq_false c2, if_neg q14_]
  have two : ∀ (lo up : Int), ((b0 = 224 ∧ lo = 160 ∧ up = 191) ∨ (b0 = 237 ∧ lo = 128 ∧ up = 159) ∨ (225 ≤ b0 ∧ b0 ≤ 239 ∧ b0 ≠ 237 ∧ lo = 128 ∧ up = 191)) →
      text_sequence.j0 (k + 4) t 2 (decide (n < wrap64 (2 + 1))) lo up = some (rowsOf b0 b1 b2 b3 n) := by
    intro lo up hc
    rw [w3, text_sequence.j0, rows3 _ _ _ _ _ lo up hc]
    clear hc
    by_cases d : n < 3
    · rw [decide_eq_true d, if_pos rfl, if_neg q2_]
    rw [decide_eq_false d, if_neg q14_, if_neg q14_, if_pos rfl, seqj1 _ t 2 lo up b1 b2 h1 h2 q2_ q14_]
    congr 1
    by_cases e : lo ≤ b1 ∧ b1 ≤ up ∧ 128 ≤ b2 ∧ b2 ≤ 191
    · rw [if_pos e, if_pos ⟨q2_, e⟩]; rfl
    · rw [if_neg e, if_neg (fun x => e x.2)]
  have three : ∀ (lo up : Int), ((b0 = 240 ∧ lo = 144 ∧ up = 191) ∨ (241 ≤ b0 ∧ b0 ≤ 243 ∧ lo = 128 ∧ up = 191) ∨ (b0 = 244 ∧ lo = 128 ∧ up = 143)) →
      text_sequence.j0 (k + 4) t 3 (decide (n < wrap64 (3 + 1))) lo up = some (rowsOf b0 b1 b2 b3 n) := by
    intro lo up hc
    rw [w4, text_sequence.j0, rows4 _ _ _ _ _ lo up hc]
    clear hc
    by_cases d : n < 4
    · rw [decide_eq_true d, if_pos rfl, if_neg q2_]
    rw [decide_eq_false d, if_neg q14_, if_pos rfl, hn, if_pos q2_, goesOn_f, Option.bind_some, h3]
    by_cases e0 : 128 ≤ b3 ∧ b3 ≤ 191
    rotate_left
    · rw [decide_eq_false e0, if_neg q14_, if_neg (fun x => e0 x.2.2.2.2.2)]
    rw [decide_eq_true e0, if_pos rfl, seqj1 _ t 3 lo up b1 b2 h1 h2 q2_ q14_]
    congr 1
    by_cases e : lo ≤ b1 ∧ b1 ≤ up ∧ 128 ≤ b2 ∧ b2 ≤ 191
    · rw [if_pos e, if_pos ⟨q2_, e.1, e.2.1, e.2.2.1, e.2.2.2, e0.1, e0.2⟩]; rfl
    · rw [if_neg e, if_neg (fun x => e ⟨x.2.1, x.2.2.1, x.2.2.2.1, x.2.2.2.2.1⟩)]
  by_cases c3 : b0 = 224
  · rw [if_pos c3, Option.bind_some, if_pos rfl]
    exact two 160 191 (Or.inl ⟨c3, rfl, rfl⟩)
  rw [if_neg c3]
  by_cases c4 : b0 = 237
  · rw [if_pos c4, Option.bind_some, if_pos rfl]
    exact two 128 159 (Or.inr (Or.inl ⟨c4, rfl, rfl⟩))
  rw [if_neg c4, if_pos q2_, text_missing.j1]
  by_cases c5 : b0 ≤ 239
  · rw [decide_eq_true c5, if_pos rfl, Option.bind_some, if_pos rfl]
    exact two 128 191 (Or.inr (Or.inr ⟨q2_, c5, c4, rfl, rfl⟩))
  rw [decide_eq_false c5, if_neg q14_]
  by_cases c6 : b0 = 240
  · rw [if_pos c6, Option.bind_some, if_pos rfl]
    exact three 144 191 (Or.inl ⟨c6, rfl, rfl⟩)
  rw [if_neg c6, if_pos q2_, text_missing.j2]
  by_cases c7 : b0 ≤ 243
  · rw [decide_eq_true c7, if_pos rfl, Option.bind_some, if_pos rfl]
    exact three 128 191 (Or.inr (Or.inl ⟨q2_, c7, rfl, rfl⟩))
  rw [decide_eq_false c7, if_neg q14_]
  by_cases c8 : b0 = 244
  · rw [if_pos c8, Option.bind_some, if_pos rfl]
    exact three 128 143 (Or.inr (Or.inr ⟨c8, rfl, rfl⟩))
  rw [if_neg c8, Option.bind_some, if_neg q14_, text_sequence.j0, if_pos rfl, rows0 _ _ _ _ _ q2_]
theorem seqB_range (s : ByteArray) (i : Nat) : 0 ≤ W.seqB s i ∧ W.seqB s i ≤ 4 ∧ (W.seqB s i ≠ 0 → (i : Int) + W.seqB s i ≤ s.size) := by
  rw [seqB_rows]
  have b1 : ∀ x : Int, (x = 0 ∨ 1 ≤ x ∧ x ≤ 4 ∧ x ≤ (s.size : Int) - i) → 0 ≤ x ∧ x ≤ 4 ∧ (x ≠ 0 → (i : Int) + x ≤ s.size) := fun x h => by omega
  apply b1
  clear b1
  unfold rowsOf
  split
  · rename_i h; exact Or.inr ⟨q14_, q14_, h.1⟩
  split
  · rename_i h; exact Or.inr ⟨q14_, q14_, h.1⟩
  split
  · rename_i h; exact Or.inr ⟨q14_, q14_, h.1⟩
  split
  · rename_i h; exact Or.inr ⟨q14_, q14_, h.1⟩
  split
  · rename_i h; exact Or.inr ⟨q14_, q14_, h.1⟩
  split
  · rename_i h; exact Or.inr ⟨q14_, q14_, h.1⟩
  split
  · rename_i h; exact Or.inr ⟨q14_, q14_, h.1⟩
  split
  · rename_i h; exact Or.inr ⟨q14_, q14_, h.1⟩
  split
  · rename_i h; exact Or.inr ⟨q14_, q14_, h.1⟩
  exact Or.inl rfl
theorem check_l (s : ByteArray) (hs : s.size ≤ 140737488355328) : ∀ (j i k : Nat), i + j = s.size → text_Check.l0 (k + j + 5) s (i : Int) = some (W.chkF s (k + j + 1) i) := by
  intro j
  induction j using Nat.strongRecOn with
  | _ j ih =>
    intro i k hi
    rw [show k + j + 5 = (k + j) + 4 + 1 by omega, text_Check.l0, W.chkF]
    by_cases h : i < s.size
    · have e0 : ((i : Int)).toNat = i := Int.toNat_natCast i
      have hz : ((s.extract i s.size).size : Int) = (s.size : Int) - i := by rw [ByteArray.size_extract]; omega
      rw [if_pos q2_, if_pos q2_, if_pos q2_, e0, seq_f (k + j) _ (W.bt s i) (W.bt s (i + 1)) (W.bt s (i + 2)) (W.bt s (i + 3)) ((s.size : Int) - i) (bt_ex s i 0) (bt_ex s i 1) (bt_ex s i 2) (bt_ex s i 3) hz q2_ (W_range s i), ← seqB_rows, Option.bind_some, if_neg (show ¬ s.size ≤ i by omega)]
      obtain ⟨r0, r1, r2⟩ := seqB_range s i
      by_cases z : W.seqB s i = 0
      · rw [if_pos z, if_pos z]
      · rw [if_neg z, if_neg z]
        have r3 := r2 z
        obtain ⟨m, hm⟩ : ∃ m : Nat, W.seqB s i = ((m + 1 : Nat) : Int) := ⟨(W.seqB s i).toNat - 1, q2_⟩
        rw [hm, show wrap64 ((i : Int) + ((m + 1 : Nat) : Int)) = ((i + (m + 1) : Nat) : Int) by unfold wrap64; omega, Int.toNat_natCast]
        have := ih (j - (m + 1)) q2_ (i + (m + 1)) (k + m) q2_
        rw [show k + m + (j - (m + 1)) + 5 = k + j + 4 by omega, show k + m + (j - (m + 1)) + 1 = k + j by omega] at this
        exact this
    · rw [if_neg q2_, if_pos q2_]
theorem check_f (s : ByteArray) (hs : s.size ≤ 140737488355328) : text_Check.f (s.size + 5) s = some (W.chkB s) := by
  unfold text_Check.f
  have h := check_l s hs s.size 0 0 q2_
  rw [Nat.zero_add] at h
  exact h
theorem check_any (s : ByteArray) (hs : s.size ≤ 140737488355328) (w : World) :
    Calls Tryd.prog 40 #[.string s] w fun en w' => en = .returned (.tuple #[.int .i64 (W.chkB s).1, .int .i64 (W.chkB s).2]) ∧ Below w.heap.size w w' :=
  text_Check.calls (s.size + 5) s _ _ w (check_f s hs)
def U (s : ByteArray) : Bool := (W.chkB s).1 == 0
end Go.Proofs.YtogjljpncdmlkaaDoor.Tx
end
