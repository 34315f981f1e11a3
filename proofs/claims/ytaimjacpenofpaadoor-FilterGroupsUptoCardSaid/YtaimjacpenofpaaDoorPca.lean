/- Texts of this session in one: Pc1, Pc2, Pc3 -/
import Derived.Test.YtaimjacpenofpaaDoorGCx8
import Derived.Test.YtaimjacpenofpaaDoorGCx8
import Derived.Test.YtaimjacpenofpaaDoorGCx1
import Derived.Test.YtaimjacpenofpaaDoorTf
import Derived.Test.YtaimjacpenofpaaDoorGCx9
import Derived.Test.YtaimjacpenofpaaDoorGCx2
import Derived.Test.YtaimjacpenofpaaDoorGCx10
import Derived.Test.YtaimjacpenofpaaDoorGCx4
/-! ## Plain: chapter 1 of both sides: text.Check tells what the table's reader tells. -/
namespace Go.Proofs.YtaimjacpenofpaaDoor.Pc
open Go.RowKit Go.Proofs.YtaimjacpenofpaaDoorW.PrintWords Go.Proofs.YtaimjacpenofpaaDoor.GC
set_option linter.unusedVariables false
set_option linter.unusedSimpArgs false
theorem getD_bt (s : ByteArray) (j : Nat) : ((s.data.toList.getD j 0).toNat : Int) = W.bt s j := by
  unfold W.bt
  by_cases h : j < s.size
  · rw [dif_pos h, List.getD_eq_getElem?_getD, List.getElem?_eq_getElem (by simpa using h)]
    simp
    rfl
  · rw [dif_neg h, List.getD_eq_getElem?_getD, List.getElem?_eq_none (by simp; exact Nat.le_of_not_lt h)]
    rfl
theorem bt_W (s : ByteArray) (j : Nat) : bt s (j : Int) = W.bt s j := rfl
theorem bt_ex (s : ByteArray) (i j : Nat) : bt (s.extract i s.size) (j : Int) = W.bt s (i + j) := by
  rw [bt_W, ← getD_bt, ← getD_bt]
  have e : (s.extract i s.size).data = s.data.extract i s.size := by simp
  rw [e, List.getD_eq_getElem?_getD, List.getD_eq_getElem?_getD, Array.toList_extract]
  simp only [List.extract_eq_take_drop, List.getElem?_take, List.getElem?_drop]
  by_cases h : j < s.size - i
  · rw [if_pos h]
  · rw [if_neg h]
    have e : s.data.toList[i + j]? = none := List.getElem?_eq_none (by simp; show s.size ≤ i + j; omega)
    rw [e]
theorem W_range (s : ByteArray) (j : Nat) : 0 ≤ W.bt s j ∧ W.bt s j ≤ 255 := by
  unfold W.bt
  split
  · rename_i h
    have := (s[j]'h).toNat_lt
    omega
  · omega
/-- The sequence at the front of bytes b0 b1 b2 b3 .. (n bytes in all), as the table's rows tell it. -/
def rowsOf (b0 b1 b2 b3 n : Int) : Int :=
  if 1 ≤ n ∧ 0 ≤ b0 ∧ b0 ≤ 127 then 1
  else if 2 ≤ n ∧ 194 ≤ b0 ∧ b0 ≤ 223 ∧ 128 ≤ b1 ∧ b1 ≤ 191 then 2
  else if 3 ≤ n ∧ 224 ≤ b0 ∧ b0 ≤ 224 ∧ 160 ≤ b1 ∧ b1 ≤ 191 ∧ 128 ≤ b2 ∧ b2 ≤ 191 then 3
  else if 3 ≤ n ∧ 225 ≤ b0 ∧ b0 ≤ 236 ∧ 128 ≤ b1 ∧ b1 ≤ 191 ∧ 128 ≤ b2 ∧ b2 ≤ 191 then 3
  else if 3 ≤ n ∧ 237 ≤ b0 ∧ b0 ≤ 237 ∧ 128 ≤ b1 ∧ b1 ≤ 159 ∧ 128 ≤ b2 ∧ b2 ≤ 191 then 3
  else if 3 ≤ n ∧ 238 ≤ b0 ∧ b0 ≤ 239 ∧ 128 ≤ b1 ∧ b1 ≤ 191 ∧ 128 ≤ b2 ∧ b2 ≤ 191 then 3
  else if 4 ≤ n ∧ 240 ≤ b0 ∧ b0 ≤ 240 ∧ 144 ≤ b1 ∧ b1 ≤ 191 ∧ 128 ≤ b2 ∧ b2 ≤ 191 ∧ 128 ≤ b3 ∧ b3 ≤ 191 then 4
  else if 4 ≤ n ∧ 241 ≤ b0 ∧ b0 ≤ 243 ∧ 128 ≤ b1 ∧ b1 ≤ 191 ∧ 128 ≤ b2 ∧ b2 ≤ 191 ∧ 128 ≤ b3 ∧ b3 ≤ 191 then 4
  else if 4 ≤ n ∧ 244 ≤ b0 ∧ b0 ≤ 244 ∧ 128 ≤ b1 ∧ b1 ≤ 143 ∧ 128 ≤ b2 ∧ b2 ≤ 191 ∧ 128 ≤ b3 ∧ b3 ≤ 191 then 4
  else 0
theorem fit_iff (s : ByteArray) (i r : Nat) (P : Prop) (h : W.Fit s i r ↔ P) : (W.fitB s i r = true) = P := propext ((W.fitB_iff s i r).trans h)
theorem f1 (s : ByteArray) (i r : Nat) (l0 u0 : Int) (e : W.T (r * 9) = 1) (e0 : W.T (r * 9 + 1) = l0) (e1 : W.T (r * 9 + 2) = u0) : W.Fit s i r ↔ (1 ≤ (s.size : Int) - i ∧ l0 ≤ W.bt s i ∧ W.bt s i ≤ u0) := by
  unfold W.Fit
  rw [e]
  constructor
  · rintro ⟨h, k⟩
    have k0 := k 0 (by decide)
    rw [show r * 9 + (1 + 2 * 0) = r * 9 + 1 by omega, show r * 9 + (2 + 2 * 0) = r * 9 + 2 by omega, e0, e1, Nat.add_zero] at k0
    exact ⟨by omega, k0.1, k0.2⟩
  · rintro ⟨h, a, b⟩
    refine ⟨by omega, fun j hj => ?_⟩
    obtain rfl : j = 0 := by omega
    rw [show r * 9 + (1 + 2 * 0) = r * 9 + 1 by omega, show r * 9 + (2 + 2 * 0) = r * 9 + 2 by omega, e0, e1, Nat.add_zero]
    exact ⟨a, b⟩
theorem f2 (s : ByteArray) (i r : Nat) (l0 u0 l1 u1 : Int) (e : W.T (r * 9) = 2) (e0 : W.T (r * 9 + 1) = l0) (e1 : W.T (r * 9 + 2) = u0) (e2 : W.T (r * 9 + 3) = l1) (e3 : W.T (r * 9 + 4) = u1) :
    W.Fit s i r ↔ (2 ≤ (s.size : Int) - i ∧ l0 ≤ W.bt s i ∧ W.bt s i ≤ u0 ∧ l1 ≤ W.bt s (i + 1) ∧ W.bt s (i + 1) ≤ u1) := by
  unfold W.Fit
  rw [e]
  have x0 : r * 9 + (1 + 2 * 0) = r * 9 + 1 := by omega
  have x1 : r * 9 + (2 + 2 * 0) = r * 9 + 2 := by omega
  have x2 : r * 9 + (1 + 2 * 1) = r * 9 + 3 := by omega
  have x3 : r * 9 + (2 + 2 * 1) = r * 9 + 4 := by omega
  constructor
  · rintro ⟨h, k⟩
    have k0 := k 0 (by decide)
    have k1 := k 1 (by decide)
    rw [x0, x1, e0, e1, Nat.add_zero] at k0
    rw [x2, x3, e2, e3] at k1
    exact ⟨by omega, k0.1, k0.2, k1.1, k1.2⟩
  · rintro ⟨h, a, b, c, d⟩
    refine ⟨by omega, fun j hj => ?_⟩
    rcases (show j = 0 ∨ j = 1 by omega) with rfl | rfl
    · rw [x0, x1, e0, e1, Nat.add_zero]; exact ⟨a, b⟩
    · rw [x2, x3, e2, e3]; exact ⟨c, d⟩
theorem f3 (s : ByteArray) (i r : Nat) (l0 u0 l1 u1 l2 u2 : Int) (e : W.T (r * 9) = 3) (e0 : W.T (r * 9 + 1) = l0) (e1 : W.T (r * 9 + 2) = u0) (e2 : W.T (r * 9 + 3) = l1) (e3 : W.T (r * 9 + 4) = u1) (e4 : W.T (r * 9 + 5) = l2) (e5 : W.T (r * 9 + 6) = u2) :
    W.Fit s i r ↔ (3 ≤ (s.size : Int) - i ∧ l0 ≤ W.bt s i ∧ W.bt s i ≤ u0 ∧ l1 ≤ W.bt s (i + 1) ∧ W.bt s (i + 1) ≤ u1 ∧ l2 ≤ W.bt s (i + 2) ∧ W.bt s (i + 2) ≤ u2) := by
  unfold W.Fit
  rw [e]
  have x0 : r * 9 + (1 + 2 * 0) = r * 9 + 1 := by omega
  have x1 : r * 9 + (2 + 2 * 0) = r * 9 + 2 := by omega
  have x2 : r * 9 + (1 + 2 * 1) = r * 9 + 3 := by omega
  have x3 : r * 9 + (2 + 2 * 1) = r * 9 + 4 := by omega
  have x4 : r * 9 + (1 + 2 * 2) = r * 9 + 5 := by omega
  have x5 : r * 9 + (2 + 2 * 2) = r * 9 + 6 := by omega
  constructor
  · rintro ⟨h, k⟩
    have k0 := k 0 (by decide)
    have k1 := k 1 (by decide)
    have k2 := k 2 (by decide)
    rw [x0, x1, e0, e1, Nat.add_zero] at k0
    rw [x2, x3, e2, e3] at k1
    rw [x4, x5, e4, e5] at k2
    exact ⟨by omega, k0.1, k0.2, k1.1, k1.2, k2.1, k2.2⟩
  · rintro ⟨h, a, b, c, d, f, g⟩
    refine ⟨by omega, fun j hj => ?_⟩
    rcases (show j = 0 ∨ j = 1 ∨ j = 2 by omega) with rfl | rfl | rfl
    · rw [x0, x1, e0, e1, Nat.add_zero]; exact ⟨a, b⟩
    · rw [x2, x3, e2, e3]; exact ⟨c, d⟩
    · rw [x4, x5, e4, e5]; exact ⟨f, g⟩
theorem f4 (s : ByteArray) (i r : Nat) (l0 u0 l1 u1 l2 u2 l3 u3 : Int) (e : W.T (r * 9) = 4) (e0 : W.T (r * 9 + 1) = l0) (e1 : W.T (r * 9 + 2) = u0) (e2 : W.T (r * 9 + 3) = l1) (e3 : W.T (r * 9 + 4) = u1) (e4 : W.T (r * 9 + 5) = l2) (e5 : W.T (r * 9 + 6) = u2) (e6 : W.T (r * 9 + 7) = l3) (e7 : W.T (r * 9 + 8) = u3) :
    W.Fit s i r ↔ (4 ≤ (s.size : Int) - i ∧ l0 ≤ W.bt s i ∧ W.bt s i ≤ u0 ∧ l1 ≤ W.bt s (i + 1) ∧ W.bt s (i + 1) ≤ u1 ∧ l2 ≤ W.bt s (i + 2) ∧ W.bt s (i + 2) ≤ u2 ∧ l3 ≤ W.bt s (i + 3) ∧ W.bt s (i + 3) ≤ u3) := by
  unfold W.Fit
  rw [e]
  have x0 : r * 9 + (1 + 2 * 0) = r * 9 + 1 := by omega
  have x1 : r * 9 + (2 + 2 * 0) = r * 9 + 2 := by omega
  have x2 : r * 9 + (1 + 2 * 1) = r * 9 + 3 := by omega
  have x3 : r * 9 + (2 + 2 * 1) = r * 9 + 4 := by omega
  have x4 : r * 9 + (1 + 2 * 2) = r * 9 + 5 := by omega
  have x5 : r * 9 + (2 + 2 * 2) = r * 9 + 6 := by omega
  have x6 : r * 9 + (1 + 2 * 3) = r * 9 + 7 := by omega
  have x7 : r * 9 + (2 + 2 * 3) = r * 9 + 8 := by omega
  constructor
  · rintro ⟨h, k⟩
    have k0 := k 0 (by decide)
    have k1 := k 1 (by decide)
    have k2 := k 2 (by decide)
    have k3 := k 3 (by decide)
    rw [x0, x1, e0, e1, Nat.add_zero] at k0
    rw [x2, x3, e2, e3] at k1
    rw [x4, x5, e4, e5] at k2
    rw [x6, x7, e6, e7] at k3
    exact ⟨by omega, k0.1, k0.2, k1.1, k1.2, k2.1, k2.2, k3.1, k3.2⟩
  · rintro ⟨h, a, b, c, d, f, g, p, q⟩
    refine ⟨by omega, fun j hj => ?_⟩
    rcases (show j = 0 ∨ j = 1 ∨ j = 2 ∨ j = 3 by omega) with rfl | rfl | rfl | rfl
    · rw [x0, x1, e0, e1, Nat.add_zero]; exact ⟨a, b⟩
    · rw [x2, x3, e2, e3]; exact ⟨c, d⟩
    · rw [x4, x5, e4, e5]; exact ⟨f, g⟩
    · rw [x6, x7, e6, e7]; exact ⟨p, q⟩
theorem seqB_rows (s : ByteArray) (i : Nat) : W.seqB s i = rowsOf (W.bt s i) (W.bt s (i + 1)) (W.bt s (i + 2)) (W.bt s (i + 3)) ((s.size : Int) - i) := by
  unfold W.seqB rowsOf
  simp only [W.seqFrom, fit_iff s i 0 _ (f1 s i 0 0 127 rfl rfl rfl), fit_iff s i (0 + 1) _ (f2 s i 1 194 223 128 191 rfl rfl rfl rfl rfl), fit_iff s i (0 + 1 + 1) _ (f3 s i 2 224 224 160 191 128 191 rfl rfl rfl rfl rfl rfl rfl),
    fit_iff s i (0 + 1 + 1 + 1) _ (f3 s i 3 225 236 128 191 128 191 rfl rfl rfl rfl rfl rfl rfl), fit_iff s i (0 + 1 + 1 + 1 + 1) _ (f3 s i 4 237 237 128 159 128 191 rfl rfl rfl rfl rfl rfl rfl), fit_iff s i (0 + 1 + 1 + 1 + 1 + 1) _ (f3 s i 5 238 239 128 191 128 191 rfl rfl rfl rfl rfl rfl rfl),
    fit_iff s i (0 + 1 + 1 + 1 + 1 + 1 + 1) _ (f4 s i 6 240 240 144 191 128 191 128 191 rfl rfl rfl rfl rfl rfl rfl rfl rfl), fit_iff s i (0 + 1 + 1 + 1 + 1 + 1 + 1 + 1) _ (f4 s i 7 241 243 128 191 128 191 128 191 rfl rfl rfl rfl rfl rfl rfl rfl rfl), fit_iff s i (0 + 1 + 1 + 1 + 1 + 1 + 1 + 1 + 1) _ (f4 s i 8 244 244 128 143 128 191 128 191 rfl rfl rfl rfl rfl rfl rfl rfl rfl)]
  rfl
theorem rows1 (b0 b1 b2 b3 n : Int) (hp : 0 < n) (h : 0 ≤ b0 ∧ b0 < 128) : rowsOf b0 b1 b2 b3 n = 1 := by
  unfold rowsOf
  rw [if_pos (by omega)]
theorem rows0 (b0 b1 b2 b3 n : Int) (h : 128 ≤ b0 ∧ b0 < 194 ∨ 244 < b0) : rowsOf b0 b1 b2 b3 n = 0 := by
  unfold rowsOf
  rw [if_neg (by omega), if_neg (by omega), if_neg (by omega), if_neg (by omega), if_neg (by omega), if_neg (by omega), if_neg (by omega), if_neg (by omega), if_neg (by omega)]
theorem rows2 (b0 b1 b2 b3 n : Int) (h : 194 ≤ b0 ∧ b0 ≤ 223) : rowsOf b0 b1 b2 b3 n = if 2 ≤ n ∧ 128 ≤ b1 ∧ b1 ≤ 191 then 2 else 0 := by
  unfold rowsOf
  rw [if_neg (by omega)]
  by_cases c : 2 ≤ n ∧ 128 ≤ b1 ∧ b1 ≤ 191
  · rw [if_pos c, if_pos (by omega)]
  · rw [if_neg c, if_neg (fun x => c ⟨x.1, x.2.2.2.1, x.2.2.2.2⟩), if_neg (by omega), if_neg (by omega), if_neg (by omega), if_neg (by omega), if_neg (by omega), if_neg (by omega), if_neg (by omega)]
theorem rows3 (b0 b1 b2 b3 n lo up : Int) (hc : (b0 = 224 ∧ lo = 160 ∧ up = 191) ∨ (b0 = 237 ∧ lo = 128 ∧ up = 159) ∨ (225 ≤ b0 ∧ b0 ≤ 239 ∧ b0 ≠ 237 ∧ lo = 128 ∧ up = 191)) : rowsOf b0 b1 b2 b3 n = if 3 ≤ n ∧ lo ≤ b1 ∧ b1 ≤ up ∧ 128 ≤ b2 ∧ b2 ≤ 191 then 3 else 0 := by
  unfold rowsOf
  by_cases c : 3 ≤ n ∧ lo ≤ b1 ∧ b1 ≤ up ∧ 128 ≤ b2 ∧ b2 ≤ 191
  · rw [if_pos c]
    rcases hc with ⟨h0, h1, h2⟩ | ⟨h0, h1, h2⟩ | ⟨h0, h0', h0'', h1, h2⟩
    · rw [if_neg (by omega), if_neg (by omega), if_pos (by omega)]
    · rw [if_neg (by omega), if_neg (by omega), if_neg (by omega), if_neg (by omega), if_pos (by omega)]
    · by_cases d : b0 ≤ 236
      · rw [if_neg (by omega), if_neg (by omega), if_neg (by omega), if_pos (by omega)]
      · rw [if_neg (by omega), if_neg (by omega), if_neg (by omega), if_neg (by omega), if_neg (by omega), if_pos (by omega)]
  · rw [if_neg c]
    have c' : ∀ l u : Int, l = lo → u = up → ¬ (3 ≤ n ∧ 1 = 1 ∧ 1 = 1 ∧ l ≤ b1 ∧ b1 ≤ u ∧ 128 ≤ b2 ∧ b2 ≤ 191) := fun l u e1 e2 x => c (by rw [← e1, ← e2]; exact ⟨x.1, x.2.2.2⟩)
    clear c
    rcases hc with ⟨h0, h1, h2⟩ | ⟨h0, h1, h2⟩ | ⟨h0, h0', h0'', h1, h2⟩
    · have c := c' 160 191 h1.symm h2.symm
      clear c'
      have e : ¬ (3 ≤ n ∧ 224 ≤ b0 ∧ b0 ≤ 224 ∧ 160 ≤ b1 ∧ b1 ≤ 191 ∧ 128 ≤ b2 ∧ b2 ≤ 191) := fun x => c ⟨x.1, rfl, rfl, x.2.2.2⟩
      clear c
      rw [if_neg (by clear e; omega), if_neg (by clear e; omega), if_neg e, if_neg (by clear e; omega), if_neg (by clear e; omega), if_neg (by clear e; omega), if_neg (by clear e; omega), if_neg (by clear e; omega), if_neg (by clear e; omega)]
    · have c := c' 128 159 h1.symm h2.symm
      clear c'
      have e : ¬ (3 ≤ n ∧ 237 ≤ b0 ∧ b0 ≤ 237 ∧ 128 ≤ b1 ∧ b1 ≤ 159 ∧ 128 ≤ b2 ∧ b2 ≤ 191) := fun x => c ⟨x.1, rfl, rfl, x.2.2.2⟩
      clear c
      rw [if_neg (by clear e; omega), if_neg (by clear e; omega), if_neg (by clear e; omega), if_neg (by clear e; omega), if_neg e, if_neg (by clear e; omega), if_neg (by clear e; omega), if_neg (by clear e; omega), if_neg (by clear e; omega)]
    · have c := c' 128 191 h1.symm h2.symm
      clear c'
      have e : ¬ (3 ≤ n ∧ 225 ≤ b0 ∧ b0 ≤ 236 ∧ 128 ≤ b1 ∧ b1 ≤ 191 ∧ 128 ≤ b2 ∧ b2 ≤ 191) := fun x => c ⟨x.1, rfl, rfl, x.2.2.2⟩
      have e' : ¬ (3 ≤ n ∧ 238 ≤ b0 ∧ b0 ≤ 239 ∧ 128 ≤ b1 ∧ b1 ≤ 191 ∧ 128 ≤ b2 ∧ b2 ≤ 191) := fun x => c ⟨x.1, rfl, rfl, x.2.2.2⟩
      clear c
      rw [if_neg (by clear e e'; omega), if_neg (by clear e e'; omega), if_neg (by clear e e'; omega), if_neg e, if_neg (by clear e e'; omega), if_neg e', if_neg (by clear e e'; omega), if_neg (by clear e e'; omega), if_neg (by clear e e'; omega)]
theorem rows4 (b0 b1 b2 b3 n lo up : Int) (hc : (b0 = 240 ∧ lo = 144 ∧ up = 191) ∨ (241 ≤ b0 ∧ b0 ≤ 243 ∧ lo = 128 ∧ up = 191) ∨ (b0 = 244 ∧ lo = 128 ∧ up = 143)) : rowsOf b0 b1 b2 b3 n = if 4 ≤ n ∧ lo ≤ b1 ∧ b1 ≤ up ∧ 128 ≤ b2 ∧ b2 ≤ 191 ∧ 128 ≤ b3 ∧ b3 ≤ 191 then 4 else 0 := by
  unfold rowsOf
  by_cases c : 4 ≤ n ∧ lo ≤ b1 ∧ b1 ≤ up ∧ 128 ≤ b2 ∧ b2 ≤ 191 ∧ 128 ≤ b3 ∧ b3 ≤ 191
  · rw [if_pos c]
    rcases hc with ⟨h0, h1, h2⟩ | ⟨h0, h0', h1, h2⟩ | ⟨h0, h1, h2⟩
    · rw [if_neg (by omega), if_neg (by omega), if_neg (by omega), if_neg (by omega), if_neg (by omega), if_neg (by omega), if_pos (by omega)]
    · rw [if_neg (by omega), if_neg (by omega), if_neg (by omega), if_neg (by omega), if_neg (by omega), if_neg (by omega), if_neg (by omega), if_pos (by omega)]
    · rw [if_neg (by omega), if_neg (by omega), if_neg (by omega), if_neg (by omega), if_neg (by omega), if_neg (by omega), if_neg (by omega), if_neg (by omega), if_pos (by omega)]
  · rw [if_neg c]
    have c' : ∀ l u : Int, l = lo → u = up → ∀ p q : Int, ¬ (4 ≤ n ∧ p ≤ b0 ∧ b0 ≤ q ∧ l ≤ b1 ∧ b1 ≤ u ∧ 128 ≤ b2 ∧ b2 ≤ 191 ∧ 128 ≤ b3 ∧ b3 ≤ 191) := fun l u e1 e2 p q x => c (by rw [← e1, ← e2]; exact ⟨x.1, x.2.2.2⟩)
    clear c
    rcases hc with ⟨h0, h1, h2⟩ | ⟨h0, h0', h1, h2⟩ | ⟨h0, h1, h2⟩
    · have e := c' 144 191 h1.symm h2.symm 240 240
      clear c'
      rw [if_neg (by clear e; omega), if_neg (by clear e; omega), if_neg (by clear e; omega), if_neg (by clear e; omega), if_neg (by clear e; omega), if_neg (by clear e; omega), if_neg e, if_neg (by clear e; omega), if_neg (by clear e; omega)]
    · have e := c' 128 191 h1.symm h2.symm 241 243
      clear c'
      rw [if_neg (by clear e; omega), if_neg (by clear e; omega), if_neg (by clear e; omega), if_neg (by clear e; omega), if_neg (by clear e; omega), if_neg (by clear e; omega), if_neg (by clear e; omega), if_neg e, if_neg (by clear e; omega)]
    · have e := c' 128 143 h1.symm h2.symm 244 244
      clear c'
      rw [if_neg (by clear e; omega), if_neg (by clear e; omega), if_neg (by clear e; omega), if_neg (by clear e; omega), if_neg (by clear e; omega), if_neg (by clear e; omega), if_neg (by clear e; omega), if_neg (by clear e; omega), if_neg e]
theorem goesOn_f (b : Int) : text_goesOn.f b = some (decide (128 ≤ b ∧ b ≤ 191)) := by
  unfold text_goesOn.f
  by_cases c : b ≥ 128
  · rw [if_pos c]; congr 1; rw [decide_eq_decide]; exact ⟨fun x => ⟨c, x⟩, fun x => x.2⟩
  · rw [if_neg c]; congr 1; exact (decide_eq_false (fun x => c x.1)).symm
theorem seqj1 (kk : Nat) (t : ByteArray) (x3 lo up b1 b2 : Int) (h1 : bt t 1 = b1) (h2 : bt t 2 = b2) (hn : 3 ≤ (t.size : Int)) (hx : 0 ≤ x3 ∧ x3 ≤ 3) : text_sequence.j1 (kk + 1) t x3 lo up = some (if lo ≤ b1 ∧ b1 ≤ up ∧ 128 ≤ b2 ∧ b2 ≤ 191 then x3 + 1 else 0) := by
  have hw : wrap64 (x3 + 1) = x3 + 1 := by unfold wrap64; omega
  rw [text_sequence.j1, if_pos (by omega), goesOn_f, Option.bind_some, h1, h2, hw]
  by_cases e0 : 128 ≤ b2 ∧ b2 ≤ 191
  rotate_left
  · rw [decide_eq_false e0, if_neg (by decide), if_neg (fun x => e0 x.2.2)]
  rw [decide_eq_true e0, if_pos rfl, if_pos (by omega)]
  by_cases e1 : b1 < lo
  · rw [if_pos e1, if_neg (fun x => by omega)]
  rw [if_neg e1]
  by_cases e2 : b1 > up
  · rw [if_pos e2, if_neg (fun x => by omega)]
  rw [if_neg e2, if_pos ⟨by omega, by omega, e0⟩]
/-- text.sequence, of the bytes b0 b1 b2 b3 .. (n in all). -/
theorem seq_f (k : Nat) (t : ByteArray) (b0 b1 b2 b3 n : Int) (h0 : bt t 0 = b0) (h1 : bt t 1 = b1) (h2 : bt t 2 = b2) (h3 : bt t 3 = b3) (hn : (t.size : Int) = n) (hp : 0 < n)
    (r0 : 0 ≤ b0 ∧ b0 ≤ 255) : text_sequence.f (k + 4) t = some (rowsOf b0 b1 b2 b3 n) := by
  have w1 : wrap64 (0 + 1) = 1 := by kernel_rfl
  have w2 : wrap64 (1 + 1) = 2 := by kernel_rfl
  have w3 : wrap64 (2 + 1) = 3 := by kernel_rfl
  have w4 : wrap64 (3 + 1) = 4 := by kernel_rfl
  unfold text_sequence.f
  rw [hn, if_pos hp]
  unfold text_missing.f
  rw [h0]
  clear h0
  by_cases c0 : b0 < 128
  · rw [if_pos c0, Option.bind_some, if_pos rfl, w1, text_sequence.j0, decide_eq_false (by omega : ¬ n < 1), if_neg (by decide), if_neg (by omega), if_neg (by omega), if_neg (by omega), w1, rows1 _ _ _ _ _ hp ⟨r0.1, c0⟩]
  rw [if_neg c0]
  by_cases c1 : b0 ≥ 194
  rotate_left
  · rw [if_neg c1, text_missing.j0, if_neg (by decide), if_neg (by omega), if_neg (by omega), if_neg (by omega), text_missing.j1, if_neg (by decide), if_neg (by omega), if_neg (by omega), text_missing.j2, if_neg (by decide), if_neg (by omega), Option.bind_some, if_neg (by decide), text_sequence.j0, if_pos rfl, rows0 _ _ _ _ _ (by omega)]
  rw [if_pos c1, text_missing.j0]
  by_cases c2 : b0 ≤ 223
  · rw [decide_eq_true c2, if_pos rfl, Option.bind_some, if_pos rfl, w2, text_sequence.j0, rows2 _ _ _ _ _ ⟨c1, c2⟩]
    by_cases d : n < 2
    · rw [decide_eq_true d, if_pos rfl, if_neg (by omega)]
    rw [decide_eq_false d, if_neg (by decide), if_neg (by omega), if_neg (by omega), if_pos (by omega), hn, if_pos (by omega), h1]
    by_cases e1 : b1 < 128
    · rw [if_pos e1, if_neg (by omega)]
    rw [if_neg e1]
    by_cases e2 : b1 > 191
    · rw [if_pos e2, if_neg (by omega)]
    rw [if_neg e2, w2, if_pos (by omega)]
  rw [decide_eq_false c2, if_neg (by decide)]
  have two : ∀ (lo up : Int), ((b0 = 224 ∧ lo = 160 ∧ up = 191) ∨ (b0 = 237 ∧ lo = 128 ∧ up = 159) ∨ (225 ≤ b0 ∧ b0 ≤ 239 ∧ b0 ≠ 237 ∧ lo = 128 ∧ up = 191)) →
      text_sequence.j0 (k + 4) t 2 (decide (n < wrap64 (2 + 1))) lo up = some (rowsOf b0 b1 b2 b3 n) := by
    intro lo up hc
    rw [w3, text_sequence.j0, rows3 _ _ _ _ _ lo up hc]
    clear hc
    by_cases d : n < 3
    · rw [decide_eq_true d, if_pos rfl, if_neg (by omega)]
    rw [decide_eq_false d, if_neg (by decide), if_neg (by decide), if_pos rfl, seqj1 _ t 2 lo up b1 b2 h1 h2 (by omega) (by decide)]
    congr 1
    by_cases e : lo ≤ b1 ∧ b1 ≤ up ∧ 128 ≤ b2 ∧ b2 ≤ 191
    · rw [if_pos e, if_pos ⟨by omega, e⟩]; rfl
    · rw [if_neg e, if_neg (fun x => e x.2)]
  have three : ∀ (lo up : Int), ((b0 = 240 ∧ lo = 144 ∧ up = 191) ∨ (241 ≤ b0 ∧ b0 ≤ 243 ∧ lo = 128 ∧ up = 191) ∨ (b0 = 244 ∧ lo = 128 ∧ up = 143)) →
      text_sequence.j0 (k + 4) t 3 (decide (n < wrap64 (3 + 1))) lo up = some (rowsOf b0 b1 b2 b3 n) := by
    intro lo up hc
    rw [w4, text_sequence.j0, rows4 _ _ _ _ _ lo up hc]
    clear hc
    by_cases d : n < 4
    · rw [decide_eq_true d, if_pos rfl, if_neg (by omega)]
    rw [decide_eq_false d, if_neg (by decide), if_pos rfl, hn, if_pos (by omega), goesOn_f, Option.bind_some, h3]
    by_cases e0 : 128 ≤ b3 ∧ b3 ≤ 191
    rotate_left
    · rw [decide_eq_false e0, if_neg (by decide), if_neg (fun x => e0 x.2.2.2.2.2)]
    rw [decide_eq_true e0, if_pos rfl, seqj1 _ t 3 lo up b1 b2 h1 h2 (by omega) (by decide)]
    congr 1
    by_cases e : lo ≤ b1 ∧ b1 ≤ up ∧ 128 ≤ b2 ∧ b2 ≤ 191
    · rw [if_pos e, if_pos ⟨by omega, e.1, e.2.1, e.2.2.1, e.2.2.2, e0.1, e0.2⟩]; rfl
    · rw [if_neg e, if_neg (fun x => e ⟨x.2.1, x.2.2.1, x.2.2.2.1, x.2.2.2.2.1⟩)]
  by_cases c3 : b0 = 224
  · rw [if_pos c3, Option.bind_some, if_pos rfl]
    exact two 160 191 (Or.inl ⟨c3, rfl, rfl⟩)
  rw [if_neg c3]
  by_cases c4 : b0 = 237
  · rw [if_pos c4, Option.bind_some, if_pos rfl]
    exact two 128 159 (Or.inr (Or.inl ⟨c4, rfl, rfl⟩))
  rw [if_neg c4, if_pos (by omega), text_missing.j1]
  by_cases c5 : b0 ≤ 239
  · rw [decide_eq_true c5, if_pos rfl, Option.bind_some, if_pos rfl]
    exact two 128 191 (Or.inr (Or.inr ⟨by omega, c5, c4, rfl, rfl⟩))
  rw [decide_eq_false c5, if_neg (by decide)]
  by_cases c6 : b0 = 240
  · rw [if_pos c6, Option.bind_some, if_pos rfl]
    exact three 144 191 (Or.inl ⟨c6, rfl, rfl⟩)
  rw [if_neg c6, if_pos (by omega), text_missing.j2]
  by_cases c7 : b0 ≤ 243
  · rw [decide_eq_true c7, if_pos rfl, Option.bind_some, if_pos rfl]
    exact three 128 191 (Or.inr (Or.inl ⟨by omega, c7, rfl, rfl⟩))
  rw [decide_eq_false c7, if_neg (by decide)]
  by_cases c8 : b0 = 244
  · rw [if_pos c8, Option.bind_some, if_pos rfl]
    exact three 128 143 (Or.inr (Or.inr ⟨c8, rfl, rfl⟩))
  rw [if_neg c8, Option.bind_some, if_neg (by decide), text_sequence.j0, if_pos rfl, rows0 _ _ _ _ _ (by omega)]
theorem seqB_range (s : ByteArray) (i : Nat) : 0 ≤ W.seqB s i ∧ W.seqB s i ≤ 4 ∧ (W.seqB s i ≠ 0 → (i : Int) + W.seqB s i ≤ s.size) := by
  rw [seqB_rows]
  have b1 : ∀ x : Int, (x = 0 ∨ 1 ≤ x ∧ x ≤ 4 ∧ x ≤ (s.size : Int) - i) → 0 ≤ x ∧ x ≤ 4 ∧ (x ≠ 0 → (i : Int) + x ≤ s.size) := fun x h => by omega
  apply b1
  clear b1
  unfold rowsOf
  split
  · rename_i h; exact Or.inr ⟨by decide, by decide, h.1⟩
  split
  · rename_i h; exact Or.inr ⟨by decide, by decide, h.1⟩
  split
  · rename_i h; exact Or.inr ⟨by decide, by decide, h.1⟩
  split
  · rename_i h; exact Or.inr ⟨by decide, by decide, h.1⟩
  split
  · rename_i h; exact Or.inr ⟨by decide, by decide, h.1⟩
  split
  · rename_i h; exact Or.inr ⟨by decide, by decide, h.1⟩
  split
  · rename_i h; exact Or.inr ⟨by decide, by decide, h.1⟩
  split
  · rename_i h; exact Or.inr ⟨by decide, by decide, h.1⟩
  split
  · rename_i h; exact Or.inr ⟨by decide, by decide, h.1⟩
  exact Or.inl rfl
/-- text.Check from place i on is the table's reader from there on. -/
theorem check_l (s : ByteArray) (hs : s.size ≤ 140737488355328) : ∀ (j i k : Nat), i + j = s.size → text_Check.l0 (k + j + 5) s (i : Int) = some (W.chkF s (k + j + 1) i) := by
  intro j
  induction j using Nat.strongRecOn with
  | _ j ih =>
    intro i k hi
    rw [show k + j + 5 = (k + j) + 4 + 1 by omega, text_Check.l0, W.chkF]
    by_cases h : i < s.size
    · have e0 : ((i : Int)).toNat = i := Int.toNat_natCast i
      have hz : ((s.extract i s.size).size : Int) = (s.size : Int) - i := by rw [ByteArray.size_extract]; omega
      rw [if_pos (by omega), if_pos (by omega), if_pos (by omega), e0, seq_f (k + j) _ (W.bt s i) (W.bt s (i + 1)) (W.bt s (i + 2)) (W.bt s (i + 3)) ((s.size : Int) - i) (bt_ex s i 0) (bt_ex s i 1) (bt_ex s i 2) (bt_ex s i 3) hz (by omega) (W_range s i), ← seqB_rows, Option.bind_some, if_neg (show ¬ s.size ≤ i by omega)]
      obtain ⟨r0, r1, r2⟩ := seqB_range s i
      by_cases z : W.seqB s i = 0
      · rw [if_pos z, if_pos z]
      · rw [if_neg z, if_neg z]
        have r3 := r2 z
        obtain ⟨m, hm⟩ : ∃ m : Nat, W.seqB s i = ((m + 1 : Nat) : Int) := ⟨(W.seqB s i).toNat - 1, by omega⟩
        rw [hm, show wrap64 ((i : Int) + ((m + 1 : Nat) : Int)) = ((i + (m + 1) : Nat) : Int) by unfold wrap64; omega, Int.toNat_natCast]
        have := ih (j - (m + 1)) (by omega) (i + (m + 1)) (k + m) (by omega)
        rw [show k + m + (j - (m + 1)) + 5 = k + j + 4 by omega, show k + m + (j - (m + 1)) + 1 = k + j by omega] at this
        exact this
    · rw [if_neg (by omega), if_pos (by omega)]
theorem check_f (s : ByteArray) (hs : s.size ≤ 140737488355328) (k : Nat) (hk : s.size + 5 ≤ k) : ∃ a, text_Check.f k s = some ((W.chkB s).1, a) ∧ rosterref01_Check.f s = some ((W.chkB s).1, a) := by
  refine ⟨(W.chkB s).2, ?_, ?_⟩
  · unfold text_Check.f
    obtain ⟨q, rfl⟩ : ∃ q, k = q + s.size + 5 := ⟨k - s.size - 5, by omega⟩
    have h := check_l s hs s.size 0 q (by omega)
    have hq : ∀ q : Nat, W.chkF s (q + s.size + 1) 0 = W.chkF s (s.size + 1) 0 := fun q => by
      have h1 := check_l s hs s.size 0 q (by omega)
      have h0 := check_l s hs s.size 0 0 (by omega)
      rw [Nat.zero_add] at h0
      have m := text_Check.mono_l
      have : ∀ q, text_Check.l0 (q + s.size + 5) s ((0 : Nat) : Int) = some (W.chkF s (s.size + 1) 0) := fun q => by
        induction q with
        | zero => rw [Nat.zero_add]; exact h0
        | succ q ih => rw [show q + 1 + s.size + 5 = (q + s.size + 5) + 1 by omega]; exact m (q + s.size + 5) s _ _ ih
      rw [this q] at h1
      exact (Option.some.inj h1).symm
    rw [hq q] at h
    exact h
  · unfold rosterref01_Check.f
    rw [if_pos hs]
def U (s : ByteArray) : Bool := (W.chkB s).1 == 0
theorem utf_f (s : ByteArray) (hs : s.size ≤ 140737488355328) (k : Nat) (hk : s.size + 5 ≤ k) : filter_utf.f k s = some (U s) := by
  obtain ⟨a, h, _⟩ := check_f s hs k hk
  unfold filter_utf.f
  rw [h, Option.bind_some]
  rfl
theorem isUTF8_f (s : ByteArray) (hs : s.size ≤ 140737488355328) : rosterref12_isUTF8.f s = some (U s) := by
  unfold rosterref12_isUTF8.f rosterref01_Check.f
  rw [if_pos hs, Option.bind_some]
  rfl
end Go.Proofs.YtaimjacpenofpaaDoor.Pc

/-! ## Plain: what a node has: shaped of filter and fields of the document tell the same. -/
namespace Go.Proofs.YtaimjacpenofpaaDoor.Pc
open Go.RowKit Go.Proofs.YtaimjacpenofpaaDoorW.PrintWords Go.Proofs.YtaimjacpenofpaaDoor.GC
set_option linter.unusedVariables false
set_option linter.unusedSimpArgs false
theorem wr (i : Nat) (h : i ≤ 4294967296) : wrap64 ((i : Int) + 1) = ((i + 1 : Nat) : Int) := by unfold wrap64; omega
theorem rdS (l : List ByteArray) (i : Nat) (h : i < l.length) : rdOf ByteArray.empty l i = l[i] := by simp [rdOf, h]
def emp (l : List ByteArray) : Bool := l.any fun x => decide (x.toList = [])
def np (a : ByteArray) (l : List ByteArray) (b : ByteArray) : Bool := decide (a.toList = []) && decide (b.toList = []) && decide (l.length = 0)
theorem np_f (a : ByteArray) (l : List ByteArray) (b : ByteArray) : filter_noParts.f a l b = some (np a l b) := by
  unfold filter_noParts.f np
  by_cases c : a.toList = []
  · by_cases d : b.toList = []
    · rw [if_pos c, if_pos d, decide_eq_true c, decide_eq_true d]
      congr 1
      rw [Bool.true_and, Bool.true_and]
      by_cases e : l.length = 0
      · rw [decide_eq_true e, e]; rfl
      · rw [decide_eq_false e, beq_eq_false_iff_ne]; omega
    · rw [if_pos c, if_neg d, decide_eq_false d, Bool.and_false]; rfl
  · rw [if_neg c, decide_eq_false c]; rfl
theorem np_r (a : ByteArray) (l : List ByteArray) (b : ByteArray) : rosterref12_noParts.f a l b = some (np a l b) := by
  have h := np_f a l b
  unfold filter_noParts.f at h
  unfold rosterref12_noParts.f
  exact h
theorem emptyList : ((⟨#[]⟩ : ByteArray)).toList = [] := by
  rw [ByteArray.toList_eq]
theorem index_l (l : List ByteArray) (hl : l.length ≤ 1048576) : ∀ (j i k : Nat), i + j = l.length → ∃ r, slices_Index_string_string.l0 (k + j + 1) l (⟨#[]⟩ : ByteArray) (l.length : Int) i = some r ∧ decide (r ≥ 0) = (l.drop i).any fun x => decide (x.toList = []) := by
  intro j
  induction j with
  | zero =>
    intro i k hi
    refine ⟨-1, ?_, ?_⟩
    · rw [slices_Index_string_string.l0, if_neg (by omega)]
    · rw [List.drop_of_length_le (by omega)]; rfl
  | succ j ih =>
    intro i k hi
    have g : i < l.length := by omega
    rw [show k + (j + 1) + 1 = (k + j + 1) + 1 by omega, slices_Index_string_string.l0, if_pos (by omega), if_pos (by omega), if_pos (by omega), rdS l i g, wr i (by omega), List.drop_eq_getElem_cons g, emptyList]
    by_cases e : l[i].toList = []
    · rw [if_pos e.symm]
      exact ⟨i, rfl, by rw [List.any_cons, decide_eq_true e, Bool.true_or]; exact decide_eq_true (by omega)⟩
    · rw [if_neg (fun x => e x.symm)]
      obtain ⟨r, h1, h2⟩ := ih (i + 1) k (by omega)
      refine ⟨r, h1, ?_⟩
      rw [h2, List.any_cons, decide_eq_false e, Bool.false_or]
theorem contains_f (l : List ByteArray) (hl : l.length ≤ 1048576) (k : Nat) (hk : l.length + 1 ≤ k) : slices_Contains_string_string.f k l (⟨#[]⟩ : ByteArray) = some (emp l) := by
  obtain ⟨q, rfl⟩ : ∃ q, k = q + l.length + 1 := ⟨k - l.length - 1, by omega⟩
  obtain ⟨r, h1, h2⟩ := index_l l hl l.length 0 q (by omega)
  unfold slices_Contains_string_string.f slices_Index_string_string.f
  rw [show ((0 : Nat) : Int) = 0 from rfl] at h1
  rw [h1, Option.bind_some, h2, List.drop_zero]
  rfl
theorem noEmpty_l (a : ByteArray) (l : List ByteArray) (b : ByteArray) (hl : l.length ≤ 1048576) : ∀ (j i k : Nat), i + j = l.length → rosterref12_noEmpty.l0 (k + j + 1) (i : Int) a l b = some (!((l.drop i).any fun x => decide (x.toList = []))) := by
  intro j
  induction j with
  | zero =>
    intro i k hi
    rw [rosterref12_noEmpty.l0, if_neg (by omega), List.drop_of_length_le (by omega)]
    rfl
  | succ j ih =>
    intro i k hi
    have g : i < l.length := by omega
    rw [show k + (j + 1) + 1 = (k + j + 1) + 1 by omega, rosterref12_noEmpty.l0, if_pos (by omega), if_pos (by omega), rdS l i g, wr i (by omega), List.drop_eq_getElem_cons g, List.any_cons]
    by_cases e : l[i].toList = []
    · rw [if_pos e, decide_eq_true e, Bool.true_or]; rfl
    · rw [if_neg e, decide_eq_false e, Bool.false_or]
      exact ih (i + 1) k (by omega)
theorem noEmpty_f (a : ByteArray) (l : List ByteArray) (b : ByteArray) (hl : l.length ≤ 1048576) (k : Nat) (hk : l.length + 1 ≤ k) : rosterref12_noEmpty.f k a l b = some (!emp l) := by
  obtain ⟨q, rfl⟩ : ∃ q, k = q + l.length + 1 := ⟨k - l.length - 1, by omega⟩
  unfold rosterref12_noEmpty.f
  exact noEmpty_l a l b hl l.length 0 q (by omega)
def tailB (x3 x4 : Bool) (op : Int) (d v r : ByteArray) (l : List ByteArray) : Bool :=
  if op = 0 ∨ op = 1 ∨ op = 2 then decide (d.toList = []) && decide (v.toList = []) && !x3 && !x4
  else if op = 7 then decide (v.toList = []) && !x3 && !x4
  else if op = 3 ∨ op = 5 ∨ op = 6 ∨ op = 8 then !x3 && !x4
  else if op = 4 then decide (v.toList = []) && x3 && !x4 && !emp l
  else if op = 9 then !x3 && (!decide (d.toList = []) || !decide (r.toList = []))
  else false
/-- Has the node what its Op asks for? -/
def shB (dep op : Int) (d v i : ByteArray) (l : List ByteArray) (f r : ByteArray) (dn : Bool) : Bool :=
  U d && U r && tailB (!np i l f) (!decide (r.toList = []) || dn) op d v r l
theorem op_cases (op : Int) : op < 0 ∨ 9 < op ∨ op = 0 ∨ op = 1 ∨ op = 2 ∨ op = 3 ∨ op = 4 ∨ op = 5 ∨ op = 6 ∨ op = 7 ∨ op = 8 ∨ op = 9 := by omega
theorem j3_f (x3 x4 b : Bool) (op dep : Int) (d v i : ByteArray) (l : List ByteArray) (f r : ByteArray) (dn : Bool) (hl : l.length ≤ 1048576) (k : Nat) (hk : l.length + 2 ≤ k)
    (hb : b = decide (op = 3 ∨ op = 5 ∨ op = 6 ∨ op = 8)) (h0 : op ≠ 0 ∧ op ≠ 1 ∧ op ≠ 2 ∧ op ≠ 7) : filter_shaped.j3 k x3 x4 op b dep op d v i l f r dn = some (tailB x3 x4 op d v r l) := by
  obtain ⟨k, rfl⟩ : ∃ q, k = q + 1 := ⟨k - 1, by omega⟩
  rw [filter_shaped.j3, contains_f l hl k (by omega)]
  unfold tailB
  rw [if_neg (show ¬ (op = 0 ∨ op = 1 ∨ op = 2) by omega), if_neg (show ¬ op = 7 by omega)]
  by_cases c : op = 3 ∨ op = 5 ∨ op = 6 ∨ op = 8
  · rw [if_pos c, hb, decide_eq_true c, if_pos rfl]
    cases x3 <;> rfl
  rw [if_neg c, hb, decide_eq_false c, if_neg (by decide)]
  by_cases c4 : op = 4
  · rw [if_pos c4, if_pos c4]
    by_cases e : v.toList = []
    · rw [if_pos e, decide_eq_true e]
      cases x3 <;> cases x4 <;> rfl
    · rw [if_neg e, decide_eq_false e]; rfl
  rw [if_neg c4, if_neg c4]
  by_cases c9 : op = 9
  · rw [if_pos c9, if_pos c9]
    cases x3
    · rw [if_neg (by decide)]
      by_cases e : d.toList = []
      · rw [if_pos e, decide_eq_true e]
        by_cases e2 : r.toList = []
        · rw [e2]; rfl
        · rw [decide_eq_false e2, bne_iff_ne.2 e2]; rfl
      · rw [if_neg e, decide_eq_false e]; rfl
    · rfl
  · rw [if_neg c9, if_neg c9]
theorem j1_f (x3 x4 x25 : Bool) (op dep : Int) (d v i : ByteArray) (l : List ByteArray) (f r : ByteArray) (dn : Bool) (hl : l.length ≤ 1048576) (k : Nat) (hk : l.length + 4 ≤ k) :
    filter_shaped.j1 k x3 x4 x25 dep op d v i l f r dn = some (!x25 && tailB x3 x4 op d v r l) := by
  obtain ⟨k, rfl⟩ : ∃ q, k = q + 1 + 1 := ⟨k - 2, by omega⟩
  rw [filter_shaped.j1]
  cases x25
  rotate_left
  · rfl
  rw [if_neg (by decide), Bool.not_false, Bool.true_and]
  have hold : ∀ b, b = decide (op = 0 ∨ op = 1 ∨ op = 2) → filter_shaped.j2 (k + 1) x3 x4 op b dep op d v i l f r dn = some (tailB x3 x4 op d v r l) := by
    intro b hb
    rw [filter_shaped.j2]
    by_cases c : op = 0 ∨ op = 1 ∨ op = 2
    · unfold tailB
      rw [if_pos c, hb, decide_eq_true c, if_pos rfl]
      by_cases e : d.toList = []
      · rw [if_pos e, decide_eq_true e]
        by_cases e2 : v.toList = []
        · rw [if_pos e2, decide_eq_true e2]
          cases x3 <;> rfl
        · rw [if_neg e2, decide_eq_false e2]; rfl
      · rw [if_neg e, decide_eq_false e]; rfl
    rw [hb, decide_eq_false c, if_neg (by decide)]
    by_cases c7 : op = 7
    · unfold tailB
      rw [if_neg c, if_pos c7, if_pos c7]
      by_cases e2 : v.toList = []
      · rw [if_pos e2, decide_eq_true e2]
        cases x3 <;> rfl
      · rw [if_neg e2, decide_eq_false e2]; rfl
    rw [if_neg c7]
    have h3 := fun b hb => j3_f x3 x4 b op dep d v i l f r dn hl k (by omega) hb (by omega)
    by_cases c3 : op = 3
    · rw [if_pos c3]; exact h3 _ (by rw [c3]; rfl)
    rw [if_neg c3]
    by_cases c5 : op = 5
    · rw [if_pos c5]; exact h3 _ (by rw [c5]; rfl)
    rw [if_neg c5]
    by_cases c6 : op = 6
    · rw [if_pos c6]; exact h3 _ (by rw [c6]; rfl)
    rw [if_neg c6]
    refine h3 _ ?_
    by_cases c8 : op = 8
    · rw [c8]; rfl
    · rw [decide_eq_false (by omega), beq_eq_false_iff_ne]; exact c8
  by_cases c0 : op = 0
  · rw [if_pos c0]; exact hold _ (by rw [c0]; rfl)
  rw [if_neg c0]
  by_cases c1 : op = 1
  · rw [if_pos c1]; exact hold _ (by rw [c1]; rfl)
  rw [if_neg c1]
  refine hold _ ?_
  by_cases c2 : op = 2
  · rw [c2]; rfl
  · rw [decide_eq_false (by omega), beq_eq_false_iff_ne]; exact c2
theorem shaped_f (dep op : Int) (d v i : ByteArray) (l : List ByteArray) (f r : ByteArray) (dn : Bool) (hl : l.length ≤ 1048576) (hd : d.size ≤ 1048576) (hr : r.size ≤ 1048576) (k : Nat) (hk : 1048586 ≤ k) :
    filter_shaped.f k dep op d v i l f r dn = some (shB dep op d v i l f r dn) := by
  obtain ⟨k, rfl⟩ : ∃ q, k = q + 1 := ⟨k - 1, by omega⟩
  unfold filter_shaped.f shB
  rw [np_f, Option.bind_some]
  have h0 : ∀ x4, filter_shaped.j0 (k + 1) (!np i l f) x4 dep op d v i l f r dn = some (U d && U r && tailB (!np i l f) x4 op d v r l) := by
    intro x4
    rw [filter_shaped.j0, utf_f d (by omega) k (by omega), Option.bind_some, utf_f r (by omega) k (by omega), Option.bind_some, j1_f _ _ _ _ _ _ _ _ _ _ _ _ hl k (by omega), j1_f _ _ _ _ _ _ _ _ _ _ _ _ hl k (by omega)]
    cases U d
    · rfl
    · rw [if_pos rfl, Bool.not_not, Bool.true_and]
  by_cases e : r.toList = []
  · rw [if_pos e, h0, decide_eq_true e]; rfl
  · rw [if_neg e, h0, decide_eq_false e]; rfl
theorem fj3 (x : Bool) (op dep : Int) (d v i : ByteArray) (l : List ByteArray) (f r : ByteArray) (dn : Bool) (hl : l.length ≤ 1048576) (k : Nat) (hk : l.length + 2 ≤ k) : True := trivial
theorem fields_f (dep op : Int) (d v i : ByteArray) (l : List ByteArray) (f r : ByteArray) (dn : Bool) (hl : l.length ≤ 1048576) (hd : d.size ≤ 1048576) (hr : r.size ≤ 1048576) (k : Nat) (hk : 1048586 ≤ k) :
    rosterref12_fields.f k dep op d v i l f r dn = some (shB dep op d v i l f r dn) := by
  obtain ⟨k, rfl⟩ : ∃ q, k = q + 1 + 1 + 1 + 1 := ⟨k - 4, by omega⟩
  unfold rosterref12_fields.f shB
  rw [isUTF8_f d (by omega), Option.bind_some, isUTF8_f r (by omega), Option.bind_some]
  have hval : ∀ o, rosterref12_valued.f o = some (decide (o = 3 ∨ o = 5 ∨ o = 6 ∨ o = 8)) := fun o => by
    unfold rosterref12_valued.f
    by_cases c3 : o = 3
    · rw [if_pos c3, decide_eq_true (Or.inl c3)]
    rw [if_neg c3]
    by_cases c5 : o = 5
    · rw [if_pos c5, decide_eq_true (Or.inr (Or.inl c5))]
    rw [if_neg c5]
    by_cases c6 : o = 6
    · rw [if_pos c6, decide_eq_true (Or.inr (Or.inr (Or.inl c6)))]
    rw [if_neg c6]
    by_cases c8 : o = 8
    · rw [c8]; rfl
    · rw [decide_eq_false (by omega), beq_eq_false_iff_ne.2 c8]
  have hhold : ∀ o, rosterref12_holds.f o = some (decide (o = 0 ∨ o = 1 ∨ o = 2)) := fun o => by
    unfold rosterref12_holds.f
    by_cases c0 : o = 0
    · rw [if_pos c0, decide_eq_true (Or.inl c0)]
    rw [if_neg c0]
    by_cases c1 : o = 1
    · rw [if_pos c1, decide_eq_true (Or.inr (Or.inl c1))]
    rw [if_neg c1]
    by_cases c2 : o = 2
    · rw [c2]; rfl
    · rw [decide_eq_false (by omega), beq_eq_false_iff_ne.2 c2]
  have t0 : rosterref12_fields.j0 (k + 1 + 1 + 1 + 1) true dep op d v i l f r dn = some false := by rw [rosterref12_fields.j0, if_pos rfl]
  have t1 : rosterref12_fields.j1 (k + 1 + 1 + 1) true dep op d v i l f r dn = some false := by rw [rosterref12_fields.j1, if_pos rfl]
  have t2 : rosterref12_fields.j2 (k + 1 + 1) true dep op d v i l f r dn = some false := by rw [rosterref12_fields.j2, if_pos rfl]
  have t3 : rosterref12_fields.j3 (k + 1) true dep op d v i l f r dn = some false := by rw [rosterref12_fields.j3, if_pos rfl]
  by_cases o0 : op < 0
  · rw [if_pos o0, t0]
    unfold tailB
    rw [if_neg (by omega), if_neg (by omega), if_neg (by omega), if_neg (by omega), if_neg (by omega), Bool.and_false]
  rw [if_neg o0]
  by_cases o9 : op > 9
  · rw [if_pos o9, t0]
    unfold tailB
    rw [if_neg (by omega), if_neg (by omega), if_neg (by omega), if_neg (by omega), if_neg (by omega), Bool.and_false]
  rw [if_neg o9]
  cases U d
  · rw [if_neg (by decide), t0]; rfl
  cases U r
  · rw [if_pos rfl, Bool.not_false, t0]; rfl
  rw [if_pos rfl, Bool.not_true, Bool.true_and, Bool.true_and, rosterref12_fields.j0, if_neg (by decide)]
  have s3 : rosterref12_fields.j3 (k + 1) false dep op d v i l f r dn = some (if op = 0 ∨ op = 1 ∨ op = 2 then decide (d.toList = []) else if op = 4 then !np i l f && !emp l else if op = 9 then (!decide (d.toList = []) || !decide (r.toList = [])) else true) := by
    rw [rosterref12_fields.j3, if_neg (by decide), hhold, Option.bind_some]
    by_cases c : op = 0 ∨ op = 1 ∨ op = 2
    · rw [if_pos c, decide_eq_true c, if_pos rfl]
      congr 1
      cases d.toList <;> rfl
    rw [if_neg c, decide_eq_false c, if_neg (by decide)]
    by_cases c4 : op = 4
    · rw [if_pos c4, if_pos c4, np_r, Option.bind_some, noEmpty_f i l f hl k (by omega), Option.bind_some]
      cases np i l f <;> rfl
    rw [if_neg c4, if_neg c4]
    by_cases c9 : op = 9
    · rw [if_pos c9, if_pos c9]
      by_cases e : d.toList = []
      · rw [if_pos e, decide_eq_true e]
        by_cases e2 : r.toList = []
        · rw [e2]; rfl
        · rw [decide_eq_false e2, bne_iff_ne.2 e2]; rfl
      · rw [if_neg e, decide_eq_false e]; rfl
    · rw [if_neg c9, if_neg c9]
  have s2 : rosterref12_fields.j2 (k + 1 + 1) false dep op d v i l f r dn = some ((decide (op = 3 ∨ op = 5 ∨ op = 6 ∨ op = 8) || decide (op = 9) || decide (v.toList = [])) && (if op = 0 ∨ op = 1 ∨ op = 2 then decide (d.toList = []) else if op = 4 then !np i l f && !emp l else if op = 9 then (!decide (d.toList = []) || !decide (r.toList = [])) else true)) := by
    rw [rosterref12_fields.j2, if_neg (by decide), hval, Option.bind_some]
    by_cases c : op = 3 ∨ op = 5 ∨ op = 6 ∨ op = 8
    · rw [decide_eq_true c, if_pos rfl, s3]; rfl
    rw [decide_eq_false c, if_neg (by decide)]
    by_cases c9 : op = 9
    · rw [if_pos c9, s3, decide_eq_true c9]; rfl
    rw [if_neg c9, decide_eq_false c9]
    by_cases e : v.toList = []
    · rw [e, show (([] : List UInt8) != []) = false from rfl, s3]; rfl
    · rw [bne_iff_ne.2 e, t3, decide_eq_false e]; rfl
  have s1 : rosterref12_fields.j1 (k + 1 + 1 + 1) false dep op d v i l f r dn = some ((decide (op = 4) || np i l f) && ((decide (op = 3 ∨ op = 5 ∨ op = 6 ∨ op = 8) || decide (op = 9) || decide (v.toList = [])) && (if op = 0 ∨ op = 1 ∨ op = 2 then decide (d.toList = []) else if op = 4 then !np i l f && !emp l else if op = 9 then (!decide (d.toList = []) || !decide (r.toList = [])) else true))) := by
    rw [rosterref12_fields.j1, if_neg (by decide)]
    by_cases c4 : op = 4
    · rw [if_pos c4, s2, decide_eq_true c4]; rfl
    rw [if_neg c4, decide_eq_false c4, np_r, Option.bind_some]
    cases hn : np i l f
    · rw [Bool.not_false, t2]; rfl
    · rw [Bool.not_true, s2, hn]; rfl
  have s0 : (if op = 9 then rosterref12_fields.j1 (k + 1 + 1 + 1) false dep op d v i l f r dn else if r.toList = [] then rosterref12_fields.j1 (k + 1 + 1 + 1) dn dep op d v i l f r dn else rosterref12_fields.j1 (k + 1 + 1 + 1) true dep op d v i l f r dn)
      = some ((decide (op = 9) || !(!decide (r.toList = []) || dn)) && ((decide (op = 4) || np i l f) && ((decide (op = 3 ∨ op = 5 ∨ op = 6 ∨ op = 8) || decide (op = 9) || decide (v.toList = [])) && (if op = 0 ∨ op = 1 ∨ op = 2 then decide (d.toList = []) else if op = 4 then !np i l f && !emp l else if op = 9 then (!decide (d.toList = []) || !decide (r.toList = [])) else true)))) := by
    by_cases c9 : op = 9
    · rw [if_pos c9, s1, decide_eq_true c9]; rfl
    rw [if_neg c9]
    by_cases e : r.toList = []
    · rw [if_pos e, e, decide_eq_false c9]
      cases dn
      · rw [s1, decide_eq_false c9]; simp [e]
      · rw [t1]; simp
    · rw [if_neg e, t1, decide_eq_false c9, decide_eq_false e]; rfl
  rw [s0]
  congr 1
  unfold tailB
  generalize (!decide (r.toList = []) || dn) = x4
  generalize np i l f = x3
  generalize emp l = em
  generalize decide (d.toList = []) = d0
  generalize decide (v.toList = []) = v0
  generalize decide (r.toList = []) = r0
  rcases (show op = 0 ∨ op = 1 ∨ op = 2 ∨ op = 3 ∨ op = 4 ∨ op = 5 ∨ op = 6 ∨ op = 7 ∨ op = 8 ∨ op = 9 by omega) with rfl | rfl | rfl | rfl | rfl | rfl | rfl | rfl | rfl | rfl <;> cases x4 <;> cases x3 <;> cases em <;> cases d0 <;> cases v0 <;> cases r0 <;> rfl
end Go.Proofs.YtaimjacpenofpaaDoor.Pc

/-! ## Plain: Check of both sides: the same error at the same place. -/
namespace Go.Proofs.YtaimjacpenofpaaDoor.Pc
open Go.RowKit Go.Proofs.YtaimjacpenofpaaDoorW.PrintWords Go.Proofs.YtaimjacpenofpaaDoor.GC
set_option linter.unusedVariables false
set_option linter.unusedSimpArgs false
abbrev N := S38
def dep (l : List N) (i : Nat) : Int := (rd_T38 l (i : Int)).f0
def op (l : List N) (i : Nat) : Int := (rd_T38 l (i : Int)).f1
def hB (o : Int) : Bool := decide (o = 0) || decide (o = 1) || decide (o = 2)
theorem bsL {β : Type} (b : List Int) (f : List Int → Option β) : (some b).bind f = f b := rfl
theorem bsB {β : Type} (b : Bool) (f : Bool → Option β) : (some b).bind f = f b := rfl
theorem holds_f (o : Int) : filter_holds.f o = some (hB o) := by
  unfold filter_holds.f hB
  by_cases h0 : o = 0
  · rw [if_pos h0, decide_eq_true h0]; rfl
  · rw [if_neg h0, decide_eq_false h0]
    by_cases h1 : o = 1
    · rw [if_pos h1, decide_eq_true h1]; rfl
    · rw [if_neg h1, decide_eq_false h1, Bool.false_or, Bool.false_or]
      congr 1
/-- May node i stand behind those ahead of it? -/
def fol (l : List N) (i : Nat) : Bool :=
  if i = 0 then dep l 0 == 1 else decide (2 ≤ dep l i) && (decide (dep l i ≤ dep l (i - 1)) || (decide (dep l i = dep l (i - 1) + 1) && hB (op l (i - 1))))
theorem fol_eq (l : List N) (i : Nat) (hi : i < l.length) (hl : l.length ≤ 1048576) (ha : 0 < i → dep l (i - 1) ≤ 64 ∧ 1 ≤ dep l (i - 1)) :
    filter_follows.f l i = some (fol l i) ∧ rosterref12_follows.f l i = some (fol l i) := by
  have hR : (0 : Int) ≤ i ∧ (i : Int) < l.length ∧ l.length ≤ 140737488355328 := ⟨by omega, by omega, by omega⟩
  by_cases z : i = 0
  · subst z
    have e0 : fol l 0 = ((rd_T38 l 0).f0 == 1) := rfl
    rw [e0]
    constructor
    · unfold filter_follows.f
      rw [if_pos (show ((0 : Nat) : Int) = 0 from rfl), if_pos (show (0 : Int) < l.length by omega)]
    · unfold rosterref12_follows.f
      rw [if_pos hR, if_pos (show ((0 : Nat) : Int) = 0 from rfl)]
  obtain ⟨m, rfl⟩ : ∃ m, i = m + 1 := ⟨i - 1, by omega⟩
  have ha := ha (by omega)
  rw [Nat.add_sub_cancel] at ha
  have e1 : wrap64 (((m + 1 : Nat) : Int) - 1) = (m : Int) := by unfold wrap64; omega
  have e2 : ((m + 1 : Nat) : Int) - 1 = (m : Int) := by omega
  have ew : wrap64 (dep l m + 1) = dep l m + 1 := by unfold wrap64; omega
  have ef : fol l (m + 1) = (decide (2 ≤ dep l (m + 1)) && (decide (dep l (m + 1) ≤ dep l m) || (decide (dep l (m + 1) = dep l m + 1) && hB (op l m)))) := by
    unfold fol
    rw [if_neg z, Nat.add_sub_cancel]
  rw [ef]
  clear ef
  constructor
  · unfold filter_follows.f
    rw [e1, if_neg (show ¬ ((m + 1 : Nat) : Int) = 0 by omega), if_pos (show 0 ≤ ((m + 1 : Nat) : Int) by omega), if_pos (show ((m + 1 : Nat) : Int) < l.length by omega), if_pos (show (0 : Int) ≤ m by omega), if_pos (show (m : Int) < l.length by omega), holds_f, Option.bind_some]
    change (if dep l (m + 1) ≥ 2 then (if dep l (m + 1) ≤ dep l m then some true else if dep l (m + 1) = wrap64 (dep l m + 1) then some (hB (op l m)) else some false) else some false) = _
    rw [ew]
    generalize dep l (m + 1) = d
    generalize dep l m = a
    by_cases c2 : 2 ≤ d
    · rw [if_pos c2, decide_eq_true c2, Bool.true_and]
      by_cases c3 : d ≤ a
      · rw [if_pos c3, decide_eq_true c3]; rfl
      · rw [if_neg c3, decide_eq_false c3, Bool.false_or]
        by_cases c4 : d = a + 1
        · rw [if_pos c4, decide_eq_true c4]; rfl
        · rw [if_neg c4, decide_eq_false c4]; rfl
    · rw [if_neg c2, decide_eq_false c2]; rfl
  · unfold rosterref12_follows.f
    rw [e2, if_pos hR, if_neg (show ¬ ((m + 1 : Nat) : Int) = 0 by omega)]
    change some (W.rfolB (dep l (m + 1)) (dep l m) (op l m)) = _
    unfold W.rfolB
    rw [ew, show W.holdsB (op l m) = hB (op l m) from rfl]
    congr 1
    generalize dep l (m + 1) = d
    generalize dep l m = a
    by_cases c2 : 2 ≤ d
    · rw [decide_eq_true c2, Bool.true_and, Bool.true_and]
      by_cases c3 : d ≤ a
      · rw [decide_eq_true c3, decide_eq_true (by omega : d ≤ a + 1)]; rfl
      · rw [decide_eq_false c3, Bool.false_or, Bool.false_or]
        by_cases c4 : d = a + 1
        · rw [decide_eq_true c4, decide_eq_true (by omega : d ≤ a + 1)]
        · rw [decide_eq_false c4, decide_eq_false (by omega : ¬ d ≤ a + 1)]
    · rw [decide_eq_false c2]; rfl
/-! the second kid of a Not -/
theorem second_p (l : List N) (i p : Nat) (hp : p < i) (hi : i < l.length) (hl : l.length ≤ 1048576) (hd : dep l p < dep l i) (hb : ∀ q, p < q → q < i → dep l i ≤ dep l q) :
    ∀ (t : Nat) (kid : Bool) (k : Nat), p + t < i → ∃ b, rosterref12_second.l0 (k + t + 1) l (i : Int) kid ((p + t : Nat) : Int) = some b ∧ (b = true ↔ (kid = true ∨ ∃ q, p < q ∧ q ≤ p + t ∧ dep l q = dep l i) ∧ op l p = 2) := by
  intro t
  induction t with
  | zero =>
    intro kid k ht
    rw [rosterref12_second.l0, if_pos (by omega), if_pos (by omega), if_pos (by omega), if_pos (by omega), if_pos (by omega)]
    change ∃ b, (if dep l p = dep l i then (if dep l p < dep l i then some (op l p == 2) else _) else (if dep l p < dep l i then (if kid = true then some (op l p == 2) else some false) else _)) = some b ∧ _
    rw [if_neg (by omega), if_pos hd]
    cases kid
    · exact ⟨false, rfl, ⟨fun h => (by cases h), fun ⟨h, _⟩ => by
        rcases h with h | ⟨q, h1, h2, _⟩
        · cases h
        · omega⟩⟩
    · refine ⟨_, rfl, ?_⟩
      rw [beq_iff_eq]
      exact ⟨fun h => ⟨Or.inl rfl, h⟩, fun h => h.2⟩
  | succ t ih =>
    intro kid k ht
    have hq := hb (p + (t + 1)) (by omega) ht
    have ew : wrap64 (((p + (t + 1) : Nat) : Int) - 1) = ((p + t : Nat) : Int) := by unfold wrap64; omega
    rw [show k + (t + 1) + 1 = (k + t + 1) + 1 by omega, rosterref12_second.l0, if_pos (by omega), if_pos (by omega), if_pos (by omega), if_pos (by omega), if_pos (by omega), ew]
    change ∃ b, (if dep l (p + (t + 1)) = dep l i then (if dep l (p + (t + 1)) < dep l i then some (op l (p + (t + 1)) == 2) else rosterref12_second.l0 (k + t + 1) l (i : Int) true ((p + t : Nat) : Int)) else (if dep l (p + (t + 1)) < dep l i then (if kid = true then some (op l (p + (t + 1)) == 2) else some false) else rosterref12_second.l0 (k + t + 1) l (i : Int) kid ((p + t : Nat) : Int))) = some b ∧ _
    by_cases c : dep l (p + (t + 1)) = dep l i
    · rw [if_pos c, if_neg (by omega)]
      obtain ⟨b, h1, h2⟩ := ih true k (by omega)
      refine ⟨b, h1, h2.trans ⟨fun h => ⟨Or.inr ⟨p + (t + 1), by omega, Nat.le_refl _, c⟩, h.2⟩, fun h => ⟨Or.inl rfl, h.2⟩⟩⟩
    · rw [if_neg c, if_neg (by omega)]
      obtain ⟨b, h1, h2⟩ := ih kid k (by omega)
      refine ⟨b, h1, h2.trans ⟨fun h => ⟨?_, h.2⟩, fun h => ⟨?_, h.2⟩⟩⟩
      · rcases h.1 with h | ⟨q, a1, a2, a3⟩
        · exact Or.inl h
        · exact Or.inr ⟨q, a1, by omega, a3⟩
      · rcases h.1 with h | ⟨q, a1, a2, a3⟩
        · exact Or.inl h
        · refine Or.inr ⟨q, a1, ?_, a3⟩
          by_cases e : q = p + (t + 1)
          · rw [e] at a3; exact absurd a3 c
          · omega
/-! the walk along both lists -/
structure Inv (l : List N) (i : Nat) (opn kids : List Int) : Prop where
  klen : kids.length = l.length
  olen : (opn.length : Int) = if i = 0 then 0 else dep l (i - 1)
  deps : ∀ q, q < i → 1 ≤ dep l q ∧ dep l q ≤ 64
  opens : ∀ j, j < opn.length → ∃ o : Nat, opn[j]? = some (o : Int) ∧ o < i ∧ dep l o = (j : Int) + 1 ∧ (∀ q, o < q → q < i → (j : Int) + 1 < dep l q) ∧ ∃ c : Nat, kids[o]? = some (c : Int) ∧ c ≤ i ∧ (c = 0 ↔ ∀ q, o < q → q < i → dep l q ≠ (j : Int) + 2)
  rest : ∀ q, i ≤ q → q < l.length → kids[q]? = some 0
theorem inv_zero (l : List N) : Inv l 0 [] (List.replicate l.length 0) :=
  ⟨List.length_replicate, rfl, fun q h => by omega, fun j h => by simp at h, fun q _ h => by simp [h]⟩
theorem inv_one (l : List N) (kids : List Int) (h : Inv l 0 [] kids) (h0 : 0 < l.length) (hd : dep l 0 = 1) : Inv l 1 [0] kids := by
  refine ⟨h.klen, ?_, ?_, ?_, fun q a b => h.rest q (by omega) b⟩
  · rw [if_neg (by omega)]; show (1 : Int) = dep l 0; rw [hd]
  · intro q hq
    obtain rfl : q = 0 := by omega
    omega
  · intro j hj
    obtain rfl : j = 0 := by simp at hj; exact hj
    exact ⟨0, rfl, by omega, by rw [hd]; rfl, fun q a b => by omega, 0, h.rest 0 (by omega) h0, by omega, ⟨fun _ q a b => by omega, fun _ => rfl⟩⟩
theorem inv_step (l : List N) (i : Nat) (opn kids : List Int) (h : Inv l i opn kids) (hi : i < l.length) (d : Nat) (hd : dep l i = (d : Int) + 2) (hd64 : d + 2 ≤ 64) (ho : d < opn.length) (o : Nat) (c : Nat)
    (h1 : opn[d]? = some (o : Int)) (h2 : kids[o]? = some (c : Int)) : Inv l (i + 1) (opn.take (d + 1) ++ [(i : Int)]) (kids.set o ((c + 1 : Nat) : Int)) := by
  obtain ⟨o', a1, a2, a3, a4, c', a5, a6, a7⟩ := h.opens d ho
  obtain rfl : o' = o := by rw [h1] at a1; have := Option.some.inj a1; omega
  obtain rfl : c' = c := by rw [h2] at a5; have := Option.some.inj a5; omega
  have tl : (opn.take (d + 1)).length = d + 1 := by rw [List.length_take]; omega
  refine ⟨by rw [List.length_set]; exact h.klen, ?_, ?_, ?_, ?_⟩
  · rw [if_neg (by omega), Nat.add_sub_cancel, hd, List.length_append, tl, List.length_singleton]; omega
  · intro q hq
    by_cases e : q = i
    · subst e; omega
    · exact h.deps q (by omega)
  · intro j hj
    rw [List.length_append, tl, List.length_singleton] at hj
    by_cases e : j = d + 1
    · subst e
      refine ⟨i, ?_, by omega, by rw [hd]; omega, fun q x y => by omega, 0, ?_, by omega, ⟨fun _ q x y => by omega, fun _ => rfl⟩⟩
      · rw [List.getElem?_append_right (by omega), tl, Nat.sub_self]; rfl
      · rw [List.getElem?_set_ne (by omega)]; exact h.rest i (Nat.le_refl _) hi
    · have hjd : j < d + 1 := by omega
      obtain ⟨p, b1, b2, b3, b4, e', b5, b6, b7⟩ := h.opens j (by omega)
      have g : (opn.take (d + 1) ++ [(i : Int)])[j]? = some (p : Int) := by
        rw [List.getElem?_append_left (by omega), List.getElem?_take, if_pos hjd]; exact b1
      by_cases ejd : j = d
      · subst ejd
        obtain rfl : p = o' := by rw [h1] at b1; have := Option.some.inj b1; omega
        refine ⟨p, g, by omega, b3, ?_, c' + 1, ?_, by omega, ?_⟩
        · intro q x y
          by_cases eq : q = i
          · subst eq; omega
          · exact b4 q x (by omega)
        · rw [List.getElem?_set_self (by rw [h.klen]; omega)]
        · exact ⟨fun x => by omega, fun x => absurd hd (x i (by omega) (by omega))⟩
      · refine ⟨p, g, by omega, b3, ?_, e', ?_, by omega, ?_⟩
        · intro q x y
          by_cases eq : q = i
          · subst eq; omega
          · exact b4 q x (by omega)
        · have : p ≠ o' := fun x => by rw [x] at b3; omega
          rw [List.getElem?_set_ne (by omega)]; exact b5
        · refine b7.trans ⟨fun x q y z => ?_, fun x q y z => x q y (by omega)⟩
          by_cases eq : q = i
          · subst eq; omega
          · exact x q y (by omega)
  · intro q x y
    rw [List.getElem?_set_ne (by omega)]; exact h.rest q (by omega) y
/-! what stands behind a Not -/
theorem second_f (l : List N) (i o d c : Nat) (ho : o < i) (hi : i < l.length) (hl : l.length ≤ 1048576) (hd : dep l i = (d : Int) + 2) (hod : dep l o < dep l i) (hb : ∀ q, o < q → q < i → (d : Int) + 1 < dep l q)
    (hc : c = 0 ↔ ∀ q, o < q → q < i → dep l q ≠ (d : Int) + 2) (K : Nat) (hK : i + 1 ≤ K) : ∃ b, rosterref12_second.f K l (i : Int) = some b ∧ (b = true ↔ 1 ≤ c ∧ op l o = 2) := by
  obtain ⟨t, ht⟩ : ∃ t, i - 1 = o + t := ⟨i - 1 - o, by omega⟩
  obtain ⟨b, h1, h2⟩ := second_p l i o ho hi hl hod (fun q x y => by have := hb q x y; omega) t false (K - t - 1) (by omega)
  refine ⟨b, ?_, h2.trans ⟨fun h => ⟨?_, h.2⟩, fun h => ⟨?_, h.2⟩⟩⟩
  · unfold rosterref12_second.f
    rw [show wrap64 ((i : Int) - 1) = ((o + t : Nat) : Int) by unfold wrap64; omega]
    rw [show K - t - 1 + t + 1 = K by omega] at h1
    exact h1
  · rcases h.1 with h | ⟨q, x1, x2, x3⟩
    · cases h
    · have : c ≠ 0 := fun e => hc.1 e q x1 (by omega) (by rw [x3, hd])
      omega
  · refine Or.inr ?_
    refine Classical.byContradiction fun hn => ?_
    have : c = 0 := hc.2 fun q x y e => hn ⟨q, x, by omega, by rw [e, hd]⟩
    omega
theorem tail_eq (n : Int) (i : Nat) (d o dn : Int) (X Y : Option (Int × Int)) (hi : (i : Int) < n) (hn : n ≤ 1048576) (h : ∃ r, X = some r ∧ Y = some r) :
    ∃ r, (if o = 2 then (if wrap64 ((i : Int) + 1) = n then some (120, (i : Int)) else (if 0 ≤ wrap64 ((i : Int) + 1) then (if wrap64 ((i : Int) + 1) < n then (if dn = wrap64 (d + 1) then X else some (120, (i : Int))) else none) else none)) else X) = some r ∧
      (if o = 2 then (if wrap64 ((i : Int) + 1) ≥ n then some (120, (i : Int)) else (if 0 ≤ wrap64 ((i : Int) + 1) then (if wrap64 ((i : Int) + 1) < n then (if dn = wrap64 (d + 1) then Y else some (120, (i : Int))) else none) else none)) else Y) = some r := by
  rw [wr i (by omega)]
  by_cases c : o = 2
  · rw [if_pos c, if_pos c]
    by_cases e : ((i + 1 : Nat) : Int) = n
    · rw [if_pos e, if_pos (by omega)]
      exact ⟨_, rfl, rfl⟩
    · have p0 : (0 : Int) ≤ ((i + 1 : Nat) : Int) := by omega
      have p1 : ((i + 1 : Nat) : Int) < n := by omega
      have p2 : ¬ ((i + 1 : Nat) : Int) ≥ n := by omega
      rw [if_neg e, if_neg p2, if_pos p0, if_pos p1, if_pos p0, if_pos p1]
      by_cases f : dn = wrap64 (d + 1)
      · rw [if_pos f, if_pos f]; exact h
      · rw [if_neg f, if_neg f]; exact ⟨_, rfl, rfl⟩
  · rw [if_neg c, if_neg c]; exact h
/-- Lists whose texts and lists are of a size. -/
structure ok (l : List N) : Prop where
  len : l.length ≤ 1048576
  node : ∀ i, i < l.length → (rd_T38 l (i : Int)).f2.size ≤ 1048576 ∧ (rd_T38 l (i : Int)).f5.size ≤ 1048576 ∧ (rd_T38 l (i : Int)).f4.f1.length ≤ 1048576
set_option maxHeartbeats 1000000 in
theorem chk (l : List N) (hl : ok l) : ∀ (j i : Nat) (opn kids : List Int) (K K' : Nat), i + j = l.length → Inv l i opn kids → 1048600 + 2 * j ≤ K → 1048600 + 2 * j ≤ K' →
    ∃ r, filter_Check.l0 K l opn kids l (l.length : Int) (i : Int) = some r ∧ rosterref12_Check.l0 K' l (i : Int) = some r := by
  intro j
  induction j with
  | zero =>
    intro i opn kids K K' hi hv hK hK'
    obtain ⟨K, rfl⟩ : ∃ q, K = q + 1 := ⟨K - 1, by omega⟩
    obtain ⟨K', rfl⟩ : ∃ q, K' = q + 1 := ⟨K' - 1, by omega⟩
    rw [filter_Check.l0, if_neg (by omega), rosterref12_Check.l0, if_neg (by omega)]
    exact ⟨_, rfl, rfl⟩
  | succ j ih =>
    intro i opn kids K K' hij hv hK hK'
    have hlen := hl.len
    have hi : i < l.length := by omega
    obtain ⟨K, rfl⟩ : ∃ q, K = q + 1 + 1 := ⟨K - 2, by omega⟩
    obtain ⟨K', rfl⟩ : ∃ q, K' = q + 1 + 1 := ⟨K' - 2, by omega⟩
    obtain ⟨n1, n2, n3⟩ := hl.node i hi
    have hf := fol_eq l i hi hlen (fun h => ⟨(hv.deps (i - 1) (by omega)).2, (hv.deps (i - 1) (by omega)).1⟩)
    have g1 : (i : Int) < (l.length : Int) := by omega
    have g0 : (0 : Int) ≤ i := by omega
    have F1 := filter_Check.l0.eq_2 l opn kids l (l.length : Int) (i : Int) (K + 1)
    rw [if_pos g1, if_pos g0, if_pos g1, hf.1, Option.bind_some] at F1
    have R1 := rosterref12_Check.l0.eq_2 l (i : Int) (K' + 1)
    rw [if_pos g1, hf.2, Option.bind_some] at R1
    rw [F1, R1]
    clear F1 R1
    cases hfol : fol l i with
    | false => exact ⟨_, rfl, rfl⟩
    | true =>
      rw [if_pos (rfl : true = true), if_pos (rfl : true = true), if_pos g0]
      by_cases c64 : (rd_T38 l (i : Int)).f0 > 64
      · rw [if_pos c64, if_pos c64]
        exact ⟨_, rfl, rfl⟩
      rw [if_neg c64, if_neg c64, shaped_f _ _ _ _ _ _ _ _ _ n3 n1 n2 (K + 1) (by omega), bsB, fields_f _ _ _ _ _ _ _ _ _ n3 n1 n2 (K' + 1) (by omega), bsB]
      have jt : rosterref12_Check.j1 (K' + 1) l (i : Int) true = some (120, (i : Int)) := by rw [rosterref12_Check.j1, if_pos rfl]
      cases shB (rd_T38 l (i : Int)).f0 (rd_T38 l (i : Int)).f1 (rd_T38 l (i : Int)).f2 (rd_T38 l (i : Int)).f3 (rd_T38 l (i : Int)).f4.f0 (rd_T38 l (i : Int)).f4.f1 (rd_T38 l (i : Int)).f4.f2 (rd_T38 l (i : Int)).f5 (rd_T38 l (i : Int)).f6 with
      | false =>
        rw [if_neg (show ¬ false = true by decide), if_neg (show ¬ false = true by decide), jt]
        exact ⟨_, rfl, rfl⟩
      | true =>
        rw [if_pos (rfl : true = true), if_pos (rfl : true = true)]
        have jf : rosterref12_Check.j1 (K' + 1) l (i : Int) false = (if (rd_T38 l (i : Int)).f1 = 2 then (if wrap64 ((i : Int) + 1) ≥ (l.length : Int) then some (120, (i : Int)) else (if 0 ≤ wrap64 ((i : Int) + 1) then (if wrap64 ((i : Int) + 1) < (l.length : Int) then (if (rd_T38 l (wrap64 ((i : Int) + 1))).f0 = wrap64 ((rd_T38 l (i : Int)).f0 + 1) then rosterref12_Check.l0 K' l (wrap64 ((i : Int) + 1)) else some (120, (i : Int))) else none) else none)) else rosterref12_Check.l0 K' l (wrap64 ((i : Int) + 1))) := by
          rw [rosterref12_Check.j1, if_neg (by decide), if_pos g0, if_pos g1]
        change ¬ dep l i > 64 at c64
        by_cases z : i = 0
        · subst z
          have hd : dep l 0 = 1 := by
            unfold fol at hfol
            rw [if_pos rfl, beq_iff_eq] at hfol
            exact hfol
          have hd' : (rd_T38 l ((0 : Nat) : Int)).f0 = 1 := hd
          have o0 : opn = [] := by
            have := hv.olen
            rw [if_pos rfl] at this
            exact List.length_eq_zero_iff.1 (by omega)
          subst o0
          have s0 : rosterref12_second.f (K' + 1) l ((0 : Nat) : Int) = some false := by
            unfold rosterref12_second.f
            rw [rosterref12_second.l0, show wrap64 (((0 : Nat) : Int) - 1) = -1 by kernel_rfl, if_neg (by decide)]
          rw [s0, bsB, jf, hd', show wrap64 (1 - 1) = 0 by kernel_rfl]
          refine tail_eq (l.length : Int) 0 1 _ _ _ _ (by omega) (by omega) ?_
          rw [wr 0 (by omega)]
          exact ih 1 [0] kids (K + 1) K' (by omega) (inv_one l kids hv hi hd) (by omega) (by omega)
        · have hfl : 2 ≤ dep l i ∧ dep l i ≤ dep l (i - 1) + 1 := by
            unfold fol at hfol
            rw [if_neg z, Bool.and_eq_true, Bool.or_eq_true, Bool.and_eq_true, decide_eq_true_iff, decide_eq_true_iff, decide_eq_true_iff] at hfol
            rcases hfol with ⟨a, b | ⟨b, _⟩⟩
            · exact ⟨a, by omega⟩
            · exact ⟨a, by omega⟩
          have hol := hv.olen
          rw [if_neg z] at hol
          obtain ⟨d, hd⟩ : ∃ d : Nat, dep l i = (d : Int) + 2 := ⟨(dep l i - 2).toNat, by omega⟩
          have hd' : (rd_T38 l (i : Int)).f0 = (d : Int) + 2 := hd
          have hdo : d < opn.length := by omega
          obtain ⟨o, a1, a2, a3, a4, c, a5, a6, a7⟩ := hv.opens d hdo
          have iv := inv_step l i opn kids hv hi d hd (by omega) hdo o c a1 a5
          obtain ⟨b, sb, hb⟩ := second_f l i o d c a2 hi hlen hd (by rw [a3]; omega) a4 a7 (K' + 1) (by omega)
          have hgt : 1 ≤ c → ((c + 1 : Nat) : Int) > 1 := fun x => by omega
          have hgt' : ((c + 1 : Nat) : Int) > 1 → 1 ≤ c := fun x => by omega
          have q4 : (l.length : Int) ≤ 1048576 := by omega
          have q5 : i ≤ 4294967296 := by omega
          have q1 : i + 1 + j = l.length := by omega
          have q2 : 1048600 + 2 * j ≤ K := by omega
          have q3 : 1048600 + 2 * j ≤ K' := by omega
          have hkl := hv.klen
          have hol_ : o < l.length := by omega
          have hok : o < kids.length := by rw [hkl]; exact hol_
          have hci : (c : Int) ≤ i := by omega
          have hdl : d ≤ 1048576 := by omega
          have b4 : (d : Int) + 2 > 1 := by omega
          have e1 : wrap64 (((d : Int) + 2) - 1) = ((d + 1 : Nat) : Int) := by unfold wrap64; omega
          have e2 : wrap64 (((d : Int) + 2) - 2) = (d : Int) := by unfold wrap64; omega
          have tl : (opn.take (d + 1)).length = d + 1 := by rw [List.length_take]; omega
          have ry : rd (opn.take (d + 1) ++ [(i : Int)]) (d : Int) = (o : Int) := by
            unfold rd
            rw [Int.toNat_natCast, List.getD_eq_getElem?_getD, List.getElem?_append_left (by omega), List.getElem?_take, if_pos (by omega), a1]
            rfl
          have rk : rd kids (o : Int) = (c : Int) := by
            unfold rd
            rw [Int.toNat_natCast, List.getD_eq_getElem?_getD, a5]
            rfl
          have ec : wrap64 ((c : Int) + 1) = ((c + 1 : Nat) : Int) := by unfold wrap64; omega
          have rk2 : rd (kids.set o ((c + 1 : Nat) : Int)) (o : Int) = ((c + 1 : Nat) : Int) := by
            unfold rd
            rw [Int.toNat_natCast, List.getD_eq_getElem?_getD, List.getElem?_set_self (by rw [hv.klen]; omega)]
            rfl
          have hop : (rd_T38 l (o : Int)).f1 = op l o := rfl
          have b1 : (0 : Int) ≤ ((d + 1 : Nat) : Int) := Int.natCast_nonneg _
          have b2 : ((d + 1 : Nat) : Int) ≤ opn.length := Int.ofNat_le.2 hdo
          have b3 : (opn.take (d + 1)).length < 17592186044416 := by rw [tl]; exact Nat.lt_of_le_of_lt (Nat.succ_le_succ hdl) (by decide)
          have b5 : (0 : Int) ≤ d := Int.natCast_nonneg _
          have b6 : (d : Int) < ((opn.take (d + 1) ++ [(i : Int)]).length : Int) := by rw [List.length_append, tl, List.length_singleton]; exact Int.ofNat_lt.2 (Nat.lt_succ_of_lt (Nat.lt_succ_self d))
          have b7 : (0 : Int) ≤ o := Int.natCast_nonneg _
          have b8 : (o : Int) < kids.length := Int.ofNat_lt.2 hok
          have b9 : (o : Int) < l.length := Int.ofNat_lt.2 hol_
          rw [sb, bsB, hd', e1, if_pos b1, if_pos b2, bsL, Int.toNat_natCast, if_pos b3, bsL, if_pos b4, e2, if_pos b5, if_pos b6, ry, if_pos b7, if_pos b8, rk, ec, Int.toNat_natCast, bsL, if_pos b9, rk2, hop]
          have fj : ∀ x73 : Bool, filter_Check.j1 (K + 1) l (opn.take (d + 1) ++ [(i : Int)]) (kids.set o ((c + 1 : Nat) : Int)) (i : Int) l (l.length : Int) (i : Int) x73 ((d : Int) + 2) (rd_T38 l (i : Int)).f1 (rd_T38 l (i : Int)).f2 (rd_T38 l (i : Int)).f3 (rd_T38 l (i : Int)).f4.f0 (rd_T38 l (i : Int)).f4.f1 (rd_T38 l (i : Int)).f4.f2 (rd_T38 l (i : Int)).f5 (rd_T38 l (i : Int)).f6 =
              (if x73 = true then some (120, (i : Int)) else (if (rd_T38 l (i : Int)).f1 = 2 then (if wrap64 ((i : Int) + 1) = (l.length : Int) then some (120, (i : Int)) else (if 0 ≤ wrap64 ((i : Int) + 1) then (if wrap64 ((i : Int) + 1) < (l.length : Int) then (if (rd_T38 l (wrap64 ((i : Int) + 1))).f0 = wrap64 (((d : Int) + 2) + 1) then filter_Check.l0 K l (opn.take (d + 1) ++ [(i : Int)]) (kids.set o ((c + 1 : Nat) : Int)) l (l.length : Int) (wrap64 ((i : Int) + 1)) else some (120, (i : Int))) else none) else none)) else filter_Check.l0 K l (opn.take (d + 1) ++ [(i : Int)]) (kids.set o ((c + 1 : Nat) : Int)) l (l.length : Int) (wrap64 ((i : Int) + 1)))) := fun x73 => by
            rw [filter_Check.j1]
          rw [fj, fj]
          have hx : (if op l o = 2 then decide (((c + 1 : Nat) : Int) > 1) else false) = b := by
            cases b with
            | true =>
              have := hb.1 rfl
              rw [if_pos this.2]
              exact decide_eq_true (hgt this.1)
            | false =>
              by_cases e : op l o = 2
              · rw [if_pos e]
                refine decide_eq_false fun x => ?_
                have := hb.2 ⟨hgt' x, e⟩
                cases this
              · rw [if_neg e]
          cases b with
          | true =>
            have e := (hb.1 rfl).2
            rw [if_pos e] at hx
            rw [if_pos e, hx, if_pos (rfl : true = true), jt]
            exact ⟨_, rfl, rfl⟩
          | false =>
            have fin : ∃ r, (if (rd_T38 l (i : Int)).f1 = 2 then (if wrap64 ((i : Int) + 1) = (l.length : Int) then some (120, (i : Int)) else (if 0 ≤ wrap64 ((i : Int) + 1) then (if wrap64 ((i : Int) + 1) < (l.length : Int) then (if (rd_T38 l (wrap64 ((i : Int) + 1))).f0 = wrap64 (((d : Int) + 2) + 1) then filter_Check.l0 K l (opn.take (d + 1) ++ [(i : Int)]) (kids.set o ((c + 1 : Nat) : Int)) l (l.length : Int) (wrap64 ((i : Int) + 1)) else some (120, (i : Int))) else none) else none)) else filter_Check.l0 K l (opn.take (d + 1) ++ [(i : Int)]) (kids.set o ((c + 1 : Nat) : Int)) l (l.length : Int) (wrap64 ((i : Int) + 1))) = some r ∧ rosterref12_Check.j1 (K' + 1) l (i : Int) false = some r := by
              rw [jf, hd']
              refine tail_eq (l.length : Int) i ((d : Int) + 2) _ _ _ _ g1 q4 ?_
              rw [wr i q5]
              exact ih (i + 1) _ _ K K' q1 iv q2 q3
            by_cases e : op l o = 2
            · rw [if_pos e] at hx
              rw [if_pos e, hx, if_neg (show ¬ false = true by decide)]
              exact fin
            · rw [if_neg e, if_neg (show ¬ false = true by decide)]
              exact fin
theorem chk_f (l : List N) (hl : ok l) (K K' : Nat) (hK : 4000000 ≤ K) (hK' : 4000000 ≤ K') : ∃ e a, filter_Check.f K l = some (e, a) ∧ rosterref12_Check.f K' l = some (e, a) := by
  have h1 := hl.len
  unfold filter_Check.f rosterref12_Check.f
  by_cases z : (l.length : Int) = 0
  · rw [if_pos z, if_pos z]
    exact ⟨_, _, rfl, rfl⟩
  · rw [if_neg z, if_neg z, if_pos (by omega), if_pos (by omega), Int.toNat_natCast]
    obtain ⟨⟨e, a⟩, h⟩ := chk l hl l.length 0 [] _ K K' (by omega) (inv_zero l) (by omega) (by omega)
    exact ⟨e, a, h⟩
end Go.Proofs.YtaimjacpenofpaaDoor.Pc
