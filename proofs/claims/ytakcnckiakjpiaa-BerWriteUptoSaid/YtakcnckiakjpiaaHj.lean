/- Plain law of the document's header of an element (no program in sight): its bytes are the first byte and the shortest length. -/
import Derived.Test.YtakcnckiakjpiaaGJx1
import Derived.Test.YtakcnckiakjpiaaMj
namespace Go.Proofs.Ytakcnckiakjpiaa.W
open Go.RowKit Go.Proofs.Ytakcnckiakjpiaa.GJ Go.Proofs.YtakcnckiakjpiaaW.PrintWords
set_option linter.unusedVariables false
set_option linter.unusedSimpArgs false

theorem wr (x : Int) (h0 : 0 ≤ x) (h1 : x < 9223372036854775808) : wrap64 x = x := by unfold wrap64; omega
theorem wr64_sub (x : Int) (h0 : 0 ≤ x) (h1 : x < 9223372036854775808) : wrap64 (x - 1) = x - 1 := by unfold wrap64; omega
theorem tdn (x : Int) (h0 : 0 ≤ x) : Int.tdiv x 256 = x / 256 := Int.tdiv_eq_ediv_of_nonneg h0
theorem tmn (x : Int) (h0 : 0 ≤ x) : Int.tmod x 256 = x % 256 := Int.tmod_eq_emod_of_nonneg h0

theorem l0_more (k : Nat) (n x11 x12 : Int) (x : List Int) (h : x12 ≤ n) (a0 : 0 ≤ x11) (a1 : x11 ≤ 10) (b0 : 0 ≤ x12) (b1 : x12 ≤ 4294967296) :
    rosterref02_header.l0 (k + 1) n x x11 x12 = rosterref02_header.l0 k n x (x11 + 1) (x12 * 256) := by
  rw [rosterref02_header.l0, if_pos h, wr _ (by omega) (by omega), wr _ (by omega) (by omega)]
theorem l0_end (k : Nat) (n x11 x12 : Int) (x : List Int) (h : n < x12) (a0 : 0 ≤ x11) (a1 : x11 ≤ 10) (hx : x.length < 100) :
    rosterref02_header.l0 (k + 1) n x x11 x12 = rosterref02_header.l1 k n (x ++ [128 + x11]) (x11 - 1) := by
  have e : (128 + x11) % 256 = 128 + x11 := by omega
  rw [rosterref02_header.l0, if_neg (by omega), if_pos (by omega), wr _ (by omega) (by omega), wr64_sub x11 (by omega) (by omega), e]
theorem l1_end (k : Nat) (n : Int) (x : List Int) : rosterref02_header.l1 (k + 1) n x (-1) = some x := by
  rw [rosterref02_header.l1, if_neg (by omega)]
theorem l1_in (k : Nat) (n i : Int) (x : List Int) (h : 0 ≤ i) : rosterref02_header.l1 (k + 1) n x i = rosterref02_header.l2 k n x i n 0 := by
  rw [rosterref02_header.l1, if_pos h]
theorem l2_more (k : Nat) (n i y j : Int) (x : List Int) (h : j < i) (hi : i ≤ 10) (hj : 0 ≤ j) (hy : 0 ≤ y) (hy1 : y ≤ 4294967296) :
    rosterref02_header.l2 (k + 1) n x i y j = rosterref02_header.l2 k n x i (y / 256) (j + 1) := by
  rw [rosterref02_header.l2, if_pos h, tdn y hy, wr _ (by omega) (by omega), wr _ (by omega) (by omega)]
theorem l2_end (k : Nat) (n i y : Int) (x : List Int) (hi : 0 ≤ i) (hi1 : i ≤ 10) (hy : 0 ≤ y) (hx : x.length < 100) :
    rosterref02_header.l2 (k + 1) n x i y i = rosterref02_header.l1 k n (x ++ [y % 256]) (i - 1) := by
  have e : y % 256 % 256 = y % 256 := by omega
  rw [rosterref02_header.l2, if_neg (by omega), if_pos (by omega), tmn y hy, e, wr64_sub i (by omega) (by omega)]

theorem l1_0 (k : Nat) (n : Int) (x : List Int) (h0 : 0 ≤ n) (h1 : n ≤ 4294967295) (hx : x.length < 50) : rosterref02_header.l1 (k + 3) n x 0 = some (x ++ [n % 256]) := by
  rw [l1_in _ _ _ _ (by omega), l2_end _ _ _ _ _ (by omega) (by omega) h0 (by omega)]
  exact l1_end _ _ _
theorem l1_1 (k : Nat) (n : Int) (x : List Int) (h0 : 0 ≤ n) (h1 : n ≤ 4294967295) (hx : x.length < 40) : rosterref02_header.l1 (k + 6) n x 1 = some (x ++ [n / 256 % 256, n % 256]) := by
  rw [l1_in _ _ _ _ (by omega), l2_more _ _ _ _ _ _ (by omega) (by omega) (by omega) h0 (by omega)]
  show rosterref02_header.l2 (k + 3 + 1) n x 1 (n / 256) 1 = _
  rw [l2_end _ _ _ _ _ (by omega) (by omega) (by omega) (by omega)]
  show rosterref02_header.l1 (k + 3) n (x ++ [n / 256 % 256]) 0 = _
  rw [l1_0 _ _ _ h0 h1 (by simp; omega)]
  simp
theorem l1_2 (k : Nat) (n : Int) (x : List Int) (h0 : 0 ≤ n) (h1 : n ≤ 4294967295) (hx : x.length < 30) : rosterref02_header.l1 (k + 10) n x 2 = some (x ++ [n / 65536 % 256, n / 256 % 256, n % 256]) := by
  rw [l1_in _ _ _ _ (by omega), l2_more _ _ _ _ _ _ (by omega) (by omega) (by omega) h0 (by omega), l2_more _ _ _ _ _ _ (by omega) (by omega) (by omega) (by omega) (by omega)]
  show rosterref02_header.l2 (k + 6 + 1) n x 2 (n / 256 / 256) 2 = _
  have e : n / 256 / 256 = n / 65536 := by omega
  rw [l2_end _ _ _ _ _ (by omega) (by omega) (by omega) (by omega), e]
  show rosterref02_header.l1 (k + 6) n (x ++ [n / 65536 % 256]) 1 = _
  rw [l1_1 _ _ _ h0 h1 (by simp; omega)]
  simp
theorem l1_3 (k : Nat) (n : Int) (x : List Int) (h0 : 0 ≤ n) (h1 : n ≤ 4294967295) (hx : x.length < 20) : rosterref02_header.l1 (k + 15) n x 3 = some (x ++ [n / 16777216 % 256, n / 65536 % 256, n / 256 % 256, n % 256]) := by
  rw [l1_in _ _ _ _ (by omega), l2_more _ _ _ _ _ _ (by omega) (by omega) (by omega) h0 (by omega), l2_more _ _ _ _ _ _ (by omega) (by omega) (by omega) (by omega) (by omega), l2_more _ _ _ _ _ _ (by omega) (by omega) (by omega) (by omega) (by omega)]
  show rosterref02_header.l2 (k + 10 + 1) n x 3 (n / 256 / 256 / 256) 3 = _
  have e : n / 256 / 256 / 256 = n / 16777216 := by omega
  rw [l2_end _ _ _ _ _ (by omega) (by omega) (by omega) (by omega), e]
  show rosterref02_header.l1 (k + 10) n (x ++ [n / 16777216 % 256]) 2 = _
  rw [l1_2 _ _ _ h0 h1 (by simp; omega)]
  simp

theorem header_j0 (n t : Int) (h0 : 0 ≤ n) (h1 : n ≤ 4294967295) (t0 : 0 ≤ t) (t1 : t < 256) : rosterref02_header.j0 40 n t = some (t :: lenNums n) := by
  have tt : t % 256 = t := by omega
  rw [rosterref02_header.j0]
  show (if n < 128 then (if [t % 256].length < 140737488355328 then some ([t % 256] ++ [n % 256]) else none) else rosterref02_header.l0 39 n [t % 256] 1 256) = _
  rw [tt]
  unfold lenNums
  by_cases c1 : n < 128
  · have e : n % 256 = n := by omega
    rw [if_pos c1, if_pos c1, if_pos (by simp), e]
    rfl
  rw [if_neg c1, if_neg c1]
  by_cases c2 : n < 256
  · have e : n % 256 = n := by omega
    rw [if_pos c2, l0_end 38 _ _ _ _ c2 (by omega) (by omega) (by simp)]
    show rosterref02_header.l1 (35 + 3) n _ 0 = _
    rw [l1_0 _ _ _ h0 h1 (by simp), e]
    rfl
  rw [if_neg c2, l0_more 38 _ _ _ _ (by omega) (by omega) (by omega) (by omega) (by omega)]
  by_cases c3 : n < 65536
  · have e : n / 256 % 256 = n / 256 := by omega
    rw [if_pos c3, l0_end 37 _ _ _ _ (by omega) (by omega) (by omega) (by simp)]
    show rosterref02_header.l1 (31 + 6) n _ 1 = _
    rw [l1_1 _ _ _ h0 h1 (by simp), e]
    rfl
  rw [if_neg c3, l0_more 37 _ _ _ _ (by omega) (by omega) (by omega) (by omega) (by omega)]
  by_cases c4 : n < 16777216
  · have e : n / 65536 % 256 = n / 65536 := by omega
    rw [if_pos c4, l0_end 36 _ _ _ _ (by omega) (by omega) (by omega) (by simp)]
    show rosterref02_header.l1 (26 + 10) n _ 2 = _
    rw [l1_2 _ _ _ h0 h1 (by simp), e]
    rfl
  rw [if_neg c4, l0_more 36 _ _ _ _ (by omega) (by omega) (by omega) (by omega) (by omega)]
  have e : n / 16777216 % 256 = n / 16777216 := by omega
  rw [l0_end 35 _ _ _ _ (by omega) (by omega) (by omega) (by simp)]
  show rosterref02_header.l1 (20 + 15) n _ 3 = _
  rw [l1_3 _ _ _ h0 h1 (by simp), e]
  rfl

/-- THE DOCUMENT'S HEADER of an element with a class, a tag and a length that may be written. -/
theorem header_f (cls tag n : Int) (made : Bool) (c0 : 0 ≤ cls) (c1 : cls ≤ 3) (g0 : 0 ≤ tag) (g1 : tag ≤ 30) (h0 : 0 ≤ n) (h1 : n ≤ 4294967295) :
    rosterref02_header.f 40 cls made tag n = some (firstOf cls made tag :: lenNums n) := by
  rw [rosterref02_header.f, first_eq c0 c1 g0 (by omega)]
  cases made with
  | true =>
    rw [if_pos rfl, if_pos rfl, wr (cls * 64) (by omega) (by omega), wr (cls * 64 + tag) (by omega) (by omega), wr (cls * 64 + tag + 32) (by omega) (by omega)]
    exact header_j0 n _ h0 h1 (by omega) (by omega)
  | false =>
    rw [if_neg (by simp), if_neg (by simp), wr (cls * 64) (by omega) (by omega), wr (cls * 64 + tag) (by omega) (by omega), Int.add_zero]
    exact header_j0 n _ h0 h1 (by omega) (by omega)
end Go.Proofs.Ytakcnckiakjpiaa.W
