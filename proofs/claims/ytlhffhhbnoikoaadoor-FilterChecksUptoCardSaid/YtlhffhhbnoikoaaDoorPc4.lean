/- Plain: Depth of both sides; a copy is the list; Equal of a list with itself. -/
import Derived.Test.YtlhffhhbnoikoaaDoorPc3
import Derived.Test.YtlhffhhbnoikoaaDoorGCx10
import Derived.Test.YtlhffhhbnoikoaaDoorGCx10
import Derived.Test.YtlhffhhbnoikoaaDoorGCx1
import Derived.Test.YtlhffhhbnoikoaaDoorGCx12
namespace Go.Proofs.YtlhffhhbnoikoaaDoor.Pc
open Go.RowKit Go.Proofs.YtlhffhhbnoikoaaDoorW.PrintWords Go.Proofs.YtlhffhhbnoikoaaDoorW.PrintLast Go.Proofs.YtlhffhhbnoikoaaDoor.GC
set_option linter.unusedVariables false
set_option linter.unusedSimpArgs false
theorem depth_l (l : List N) (hl : l.length ≤ 1048576) : ∀ (j i : Nat) (acc : Int) (k : Nat), i + j = l.length → ∃ r, filter_Depth.l0 (k + j + 1) acc l (l.length : Int) (i : Int) = some r ∧ rosterref12_Depth.l0 (k + j + 1) l acc (i : Int) = some r := by
  intro j
  induction j with
  | zero =>
    intro i acc k hi
    rw [filter_Depth.l0, rosterref12_Depth.l0, if_neg (by omega), if_neg (by omega)]
    exact ⟨_, rfl, rfl⟩
  | succ j ih =>
    intro i acc k hi
    have g1 : (i : Int) < (l.length : Int) := by omega
    have g0 : (0 : Int) ≤ i := by omega
    rw [show k + (j + 1) + 1 = (k + j + 1) + 1 by omega]
    have F := filter_Depth.l0.eq_2 acc l (l.length : Int) (i : Int) (k + j + 1)
    rw [if_pos g1, if_pos g0, if_pos g1, wr i (by omega)] at F
    have R := rosterref12_Depth.l0.eq_2 l acc (i : Int) (k + j + 1)
    rw [if_pos g1, if_pos g0, wr i (by omega)] at R
    rw [F, R]
    unfold mx
    by_cases c : acc < (rd_T34 l (i : Int)).f0
    · rw [if_pos c, if_pos c]
      exact ih (i + 1) _ k (by omega)
    · rw [if_neg c, if_neg c]
      exact ih (i + 1) _ k (by omega)
theorem depth_f (l : List N) (hl : l.length ≤ 1048576) (k : Nat) (hk : 1048577 ≤ k) : ∃ r, filter_Depth.f k l = some r ∧ rosterref12_Depth.f k l = some r := by
  unfold filter_Depth.f rosterref12_Depth.f
  obtain ⟨q, rfl⟩ : ∃ q, k = q + l.length + 1 := ⟨k - l.length - 1, by omega⟩
  exact depth_l l hl l.length 0 0 q (by omega)
theorem rdN (l : List N) (i : Nat) (h : i < l.length) : rd_T34 l i = l[i] := by simp [rd_T34, h]
theorem cop_l (l : List N) (ho : ok l) : ∀ (j i k : Nat), i + j = l.length → j < k → rosterlaw12_copied.l0 k l (l.take i) i = some l := by
  intro j
  induction j with
  | zero =>
    intro i k hi hk
    obtain ⟨k, rfl⟩ : ∃ q, k = q + 1 := ⟨k - 1, by omega⟩
    unfold rosterlaw12_copied.l0
    rw [if_neg (by omega), List.take_of_length_le (by omega)]
  | succ j ih =>
    intro i k hi hk
    obtain ⟨k, rfl⟩ : ∃ q, k = q + 1 := ⟨k - 1, by omega⟩
    have g0 : i < l.length := by omega
    have hl0 := ho.len
    have hm := (ho.node i g0).2.2
    rw [rdN l i g0] at hm
    have ht : (l.take i).length ≤ 1048576 := by rw [List.length_take]; omega
    unfold rosterlaw12_copied.l0
    rw [if_pos (by omega), if_pos (by omega), Option.bind_some, rdN l i g0, if_pos (by rw [List.length_nil]; omega), if_pos (by omega), wr i (by omega)]
    have e : l.take i ++ [(⟨l[i].f0, l[i].f1, l[i].f2, l[i].f3, (⟨l[i].f4.f0, ([] : List ByteArray) ++ l[i].f4.f1, l[i].f4.f2⟩ : S32), l[i].f5, l[i].f6⟩ : N)] = l.take (i + 1) := by
      rw [List.take_succ_eq_append_getElem g0, List.nil_append]
    rw [e]
    exact ih (i + 1) k (by omega) (by omega)
theorem cop_f (k : Nat) (hk : 1048577 ≤ k) (l : List N) (ho : ok l) : rosterlaw12_copied.f k l = some l := by
  have hl0 := ho.len
  unfold rosterlaw12_copied.f
  exact cop_l l ho l.length 0 k (by omega) (by omega)
theorem sN (a0 a1 : Int) (a2 a3 a4 : ByteArray) (l : List ByteArray) (a6 a7 : ByteArray) (a8 : Bool) (hl : l.length ≤ 1048576) :
    ∀ (j i k : Nat), i + j = l.length → rosterref12_sameNode.l0 (k + j + 1) (i : Int) a0 a1 a2 a3 a4 l a6 a7 a8 a0 a1 a2 a3 a4 l a6 a7 a8 = some true := by
  intro j
  induction j with
  | zero =>
    intro i k hi
    rw [rosterref12_sameNode.l0, if_neg (by omega)]
  | succ j ih =>
    intro i k hi
    rw [show k + (j + 1) + 1 = (k + j + 1) + 1 by omega, rosterref12_sameNode.l0, if_pos (by omega), if_pos (by omega), if_pos (by omega), if_pos rfl, wr i (by omega)]
    exact ih (i + 1) k (by omega)
theorem sameN (a : N) (h : a.f4.f1.length ≤ 1048576) (k : Nat) (hk : 1048580 ≤ k) : rosterref12_sameNode.f k a.f0 a.f1 a.f2 a.f3 a.f4.f0 a.f4.f1 a.f4.f2 a.f5 a.f6 a.f0 a.f1 a.f2 a.f3 a.f4.f0 a.f4.f1 a.f4.f2 a.f5 a.f6 = some true := by
  obtain ⟨q, rfl⟩ : ∃ q, k = q + a.f4.f1.length + 1 + 1 + 1 := ⟨k - a.f4.f1.length - 3, by omega⟩
  unfold rosterref12_sameNode.f
  rw [if_pos rfl, if_pos rfl, if_pos rfl, if_pos rfl, if_pos rfl, rosterref12_sameNode.j0, bne_self_eq_false, if_neg (by decide), if_pos rfl, if_pos rfl, rosterref12_sameNode.j1, bne_self_eq_false, if_neg (by decide)]
  exact sN _ _ _ _ _ _ _ _ _ h a.f4.f1.length 0 q (by omega)
theorem equal_l (l : List N) (ho : ok l) : ∀ (j i k : Nat), i + j = l.length → rosterref12_Equal.l0 (k + 1048600 + j + 1) l l (i : Int) = some true := by
  intro j
  have hl := ho.len
  induction j with
  | zero =>
    intro i k hi
    rw [rosterref12_Equal.l0, if_neg (by omega)]
  | succ j ih =>
    intro i k hi
    rw [show k + 1048600 + (j + 1) + 1 = (k + 1048600 + j + 1) + 1 by omega, rosterref12_Equal.l0, if_pos (by omega), if_pos (by omega), if_pos (by omega), sameN _ (ho.node i (by omega)).2.2 _ (by omega), bsB, if_pos rfl, wr i (by omega)]
    exact ih (i + 1) k (by omega)
theorem same_f (l : List N) (ho : ok l) (k : Nat) (hk : 2097200 ≤ k) : rosterlaw12_same.f k l l = some true := by
  have hl := ho.len
  unfold rosterlaw12_same.f rosterref12_Equal.f
  obtain ⟨q, rfl⟩ : ∃ q, k = q + 1048600 + l.length + 1 := ⟨k - l.length - 1 - 1048600, by omega⟩
  rw [if_pos rfl]
  have h := equal_l l ho l.length 0 q (by omega)
  rw [show ((0 : Nat) : Int) = 0 from rfl] at h
  rw [h]
  rfl
end Go.Proofs.YtlhffhhbnoikoaaDoor.Pc
