/- Plain: what a node has: shaped of filter and fields of the document tell the same. -/
import Derived.Test.YtlhffhhbnoikoaaDoorPc1
import Derived.Test.YtlhffhhbnoikoaaDoorGCx5
import Derived.Test.YtlhffhhbnoikoaaDoorGCx8
namespace Go.Proofs.YtlhffhhbnoikoaaDoor.Pc
open Go.RowKit Go.Proofs.YtlhffhhbnoikoaaDoorW.PrintWords Go.Proofs.YtlhffhhbnoikoaaDoor.GC
set_option linter.unusedVariables false
set_option linter.unusedSimpArgs false
theorem wr (i : Nat) (h : i ≤ 4294967296) : wrap64 ((i : Int) + 1) = ((i + 1 : Nat) : Int) := by unfold wrap64; omega
theorem rdS (l : List ByteArray) (i : Nat) (h : i < l.length) : rdOf ByteArray.empty l i = l[i] := by simp [rdOf, h]
def emp (l : List ByteArray) : Bool := l.any fun x => decide (x.toList = [])
def np (a : ByteArray) (l : List ByteArray) (b : ByteArray) : Bool := decide (a.toList = []) && decide (b.toList = []) && decide (l.length = 0)
theorem np_f (a : ByteArray) (l : List ByteArray) (b : ByteArray) : filter_noParts.f a l b = some (np a l b) := by
  unfold filter_noParts.f np
  by_cases c : a.toList = []
  · by_cases d : b.toList = []
    · rw [if_pos c, if_pos d, decide_eq_true c, decide_eq_true d]
      congr 1
      rw [Bool.true_and, Bool.true_and]
      by_cases e : l.length = 0
      · rw [decide_eq_true e, e]; rfl
      · rw [decide_eq_false e, beq_eq_false_iff_ne]; omega
    · rw [if_pos c, if_neg d, decide_eq_false d, Bool.and_false]; rfl
  · rw [if_neg c, decide_eq_false c]; rfl
theorem np_r (a : ByteArray) (l : List ByteArray) (b : ByteArray) : rosterref12_noParts.f a l b = some (np a l b) := by
  have h := np_f a l b
  unfold filter_noParts.f at h
  unfold rosterref12_noParts.f
  exact h
theorem emptyList : ((⟨#[]⟩ : ByteArray)).toList = [] := by
  rw [ByteArray.toList_eq]
theorem index_l (l : List ByteArray) (hl : l.length ≤ 1048576) : ∀ (j i k : Nat), i + j = l.length → ∃ r, slices_Index_string_string.l0 (k + j + 1) l (⟨#[]⟩ : ByteArray) (l.length : Int) i = some r ∧ decide (r ≥ 0) = (l.drop i).any fun x => decide (x.toList = []) := by
  intro j
  induction j with
  | zero =>
    intro i k hi
    refine ⟨-1, ?_, ?_⟩
    · rw [slices_Index_string_string.l0, if_neg (by omega)]
    · rw [List.drop_of_length_le (by omega)]; rfl
  | succ j ih =>
    intro i k hi
    have g : i < l.length := by omega
    rw [show k + (j + 1) + 1 = (k + j + 1) + 1 by omega, slices_Index_string_string.l0, if_pos (by omega), if_pos (by omega), if_pos (by omega), rdS l i g, wr i (by omega), List.drop_eq_getElem_cons g, emptyList]
    by_cases e : l[i].toList = []
    · rw [if_pos e.symm]
      exact ⟨i, rfl, by rw [List.any_cons, decide_eq_true e, Bool.true_or]; exact decide_eq_true (by omega)⟩
    · rw [if_neg (fun x => e x.symm)]
      obtain ⟨r, h1, h2⟩ := ih (i + 1) k (by omega)
      refine ⟨r, h1, ?_⟩
      rw [h2, List.any_cons, decide_eq_false e, Bool.false_or]
theorem contains_f (l : List ByteArray) (hl : l.length ≤ 1048576) (k : Nat) (hk : l.length + 1 ≤ k) : slices_Contains_string_string.f k l (⟨#[]⟩ : ByteArray) = some (emp l) := by
  obtain ⟨q, rfl⟩ : ∃ q, k = q + l.length + 1 := ⟨k - l.length - 1, by omega⟩
  obtain ⟨r, h1, h2⟩ := index_l l hl l.length 0 q (by omega)
  unfold slices_Contains_string_string.f slices_Index_string_string.f
  rw [show ((0 : Nat) : Int) = 0 from rfl] at h1
  rw [h1, Option.bind_some, h2, List.drop_zero]
  rfl
theorem noEmpty_l (a : ByteArray) (l : List ByteArray) (b : ByteArray) (hl : l.length ≤ 1048576) : ∀ (j i k : Nat), i + j = l.length → rosterref12_noEmpty.l0 (k + j + 1) (i : Int) a l b = some (!((l.drop i).any fun x => decide (x.toList = []))) := by
  intro j
  induction j with
  | zero =>
    intro i k hi
    rw [rosterref12_noEmpty.l0, if_neg (by omega), List.drop_of_length_le (by omega)]
    rfl
  | succ j ih =>
    intro i k hi
    have g : i < l.length := by omega
    rw [show k + (j + 1) + 1 = (k + j + 1) + 1 by omega, rosterref12_noEmpty.l0, if_pos (by omega), if_pos (by omega), rdS l i g, wr i (by omega), List.drop_eq_getElem_cons g, List.any_cons]
    by_cases e : l[i].toList = []
    · rw [if_pos e, decide_eq_true e, Bool.true_or]; rfl
    · rw [if_neg e, decide_eq_false e, Bool.false_or]
      exact ih (i + 1) k (by omega)
theorem noEmpty_f (a : ByteArray) (l : List ByteArray) (b : ByteArray) (hl : l.length ≤ 1048576) (k : Nat) (hk : l.length + 1 ≤ k) : rosterref12_noEmpty.f k a l b = some (!emp l) := by
  obtain ⟨q, rfl⟩ : ∃ q, k = q + l.length + 1 := ⟨k - l.length - 1, by omega⟩
  unfold rosterref12_noEmpty.f
  exact noEmpty_l a l b hl l.length 0 q (by omega)
def tailB (x3 x4 : Bool) (op : Int) (d v r : ByteArray) (l : List ByteArray) : Bool :=
  if op = 0 ∨ op = 1 ∨ op = 2 then decide (d.toList = []) && decide (v.toList = []) && !x3 && !x4
  else if op = 7 then decide (v.toList = []) && !x3 && !x4
  else if op = 3 ∨ op = 5 ∨ op = 6 ∨ op = 8 then !x3 && !x4
  else if op = 4 then decide (v.toList = []) && x3 && !x4 && !emp l
  else if op = 9 then !x3 && (!decide (d.toList = []) || !decide (r.toList = []))
  else false
/-- Has the node what its Op asks for? -/
def shB (dep op : Int) (d v i : ByteArray) (l : List ByteArray) (f r : ByteArray) (dn : Bool) : Bool :=
  U d && U r && tailB (!np i l f) (!decide (r.toList = []) || dn) op d v r l
theorem op_cases (op : Int) : op < 0 ∨ 9 < op ∨ op = 0 ∨ op = 1 ∨ op = 2 ∨ op = 3 ∨ op = 4 ∨ op = 5 ∨ op = 6 ∨ op = 7 ∨ op = 8 ∨ op = 9 := by omega
theorem j3_f (x3 x4 b : Bool) (op dep : Int) (d v i : ByteArray) (l : List ByteArray) (f r : ByteArray) (dn : Bool) (hl : l.length ≤ 1048576) (k : Nat) (hk : l.length + 2 ≤ k)
    (hb : b = decide (op = 3 ∨ op = 5 ∨ op = 6 ∨ op = 8)) (h0 : op ≠ 0 ∧ op ≠ 1 ∧ op ≠ 2 ∧ op ≠ 7) : filter_shaped.j3 k x3 x4 op b dep op d v i l f r dn = some (tailB x3 x4 op d v r l) := by
  obtain ⟨k, rfl⟩ : ∃ q, k = q + 1 := ⟨k - 1, by omega⟩
  rw [filter_shaped.j3, contains_f l hl k (by omega)]
  unfold tailB
  rw [if_neg (show ¬ (op = 0 ∨ op = 1 ∨ op = 2) by omega), if_neg (show ¬ op = 7 by omega)]
  by_cases c : op = 3 ∨ op = 5 ∨ op = 6 ∨ op = 8
  · rw [if_pos c, hb, decide_eq_true c, if_pos rfl]
    cases x3 <;> rfl
  rw [if_neg c, hb, decide_eq_false c, if_neg (by decide)]
  by_cases c4 : op = 4
  · rw [if_pos c4, if_pos c4]
    by_cases e : v.toList = []
    · rw [if_pos e, decide_eq_true e]
      cases x3 <;> cases x4 <;> rfl
    · rw [if_neg e, decide_eq_false e]; rfl
  rw [if_neg c4, if_neg c4]
  by_cases c9 : op = 9
  · rw [if_pos c9, if_pos c9]
    cases x3
    · rw [if_neg (by decide)]
      by_cases e : d.toList = []
      · rw [if_pos e, decide_eq_true e]
        by_cases e2 : r.toList = []
        · rw [e2]; rfl
        · rw [decide_eq_false e2, bne_iff_ne.2 e2]; rfl
      · rw [if_neg e, decide_eq_false e]; rfl
    · rfl
  · rw [if_neg c9, if_neg c9]
theorem j1_f (x3 x4 x25 : Bool) (op dep : Int) (d v i : ByteArray) (l : List ByteArray) (f r : ByteArray) (dn : Bool) (hl : l.length ≤ 1048576) (k : Nat) (hk : l.length + 4 ≤ k) :
    filter_shaped.j1 k x3 x4 x25 dep op d v i l f r dn = some (!x25 && tailB x3 x4 op d v r l) := by
  obtain ⟨k, rfl⟩ : ∃ q, k = q + 1 + 1 := ⟨k - 2, by omega⟩
  rw [filter_shaped.j1]
  cases x25
  rotate_left
  · rfl
  rw [if_neg (by decide), Bool.not_false, Bool.true_and]
  have hold : ∀ b, b = decide (op = 0 ∨ op = 1 ∨ op = 2) → filter_shaped.j2 (k + 1) x3 x4 op b dep op d v i l f r dn = some (tailB x3 x4 op d v r l) := by
    intro b hb
    rw [filter_shaped.j2]
    by_cases c : op = 0 ∨ op = 1 ∨ op = 2
    · unfold tailB
      rw [if_pos c, hb, decide_eq_true c, if_pos rfl]
      by_cases e : d.toList = []
      · rw [if_pos e, decide_eq_true e]
        by_cases e2 : v.toList = []
        · rw [if_pos e2, decide_eq_true e2]
          cases x3 <;> rfl
        · rw [if_neg e2, decide_eq_false e2]; rfl
      · rw [if_neg e, decide_eq_false e]; rfl
    rw [hb, decide_eq_false c, if_neg (by decide)]
    by_cases c7 : op = 7
    · unfold tailB
      rw [if_neg c, if_pos c7, if_pos c7]
      by_cases e2 : v.toList = []
      · rw [if_pos e2, decide_eq_true e2]
        cases x3 <;> rfl
      · rw [if_neg e2, decide_eq_false e2]; rfl
    rw [if_neg c7]
    have h3 := fun b hb => j3_f x3 x4 b op dep d v i l f r dn hl k (by omega) hb (by omega)
    by_cases c3 : op = 3
    · rw [if_pos c3]; exact h3 _ (by rw [c3]; rfl)
    rw [if_neg c3]
    by_cases c5 : op = 5
    · rw [if_pos c5]; exact h3 _ (by rw [c5]; rfl)
    rw [if_neg c5]
    by_cases c6 : op = 6
    · rw [if_pos c6]; exact h3 _ (by rw [c6]; rfl)
    rw [if_neg c6]
    refine h3 _ ?_
    by_cases c8 : op = 8
    · rw [c8]; rfl
    · rw [decide_eq_false (by omega), beq_eq_false_iff_ne]; exact c8
  by_cases c0 : op = 0
  · rw [if_pos c0]; exact hold _ (by rw [c0]; rfl)
  rw [if_neg c0]
  by_cases c1 : op = 1
  · rw [if_pos c1]; exact hold _ (by rw [c1]; rfl)
  rw [if_neg c1]
  refine hold _ ?_
  by_cases c2 : op = 2
  · rw [c2]; rfl
  · rw [decide_eq_false (by omega), beq_eq_false_iff_ne]; exact c2
theorem shaped_f (dep op : Int) (d v i : ByteArray) (l : List ByteArray) (f r : ByteArray) (dn : Bool) (hl : l.length ≤ 1048576) (hd : d.size ≤ 1048576) (hr : r.size ≤ 1048576) (k : Nat) (hk : 1048586 ≤ k) :
    filter_shaped.f k dep op d v i l f r dn = some (shB dep op d v i l f r dn) := by
  obtain ⟨k, rfl⟩ : ∃ q, k = q + 1 := ⟨k - 1, by omega⟩
  unfold filter_shaped.f shB
  rw [np_f, Option.bind_some]
  have h0 : ∀ x4, filter_shaped.j0 (k + 1) (!np i l f) x4 dep op d v i l f r dn = some (U d && U r && tailB (!np i l f) x4 op d v r l) := by
    intro x4
    rw [filter_shaped.j0, utf_f d (by omega) k (by omega), Option.bind_some, utf_f r (by omega) k (by omega), Option.bind_some, j1_f _ _ _ _ _ _ _ _ _ _ _ _ hl k (by omega), j1_f _ _ _ _ _ _ _ _ _ _ _ _ hl k (by omega)]
    cases U d
    · rfl
    · rw [if_pos rfl, Bool.not_not, Bool.true_and]
  by_cases e : r.toList = []
  · rw [if_pos e, h0, decide_eq_true e]; rfl
  · rw [if_neg e, h0, decide_eq_false e]; rfl
theorem fj3 (x : Bool) (op dep : Int) (d v i : ByteArray) (l : List ByteArray) (f r : ByteArray) (dn : Bool) (hl : l.length ≤ 1048576) (k : Nat) (hk : l.length + 2 ≤ k) : True := trivial
theorem fields_f (dep op : Int) (d v i : ByteArray) (l : List ByteArray) (f r : ByteArray) (dn : Bool) (hl : l.length ≤ 1048576) (hd : d.size ≤ 1048576) (hr : r.size ≤ 1048576) (k : Nat) (hk : 1048586 ≤ k) :
    rosterref12_fields.f k dep op d v i l f r dn = some (shB dep op d v i l f r dn) := by
  obtain ⟨k, rfl⟩ : ∃ q, k = q + 1 + 1 + 1 + 1 := ⟨k - 4, by omega⟩
  unfold rosterref12_fields.f shB
  rw [isUTF8_f d (by omega), Option.bind_some, isUTF8_f r (by omega), Option.bind_some]
  have hval : ∀ o, rosterref12_valued.f o = some (decide (o = 3 ∨ o = 5 ∨ o = 6 ∨ o = 8)) := fun o => by
    unfold rosterref12_valued.f
    by_cases c3 : o = 3
    · rw [if_pos c3, decide_eq_true (Or.inl c3)]
    rw [if_neg c3]
    by_cases c5 : o = 5
    · rw [if_pos c5, decide_eq_true (Or.inr (Or.inl c5))]
    rw [if_neg c5]
    by_cases c6 : o = 6
    · rw [if_pos c6, decide_eq_true (Or.inr (Or.inr (Or.inl c6)))]
    rw [if_neg c6]
    by_cases c8 : o = 8
    · rw [c8]; rfl
    · rw [decide_eq_false (by omega), beq_eq_false_iff_ne.2 c8]
  have hhold : ∀ o, rosterref12_holds.f o = some (decide (o = 0 ∨ o = 1 ∨ o = 2)) := fun o => by
    unfold rosterref12_holds.f
    by_cases c0 : o = 0
    · rw [if_pos c0, decide_eq_true (Or.inl c0)]
    rw [if_neg c0]
    by_cases c1 : o = 1
    · rw [if_pos c1, decide_eq_true (Or.inr (Or.inl c1))]
    rw [if_neg c1]
    by_cases c2 : o = 2
    · rw [c2]; rfl
    · rw [decide_eq_false (by omega), beq_eq_false_iff_ne.2 c2]
  have t0 : rosterref12_fields.j0 (k + 1 + 1 + 1 + 1) true dep op d v i l f r dn = some false := by rw [rosterref12_fields.j0, if_pos rfl]
  have t1 : rosterref12_fields.j1 (k + 1 + 1 + 1) true dep op d v i l f r dn = some false := by rw [rosterref12_fields.j1, if_pos rfl]
  have t2 : rosterref12_fields.j2 (k + 1 + 1) true dep op d v i l f r dn = some false := by rw [rosterref12_fields.j2, if_pos rfl]
  have t3 : rosterref12_fields.j3 (k + 1) true dep op d v i l f r dn = some false := by rw [rosterref12_fields.j3, if_pos rfl]
  by_cases o0 : op < 0
  · rw [if_pos o0, t0]
    unfold tailB
    rw [if_neg (by omega), if_neg (by omega), if_neg (by omega), if_neg (by omega), if_neg (by omega), Bool.and_false]
  rw [if_neg o0]
  by_cases o9 : op > 9
  · rw [if_pos o9, t0]
    unfold tailB
    rw [if_neg (by omega), if_neg (by omega), if_neg (by omega), if_neg (by omega), if_neg (by omega), Bool.and_false]
  rw [if_neg o9]
  cases U d
  · rw [if_neg (by decide), t0]; rfl
  cases U r
  · rw [if_pos rfl, Bool.not_false, t0]; rfl
  rw [if_pos rfl, Bool.not_true, Bool.true_and, Bool.true_and, rosterref12_fields.j0, if_neg (by decide)]
  have s3 : rosterref12_fields.j3 (k + 1) false dep op d v i l f r dn = some (if op = 0 ∨ op = 1 ∨ op = 2 then decide (d.toList = []) else if op = 4 then !np i l f && !emp l else if op = 9 then (!decide (d.toList = []) || !decide (r.toList = [])) else true) := by
    rw [rosterref12_fields.j3, if_neg (by decide), hhold, Option.bind_some]
    by_cases c : op = 0 ∨ op = 1 ∨ op = 2
    · rw [if_pos c, decide_eq_true c, if_pos rfl]
      congr 1
      cases d.toList <;> rfl
    rw [if_neg c, decide_eq_false c, if_neg (by decide)]
    by_cases c4 : op = 4
    · rw [if_pos c4, if_pos c4, np_r, Option.bind_some, noEmpty_f i l f hl k (by omega), Option.bind_some]
      cases np i l f <;> rfl
    rw [if_neg c4, if_neg c4]
    by_cases c9 : op = 9
    · rw [if_pos c9, if_pos c9]
      by_cases e : d.toList = []
      · rw [if_pos e, decide_eq_true e]
        by_cases e2 : r.toList = []
        · rw [e2]; rfl
        · rw [decide_eq_false e2, bne_iff_ne.2 e2]; rfl
      · rw [if_neg e, decide_eq_false e]; rfl
    · rw [if_neg c9, if_neg c9]
  have s2 : rosterref12_fields.j2 (k + 1 + 1) false dep op d v i l f r dn = some ((decide (op = 3 ∨ op = 5 ∨ op = 6 ∨ op = 8) || decide (op = 9) || decide (v.toList = [])) && (if op = 0 ∨ op = 1 ∨ op = 2 then decide (d.toList = []) else if op = 4 then !np i l f && !emp l else if op = 9 then (!decide (d.toList = []) || !decide (r.toList = [])) else true)) := by
    rw [rosterref12_fields.j2, if_neg (by decide), hval, Option.bind_some]
    by_cases c : op = 3 ∨ op = 5 ∨ op = 6 ∨ op = 8
    · rw [decide_eq_true c, if_pos rfl, s3]; rfl
    rw [decide_eq_false c, if_neg (by decide)]
    by_cases c9 : op = 9
    · rw [if_pos c9, s3, decide_eq_true c9]; rfl
    rw [if_neg c9, decide_eq_false c9]
    by_cases e : v.toList = []
    · rw [e, show (([] : List UInt8) != []) = false from rfl, s3]; rfl
    · rw [bne_iff_ne.2 e, t3, decide_eq_false e]; rfl
  have s1 : rosterref12_fields.j1 (k + 1 + 1 + 1) false dep op d v i l f r dn = some ((decide (op = 4) || np i l f) && ((decide (op = 3 ∨ op = 5 ∨ op = 6 ∨ op = 8) || decide (op = 9) || decide (v.toList = [])) && (if op = 0 ∨ op = 1 ∨ op = 2 then decide (d.toList = []) else if op = 4 then !np i l f && !emp l else if op = 9 then (!decide (d.toList = []) || !decide (r.toList = [])) else true))) := by
    rw [rosterref12_fields.j1, if_neg (by decide)]
    by_cases c4 : op = 4
    · rw [if_pos c4, s2, decide_eq_true c4]; rfl
    rw [if_neg c4, decide_eq_false c4, np_r, Option.bind_some]
    cases hn : np i l f
    · rw [Bool.not_false, t2]; rfl
    · rw [Bool.not_true, s2, hn]; rfl
  have s0 : (if op = 9 then rosterref12_fields.j1 (k + 1 + 1 + 1) false dep op d v i l f r dn else if r.toList = [] then rosterref12_fields.j1 (k + 1 + 1 + 1) dn dep op d v i l f r dn else rosterref12_fields.j1 (k + 1 + 1 + 1) true dep op d v i l f r dn)
      = some ((decide (op = 9) || !(!decide (r.toList = []) || dn)) && ((decide (op = 4) || np i l f) && ((decide (op = 3 ∨ op = 5 ∨ op = 6 ∨ op = 8) || decide (op = 9) || decide (v.toList = [])) && (if op = 0 ∨ op = 1 ∨ op = 2 then decide (d.toList = []) else if op = 4 then !np i l f && !emp l else if op = 9 then (!decide (d.toList = []) || !decide (r.toList = [])) else true)))) := by
    by_cases c9 : op = 9
    · rw [if_pos c9, s1, decide_eq_true c9]; rfl
    rw [if_neg c9]
    by_cases e : r.toList = []
    · rw [if_pos e, e, decide_eq_false c9]
      cases dn
      · rw [s1, decide_eq_false c9]; simp [e]
      · rw [t1]; simp
    · rw [if_neg e, t1, decide_eq_false c9, decide_eq_false e]; rfl
  rw [s0]
  congr 1
  unfold tailB
  generalize (!decide (r.toList = []) || dn) = x4
  generalize np i l f = x3
  generalize emp l = em
  generalize decide (d.toList = []) = d0
  generalize decide (v.toList = []) = v0
  generalize decide (r.toList = []) = r0
  rcases (show op = 0 ∨ op = 1 ∨ op = 2 ∨ op = 3 ∨ op = 4 ∨ op = 5 ∨ op = 6 ∨ op = 7 ∨ op = 8 ∨ op = 9 by omega) with rfl | rfl | rfl | rfl | rfl | rfl | rfl | rfl | rfl | rfl <;> cases x4 <;> cases x3 <;> cases em <;> cases d0 <;> cases v0 <;> cases r0 <;> rfl
end Go.Proofs.YtlhffhhbnoikoaaDoor.Pc
