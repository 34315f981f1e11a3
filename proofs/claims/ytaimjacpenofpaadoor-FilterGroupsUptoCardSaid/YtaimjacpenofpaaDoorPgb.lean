/- Texts of this session in one: Pc5, Pg -/
import Derived.Test.YtaimjacpenofpaaDoorPca
import Derived.Test.YtaimjacpenofpaaDoorGCx4
import Derived.Test.YtaimjacpenofpaaDoorGCx1
import Derived.Test.YtaimjacpenofpaaDoorGCx13
import Derived.Test.YtaimjacpenofpaaDoorGCx5
import Derived.Test.YtaimjacpenofpaaDoorGCx11
import Derived.Test.YtaimjacpenofpaaDoorGCx4
/-! ## Plain: a copy is the list; Equal of a list with itself. -/
namespace Go.Proofs.YtaimjacpenofpaaDoor.Pc
open Go.RowKit Go.Proofs.YtaimjacpenofpaaDoorW.PrintWords Go.Proofs.YtaimjacpenofpaaDoorW.PrintLast Go.Proofs.YtaimjacpenofpaaDoor.GC
set_option linter.unusedVariables false
set_option linter.unusedSimpArgs false
theorem rdN (l : List N) (i : Nat) (h : i < l.length) : rd_T38 l i = l[i] := by simp [rd_T38, h]
theorem cop_l (l : List N) (ho : ok l) : ∀ (j i k : Nat), i + j = l.length → j < k → rosterlaw12_copied.l0 k l (l.take i) i = some l := by
  intro j
  induction j with
  | zero =>
    intro i k hi hk
    obtain ⟨k, rfl⟩ : ∃ q, k = q + 1 := ⟨k - 1, by omega⟩
    unfold rosterlaw12_copied.l0
    rw [if_neg (by omega), List.take_of_length_le (by omega)]
  | succ j ih =>
    intro i k hi hk
    obtain ⟨k, rfl⟩ : ∃ q, k = q + 1 := ⟨k - 1, by omega⟩
    have g0 : i < l.length := by omega
    have hl0 := ho.len
    have hm := (ho.node i g0).2.2
    rw [rdN l i g0] at hm
    have ht : (l.take i).length ≤ 1048576 := by rw [List.length_take]; omega
    unfold rosterlaw12_copied.l0
    rw [if_pos (by omega), if_pos (by omega), Option.bind_some, rdN l i g0, if_pos (by rw [List.length_nil]; omega), if_pos (by omega), wr i (by omega)]
    have e : l.take i ++ [(⟨l[i].f0, l[i].f1, l[i].f2, l[i].f3, (⟨l[i].f4.f0, ([] : List ByteArray) ++ l[i].f4.f1, l[i].f4.f2⟩ : S36), l[i].f5, l[i].f6⟩ : N)] = l.take (i + 1) := by
      rw [List.take_succ_eq_append_getElem g0, List.nil_append]
    rw [e]
    exact ih (i + 1) k (by omega) (by omega)
theorem cop_f (k : Nat) (hk : 1048577 ≤ k) (l : List N) (ho : ok l) : rosterlaw12_copied.f k l = some l := by
  have hl0 := ho.len
  unfold rosterlaw12_copied.f
  exact cop_l l ho l.length 0 k (by omega) (by omega)
theorem sN (a0 a1 : Int) (a2 a3 a4 : ByteArray) (l : List ByteArray) (a6 a7 : ByteArray) (a8 : Bool) (hl : l.length ≤ 1048576) :
    ∀ (j i k : Nat), i + j = l.length → rosterref12_sameNode.l0 (k + j + 1) (i : Int) a0 a1 a2 a3 a4 l a6 a7 a8 a0 a1 a2 a3 a4 l a6 a7 a8 = some true := by
  intro j
  induction j with
  | zero =>
    intro i k hi
    rw [rosterref12_sameNode.l0, if_neg (by omega)]
  | succ j ih =>
    intro i k hi
    rw [show k + (j + 1) + 1 = (k + j + 1) + 1 by omega, rosterref12_sameNode.l0, if_pos (by omega), if_pos (by omega), if_pos (by omega), if_pos rfl, wr i (by omega)]
    exact ih (i + 1) k (by omega)
theorem sameN (a : N) (h : a.f4.f1.length ≤ 1048576) (k : Nat) (hk : 1048580 ≤ k) : rosterref12_sameNode.f k a.f0 a.f1 a.f2 a.f3 a.f4.f0 a.f4.f1 a.f4.f2 a.f5 a.f6 a.f0 a.f1 a.f2 a.f3 a.f4.f0 a.f4.f1 a.f4.f2 a.f5 a.f6 = some true := by
  obtain ⟨q, rfl⟩ : ∃ q, k = q + a.f4.f1.length + 1 + 1 + 1 := ⟨k - a.f4.f1.length - 3, by omega⟩
  unfold rosterref12_sameNode.f
  rw [if_pos rfl, if_pos rfl, if_pos rfl, if_pos rfl, if_pos rfl, rosterref12_sameNode.j0, bne_self_eq_false, if_neg (by decide), if_pos rfl, if_pos rfl, rosterref12_sameNode.j1, bne_self_eq_false, if_neg (by decide)]
  exact sN _ _ _ _ _ _ _ _ _ h a.f4.f1.length 0 q (by omega)
theorem equal_l (l : List N) (ho : ok l) : ∀ (j i k : Nat), i + j = l.length → rosterref12_Equal.l0 (k + 1048600 + j + 1) l l (i : Int) = some true := by
  intro j
  have hl := ho.len
  induction j with
  | zero =>
    intro i k hi
    rw [rosterref12_Equal.l0, if_neg (by omega)]
  | succ j ih =>
    intro i k hi
    rw [show k + 1048600 + (j + 1) + 1 = (k + 1048600 + j + 1) + 1 by omega, rosterref12_Equal.l0, if_pos (by omega), if_pos (by omega), if_pos (by omega), sameN _ (ho.node i (by omega)).2.2 _ (by omega), bsB, if_pos rfl, wr i (by omega)]
    exact ih (i + 1) k (by omega)
theorem same_f (l : List N) (ho : ok l) (k : Nat) (hk : 2097200 ≤ k) : rosterlaw12_same.f k l l = some true := by
  have hl := ho.len
  unfold rosterlaw12_same.f rosterref12_Equal.f
  obtain ⟨q, rfl⟩ : ∃ q, k = q + 1048600 + l.length + 1 := ⟨k - l.length - 1 - 1048600, by omega⟩
  rw [if_pos rfl]
  have h := equal_l l ho l.length 0 q (by omega)
  rw [show ((0 : Nat) : Int) = 0 from rfl] at h
  rw [h]
  rfl
end Go.Proofs.YtaimjacpenofpaaDoor.Pc

/-! ## Plain: Group of both sides. -/
namespace Go.Proofs.YtaimjacpenofpaaDoor.Pc
open Go.RowKit Go.Proofs.YtaimjacpenofpaaDoorW.PrintWords Go.Proofs.YtaimjacpenofpaaDoorW.PrintLast Go.Proofs.YtaimjacpenofpaaDoor.GC
set_option linter.unusedVariables false
set_option linter.unusedSimpArgs false
theorem wr4 (i : Nat) (h : i ≤ 8388608) : wrap64 ((i : Int) + 1) = ((i + 1 : Nat) : Int) := by unfold wrap64; omega
/-! what a list that Check takes is -/
theorem deps_l (l : List N) (hl : l.length ≤ 1048576) : ∀ (K i : Nat) (a : Int), rosterref12_Check.l0 K l (i : Int) = some (0, a) → ∀ j, i ≤ j → j < l.length → 1 ≤ dep l j ∧ dep l j ≤ 64 := by
  intro K
  induction K using Nat.strongRecOn with
  | ind K ih =>
    intro i a h j hij hj
    obtain _ | K := K
    · rw [rosterref12_Check.l0] at h; cases h
    rw [rosterref12_Check.l0, if_pos (by omega)] at h
    obtain ⟨t, ht, h⟩ := Option.bind_eq_some_iff.1 h
    cases t with
    | false => rw [if_neg (by decide)] at h; cases h
    | true =>
      rw [if_pos rfl, if_pos (by omega)] at h
      by_cases c : (rd_T38 l (i : Int)).f0 > 64
      · rw [if_pos c] at h; cases h
      rw [if_neg c] at h
      have h1 : 1 ≤ dep l i := by
        unfold rosterref12_follows.f at ht
        rw [if_pos ⟨by omega, by omega, by omega⟩] at ht
        have ht := Option.some.inj ht
        by_cases z : (i : Int) = 0
        · rw [if_pos z] at ht
          have := eq_of_beq ht
          unfold dep
          rw [z, this]
          decide
        · rw [if_neg z] at ht
          unfold W.rfolB at ht
          simp only [Bool.and_eq_true, decide_eq_true_eq] at ht
          have := ht.1.1
          unfold dep
          omega
      have h2 : dep l i ≤ 64 := by unfold dep; omega
      obtain ⟨t1, _, h⟩ := Option.bind_eq_some_iff.1 h
      have hJ : ∀ b, rosterref12_Check.j1 K l (i : Int) b = some (0, a) → 1 ≤ dep l j ∧ dep l j ≤ 64 := by
        intro b hb
        by_cases e : j = i
        · subst e; exact ⟨h1, h2⟩
        obtain _ | K := K
        · rw [rosterref12_Check.j1] at hb; cases hb
        rw [rosterref12_Check.j1] at hb
        have hn : ∀ q : Nat, rosterref12_Check.l0 K l (wrap64 ((i : Int) + 1)) = some (0, a) → 1 ≤ dep l j ∧ dep l j ≤ 64 := by
          intro _ hq
          rw [wr i (by omega)] at hq
          exact ih K (by omega) (i + 1) a hq j (by omega) hj
        cases b with
        | true => rw [if_pos rfl] at hb; cases hb
        | false =>
          rw [if_neg (by decide), if_pos (by omega), if_pos (by omega)] at hb
          by_cases c2 : (rd_T38 l (i : Int)).f1 = 2
          · rw [if_pos c2] at hb
            by_cases c3 : wrap64 ((i : Int) + 1) ≥ (l.length : Int)
            · rw [if_pos c3] at hb; cases hb
            rw [if_neg c3] at hb
            by_cases c4 : 0 ≤ wrap64 ((i : Int) + 1)
            · rw [if_pos c4, if_pos (by omega)] at hb
              by_cases c5 : (rd_T38 l (wrap64 ((i : Int) + 1))).f0 = wrap64 ((rd_T38 l (i : Int)).f0 + 1)
              · rw [if_pos c5] at hb; exact hn 0 hb
              · rw [if_neg c5] at hb; cases hb
            · rw [if_neg c4] at hb; cases hb
          · rw [if_neg c2] at hb; exact hn 0 hb
      cases t1 with
      | false => rw [if_neg (by decide)] at h; exact hJ true h
      | true =>
        rw [if_pos rfl] at h
        obtain ⟨t2, _, h⟩ := Option.bind_eq_some_iff.1 h
        exact hJ t2 h
def EA (l : List N) : Int × Int := (rosterref12_Check.f 4000000 l).getD (0, 0)
theorem chkE (l : List N) (ho : ok l) (K : Nat) (hK : 4000000 ≤ K) : filter_Check.f K l = some (EA l) ∧ rosterref12_Check.f K l = some (EA l) := by
  obtain ⟨e, a, h1, h2⟩ := chk_f l ho K 4000000 hK (Nat.le_refl _)
  obtain ⟨e', a', h3, h4⟩ := chk_f l ho 4000000 K (Nat.le_refl _) hK
  obtain ⟨e'', a'', h5, h6⟩ := chk_f l ho 4000000 4000000 (Nat.le_refl _) (Nat.le_refl _)
  have he : EA l = (e, a) := by unfold EA; rw [h2]; rfl
  have h7 : (e'', a'') = (e, a) := Option.some.inj (h6.symm.trans h2)
  have h8 : (e', a') = (e'', a'') := Option.some.inj (h3.symm.trans h5)
  rw [he, h1, h4, h8, h7]
  exact ⟨rfl, rfl⟩
theorem deps (l : List N) (ho : ok l) (h : (EA l).1 = 0) : ∀ x ∈ l, 1 ≤ x.f0 ∧ x.f0 ≤ 64 := by
  intro x hx
  obtain ⟨j, hj, rfl⟩ := List.getElem_of_mem hx
  have hc := (chkE l ho 4000000 (Nat.le_refl _)).2
  have e : EA l = (0, (EA l).2) := by rw [← h]
  rw [e] at hc
  unfold rosterref12_Check.f at hc
  rw [if_neg (by omega)] at hc
  have := deps_l l ho.len 4000000 0 _ hc j (Nat.zero_le _) hj
  unfold dep at this
  rw [rdN l j hj] at this
  exact this
/-! moved, Depth -/
def md (x : N) : N := ⟨x.f0 + 1, x.f1, x.f2, x.f3, x.f4, x.f5, x.f6⟩
theorem mov_l (l : List N) (ho : ok l) (hd : ∀ x ∈ l, 1 ≤ x.f0 ∧ x.f0 ≤ 64) : ∀ (j i k : Nat), i + j = l.length → j < k → rosterref12_moved.l0 k l 1 ((l.take i).map md) i = some (l.map md) := by
  intro j
  have hl := ho.len
  induction j with
  | zero =>
    intro i k hi hk
    obtain ⟨k, rfl⟩ : ∃ q, k = q + 1 := ⟨k - 1, by omega⟩
    rw [rosterref12_moved.l0, if_neg (by omega), List.take_of_length_le (by omega)]
  | succ j ih =>
    intro i k hi hk
    obtain ⟨k, rfl⟩ : ∃ q, k = q + 1 := ⟨k - 1, by omega⟩
    have g0 : i < l.length := by omega
    have hx := hd l[i] (List.getElem_mem _)
    have e : (l.take i).map md ++ [(⟨l[i].f0 + 1, l[i].f1, l[i].f2, l[i].f3, (⟨l[i].f4.f0, l[i].f4.f1, l[i].f4.f2⟩ : S36), l[i].f5, l[i].f6⟩ : N)] = (l.take (i + 1)).map md := by
      rw [List.take_succ_eq_append_getElem g0, List.map_append]
      rfl
    rw [rosterref12_moved.l0, if_pos (by omega), if_pos (by omega), rdN l i g0, if_pos (by rw [List.length_map, List.length_take]; omega), wr i (by omega), show wrap64 (l[i].f0 + 1) = l[i].f0 + 1 by unfold wrap64; omega, e]
    exact ih (i + 1) k (by omega) (by omega)
theorem mov_f (l : List N) (ho : ok l) (hd : ∀ x ∈ l, 1 ≤ x.f0 ∧ x.f0 ≤ 64) (k : Nat) (hk : 1048577 ≤ k) : rosterref12_moved.f k l 1 = some (l.map md) := by
  have hl := ho.len
  unfold rosterref12_moved.f
  exact mov_l l ho hd l.length 0 k (by omega) (by omega)
def deep (l : List N) : Bool := l.any fun x => decide (64 < x.f0)
theorem dep_l (l : List N) (hl : l.length ≤ 4194304) : ∀ (j i k : Nat) (m : Int), i + j = l.length → j < k → ∃ r, rosterref12_Depth.l0 k l m i = some r ∧ (64 < r ↔ 64 < m ∨ deep (l.drop i) = true) := by
  intro j
  induction j with
  | zero =>
    intro i k m hi hk
    obtain ⟨k, rfl⟩ : ∃ q, k = q + 1 := ⟨k - 1, by omega⟩
    refine ⟨m, by rw [rosterref12_Depth.l0, if_neg (by omega)], ?_⟩
    rw [List.drop_eq_nil_of_le (by omega)]
    simp [deep]
  | succ j ih =>
    intro i k m hi hk
    obtain ⟨k, rfl⟩ : ∃ q, k = q + 1 := ⟨k - 1, by omega⟩
    have g0 : i < l.length := by omega
    have ed : deep (l.drop i) = (decide (64 < l[i].f0) || deep (l.drop (i + 1))) := by rw [List.drop_eq_getElem_cons g0]; rfl
    rw [rosterref12_Depth.l0, if_pos (by omega), if_pos (by omega), rdN l i g0, wr4 i (by omega), ed]
    by_cases c : l[i].f0 > m
    · rw [if_pos c]
      obtain ⟨r, h1, h2⟩ := ih (i + 1) k l[i].f0 (by omega) (by omega)
      refine ⟨r, h1, ?_⟩
      rw [h2, Bool.or_eq_true, decide_eq_true_eq]
      constructor
      · rintro (h | h)
        · exact .inr (.inl h)
        · exact .inr (.inr h)
      · rintro (h | h | h)
        · exact .inl (by omega)
        · exact .inl h
        · exact .inr h
    · rw [if_neg c]
      obtain ⟨r, h1, h2⟩ := ih (i + 1) k m (by omega) (by omega)
      refine ⟨r, h1, ?_⟩
      rw [h2, Bool.or_eq_true, decide_eq_true_eq]
      constructor
      · rintro (h | h)
        · exact .inl h
        · exact .inr (.inr h)
      · rintro (h | h | h)
        · exact .inl h
        · exact .inl (by omega)
        · exact .inr h
/-! Group, both sides -/
def errP : List (List N) → Int
  | [] => 0
  | l :: r => if (EA l).1 = 0 then errP r else (EA l).1
def resR : List (List N) → List N → List N × Int
  | [], acc => if deep acc then ([], 121) else (acc, 0)
  | l :: r, acc => if (EA l).1 = 0 then resR r (acc ++ l.map md) else ([], (EA l).1)
def top64 (l : List N) : Bool := l.any fun x => decide (x.f0 = 64)
def outP : List (List N) → List N → List N × Int
  | [], acc => (acc, 0)
  | l :: r, acc => if top64 l then ([], 121) else outP r (acc ++ l.map md)
theorem rdL (ls : List (List N)) (i : Nat) (h : i < ls.length) : rd_L6 ls (i : Int) = ls[i] := by simp [rd_L6, h]
theorem ref_l (ls : List (List N)) (hok : ∀ l ∈ ls, ok l) (hls : ls.length ≤ 3) : ∀ (j i k : Nat) (acc : List N), i + j = ls.length → 8000000 + j < k → acc.length ≤ 1 + i * 1048576 → rosterref12_Group.l0 k ls acc i = some (resR (ls.drop i) acc) := by
  intro j
  induction j with
  | zero =>
    intro i k acc hi hk ha
    obtain ⟨k, rfl⟩ : ∃ q, k = q + 1 := ⟨k - 1, by omega⟩
    rw [rosterref12_Group.l0, if_neg (by omega), List.drop_eq_nil_of_le (by omega)]
    unfold rosterref12_Depth.f
    obtain ⟨r, h1, h2⟩ := dep_l acc (by omega) acc.length 0 k 0 (by omega) (by omega)
    rw [show ((0 : Nat) : Int) = 0 from rfl] at h1
    rw [h1, Option.bind_some]
    rw [List.drop_zero] at h2
    unfold resR
    by_cases c : deep acc = true
    · rw [if_pos (h2.2 (.inr c)), if_pos c]
    · rw [if_neg (fun h => (h2.1 h).elim (by omega) c), if_neg c]
  | succ j ih =>
    intro i k acc hi hk ha
    obtain ⟨k, rfl⟩ : ∃ q, k = q + 1 := ⟨k - 1, by omega⟩
    have g0 : i < ls.length := by omega
    have ho := hok ls[i] (List.getElem_mem _)
    have hl := ho.len
    rw [rosterref12_Group.l0, if_pos (by omega), if_pos (by omega), rdL ls i g0, (chkE ls[i] ho k (by omega)).2, Option.bind_some, List.drop_eq_getElem_cons g0]
    unfold resR
    by_cases c : (EA ls[i]).1 = 0
    · rw [if_pos c, if_pos c, mov_f ls[i] ho (deps ls[i] ho c) k (by omega), Option.bind_some, if_pos (by rw [List.length_map]; omega), wr4 i (by omega)]
      exact ih (i + 1) k _ (by omega) (by omega) (by rw [List.length_append, List.length_map]; omega)
    · rw [if_neg c, if_neg c]
theorem prog_l2 (l : List N) (ho : ok l) (hd : ∀ x ∈ l, 1 ≤ x.f0 ∧ x.f0 ≤ 64) (ls : List (List N)) (n : Int) (q : Int) : ∀ (j i k : Nat) (acc : List N), i + j = l.length → acc.length ≤ 8388608 - j →
    filter_Group.l2 (k + j + 1) acc ls n q l (l.length : Int) i = if top64 (l.drop i) then some ([], 121) else filter_Group.l1 k (acc ++ (l.drop i).map md) ls n (wrap64 (q + 1)) := by
  intro j
  have hl := ho.len
  induction j with
  | zero =>
    intro i k acc hi ha
    rw [filter_Group.l2, if_neg (by omega), List.drop_eq_nil_of_le (by omega), List.map_nil, List.append_nil]
    rfl
  | succ j ih =>
    intro i k acc hi ha
    have g0 : i < l.length := by omega
    have hx := hd l[i] (List.getElem_mem _)
    have hm := (ho.node i g0).2.2
    rw [rdN l i g0] at hm
    have ed : top64 (l.drop i) = (decide (l[i].f0 = 64) || top64 (l.drop (i + 1))) := by rw [List.drop_eq_getElem_cons g0]; rfl
    rw [show k + (j + 1) + 1 = (k + j + 1) + 1 by omega, filter_Group.l2, if_pos (by omega), if_pos (by omega), if_pos (by omega), rdN l i g0, ed]
    by_cases c : l[i].f0 = 64
    · rw [if_pos c, decide_eq_true c]
      rfl
    · rw [if_neg c, decide_eq_false c, Bool.false_or]
      have ec : filter_copied.f l[i].f0 l[i].f1 l[i].f2 l[i].f3 l[i].f4.f0 l[i].f4.f1 l[i].f4.f2 l[i].f5 l[i].f6 (wrap64 (l[i].f0 + 1)) = some (l[i].f0 + 1, l[i].f1, l[i].f2, l[i].f3, l[i].f4.f0, l[i].f4.f1, l[i].f4.f2, l[i].f5, l[i].f6) := by
        unfold filter_copied.f slices_Clone_string_string.f
        rw [if_pos (by omega), Option.bind_some, show wrap64 (l[i].f0 + 1) = l[i].f0 + 1 by unfold wrap64; omega]
      rw [ec, Option.bind_some, if_pos (by omega), wr i (by omega)]
      have e : acc ++ (l.drop i).map md = (acc ++ [md l[i]]) ++ (l.drop (i + 1)).map md := by
        rw [List.drop_eq_getElem_cons g0, List.map_cons, List.append_assoc]
        rfl
      rw [e]
      exact ih (i + 1) k _ (by omega) (by rw [List.length_append, List.length_singleton]; omega)
theorem prog_l1 (ls : List (List N)) (hok : ∀ l ∈ ls, ok l) (hls : ls.length ≤ 3) : ∀ (j i k : Nat) (acc : List N), i + j = ls.length → (∀ l ∈ ls.drop i, (EA l).1 = 0) → 3000000 + j * 1048600 < k → acc.length ≤ 1 + i * 1048576 →
    filter_Group.l1 k acc ls (ls.length : Int) i = some (outP (ls.drop i) acc) := by
  intro j
  induction j with
  | zero =>
    intro i k acc hi he hk ha
    obtain ⟨k, rfl⟩ : ∃ q, k = q + 1 := ⟨k - 1, by omega⟩
    rw [filter_Group.l1, if_neg (by omega), List.drop_eq_nil_of_le (by omega)]
    rfl
  | succ j ih =>
    intro i k acc hi he hk ha
    have g0 : i < ls.length := by omega
    have ho := hok ls[i] (List.getElem_mem _)
    have hl := ho.len
    have hd := deps ls[i] ho (he ls[i] (by rw [List.drop_eq_getElem_cons g0]; exact List.mem_cons_self))
    rw [Nat.succ_mul] at hk
    generalize hJ : j * 1048600 = J at hk
    obtain ⟨q, hq, rfl⟩ : ∃ q, 3000000 + J < q ∧ k = (q + ls[i].length + 1) + 1 := ⟨k - ls[i].length - 2, by omega, by omega⟩
    rw [filter_Group.l1, if_pos (by omega), if_pos (by omega), if_pos (by omega), rdL ls i g0, List.drop_eq_getElem_cons g0]
    have h2 := prog_l2 ls[i] ho hd ls (ls.length : Int) (i : Int) ls[i].length 0 q acc (by omega) (by omega)
    rw [show ((0 : Nat) : Int) = 0 from rfl, List.drop_zero] at h2
    rw [h2]
    unfold outP
    by_cases c : top64 ls[i] = true
    · rw [if_pos c, if_pos c]
    · rw [if_neg c, if_neg c, wr4 i (by omega)]
      exact ih (i + 1) q _ (by omega) (fun l hm => he l (by rw [List.drop_eq_getElem_cons g0]; exact List.mem_cons_of_mem _ hm)) (by rw [hJ]; exact hq) (by rw [List.length_append, List.length_map]; omega)
def headN (o : Int) : N := ⟨1, o, (⟨#[]⟩ : ByteArray), (⟨#[]⟩ : ByteArray), (⟨(⟨#[]⟩ : ByteArray), ([] : List ByteArray), (⟨#[]⟩ : ByteArray)⟩ : S36), (⟨#[]⟩ : ByteArray), false⟩
theorem errP_zero : ∀ (r : List (List N)), errP r = 0 → ∀ l ∈ r, (EA l).1 = 0 := by
  intro r
  induction r with
  | nil => intro _ l hm; cases hm
  | cons x r ih =>
    intro h l hm
    unfold errP at h
    by_cases c : (EA x).1 = 0
    · rw [if_pos c] at h
      rcases List.mem_cons.1 hm with rfl | hm
      · exact c
      · exact ih h l hm
    · rw [if_neg c] at h; exact absurd h c
theorem prog_l0 (o : Int) (ls : List (List N)) (hok : ∀ l ∈ ls, ok l) (hls : ls.length ≤ 3) : ∀ (j i k : Nat), i + j = ls.length → 10000000 + j < k →
    filter_Group.l0 k o ls ls (ls.length : Int) i = (if errP (ls.drop i) = 0 then (if errP ls = 0 then some (outP ls [headN o]) else filter_Group.l0 k o ls ls (ls.length : Int) i) else some ([], errP (ls.drop i))) := by
  intro j
  induction j with
  | zero =>
    intro i k hi hk
    rw [List.drop_eq_nil_of_le (by omega)]
    rw [if_pos (show errP [] = 0 from rfl)]
    by_cases c : errP ls = 0
    · rw [if_pos c]
      obtain ⟨k, rfl⟩ : ∃ q, k = q + 1 := ⟨k - 1, by omega⟩
      rw [filter_Group.l0, if_neg (by omega)]
      have h := prog_l1 ls hok hls ls.length 0 k [headN o] (by omega) (by rw [List.drop_zero]; exact errP_zero ls c) (by omega) (by simp)
      rw [show ((0 : Nat) : Int) = 0 from rfl, List.drop_zero] at h
      exact h
    · rw [if_neg c]
  | succ j ih =>
    intro i k hi hk
    have g0 : i < ls.length := by omega
    have ho := hok ls[i] (List.getElem_mem _)
    obtain ⟨k, rfl⟩ : ∃ q, k = q + 1 := ⟨k - 1, by omega⟩
    have F := filter_Group.l0.eq_2 o ls ls (ls.length : Int) (i : Int) k
    rw [if_pos (by omega), if_pos (by omega), if_pos (by omega), rdL ls i g0, (chkE ls[i] ho k (by omega)).1, Option.bind_some, wr4 i (by omega)] at F
    have ed : errP (ls.drop i) = if (EA ls[i]).1 = 0 then errP (ls.drop (i + 1)) else (EA ls[i]).1 := by rw [List.drop_eq_getElem_cons g0]; rfl
    rw [ed]
    by_cases c : (EA ls[i]).1 = 0
    · rw [if_pos c] at F ⊢
      rw [F]
      exact ih (i + 1) k (by omega) (by omega)
    · rw [if_neg c] at F ⊢
      rw [if_neg c, F]
theorem deep_app (a b : List N) : deep (a ++ b) = (deep a || deep b) := by unfold deep; rw [List.any_append]
theorem deep_md (l : List N) (hd : ∀ x ∈ l, 1 ≤ x.f0 ∧ x.f0 ≤ 64) : deep (l.map md) = top64 l := by
  unfold deep top64
  induction l with
  | nil => rfl
  | cons x r ih =>
    have hx := hd x List.mem_cons_self
    rw [List.map_cons, List.any_cons, List.any_cons, ih (fun y hy => hd y (List.mem_cons_of_mem _ hy))]
    congr 1
    apply decide_eq_decide.2
    show 64 < x.f0 + 1 ↔ x.f0 = 64
    omega
theorem errP_cons (x : List N) (r : List (List N)) : errP (x :: r) = if (EA x).1 = 0 then errP r else (EA x).1 := rfl
theorem resR_cons (x : List N) (r : List (List N)) (acc : List N) : resR (x :: r) acc = if (EA x).1 = 0 then resR r (acc ++ x.map md) else ([], (EA x).1) := rfl
theorem res_err : ∀ (r : List (List N)) (acc : List N), errP r ≠ 0 → resR r acc = ([], errP r) := by
  intro r
  induction r with
  | nil => intro acc h; exact absurd rfl h
  | cons x r ih =>
    intro acc h
    rw [errP_cons] at h ⊢
    rw [resR_cons]
    by_cases c : (EA x).1 = 0
    · rw [if_pos c] at h ⊢
      rw [if_pos c]
      exact ih _ h
    · rw [if_neg c, if_neg c]
theorem res_deep : ∀ (r : List (List N)) (acc : List N), errP r = 0 → deep acc = true → resR r acc = ([], 121) := by
  intro r
  induction r with
  | nil => intro acc _ h; unfold resR; rw [if_pos h]
  | cons x r ih =>
    intro acc h hd
    unfold errP at h
    unfold resR
    by_cases c : (EA x).1 = 0
    · rw [if_pos c] at h ⊢
      exact ih _ h (by rw [deep_app, hd, Bool.true_or])
    · rw [if_neg c] at h; exact absurd h c
theorem res_out : ∀ (r : List (List N)) (acc : List N), (∀ l ∈ r, ok l) → errP r = 0 → deep acc = false → resR r acc = outP r acc := by
  intro r
  induction r with
  | nil => intro acc _ _ h; unfold resR outP; rw [if_neg (by rw [h]; decide)]
  | cons x r ih =>
    intro acc hok h hd
    unfold errP at h
    unfold resR outP
    by_cases c : (EA x).1 = 0
    · rw [if_pos c] at h ⊢
      have e := deep_md x (deps x (hok x List.mem_cons_self) c)
      by_cases t : top64 x = true
      · rw [if_pos t]
        exact res_deep r _ h (by rw [deep_app, e, t, Bool.or_true])
      · rw [if_neg t]
        exact ih _ (fun l hl => hok l (List.mem_cons_of_mem _ hl)) h (by rw [deep_app, e, hd, Bool.false_or]; exact Bool.eq_false_iff.2 t)
    · rw [if_neg c] at h; exact absurd h c
/-- What may come out: at most so many nodes, none with a longer list. -/
def fits (r : List N) : Prop := r.length ≤ 4194304 ∧ ∀ x ∈ r, x.f4.f1.length ≤ 1048576
theorem out_fits : ∀ (r : List (List N)) (acc : List N), (∀ l ∈ r, ok l) → acc.length + r.length * 1048576 ≤ 4194304 → (∀ x ∈ acc, x.f4.f1.length ≤ 1048576) → fits (outP r acc).1 := by
  intro r
  induction r with
  | nil => intro acc _ h1 h2; exact ⟨by show acc.length ≤ 4194304; simp at h1; exact h1, h2⟩
  | cons x r ih =>
    intro acc hok h1 h2
    unfold outP
    by_cases t : top64 x = true
    · rw [if_pos t]; exact ⟨by simp, fun _ h => by cases h⟩
    · rw [if_neg t]
      have ho := hok x List.mem_cons_self
      have hl := ho.len
      rw [List.length_cons] at h1
      refine ih _ (fun l hl => hok l (List.mem_cons_of_mem _ hl)) (by rw [List.length_append, List.length_map]; omega) (fun y hy => ?_)
      rcases List.mem_append.1 hy with hy | hy
      · exact h2 y hy
      · obtain ⟨z, hz, rfl⟩ := List.mem_map.1 hy
        obtain ⟨j, hj, rfl⟩ := List.getElem_of_mem hz
        have := (ho.node j hj).2.2
        rw [rdN x j hj] at this
        exact this
theorem group_f (o : Int) (ls : List (List N)) (hok : ∀ l ∈ ls, ok l) (hls : ls.length ≤ 3) (k : Nat) (hk : 20000000 ≤ k) : ∃ r e, rosterref12_Group.f k o ls = some (r, e) ∧ filter_Group.f k o ls = some (r, e) ∧ fits r := by
  obtain ⟨k, rfl⟩ : ∃ q, k = q + 1 := ⟨k - 1, by omega⟩
  have main : ∀ b, ∃ r e, rosterref12_Group.j0 (k + 1) o ls b = some (r, e) ∧ filter_Group.j0 (k + 1) o ls b = some (r, e) ∧ fits r := by
    intro b
    rw [rosterref12_Group.j0, filter_Group.j0]
    cases b with
    | true => exact ⟨[], 1, by rw [if_pos rfl], by rw [if_pos rfl], by simp, fun _ h => by cases h⟩
    | false =>
      rw [if_neg (by decide), if_neg (by decide)]
      have h1 := ref_l ls hok hls ls.length 0 k [headN o] (by omega) (by omega) (by simp)
      have h2 := prog_l0 o ls hok hls ls.length 0 k (by omega) (by omega)
      rw [show ((0 : Nat) : Int) = 0 from rfl, List.drop_zero] at h1 h2
      have h1' : rosterref12_Group.l0 k ls (([(⟨1, o, (⟨#[]⟩ : ByteArray), (⟨#[]⟩ : ByteArray), (⟨(⟨#[]⟩ : ByteArray), ([] : List ByteArray), (⟨#[]⟩ : ByteArray)⟩ : S36), (⟨#[]⟩ : ByteArray), false⟩ : N)] : List N)) 0 = some (resR ls [headN o]) := h1
      rw [h1', h2]
      by_cases c : errP ls = 0
      · rw [if_pos c, if_pos c, res_out ls [headN o] hok c (by rfl)]
        exact ⟨_, _, rfl, rfl, out_fits ls [headN o] hok (by rw [List.length_singleton]; omega) (fun x hx => by rw [List.mem_singleton.1 hx]; exact Nat.zero_le _)⟩
      · rw [if_neg c, res_err ls _ c]
        exact ⟨[], errP ls, rfl, rfl, by simp, fun _ h => by cases h⟩
  unfold rosterref12_Group.f filter_Group.f
  have hh : rosterref12_holds.f o = some (hB o) := by
    have := holds_f o
    unfold filter_holds.f at this
    unfold rosterref12_holds.f
    exact this
  rw [hh, holds_f, Option.bind_some, Option.bind_some]
  by_cases c : hB o = true
  · rw [if_pos c, if_pos c]
    by_cases c2 : o = 2
    · rw [if_pos c2, if_pos c2]; exact main _
    · rw [if_neg c2, if_neg c2]; exact main _
  · rw [if_neg c, if_neg c]; exact main _
theorem group_none (k : Nat) (hk : 20000000 ≤ k) : filter_Group.f k 1 [] = some ([headN 1], 0) := by
  obtain ⟨k, rfl⟩ : ∃ q, k = q + 1 := ⟨k - 1, by omega⟩
  unfold filter_Group.f
  rw [show filter_holds.f 1 = some true from rfl, Option.bind_some, if_pos rfl, if_neg (by decide), filter_Group.j0, if_neg (by decide)]
  have h2 := prog_l0 1 [] (fun _ h => by cases h) (by simp) 0 0 k rfl (by omega)
  rw [if_pos (show errP (List.drop 0 []) = 0 from rfl), if_pos (show errP [] = 0 from rfl)] at h2
  exact h2
theorem equalG_l (l : List N) (ho : fits l) : ∀ (j i k : Nat), i + j = l.length → rosterref12_Equal.l0 (k + 1048600 + j + 1) l l (i : Int) = some true := by
  intro j
  have hl := ho.1
  induction j with
  | zero =>
    intro i k hi
    rw [rosterref12_Equal.l0, if_neg (by omega)]
  | succ j ih =>
    intro i k hi
    rw [show k + 1048600 + (j + 1) + 1 = (k + 1048600 + j + 1) + 1 by omega, rosterref12_Equal.l0, if_pos (by omega), if_pos (by omega), if_pos (by omega), sameN _ (by rw [rdN l i (by omega)]; exact ho.2 _ (List.getElem_mem _)) _ (by omega), bsB, if_pos rfl, wr4 i (by omega)]
    exact ih (i + 1) k (by omega)
theorem sameG_f (l : List N) (ho : fits l) (k : Nat) (hk : 8000000 ≤ k) : rosterlaw12_same.f k l l = some true := by
  have hl := ho.1
  unfold rosterlaw12_same.f rosterref12_Equal.f
  obtain ⟨q, rfl⟩ : ∃ q, k = q + 1048600 + l.length + 1 := ⟨k - l.length - 1 - 1048600, by omega⟩
  rw [if_pos rfl]
  have h := equalG_l l ho l.length 0 q (by omega)
  rw [show ((0 : Nat) : Int) = 0 from rfl] at h
  rw [h]
  rfl
end Go.Proofs.YtaimjacpenofpaaDoor.Pc
