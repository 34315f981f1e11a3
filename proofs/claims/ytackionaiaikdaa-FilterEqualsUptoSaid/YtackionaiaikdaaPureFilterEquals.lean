/- The statement FilterEquals, as its row takes it: over the kinds of its parameters; the plain law. -/
import Derived.Test.YtackionaiaikdaaTyFilterEquals
import Derived.Test.YtackionaiaikdaaGQx
namespace Go.Proofs.Ytackionaiaikdaa.Pure
open Go.ChangeShapes Go.WideShapes Go.ChangeAt Go.RowKit Go.Proofs.YtackionaiaikdaaW.PrintWords Go.Proofs.Ytackionaiaikdaa.GQ
set_option linter.unusedVariables false
set_option linter.unusedSimpArgs false
abbrev N := S31
theorem dn_inj {a b : N} : filter_Equal.dn a = filter_Equal.dn b ↔ a = b := by
  constructor
  · obtain ⟨a0, a1, a2, a3, ⟨a4, a5, a6⟩, a7, a8⟩ := a
    obtain ⟨b0, b1, b2, b3, ⟨b4, b5, b6⟩, b7, b8⟩ := b
    simp only [filter_Equal.dn, filter_Equal.dp, GE.S31.mk.injEq, GE.S29.mk.injEq, S31.mk.injEq, S29.mk.injEq]
    exact id
  · rintro rfl; rfl
theorem map_inj {l l' : List N} : l.map filter_Equal.dn = l'.map filter_Equal.dn ↔ l = l' := by
  constructor
  · intro h
    have hl : l.length = l'.length := by simpa using congrArg List.length h
    refine List.ext_getElem hl fun i h1 h2 => ?_
    have := congrArg (fun x => x[i]?) h
    simp only [List.getElem?_map, List.getElem?_eq_getElem h1, List.getElem?_eq_getElem h2, Option.map_some, Option.some.injEq] at this
    exact dn_inj.1 this
  · rintro rfl; rfl
def ok (l : List N) : Prop := l.length ≤ 1048576 ∧ ∀ a ∈ l, a.f4.f1.length ≤ 1048576
theorem eq_f (l l' : List N) (h : ok l) : ∃ r, filter_Equal.f l l' = some r ∧ (r = true ↔ l = l') := by
  refine ⟨decide (l.map filter_Equal.dn = l'.map filter_Equal.dn), ?_, ?_⟩
  · unfold filter_Equal.f
    rw [if_pos ⟨h.1, List.all_eq_true.2 fun a ha => decide_eq_true (h.2 a ha)⟩]
  · rw [decide_eq_true_iff, map_inj]

theorem sN (a0 a1 : Int) (a2 a3 a4 : ByteArray) (l : List ByteArray) (a6 a7 : ByteArray) (a8 : Bool) (b0 b1 : Int) (b2 b3 b4 : ByteArray) (l' : List ByteArray) (b6 b7 : ByteArray) (b8 : Bool) (h : l.length = l'.length) (hl : l.length ≤ 1048576) :
    ∀ (j i k : Nat), i + j = l.length → j < k → ∃ r, rosterref12_sameNode.l0 k (i : Int) a0 a1 a2 a3 a4 l a6 a7 a8 b0 b1 b2 b3 b4 l' b6 b7 b8 = some r ∧ (r = true ↔ l.drop i = l'.drop i) := by
  intro j
  induction j with
  | zero =>
    intro i k hi hk
    obtain ⟨k, rfl⟩ : ∃ q, k = q + 1 := ⟨k - 1, by omega⟩
    refine ⟨true, ?_, ?_⟩
    · rw [rosterref12_sameNode.l0, if_neg (by omega)]
    · rw [List.drop_of_length_le (by omega), List.drop_of_length_le (by omega)]
      exact ⟨fun _ => rfl, fun _ => rfl⟩
  | succ j ih =>
    intro i k hi hk
    obtain ⟨k, rfl⟩ : ∃ q, k = q + 1 := ⟨k - 1, by omega⟩
    have g0 : i < l.length := by omega
    have g1 : i < l'.length := by omega
    rw [rosterref12_sameNode.l0, if_pos (by omega), if_pos (by omega), if_pos (by omega), W.q_rd _ _ _ g0, W.q_rd _ _ _ g1, List.drop_eq_getElem_cons g0, List.drop_eq_getElem_cons g1]
    by_cases e : l[i].toList = l'[i].toList
    · rw [if_pos e, W.q_wrap i (by omega)]
      obtain ⟨r, hr, hq⟩ := ih (i + 1) k (by omega) (by omega)
      refine ⟨r, hr, hq.trans ?_⟩
      rw [W.q_toList.1 e]
      exact ⟨fun h => by rw [h], fun h => (List.cons.inj h).2⟩
    · rw [if_neg e]
      refine ⟨false, rfl, ⟨fun h => (by cases h), fun h => absurd ((List.cons.inj h).1) (fun x => e (W.q_toList.2 x))⟩⟩
theorem no {P : Prop} (h : ¬ P) : ∃ r, (some false = some r) ∧ (r = true ↔ P) := ⟨false, rfl, ⟨fun x => (by cases x), fun x => absurd x h⟩⟩
theorem j0_t (k : Nat) (a0 a1 : Int) (a2 a3 a4 : ByteArray) (l : List ByteArray) (a6 a7 : ByteArray) (a8 : Bool) (b0 b1 : Int) (b2 b3 b4 : ByteArray) (l' : List ByteArray) (b6 b7 : ByteArray) (b8 : Bool) :
    rosterref12_sameNode.j0 (k + 1) true a0 a1 a2 a3 a4 l a6 a7 a8 b0 b1 b2 b3 b4 l' b6 b7 b8 = some false := by
  rw [rosterref12_sameNode.j0, if_pos rfl]
theorem j1_t (k : Nat) (a0 a1 : Int) (a2 a3 a4 : ByteArray) (l : List ByteArray) (a6 a7 : ByteArray) (a8 : Bool) (b0 b1 : Int) (b2 b3 b4 : ByteArray) (l' : List ByteArray) (b6 b7 : ByteArray) (b8 : Bool) :
    rosterref12_sameNode.j1 (k + 1) true a0 a1 a2 a3 a4 l a6 a7 a8 b0 b1 b2 b3 b4 l' b6 b7 b8 = some false := by
  rw [rosterref12_sameNode.j1, if_pos rfl]
def same (k : Nat) (a b : N) : Option Bool := rosterref12_sameNode.f k a.f0 a.f1 a.f2 a.f3 a.f4.f0 a.f4.f1 a.f4.f2 a.f5 a.f6 b.f0 b.f1 b.f2 b.f3 b.f4.f0 b.f4.f1 b.f4.f2 b.f5 b.f6
theorem sameN (k : Nat) (hk : 1048580 ≤ k) (a b : N) (h : a.f4.f1.length ≤ 1048576) : ∃ r, same k a b = some r ∧ (r = true ↔ a = b) := by
  obtain ⟨k, rfl⟩ : ∃ q, k = q + 1 + 1 := ⟨k - 2, by omega⟩
  obtain ⟨a0, a1, a2, a3, ⟨a4, a5, a6⟩, a7, a8⟩ := a
  obtain ⟨b0, b1, b2, b3, ⟨b4, b5, b6⟩, b7, b8⟩ := b
  have key : (⟨a0, a1, a2, a3, ⟨a4, a5, a6⟩, a7, a8⟩ : N) = ⟨b0, b1, b2, b3, ⟨b4, b5, b6⟩, b7, b8⟩ ↔ (a0 = b0 ∧ a1 = b1 ∧ a2 = b2 ∧ a3 = b3 ∧ a7 = b7 ∧ a8 = b8 ∧ a4 = b4 ∧ a6 = b6 ∧ a5 = b5) := by
    simp only [S31.mk.injEq, S29.mk.injEq]
    constructor
    · rintro ⟨h0, h1, h2, h3, ⟨h4, h5, h6⟩, h7, h8⟩
      exact ⟨h0, h1, h2, h3, h7, h8, h4, h6, h5⟩
    · rintro ⟨h0, h1, h2, h3, h7, h8, h4, h6, h5⟩
      exact ⟨h0, h1, h2, h3, ⟨h4, h5, h6⟩, h7, h8⟩
  rw [key]
  dsimp only [same]
  unfold rosterref12_sameNode.f
  simp only [j0_t]
  by_cases e0 : a0 = b0
  rotate_left
  · rw [if_neg e0]; exact no (fun x => e0 x.1)
  rw [if_pos e0]
  by_cases e1 : a1 = b1
  rotate_left
  · rw [if_neg e1]; exact no (fun x => e1 x.2.1)
  rw [if_pos e1]
  by_cases e2 : a2.toList = b2.toList
  rotate_left
  · rw [if_neg e2]; exact no (fun x => e2 (W.q_toList.2 x.2.2.1))
  rw [if_pos e2]
  by_cases e3 : a3.toList = b3.toList
  rotate_left
  · rw [if_neg e3]; exact no (fun x => e3 (W.q_toList.2 x.2.2.2.1))
  rw [if_pos e3]
  by_cases e7 : a7.toList = b7.toList
  rotate_left
  · rw [if_neg e7]; exact no (fun x => e7 (W.q_toList.2 x.2.2.2.2.1))
  rw [if_pos e7]
  rw [rosterref12_sameNode.j0]
  by_cases e8 : a8 = b8
  rotate_left
  · rw [if_pos (by rw [bne_iff_ne]; exact e8)]; exact no (fun x => e8 x.2.2.2.2.2.1)
  rw [if_neg (by rw [bne_iff_ne]; exact fun x => x e8)]
  simp only [j1_t]
  by_cases e4 : a4.toList = b4.toList
  rotate_left
  · rw [if_neg e4]; exact no (fun x => e4 (W.q_toList.2 x.2.2.2.2.2.2.1))
  rw [if_pos e4]
  by_cases e6 : a6.toList = b6.toList
  rotate_left
  · rw [if_neg e6]; exact no (fun x => e6 (W.q_toList.2 x.2.2.2.2.2.2.2.1))
  rw [if_pos e6]
  rw [rosterref12_sameNode.j1]
  by_cases e5 : a5.length = b5.length
  rotate_left
  · rw [if_pos (by rw [bne_iff_ne]; omega)]; exact no (fun x => e5 (congrArg List.length x.2.2.2.2.2.2.2.2))
  rw [if_neg (by rw [bne_iff_ne]; omega)]
  obtain ⟨r, hr, hq⟩ := sN a0 a1 a2 a3 a4 a5 a6 a7 a8 b0 b1 b2 b3 b4 b5 b6 b7 b8 e5 h a5.length 0 (k) (by omega) (by dsimp only at h; omega)
  refine ⟨r, hr, hq.trans ⟨fun h5 => ⟨e0, e1, W.q_toList.1 e2, W.q_toList.1 e3, W.q_toList.1 e7, e8, W.q_toList.1 e4, W.q_toList.1 e6, h5⟩, fun x => x.2.2.2.2.2.2.2.2⟩⟩

theorem rd (l : List N) (i : Nat) (h : i < l.length) : rd_T31 l i = l[i] := by simp [rd_T31, h]
theorem ref_l (l l' : List N) (hl : l.length = l'.length) (ho : ok l) :
    ∀ (j i k : Nat), i + j = l.length → j + 1048580 < k → ∃ r, rosterref12_Equal.l0 k l l' i = some r ∧ (r = true ↔ l.drop i = l'.drop i) := by
  intro j
  induction j with
  | zero =>
    intro i k hi hk
    obtain ⟨k, rfl⟩ : ∃ q, k = q + 1 := ⟨k - 1, by omega⟩
    refine ⟨true, ?_, ?_⟩
    · unfold rosterref12_Equal.l0
      rw [if_neg (by omega)]
    · rw [List.drop_of_length_le (by omega), List.drop_of_length_le (by omega)]
      exact ⟨fun _ => rfl, fun _ => rfl⟩
  | succ j ih =>
    intro i k hi hk
    obtain ⟨k, rfl⟩ : ∃ q, k = q + 1 := ⟨k - 1, by omega⟩
    have g0 : i < l.length := by omega
    have g1 : i < l'.length := by omega
    have hl0 := ho.1
    unfold rosterref12_Equal.l0
    rw [if_pos (by omega), if_pos (by omega), if_pos (by omega), rd l i g0, rd l' i g1, List.drop_eq_getElem_cons g0, List.drop_eq_getElem_cons g1]
    obtain ⟨r, h1, h2⟩ := sameN k (by omega) l[i] l'[i] (ho.2 _ (List.getElem_mem _))
    unfold same at h1
    rw [h1, Option.bind_some]
    cases r with
    | true =>
      rw [if_pos rfl, W.q_wrap i (by omega)]
      obtain ⟨r, hr, hq⟩ := ih (i + 1) k (by omega) (by omega)
      refine ⟨r, hr, hq.trans ?_⟩
      rw [h2.1 rfl]
      exact ⟨fun h => by rw [h], fun h => (List.cons.inj h).2⟩
    | false =>
      rw [if_neg (by decide)]
      exact no (fun h => by have := h2.2 (List.cons.inj h).1; cases this)
theorem ref_f (k : Nat) (hk : 2097160 ≤ k) (l l' : List N) (ho : ok l) : ∃ r, rosterref12_Equal.f k l l' = some r ∧ (r = true ↔ l = l') := by
  have hl0 := ho.1
  unfold rosterref12_Equal.f
  by_cases h : l.length = l'.length
  · rw [if_pos (by omega)]
    exact ref_l l l' h ho l.length 0 k (by omega) (by omega)
  · rw [if_neg (by omega)]
    exact no (fun x => h (congrArg List.length x))
theorem cop_l (l : List N) (ho : ok l) : ∀ (j i k : Nat), i + j = l.length → j < k → rosterlaw12_copied.l0 k l (l.take i) i = some l := by
  intro j
  induction j with
  | zero =>
    intro i k hi hk
    obtain ⟨k, rfl⟩ : ∃ q, k = q + 1 := ⟨k - 1, by omega⟩
    unfold rosterlaw12_copied.l0
    rw [if_neg (by omega), List.take_of_length_le (by omega)]
  | succ j ih =>
    intro i k hi hk
    obtain ⟨k, rfl⟩ : ∃ q, k = q + 1 := ⟨k - 1, by omega⟩
    have g0 : i < l.length := by omega
    have hl0 := ho.1
    have hm := ho.2 l[i] (List.getElem_mem _)
    have ht : (l.take i).length ≤ 1048576 := by rw [List.length_take]; omega
    unfold rosterlaw12_copied.l0
    rw [if_pos (by omega), if_pos (by omega), Option.bind_some, rd l i g0, if_pos (by rw [List.length_nil]; omega), if_pos (by omega), W.q_wrap i (by omega)]
    have e : l.take i ++ [(⟨l[i].f0, l[i].f1, l[i].f2, l[i].f3, (⟨l[i].f4.f0, ([] : List ByteArray) ++ l[i].f4.f1, l[i].f4.f2⟩ : S29), l[i].f5, l[i].f6⟩ : N)] = l.take (i + 1) := by
      rw [List.take_succ_eq_append_getElem g0, List.nil_append]
    rw [e]
    exact ih (i + 1) k (by omega) (by omega)
theorem cop_f (k : Nat) (hk : 1048577 ≤ k) (l : List N) (ho : ok l) : rosterlaw12_copied.f k l = some l := by
  have hl0 := ho.1
  unfold rosterlaw12_copied.f
  exact cop_l l ho l.length 0 k (by omega) (by omega)
theorem law (l l' : List N) (h : ok l) (h' : ok l') : ∃ k, rosterlaw12_FilterEquals.f k l l' = some true := by
  obtain ⟨k, hk⟩ : ∃ k : Nat, k = 3000000 := ⟨_, rfl⟩
  refine ⟨k + 1, ?_⟩
  have hl0 := h.1
  obtain ⟨r1, f1, q1⟩ := eq_f l l' h
  obtain ⟨r2, f2, q2⟩ := ref_f (k + 1) (by omega) l l' h
  obtain ⟨r3, f3, q3⟩ := eq_f l' l h'
  obtain ⟨r5, f5, q5⟩ := eq_f l l h
  obtain ⟨r6, f6, q6⟩ := eq_f l' l' h'
  obtain rfl : r5 = true := q5.2 rfl
  obtain rfl : r6 = true := q6.2 rfl
  have e12 : r1 = r2 := Bool.eq_iff_iff.2 (q1.trans q2.symm)
  have e32 : r3 = r2 := Bool.eq_iff_iff.2 (q3.trans (Iff.trans ⟨Eq.symm, Eq.symm⟩ q2.symm))
  subst e12
  subst e32
  unfold rosterlaw12_FilterEquals.f
  rw [f1, Option.bind_some, f2, Option.bind_some, if_neg (by simp), f3, Option.bind_some, Option.bind_some, bne_self_eq_false]
  rw [rosterlaw12_FilterEquals.j0, if_neg (by decide), cop_f k (by omega) l h, Option.bind_some, f5, Option.bind_some, if_pos rfl, cop_f k (by omega) l' h', Option.bind_some, f6, Option.bind_some, if_pos rfl, Option.bind_some, if_pos (by omega)]
  obtain ⟨r7, f7, q7⟩ := eq_f l (l ++ [(⟨0, 0, (⟨#[]⟩ : ByteArray), (⟨#[]⟩ : ByteArray), (⟨(⟨#[]⟩ : ByteArray), ([] : List ByteArray), (⟨#[]⟩ : ByteArray)⟩ : S29), (⟨#[]⟩ : ByteArray), false⟩ : N)]) h
  rw [f7, Option.bind_some]
  cases r7 with
  | false => rfl
  | true =>
    have := congrArg List.length (q7.1 rfl)
    rw [List.length_append, List.length_singleton] at this
    omega
/-! the row's kinds -/
abbrev TN := TyFilterEquals.T31
def up (x : TN) : N := ⟨x.1, x.2.1, x.2.2.1, x.2.2.2.1, ⟨x.2.2.2.2.1.1, x.2.2.2.2.1.2.1, x.2.2.2.2.1.2.2⟩, x.2.2.2.2.2.1, x.2.2.2.2.2.2⟩
theorem up_C {w : World} {A : Option Addr} {n : Nat} {xs : List TN} (h : Kd.C TyFilterEquals.k31 w A n xs) : Kd.C k31 w A n (xs.map up) := by
  obtain ⟨h1, h2, h3⟩ := h
  refine ⟨by rw [List.length_map]; exact h1, h2, fun hn => ?_⟩
  obtain ⟨ad, e, hc⟩ := h3 hn
  refine ⟨ad, e, fun j p hj => ?_⟩
  rw [List.getElem?_map] at hj
  obtain ⟨q, hq, rfl⟩ := Option.map_eq_some_iff.1 hj
  obtain ⟨c, g1, g2, g3⟩ := hc j q hq
  exact ⟨c, g1, g2, g3⟩
theorem sum_len {α : Type} (l : List α) (f : α → Nat) (hf : ∀ x, 1 ≤ f x) : l.length ≤ (l.map f).sum := by
  induction l with
  | nil => simp
  | cons x r ih => have := hf x; simp only [List.map_cons, List.sum_cons, List.length_cons]; omega
theorem sum_mem {α : Type} (l : List α) (f : α → Nat) (x : α) (h : x ∈ l) : f x ≤ (l.map f).sum := by
  induction l with
  | nil => cases h
  | cons y r ih =>
    simp only [List.map_cons, List.sum_cons]
    rcases List.mem_cons.1 h with rfl | h
    · omega
    · have := ih h; omega
theorem ok_of (l : List TN) (hb : (l.map TyFilterEquals.bulk31).sum + 1 ≤ 1048576) : ok (l.map up) := by
  have hf : ∀ x : TN, 1 ≤ TyFilterEquals.bulk31 x := fun x => by unfold TyFilterEquals.bulk31; omega
  refine ⟨by rw [List.length_map]; have := sum_len l _ hf; omega, fun a ha => ?_⟩
  obtain ⟨x, hx, rfl⟩ := List.mem_map.1 ha
  have h1 := sum_mem l TyFilterEquals.bulk31 x hx
  have h2 : (x.2.2.2.2.1.2.1.map fun s => s.size + 1).sum ≤ TyFilterEquals.bulk31 x := by
    have e : TyFilterEquals.bulk29 x.2.2.2.2.1 ≤ TyFilterEquals.bulk31 x := by unfold TyFilterEquals.bulk31; omega
    have e2 : (x.2.2.2.2.1.2.1.map fun s => s.size + 1).sum + 1 ≤ TyFilterEquals.bulk29 x.2.2.2.2.1 := by
      have : TyFilterEquals.bulk29 x.2.2.2.2.1 = 1 + (x.2.2.2.2.1.1.size + 1) + ((x.2.2.2.2.1.2.1.map fun s => s.size + 1).sum + 1) + (x.2.2.2.2.1.2.2.size + 1) := rfl
      omega
    omega
  have h3 := sum_len x.2.2.2.2.1.2.1 (fun s => s.size + 1) (fun s => by omega)
  show x.2.2.2.2.1.2.1.length ≤ 1048576
  omega
theorem FilterEquals (w : World) (A0 : Option Addr) (c0 : Nat) (l0 : List TN) (hc0 : l0.length ≤ c0) (hr0 : Kd.C TyFilterEquals.k31 w A0 l0.length l0) (hw0 : TyFilterEquals.wf23 l0) (hb0 : TyFilterEquals.bulk23 l0 ≤ 1048576)
    (A1 : Option Addr) (c1 : Nat) (l1 : List TN) (hc1 : l1.length ≤ c1) (hr1 : Kd.C TyFilterEquals.k31 w A1 l1.length l1) (hw1 : TyFilterEquals.wf23 l1) (hb1 : TyFilterEquals.bulk23 l1 ≤ 1048576) :
    Calls Try.prog 3 #[.slice A0 l0.length c0, .slice A1 l1.length c1] w fun en w' => en = .returned (.bool true) ∧ Below w.heap.size w w' := by
  obtain ⟨k, h⟩ := law (l0.map up) (l1.map up) (ok_of l0 hb0) (ok_of l1 hb1)
  have e0 : (l0.map up).length = l0.length := List.length_map _
  have e1 : (l1.map up).length = l1.length := List.length_map _
  have hq := rosterlaw12_FilterEquals.calls k A0 c0 (l0.map up) A1 c1 (l1.map up) true w (by rw [e0]; exact up_C hr0) (by rw [e0]; exact hc0) (by rw [e1]; exact up_C hr1) (by rw [e1]; exact hc1) h
  rw [e0, e1] at hq
  exact hq
end Go.Proofs.Ytackionaiaikdaa.Pure
