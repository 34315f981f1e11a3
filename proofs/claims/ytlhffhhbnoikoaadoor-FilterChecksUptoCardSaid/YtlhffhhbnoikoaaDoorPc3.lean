/- Plain: Check of both sides: the same error at the same place. -/
import Derived.Test.YtlhffhhbnoikoaaDoorPc2
import Derived.Test.YtlhffhhbnoikoaaDoorGCx6
import Derived.Test.YtlhffhhbnoikoaaDoorGCx10
namespace Go.Proofs.YtlhffhhbnoikoaaDoor.Pc
open Go.RowKit Go.Proofs.YtlhffhhbnoikoaaDoorW.PrintWords Go.Proofs.YtlhffhhbnoikoaaDoor.GC
set_option linter.unusedVariables false
set_option linter.unusedSimpArgs false
abbrev N := S34
def dep (l : List N) (i : Nat) : Int := (rd_T34 l (i : Int)).f0
def op (l : List N) (i : Nat) : Int := (rd_T34 l (i : Int)).f1
def hB (o : Int) : Bool := decide (o = 0) || decide (o = 1) || decide (o = 2)
theorem bsL {β : Type} (b : List Int) (f : List Int → Option β) : (some b).bind f = f b := rfl
theorem bsB {β : Type} (b : Bool) (f : Bool → Option β) : (some b).bind f = f b := rfl
theorem holds_f (o : Int) : filter_holds.f o = some (hB o) := by
  unfold filter_holds.f hB
  by_cases h0 : o = 0
  · rw [if_pos h0, decide_eq_true h0]; rfl
  · rw [if_neg h0, decide_eq_false h0]
    by_cases h1 : o = 1
    · rw [if_pos h1, decide_eq_true h1]; rfl
    · rw [if_neg h1, decide_eq_false h1, Bool.false_or, Bool.false_or]
      congr 1
/-- May node i stand behind those ahead of it? -/
def fol (l : List N) (i : Nat) : Bool :=
  if i = 0 then dep l 0 == 1 else decide (2 ≤ dep l i) && (decide (dep l i ≤ dep l (i - 1)) || (decide (dep l i = dep l (i - 1) + 1) && hB (op l (i - 1))))
theorem fol_eq (l : List N) (i : Nat) (hi : i < l.length) (hl : l.length ≤ 1048576) (ha : 0 < i → dep l (i - 1) ≤ 64 ∧ 1 ≤ dep l (i - 1)) :
    filter_follows.f l i = some (fol l i) ∧ rosterref12_follows.f l i = some (fol l i) := by
  have hR : (0 : Int) ≤ i ∧ (i : Int) < l.length ∧ l.length ≤ 140737488355328 := ⟨by omega, by omega, by omega⟩
  by_cases z : i = 0
  · subst z
    have e0 : fol l 0 = ((rd_T34 l 0).f0 == 1) := rfl
    rw [e0]
    constructor
    · unfold filter_follows.f
      rw [if_pos (show ((0 : Nat) : Int) = 0 from rfl), if_pos (show (0 : Int) < l.length by omega)]
    · unfold rosterref12_follows.f
      rw [if_pos hR, if_pos (show ((0 : Nat) : Int) = 0 from rfl)]
  obtain ⟨m, rfl⟩ : ∃ m, i = m + 1 := ⟨i - 1, by omega⟩
  have ha := ha (by omega)
  rw [Nat.add_sub_cancel] at ha
  have e1 : wrap64 (((m + 1 : Nat) : Int) - 1) = (m : Int) := by unfold wrap64; omega
  have e2 : ((m + 1 : Nat) : Int) - 1 = (m : Int) := by omega
  have ew : wrap64 (dep l m + 1) = dep l m + 1 := by unfold wrap64; omega
  have ef : fol l (m + 1) = (decide (2 ≤ dep l (m + 1)) && (decide (dep l (m + 1) ≤ dep l m) || (decide (dep l (m + 1) = dep l m + 1) && hB (op l m)))) := by
    unfold fol
    rw [if_neg z, Nat.add_sub_cancel]
  rw [ef]
  clear ef
  constructor
  · unfold filter_follows.f
    rw [e1, if_neg (show ¬ ((m + 1 : Nat) : Int) = 0 by omega), if_pos (show 0 ≤ ((m + 1 : Nat) : Int) by omega), if_pos (show ((m + 1 : Nat) : Int) < l.length by omega), if_pos (show (0 : Int) ≤ m by omega), if_pos (show (m : Int) < l.length by omega), holds_f, Option.bind_some]
    change (if dep l (m + 1) ≥ 2 then (if dep l (m + 1) ≤ dep l m then some true else if dep l (m + 1) = wrap64 (dep l m + 1) then some (hB (op l m)) else some false) else some false) = _
    rw [ew]
    generalize dep l (m + 1) = d
    generalize dep l m = a
    by_cases c2 : 2 ≤ d
    · rw [if_pos c2, decide_eq_true c2, Bool.true_and]
      by_cases c3 : d ≤ a
      · rw [if_pos c3, decide_eq_true c3]; rfl
      · rw [if_neg c3, decide_eq_false c3, Bool.false_or]
        by_cases c4 : d = a + 1
        · rw [if_pos c4, decide_eq_true c4]; rfl
        · rw [if_neg c4, decide_eq_false c4]; rfl
    · rw [if_neg c2, decide_eq_false c2]; rfl
  · unfold rosterref12_follows.f
    rw [e2, if_pos hR, if_neg (show ¬ ((m + 1 : Nat) : Int) = 0 by omega)]
    change some (W.rfolB (dep l (m + 1)) (dep l m) (op l m)) = _
    unfold W.rfolB
    rw [ew, show W.holdsB (op l m) = hB (op l m) from rfl]
    congr 1
    generalize dep l (m + 1) = d
    generalize dep l m = a
    by_cases c2 : 2 ≤ d
    · rw [decide_eq_true c2, Bool.true_and, Bool.true_and]
      by_cases c3 : d ≤ a
      · rw [decide_eq_true c3, decide_eq_true (by omega : d ≤ a + 1)]; rfl
      · rw [decide_eq_false c3, Bool.false_or, Bool.false_or]
        by_cases c4 : d = a + 1
        · rw [decide_eq_true c4, decide_eq_true (by omega : d ≤ a + 1)]
        · rw [decide_eq_false c4, decide_eq_false (by omega : ¬ d ≤ a + 1)]
    · rw [decide_eq_false c2]; rfl
/-! the second kid of a Not -/
theorem second_p (l : List N) (i p : Nat) (hp : p < i) (hi : i < l.length) (hl : l.length ≤ 1048576) (hd : dep l p < dep l i) (hb : ∀ q, p < q → q < i → dep l i ≤ dep l q) :
    ∀ (t : Nat) (kid : Bool) (k : Nat), p + t < i → ∃ b, rosterref12_second.l0 (k + t + 1) l (i : Int) kid ((p + t : Nat) : Int) = some b ∧ (b = true ↔ (kid = true ∨ ∃ q, p < q ∧ q ≤ p + t ∧ dep l q = dep l i) ∧ op l p = 2) := by
  intro t
  induction t with
  | zero =>
    intro kid k ht
    rw [rosterref12_second.l0, if_pos (by omega), if_pos (by omega), if_pos (by omega), if_pos (by omega), if_pos (by omega)]
    change ∃ b, (if dep l p = dep l i then (if dep l p < dep l i then some (op l p == 2) else _) else (if dep l p < dep l i then (if kid = true then some (op l p == 2) else some false) else _)) = some b ∧ _
    rw [if_neg (by omega), if_pos hd]
    cases kid
    · exact ⟨false, rfl, ⟨fun h => (by cases h), fun ⟨h, _⟩ => by
        rcases h with h | ⟨q, h1, h2, _⟩
        · cases h
        · omega⟩⟩
    · refine ⟨_, rfl, ?_⟩
      rw [beq_iff_eq]
      exact ⟨fun h => ⟨Or.inl rfl, h⟩, fun h => h.2⟩
  | succ t ih =>
    intro kid k ht
    have hq := hb (p + (t + 1)) (by omega) ht
    have ew : wrap64 (((p + (t + 1) : Nat) : Int) - 1) = ((p + t : Nat) : Int) := by unfold wrap64; omega
    rw [show k + (t + 1) + 1 = (k + t + 1) + 1 by omega, rosterref12_second.l0, if_pos (by omega), if_pos (by omega), if_pos (by omega), if_pos (by omega), if_pos (by omega), ew]
    change ∃ b, (if dep l (p + (t + 1)) = dep l i then (if dep l (p + (t + 1)) < dep l i then some (op l (p + (t + 1)) == 2) else rosterref12_second.l0 (k + t + 1) l (i : Int) true ((p + t : Nat) : Int)) else (if dep l (p + (t + 1)) < dep l i then (if kid = true then some (op l (p + (t + 1)) == 2) else some false) else rosterref12_second.l0 (k + t + 1) l (i : Int) kid ((p + t : Nat) : Int))) = some b ∧ _
    by_cases c : dep l (p + (t + 1)) = dep l i
    · rw [if_pos c, if_neg (by omega)]
      obtain ⟨b, h1, h2⟩ := ih true k (by omega)
      refine ⟨b, h1, h2.trans ⟨fun h => ⟨Or.inr ⟨p + (t + 1), by omega, Nat.le_refl _, c⟩, h.2⟩, fun h => ⟨Or.inl rfl, h.2⟩⟩⟩
    · rw [if_neg c, if_neg (by omega)]
      obtain ⟨b, h1, h2⟩ := ih kid k (by omega)
      refine ⟨b, h1, h2.trans ⟨fun h => ⟨?_, h.2⟩, fun h => ⟨?_, h.2⟩⟩⟩
      · rcases h.1 with h | ⟨q, a1, a2, a3⟩
        · exact Or.inl h
        · exact Or.inr ⟨q, a1, by omega, a3⟩
      · rcases h.1 with h | ⟨q, a1, a2, a3⟩
        · exact Or.inl h
        · refine Or.inr ⟨q, a1, ?_, a3⟩
          by_cases e : q = p + (t + 1)
          · rw [e] at a3; exact absurd a3 c
          · omega
/-! the walk along both lists -/
structure Inv (l : List N) (i : Nat) (opn kids : List Int) : Prop where
  klen : kids.length = l.length
  olen : (opn.length : Int) = if i = 0 then 0 else dep l (i - 1)
  deps : ∀ q, q < i → 1 ≤ dep l q ∧ dep l q ≤ 64
  opens : ∀ j, j < opn.length → ∃ o : Nat, opn[j]? = some (o : Int) ∧ o < i ∧ dep l o = (j : Int) + 1 ∧ (∀ q, o < q → q < i → (j : Int) + 1 < dep l q) ∧ ∃ c : Nat, kids[o]? = some (c : Int) ∧ c ≤ i ∧ (c = 0 ↔ ∀ q, o < q → q < i → dep l q ≠ (j : Int) + 2)
  rest : ∀ q, i ≤ q → q < l.length → kids[q]? = some 0
theorem inv_zero (l : List N) : Inv l 0 [] (List.replicate l.length 0) :=
  ⟨List.length_replicate, rfl, fun q h => by omega, fun j h => by simp at h, fun q _ h => by simp [h]⟩
theorem inv_one (l : List N) (kids : List Int) (h : Inv l 0 [] kids) (h0 : 0 < l.length) (hd : dep l 0 = 1) : Inv l 1 [0] kids := by
  refine ⟨h.klen, ?_, ?_, ?_, fun q a b => h.rest q (by omega) b⟩
  · rw [if_neg (by omega)]; show (1 : Int) = dep l 0; rw [hd]
  · intro q hq
    obtain rfl : q = 0 := by omega
    omega
  · intro j hj
    obtain rfl : j = 0 := by simp at hj; exact hj
    exact ⟨0, rfl, by omega, by rw [hd]; rfl, fun q a b => by omega, 0, h.rest 0 (by omega) h0, by omega, ⟨fun _ q a b => by omega, fun _ => rfl⟩⟩
theorem inv_step (l : List N) (i : Nat) (opn kids : List Int) (h : Inv l i opn kids) (hi : i < l.length) (d : Nat) (hd : dep l i = (d : Int) + 2) (hd64 : d + 2 ≤ 64) (ho : d < opn.length) (o : Nat) (c : Nat)
    (h1 : opn[d]? = some (o : Int)) (h2 : kids[o]? = some (c : Int)) : Inv l (i + 1) (opn.take (d + 1) ++ [(i : Int)]) (kids.set o ((c + 1 : Nat) : Int)) := by
  obtain ⟨o', a1, a2, a3, a4, c', a5, a6, a7⟩ := h.opens d ho
  obtain rfl : o' = o := by rw [h1] at a1; have := Option.some.inj a1; omega
  obtain rfl : c' = c := by rw [h2] at a5; have := Option.some.inj a5; omega
  have tl : (opn.take (d + 1)).length = d + 1 := by rw [List.length_take]; omega
  refine ⟨by rw [List.length_set]; exact h.klen, ?_, ?_, ?_, ?_⟩
  · rw [if_neg (by omega), Nat.add_sub_cancel, hd, List.length_append, tl, List.length_singleton]; omega
  · intro q hq
    by_cases e : q = i
    · subst e; omega
    · exact h.deps q (by omega)
  · intro j hj
    rw [List.length_append, tl, List.length_singleton] at hj
    by_cases e : j = d + 1
    · subst e
      refine ⟨i, ?_, by omega, by rw [hd]; omega, fun q x y => by omega, 0, ?_, by omega, ⟨fun _ q x y => by omega, fun _ => rfl⟩⟩
      · rw [List.getElem?_append_right (by omega), tl, Nat.sub_self]; rfl
      · rw [List.getElem?_set_ne (by omega)]; exact h.rest i (Nat.le_refl _) hi
    · have hjd : j < d + 1 := by omega
      obtain ⟨p, b1, b2, b3, b4, e', b5, b6, b7⟩ := h.opens j (by omega)
      have g : (opn.take (d + 1) ++ [(i : Int)])[j]? = some (p : Int) := by
        rw [List.getElem?_append_left (by omega), List.getElem?_take, if_pos hjd]; exact b1
      by_cases ejd : j = d
      · subst ejd
        obtain rfl : p = o' := by rw [h1] at b1; have := Option.some.inj b1; omega
        refine ⟨p, g, by omega, b3, ?_, c' + 1, ?_, by omega, ?_⟩
        · intro q x y
          by_cases eq : q = i
          · subst eq; omega
          · exact b4 q x (by omega)
        · rw [List.getElem?_set_self (by rw [h.klen]; omega)]
        · exact ⟨fun x => by omega, fun x => absurd hd (x i (by omega) (by omega))⟩
      · refine ⟨p, g, by omega, b3, ?_, e', ?_, by omega, ?_⟩
        · intro q x y
          by_cases eq : q = i
          · subst eq; omega
          · exact b4 q x (by omega)
        · have : p ≠ o' := fun x => by rw [x] at b3; omega
          rw [List.getElem?_set_ne (by omega)]; exact b5
        · refine b7.trans ⟨fun x q y z => ?_, fun x q y z => x q y (by omega)⟩
          by_cases eq : q = i
          · subst eq; omega
          · exact x q y (by omega)
  · intro q x y
    rw [List.getElem?_set_ne (by omega)]; exact h.rest q (by omega) y
/-! what stands behind a Not -/
theorem second_f (l : List N) (i o d c : Nat) (ho : o < i) (hi : i < l.length) (hl : l.length ≤ 1048576) (hd : dep l i = (d : Int) + 2) (hod : dep l o < dep l i) (hb : ∀ q, o < q → q < i → (d : Int) + 1 < dep l q)
    (hc : c = 0 ↔ ∀ q, o < q → q < i → dep l q ≠ (d : Int) + 2) (K : Nat) (hK : i + 1 ≤ K) : ∃ b, rosterref12_second.f K l (i : Int) = some b ∧ (b = true ↔ 1 ≤ c ∧ op l o = 2) := by
  obtain ⟨t, ht⟩ : ∃ t, i - 1 = o + t := ⟨i - 1 - o, by omega⟩
  obtain ⟨b, h1, h2⟩ := second_p l i o ho hi hl hod (fun q x y => by have := hb q x y; omega) t false (K - t - 1) (by omega)
  refine ⟨b, ?_, h2.trans ⟨fun h => ⟨?_, h.2⟩, fun h => ⟨?_, h.2⟩⟩⟩
  · unfold rosterref12_second.f
    rw [show wrap64 ((i : Int) - 1) = ((o + t : Nat) : Int) by unfold wrap64; omega]
    rw [show K - t - 1 + t + 1 = K by omega] at h1
    exact h1
  · rcases h.1 with h | ⟨q, x1, x2, x3⟩
    · cases h
    · have : c ≠ 0 := fun e => hc.1 e q x1 (by omega) (by rw [x3, hd])
      omega
  · refine Or.inr ?_
    refine Classical.byContradiction fun hn => ?_
    have : c = 0 := hc.2 fun q x y e => hn ⟨q, x, by omega, by rw [e, hd]⟩
    omega
theorem tail_eq (n : Int) (i : Nat) (d o dn : Int) (X Y : Option (Int × Int)) (hi : (i : Int) < n) (hn : n ≤ 1048576) (h : ∃ r, X = some r ∧ Y = some r) :
    ∃ r, (if o = 2 then (if wrap64 ((i : Int) + 1) = n then some (120, (i : Int)) else (if 0 ≤ wrap64 ((i : Int) + 1) then (if wrap64 ((i : Int) + 1) < n then (if dn = wrap64 (d + 1) then X else some (120, (i : Int))) else none) else none)) else X) = some r ∧
      (if o = 2 then (if wrap64 ((i : Int) + 1) ≥ n then some (120, (i : Int)) else (if 0 ≤ wrap64 ((i : Int) + 1) then (if wrap64 ((i : Int) + 1) < n then (if dn = wrap64 (d + 1) then Y else some (120, (i : Int))) else none) else none)) else Y) = some r := by
  rw [wr i (by omega)]
  by_cases c : o = 2
  · rw [if_pos c, if_pos c]
    by_cases e : ((i + 1 : Nat) : Int) = n
    · rw [if_pos e, if_pos (by omega)]
      exact ⟨_, rfl, rfl⟩
    · have p0 : (0 : Int) ≤ ((i + 1 : Nat) : Int) := by omega
      have p1 : ((i + 1 : Nat) : Int) < n := by omega
      have p2 : ¬ ((i + 1 : Nat) : Int) ≥ n := by omega
      rw [if_neg e, if_neg p2, if_pos p0, if_pos p1, if_pos p0, if_pos p1]
      by_cases f : dn = wrap64 (d + 1)
      · rw [if_pos f, if_pos f]; exact h
      · rw [if_neg f, if_neg f]; exact ⟨_, rfl, rfl⟩
  · rw [if_neg c, if_neg c]; exact h
/-- Lists whose texts and lists are of a size. -/
structure ok (l : List N) : Prop where
  len : l.length ≤ 1048576
  node : ∀ i, i < l.length → (rd_T34 l (i : Int)).f2.size ≤ 1048576 ∧ (rd_T34 l (i : Int)).f5.size ≤ 1048576 ∧ (rd_T34 l (i : Int)).f4.f1.length ≤ 1048576
set_option maxHeartbeats 1000000 in
theorem chk (l : List N) (hl : ok l) : ∀ (j i : Nat) (opn kids : List Int) (K K' : Nat), i + j = l.length → Inv l i opn kids → 1048600 + 2 * j ≤ K → 1048600 + 2 * j ≤ K' →
    ∃ r, filter_Check.l0 K l opn kids l (l.length : Int) (i : Int) = some r ∧ rosterref12_Check.l0 K' l (i : Int) = some r := by
  intro j
  induction j with
  | zero =>
    intro i opn kids K K' hi hv hK hK'
    obtain ⟨K, rfl⟩ : ∃ q, K = q + 1 := ⟨K - 1, by omega⟩
    obtain ⟨K', rfl⟩ : ∃ q, K' = q + 1 := ⟨K' - 1, by omega⟩
    rw [filter_Check.l0, if_neg (by omega), rosterref12_Check.l0, if_neg (by omega)]
    exact ⟨_, rfl, rfl⟩
  | succ j ih =>
    intro i opn kids K K' hij hv hK hK'
    have hlen := hl.len
    have hi : i < l.length := by omega
    obtain ⟨K, rfl⟩ : ∃ q, K = q + 1 + 1 := ⟨K - 2, by omega⟩
    obtain ⟨K', rfl⟩ : ∃ q, K' = q + 1 + 1 := ⟨K' - 2, by omega⟩
    obtain ⟨n1, n2, n3⟩ := hl.node i hi
    have hf := fol_eq l i hi hlen (fun h => ⟨(hv.deps (i - 1) (by omega)).2, (hv.deps (i - 1) (by omega)).1⟩)
    have g1 : (i : Int) < (l.length : Int) := by omega
    have g0 : (0 : Int) ≤ i := by omega
    have F1 := filter_Check.l0.eq_2 l opn kids l (l.length : Int) (i : Int) (K + 1)
    rw [if_pos g1, if_pos g0, if_pos g1, hf.1, Option.bind_some] at F1
    have R1 := rosterref12_Check.l0.eq_2 l (i : Int) (K' + 1)
    rw [if_pos g1, hf.2, Option.bind_some] at R1
    rw [F1, R1]
    clear F1 R1
    cases hfol : fol l i with
    | false => exact ⟨_, rfl, rfl⟩
    | true =>
      rw [if_pos (rfl : true = true), if_pos (rfl : true = true), if_pos g0]
      by_cases c64 : (rd_T34 l (i : Int)).f0 > 64
      · rw [if_pos c64, if_pos c64]
        exact ⟨_, rfl, rfl⟩
      rw [if_neg c64, if_neg c64, shaped_f _ _ _ _ _ _ _ _ _ n3 n1 n2 (K + 1) (by omega), bsB, fields_f _ _ _ _ _ _ _ _ _ n3 n1 n2 (K' + 1) (by omega), bsB]
      have jt : rosterref12_Check.j1 (K' + 1) l (i : Int) true = some (120, (i : Int)) := by rw [rosterref12_Check.j1, if_pos rfl]
      cases shB (rd_T34 l (i : Int)).f0 (rd_T34 l (i : Int)).f1 (rd_T34 l (i : Int)).f2 (rd_T34 l (i : Int)).f3 (rd_T34 l (i : Int)).f4.f0 (rd_T34 l (i : Int)).f4.f1 (rd_T34 l (i : Int)).f4.f2 (rd_T34 l (i : Int)).f5 (rd_T34 l (i : Int)).f6 with
      | false =>
        rw [if_neg (show ¬ false = true by decide), if_neg (show ¬ false = true by decide), jt]
        exact ⟨_, rfl, rfl⟩
      | true =>
        rw [if_pos (rfl : true = true), if_pos (rfl : true = true)]
        have jf : rosterref12_Check.j1 (K' + 1) l (i : Int) false = (if (rd_T34 l (i : Int)).f1 = 2 then (if wrap64 ((i : Int) + 1) ≥ (l.length : Int) then some (120, (i : Int)) else (if 0 ≤ wrap64 ((i : Int) + 1) then (if wrap64 ((i : Int) + 1) < (l.length : Int) then (if (rd_T34 l (wrap64 ((i : Int) + 1))).f0 = wrap64 ((rd_T34 l (i : Int)).f0 + 1) then rosterref12_Check.l0 K' l (wrap64 ((i : Int) + 1)) else some (120, (i : Int))) else none) else none)) else rosterref12_Check.l0 K' l (wrap64 ((i : Int) + 1))) := by
          rw [rosterref12_Check.j1, if_neg (by decide), if_pos g0, if_pos g1]
        change ¬ dep l i > 64 at c64
        by_cases z : i = 0
        · subst z
          have hd : dep l 0 = 1 := by
            unfold fol at hfol
            rw [if_pos rfl, beq_iff_eq] at hfol
            exact hfol
          have hd' : (rd_T34 l ((0 : Nat) : Int)).f0 = 1 := hd
          have o0 : opn = [] := by
            have := hv.olen
            rw [if_pos rfl] at this
            exact List.length_eq_zero_iff.1 (by omega)
          subst o0
          have s0 : rosterref12_second.f (K' + 1) l ((0 : Nat) : Int) = some false := by
            unfold rosterref12_second.f
            rw [rosterref12_second.l0, show wrap64 (((0 : Nat) : Int) - 1) = -1 by kernel_rfl, if_neg (by decide)]
          rw [s0, bsB, jf, hd', show wrap64 (1 - 1) = 0 by kernel_rfl]
          refine tail_eq (l.length : Int) 0 1 _ _ _ _ (by omega) (by omega) ?_
          rw [wr 0 (by omega)]
          exact ih 1 [0] kids (K + 1) K' (by omega) (inv_one l kids hv hi hd) (by omega) (by omega)
        · have hfl : 2 ≤ dep l i ∧ dep l i ≤ dep l (i - 1) + 1 := by
            unfold fol at hfol
            rw [if_neg z, Bool.and_eq_true, Bool.or_eq_true, Bool.and_eq_true, decide_eq_true_iff, decide_eq_true_iff, decide_eq_true_iff] at hfol
            rcases hfol with ⟨a, b | ⟨b, _⟩⟩
            · exact ⟨a, by omega⟩
            · exact ⟨a, by omega⟩
          have hol := hv.olen
          rw [if_neg z] at hol
          obtain ⟨d, hd⟩ : ∃ d : Nat, dep l i = (d : Int) + 2 := ⟨(dep l i - 2).toNat, by omega⟩
          have hd' : (rd_T34 l (i : Int)).f0 = (d : Int) + 2 := hd
          have hdo : d < opn.length := by omega
          obtain ⟨o, a1, a2, a3, a4, c, a5, a6, a7⟩ := hv.opens d hdo
          have iv := inv_step l i opn kids hv hi d hd (by omega) hdo o c a1 a5
          obtain ⟨b, sb, hb⟩ := second_f l i o d c a2 hi hlen hd (by rw [a3]; omega) a4 a7 (K' + 1) (by omega)
          have hgt : 1 ≤ c → ((c + 1 : Nat) : Int) > 1 := fun x => by omega
          have hgt' : ((c + 1 : Nat) : Int) > 1 → 1 ≤ c := fun x => by omega
          have q4 : (l.length : Int) ≤ 1048576 := by omega
          have q5 : i ≤ 4294967296 := by omega
          have q1 : i + 1 + j = l.length := by omega
          have q2 : 1048600 + 2 * j ≤ K := by omega
          have q3 : 1048600 + 2 * j ≤ K' := by omega
          have hkl := hv.klen
          have hol_ : o < l.length := by omega
          have hok : o < kids.length := by rw [hkl]; exact hol_
          have hci : (c : Int) ≤ i := by omega
          have hdl : d ≤ 1048576 := by omega
          have b4 : (d : Int) + 2 > 1 := by omega
          have e1 : wrap64 (((d : Int) + 2) - 1) = ((d + 1 : Nat) : Int) := by unfold wrap64; omega
          have e2 : wrap64 (((d : Int) + 2) - 2) = (d : Int) := by unfold wrap64; omega
          have tl : (opn.take (d + 1)).length = d + 1 := by rw [List.length_take]; omega
          have ry : rd (opn.take (d + 1) ++ [(i : Int)]) (d : Int) = (o : Int) := by
            unfold rd
            rw [Int.toNat_natCast, List.getD_eq_getElem?_getD, List.getElem?_append_left (by omega), List.getElem?_take, if_pos (by omega), a1]
            rfl
          have rk : rd kids (o : Int) = (c : Int) := by
            unfold rd
            rw [Int.toNat_natCast, List.getD_eq_getElem?_getD, a5]
            rfl
          have ec : wrap64 ((c : Int) + 1) = ((c + 1 : Nat) : Int) := by unfold wrap64; omega
          have rk2 : rd (kids.set o ((c + 1 : Nat) : Int)) (o : Int) = ((c + 1 : Nat) : Int) := by
            unfold rd
            rw [Int.toNat_natCast, List.getD_eq_getElem?_getD, List.getElem?_set_self (by rw [hv.klen]; omega)]
            rfl
          have hop : (rd_T34 l (o : Int)).f1 = op l o := rfl
          have b1 : (0 : Int) ≤ ((d + 1 : Nat) : Int) := Int.natCast_nonneg _
          have b2 : ((d + 1 : Nat) : Int) ≤ opn.length := Int.ofNat_le.2 hdo
          have b3 : (opn.take (d + 1)).length < 17592186044416 := by rw [tl]; exact Nat.lt_of_le_of_lt (Nat.succ_le_succ hdl) (by decide)
          have b5 : (0 : Int) ≤ d := Int.natCast_nonneg _
          have b6 : (d : Int) < ((opn.take (d + 1) ++ [(i : Int)]).length : Int) := by rw [List.length_append, tl, List.length_singleton]; exact Int.ofNat_lt.2 (Nat.lt_succ_of_lt (Nat.lt_succ_self d))
          have b7 : (0 : Int) ≤ o := Int.natCast_nonneg _
          have b8 : (o : Int) < kids.length := Int.ofNat_lt.2 hok
          have b9 : (o : Int) < l.length := Int.ofNat_lt.2 hol_
          rw [sb, bsB, hd', e1, if_pos b1, if_pos b2, bsL, Int.toNat_natCast, if_pos b3, bsL, if_pos b4, e2, if_pos b5, if_pos b6, ry, if_pos b7, if_pos b8, rk, ec, Int.toNat_natCast, bsL, if_pos b9, rk2, hop]
          have fj : ∀ x73 : Bool, filter_Check.j1 (K + 1) l (opn.take (d + 1) ++ [(i : Int)]) (kids.set o ((c + 1 : Nat) : Int)) (i : Int) l (l.length : Int) (i : Int) x73 ((d : Int) + 2) (rd_T34 l (i : Int)).f1 (rd_T34 l (i : Int)).f2 (rd_T34 l (i : Int)).f3 (rd_T34 l (i : Int)).f4.f0 (rd_T34 l (i : Int)).f4.f1 (rd_T34 l (i : Int)).f4.f2 (rd_T34 l (i : Int)).f5 (rd_T34 l (i : Int)).f6 =
              (if x73 = true then some (120, (i : Int)) else (if (rd_T34 l (i : Int)).f1 = 2 then (if wrap64 ((i : Int) + 1) = (l.length : Int) then some (120, (i : Int)) else (if 0 ≤ wrap64 ((i : Int) + 1) then (if wrap64 ((i : Int) + 1) < (l.length : Int) then (if (rd_T34 l (wrap64 ((i : Int) + 1))).f0 = wrap64 (((d : Int) + 2) + 1) then filter_Check.l0 K l (opn.take (d + 1) ++ [(i : Int)]) (kids.set o ((c + 1 : Nat) : Int)) l (l.length : Int) (wrap64 ((i : Int) + 1)) else some (120, (i : Int))) else none) else none)) else filter_Check.l0 K l (opn.take (d + 1) ++ [(i : Int)]) (kids.set o ((c + 1 : Nat) : Int)) l (l.length : Int) (wrap64 ((i : Int) + 1)))) := fun x73 => by
            rw [filter_Check.j1]
          rw [fj, fj]
          have hx : (if op l o = 2 then decide (((c + 1 : Nat) : Int) > 1) else false) = b := by
            cases b with
            | true =>
              have := hb.1 rfl
              rw [if_pos this.2]
              exact decide_eq_true (hgt this.1)
            | false =>
              by_cases e : op l o = 2
              · rw [if_pos e]
                refine decide_eq_false fun x => ?_
                have := hb.2 ⟨hgt' x, e⟩
                cases this
              · rw [if_neg e]
          cases b with
          | true =>
            have e := (hb.1 rfl).2
            rw [if_pos e] at hx
            rw [if_pos e, hx, if_pos (rfl : true = true), jt]
            exact ⟨_, rfl, rfl⟩
          | false =>
            have fin : ∃ r, (if (rd_T34 l (i : Int)).f1 = 2 then (if wrap64 ((i : Int) + 1) = (l.length : Int) then some (120, (i : Int)) else (if 0 ≤ wrap64 ((i : Int) + 1) then (if wrap64 ((i : Int) + 1) < (l.length : Int) then (if (rd_T34 l (wrap64 ((i : Int) + 1))).f0 = wrap64 (((d : Int) + 2) + 1) then filter_Check.l0 K l (opn.take (d + 1) ++ [(i : Int)]) (kids.set o ((c + 1 : Nat) : Int)) l (l.length : Int) (wrap64 ((i : Int) + 1)) else some (120, (i : Int))) else none) else none)) else filter_Check.l0 K l (opn.take (d + 1) ++ [(i : Int)]) (kids.set o ((c + 1 : Nat) : Int)) l (l.length : Int) (wrap64 ((i : Int) + 1))) = some r ∧ rosterref12_Check.j1 (K' + 1) l (i : Int) false = some r := by
              rw [jf, hd']
              refine tail_eq (l.length : Int) i ((d : Int) + 2) _ _ _ _ g1 q4 ?_
              rw [wr i q5]
              exact ih (i + 1) _ _ K K' q1 iv q2 q3
            by_cases e : op l o = 2
            · rw [if_pos e] at hx
              rw [if_pos e, hx, if_neg (show ¬ false = true by decide)]
              exact fin
            · rw [if_neg e, if_neg (show ¬ false = true by decide)]
              exact fin
theorem chk_f (l : List N) (hl : ok l) (K K' : Nat) (hK : 4000000 ≤ K) (hK' : 4000000 ≤ K') : ∃ e a, filter_Check.f K l = some (e, a) ∧ rosterref12_Check.f K' l = some (e, a) := by
  have h1 := hl.len
  unfold filter_Check.f rosterref12_Check.f
  by_cases z : (l.length : Int) = 0
  · rw [if_pos z, if_pos z]
    exact ⟨_, _, rfl, rfl⟩
  · rw [if_neg z, if_neg z, if_pos (by omega), if_pos (by omega), Int.toNat_natCast]
    obtain ⟨⟨e, a⟩, h⟩ := chk l hl l.length 0 [] _ K K' (by omega) (inv_zero l) (by omega) (by omega)
    exact ⟨e, a, h⟩
end Go.Proofs.YtlhffhhbnoikoaaDoor.Pc
