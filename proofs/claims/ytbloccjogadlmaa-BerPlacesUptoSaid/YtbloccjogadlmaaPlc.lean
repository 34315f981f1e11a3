/- Plain law of places: the elements of a tree's bytes stand one behind the other; what BerPlaces asks of each. -/
import Derived.Test.YtbloccjogadlmaaEs
import Derived.Test.YtbloccjogadlmaaSt3
namespace Go.Proofs.Ytbloccjogadlmaa.W
open Go.RowKit Go.Proofs.YtbloccjogadlmaaW.PrintWords Go.Proofs.YtbloccjogadlmaaW.PrintLast
set_option linter.unusedVariables false
set_option linter.unusedSimpArgs false

/-- Where the element behind x begins. -/
def nxE (x : Fnd) : Int := if x.head.made = true then x.at_ + x.head.size else x.at_ + x.head.size + x.head.len
/-- One behind the other, from p to q. -/
def Ch : Int → List Fnd → Int → Prop
  | p, [], q => p = q
  | p, x :: l, q => x.at_ = p ∧ Ch (nxE x) l q
theorem Ch.append : ∀ {l1 l2 : List Fnd} {p q r : Int}, Ch p l1 q → Ch q l2 r → Ch p (l1 ++ l2) r
  | [], l2, p, q, r, h, k => by rw [show p = q from h]; exact k
  | x :: l1, l2, p, q, r, h, k => ⟨h.1, Ch.append h.2 k⟩
theorem elem_chain (s : ByteArray) : ∀ n : Nat, (∀ p e d q, (elemF s n p e d).2 = .ok q → Ch p (elemF s n p e d).1 q) ∧
    (∀ p e d q, p ≤ e → (elemsF s n p e d).2 = .ok q → Ch p (elemsF s n p e d).1 q)
  | 0 => by
    refine ⟨fun p e d q h => ?_, fun p e d q _ h => ?_⟩
    · simp [elemF] at h
    · simp [elemsF] at h
  | n + 1 => by
    obtain ⟨ih1, ih2⟩ := elem_chain s n
    refine ⟨fun p e d q h => ?_, fun p e d q hp h => ?_⟩
    · rw [elemF] at h ⊢
      cases hb : bnd s p e d with
      | error x => rw [hb] at h; cases h
      | ok k =>
        rw [hb] at h
        simp only at h ⊢
        obtain ⟨h1, h2⟩ := bnd_ok hb
        obtain ⟨_, _, h3, _, h5, _⟩ := hdr_ok h1
        cases hm : k.made with
        | true =>
          rw [hm] at h
          simp only [if_true] at h ⊢
          have hi := ih2 _ _ _ q (by omega) h
          refine ⟨rfl, ?_⟩
          show Ch (if k.made = true then p + k.size else p + k.size + k.len) _ q
          rw [if_pos hm]
          exact hi
        | false =>
          rw [hm] at h
          simp only [Bool.false_eq_true, if_false] at h ⊢
          injection h with h
          refine ⟨rfl, ?_⟩
          show (if k.made = true then p + k.size else p + k.size + k.len) = q
          rw [if_neg (by rw [hm]; simp)]
          exact h
    · rw [elemsF] at h ⊢
      by_cases c : p < e
      · rw [if_pos c] at h ⊢
        cases hr : (elemF s n p e d).2 with
        | error x => rw [hr] at h; cases h
        | ok r =>
          rw [hr] at h
          simp only at h ⊢
          have hle := ((elem_ok s n).1 p e d r hr).2.2
          exact (ih1 p e d r hr).append (ih2 r e d q hle h)
      · rw [if_neg c] at h ⊢
        injection h with h
        show p = q
        omega

/-- Where the next element begins, by the headers that have come. -/
def nxt (x : Int × Hd) : Int := if x.2.made = true then wrap64 (x.1 + x.2.size) else wrap64 (wrap64 (x.1 + x.2.size) + x.2.len)
def nx (pre : List (Int × Hd)) : Int := match pre.getLast? with | none => 0 | some x => nxt x
theorem nx_nil : nx [] = 0 := rfl
theorem nx_snoc (pre : List (Int × Hd)) (x : Int × Hd) : nx (pre ++ [x]) = nxt x := by simp [nx]

theorem tree_walk {s : ByteArray} {xs : List NodeT} (h : treeS s = (xs, 0, 0)) : (walkS s).2 = .ok (s.size : Int) ∧ (walkS s).1.map (nodeOf s) = xs := by
  obtain ⟨l, hl⟩ : ∃ l, (walkS s).1 = l := ⟨_, rfl⟩
  cases hr : (walkS s).2 with
  | error x =>
    obtain ⟨c, q⟩ := x
    have e : walkS s = (l, .error (c, q)) := by rw [← hl, ← hr]
    unfold treeS at h
    rw [e] at h
    have hc : c = 0 := by
      have := congrArg (fun t => t.2.1) h
      exact this
    have := (elem_err s (2 * s.size + 1)).1 0 s.size 1 c q (by omega) (by omega) hr
    omega
  | ok q =>
    have e : walkS s = (l, .ok q) := by rw [← hl, ← hr]
    have hq := ((elem_ok s (2 * s.size + 1)).1 0 s.size 1 q hr).2.2
    unfold treeS at h
    rw [e] at h
    simp only [treeR] at h
    by_cases c : q < (s.size : Int)
    · rw [if_pos c] at h
      have := congrArg (fun t => t.2.1) h
      simp at this
    · rw [if_neg c] at h
      have hx := congrArg (fun t => t.1) h
      have hqe : q = (s.size : Int) := by omega
      rw [hqe]
      refine ⟨rfl, ?_⟩
      rw [hl]
      exact hx

theorem chain_at : ∀ (l1 l2 : List Fnd) (x : Fnd) (p q : Int), Ch p (l1 ++ x :: l2) q → x.at_ = (match l1.getLast? with | none => p | some y => nxE y)
  | [], l2, x, p, q, h => h.1
  | [y], l2, x, p, q, h => h.2.1
  | y :: z :: l1, l2, x, p, q, h => by
    have := chain_at (z :: l1) l2 x (nxE y) q h.2
    rw [List.getLast?_cons_cons]
    rw [this]
    cases hz : (z :: l1).getLast? with
    | none => simp at hz
    | some v => rfl
theorem chain_end : ∀ (l : List Fnd) (p q : Int), Ch p l q → q = (match l.getLast? with | none => p | some y => nxE y)
  | [], p, q, h => Eq.symm h
  | [y], p, q, h => Eq.symm h.2
  | y :: z :: l, p, q, h => by
    have := chain_end (z :: l) (nxE y) q h.2
    rw [List.getLast?_cons_cons]
    rw [this]
    cases hz : (z :: l).getLast? with
    | none => simp at hz
    | some v => rfl
theorem nxt_eq {s : ByteArray} {y : Fnd} (hs : s.size ≤ 2097152) (hy : y ∈ (walkS s).1) : nxt (y.at_, y.head) = nxE y := by
  have hb := (elem_in s (2 * s.size + 1)).1 0 s.size 1 y hy
  have e1 : wrap64 (y.at_ + y.head.size) = y.at_ + y.head.size := by unfold wrap64; omega
  unfold nxt nxE
  simp only
  rw [e1]
  split
  · rfl
  · unfold wrap64; omega

/-- WHAT BerPlaces ASKS OF EACH PLACE. -/
theorem places_law {s : ByteArray} {xs : List NodeT} (hs : s.size ≤ 2097152) (h : treeS s = (xs, 0, 0)) :
    (places s).length = xs.length ∧ nx (places s) = (s.size : Int) ∧ ∀ (pre : List (Int × Hd)) (x : Int × Hd), pre ++ [x] <+: places s → pre.length < xs.length ∧ x.1 = nx pre ∧ x.2.cls = (nd xs pre.length).2.1 ∧ x.2.made = (nd xs pre.length).2.2.1 ∧
      x.2.tag = (nd xs pre.length).2.2.2.1 ∧ (x.2.made = false → x.2.len = ((nd xs pre.length).2.2.2.2.size : Int)) ∧ 2 ≤ x.2.size := by
  obtain ⟨h1, h2⟩ := tree_walk h
  have hc := (elem_chain s (2 * s.size + 1)).1 0 s.size 1 s.size h1
  have hc : Ch 0 (walkS s).1 s.size := hc
  have hpl : places s = (walkS s).1.map fun x => (x.at_, x.head) := rfl
  have hx2 : xs = (walkS s).1.map (nodeOf s) := h2.symm
  have hin : ∀ y ∈ (walkS s).1, _ := fun y hy => (elem_in s (2 * s.size + 1)).1 0 s.size 1 y hy
  have hnx : ∀ y ∈ (walkS s).1, nxt (y.at_, y.head) = nxE y := fun y hy => nxt_eq hs hy
  obtain ⟨l, hl⟩ : ∃ l, (walkS s).1 = l := ⟨_, rfl⟩
  rw [hl] at hc hpl hx2 hin hnx
  refine ⟨by rw [hpl, hx2]; simp, ?_, ?_⟩
  · have := chain_end l 0 _ hc
    rw [this, hpl]
    unfold nx
    rw [List.getLast?_map]
    cases hg : l.getLast? with
    | none => rfl
    | some y => exact hnx y (List.mem_of_getLast? hg)
  · intro pre x hp
    rw [hpl] at hp
    obtain ⟨t, ht⟩ := hp
    have hlen : pre.length < l.length := by
      have := congrArg List.length ht
      simp at this
      omega
    obtain ⟨l1, y, l2, rfl, hl1⟩ : ∃ l1 y l2, l = l1 ++ y :: l2 ∧ l1.length = pre.length := ⟨l.take pre.length, l[pre.length], l.drop (pre.length + 1), by simp, by simp; omega⟩
    rw [List.map_append, List.map_cons, List.append_assoc] at ht
    have hl1' : (l1.map fun x => (x.at_, x.head)).length = pre.length := by simpa using hl1
    obtain ⟨hpre, hrest⟩ := List.append_inj ht (by rw [hl1'])
    simp only [List.singleton_append, List.cons.injEq] at hrest
    obtain ⟨hx, _⟩ := hrest
    subst hx
    have hyin : y ∈ l1 ++ y :: l2 := by simp
    have hb := hin y hyin
    have hnd : nd xs pre.length = nodeOf s y := by
      rw [hx2, ← hl1]
      unfold nd
      simp
    have hat := chain_at l1 l2 y 0 _ hc
    refine ⟨by rw [hx2]; simp; omega, ?_, by rw [hnd]; rfl, by rw [hnd]; rfl, by rw [hnd]; rfl, ?_, hb.2.2.1⟩
    · show y.at_ = nx pre
      rw [hat, hpre]
      unfold nx
      rw [List.getLast?_map]
      cases hg : l1.getLast? with
      | none => rfl
      | some z => exact (hnx z (by have := List.mem_of_getLast? hg; simp [this])).symm
    · intro hm
      rw [hnd]
      show y.head.len = (((nodeOf s y).2.2.2.2).size : Int)
      unfold nodeOf
      simp only at hm ⊢
      rw [if_neg (by rw [hm]; simp), ByteArray.size_extract]
      omega
end Go.Proofs.Ytbloccjogadlmaa.W
