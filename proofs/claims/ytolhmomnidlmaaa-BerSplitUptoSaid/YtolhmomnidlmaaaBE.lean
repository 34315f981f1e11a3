/- Plain law of the reader of an element with all that stands in it (no program in sight), and the word for the scanner's memory. -/
import Derived.Test.YtolhmomnidlmaaaBS
import Derived.OwnWalk
namespace Go.Proofs.Ytolhmomnidlmaaa.W
open Go.RowKit
set_option linter.unusedVariables false
set_option linter.unusedSimpArgs false

/-- An element that the scanner has come by: its place, its depth, its header. -/
structure Fnd where
  at_ : Int
  depth : Int
  head : Hd
def fndCells (x : Fnd) : List Value := [.int .i64 x.at_, .int .i64 x.depth, .int .i64 x.head.cls, .bool x.head.made, .int .i64 x.head.tag, .int .i64 x.head.len, .int .i64 x.head.size]
def fndRow (l : List Fnd) : List Value := l.flatMap fndCells
theorem fndRow_len (l : List Fnd) : (fndRow l).length = l.length * 7 := by
  induction l with
  | nil => rfl
  | cons x l ih => simp only [fndRow, List.flatMap_cons, List.length_append, List.length_cons] at *; rw [ih]; simp [fndCells]; omega
theorem fndRow_snoc (l : List Fnd) (x : Fnd) : fndRow (l ++ [x]) = fndRow l ++ fndCells x := by simp [fndRow]

mutual
/-- What the reader of the element at p comes by, in its order, and where the element ends, or the fault. n: rounds. -/
def elemF (s : ByteArray) : Nat → Int → Int → Int → List Fnd × Except (Int × Int) Int
  | 0, _, _, _ => ([], .error (0, 0))
  | n + 1, p, e, d =>
    match bnd s p e d with
    | .error x => ([], .error x)
    | .ok h =>
      if h.made then (⟨p, d, h⟩ :: (elemsF s n (p + h.size) (p + h.size + h.len) (d + 1)).1, (elemsF s n (p + h.size) (p + h.size + h.len) (d + 1)).2)
      else ([⟨p, d, h⟩], .ok (p + h.size + h.len))
/-- The elements from p up to stop. -/
def elemsF (s : ByteArray) : Nat → Int → Int → Int → List Fnd × Except (Int × Int) Int
  | 0, _, _, _ => ([], .error (0, 0))
  | n + 1, p, e, d =>
    if p < e then
      match (elemF s n p e d).2 with
      | .error x => ((elemF s n p e d).1, .error x)
      | .ok q => ((elemF s n p e d).1 ++ (elemsF s n q e d).1, (elemsF s n q e d).2)
    else ([], .ok e)
end

theorem At.grown {w w' : World} {b : Nat} {t e : TypeId} {cs : Array Value} {base size n : Nat} {v : Value} {xs : List Value} (h : At w b t cs) (ho : w.ownsRow base e size v n xs) (hg : w.grownBy w' v.ownBlock) (hne : t ≠ e) : At w' b t cs := by
  refine (hg.block b h.lt ?_).trans h
  rcases ho.2 with ⟨rfl, _⟩ | ⟨g', cap, cur, rfl, _, hh, _⟩
  · simp [Value.ownBlock]
  · simp only [Value.ownBlock]
    intro he
    injection he with he
    subst he
    unfold At at h
    rw [hh] at h
    injection h with h
    injection h with _ h5 _
    exact hne h5.symm
/-- Behind 'append(l, E{..})' in a region that draws: what is known of a block of another type. -/
theorem At.lit {W w' : World} {o : Obj} {b : Nat} {t e : TypeId} {cs : Array Value} {base size n : Nat} {v : Value} {xs : List Value} (h : At W b t cs) (ho : W.ownsRow base e size v n xs) (hg : ((W.alloc o).drew).grownBy w' v.ownBlock) (hne : t ≠ e) : At w' b t cs :=
  (h.alloc o).drew.grown (ho.alloc o).drew hg hne
theorem own_below {B : Nat} {w w' : World} {base size n : Nat} {e : TypeId} {v : Value} {xs : List Value} (h : w.ownsRow base e size v n xs) (hb : Below B w w') (hB : w.heap.size ≤ B) : w'.ownsRow base e size v n xs := by
  rcases h.2 with ⟨rfl, h1⟩ | ⟨g', cap, cur, h1, h2, h3, h4⟩
  · exact ⟨h.1, .inl ⟨rfl, h1⟩⟩
  · exact ⟨h.1, .inr ⟨g', cap, cur, h1, h2, (hb.block g' (Nat.lt_of_lt_of_le (lt_of_block h3) hB)).trans h3, h4⟩⟩
theorem own_set {w : World} {base size n : Nat} {e t : TypeId} {cs : Array Value} {v : Value} {xs : List Value} (h : w.ownsRow base e size v n xs) {p : Addr} (hp : At w p.block t cs) (hne : t ≠ e) (u : Value) : (w.setCell p u).ownsRow base e size v n xs := by
  rcases h.2 with ⟨rfl, h1⟩ | ⟨g', cap, cur, h1, h2, h3, h4⟩
  · exact ⟨h.1, .inl ⟨rfl, h1⟩⟩
  · refine ⟨h.1, .inr ⟨g', cap, cur, h1, h2, (Below.heap_setCell w p u g' ?_).trans h3, h4⟩⟩
    intro he
    subst he
    unfold At at hp
    rw [h3] at hp
    injection hp with hp
    injection hp with _ h5 _
    exact hne h5.symm
theorem own_base {w : World} {base size n : Nat} {e : TypeId} {v : Value} {xs : List Value} (h : w.ownsRow base e size v n xs) : ∀ k, v.ownBlock = some k → base ≤ k := by
  rcases h.2 with ⟨rfl, _⟩ | ⟨g', cap, cur, rfl, h2, _⟩
  · intro k hk; simp [Value.ownBlock] at hk
  · intro k hk
    simp only [Value.ownBlock] at hk
    injection hk with hk
    exact hk ▸ h2

/-- What is read lies between its begin and its end, and is no longer than that. -/
theorem elem_ok (s : ByteArray) : ∀ n, (∀ p e d q, (elemF s n p e d).2 = .ok q → ((elemF s n p e d).1.length : Int) ≤ q - p ∧ p + 2 ≤ q ∧ q ≤ e) ∧
    (∀ p e d q, p ≤ e → (elemsF s n p e d).2 = .ok q → ((elemsF s n p e d).1.length : Int) ≤ q - p ∧ q = e)
  | 0 => by
    refine ⟨fun p e d q h => ?_, fun p e d q _ h => ?_⟩
    · simp [elemF] at h
    · simp [elemsF] at h
  | n + 1 => by
    obtain ⟨ih1, ih2⟩ := elem_ok s n
    refine ⟨fun p e d q h => ?_, fun p e d q hp h => ?_⟩
    · rw [elemF] at h ⊢
      cases hb : bnd s p e d with
      | error x => rw [hb] at h; cases h
      | ok k =>
        rw [hb] at h
        simp only at h ⊢
        obtain ⟨h1, h2⟩ := bnd_ok hb
        obtain ⟨_, _, h3, _, h5, _⟩ := hdr_ok h1
        cases hm : k.made with
        | true =>
          rw [hm] at h
          simp only [if_true] at h ⊢
          have := ih2 _ _ _ q (by omega) h
          simp only [List.length_cons]
          omega
        | false =>
          rw [hm] at h
          simp only [Bool.false_eq_true, if_false] at h ⊢
          injection h with h
          simp only [List.length_cons, List.length_nil]
          omega
    · rw [elemsF] at h ⊢
      by_cases c : p < e
      · rw [if_pos c] at h ⊢
        cases hr : (elemF s n p e d).2 with
        | error x => rw [hr] at h; cases h
        | ok r =>
          rw [hr] at h
          simp only at h ⊢
          have a1 := ih1 p e d r hr
          have a2 := ih2 r e d q a1.2.2 h
          rw [List.length_append]
          omega
      · rw [if_neg c] at h ⊢
        injection h with h
        simp only [List.length_nil]
        omega

/-- One round over the elements of a content. -/
theorem elemsF_step {s : ByteArray} {k : Nat} {x e d : Int} (h : x < e) : elemsF s (k + 1) x e d =
    match (elemF s k x e d).2 with
    | .error y => ((elemF s k x e d).1, .error y)
    | .ok q => ((elemF s k x e d).1 ++ (elemsF s k q e d).1, (elemsF s k q e d).2) := by
  rw [elemsF, if_pos h]
theorem elemsF_stop {s : ByteArray} {k : Nat} {x e d : Int} (h : ¬ x < e) : elemsF s (k + 1) x e d = ([], .ok e) := by
  rw [elemsF, if_neg h]

/-- THE SCANNER IN MEMORY: block g holds the text and the list so far, a row of the call's own (blocks from base on). -/
def Scan (base g : Nat) (s : ByteArray) (l : List Fnd) (w : World) : Prop :=
  ∃ v, At w g 92 #[.string s, v] ∧ w.ownsRow base 105 7 v l.length (fndRow l)
/-- What stays: every block that is known whole, but for the scanner's own and rows of its list's type. -/
def Keeps (g : Nat) (w w' : World) : Prop := ∀ k t cs, At w k t cs → k ≠ g → t ≠ 105 → At w' k t cs
theorem Keeps.refl (g : Nat) (w : World) : Keeps g w w := fun _ _ _ h _ _ => h
theorem Keeps.trans {g : Nat} {a b c : World} (h : Keeps g a b) (k : Keeps g b c) : Keeps g a c := fun i t cs h1 h2 h3 => k i t cs (h i t cs h1 h2 h3) h2 h3
theorem Keeps.of_below {g : Nat} {a b : World} (h : Below a.heap.size a b) : Keeps g a b := fun i t cs h1 _ _ => h1.below h h1.lt
theorem Keeps.alloc {g : Nat} {a b : World} (h : Keeps g a b) (o : Obj) : Keeps g a (b.alloc o) := fun i t cs h1 h2 h3 => (h i t cs h1 h2 h3).alloc o
theorem Keeps.drew {g : Nat} {a b : World} (h : Keeps g a b) : Keeps g a b.drew := h
theorem Keeps.grown {g base : Nat} {a b c : World} {v : Value} {n : Nat} {xs : List Value} (h : Keeps g a b) (ho : b.ownsRow base 105 7 v n xs) (hg : b.grownBy c v.ownBlock) : Keeps g a c := by
  intro i t cs h1 h2 h3
  have h4 := h i t cs h1 h2 h3
  refine (hg.block i h4.lt ?_).trans h4
  rcases ho.2 with ⟨rfl, _⟩ | ⟨g', cap, cur, rfl, _, hh, _⟩
  · simp [Value.ownBlock]
  · simp only [Value.ownBlock]
    intro he
    injection he with he
    subst he
    unfold At at h4
    rw [hh] at h4
    injection h4 with h4
    injection h4 with _ h5 _
    exact h3 h5.symm
theorem Keeps.setScan {g : Nat} {a b : World} (h : Keeps g a b) (i : Nat) (u : Value) : Keeps g a (b.setCell ⟨g, i, none⟩ u) :=
  fun k t cs h1 h2 h3 => (h k t cs h1 h2 h3).far h2 u

/-- How the reader of an element ends. -/
def ElemEnd (r : List Fnd × Except (Int × Int) Int) (base g : Nat) (s : ByteArray) (l : List Fnd) (w : World) (en : Ending) (w' : World) : Prop :=
  (match r.2 with
    | .error (c, q) => en = .panicked [{ v := .iface 86 (.agg #[.int .i64 c, .int .i64 q]), recovered := false }]
    | .ok q => en = .returned (.int .i64 q)) ∧ Scan base g s (l ++ r.1) w' ∧ Below base w w' ∧ Keeps g w w'
end Go.Proofs.Ytolhmomnidlmaaa.W
