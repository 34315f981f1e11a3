/- Plain law of Split and of Tree (no program in sight): what they answer, as a function of the bytes. -/
import Derived.Test.YtolhmomnidlmaaaBE
import Derived.Test.YtolhmomnidlmaaaKd
namespace Go.Proofs.Ytolhmomnidlmaaa.W
open Go.RowKit
set_option linter.unusedVariables false
set_option linter.unusedSimpArgs false

/-- The elements from place p on, one behind the other, and the fault that ends them. n: rounds. -/
def splitN (s : ByteArray) : Nat → Int → List ElemT × Option (Int × Int)
  | 0, _ => ([], none)
  | n + 1, p =>
    if p < (s.size : Int) then
      match bnd s p s.size 1 with
      | .error x => ([], some x)
      | .ok h => ((h.cls, h.made, h.tag, s.extract (p + h.size).toNat (p + h.size + h.len).toNat) :: (splitN s n (p + h.size + h.len)).1, (splitN s n (p + h.size + h.len)).2)
    else ([], none)
/-- The same, with rounds enough. -/
def splitAt_ (s : ByteArray) (p : Int) : List ElemT × Option (Int × Int) := splitN s (s.size + 1 - p.toNat) p
def splitR : List ElemT × Option (Int × Int) → List ElemT × Int × Int
  | (l, none) => (l, 0, 0)
  | (_, some x) => ([], x.1, x.2)
def splitS (s : ByteArray) : List ElemT × Int × Int := splitR (splitAt_ s 0)
theorem splitN_more (s : ByteArray) : ∀ (n m : Nat) (p : Int), 0 ≤ p → (s.size : Int) + 1 ≤ n + p → (s.size : Int) + 1 ≤ m + p → splitN s n p = splitN s m p := by
  intro n
  induction n with
  | zero =>
    intro m p h0 hn hm
    cases m with
    | zero => rfl
    | succ m => rw [splitN, splitN, if_neg (by omega)]
  | succ n ih =>
    intro m p h0 hn hm
    cases m with
    | zero => rw [splitN, splitN, if_neg (by omega)]
    | succ m =>
      rw [splitN, splitN]
      by_cases c : p < (s.size : Int)
      · rw [if_pos c, if_pos c]
        cases hb : bnd s p s.size 1 with
        | error x => rfl
        | ok h =>
          obtain ⟨h1, h2⟩ := bnd_ok hb
          obtain ⟨_, _, h3, _, h5, _⟩ := hdr_ok h1
          simp only
          rw [ih m (p + h.size + h.len) (by omega) (by omega) (by omega)]
      · rw [if_neg c, if_neg c]
theorem splitAt_end {s : ByteArray} {p : Int} (h0 : 0 ≤ p) (h : (s.size : Int) ≤ p) : splitAt_ s p = ([], none) := by
  unfold splitAt_
  cases s.size + 1 - p.toNat with
  | zero => rfl
  | succ n => rw [splitN, if_neg (by omega)]
theorem splitAt_err {s : ByteArray} {p : Int} (h0 : 0 ≤ p) (h : p < (s.size : Int)) {x : Int × Int} (hb : bnd s p s.size 1 = .error x) : splitAt_ s p = ([], some x) := by
  obtain ⟨n, hn⟩ : ∃ n, s.size + 1 - p.toNat = n + 1 := ⟨s.size - p.toNat, by omega⟩
  unfold splitAt_
  rw [hn, splitN, if_pos h, hb]
theorem splitAt_ok {s : ByteArray} {p : Int} (h0 : 0 ≤ p) (h : p < (s.size : Int)) {k : Hd} (hb : bnd s p s.size 1 = .ok k) :
    splitAt_ s p = ((k.cls, k.made, k.tag, s.extract (p + k.size).toNat (p + k.size + k.len).toNat) :: (splitAt_ s (p + k.size + k.len)).1, (splitAt_ s (p + k.size + k.len)).2) := by
  obtain ⟨n, hn⟩ : ∃ n, s.size + 1 - p.toNat = n + 1 := ⟨s.size - p.toNat, by omega⟩
  obtain ⟨h1, h2⟩ := bnd_ok hb
  obtain ⟨_, _, h3, _, h5, _⟩ := hdr_ok h1
  unfold splitAt_
  rw [hn, splitN, if_pos h, hb]
  simp only
  rw [splitN_more s n (s.size + 1 - (p + k.size + k.len).toNat) (p + k.size + k.len) (by omega) (by omega) (by omega)]

theorem hdr_err {s : ByteArray} {p e d c q : Int} (h : hdr s p e d = .error (c, q)) : 20 ≤ c ∧ c ≤ 26 := by
  have hm : miss d = 20 ∨ miss d = 26 := by unfold miss; split <;> simp
  unfold hdr at h
  repeat' split at h
  all_goals first | (cases h; done) | (injection h with h; injection h with h1 h2; omega)
theorem bnd_err {s : ByteArray} {p e d c q : Int} (h : bnd s p e d = .error (c, q)) : 20 ≤ c ∧ c ≤ 26 := by
  have hm : miss d = 20 ∨ miss d = 26 := by unfold miss; split <;> simp
  unfold bnd at h
  cases hh : hdr s p e d with
  | error x =>
    obtain ⟨c', q'⟩ := x
    rw [hh] at h
    injection h with h
    injection h with h1 h2
    subst h1
    exact hdr_err hh
  | ok k =>
    rw [hh] at h
    simp only at h
    split at h
    · injection h with h; injection h with h1 h2; omega
    · cases h
theorem splitN_err {s : ByteArray} {c q : Int} : ∀ (n : Nat) (p : Int), (splitN s n p).2 = some (c, q) → 20 ≤ c ∧ c ≤ 26 := by
  intro n
  induction n with
  | zero => intro p h; simp [splitN] at h
  | succ n ih =>
    intro p h
    rw [splitN] at h
    by_cases c1 : p < (s.size : Int)
    · rw [if_pos c1] at h
      cases hb : bnd s p s.size 1 with
      | error x =>
        rw [hb] at h
        injection h with h
        subst h
        exact bnd_err hb
      | ok k =>
        rw [hb] at h
        exact ih _ h
    · rw [if_neg c1] at h
      cases h
theorem elem_err (s : ByteArray) : ∀ n : Nat, (∀ p e d c q, 2 * (e - p) + 1 ≤ (n : Int) → 1 ≤ n → (elemF s n p e d).2 = .error (c, q) → 20 ≤ c ∧ c ≤ 26) ∧
    (∀ p e d c q, 2 * (e - p) + 2 ≤ (n : Int) → p ≤ e → (elemsF s n p e d).2 = .error (c, q) → 20 ≤ c ∧ c ≤ 26)
  | 0 => by
    refine ⟨fun p e d c q h h1 _ => by omega, fun p e d c q h h1 _ => by omega⟩
  | n + 1 => by
    obtain ⟨ih1, ih2⟩ := elem_err s n
    refine ⟨fun p e d c q hn h1 h => ?_, fun p e d c q hn hp h => ?_⟩
    · rw [elemF] at h
      cases hb : bnd s p e d with
      | error x =>
        rw [hb] at h
        injection h with h
        subst h
        exact bnd_err hb
      | ok k =>
        rw [hb] at h
        obtain ⟨b1, b2⟩ := bnd_ok hb
        obtain ⟨_, _, k3, _, k5, _⟩ := hdr_ok b1
        cases hm : k.made with
        | true =>
          simp only [hm, if_true] at h
          exact ih2 _ _ _ c q (by omega) (by omega) h
        | false =>
          simp only [hm, Bool.false_eq_true, if_false] at h
          cases h
    · rw [elemsF] at h
      by_cases c1 : p < e
      · rw [if_pos c1] at h
        cases hr : (elemF s n p e d).2 with
        | error x =>
          rw [hr] at h
          simp only at h
          injection h with h
          subst h
          exact ih1 p e d c q (by omega) (by omega) hr
        | ok r =>
          rw [hr] at h
          simp only at h
          have := (elem_ok s n).1 p e d r hr
          exact ih2 r e d c q (by omega) (by omega) h
      · rw [if_neg c1] at h
        cases h

/-- What is come by lies in the stretch. -/
theorem elem_in (s : ByteArray) : ∀ n : Nat, (∀ p e d x, x ∈ (elemF s n p e d).1 → p ≤ x.at_ ∧ 0 ≤ x.head.len ∧ 2 ≤ x.head.size ∧ x.at_ + x.head.size + x.head.len ≤ e) ∧
    (∀ p e d x, x ∈ (elemsF s n p e d).1 → p ≤ x.at_ ∧ 0 ≤ x.head.len ∧ 2 ≤ x.head.size ∧ x.at_ + x.head.size + x.head.len ≤ e)
  | 0 => ⟨fun p e d x h => by simp [elemF] at h, fun p e d x h => by simp [elemsF] at h⟩
  | n + 1 => by
    obtain ⟨ih1, ih2⟩ := elem_in s n
    refine ⟨fun p e d x h => ?_, fun p e d x h => ?_⟩
    · rw [elemF] at h
      cases hb : bnd s p e d with
      | error y => rw [hb] at h; simp at h
      | ok k =>
        rw [hb] at h
        obtain ⟨b1, b2⟩ := bnd_ok hb
        obtain ⟨_, _, k3, _, k5, _⟩ := hdr_ok b1
        cases hm : k.made with
        | true =>
          simp only [hm, if_true, List.mem_cons] at h
          rcases h with rfl | h
          · exact ⟨Int.le_refl _, k5, k3, b2⟩
          · have := ih2 _ _ _ x h
            omega
        | false =>
          simp only [hm, Bool.false_eq_true, if_false, List.mem_singleton] at h
          subst h
          exact ⟨Int.le_refl _, k5, k3, b2⟩
    · rw [elemsF] at h
      by_cases c1 : p < e
      · rw [if_pos c1] at h
        cases hr : (elemF s n p e d).2 with
        | error y =>
          rw [hr] at h
          exact ih1 p e d x h
        | ok r =>
          rw [hr] at h
          simp only [List.mem_append] at h
          rcases h with h | h
          · exact ih1 p e d x h
          · have h2 := ih2 r e d x h
            have := (elem_ok s n).1 p e d r hr
            omega
      · rw [if_neg c1] at h
        simp at h

/-- The node of an element that the scanner has come by. -/
def nodeOf (s : ByteArray) (x : Fnd) : NodeT :=
  (x.depth, x.head.cls, x.head.made, x.head.tag, if x.head.made = true then ⟨#[]⟩ else s.extract (x.at_ + x.head.size).toNat (x.at_ + x.head.size + x.head.len).toNat)
/-- What is come by of the whole of s, and the end or the fault. -/
def walkS (s : ByteArray) : List Fnd × Except (Int × Int) Int := elemF s (2 * s.size + 1) 0 s.size 1
def treeR (s : ByteArray) : List Fnd × Except (Int × Int) Int → List NodeT × Int × Int
  | (_, .error x) => ([], x.1, x.2)
  | (l, .ok q) => if q < (s.size : Int) then ([], 27, q) else (l.map (nodeOf s), 0, 0)
def treeS (s : ByteArray) : List NodeT × Int × Int := treeR s (walkS s)
end Go.Proofs.Ytolhmomnidlmaaa.W
