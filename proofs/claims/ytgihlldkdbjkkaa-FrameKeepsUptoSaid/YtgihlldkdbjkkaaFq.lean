/- Plain laws of the statements' own helpers: pieces (a stream cut anywhere), same. -/
import Derived.Test.YtgihlldkdbjkkaaFcp
import Derived.Test.YtgihlldkdbjkkaaGPx1
namespace Go.Proofs.Ytgihlldkdbjkkaa.W
open Go.RowKit Go.Proofs.YtgihlldkdbjkkaaW.PrintWords
open Go.Proofs.Ytgihlldkdbjkkaa.GP
set_option linter.unusedVariables false
set_option linter.unusedSimpArgs false

/-- Texts, one behind the other. -/
def joinL : List ByteArray → ByteArray
  | [] => ⟨#[]⟩
  | x :: l => x ++ joinL l
theorem app_nil (s : ByteArray) : s ++ ⟨#[]⟩ = s := by
  have e : numsOf (s ++ ⟨#[]⟩) = numsOf s := by rw [nums_app]; show numsOf s ++ [] = _; simp
  rw [← nums_str (s ++ ⟨#[]⟩), e, nums_str]
theorem nil_app (s : ByteArray) : (⟨#[]⟩ : ByteArray) ++ s = s := by
  have e : numsOf ((⟨#[]⟩ : ByteArray) ++ s) = numsOf s := by rw [nums_app]; show [] ++ numsOf s = _; simp
  rw [← nums_str ((⟨#[]⟩ : ByteArray) ++ s), e, nums_str]
theorem app_assoc (a b c : ByteArray) : a ++ b ++ c = a ++ (b ++ c) := by
  have e : numsOf (a ++ b ++ c) = numsOf (a ++ (b ++ c)) := by rw [nums_app, nums_app, nums_app, nums_app, List.append_assoc]
  rw [← nums_str (a ++ b ++ c), e, nums_str]
theorem joinL_app (l m : List ByteArray) : joinL (l ++ m) = joinL l ++ joinL m := by
  induction l with
  | nil => rw [List.nil_append]; exact (nil_app _).symm
  | cons x l ih => rw [List.cons_append, joinL, joinL, ih, app_assoc]
theorem join_take (l : List ByteArray) (i : Nat) (h : i < l.length) : joinL (l.take (i + 1)) = joinL (l.take i) ++ l.getD i ⟨#[]⟩ := by
  rw [List.take_succ_eq_append_getElem h, joinL_app]
  congr 1
  rw [joinL, joinL, app_nil, List.getD_eq_getElem?_getD, List.getElem?_eq_getElem h]
  rfl
theorem ext_split (s : ByteArray) (n : Nat) (h : n ≤ s.size) : s.extract 0 n ++ s.extract n s.size = s := by
  have e : numsOf (s.extract 0 n ++ s.extract n s.size) = numsOf s := by rw [nums_app, ← nums_take, ← nums_drop, List.take_append_drop]
  rw [← nums_str (s.extract 0 n ++ s.extract n s.size), e, nums_str]
theorem wf_i64 {x : Int} (h : (Lit.int .i64 x).wf = true) : -9223372036854775808 ≤ x ∧ x < 9223372036854775808 := by
  simp [Lit.wf] at h
  have e : IntKind.i64.min = -9223372036854775808 := rfl
  omega
theorem same_loop (l : List ByteArray) (hl : l.length ≤ 1000000000) : ∀ (m i : Nat), i + m = l.length → rosterlaw03_same.l0 (m + 1) l l i = some true := by
  intro m
  induction m with
  | zero => intro i h; rw [rosterlaw03_same.l0, if_neg (by omega)]
  | succ m ih =>
    intro i h
    have e : wrap64 ((i : Int) + 1) = ((i + 1 : Nat) : Int) := by unfold wrap64; omega
    rw [rosterlaw03_same.l0, if_pos (by omega), if_pos (by omega), if_pos (by omega), if_pos rfl, e]
    exact ih (i + 1) (by omega)
theorem same_f (l : List ByteArray) (hl : l.length ≤ 1000000000) : rosterlaw03_same.f (l.length + 1) l l = some true := by
  unfold rosterlaw03_same.f
  rw [if_pos rfl]
  exact same_loop l hl l.length 0 (by omega)
/-- The messages that are cut have at least two bytes each. -/
theorem cut_count (limit : Int) (s : ByteArray) : ∀ (n p : Nat), p ≤ s.size → s.size + 1 ≤ n + p → 2 * (cutAt limit s p).1.length + p ≤ s.size ∧ ∀ x ∈ (cutAt limit s p).1, x.size ≤ s.size := by
  intro n
  induction n with
  | zero => intro p hp hn; omega
  | succ n ih =>
    intro p hp hn
    by_cases hpe : p < s.size
    · rw [cutAt_in hpe]
      by_cases c1 : ¬ (lookS limit (s.extract p s.size)).2.2 = 0
      · rw [if_pos c1]; exact ⟨by simp; omega, fun x hx => by simp at hx⟩
      rw [if_neg c1]
      by_cases c2 : 0 < missS (lookS limit (s.extract p s.size)) ((s.extract p s.size).size : Int)
      · rw [if_pos c2]; exact ⟨by simp; omega, fun x hx => by simp at hx⟩
      rw [if_neg c2]
      have hw := whole_of (limit := limit) (b := s.extract p s.size) (by simp; omega) (Classical.not_not.1 c1) c2
      have hz : (s.extract p s.size).size = s.size - p := by simp
      rw [hz] at hw
      have := ih (p + ((lookS limit (s.extract p s.size)).1 + (lookS limit (s.extract p s.size)).2.1).toNat) (by omega) (by omega)
      refine ⟨by simp only [List.length_cons]; omega, fun x hx => ?_⟩
      rcases List.mem_cons.1 hx with rfl | hx
      · rw [ByteArray.size_extract]; omega
      · exact this.2 x hx
    · rw [cutAt_end (by omega)]; exact ⟨by simp; omega, fun x hx => by simp at hx⟩
end Go.Proofs.Ytgihlldkdbjkkaa.W
