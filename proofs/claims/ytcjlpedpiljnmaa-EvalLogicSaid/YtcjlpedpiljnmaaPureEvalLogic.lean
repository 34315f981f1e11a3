/- EvalLogic: the program's And, Or and Not over Kleene's three truths answer as the document's do, for every list of numbers and every number; the list handed in stays as it was. No condition. -/
import Derived.Test.YtcjlpedpiljnmaaPEvalLogicx1
import Derived.Test.YtcjlpedpiljnmaaWSized
namespace Go.Proofs.Ytcjlpedpiljnmaa
/-- The printed row calls this word without its namespace. -/
theorem PrintWords.sized_ints {H : Type} {enc : TypeId × Value → H} {P : Program} {W : World} {base : Nat} {spare : Nat → Bool} {held : Bool} {t e : TypeId} {k : IntKind} {a : Option Addr} {len cap : Nat}
    {d : DataW H} {ps : List MemPlace} {ts : List TypeId} {ds : List (DataW H)} {j : Nat} (hsz : (DataW.weightsEach P ts ds).all (· ≤ reachBytes) = true) (ht : ts[j]? = some t) (hd : ds[j]? = some d)
    (hu : P.underlying t = some (.slice e)) (he : P.underlying e = some (.int k)) (hc : P.cellsOf e = 1) {B : Nat} (hB : P.bytesOf e = B) (h : DataW.Trod enc P W base spare held t (.slice a len cap) d ps) : len * B ≤ 140737488351232 :=
  Go.Proofs.YtcjlpedpiljnmaaW.PrintWords.sized_ints hsz ht hd hu he hc hB h
end Go.Proofs.Ytcjlpedpiljnmaa
namespace Go.Proofs.Ytcjlpedpiljnmaa.Pure
open Go.RowKit Go.Proofs.Ytcjlpedpiljnmaa.PEvalLogic Go.Proofs.YtcjlpedpiljnmaaW.PrintWords Go.Proofs.YtcjlpedpiljnmaaW.PrintLast

/-- A number as a truth: 0 and 2 are themselves, all else is 1. -/
def tru (a : Int) : Int := if a = 0 then 0 else if a = 2 then 2 else 1

theorem tru_range (a : Int) : tru a = 0 ∨ tru a = 1 ∨ tru a = 2 := by
  unfold tru; split
  · exact .inl rfl
  · split
    · exact .inr (.inr rfl)
    · exact .inr (.inl rfl)

theorem sane_eq (a : Int) : eval_sane.f a = some (tru a) := by
  unfold eval_sane.f tru
  by_cases h0 : a = 0
  · subst h0; rfl
  · by_cases h2 : a = 2
    · subst h2; rfl
    · rw [if_neg h0, if_neg h2]
      split
      · rfl
      · split
        · rfl
        · have : a = 1 := by omega
          rw [this]

theorem truth_eq (a : Int) : rosterref14_truth.f a = some (tru a) := by
  unfold rosterref14_truth.f tru
  by_cases h0 : a = 0
  · subst h0; rfl
  · rw [if_neg h0, if_neg h0]
    by_cases h2 : a = 2
    · subst h2; rfl
    · rw [if_neg h2, if_neg h2]

theorem step_wrap {i : Int} {n : Nat} (h0 : 0 ≤ i) (h : i < (n : Int)) (hn : n * 8 ≤ 140737488351232) : wrap64 (i + 1) = i + 1 := by
  unfold wrap64; omega

theorem rd_prefix (l m : List Int) (i : Int) (h0 : 0 ≤ i) (h : i < (l.length : Int)) : rd (l ++ m) i = rd l i := by
  unfold rd
  rw [List.getD_eq_getElem?_getD, List.getD_eq_getElem?_getD, List.getElem?_append_left (by omega)]

/-- From place i on both Ands go the same way. -/
theorem and_same (l : List Int) (hn : l.length * 8 ≤ 140737488351232) (d : Nat) : ∀ (k : Nat) (i x : Int), 0 ≤ i → (l.length : Int) - i = d → d < k →
    ∃ r, eval_And.l0 k x l (l.length : Int) i = some r ∧ rosterref14_And.l0 k l x i = some r := by
  induction d with
  | zero =>
    intro k i x h0 hd hk
    obtain ⟨k, rfl⟩ : ∃ m, k = m + 1 := ⟨k - 1, by omega⟩
    refine ⟨x, ?_, ?_⟩
    · simp only [eval_And.l0]; rw [if_neg (by omega)]
    · simp only [rosterref14_And.l0]; rw [if_neg (by omega)]
  | succ d ih =>
    intro k i x h0 hd hk
    obtain ⟨k, rfl⟩ : ∃ m, k = m + 1 := ⟨k - 1, by omega⟩
    have hlt : i < (l.length : Int) := by omega
    obtain ⟨r, h1, h2⟩ := ih k (i + 1) (mn x (tru (rd l i))) (by omega) (by omega) (by omega)
    refine ⟨r, ?_, ?_⟩
    · simp only [eval_And.l0]; rw [if_pos hlt, if_pos h0, if_pos hlt, sane_eq]; simp only [Option.bind_some]; rw [step_wrap h0 hlt hn]; exact h1
    · simp only [rosterref14_And.l0]; rw [if_pos hlt, if_pos h0, truth_eq]; simp only [Option.bind_some]; rw [step_wrap h0 hlt hn]
      by_cases c : tru (rd l i) < x
      · rw [if_pos c]
        have : mn x (tru (rd l i)) = tru (rd l i) := by unfold mn; omega
        rw [this] at h2; exact h2
      · rw [if_neg c]
        have : mn x (tru (rd l i)) = x := by unfold mn; omega
        rw [this] at h2; exact h2

theorem or_same (l : List Int) (hn : l.length * 8 ≤ 140737488351232) (d : Nat) : ∀ (k : Nat) (i x : Int), 0 ≤ i → (l.length : Int) - i = d → d < k →
    ∃ r, eval_Or.l0 k x l (l.length : Int) i = some r ∧ rosterref14_Or.l0 k l x i = some r := by
  induction d with
  | zero =>
    intro k i x h0 hd hk
    obtain ⟨k, rfl⟩ : ∃ m, k = m + 1 := ⟨k - 1, by omega⟩
    refine ⟨x, ?_, ?_⟩
    · simp only [eval_Or.l0]; rw [if_neg (by omega)]
    · simp only [rosterref14_Or.l0]; rw [if_neg (by omega)]
  | succ d ih =>
    intro k i x h0 hd hk
    obtain ⟨k, rfl⟩ : ∃ m, k = m + 1 := ⟨k - 1, by omega⟩
    have hlt : i < (l.length : Int) := by omega
    obtain ⟨r, h1, h2⟩ := ih k (i + 1) (mx x (tru (rd l i))) (by omega) (by omega) (by omega)
    refine ⟨r, ?_, ?_⟩
    · simp only [eval_Or.l0]; rw [if_pos hlt, if_pos h0, if_pos hlt, sane_eq]; simp only [Option.bind_some]; rw [step_wrap h0 hlt hn]; exact h1
    · simp only [rosterref14_Or.l0]; rw [if_pos hlt, if_pos h0, truth_eq]; simp only [Option.bind_some]; rw [step_wrap h0 hlt hn]
      by_cases c : tru (rd l i) > x
      · rw [if_pos c]
        have : mx x (tru (rd l i)) = tru (rd l i) := by unfold mx; omega
        rw [this] at h2; exact h2
      · rw [if_neg c]
        have : mx x (tru (rd l i)) = x := by unfold mx; omega
        rw [this] at h2; exact h2

theorem same_self (l : List Int) (hn : l.length * 8 ≤ 140737488351232) (d : Nat) : ∀ (k : Nat) (i : Int), 0 ≤ i → (l.length : Int) - i = d → d < k →
    rosterlaw14_sameTruths.l0 k l l i = some true := by
  induction d with
  | zero =>
    intro k i h0 hd hk
    obtain ⟨k, rfl⟩ : ∃ m, k = m + 1 := ⟨k - 1, by omega⟩
    simp only [rosterlaw14_sameTruths.l0]; rw [if_neg (by omega)]
  | succ d ih =>
    intro k i h0 hd hk
    obtain ⟨k, rfl⟩ : ∃ m, k = m + 1 := ⟨k - 1, by omega⟩
    have hlt : i < (l.length : Int) := by omega
    simp only [rosterlaw14_sameTruths.l0]; rw [if_pos hlt, if_pos h0, if_pos hlt, step_wrap h0 hlt hn, if_pos trivial]
    exact ih k (i + 1) (by omega) (by omega) (by omega)

theorem EvalLogic : rosterlaw14_EvalLogic.Pure := by
  intro l a hm hn hw ha
  refine ⟨l.length + 1, ?_⟩
  obtain ⟨r, a1, a2⟩ := and_same l hn l.length (l.length + 1) 0 2 (by omega) (by omega) (by omega)
  obtain ⟨s, o1, o2⟩ := or_same l hn l.length (l.length + 1) 0 0 (by omega) (by omega) (by omega)
  have hs := same_self l hn l.length (l.length + 1) 0 (by omega) (by omega) (by omega)
  unfold rosterlaw14_EvalLogic.f
  simp only [Option.bind_some, List.nil_append, List.length_nil]
  rw [if_pos (by omega), if_pos (by omega), if_pos (by omega), if_pos (by simp; omega)]
  have ht : (l ++ [77]).take ((l.length : Int).toNat) = l := by simp
  rw [ht]
  have e1 : eval_And.f (l.length + 1) l = some r := a1
  have e2 : eval_Or.f (l.length + 1) l = some s := o1
  have e3 : rosterref14_And.f (l.length + 1) l = some r := a2
  have e4 : rosterref14_Or.f (l.length + 1) l = some s := o2
  have e5 : rosterlaw14_sameTruths.f (l.length + 1) l l = some true := by
    unfold rosterlaw14_sameTruths.f; rw [if_pos rfl]; exact hs
  have e6 : eval_Not.f a = some (wrap64 (2 - tru a)) := by unfold eval_Not.f; rw [sane_eq]; rfl
  have e7 : rosterref14_Not.f a = some (wrap64 (2 - tru a)) := by unfold rosterref14_Not.f; rw [truth_eq]; rfl
  rw [e1, e2, e3, e4, e5, e6, e7]
  simp only [Option.bind_some, if_true]
  rw [if_pos (by simp; omega)]
  simp [rd]

end Go.Proofs.Ytcjlpedpiljnmaa.Pure
