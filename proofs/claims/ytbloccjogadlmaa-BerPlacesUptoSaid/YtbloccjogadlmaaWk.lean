/- Walks of ber.follows, (*writer).element and ber.Write: a tree's bytes in the shortest form, or the error and the number of the first node at fault. -/
import Derived.Test.YtbloccjogadlmaaMj
import Derived.Test.YtbloccjogadlmaaTr
namespace Go.Proofs.Ytbloccjogadlmaa.W
open Go.RowKit Go.Proofs.YtbloccjogadlmaaW.PrintWords Go.Proofs.YtbloccjogadlmaaW.PrintLast
set_option linter.unusedVariables false
set_option linter.unusedSimpArgs false

theorem foll_none (n : NodeT) : follB none n = (namedB n.2.1 n.2.2.2.1 && !(n.2.2.1 && decide (n.2.2.2.2.size ≠ 0)) && decide (n.1 = 1)) := rfl
theorem foll_some (n : NodeT) (d : Int) (m : Bool) : follB (some (d, m)) n = (namedB n.2.1 n.2.2.2.1 && !(n.2.2.1 && decide (n.2.2.2.2.size ≠ 0)) && (decide (2 ≤ n.1) && decide (n.1 ≤ if m = true then d + 1 else d))) := rfl
theorem toList_emp (b : ByteArray) : (b.toList.isEmpty = true ↔ b.size = 0) ∧ (b.toList = [] ↔ b.size = 0) := by
  have h : b.toList.length = b.size := by rw [ByteArray.toList_eq, Array.length_toList]; rfl
  refine ⟨by rw [List.isEmpty_iff, ← List.length_eq_zero_iff, h], by rw [← List.length_eq_zero_iff, h]⟩

set_option maxRecDepth 100000 in
set_option maxHeartbeats 1000000 in
/-- Class, tag or body at fault. -/
theorem follows_bad (v : Value) (b : Option (Int × Bool)) (n : NodeT) (w : World) (h : (namedB n.2.1 n.2.2.2.1 && !(n.2.2.1 && decide (n.2.2.2.2.size ≠ 0))) = false) :
    Calls Try.prog 31 #[v, .agg #[.int .i64 n.1, .int .i64 n.2.1, .bool n.2.2.1, .int .i64 n.2.2.2.1, .string n.2.2.2.2]] w fun en w' => en = .returned (.bool (follB b n)) ∧ Below w.heap.size w w' := by
  obtain ⟨d, c, m, t, s⟩ := n
  have hf : follB b (d, c, m, t, s) = false := by unfold follB; rw [h]; rfl
  rw [hf]
  simp only at h ⊢
  cases hn : namedB c t with
  | false =>
    have HN := Lib.hid hn
    clear hn h hf
    go_enter Try.func31, Try.ntmps31
    go_wp2_with fail
    refine (named_any c t _).mono ?_
    rintro en w1 ⟨rfl, nd, rfl⟩
    rw [HN.out]
    go_wp2
    go_ret
    exact ⟨rfl, below_draws ((Below.refl _ _).alloc (Nat.le_refl _) _) _⟩
  | true =>
    rw [hn, Bool.true_and, Bool.not_eq_false', Bool.and_eq_true, decide_eq_true_eq] at h
    obtain ⟨hm, hs⟩ := h
    subst hm
    have he : s.toList ≠ [] := fun h => hs ((toList_emp s).2.1 h)
    have he2 : s.toList.isEmpty = false := by rw [Bool.eq_false_iff]; exact fun h => hs ((toList_emp s).1.1 h)
    have HN := Lib.hid hn
    clear hn hf hs
    go_enter Try.func31, Try.ntmps31
    go_wp2_with fail
    refine (named_any c t _).mono ?_
    rintro en w1 ⟨rfl, nd, rfl⟩
    rw [HN.out]
    go_wp2
    go_ret
    exact ⟨rfl, below_draws ((Below.refl _ _).alloc (Nat.le_refl _) _) _⟩

set_option maxRecDepth 100000 in
set_option maxHeartbeats 2000000 in
theorem follows_first (n : NodeT) (w : World) :
    Calls Try.prog 31 #[.pointer none, .agg #[.int .i64 n.1, .int .i64 n.2.1, .bool n.2.2.1, .int .i64 n.2.2.2.1, .string n.2.2.2.2]] w fun en w' => en = .returned (.bool (follB none n)) ∧ Below w.heap.size w w' := by
  cases h : (namedB n.2.1 n.2.2.2.1 && !(n.2.2.1 && decide (n.2.2.2.2.size ≠ 0))) with
  | false => exact follows_bad _ none n w h
  | true =>
    have hf : follB none n = (decide (n.1 = 1)) := by rw [foll_none, h, Bool.true_and]
    rw [hf]
    obtain ⟨d, c, m, t, s⟩ := n
    simp only [Bool.and_eq_true, Bool.not_eq_true', Bool.and_eq_false_iff, decide_eq_false_iff_not] at h ⊢
    obtain ⟨hn, hms⟩ := h
    clear hf
    have HN := Lib.hid hn
    clear hn
    cases m with
    | false =>
      clear hms
      by_cases hd : d = 1
      · subst hd
        go_enter Try.func31, Try.ntmps31
        go_wp2_with fail
        refine (named_any c t _).mono ?_
        rintro en w1 ⟨rfl, nd, rfl⟩
        rw [HN.out]
        go_wp2
        go_ret
        exact ⟨rfl, below_draws ((Below.refl _ _).alloc (Nat.le_refl _) _) _⟩
      · have e : decide (d = 1) = false := decide_eq_false hd
        have e2 : (d == 1) = false := beq_eq_false_iff_ne.2 hd
        rw [e]
        go_enter Try.func31, Try.ntmps31
        go_wp2_with fail
        refine (named_any c t _).mono ?_
        rintro en w1 ⟨rfl, nd, rfl⟩
        rw [HN.out]
        go_wp2
        go_ret
        exact ⟨rfl, below_draws ((Below.refl _ _).alloc (Nat.le_refl _) _) _⟩
    | true =>
      have hs : s.size = 0 := by
        rcases hms with h | h
        · cases h
        · omega
      have he : s.toList = [] := (toList_emp s).2.2 hs
      have he2 : s.toList.isEmpty = true := (toList_emp s).1.2 hs
      clear hms hs
      by_cases hd : d = 1
      · subst hd
        go_enter Try.func31, Try.ntmps31
        go_wp2_with fail
        refine (named_any c t _).mono ?_
        rintro en w1 ⟨rfl, nd, rfl⟩
        rw [HN.out]
        go_wp2
        go_ret
        exact ⟨rfl, below_draws ((Below.refl _ _).alloc (Nat.le_refl _) _) _⟩
      · have e : decide (d = 1) = false := decide_eq_false hd
        have e2 : (d == 1) = false := beq_eq_false_iff_ne.2 hd
        rw [e]
        go_enter Try.func31, Try.ntmps31
        go_wp2_with fail
        refine (named_any c t _).mono ?_
        rintro en w1 ⟨rfl, nd, rfl⟩
        rw [HN.out]
        go_wp2
        go_ret
        exact ⟨rfl, below_draws ((Below.refl _ _).alloc (Nat.le_refl _) _) _⟩

set_option maxRecDepth 100000 in
set_option maxHeartbeats 2000000 in
theorem follows_next (ad : Addr) (bd : Int) (bm : Bool) (n : NodeT) (w : World) (hb : 0 ≤ bd) (hb2 : bd ≤ 64) (c0 : w.cell? ad = some (.int .i64 bd)) (c2 : w.cell? ⟨ad.block, ad.off + 2, none⟩ = some (.bool bm)) (hlt : ad.block < w.heap.size) (hsp : ad.spot = none) :
    Calls Try.prog 31 #[.pointer (some ad), .agg #[.int .i64 n.1, .int .i64 n.2.1, .bool n.2.2.1, .int .i64 n.2.2.2.1, .string n.2.2.2.2]] w fun en w' => en = .returned (.bool (follB (some (bd, bm)) n)) ∧ Below w.heap.size w w' := by
  obtain ⟨ab, ao, asp⟩ := ad
  simp only at hsp hlt c2
  subst hsp
  cases h : (namedB n.2.1 n.2.2.2.1 && !(n.2.2.1 && decide (n.2.2.2.2.size ≠ 0))) with
  | false => exact follows_bad _ _ n w h
  | true =>
    have hf : follB (some (bd, bm)) n = (decide (2 ≤ n.1) && decide (n.1 ≤ if bm = true then bd + 1 else bd)) := by rw [foll_some, h, Bool.true_and]
    rw [hf]
    obtain ⟨d, c, m, t, s⟩ := n
    simp only [Bool.and_eq_true, Bool.not_eq_true', Bool.and_eq_false_iff, decide_eq_false_iff_not] at h ⊢
    obtain ⟨hn, hms⟩ := h
    clear hf
    have HN := Lib.hid hn
    clear hn
    obtain ⟨most, hmost⟩ : ∃ x, x = if bm = true then bd + 1 else bd := ⟨_, rfl⟩
    rw [← hmost]
    have HM := Lib.hid hmost
    have hmr : 0 ≤ most ∧ most ≤ 65 := by rw [hmost]; split <;> omega
    clear hmost
    have hcases : m = false ∨ (m = true ∧ s.toList = [] ∧ s.toList.isEmpty = true) := by
      cases m with
      | false => exact .inl rfl
      | true =>
        have hs : s.size = 0 := by
          rcases hms with h | h
          · cases h
          · omega
        exact .inr ⟨rfl, (toList_emp s).2.2 hs, (toList_emp s).1.2 hs⟩
    clear hms
    by_cases hd : 2 ≤ d
    · have q1 : decide (2 ≤ d) = true := decide_eq_true hd
      rw [q1, Bool.true_and]
      rcases hcases with rfl | ⟨rfl, he, he2⟩
      all_goals
        cases bm
        all_goals
          have hm2 := HM.out
          simp only [if_true, Bool.false_eq_true, if_false] at hm2
          subst hm2
          go_enter Try.func31, Try.ntmps31
          go_wp2_with fail
          refine (named_any c t _).mono ?_
          rintro en w1 ⟨rfl, nd, rfl⟩
          rw [HN.out]
          go_wp2
          all_goals
            go_ret
            first
              | exact ⟨rfl, below_draws ((Below.refl _ _).alloc (Nat.le_refl _) _) _⟩
              | exact ⟨by simp_all, below_draws ((Below.refl _ _).alloc (Nat.le_refl _) _) _⟩
    · have q1 : decide (2 ≤ d) = false := decide_eq_false hd
      rw [q1, Bool.false_and]
      rcases hcases with rfl | ⟨rfl, he, he2⟩
      all_goals
        cases bm
        all_goals
          go_enter Try.func31, Try.ntmps31
          go_wp2_with fail
          refine (named_any c t _).mono ?_
          rintro en w1 ⟨rfl, nd, rfl⟩
          rw [HN.out]
          go_wp2
          all_goals
            go_ret
            first
              | exact ⟨rfl, below_draws ((Below.refl _ _).alloc (Nat.le_refl _) _) _⟩
              | exact ⟨by simp_all, below_draws ((Below.refl _ _).alloc (Nat.le_refl _) _) _⟩
end Go.Proofs.Ytbloccjogadlmaa.W
