/- Contracts of the statements' own helpers: sound, small, sameNodes, sameElems. -/
import Derived.Test.YtbloccjogadlmaaWm
import Derived.Lib.Hide
import Derived.Test.YtbloccjogadlmaaGSx2
import Derived.Test.YtbloccjogadlmaaGSx3
import Derived.Test.YtbloccjogadlmaaGSx3

namespace Go.Proofs.Ytbloccjogadlmaa.W
open Go.RowKit Go.Proofs.Ytbloccjogadlmaa.GS Go.Proofs.YtbloccjogadlmaaW.PrintWords Go.Proofs.YtbloccjogadlmaaW.PrintLast
set_option linter.unusedVariables false
set_option linter.unusedSimpArgs false

theorem wrI (x : Int) (h0 : -9223372036854775808 ≤ x) (h1 : x < 9223372036854775808) : wrap64 x = x := by unfold wrap64; omega
def sdn (x : S39) : NodeT := (x.f0, x.f1, x.f2, x.f3, x.f4)
def sup (x : NodeT) : S39 := ⟨x.1, x.2.1, x.2.2.1, x.2.2.2.1, x.2.2.2.2⟩
theorem rd_sup (xs : List NodeT) (i : Nat) : rd_T39 (xs.map sup) (i : Int) = sup (nd xs i) := by
  unfold rd_T39 nd
  rw [Int.toNat_natCast]
  by_cases h : i < xs.length
  · rw [List.getD_eq_getElem?_getD, List.getD_eq_getElem?_getD, List.getElem?_map, List.getElem?_eq_getElem h]
    rfl
  · rw [List.getD_eq_getElem?_getD, List.getD_eq_getElem?_getD, List.getElem?_map, List.getElem?_eq_none (by omega)]
    rfl
/-- May the node i stand where it stands, and no deeper than 64? -/
def goodAt (xs : List NodeT) (i : Nat) : Bool := follB (prevOf xs i) (nd xs i) && decide ((nd xs i).1 ≤ 64)
/-- Is the list a tree of at most 64 depths? -/
def soundN (xs : List NodeT) : Nat → Nat → Bool
  | 0, _ => true
  | n + 1, i => goodAt xs i && soundN xs n (i + 1)
def soundB (xs : List NodeT) : Bool := soundN xs xs.length 0 && decide (0 < xs.length)
theorem soundN_at (xs : List NodeT) : ∀ (n i : Nat), soundN xs n i = true → ∀ j, i ≤ j → j < i + n → goodAt xs j = true := by
  intro n
  induction n with
  | zero => intro i h j h1 h2; omega
  | succ n ih =>
    intro i h j h1 h2
    rw [soundN, Bool.and_eq_true] at h
    by_cases e : j = i
    · subst e; exact h.1
    · exact ih (i + 1) h.2 j (by omega) (by omega)
theorem sound_bad (xs : List NodeT) : ∀ (n i : Nat), i + n = xs.length → (soundN xs n i = true ↔ badN xs (n + 1) i = none) := by
  intro n
  induction n with
  | zero => intro i h; rw [soundN, badN, if_neg (by omega)]; simp
  | succ n ih =>
    intro i h
    rw [soundN, badN, if_pos (by omega), Bool.and_eq_true]
    unfold goodAt
    rw [Bool.and_eq_true, decide_eq_true_eq]
    by_cases c : follB (prevOf xs i) (nd xs i) = true
    · rw [if_pos c]
      by_cases c2 : 64 < (nd xs i).1
      · rw [if_pos c2]
        refine ⟨fun h => by omega, fun h => by cases h⟩
      · rw [if_neg c2]
        refine ⟨fun h => (ih (i + 1) (by omega)).1 h.2, fun h => ⟨⟨c, by omega⟩, (ih (i + 1) (by omega)).2 h⟩⟩
    · rw [if_neg c]
      exact ⟨fun h => absurd h.1.1 c, fun h => by cases h⟩
def fit (x : NodeT) : Prop := -9223372036854775808 ≤ x.1 ∧ x.1 ≤ 9223372036854775807

/-- One step of sound. -/
theorem sound_step (xs : List NodeT) (i : Nat) (hi : i < xs.length) (hl : xs.length ≤ 100000000) (hprev : 0 < i → 1 ≤ (nd xs (i - 1)).1 ∧ (nd xs (i - 1)).1 ≤ 64) :
    ∀ r, (goodAt xs i = true → Ev (fun k => rosterlaw02_sound.l0 k (xs.map sup) ((i + 1 : Nat) : Int)) r) → (goodAt xs i = false → r = false) → Ev (fun k => rosterlaw02_sound.l0 k (xs.map sup) (i : Int)) r := by
  intro r hgo hno
  obtain ⟨n, hn⟩ : ∃ n, n = nd xs i := ⟨_, rfl⟩
  have hrd := rd_sup xs i
  rw [← hn] at hrd
  have hlen : ((xs.map sup).length : Int) = xs.length := by rw [List.length_map]
  have q1 : (i : Int) < ((xs.map sup).length : Int) := by rw [hlen]; omega
  have q2 : (0 : Int) ≤ (i : Int) := by omega
  have wi : Hid (wrap64 ((i : Int) + 1) = ((i + 1 : Nat) : Int)) := by unfold Hid; rw [wrI _ (by omega) (by omega)]; omega
  have hg : goodAt xs i = (follB (prevOf xs i) n && decide (n.1 ≤ 64)) := by unfold goodAt; rw [hn]
  have fin : ∀ (x : Bool), (∀ k, rosterlaw02_sound.l0 (k + 1) (xs.map sup) (i : Int) = rosterlaw02_sound.j1 k (xs.map sup) i x n.1 n.2.1 n.2.2.1 n.2.2.2.1 n.2.2.2.2) → (x = true → goodAt xs i = false) → (x = false → namedB n.2.1 n.2.2.2.1 = true ∧ n.1 ≤ 64) → Ev (fun k => rosterlaw02_sound.l0 k (xs.map sup) (i : Int)) r := by
    intro x hx hxt hxf
    refine Ev.step hx ?_
    cases x with
    | true =>
      have := hno (hxt rfl)
      subst this
      exact Ev.step (f := fun _ => some _) (fun k => by rw [rosterlaw02_sound.j1, if_pos rfl]) (Ev.now _)
    | false =>
      obtain ⟨hnm, hd64⟩ := hxf rfl
      have hfol : follB (prevOf xs i) n = (!(n.2.2.1 && decide (n.2.2.2.2.size ≠ 0)) && match prevOf xs i with
          | none => decide (n.1 = 1)
          | some (d, m) => decide (2 ≤ n.1) && decide (n.1 ≤ if m = true then d + 1 else d)) := by
        unfold follB
        rw [hnm, Bool.true_and]
        cases prevOf xs i with
        | none => rfl
        | some x => rfl
      have hd : decide (n.1 ≤ 64) = true := decide_eq_true hd64
      rw [hd, Bool.and_true, hfol] at hg
      obtain ⟨mb, hmb⟩ : ∃ mb, mb = (n.2.2.1 && decide (n.2.2.2.2.size ≠ 0)) := ⟨_, rfl⟩
      rw [← hmb] at hg
      have hj2 : ∀ k, rosterlaw02_sound.j1 (k + 1) (xs.map sup) i false n.1 n.2.1 n.2.2.1 n.2.2.2.1 n.2.2.2.2 = rosterlaw02_sound.j2 k (xs.map sup) i mb n.1 n.2.1 n.2.2.1 n.2.2.2.1 n.2.2.2.2 := by
        intro k
        rw [rosterlaw02_sound.j1, if_neg Bool.false_ne_true]
        cases hm : n.2.2.1 with
        | true =>
          rw [if_pos rfl]
          congr 1
          rw [hmb, hm, Bool.true_and]
          have ht : n.2.2.2.2.toList.length = n.2.2.2.2.size := by rw [ByteArray.toList_eq, Array.length_toList]; rfl
          by_cases hz : n.2.2.2.2.size = 0
          · have : n.2.2.2.2.toList = [] := List.eq_nil_of_length_eq_zero (by omega)
            rw [this]
            simp [hz]
          · have : n.2.2.2.2.toList ≠ [] := fun h => hz (by rw [← ht, h]; rfl)
            simp [hz, this]
        | false =>
          rw [if_neg Bool.false_ne_true]
          congr 1
          rw [hmb, hm, Bool.false_and]
      refine Ev.step hj2 ?_
      cases mb with
      | true =>
        have hgf : goodAt xs i = false := by rw [hg]; rfl
        have := hno hgf
        subst this
        exact Ev.step (f := fun _ => some _) (fun k => by rw [rosterlaw02_sound.j2, if_pos rfl]) (Ev.now _)
      | false =>
        by_cases h0 : i = 0
        · subst h0
          have hpv : prevOf xs 0 = none := rfl
          rw [hpv] at hg
          simp only [Bool.not_false, Bool.true_and] at hg
          refine Ev.step (f := fun k => rosterlaw02_sound.j3 k (xs.map sup) ((0 : Nat) : Int) (n.1 != 1) n.1 n.2.1 n.2.2.1 n.2.2.2.1 n.2.2.2.2) (fun k => by rw [rosterlaw02_sound.j2, if_neg Bool.false_ne_true, if_pos (by rfl)]) ?_
          by_cases hd1 : n.1 = 1
          · have e1 : (n.1 != 1) = false := by rw [bne_eq_false_iff_eq]; exact hd1
            rw [e1]
            refine Ev.step (f := fun k => rosterlaw02_sound.j4 k (xs.map sup) ((0 : Nat) : Int) false n.1 n.2.1 n.2.2.1 n.2.2.2.1 n.2.2.2.2) (fun k => by rw [rosterlaw02_sound.j3, if_neg Bool.false_ne_true, if_neg (by decide)]) ?_
            have hgt : goodAt xs 0 = true := by rw [hg, hd1]; rfl
            refine Ev.step (fun k => ?_) (hgo hgt)
            rw [rosterlaw02_sound.j4, if_neg Bool.false_ne_true, if_neg (by decide), wi.out]
          · have e1 : (n.1 != 1) = true := by rw [bne_iff_ne]; exact hd1
            rw [e1]
            have hgf : goodAt xs 0 = false := by rw [hg]; exact decide_eq_false hd1
            have := hno hgf
            subst this
            exact Ev.step (f := fun _ => some _) (fun k => by rw [rosterlaw02_sound.j3, if_pos rfl]) (Ev.now _)
        · have hpv : prevOf xs i = some ((nd xs (i - 1)).1, (nd xs (i - 1)).2.2.1) := by unfold prevOf; rw [if_neg h0]
          rw [hpv] at hg
          simp only [Bool.not_false, Bool.true_and] at hg
          have hp := hprev (by omega)
          have e1 : ((i : Int) - 1) = ((i - 1 : Nat) : Int) := by omega
          have w1 : Hid (wrap64 ((i : Int) - 1) = ((i - 1 : Nat) : Int)) := by unfold Hid; rw [wrI _ (by omega) (by omega), e1]
          have hrp := rd_sup xs (i - 1)
          obtain ⟨p, hpp⟩ : ∃ p, p = nd xs (i - 1) := ⟨_, rfl⟩
          rw [← hpp] at hg hp hrp
          have w2 : Hid (wrap64 (p.1 + 1) = p.1 + 1) := wrI _ (by omega) (by omega)
          have q3 : (0 : Int) ≤ ((i - 1 : Nat) : Int) := by omega
          have q4 : ((i - 1 : Nat) : Int) < ((xs.map sup).length : Int) := by rw [hlen]; omega
          have q5 : (i : Int) > 0 := by omega
          have q6 : ¬ (i : Int) = 0 := by omega
          refine Ev.step (f := fun k => rosterlaw02_sound.j3 k (xs.map sup) (i : Int) false n.1 n.2.1 n.2.2.1 n.2.2.2.1 n.2.2.2.2) (fun k => by rw [rosterlaw02_sound.j2, if_neg Bool.false_ne_true, if_neg q6]) ?_
          have hend : goodAt xs i = false → Ev (fun k => rosterlaw02_sound.j4 k (xs.map sup) (i : Int) true n.1 n.2.1 n.2.2.1 n.2.2.2.1 n.2.2.2.2) r := by
            intro hgf
            have := hno hgf
            subst this
            exact Ev.step (f := fun _ => some _) (fun k => by rw [rosterlaw02_sound.j4, if_pos rfl]) (Ev.now _)
          by_cases c1 : n.1 < 2
          · refine Ev.step (fun k => by rw [rosterlaw02_sound.j3, if_neg Bool.false_ne_true, if_pos q5, if_pos c1]) (hend ?_)
            rw [hg, decide_eq_false (show ¬ 2 ≤ n.1 by omega), Bool.false_and]
          · by_cases c2 : n.1 > p.1 + 1
            · refine Ev.step (fun k => by rw [rosterlaw02_sound.j3, if_neg Bool.false_ne_true, if_pos q5, if_neg c1, w1.out, if_pos q3, if_pos q4, hrp]; show rosterlaw02_sound.j4 k (xs.map sup) i (decide (n.1 > wrap64 (p.1 + 1))) n.1 n.2.1 n.2.2.1 n.2.2.2.1 n.2.2.2.2 = _; rw [w2.out, decide_eq_true c2]) (hend ?_)
              rw [hg, decide_eq_false (show ¬ n.1 ≤ if p.2.2.1 = true then p.1 + 1 else p.1 by split <;> omega), Bool.and_false]
            · refine Ev.step (f := fun k => rosterlaw02_sound.j4 k (xs.map sup) (i : Int) false n.1 n.2.1 n.2.2.1 n.2.2.2.1 n.2.2.2.2) (fun k => by rw [rosterlaw02_sound.j3, if_neg Bool.false_ne_true, if_pos q5, if_neg c1, w1.out, if_pos q3, if_pos q4, hrp]; show rosterlaw02_sound.j4 k (xs.map sup) i (decide (n.1 > wrap64 (p.1 + 1))) n.1 n.2.1 n.2.2.1 n.2.2.2.1 n.2.2.2.2 = _; rw [w2.out, decide_eq_false c2]) ?_
              rw [decide_eq_true (show 2 ≤ n.1 by omega), Bool.true_and] at hg
              have hj4 : ∀ k, rosterlaw02_sound.j4 (k + 1) (xs.map sup) (i : Int) false n.1 n.2.1 n.2.2.1 n.2.2.2.1 n.2.2.2.2 = if n.1 > p.1 then (if p.2.2.1 = true then rosterlaw02_sound.l0 k (xs.map sup) ((i + 1 : Nat) : Int) else some false) else rosterlaw02_sound.l0 k (xs.map sup) ((i + 1 : Nat) : Int) := by
                intro k
                rw [rosterlaw02_sound.j4, if_neg Bool.false_ne_true, if_pos q5, w1.out, if_pos q3, if_pos q4, hrp, wi.out]
                rfl
              by_cases c3 : n.1 > p.1
              · cases hpm : p.2.2.1 with
                | true =>
                  refine Ev.step (fun k => by rw [hj4, if_pos c3, hpm, if_pos rfl]) (hgo ?_)
                  rw [hg, hpm, if_pos rfl]
                  exact decide_eq_true (by omega)
                | false =>
                  have hgf : goodAt xs i = false := by rw [hg, hpm, if_neg Bool.false_ne_true]; exact decide_eq_false (by omega)
                  have := hno hgf
                  subst this
                  exact Ev.step (f := fun _ => some _) (fun k => by rw [hj4, if_pos c3, hpm, if_neg Bool.false_ne_true]) (Ev.now _)
              · refine Ev.step (fun k => by rw [hj4, if_neg c3]) (hgo ?_)
                rw [hg]
                exact decide_eq_true (by split <;> omega)
  have hnb : namedB n.2.1 n.2.2.2.1 = decide (0 ≤ n.2.1 ∧ n.2.1 ≤ 3 ∧ 0 ≤ n.2.2.2.1 ∧ n.2.2.2.1 < 31) := rfl
  have hgnb : namedB n.2.1 n.2.2.2.1 = false → goodAt xs i = false := fun h => by rw [hg]; unfold follB; rw [h]; simp
  by_cases c1 : n.2.1 < 0
  · exact fin true (fun k => by rw [rosterlaw02_sound.l0, if_pos q1, if_pos q2, hrd]; exact if_pos c1) (fun _ => hgnb (by rw [hnb]; exact decide_eq_false (by omega))) (fun h => by cases h)
  by_cases c2 : n.2.1 > 3
  · exact fin true (fun k => by rw [rosterlaw02_sound.l0, if_pos q1, if_pos q2, hrd]; exact (if_neg c1).trans (if_pos c2)) (fun _ => hgnb (by rw [hnb]; exact decide_eq_false (by omega))) (fun h => by cases h)
  by_cases c3 : n.2.2.2.1 < 0
  · exact fin true (fun k => by rw [rosterlaw02_sound.l0, if_pos q1, if_pos q2, hrd]; exact (if_neg c1).trans ((if_neg c2).trans (if_pos c3))) (fun _ => hgnb (by rw [hnb]; exact decide_eq_false (by omega))) (fun h => by cases h)
  by_cases c4 : n.2.2.2.1 > 30
  · exact fin true (fun k => by rw [rosterlaw02_sound.l0, if_pos q1, if_pos q2, hrd]; exact (if_neg c1).trans ((if_neg c2).trans ((if_neg c3).trans (if_pos c4)))) (fun _ => hgnb (by rw [hnb]; exact decide_eq_false (by omega))) (fun h => by cases h)
  refine fin (decide (n.1 > 64)) (fun k => by rw [rosterlaw02_sound.l0, if_pos q1, if_pos q2, hrd]; exact (if_neg c1).trans ((if_neg c2).trans ((if_neg c3).trans (if_neg c4)))) (fun h => ?_) (fun h => ?_)
  · rw [hg, decide_eq_false (show ¬ n.1 ≤ 64 by have := of_decide_eq_true h; omega), Bool.and_false]
  · exact ⟨by rw [hnb]; exact decide_eq_true (by omega), by have := of_decide_eq_false h; omega⟩
theorem sound_loop (xs : List NodeT) (hl : xs.length ≤ 100000000) : ∀ (m i : Nat), i + m = xs.length → (0 < i → 1 ≤ (nd xs (i - 1)).1 ∧ (nd xs (i - 1)).1 ≤ 64) → Ev (fun k => rosterlaw02_sound.l0 k (xs.map sup) (i : Int)) (soundN xs m i && decide (0 < xs.length)) := by
  intro m
  induction m with
  | zero =>
    intro i hi hp
    refine Ev.step (f := fun _ => some _) (fun k => ?_) (Ev.now _)
    rw [rosterlaw02_sound.l0, List.length_map, if_neg (by omega), soundN, Bool.true_and]
    congr 1
    rw [decide_eq_decide]
    omega
  | succ m ih =>
    intro i hi hp
    refine sound_step xs i (by omega) hl hp _ (fun hg => ?_) (fun hg => by rw [soundN, hg]; rfl)
    have hgd : 1 ≤ (nd xs i).1 ∧ (nd xs i).1 ≤ 64 := by
      unfold goodAt at hg
      rw [Bool.and_eq_true, decide_eq_true_eq] at hg
      refine ⟨?_, hg.2⟩
      have h := hg.1
      unfold follB at h
      simp only [Bool.and_eq_true] at h
      obtain ⟨_, h⟩ := h
      cases hb : prevOf xs i with
      | none => rw [hb] at h; simp at h; omega
      | some x => obtain ⟨d, mm⟩ := x; rw [hb] at h; simp at h; omega
    have := ih (i + 1) (by omega) (fun _ => hgd)
    rw [soundN, hg, Bool.true_and]
    exact this
theorem sound_f (xs : List NodeT) (hl : xs.length ≤ 100000000) : Ev (fun k => rosterlaw02_sound.f k (xs.map sup)) (soundB xs) := by
  have := sound_loop xs hl xs.length 0 (by omega) (fun h => by omega)
  exact Ev.congr (fun k => by rw [rosterlaw02_sound.f]; rfl) this

/-! small -/
theorem small_loop (xs : List NodeT) (hl : xs.length ≤ 100000000) (hs : ∀ i, (nd xs i).2.2.2.2.size ≤ 140737488351232) : ∀ (m i : Nat), i + m = xs.length → wt xs 0 i ≤ 67108864 → Ev (fun k => rosterlaw02_small.l0 k (xs.map sup) (wt xs 0 i : Nat) (i : Int)) (decide (wt xs 0 xs.length ≤ 67108864)) := by
  intro m
  induction m with
  | zero =>
    intro i hi hw
    obtain rfl : i = xs.length := by omega
    refine Ev.step (f := fun _ => some _) (fun k => ?_) (Ev.now _)
    rw [rosterlaw02_small.l0, List.length_map, if_neg (by omega)]
    congr 1
    exact (decide_eq_true hw).symm
  | succ m ih =>
    intro i hi hw
    have h1 := wt_one xs (i := i) (by omega)
    have h2 := wt_split xs (i := 0) (j := i) (k := i + 1) (by omega) (by omega)
    have h3 := wt_split xs (i := 0) (j := i + 1) (k := xs.length) (by omega) (by omega)
    have hsi := hs i
    have hrd := rd_sup xs i
    have hih := ih (i + 1) (by omega)
    have hz : (sup (nd xs i)).f4.size = (nd xs i).2.2.2.2.size := rfl
    rw [h1] at h2
    clear h1 ih hs
    obtain ⟨a, ha⟩ : ∃ a, wt xs 0 i = a := ⟨_, rfl⟩
    obtain ⟨b, hb⟩ : ∃ b, wt xs 0 (i + 1) = b := ⟨_, rfl⟩
    obtain ⟨t, ht⟩ : ∃ t, wt xs 0 xs.length = t := ⟨_, rfl⟩
    obtain ⟨u, hu⟩ : ∃ u, wt xs (i + 1) xs.length = u := ⟨_, rfl⟩
    obtain ⟨z, hz2⟩ : ∃ z, (nd xs i).2.2.2.2.size = z := ⟨_, rfl⟩
    rw [hz2] at hz h2 hsi
    rw [ha] at hw h2 ⊢
    rw [hb] at h2 h3 hih
    rw [ht] at h3 hih ⊢
    rw [hu] at h3
    obtain ⟨L, hL⟩ : ∃ L, L = xs.map sup := ⟨_, rfl⟩
    have hLl : L.length = xs.length := by rw [hL, List.length_map]
    rw [← hL] at hrd hih ⊢
    obtain ⟨n, hn⟩ : ∃ n, n = xs.length := ⟨_, rfl⟩
    rw [← hn] at hi hl hLl
    clear ha hb ht hu hz2 hL hn
    have q1 : (i : Int) < (L.length : Int) := by omega
    have q2 : (0 : Int) ≤ (i : Int) := by omega
    have e1 : (a : Int) + (z : Int) + 6 = (b : Int) := by omega
    have e2 : (i : Int) + 1 = ((i + 1 : Nat) : Int) := by omega
    have hsum : wrap64 (wrap64 ((a : Int) + (((rd_T39 L (i : Int)).f4).size : Int)) + 6) = (b : Int) := by
      rw [hrd, hz, wrI ((a : Int) + (z : Int)) (by omega) (by omega), e1, wrI (b : Int) (by omega) (by omega)]
    have hnx : wrap64 ((i : Int) + 1) = ((i + 1 : Nat) : Int) := by rw [e2, wrI _ (by omega) (by omega)]
    have hs1 : ∀ k, rosterlaw02_small.l0 (k + 1) L (a : Int) (i : Int) = if (b : Int) > 67108864 then some false else rosterlaw02_small.l0 k L (b : Int) ((i + 1 : Nat) : Int) := by
      intro k
      rw [rosterlaw02_small.l0, if_pos q1, if_pos q2, hsum, hnx]
    clear hsum hnx
    by_cases c : b ≤ 67108864
    · have c2 : ¬ (b : Int) > 67108864 := by omega
      exact Ev.step (fun k => (hs1 k).trans (if_neg c2)) (hih c)
    · have c2 : (b : Int) > 67108864 := by omega
      have c3 : decide (t ≤ 67108864) = false := decide_eq_false (by omega)
      rw [c3]
      exact Ev.step (f := fun _ => some false) (fun k => (hs1 k).trans (if_pos c2)) (Ev.now _)
theorem small_f (xs : List NodeT) (hl : xs.length ≤ 100000000) (hs : ∀ i, (nd xs i).2.2.2.2.size ≤ 140737488351232) : Ev (fun k => rosterlaw02_small.f k (xs.map sup)) (decide (wt xs 0 xs.length ≤ 67108864)) := by
  have h0 : wt xs 0 0 = 0 := by unfold wt; simp
  have := small_loop xs hl hs xs.length 0 (by omega) (by omega)
  rw [h0] at this
  exact Ev.congr (fun k => by rw [rosterlaw02_small.f]; rfl) this
theorem nd_mem {xs : List NodeT} {P : NodeT → Prop} (h : ∀ x ∈ xs, P x) (hz : P zN) (i : Nat) : P (nd xs i) := by
  unfold nd
  by_cases hi : i < xs.length
  · rw [List.getD_eq_getElem?_getD, List.getElem?_eq_getElem hi]
    exact h _ (List.getElem_mem hi)
  · rw [List.getD_eq_getElem?_getD, List.getElem?_eq_none (by omega)]
    exact hz
theorem nd_wt (xs : List NodeT) (i : Nat) : (nd xs i).2.2.2.2.size ≤ wt xs 0 xs.length := by
  by_cases hi : i < xs.length
  · have h1 := wt_one xs hi
    have h2 := wt_split xs (i := 0) (j := i) (k := i + 1) (by omega) (by omega)
    have h3 := wt_all xs (i + 1)
    omega
  · have : nd xs i = zN := by
      unfold nd
      rw [List.getD_eq_getElem?_getD, List.getElem?_eq_none (by omega)]
      rfl
    rw [this]
    exact Nat.zero_le _
theorem C_up {α β : Type} {d : Kd α} {f : β → α} (g : α → β) (hfg : ∀ x, f (g x) = x) {w : World} {A : Option Addr} {n : Nat} {xs : List α} (h : Kd.C d w A n xs) : Kd.C (Kd.iso d f) w A n (xs.map g) := by
  obtain ⟨h1, h2, h3⟩ := h
  refine ⟨by rw [List.length_map]; exact h1, h2, fun hn => ?_⟩
  obtain ⟨ad, e, hc⟩ := h3 hn
  refine ⟨ad, e, fun j p hj => ?_⟩
  rw [List.getElem?_map] at hj
  obtain ⟨q, hq, rfl⟩ := Option.map_eq_some_iff.1 hj
  obtain ⟨c, k1, k2, k3⟩ := hc j q hq
  refine ⟨c, k1, ?_, k3⟩
  show d.K w (f (g q)) c
  rw [hfg]
  exact k2
theorem sound_any (A : Option Addr) (c : Nat) (xs : List NodeT) (w : World) (hr : Kd.C kNode w A xs.length xs) (hc : xs.length ≤ c) (hl : xs.length ≤ 100000000) :
    Calls Try.prog 10 #[.slice A xs.length c] w fun e w' => e = .returned (.bool (soundB xs)) ∧ Below w.heap.size w w' := by
  obtain ⟨k, hk⟩ := (sound_f xs hl).rounds
  have h := C_up (d := kNode) (f := sdn) sup (fun _ => rfl) hr
  have e : (xs.map sup).length = xs.length := List.length_map _
  rw [← e] at h hc ⊢
  exact rosterlaw02_sound.calls k A c _ _ w h hc hk
theorem small_any (A : Option Addr) (c : Nat) (xs : List NodeT) (w : World) (hr : Kd.C kNode w A xs.length xs) (hc : xs.length ≤ c) (hl : xs.length ≤ 100000000) (hs : ∀ i, (nd xs i).2.2.2.2.size ≤ 140737488351232) :
    Calls Try.prog 11 #[.slice A xs.length c] w fun e w' => e = .returned (.bool (decide (wt xs 0 xs.length ≤ 67108864))) ∧ Below w.heap.size w w' := by
  obtain ⟨k, hk⟩ := (small_f xs hl hs).rounds
  have h := C_up (d := kNode) (f := sdn) sup (fun _ => rfl) hr
  have e : (xs.map sup).length = xs.length := List.length_map _
  rw [← e] at h hc
  have h2 := rosterlaw02_small.calls k A c _ _ w h hc hk
  rw [e] at h2
  exact h2.mono fun en w' ⟨h1, h3⟩ => ⟨h1, h3.below⟩
end Go.Proofs.Ytbloccjogadlmaa.W
