/- Plain law of spelt (no program in sight): headers laid from the last node to the first, each told its length by sums per depth; behind one another with the bodies they are the tree's bytes. -/
import Derived.Test.YtolhmomnidlmaaaLo
namespace Go.Proofs.Ytolhmomnidlmaaa.W
open Go.RowKit Go.Proofs.YtolhmomnidlmaaaW.PrintWords
set_option linter.unusedVariables false
set_option linter.unusedSimpArgs false

/-- The form of node i's length n: the one that is asked for, where it is wider than the shortest and may be. -/
def phiF (forms : List Int) (i : Nat) (n : Int) : Nat := if i < forms.length ∧ (wideK n : Int) < forms.getD i 0 ∧ forms.getD i 0 ≤ 4 then (forms.getD i 0).toNat else wideK n
theorem phiF_ok (forms : List Int) (i : Nat) (n : Int) (h0 : 0 ≤ n) (h1 : n ≤ 4294967295) : okForm n (phiF forms i n) := by
  have hw := wide_ok h0 h1
  unfold phiF
  by_cases c : i < forms.length ∧ (wideK n : Int) < forms.getD i 0 ∧ forms.getD i 0 ≤ 4
  · rw [if_pos c]
    have hlt : n < 256 ^ (forms.getD i 0).toNat := by
      have e : (forms.getD i 0).toNat = 1 ∨ (forms.getD i 0).toNat = 2 ∨ (forms.getD i 0).toNat = 3 ∨ (forms.getD i 0).toNat = 4 := by omega
      rcases hw with hw | hw
      · rcases e with e | e | e | e <;> rw [e] <;> simp <;> omega
      · have hw4 : wideK n = 1 ∨ wideK n = 2 ∨ wideK n = 3 := by omega
        obtain ⟨h2, h3, h4⟩ := hw
        rcases hw4 with g | g | g <;> rw [g] at h4 c <;> simp at h4 <;> rcases e with e | e | e | e <;> rw [e] <;> simp <;> omega
    exact Or.inr ⟨by omega, by omega, hlt⟩
  · rw [if_neg c]; exact hw
/-- The length that is told of node i, by the sums behind it. -/
def lenS (xs : List NodeT) (i : Nat) (S : Nat → Int) : Int := if (nd xs i).2.2.1 = true then S ((nd xs i).1.toNat + 1) else (nd xs i).2.2.2.2.size
def stepS (phi : Nat → Int → Nat) (xs : List NodeT) (i : Nat) (S : Nat → Int) : Nat → Int := fun d =>
  if d = (nd xs i).1.toNat then S d + hsz (phi i (lenS xs i S)) + lenS xs i S else if (nd xs i).2.2.1 = true ∧ d = (nd xs i).1.toNat + 1 then 0 else S d
/-- The sums, with m nodes done. -/
def sums (phi : Nat → Int → Nat) (xs : List NodeT) : Nat → Nat → Int
  | 0 => fun _ => 0
  | m + 1 => stepS phi xs (xs.length - (m + 1)) (sums phi xs m)
/-- Node i's header. -/
def hedS (phi : Nat → Int → Nat) (xs : List NodeT) (i : Nat) : ByteArray :=
  headS (nd xs i).2.1 (nd xs i).2.2.1 (nd xs i).2.2.2.1 (lenS xs i (sums phi xs (xs.length - (i + 1)))) (phi i (lenS xs i (sums phi xs (xs.length - (i + 1)))))
/-- All of it, up to node i. -/
def catS (phi : Nat → Int → Nat) (xs : List NodeT) : Nat → ByteArray
  | 0 => ⟨#[]⟩
  | i + 1 => catS phi xs i ++ hedS phi xs i ++ (nd xs i).2.2.2.2
/-- The same, backwards: what the nodes from i on sum up to at depth d, until one of a lesser depth. -/
def sumF (phi : Nat → Int → Nat) (xs : List NodeT) : Nat → Nat → Int → Int
  | 0, _, _ => 0
  | n + 1, i, d => if i < xs.length then (if (nd xs i).1 < d then 0 else if (nd xs i).1 = d then (encF (mkF phi xs (2 * xs.length + 2) i (d - 1)).1).length else sumF phi xs n (i + 1) d) else 0
/-- More rounds change nothing. -/
theorem mk_more (phi : Nat → Int → Nat) (xs : List NodeT) (hs : Snd xs) : ∀ f : Nat,
    (∀ i g, i < xs.length → 2 * (xs.length - i) + 1 ≤ f → f ≤ g → mkT phi xs g i = mkT phi xs f i) ∧
    (∀ i d g, i ≤ xs.length → 2 * (xs.length - i) + 2 ≤ f → f ≤ g → (i < xs.length → (nd xs i).1 ≤ d + 1) → mkF phi xs g i d = mkF phi xs f i d)
  | 0 => ⟨fun i g h1 h2 h3 => by omega, fun i d g h1 h2 h3 => by omega⟩
  | f + 1 => by
    obtain ⟨ih1, ih2⟩ := mk_more phi xs hs f
    refine ⟨fun i g h1 h2 h3 => ?_, fun i d g h1 h2 h3 h4 => ?_⟩
    · obtain ⟨g, rfl⟩ : ∃ q, g = q + 1 := ⟨g - 1, by omega⟩
      rw [mkT, mkT]
      by_cases hm : (nd xs i).2.2.1 = true
      · rw [if_pos hm, if_pos hm, ih2 (i + 1) _ g (by omega) (by omega) (by omega) (fun h => by have := (hs.next i h).2; rw [if_pos hm] at this; exact this)]
      · rw [if_neg hm, if_neg hm]
    · obtain ⟨g, rfl⟩ : ∃ q, g = q + 1 := ⟨g - 1, by omega⟩
      rw [mkF, mkF]
      by_cases hc : i < xs.length ∧ d < (nd xs i).1
      · rw [if_pos hc, if_pos hc]
        have e := ih1 i g hc.1 (by omega) (by omega)
        have hfl := (mk_flat phi xs hs f).1 i hc.1 (by omega)
        have h5 := h4 hc.1
        rw [e, ih2 (mkT phi xs f i).2 d g hfl.2.1 (by omega) (by omega) (fun h => by have := hfl.2.2.2 h; omega)]
      · rw [if_neg hc, if_neg hc]
theorem mk_deep (phi : Nat → Int → Nat) (xs : List NodeT) : ∀ f : Nat,
    (∀ i q, i < q → q < (mkT phi xs f i).2 → (nd xs i).1 < (nd xs q).1) ∧ (∀ i d q, i ≤ q → q < (mkF phi xs f i d).2 → d < (nd xs q).1)
  | 0 => ⟨fun i q h1 h2 => by rw [mkT] at h2; simp only at h2; omega, fun i d q h1 h2 => by rw [mkF] at h2; simp only at h2; omega⟩
  | f + 1 => by
    obtain ⟨ih1, ih2⟩ := mk_deep phi xs f
    refine ⟨fun i q h1 h2 => ?_, fun i d q h1 h2 => ?_⟩
    · rw [mkT] at h2
      by_cases hm : (nd xs i).2.2.1 = true
      · rw [if_pos hm] at h2
        exact ih2 (i + 1) _ q h1 h2
      · rw [if_neg hm] at h2
        simp only at h2
        omega
    · rw [mkF] at h2
      by_cases hc : i < xs.length ∧ d < (nd xs i).1
      · rw [if_pos hc] at h2
        simp only at h2
        by_cases e : q = i
        · rw [e]; exact hc.2
        · by_cases hq : q < (mkT phi xs f i).2
          · have := ih1 i q (by omega) hq
            have := hc.2
            omega
          · exact ih2 _ d q (by omega) h2
      · rw [if_neg hc] at h2
        simp only at h2
        omega
theorem sumF_low (phi : Nat → Int → Nat) (xs : List NodeT) (n i : Nat) (d : Int) (h : i < xs.length → (nd xs i).1 < d) : sumF phi xs n i d = 0 := by
  cases n with
  | zero => rfl
  | succ n =>
    rw [sumF]
    by_cases c : i < xs.length
    · rw [if_pos c, if_pos (h c)]
    · rw [if_neg c]
theorem sumF_skip (phi : Nat → Int → Nat) (xs : List NodeT) (d : Int) (j : Nat) (hj : j ≤ xs.length) : ∀ (t n i : Nat), i + t = j → (∀ q, i ≤ q → q < j → d < (nd xs q).1) → sumF phi xs (n + t) i d = sumF phi xs n j d := by
  intro t
  induction t with
  | zero => intro n i h _; rw [Nat.add_zero] at h; rw [h]; rfl
  | succ t ih =>
    intro n i h hq
    have h1 := hq i (Nat.le_refl _) (by omega)
    rw [← Nat.add_assoc, sumF, if_pos (by omega), if_neg (by omega), if_neg (by omega)]
    exact ih n (i + 1) (by omega) (fun q h2 h3 => hq q (by omega) h3)
/-- Where the node is no deeper than d: the bytes of those of depth d from there on. -/
theorem sumF_at (phi : Nat → Int → Nat) (xs : List NodeT) (hs : Snd xs) (n i f : Nat) (d : Int) (hn : 1 ≤ n) (hi : i ≤ xs.length) (hf : 2 * (xs.length - i) + 2 ≤ f) (hf2 : f ≤ 2 * xs.length + 2) (h : i < xs.length → (nd xs i).1 ≤ d) :
    sumF phi xs n i d = ((encF (mkF phi xs f i (d - 1)).1).length : Int) := by
  have hnil : (¬ (i < xs.length ∧ d - 1 < (nd xs i).1)) → ((encF (mkF phi xs f i (d - 1)).1).length : Int) = 0 := by
    intro hc
    obtain ⟨g, rfl⟩ : ∃ q, f = q + 1 := ⟨f - 1, by omega⟩
    rw [mkF, if_neg hc, encF]
    rfl
  obtain ⟨n, rfl⟩ : ∃ q, n = q + 1 := ⟨n - 1, by omega⟩
  by_cases c : i < xs.length
  · have h1 := h c
    by_cases c2 : (nd xs i).1 < d
    · rw [sumF, if_pos c, if_pos c2, hnil (by omega)]
    · rw [sumF, if_pos c, if_neg c2, if_pos (by omega), (mk_more phi xs hs f).2 i (d - 1) (2 * xs.length + 2) hi hf hf2 (fun _ => by omega)]
  · rw [sumF, if_neg c, hnil (by omega)]
theorem sums_eq (phi : Nat → Int → Nat) (xs : List NodeT) (hs : Snd xs) : ∀ m, m ≤ xs.length → ∀ d : Nat, 1 ≤ d → sums phi xs m d = sumF phi xs (m + 1) (xs.length - m) (d : Int) := by
  intro m
  induction m with
  | zero =>
    intro _ d hd
    rw [sumF_low]
    · rfl
    · intro h; omega
  | succ m ih =>
    intro hm d hd
    obtain ⟨i, hi⟩ : ∃ i, i = xs.length - (m + 1) := ⟨_, rfl⟩
    have hiL : i < xs.length := by omega
    have e1 : xs.length - m = i + 1 := by omega
    have ih := ih (by omega)
    rw [e1] at ih
    have hdp := hs.depth i hiL
    have hnx : i + 1 < xs.length → (nd xs (i + 1)).1 ≤ if (nd xs i).2.2.1 = true then (nd xs i).1 + 1 else (nd xs i).1 := fun h => (hs.next i h).2
    rw [← hi]
    show stepS phi xs (xs.length - (m + 1)) (sums phi xs m) d = _
    rw [← hi]
    unfold stepS
    rw [sumF, if_pos hiL]
    by_cases c1 : d = (nd xs i).1.toNat
    · rw [if_pos c1, if_neg (by omega), if_pos (by omega)]
      have hdD : (d : Int) = (nd xs i).1 := by omega
      -- the tree at i
      have hfl := (mk_flat phi xs hs (2 * xs.length + 1)).1 i hiL (by omega)
      have hdeep := (mk_deep phi xs (2 * xs.length + 1)).1 i
      obtain ⟨j, hj⟩ : ∃ j, j = (mkT phi xs (2 * xs.length + 1) i).2 := ⟨_, rfl⟩
      rw [← hj] at hfl hdeep
      have hS : sums phi xs m d = ((encF (mkF phi xs (2 * xs.length + 1) j ((nd xs i).1 - 1)).1).length : Int) := by
        rw [ih d hd, hdD]
        have hsk := sumF_skip phi xs (nd xs i).1 j hfl.2.1 (j - (i + 1)) (m + 1 - (j - (i + 1))) (i + 1) (by omega) (fun q q1 q2 => hdeep q (by omega) q2)
        have e2 : m + 1 - (j - (i + 1)) + (j - (i + 1)) = m + 1 := by omega
        rw [e2] at hsk
        rw [hsk]
        exact sumF_at phi xs hs _ j _ _ (by omega) hfl.2.1 (by omega) (by omega) hfl.2.2.2
      have hL : lenS xs i (sums phi xs m) = if (nd xs i).2.2.1 = true then ((encF (mkF phi xs (2 * xs.length) (i + 1) (nd xs i).1).1).length : Int) else ((nd xs i).2.2.2.2.size : Int) := by
        unfold lenS
        by_cases hmd : (nd xs i).2.2.1 = true
        · rw [if_pos hmd, if_pos hmd, ih _ (by omega)]
          have e3 : (((nd xs i).1.toNat + 1 : Nat) : Int) = (nd xs i).1 + 1 := by omega
          have e4 : (nd xs i).1 + 1 - 1 = (nd xs i).1 := by omega
          have := sumF_at phi xs hs (m + 1) (i + 1) (2 * xs.length) ((nd xs i).1 + 1) (by omega) (by omega) (by omega) (by omega) (fun h => by have := hnx h; rw [if_pos hmd] at this; exact this)
          rw [e3, this, e4]
        · rw [if_neg hmd, if_neg hmd]
      rw [mkF, if_pos ⟨hiL, by omega⟩, encF, List.length_append, hdD, ← hj, hS, hL]
      rw [mkT]
      by_cases hmd : (nd xs i).2.2.1 = true
      · rw [if_pos hmd, if_pos hmd]
        simp only
        rw [encT, List.length_append]
        have := head_len (nd xs i).2.1 true (nd xs i).2.2.2.1 ((encF (mkF phi xs (2 * xs.length) (i + 1) (nd xs i).1).1).length : Int) (phi i ((encF (mkF phi xs (2 * xs.length) (i + 1) (nd xs i).1).1).length : Int))
        omega
      · rw [if_neg hmd, if_neg hmd]
        simp only
        rw [encT, List.length_append, bytesOf_length]
        have := head_len (nd xs i).2.1 false (nd xs i).2.2.2.1 ((nd xs i).2.2.2.2.size : Int) (phi i ((nd xs i).2.2.2.2.size : Int))
        omega
    · rw [if_neg c1]
      by_cases c2 : (nd xs i).1 < (d : Int)
      · rw [if_pos c2]
        by_cases c3 : (nd xs i).2.2.1 = true ∧ d = (nd xs i).1.toNat + 1
        · rw [if_pos c3]
        · rw [if_neg c3, ih d hd]
          refine sumF_low phi xs _ _ _ (fun h => ?_)
          have := hnx h
          by_cases hmd : (nd xs i).2.2.1 = true
          · rw [if_pos hmd] at this
            have : ¬ d = (nd xs i).1.toNat + 1 := fun e => c3 ⟨hmd, e⟩
            omega
          · rw [if_neg hmd] at this
            omega
      · rw [if_neg c2, if_neg (by omega), if_neg (by omega), ih d hd]
theorem len_eq (phi : Nat → Int → Nat) (xs : List NodeT) (hs : Snd xs) (i : Nat) (hiL : i < xs.length) : lenS xs i (sums phi xs (xs.length - (i + 1))) =
    if (nd xs i).2.2.1 = true then ((encF (mkF phi xs (2 * xs.length) (i + 1) (nd xs i).1).1).length : Int) else ((nd xs i).2.2.2.2.size : Int) := by
  have hdp := hs.depth i hiL
  unfold lenS
  by_cases hmd : (nd xs i).2.2.1 = true
  · rw [if_pos hmd, if_pos hmd, sums_eq phi xs hs _ (by omega) _ (by omega)]
    have e3 : (((nd xs i).1.toNat + 1 : Nat) : Int) = (nd xs i).1 + 1 := by omega
    have e4 : (nd xs i).1 + 1 - 1 = (nd xs i).1 := by omega
    have e5 : xs.length - (xs.length - (i + 1)) = i + 1 := by omega
    have := sumF_at phi xs hs (xs.length - (i + 1) + 1) (i + 1) (2 * xs.length) ((nd xs i).1 + 1) (by omega) (by omega) (by omega) (by omega) (fun h => by have := (hs.next i h).2; rw [if_pos hmd] at this; exact this)
    rw [e5, e3, this, e4]
  · rw [if_neg hmd, if_neg hmd]
theorem enc_wt (phi : Nat → Int → Nat) (xs : List NodeT) (hs : Snd xs) (hphi : ∀ i n, phi i n ≤ 4) : ∀ f : Nat,
    (∀ i, i < xs.length → 2 * (xs.length - i) + 1 ≤ f → (encT (mkT phi xs f i).1).length ≤ wt xs i (mkT phi xs f i).2) ∧
    (∀ i d, i ≤ xs.length → 2 * (xs.length - i) + 2 ≤ f → (i < xs.length → (nd xs i).1 ≤ d + 1) → (encF (mkF phi xs f i d).1).length ≤ wt xs i (mkF phi xs f i d).2)
  | 0 => ⟨fun i h1 h2 => by omega, fun i d h1 h2 => by omega⟩
  | f + 1 => by
    obtain ⟨ih1, ih2⟩ := enc_wt phi xs hs hphi f
    obtain ⟨fl1, fl2⟩ := mk_flat phi xs hs f
    refine ⟨fun i hi hf => ?_, fun i d hi hf h => ?_⟩
    · rw [mkT]
      have h1 := wt_one xs hi
      by_cases hm : (nd xs i).2.2.1 = true
      · rw [if_pos hm]
        have hq : i + 1 < xs.length → (nd xs (i + 1)).1 ≤ (nd xs i).1 + 1 := fun h => by have := (hs.next i h).2; rw [if_pos hm] at this; exact this
        have hk := ih2 (i + 1) (nd xs i).1 (by omega) (by omega) hq
        have hfl := fl2 (i + 1) (nd xs i).1 (by omega) (by omega) hq
        have hsp := wt_split xs (i := i) (j := i + 1) (k := (mkF phi xs f (i + 1) (nd xs i).1).2) (by omega) hfl.1
        simp only
        rw [encT, List.length_append]
        have h2 := head_len (nd xs i).2.1 true (nd xs i).2.2.2.1 ((encF (mkF phi xs f (i + 1) (nd xs i).1).1).length : Int) (phi i ((encF (mkF phi xs f (i + 1) (nd xs i).1).1).length : Int))
        have h3 := hsz_range _ (hphi i ((encF (mkF phi xs f (i + 1) (nd xs i).1).1).length : Int))
        omega
      · rw [if_neg hm]
        simp only
        rw [encT, List.length_append, bytesOf_length]
        have h2 := head_len (nd xs i).2.1 false (nd xs i).2.2.2.1 ((nd xs i).2.2.2.2.size : Int) (phi i ((nd xs i).2.2.2.2.size : Int))
        have h3 := hsz_range _ (hphi i ((nd xs i).2.2.2.2.size : Int))
        omega
    · rw [mkF]
      by_cases hc : i < xs.length ∧ d < (nd xs i).1
      · rw [if_pos hc]
        have h5 := h hc.1
        have hfl := fl1 i hc.1 (by omega)
        have hq : (mkT phi xs f i).2 < xs.length → (nd xs (mkT phi xs f i).2).1 ≤ d + 1 := fun hlt => by have := hfl.2.2.2 hlt; omega
        have k1 := ih1 i hc.1 (by omega)
        have k2 := ih2 (mkT phi xs f i).2 d hfl.2.1 (by omega) hq
        have f2 := fl2 (mkT phi xs f i).2 d hfl.2.1 (by omega) hq
        have hsp := wt_split xs (i := i) (j := (mkT phi xs f i).2) (k := (mkF phi xs f (mkT phi xs f i).2 d).2) (by omega) f2.1
        simp only
        rw [encF, List.length_append]
        omega
      · rw [if_neg hc, encF]
        exact Nat.zero_le _
theorem wt_in (xs : List NodeT) {i j : Nat} (h : i ≤ j) : wt xs i j ≤ wt xs 0 xs.length := by
  have h1 := wt_split xs (i := 0) (j := i) (k := j) (by omega) h
  have h2 := wt_all xs j
  omega
/-- No sum is more than the nodes weigh; no length is. -/
theorem sumF_le (phi : Nat → Int → Nat) (xs : List NodeT) (hs : Snd xs) (hphi : ∀ i n, phi i n ≤ 4) : ∀ (n i : Nat) (d : Int), 0 ≤ sumF phi xs n i d ∧ sumF phi xs n i d ≤ wt xs 0 xs.length := by
  intro n
  induction n with
  | zero => intro i d; rw [sumF]; omega
  | succ n ih =>
    intro i d
    rw [sumF]
    by_cases c : i < xs.length
    · rw [if_pos c]
      by_cases c1 : (nd xs i).1 < d
      · rw [if_pos c1]; omega
      · rw [if_neg c1]
        by_cases c2 : (nd xs i).1 = d
        · rw [if_pos c2]
          have h1 := (enc_wt phi xs hs hphi (2 * xs.length + 2)).2 i (d - 1) (by omega) (by omega) (fun _ => by omega)
          have h2 := (mk_flat phi xs hs (2 * xs.length + 2)).2 i (d - 1) (by omega) (by omega) (fun _ => by omega)
          have h3 := wt_in xs h2.1
          omega
        · rw [if_neg c2]; exact ih _ _
    · rw [if_neg c]; omega
theorem sums_le (phi : Nat → Int → Nat) (xs : List NodeT) (hs : Snd xs) (hphi : ∀ i n, phi i n ≤ 4) (m : Nat) (hm : m ≤ xs.length) (d : Nat) (hd : 1 ≤ d) : 0 ≤ sums phi xs m d ∧ sums phi xs m d ≤ wt xs 0 xs.length := by
  rw [sums_eq phi xs hs m hm d hd]
  exact sumF_le phi xs hs hphi _ _ _
theorem lenS_le (phi : Nat → Int → Nat) (xs : List NodeT) (hs : Snd xs) (hphi : ∀ i n, phi i n ≤ 4) (i : Nat) (hi : i < xs.length) : 0 ≤ lenS xs i (sums phi xs (xs.length - (i + 1))) ∧ lenS xs i (sums phi xs (xs.length - (i + 1))) ≤ wt xs 0 xs.length := by
  unfold lenS
  by_cases hmd : (nd xs i).2.2.1 = true
  · rw [if_pos hmd]
    exact sums_le phi xs hs hphi _ (by omega) _ (by omega)
  · rw [if_neg hmd]
    have h1 := wt_one xs hi
    have h2 := wt_in xs (i := i) (j := i + 1) (by omega)
    omega
/-- THE BYTES, end to end: the tree's. -/
theorem cat_enc (phi : Nat → Int → Nat) (xs : List NodeT) (hs : Snd xs) (hphi : ∀ i n, phi i n ≤ 4) (hok : ∀ i n, 0 ≤ n → n ≤ 4294967295 → okForm n (phi i n)) (hw : wt xs 0 xs.length ≤ 4294967295) : ∀ f : Nat,
    (∀ i, i < xs.length → 2 * (xs.length - i) + 1 ≤ f → f ≤ 2 * xs.length + 1 → bytesOf (catS phi xs (mkT phi xs f i).2) = bytesOf (catS phi xs i) ++ encT (mkT phi xs f i).1) ∧
    (∀ i d, i ≤ xs.length → 2 * (xs.length - i) + 2 ≤ f → f ≤ 2 * xs.length + 2 → (i < xs.length → (nd xs i).1 ≤ d + 1) → bytesOf (catS phi xs (mkF phi xs f i d).2) = bytesOf (catS phi xs i) ++ encF (mkF phi xs f i d).1)
  | 0 => ⟨fun i h1 h2 => by omega, fun i d h1 h2 => by omega⟩
  | f + 1 => by
    obtain ⟨ih1, ih2⟩ := cat_enc phi xs hs hphi hok hw f
    obtain ⟨fl1, fl2⟩ := mk_flat phi xs hs f
    refine ⟨fun i hi hf hf2 => ?_, fun i d hi hf hf2 h => ?_⟩
    · have hle := lenS_le phi xs hs hphi i hi
      have hlen := len_eq phi xs hs i hi
      have hbe : bytesOf (hedS phi xs i) = _ := headS_bytes (made := (nd xs i).2.2.1) (hs.name i hi) (hok i _ hle.1 (by omega)) hle.1
      have hcat : bytesOf (catS phi xs (i + 1)) = bytesOf (catS phi xs i) ++ (bytesOf (hedS phi xs i) ++ bytesOf (nd xs i).2.2.2.2) := by
        rw [catS, bytesOf_append, bytesOf_append, List.append_assoc]
      rw [mkT]
      by_cases hm : (nd xs i).2.2.1 = true
      · rw [if_pos hm]
        have hq : i + 1 < xs.length → (nd xs (i + 1)).1 ≤ (nd xs i).1 + 1 := fun h => by have := (hs.next i h).2; rw [if_pos hm] at this; exact this
        have hk := ih2 (i + 1) (nd xs i).1 (by omega) (by omega) (by omega) hq
        have hmore := (mk_more phi xs hs f).2 (i + 1) (nd xs i).1 (2 * xs.length) (by omega) (by omega) (by omega) hq
        rw [if_pos hm, hmore] at hlen
        simp only
        rw [hk, hcat, hbe, hlen, encT, hs.body i hi hm, hm]
        have : bytesOf ⟨#[]⟩ = [] := rfl
        rw [this, List.append_nil, List.append_assoc]
      · rw [if_neg hm] at hlen ⊢
        simp only
        rw [hcat, hbe, hlen, encT]
        rw [Bool.not_eq_true] at hm
        rw [hm]
    · rw [mkF]
      by_cases hc : i < xs.length ∧ d < (nd xs i).1
      · rw [if_pos hc]
        have h5 := h hc.1
        have hfl := fl1 i hc.1 (by omega)
        have hq : (mkT phi xs f i).2 < xs.length → (nd xs (mkT phi xs f i).2).1 ≤ d + 1 := fun hlt => by have := hfl.2.2.2 hlt; omega
        have k1 := ih1 i hc.1 (by omega) (by omega)
        have k2 := ih2 (mkT phi xs f i).2 d hfl.2.1 (by omega) (by omega) hq
        simp only
        rw [k2, k1, encF, List.append_assoc]
      · rw [if_neg hc]
        simp only
        rw [encF, List.append_nil]
/-- The tree's last node is the list's. -/
theorem mk_end (phi : Nat → Int → Nat) (xs : List NodeT) (hs : Snd xs) (h0 : 0 < xs.length) (f : Nat) (hf : 2 * xs.length + 1 ≤ f) : (mkT phi xs f 0).2 = xs.length := by
  have h := (mk_flat phi xs hs f).1 0 h0 (by omega)
  have hf := hs.first h0
  by_cases hlt : (mkT phi xs f 0).2 < xs.length
  · have h1 := h.2.2.2 hlt
    obtain ⟨j, hj⟩ : ∃ j, (mkT phi xs f 0).2 = j + 1 := ⟨(mkT phi xs f 0).2 - 1, by omega⟩
    rw [hj] at h1 hlt
    have := (hs.next j hlt).1
    omega
  · omega
theorem cat_tree (phi : Nat → Int → Nat) (xs : List NodeT) (hs : Snd xs) (h0 : 0 < xs.length) (hphi : ∀ i n, phi i n ≤ 4) (hok : ∀ i n, 0 ≤ n → n ≤ 4294967295 → okForm n (phi i n)) (hw : wt xs 0 xs.length ≤ 4294967295) :
    bytesOf (catS phi xs xs.length) = encT (treeOf phi xs) := by
  have h := (cat_enc phi xs hs hphi hok hw (2 * xs.length + 1)).1 0 h0 (by omega) (by omega)
  rw [mk_end phi xs hs h0 _ (Nat.le_refl _)] at h
  have hm := (mk_more phi xs hs (2 * xs.length + 1)).1 0 (2 * xs.length + 2) h0 (by omega) (by omega)
  unfold treeOf
  rw [hm, h]
  rfl
end Go.Proofs.Ytolhmomnidlmaaa.W

/-! ## Fronts of a tree's bytes, and what the outermost header of them is. -/
namespace Go.Proofs.Ytolhmomnidlmaaa.W
open Go.RowKit Go.Proofs.YtolhmomnidlmaaaW.PrintWords
set_option linter.unusedVariables false
set_option linter.unusedSimpArgs false

theorem byt_front (s : ByteArray) (n j : Nat) (h : j < n) (hn : n ≤ s.size) : byt (s.extract 0 n) (j : Int) = byt s (j : Int) := by
  have := byt_extract s 0 n j (by omega) hn
  rw [Nat.zero_add] at this
  exact this
theorem numAt_same (s t : ByteArray) : ∀ (n : Nat) (i v : Int), (∀ j : Nat, j < n → byt t (i + j) = byt s (i + j)) → numAt t i n v = numAt s i n v := by
  intro n
  induction n with
  | zero => intro i v h; rfl
  | succ n ih =>
    intro i v h
    have h0 := h 0 (by omega)
    simp only [Int.natCast_zero, Int.add_zero] at h0
    rw [numAt, numAt, h0]
    refine ih (i + 1) _ (fun j hj => ?_)
    have := h (j + 1) (by omega)
    have e : i + 1 + (j : Int) = i + ((j + 1 : Nat) : Int) := by omega
    rw [e]
    exact this
theorem hdr_front {s : ByteArray} {e : Int} {h : Hd} (hh : hdr s 0 e 1 = .ok h) (cut : Nat) (hc : cut ≤ s.size) : hdr (s.extract 0 cut) 0 cut 1 = if (cut : Int) < h.size then .error (20, (cut : Int)) else .ok h := by
  have hm : miss 1 = 20 := rfl
  unfold hdr at hh
  rw [if_neg (by omega)] at hh
  by_cases c1 : e ≤ 0
  · rw [if_pos c1] at hh; cases hh
  rw [if_neg c1] at hh
  by_cases c2 : byt s 0 % 32 = 31
  · rw [if_pos c2] at hh; cases hh
  rw [if_neg c2] at hh
  by_cases c3 : e ≤ 0 + 1
  · rw [if_pos c3] at hh; cases hh
  rw [if_neg c3] at hh
  unfold hdr
  rw [if_neg (by omega), hm]
  have b1 : 1 < cut → byt (s.extract 0 cut) (0 + 1) = byt s (0 + 1) := fun h => byt_front s cut 1 h hc
  have b0 : 0 < cut → byt (s.extract 0 cut) 0 = byt s 0 := fun h => byt_front s cut 0 h hc
  have hsz2 : 2 ≤ h.size := by
    by_cases c4 : byt s (0 + 1) < 128
    · rw [if_pos c4] at hh; injection hh with hh; rw [← hh]; exact Int.le_refl _
    · rw [if_neg c4] at hh
      by_cases c5 : byt s (0 + 1) = 128
      · rw [if_pos c5] at hh; cases hh
      rw [if_neg c5] at hh
      by_cases c6 : 132 < byt s (0 + 1)
      · rw [if_pos c6] at hh; cases hh
      rw [if_neg c6] at hh
      by_cases c7 : e < 0 + (byt s (0 + 1) - 126)
      · rw [if_pos c7] at hh; cases hh
      rw [if_neg c7] at hh
      injection hh with hh
      rw [← hh]
      show (2 : Int) ≤ byt s (0 + 1) - 126
      omega
  by_cases d1 : (cut : Int) ≤ 0
  · rw [if_pos d1, if_pos (by omega)]
  rw [if_neg d1, b0 (by omega), if_neg c2]
  by_cases d2 : (cut : Int) ≤ 0 + 1
  · rw [if_pos d2, if_pos (by omega)]
  rw [if_neg d2, b1 (by omega)]
  by_cases c4 : byt s (0 + 1) < 128
  · rw [if_pos c4] at hh ⊢
    injection hh with hh
    rw [← hh]
    rw [if_neg (show ¬ (cut : Int) < 2 by omega)]
  rw [if_neg c4] at hh ⊢
  by_cases c5 : byt s (0 + 1) = 128
  · rw [if_pos c5] at hh; cases hh
  rw [if_neg c5] at hh ⊢
  by_cases c6 : 132 < byt s (0 + 1)
  · rw [if_pos c6] at hh; cases hh
  rw [if_neg c6] at hh ⊢
  by_cases c7 : e < 0 + (byt s (0 + 1) - 126)
  · rw [if_pos c7] at hh; cases hh
  rw [if_neg c7] at hh
  injection hh with hh
  have hs6 : h.size = byt s (0 + 1) - 126 := by rw [← hh]
  by_cases c8 : (cut : Int) < h.size
  · rw [if_pos c8, if_pos (by omega)]
  · rw [if_neg c8, if_neg (by omega), ← hh]
    congr 2
    refine numAt_same s _ _ _ _ (fun j hj => ?_)
    have e : (0 : Int) + 2 + (j : Int) = ((2 + j : Nat) : Int) := by omega
    rw [e]
    exact byt_front s cut (2 + j) (by omega) hc
/-- The outermost header of bytes that begin with a tree's. -/
def topH : Tr → Hd
  | .leaf c t b k => ⟨c, false, t, b.size, hsz k⟩
  | .made c t f k => ⟨c, true, t, (encF f).length, hsz k⟩
theorem top_size (t : Tr) : (topH t).size + (topH t).len = (encT t).length := by
  cases t with
  | leaf c g b k => rw [encT, List.length_append, bytesOf_length]; have := head_len c false g (b.size : Int) k; show hsz k + (b.size : Int) = _; omega
  | made c g f k => rw [encT, List.length_append]; have := head_len c true g ((encF f).length : Int) k; show hsz k + ((encF f).length : Int) = _; omega
theorem top_range (t : Tr) (hok : okT t) : 2 ≤ (topH t).size ∧ (topH t).size ≤ 6 ∧ 0 ≤ (topH t).len := by
  cases t with
  | leaf c g b k => have := hsz_range k (okForm_le hok.2); exact ⟨this.1, this.2, Int.natCast_nonneg _⟩
  | made c g f k => have := hsz_range k (okForm_le hok.2.1); exact ⟨this.1, this.2, Int.natCast_nonneg _⟩
theorem hdr_top {s : ByteArray} {t : Tr} (hok : okT t) (h : Has s 0 (encT t)) (e : Int) (he : ((encT t).length : Int) ≤ e) : hdr s 0 e 1 = .ok (topH t) := by
  have h1 := top_size t
  have h2 := top_range t hok
  cases t with
  | leaf c g b k =>
    rw [encT] at h
    have hz : (topH (.leaf c g b k)).size = hsz k := rfl
    exact hdr_has h.left hok.1.1 hok.1.2.1 hok.1.2.2.1 hok.1.2.2.2 (by omega) hok.2 (by omega) (by omega)
  | made c g f k =>
    rw [encT] at h
    have hz : (topH (.made c g f k)).size = hsz k := rfl
    exact hdr_has h.left hok.1.1 hok.1.2.1 hok.1.2.2.1 hok.1.2.2.2 (by omega) hok.2.1 (by omega) (by omega)
/-- A shorter front is refused. -/
theorem tree_front {s : ByteArray} {t : Tr} (hok : okT t) (h : Has s 0 (encT t)) (hs : (s.size : Int) = (encT t).length) (cut : Nat) (hc : cut < s.size) : treeS (s.extract 0 cut) = ([], 20, (cut : Int)) := by
  have hz : (s.extract 0 cut).size = cut := by simp; omega
  have hh := hdr_front (hdr_top hok h s.size (by omega)) cut (by omega)
  have ht := top_size t
  have hb : bnd (s.extract 0 cut) 0 cut 1 = .error (20, (cut : Int)) := by
    unfold bnd
    rw [hh]
    by_cases c : (cut : Int) < (topH t).size
    · rw [if_pos c]
    · rw [if_neg c]
      simp only
      rw [if_pos (by omega)]
      rfl
  unfold treeS walkS
  rw [hz, elemF, hb]
  rfl
/-- The bytes of a sound list, in any form, are a tree's. -/
theorem spelt_tree (forms : List Int) (xs : List NodeT) (hs : Snd xs) (h0 : 0 < xs.length) (hw : wt xs 0 xs.length ≤ 134217728) (hphi : ∀ i n, phiF forms i n ≤ 4) :
    okT (treeOf (phiF forms) xs) ∧ deepT (treeOf (phiF forms) xs) ≤ 64 ∧ bytesOf (catS (phiF forms) xs xs.length) = encT (treeOf (phiF forms) xs) ∧ flatT 1 (treeOf (phiF forms) xs) = xs ∧ (encT (treeOf (phiF forms) xs)).length ≤ wt xs 0 xs.length := by
  have hl : (encT (treeOf (phiF forms) xs)).length ≤ wt xs 0 xs.length := by
    have := (enc_wt (phiF forms) xs hs hphi (2 * xs.length + 2)).1 0 h0 (by omega)
    rw [mk_end (phiF forms) xs hs h0 _ (by omega)] at this
    exact this
  have hk := (mk_ok (phiF forms) xs hs (phiF_ok forms) (2 * xs.length + 2)).1 0 h0 (by omega) (Nat.le_trans hl (by omega))
  have hf := hs.first h0
  refine ⟨hk.1, ?_, cat_tree (phiF forms) xs hs h0 hphi (phiF_ok forms) (by omega), tree_flat (phiF forms) xs hs h0, hl⟩
  have := hk.2
  unfold treeOf
  omega
end Go.Proofs.Ytolhmomnidlmaaa.W
