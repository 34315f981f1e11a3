/- Texts of this session in one: Lo, Sl, St -/
import Derived.Test.YtbloccjogadlmaaFt
import Derived.Lib.Hide
import Derived.Test.YtbloccjogadlmaaGUx1
import Derived.Test.YtbloccjogadlmaaGUx1
/-! ## Contracts of the statements' own wide and long: the form of a length, the bytes of a header. -/
namespace Go.Proofs.Ytbloccjogadlmaa.W
open Go.RowKit Go.Proofs.Ytbloccjogadlmaa.GU Go.Proofs.YtbloccjogadlmaaW.PrintWords Go.Proofs.YtbloccjogadlmaaW.PrintLast
set_option linter.unusedVariables false
set_option linter.unusedSimpArgs false

theorem wide_any (n : Int) (w : World) : Calls Try.prog 25 #[.int .i64 n] w fun e w' => e = .returned (.int .i64 (wideK n : Nat)) ∧ Drawn0 w w' := by
  refine rosterlaw02_wide.calls n _ w ?_
  unfold rosterlaw02_wide.f wideK
  repeat' split
  all_goals rfl
/-- The bytes of a header. -/
def headS (cls : Int) (made : Bool) (tag n : Int) (k : Nat) : ByteArray := strOfNums (headB cls made tag n k)
theorem headS_bytes {cls tag n : Int} {made : Bool} {k : Nat} (h : okN cls tag) (hf : okForm n k) (n0 : 0 ≤ n) : bytesOf (headS cls made tag n k) = headB cls made tag n k := bytesOf_str _ (headB_range h hf n0)
theorem headS_size (cls : Int) (made : Bool) (tag n : Int) (k : Nat) : ((headS cls made tag n k).size : Int) = hsz k := by
  unfold headS
  rw [strOfNums_size, head_len]
theorem str_app (a b : List Int) : strOfNums a ++ strOfNums b = strOfNums (a ++ b) := by
  unfold strOfNums
  apply ByteArray.ext
  simp
theorem be_front : ∀ (i : Nat) (n : Int), [n / 256 ^ i % 256] ++ be n i = be n (i + 1) := by
  intro i
  induction i with
  | zero => intro n; rw [be, be, be]; simp
  | succ i ih =>
    intro n
    have e : n / 256 ^ (i + 1) = n / 256 / 256 ^ i := by rw [Int.ediv_ediv_of_nonneg (by omega), Int.pow_succ, Int.mul_comm]
    rw [be, ← List.append_assoc, e, ih (n / 256)]
    rfl
theorem long_loop (n x7 : Int) (k : Nat) (hk : k ≤ 4) (h0 : 0 ≤ n) (h1 : n ≤ 4294967295) : ∀ (m i : Nat), i + m = k → ∀ r : ByteArray, r = strOfNums ([x7 % 256, 128 + (k : Int)] ++ be n k) →
    Ev (fun q => rosterlaw02_long.l0 q (n / 256 ^ i) (k : Int) x7 (strOfNums (be n i)) (i : Int)) r := by
  intro m
  induction m with
  | zero =>
    intro i hi r hr
    obtain rfl : i = k := by omega
    refine Ev.step (f := fun _ => some r) (fun q => ?_) (Ev.now _)
    have q1 : ¬ (i : Int) < (i : Int) := by omega
    have q2 : (128 + (i : Int)) % 256 = 128 + (i : Int) := by omega
    have q3 : (strOfNums [x7 % 256, 128 + (i : Int)]).size + (strOfNums (be n i)).size ≤ 9223372036854775807 := by rw [strOfNums_size, strOfNums_size, be_len]; simp; omega
    have e : wrap64 (128 + (i : Int)) = 128 + (i : Int) := wrI _ (by omega) (by omega)
    rw [rosterlaw02_long.l0, if_neg q1, Option.bind_some, e, q2, if_pos q3, str_app, hr]
  | succ m ih =>
    intro i hi r hr
    refine Ev.step (fun q => ?_) (ih (i + 1) (by omega) r hr)
    have q1 : (i : Int) < (k : Int) := by omega
    have hp : (0 : Int) < 256 ^ i := Int.pow_pos (by omega)
    have hd0 : 0 ≤ n / 256 ^ i := Int.ediv_nonneg h0 (by omega)
    have hd1 : n / 256 ^ i ≤ n := Int.ediv_le_self _ h0
    have e1 : Int.tmod (n / 256 ^ i) 256 % 256 = n / 256 ^ i % 256 := by rw [Int.tmod_eq_emod_of_nonneg hd0]; omega
    have e3 : Int.tdiv (n / 256 ^ i) 256 = n / 256 ^ (i + 1) := by rw [Int.tdiv_eq_ediv_of_nonneg hd0, Int.ediv_ediv_of_nonneg (by omega), ← Int.pow_succ]
    have hd3 : 0 ≤ n / 256 ^ (i + 1) ∧ n / 256 ^ (i + 1) ≤ n := ⟨Int.ediv_nonneg h0 (Int.pow_nonneg (by omega)), Int.ediv_le_self _ h0⟩
    have q3 : (strOfNums [n / 256 ^ i % 256]).size + (strOfNums (be n i)).size ≤ 9223372036854775807 := by rw [strOfNums_size, strOfNums_size, be_len]; simp; omega
    have e4 : [n / 256 ^ i % 256] ++ be n i = be n (i + 1) := be_front i n
    have e5 : wrap64 (n / 256 ^ (i + 1)) = n / 256 ^ (i + 1) := wrI _ (by omega) (by omega)
    have e6 : wrap64 ((i : Int) + 1) = ((i + 1 : Nat) : Int) := by rw [wrI _ (by omega) (by omega)]; omega
    rw [rosterlaw02_long.l0, if_pos q1, Option.bind_some, e1, e3, e5, e6, if_pos q3, str_app, e4]
theorem long_any (d cls tag n : Int) (made : Bool) (body : ByteArray) (k : Nat) (w : World) (h : okN cls tag) (hf : okForm n k) (h0 : 0 ≤ n) (h1 : n ≤ 4294967295) :
    Calls Try.prog 26 #[.agg #[.int .i64 d, .int .i64 cls, .bool made, .int .i64 tag, .string body], .int .i64 n, .int .i64 (k : Nat)] w fun e w' => e = .returned (.string (headS cls made tag n k)) ∧ Below w.heap.size w w' := by
  have hk := okForm_le hf
  obtain ⟨x7, hx7⟩ : ∃ x7, x7 = cls * 64 + tag + (if made = true then 32 else 0) := ⟨_, rfl⟩
  have hx : 0 ≤ x7 ∧ x7 < 256 := by unfold okN at h; rw [hx7]; split <;> omega
  have hj : Ev (fun q => rosterlaw02_long.j0 q n (k : Int) x7) (headS cls made tag n k) := by
    by_cases c : k = 0
    · subst c
      refine Ev.step (f := fun _ => some _) (fun q => ?_) (Ev.now _)
      have hn : n < 128 := by rcases hf with h | h <;> omega
      have e1 : x7 % 256 = x7 := by omega
      have e2 : n % 256 = n := by omega
      rw [rosterlaw02_long.j0, if_pos (show ((0 : Nat) : Int) = 0 from rfl), e1, e2]
      unfold headS headB lenB
      rw [if_pos rfl, ← hx7]
    · refine Ev.step (fun q => by rw [rosterlaw02_long.j0, if_neg (by omega)]) (f := fun q => rosterlaw02_long.l0 q n (k : Int) x7 ⟨#[]⟩ 0) ?_
      have e1 : x7 % 256 = x7 := by omega
      have := long_loop n x7 k hk h0 h1 k 0 (by omega) (headS cls made tag n k) (by
        unfold headS headB lenB
        rw [if_neg c, ← hx7, e1]
        rfl)
      have e2 : n / 256 ^ 0 = n := by simp
      rw [e2] at this
      exact this
  obtain ⟨q, hq⟩ := Ev.rounds hj
  refine rosterlaw02_long.calls q d cls made tag body n (k : Int) _ w ?_
  unfold okN at h
  have e1 : wrap64 (cls * 64) = cls * 64 := wrI _ (by omega) (by omega)
  have e2 : wrap64 (cls * 64 + tag) = cls * 64 + tag := wrI _ (by omega) (by omega)
  have e3 : wrap64 (cls * 64 + tag + 32) = cls * 64 + tag + 32 := wrI _ (by omega) (by omega)
  unfold rosterlaw02_long.f
  rw [e1, e2, e3]
  cases made with
  | true => rw [if_pos rfl]; rw [hx7, if_pos rfl] at hq; exact hq
  | false => rw [if_neg Bool.false_ne_true]; rw [hx7, if_neg Bool.false_ne_true, Int.add_zero] at hq; exact hq
end Go.Proofs.Ytbloccjogadlmaa.W

/-! ## Plain law of spelt (no program in sight): headers laid from the last node to the first, each told its length by sums per depth; behind one another with the bodies they are the tree's bytes. -/
namespace Go.Proofs.Ytbloccjogadlmaa.W
open Go.RowKit Go.Proofs.YtbloccjogadlmaaW.PrintWords
set_option linter.unusedVariables false
set_option linter.unusedSimpArgs false

/-- The form of node i's length n: the one that is asked for, where it is wider than the shortest and may be. -/
def phiF (forms : List Int) (i : Nat) (n : Int) : Nat := if i < forms.length ∧ (wideK n : Int) < forms.getD i 0 ∧ forms.getD i 0 ≤ 4 then (forms.getD i 0).toNat else wideK n
theorem phiF_ok (forms : List Int) (i : Nat) (n : Int) (h0 : 0 ≤ n) (h1 : n ≤ 4294967295) : okForm n (phiF forms i n) := by
  have hw := wide_ok h0 h1
  unfold phiF
  by_cases c : i < forms.length ∧ (wideK n : Int) < forms.getD i 0 ∧ forms.getD i 0 ≤ 4
  · rw [if_pos c]
    have hlt : n < 256 ^ (forms.getD i 0).toNat := by
      have e : (forms.getD i 0).toNat = 1 ∨ (forms.getD i 0).toNat = 2 ∨ (forms.getD i 0).toNat = 3 ∨ (forms.getD i 0).toNat = 4 := by omega
      rcases hw with hw | hw
      · rcases e with e | e | e | e <;> rw [e] <;> simp <;> omega
      · have hw4 : wideK n = 1 ∨ wideK n = 2 ∨ wideK n = 3 := by omega
        obtain ⟨h2, h3, h4⟩ := hw
        rcases hw4 with g | g | g <;> rw [g] at h4 c <;> simp at h4 <;> rcases e with e | e | e | e <;> rw [e] <;> simp <;> omega
    exact Or.inr ⟨by omega, by omega, hlt⟩
  · rw [if_neg c]; exact hw
/-- The length that is told of node i, by the sums behind it. -/
def lenS (xs : List NodeT) (i : Nat) (S : Nat → Int) : Int := if (nd xs i).2.2.1 = true then S ((nd xs i).1.toNat + 1) else (nd xs i).2.2.2.2.size
def stepS (phi : Nat → Int → Nat) (xs : List NodeT) (i : Nat) (S : Nat → Int) : Nat → Int := fun d =>
  if d = (nd xs i).1.toNat then S d + hsz (phi i (lenS xs i S)) + lenS xs i S else if (nd xs i).2.2.1 = true ∧ d = (nd xs i).1.toNat + 1 then 0 else S d
/-- The sums, with m nodes done. -/
def sums (phi : Nat → Int → Nat) (xs : List NodeT) : Nat → Nat → Int
  | 0 => fun _ => 0
  | m + 1 => stepS phi xs (xs.length - (m + 1)) (sums phi xs m)
/-- Node i's header. -/
def hedS (phi : Nat → Int → Nat) (xs : List NodeT) (i : Nat) : ByteArray :=
  headS (nd xs i).2.1 (nd xs i).2.2.1 (nd xs i).2.2.2.1 (lenS xs i (sums phi xs (xs.length - (i + 1)))) (phi i (lenS xs i (sums phi xs (xs.length - (i + 1)))))
/-- All of it, up to node i. -/
def catS (phi : Nat → Int → Nat) (xs : List NodeT) : Nat → ByteArray
  | 0 => ⟨#[]⟩
  | i + 1 => catS phi xs i ++ hedS phi xs i ++ (nd xs i).2.2.2.2
/-- The same, backwards: what the nodes from i on sum up to at depth d, until one of a lesser depth. -/
def sumF (phi : Nat → Int → Nat) (xs : List NodeT) : Nat → Nat → Int → Int
  | 0, _, _ => 0
  | n + 1, i, d => if i < xs.length then (if (nd xs i).1 < d then 0 else if (nd xs i).1 = d then (encF (mkF phi xs (2 * xs.length + 2) i (d - 1)).1).length else sumF phi xs n (i + 1) d) else 0
/-- More rounds change nothing. -/
theorem mk_more (phi : Nat → Int → Nat) (xs : List NodeT) (hs : Snd xs) : ∀ f : Nat,
    (∀ i g, i < xs.length → 2 * (xs.length - i) + 1 ≤ f → f ≤ g → mkT phi xs g i = mkT phi xs f i) ∧
    (∀ i d g, i ≤ xs.length → 2 * (xs.length - i) + 2 ≤ f → f ≤ g → (i < xs.length → (nd xs i).1 ≤ d + 1) → mkF phi xs g i d = mkF phi xs f i d)
  | 0 => ⟨fun i g h1 h2 h3 => by omega, fun i d g h1 h2 h3 => by omega⟩
  | f + 1 => by
    obtain ⟨ih1, ih2⟩ := mk_more phi xs hs f
    refine ⟨fun i g h1 h2 h3 => ?_, fun i d g h1 h2 h3 h4 => ?_⟩
    · obtain ⟨g, rfl⟩ : ∃ q, g = q + 1 := ⟨g - 1, by omega⟩
      rw [mkT, mkT]
      by_cases hm : (nd xs i).2.2.1 = true
      · rw [if_pos hm, if_pos hm, ih2 (i + 1) _ g (by omega) (by omega) (by omega) (fun h => by have := (hs.next i h).2; rw [if_pos hm] at this; exact this)]
      · rw [if_neg hm, if_neg hm]
    · obtain ⟨g, rfl⟩ : ∃ q, g = q + 1 := ⟨g - 1, by omega⟩
      rw [mkF, mkF]
      by_cases hc : i < xs.length ∧ d < (nd xs i).1
      · rw [if_pos hc, if_pos hc]
        have e := ih1 i g hc.1 (by omega) (by omega)
        have hfl := (mk_flat phi xs hs f).1 i hc.1 (by omega)
        have h5 := h4 hc.1
        rw [e, ih2 (mkT phi xs f i).2 d g hfl.2.1 (by omega) (by omega) (fun h => by have := hfl.2.2.2 h; omega)]
      · rw [if_neg hc, if_neg hc]
theorem mk_deep (phi : Nat → Int → Nat) (xs : List NodeT) : ∀ f : Nat,
    (∀ i q, i < q → q < (mkT phi xs f i).2 → (nd xs i).1 < (nd xs q).1) ∧ (∀ i d q, i ≤ q → q < (mkF phi xs f i d).2 → d < (nd xs q).1)
  | 0 => ⟨fun i q h1 h2 => by rw [mkT] at h2; simp only at h2; omega, fun i d q h1 h2 => by rw [mkF] at h2; simp only at h2; omega⟩
  | f + 1 => by
    obtain ⟨ih1, ih2⟩ := mk_deep phi xs f
    refine ⟨fun i q h1 h2 => ?_, fun i d q h1 h2 => ?_⟩
    · rw [mkT] at h2
      by_cases hm : (nd xs i).2.2.1 = true
      · rw [if_pos hm] at h2
        exact ih2 (i + 1) _ q h1 h2
      · rw [if_neg hm] at h2
        simp only at h2
        omega
    · rw [mkF] at h2
      by_cases hc : i < xs.length ∧ d < (nd xs i).1
      · rw [if_pos hc] at h2
        simp only at h2
        by_cases e : q = i
        · rw [e]; exact hc.2
        · by_cases hq : q < (mkT phi xs f i).2
          · have := ih1 i q (by omega) hq
            have := hc.2
            omega
          · exact ih2 _ d q (by omega) h2
      · rw [if_neg hc] at h2
        simp only at h2
        omega
theorem sumF_low (phi : Nat → Int → Nat) (xs : List NodeT) (n i : Nat) (d : Int) (h : i < xs.length → (nd xs i).1 < d) : sumF phi xs n i d = 0 := by
  cases n with
  | zero => rfl
  | succ n =>
    rw [sumF]
    by_cases c : i < xs.length
    · rw [if_pos c, if_pos (h c)]
    · rw [if_neg c]
theorem sumF_skip (phi : Nat → Int → Nat) (xs : List NodeT) (d : Int) (j : Nat) (hj : j ≤ xs.length) : ∀ (t n i : Nat), i + t = j → (∀ q, i ≤ q → q < j → d < (nd xs q).1) → sumF phi xs (n + t) i d = sumF phi xs n j d := by
  intro t
  induction t with
  | zero => intro n i h _; rw [Nat.add_zero] at h; rw [h]; rfl
  | succ t ih =>
    intro n i h hq
    have h1 := hq i (Nat.le_refl _) (by omega)
    rw [← Nat.add_assoc, sumF, if_pos (by omega), if_neg (by omega), if_neg (by omega)]
    exact ih n (i + 1) (by omega) (fun q h2 h3 => hq q (by omega) h3)
/-- Where the node is no deeper than d: the bytes of those of depth d from there on. -/
theorem sumF_at (phi : Nat → Int → Nat) (xs : List NodeT) (hs : Snd xs) (n i f : Nat) (d : Int) (hn : 1 ≤ n) (hi : i ≤ xs.length) (hf : 2 * (xs.length - i) + 2 ≤ f) (hf2 : f ≤ 2 * xs.length + 2) (h : i < xs.length → (nd xs i).1 ≤ d) :
    sumF phi xs n i d = ((encF (mkF phi xs f i (d - 1)).1).length : Int) := by
  have hnil : (¬ (i < xs.length ∧ d - 1 < (nd xs i).1)) → ((encF (mkF phi xs f i (d - 1)).1).length : Int) = 0 := by
    intro hc
    obtain ⟨g, rfl⟩ : ∃ q, f = q + 1 := ⟨f - 1, by omega⟩
    rw [mkF, if_neg hc, encF]
    rfl
  obtain ⟨n, rfl⟩ : ∃ q, n = q + 1 := ⟨n - 1, by omega⟩
  by_cases c : i < xs.length
  · have h1 := h c
    by_cases c2 : (nd xs i).1 < d
    · rw [sumF, if_pos c, if_pos c2, hnil (by omega)]
    · rw [sumF, if_pos c, if_neg c2, if_pos (by omega), (mk_more phi xs hs f).2 i (d - 1) (2 * xs.length + 2) hi hf hf2 (fun _ => by omega)]
  · rw [sumF, if_neg c, hnil (by omega)]
theorem sums_eq (phi : Nat → Int → Nat) (xs : List NodeT) (hs : Snd xs) : ∀ m, m ≤ xs.length → ∀ d : Nat, 1 ≤ d → sums phi xs m d = sumF phi xs (m + 1) (xs.length - m) (d : Int) := by
  intro m
  induction m with
  | zero =>
    intro _ d hd
    rw [sumF_low]
    · rfl
    · intro h; omega
  | succ m ih =>
    intro hm d hd
    obtain ⟨i, hi⟩ : ∃ i, i = xs.length - (m + 1) := ⟨_, rfl⟩
    have hiL : i < xs.length := by omega
    have e1 : xs.length - m = i + 1 := by omega
    have ih := ih (by omega)
    rw [e1] at ih
    have hdp := hs.depth i hiL
    have hnx : i + 1 < xs.length → (nd xs (i + 1)).1 ≤ if (nd xs i).2.2.1 = true then (nd xs i).1 + 1 else (nd xs i).1 := fun h => (hs.next i h).2
    rw [← hi]
    show stepS phi xs (xs.length - (m + 1)) (sums phi xs m) d = _
    rw [← hi]
    unfold stepS
    rw [sumF, if_pos hiL]
    by_cases c1 : d = (nd xs i).1.toNat
    · rw [if_pos c1, if_neg (by omega), if_pos (by omega)]
      have hdD : (d : Int) = (nd xs i).1 := by omega
      -- the tree at i
      have hfl := (mk_flat phi xs hs (2 * xs.length + 1)).1 i hiL (by omega)
      have hdeep := (mk_deep phi xs (2 * xs.length + 1)).1 i
      obtain ⟨j, hj⟩ : ∃ j, j = (mkT phi xs (2 * xs.length + 1) i).2 := ⟨_, rfl⟩
      rw [← hj] at hfl hdeep
      have hS : sums phi xs m d = ((encF (mkF phi xs (2 * xs.length + 1) j ((nd xs i).1 - 1)).1).length : Int) := by
        rw [ih d hd, hdD]
        have hsk := sumF_skip phi xs (nd xs i).1 j hfl.2.1 (j - (i + 1)) (m + 1 - (j - (i + 1))) (i + 1) (by omega) (fun q q1 q2 => hdeep q (by omega) q2)
        have e2 : m + 1 - (j - (i + 1)) + (j - (i + 1)) = m + 1 := by omega
        rw [e2] at hsk
        rw [hsk]
        exact sumF_at phi xs hs _ j _ _ (by omega) hfl.2.1 (by omega) (by omega) hfl.2.2.2
      have hL : lenS xs i (sums phi xs m) = if (nd xs i).2.2.1 = true then ((encF (mkF phi xs (2 * xs.length) (i + 1) (nd xs i).1).1).length : Int) else ((nd xs i).2.2.2.2.size : Int) := by
        unfold lenS
        by_cases hmd : (nd xs i).2.2.1 = true
        · rw [if_pos hmd, if_pos hmd, ih _ (by omega)]
          have e3 : (((nd xs i).1.toNat + 1 : Nat) : Int) = (nd xs i).1 + 1 := by omega
          have e4 : (nd xs i).1 + 1 - 1 = (nd xs i).1 := by omega
          have := sumF_at phi xs hs (m + 1) (i + 1) (2 * xs.length) ((nd xs i).1 + 1) (by omega) (by omega) (by omega) (by omega) (fun h => by have := hnx h; rw [if_pos hmd] at this; exact this)
          rw [e3, this, e4]
        · rw [if_neg hmd, if_neg hmd]
      rw [mkF, if_pos ⟨hiL, by omega⟩, encF, List.length_append, hdD, ← hj, hS, hL]
      rw [mkT]
      by_cases hmd : (nd xs i).2.2.1 = true
      · rw [if_pos hmd, if_pos hmd]
        simp only
        rw [encT, List.length_append]
        have := head_len (nd xs i).2.1 true (nd xs i).2.2.2.1 ((encF (mkF phi xs (2 * xs.length) (i + 1) (nd xs i).1).1).length : Int) (phi i ((encF (mkF phi xs (2 * xs.length) (i + 1) (nd xs i).1).1).length : Int))
        omega
      · rw [if_neg hmd, if_neg hmd]
        simp only
        rw [encT, List.length_append, bytesOf_length]
        have := head_len (nd xs i).2.1 false (nd xs i).2.2.2.1 ((nd xs i).2.2.2.2.size : Int) (phi i ((nd xs i).2.2.2.2.size : Int))
        omega
    · rw [if_neg c1]
      by_cases c2 : (nd xs i).1 < (d : Int)
      · rw [if_pos c2]
        by_cases c3 : (nd xs i).2.2.1 = true ∧ d = (nd xs i).1.toNat + 1
        · rw [if_pos c3]
        · rw [if_neg c3, ih d hd]
          refine sumF_low phi xs _ _ _ (fun h => ?_)
          have := hnx h
          by_cases hmd : (nd xs i).2.2.1 = true
          · rw [if_pos hmd] at this
            have : ¬ d = (nd xs i).1.toNat + 1 := fun e => c3 ⟨hmd, e⟩
            omega
          · rw [if_neg hmd] at this
            omega
      · rw [if_neg c2, if_neg (by omega), if_neg (by omega), ih d hd]
theorem len_eq (phi : Nat → Int → Nat) (xs : List NodeT) (hs : Snd xs) (i : Nat) (hiL : i < xs.length) : lenS xs i (sums phi xs (xs.length - (i + 1))) =
    if (nd xs i).2.2.1 = true then ((encF (mkF phi xs (2 * xs.length) (i + 1) (nd xs i).1).1).length : Int) else ((nd xs i).2.2.2.2.size : Int) := by
  have hdp := hs.depth i hiL
  unfold lenS
  by_cases hmd : (nd xs i).2.2.1 = true
  · rw [if_pos hmd, if_pos hmd, sums_eq phi xs hs _ (by omega) _ (by omega)]
    have e3 : (((nd xs i).1.toNat + 1 : Nat) : Int) = (nd xs i).1 + 1 := by omega
    have e4 : (nd xs i).1 + 1 - 1 = (nd xs i).1 := by omega
    have e5 : xs.length - (xs.length - (i + 1)) = i + 1 := by omega
    have := sumF_at phi xs hs (xs.length - (i + 1) + 1) (i + 1) (2 * xs.length) ((nd xs i).1 + 1) (by omega) (by omega) (by omega) (by omega) (fun h => by have := (hs.next i h).2; rw [if_pos hmd] at this; exact this)
    rw [e5, e3, this, e4]
  · rw [if_neg hmd, if_neg hmd]
theorem enc_wt (phi : Nat → Int → Nat) (xs : List NodeT) (hs : Snd xs) (hphi : ∀ i n, phi i n ≤ 4) : ∀ f : Nat,
    (∀ i, i < xs.length → 2 * (xs.length - i) + 1 ≤ f → (encT (mkT phi xs f i).1).length ≤ wt xs i (mkT phi xs f i).2) ∧
    (∀ i d, i ≤ xs.length → 2 * (xs.length - i) + 2 ≤ f → (i < xs.length → (nd xs i).1 ≤ d + 1) → (encF (mkF phi xs f i d).1).length ≤ wt xs i (mkF phi xs f i d).2)
  | 0 => ⟨fun i h1 h2 => by omega, fun i d h1 h2 => by omega⟩
  | f + 1 => by
    obtain ⟨ih1, ih2⟩ := enc_wt phi xs hs hphi f
    obtain ⟨fl1, fl2⟩ := mk_flat phi xs hs f
    refine ⟨fun i hi hf => ?_, fun i d hi hf h => ?_⟩
    · rw [mkT]
      have h1 := wt_one xs hi
      by_cases hm : (nd xs i).2.2.1 = true
      · rw [if_pos hm]
        have hq : i + 1 < xs.length → (nd xs (i + 1)).1 ≤ (nd xs i).1 + 1 := fun h => by have := (hs.next i h).2; rw [if_pos hm] at this; exact this
        have hk := ih2 (i + 1) (nd xs i).1 (by omega) (by omega) hq
        have hfl := fl2 (i + 1) (nd xs i).1 (by omega) (by omega) hq
        have hsp := wt_split xs (i := i) (j := i + 1) (k := (mkF phi xs f (i + 1) (nd xs i).1).2) (by omega) hfl.1
        simp only
        rw [encT, List.length_append]
        have h2 := head_len (nd xs i).2.1 true (nd xs i).2.2.2.1 ((encF (mkF phi xs f (i + 1) (nd xs i).1).1).length : Int) (phi i ((encF (mkF phi xs f (i + 1) (nd xs i).1).1).length : Int))
        have h3 := hsz_range _ (hphi i ((encF (mkF phi xs f (i + 1) (nd xs i).1).1).length : Int))
        omega
      · rw [if_neg hm]
        simp only
        rw [encT, List.length_append, bytesOf_length]
        have h2 := head_len (nd xs i).2.1 false (nd xs i).2.2.2.1 ((nd xs i).2.2.2.2.size : Int) (phi i ((nd xs i).2.2.2.2.size : Int))
        have h3 := hsz_range _ (hphi i ((nd xs i).2.2.2.2.size : Int))
        omega
    · rw [mkF]
      by_cases hc : i < xs.length ∧ d < (nd xs i).1
      · rw [if_pos hc]
        have h5 := h hc.1
        have hfl := fl1 i hc.1 (by omega)
        have hq : (mkT phi xs f i).2 < xs.length → (nd xs (mkT phi xs f i).2).1 ≤ d + 1 := fun hlt => by have := hfl.2.2.2 hlt; omega
        have k1 := ih1 i hc.1 (by omega)
        have k2 := ih2 (mkT phi xs f i).2 d hfl.2.1 (by omega) hq
        have f2 := fl2 (mkT phi xs f i).2 d hfl.2.1 (by omega) hq
        have hsp := wt_split xs (i := i) (j := (mkT phi xs f i).2) (k := (mkF phi xs f (mkT phi xs f i).2 d).2) (by omega) f2.1
        simp only
        rw [encF, List.length_append]
        omega
      · rw [if_neg hc, encF]
        exact Nat.zero_le _
theorem wt_in (xs : List NodeT) {i j : Nat} (h : i ≤ j) : wt xs i j ≤ wt xs 0 xs.length := by
  have h1 := wt_split xs (i := 0) (j := i) (k := j) (by omega) h
  have h2 := wt_all xs j
  omega
/-- No sum is more than the nodes weigh; no length is. -/
theorem sumF_le (phi : Nat → Int → Nat) (xs : List NodeT) (hs : Snd xs) (hphi : ∀ i n, phi i n ≤ 4) : ∀ (n i : Nat) (d : Int), 0 ≤ sumF phi xs n i d ∧ sumF phi xs n i d ≤ wt xs 0 xs.length := by
  intro n
  induction n with
  | zero => intro i d; rw [sumF]; omega
  | succ n ih =>
    intro i d
    rw [sumF]
    by_cases c : i < xs.length
    · rw [if_pos c]
      by_cases c1 : (nd xs i).1 < d
      · rw [if_pos c1]; omega
      · rw [if_neg c1]
        by_cases c2 : (nd xs i).1 = d
        · rw [if_pos c2]
          have h1 := (enc_wt phi xs hs hphi (2 * xs.length + 2)).2 i (d - 1) (by omega) (by omega) (fun _ => by omega)
          have h2 := (mk_flat phi xs hs (2 * xs.length + 2)).2 i (d - 1) (by omega) (by omega) (fun _ => by omega)
          have h3 := wt_in xs h2.1
          omega
        · rw [if_neg c2]; exact ih _ _
    · rw [if_neg c]; omega
theorem sums_le (phi : Nat → Int → Nat) (xs : List NodeT) (hs : Snd xs) (hphi : ∀ i n, phi i n ≤ 4) (m : Nat) (hm : m ≤ xs.length) (d : Nat) (hd : 1 ≤ d) : 0 ≤ sums phi xs m d ∧ sums phi xs m d ≤ wt xs 0 xs.length := by
  rw [sums_eq phi xs hs m hm d hd]
  exact sumF_le phi xs hs hphi _ _ _
theorem lenS_le (phi : Nat → Int → Nat) (xs : List NodeT) (hs : Snd xs) (hphi : ∀ i n, phi i n ≤ 4) (i : Nat) (hi : i < xs.length) : 0 ≤ lenS xs i (sums phi xs (xs.length - (i + 1))) ∧ lenS xs i (sums phi xs (xs.length - (i + 1))) ≤ wt xs 0 xs.length := by
  unfold lenS
  by_cases hmd : (nd xs i).2.2.1 = true
  · rw [if_pos hmd]
    exact sums_le phi xs hs hphi _ (by omega) _ (by omega)
  · rw [if_neg hmd]
    have h1 := wt_one xs hi
    have h2 := wt_in xs (i := i) (j := i + 1) (by omega)
    omega
/-- THE BYTES, end to end: the tree's. -/
theorem cat_enc (phi : Nat → Int → Nat) (xs : List NodeT) (hs : Snd xs) (hphi : ∀ i n, phi i n ≤ 4) (hok : ∀ i n, 0 ≤ n → n ≤ 4294967295 → okForm n (phi i n)) (hw : wt xs 0 xs.length ≤ 4294967295) : ∀ f : Nat,
    (∀ i, i < xs.length → 2 * (xs.length - i) + 1 ≤ f → f ≤ 2 * xs.length + 1 → bytesOf (catS phi xs (mkT phi xs f i).2) = bytesOf (catS phi xs i) ++ encT (mkT phi xs f i).1) ∧
    (∀ i d, i ≤ xs.length → 2 * (xs.length - i) + 2 ≤ f → f ≤ 2 * xs.length + 2 → (i < xs.length → (nd xs i).1 ≤ d + 1) → bytesOf (catS phi xs (mkF phi xs f i d).2) = bytesOf (catS phi xs i) ++ encF (mkF phi xs f i d).1)
  | 0 => ⟨fun i h1 h2 => by omega, fun i d h1 h2 => by omega⟩
  | f + 1 => by
    obtain ⟨ih1, ih2⟩ := cat_enc phi xs hs hphi hok hw f
    obtain ⟨fl1, fl2⟩ := mk_flat phi xs hs f
    refine ⟨fun i hi hf hf2 => ?_, fun i d hi hf hf2 h => ?_⟩
    · have hle := lenS_le phi xs hs hphi i hi
      have hlen := len_eq phi xs hs i hi
      have hbe : bytesOf (hedS phi xs i) = _ := headS_bytes (made := (nd xs i).2.2.1) (hs.name i hi) (hok i _ hle.1 (by omega)) hle.1
      have hcat : bytesOf (catS phi xs (i + 1)) = bytesOf (catS phi xs i) ++ (bytesOf (hedS phi xs i) ++ bytesOf (nd xs i).2.2.2.2) := by
        rw [catS, bytesOf_append, bytesOf_append, List.append_assoc]
      rw [mkT]
      by_cases hm : (nd xs i).2.2.1 = true
      · rw [if_pos hm]
        have hq : i + 1 < xs.length → (nd xs (i + 1)).1 ≤ (nd xs i).1 + 1 := fun h => by have := (hs.next i h).2; rw [if_pos hm] at this; exact this
        have hk := ih2 (i + 1) (nd xs i).1 (by omega) (by omega) (by omega) hq
        have hmore := (mk_more phi xs hs f).2 (i + 1) (nd xs i).1 (2 * xs.length) (by omega) (by omega) (by omega) hq
        rw [if_pos hm, hmore] at hlen
        simp only
        rw [hk, hcat, hbe, hlen, encT, hs.body i hi hm, hm]
        have : bytesOf ⟨#[]⟩ = [] := rfl
        rw [this, List.append_nil, List.append_assoc]
      · rw [if_neg hm] at hlen ⊢
        simp only
        rw [hcat, hbe, hlen, encT]
        rw [Bool.not_eq_true] at hm
        rw [hm]
    · rw [mkF]
      by_cases hc : i < xs.length ∧ d < (nd xs i).1
      · rw [if_pos hc]
        have h5 := h hc.1
        have hfl := fl1 i hc.1 (by omega)
        have hq : (mkT phi xs f i).2 < xs.length → (nd xs (mkT phi xs f i).2).1 ≤ d + 1 := fun hlt => by have := hfl.2.2.2 hlt; omega
        have k1 := ih1 i hc.1 (by omega) (by omega)
        have k2 := ih2 (mkT phi xs f i).2 d hfl.2.1 (by omega) (by omega) hq
        simp only
        rw [k2, k1, encF, List.append_assoc]
      · rw [if_neg hc]
        simp only
        rw [encF, List.append_nil]
/-- The tree's last node is the list's. -/
theorem mk_end (phi : Nat → Int → Nat) (xs : List NodeT) (hs : Snd xs) (h0 : 0 < xs.length) (f : Nat) (hf : 2 * xs.length + 1 ≤ f) : (mkT phi xs f 0).2 = xs.length := by
  have h := (mk_flat phi xs hs f).1 0 h0 (by omega)
  have hf := hs.first h0
  by_cases hlt : (mkT phi xs f 0).2 < xs.length
  · have h1 := h.2.2.2 hlt
    obtain ⟨j, hj⟩ : ∃ j, (mkT phi xs f 0).2 = j + 1 := ⟨(mkT phi xs f 0).2 - 1, by omega⟩
    rw [hj] at h1 hlt
    have := (hs.next j hlt).1
    omega
  · omega
theorem cat_tree (phi : Nat → Int → Nat) (xs : List NodeT) (hs : Snd xs) (h0 : 0 < xs.length) (hphi : ∀ i n, phi i n ≤ 4) (hok : ∀ i n, 0 ≤ n → n ≤ 4294967295 → okForm n (phi i n)) (hw : wt xs 0 xs.length ≤ 4294967295) :
    bytesOf (catS phi xs xs.length) = encT (treeOf phi xs) := by
  have h := (cat_enc phi xs hs hphi hok hw (2 * xs.length + 1)).1 0 h0 (by omega) (by omega)
  rw [mk_end phi xs hs h0 _ (Nat.le_refl _)] at h
  have hm := (mk_more phi xs hs (2 * xs.length + 1)).1 0 (2 * xs.length + 2) h0 (by omega) (by omega)
  unfold treeOf
  rw [hm, h]
  rfl
end Go.Proofs.Ytbloccjogadlmaa.W

/-! ## Fronts of a tree's bytes, and what the outermost header of them is. -/
namespace Go.Proofs.Ytbloccjogadlmaa.W
open Go.RowKit Go.Proofs.YtbloccjogadlmaaW.PrintWords
set_option linter.unusedVariables false
set_option linter.unusedSimpArgs false

theorem byt_front (s : ByteArray) (n j : Nat) (h : j < n) (hn : n ≤ s.size) : byt (s.extract 0 n) (j : Int) = byt s (j : Int) := by
  have := byt_extract s 0 n j (by omega) hn
  rw [Nat.zero_add] at this
  exact this
theorem numAt_same (s t : ByteArray) : ∀ (n : Nat) (i v : Int), (∀ j : Nat, j < n → byt t (i + j) = byt s (i + j)) → numAt t i n v = numAt s i n v := by
  intro n
  induction n with
  | zero => intro i v h; rfl
  | succ n ih =>
    intro i v h
    have h0 := h 0 (by omega)
    simp only [Int.natCast_zero, Int.add_zero] at h0
    rw [numAt, numAt, h0]
    refine ih (i + 1) _ (fun j hj => ?_)
    have := h (j + 1) (by omega)
    have e : i + 1 + (j : Int) = i + ((j + 1 : Nat) : Int) := by omega
    rw [e]
    exact this
theorem hdr_front {s : ByteArray} {e : Int} {h : Hd} (hh : hdr s 0 e 1 = .ok h) (cut : Nat) (hc : cut ≤ s.size) : hdr (s.extract 0 cut) 0 cut 1 = if (cut : Int) < h.size then .error (20, (cut : Int)) else .ok h := by
  have hm : miss 1 = 20 := rfl
  unfold hdr at hh
  rw [if_neg (by omega)] at hh
  by_cases c1 : e ≤ 0
  · rw [if_pos c1] at hh; cases hh
  rw [if_neg c1] at hh
  by_cases c2 : byt s 0 % 32 = 31
  · rw [if_pos c2] at hh; cases hh
  rw [if_neg c2] at hh
  by_cases c3 : e ≤ 0 + 1
  · rw [if_pos c3] at hh; cases hh
  rw [if_neg c3] at hh
  unfold hdr
  rw [if_neg (by omega), hm]
  have b1 : 1 < cut → byt (s.extract 0 cut) (0 + 1) = byt s (0 + 1) := fun h => byt_front s cut 1 h hc
  have b0 : 0 < cut → byt (s.extract 0 cut) 0 = byt s 0 := fun h => byt_front s cut 0 h hc
  have hsz2 : 2 ≤ h.size := by
    by_cases c4 : byt s (0 + 1) < 128
    · rw [if_pos c4] at hh; injection hh with hh; rw [← hh]; exact Int.le_refl _
    · rw [if_neg c4] at hh
      by_cases c5 : byt s (0 + 1) = 128
      · rw [if_pos c5] at hh; cases hh
      rw [if_neg c5] at hh
      by_cases c6 : 132 < byt s (0 + 1)
      · rw [if_pos c6] at hh; cases hh
      rw [if_neg c6] at hh
      by_cases c7 : e < 0 + (byt s (0 + 1) - 126)
      · rw [if_pos c7] at hh; cases hh
      rw [if_neg c7] at hh
      injection hh with hh
      rw [← hh]
      show (2 : Int) ≤ byt s (0 + 1) - 126
      omega
  by_cases d1 : (cut : Int) ≤ 0
  · rw [if_pos d1, if_pos (by omega)]
  rw [if_neg d1, b0 (by omega), if_neg c2]
  by_cases d2 : (cut : Int) ≤ 0 + 1
  · rw [if_pos d2, if_pos (by omega)]
  rw [if_neg d2, b1 (by omega)]
  by_cases c4 : byt s (0 + 1) < 128
  · rw [if_pos c4] at hh ⊢
    injection hh with hh
    rw [← hh]
    rw [if_neg (show ¬ (cut : Int) < 2 by omega)]
  rw [if_neg c4] at hh ⊢
  by_cases c5 : byt s (0 + 1) = 128
  · rw [if_pos c5] at hh; cases hh
  rw [if_neg c5] at hh ⊢
  by_cases c6 : 132 < byt s (0 + 1)
  · rw [if_pos c6] at hh; cases hh
  rw [if_neg c6] at hh ⊢
  by_cases c7 : e < 0 + (byt s (0 + 1) - 126)
  · rw [if_pos c7] at hh; cases hh
  rw [if_neg c7] at hh
  injection hh with hh
  have hs6 : h.size = byt s (0 + 1) - 126 := by rw [← hh]
  by_cases c8 : (cut : Int) < h.size
  · rw [if_pos c8, if_pos (by omega)]
  · rw [if_neg c8, if_neg (by omega), ← hh]
    congr 2
    refine numAt_same s _ _ _ _ (fun j hj => ?_)
    have e : (0 : Int) + 2 + (j : Int) = ((2 + j : Nat) : Int) := by omega
    rw [e]
    exact byt_front s cut (2 + j) (by omega) hc
/-- The outermost header of bytes that begin with a tree's. -/
def topH : Tr → Hd
  | .leaf c t b k => ⟨c, false, t, b.size, hsz k⟩
  | .made c t f k => ⟨c, true, t, (encF f).length, hsz k⟩
theorem top_size (t : Tr) : (topH t).size + (topH t).len = (encT t).length := by
  cases t with
  | leaf c g b k => rw [encT, List.length_append, bytesOf_length]; have := head_len c false g (b.size : Int) k; show hsz k + (b.size : Int) = _; omega
  | made c g f k => rw [encT, List.length_append]; have := head_len c true g ((encF f).length : Int) k; show hsz k + ((encF f).length : Int) = _; omega
theorem top_range (t : Tr) (hok : okT t) : 2 ≤ (topH t).size ∧ (topH t).size ≤ 6 ∧ 0 ≤ (topH t).len := by
  cases t with
  | leaf c g b k => have := hsz_range k (okForm_le hok.2); exact ⟨this.1, this.2, Int.natCast_nonneg _⟩
  | made c g f k => have := hsz_range k (okForm_le hok.2.1); exact ⟨this.1, this.2, Int.natCast_nonneg _⟩
theorem hdr_top {s : ByteArray} {t : Tr} (hok : okT t) (h : Has s 0 (encT t)) (e : Int) (he : ((encT t).length : Int) ≤ e) : hdr s 0 e 1 = .ok (topH t) := by
  have h1 := top_size t
  have h2 := top_range t hok
  cases t with
  | leaf c g b k =>
    rw [encT] at h
    have hz : (topH (.leaf c g b k)).size = hsz k := rfl
    exact hdr_has h.left hok.1.1 hok.1.2.1 hok.1.2.2.1 hok.1.2.2.2 (by omega) hok.2 (by omega) (by omega)
  | made c g f k =>
    rw [encT] at h
    have hz : (topH (.made c g f k)).size = hsz k := rfl
    exact hdr_has h.left hok.1.1 hok.1.2.1 hok.1.2.2.1 hok.1.2.2.2 (by omega) hok.2.1 (by omega) (by omega)
/-- A shorter front is refused. -/
theorem tree_front {s : ByteArray} {t : Tr} (hok : okT t) (h : Has s 0 (encT t)) (hs : (s.size : Int) = (encT t).length) (cut : Nat) (hc : cut < s.size) : treeS (s.extract 0 cut) = ([], 20, (cut : Int)) := by
  have hz : (s.extract 0 cut).size = cut := by simp; omega
  have hh := hdr_front (hdr_top hok h s.size (by omega)) cut (by omega)
  have ht := top_size t
  have hb : bnd (s.extract 0 cut) 0 cut 1 = .error (20, (cut : Int)) := by
    unfold bnd
    rw [hh]
    by_cases c : (cut : Int) < (topH t).size
    · rw [if_pos c]
    · rw [if_neg c]
      simp only
      rw [if_pos (by omega)]
      rfl
  unfold treeS walkS
  rw [hz, elemF, hb]
  rfl
/-- The bytes of a sound list, in any form, are a tree's. -/
theorem spelt_tree (forms : List Int) (xs : List NodeT) (hs : Snd xs) (h0 : 0 < xs.length) (hw : wt xs 0 xs.length ≤ 134217728) (hphi : ∀ i n, phiF forms i n ≤ 4) :
    okT (treeOf (phiF forms) xs) ∧ deepT (treeOf (phiF forms) xs) ≤ 64 ∧ bytesOf (catS (phiF forms) xs xs.length) = encT (treeOf (phiF forms) xs) ∧ flatT 1 (treeOf (phiF forms) xs) = xs ∧ (encT (treeOf (phiF forms) xs)).length ≤ wt xs 0 xs.length := by
  have hl : (encT (treeOf (phiF forms) xs)).length ≤ wt xs 0 xs.length := by
    have := (enc_wt (phiF forms) xs hs hphi (2 * xs.length + 2)).1 0 h0 (by omega)
    rw [mk_end (phiF forms) xs hs h0 _ (by omega)] at this
    exact this
  have hk := (mk_ok (phiF forms) xs hs (phiF_ok forms) (2 * xs.length + 2)).1 0 h0 (by omega) (Nat.le_trans hl (by omega))
  have hf := hs.first h0
  refine ⟨hk.1, ?_, cat_tree (phiF forms) xs hs h0 hphi (phiF_ok forms) (by omega), tree_flat (phiF forms) xs hs h0, hl⟩
  have := hk.2
  unfold treeOf
  omega
end Go.Proofs.Ytbloccjogadlmaa.W

/-! ## Walk of the statements' own spelt: a tree's bytes with each length in the form that is asked for. -/
namespace Go.Proofs.Ytbloccjogadlmaa.W
open Go.RowKit Go.Proofs.YtbloccjogadlmaaW.PrintWords Go.Proofs.YtbloccjogadlmaaW.PrintLast
set_option linter.unusedVariables false
set_option linter.unusedSimpArgs false

/-- The sums, as cells. -/
def arr66 (S : Nat → Int) : Array Value := ((List.range 66).map fun d => Value.int .i64 (S d)).toArray
theorem arr66_get (S : Nat → Int) (d : Nat) (h : d < 66) : (arr66 S)[d]? = some (.int .i64 (S d)) := by
  unfold arr66
  simp [h]
theorem arr66_set (S : Nat → Int) (d : Nat) (v : Int) : (arr66 S).setIfInBounds d (.int .i64 v) = arr66 (fun x => if x = d then v else S x) := by
  unfold arr66
  apply Array.ext
  · simp
  · intro i h1 h2
    simp at h1 h2
    simp only [List.setIfInBounds_toArray, List.getElem_toArray]
    rw [List.getElem_set]
    by_cases h : d = i
    · subst h
      simp
    · rw [if_neg h]
      simp only [List.getElem_map, List.getElem_range]
      rw [if_neg (fun e => h e.symm)]
/-- The headers, as cells: those from node i on are laid. -/
def hedA (phi : Nat → Int → Nat) (xs : List NodeT) (i : Nat) : Array Value := ((List.range xs.length).map fun j => Value.string (if i ≤ j then hedS phi xs j else ⟨#[]⟩)).toArray
theorem hedA_get (phi : Nat → Int → Nat) (xs : List NodeT) (i j : Nat) (h : j < xs.length) : (hedA phi xs i)[j]? = some (.string (if i ≤ j then hedS phi xs j else ⟨#[]⟩)) := by
  unfold hedA
  simp [h]
theorem hedA_set (phi : Nat → Int → Nat) (xs : List NodeT) (i : Nat) : (hedA phi xs (i + 1)).setIfInBounds i (.string (hedS phi xs i)) = hedA phi xs i := by
  unfold hedA
  apply Array.ext
  · simp
  · intro j h1 h2
    simp at h1 h2
    simp only [List.setIfInBounds_toArray, List.getElem_toArray]
    rw [List.getElem_set]
    by_cases h : i = j
    · subst h
      simp
    · rw [if_neg h]
      simp only [List.getElem_map, List.getElem_range]
      by_cases h3 : i ≤ j
      · rw [if_pos h3, if_pos (by omega)]
      · rw [if_neg h3, if_neg (by omega)]
theorem hedA_start (phi : Nat → Int → Nat) (xs : List NodeT) : madeCells #[.string ⟨#[]⟩] xs.length = hedA phi xs xs.length := by
  unfold hedA madeCells
  apply Array.ext
  · simp
  · intro j h1 h2
    simp at h1 h2
    simp only [List.getElem_toArray, List.getElem_map, List.getElem_range]
    rw [if_neg (by omega)]
    have e : j % 1 = 0 := Nat.mod_one j
    simp [h1, e]
def zc66 : Array Value := (List.replicate 66 (Value.int .i64 0)).toArray
theorem zc66_run : ∀ W : World, Sem.run Try.prog (zeroValue 65) W = .ok (.agg zc66) W := fun W => by kernel_rfl
theorem zc66_ne : zc66 ≠ #[] := by decide
theorem arr66_zero : zc66 = arr66 (sums (fun _ _ => 0) [] 0) := by rfl
theorem infoStr9 : (Try.prog.info? 9).map (fun i => (i.zero, i.size, i.bytes)) = some (some (.string ⟨#[]⟩), 1, 16) := by kernel_rfl
/-- Did all lengths behind (m nodes done) come out in the shortest form? -/
def wider (forms : List Int) (i : Nat) (n : Int) : Bool := decide (i < forms.length ∧ (wideK n : Int) < forms.getD i 0 ∧ forms.getD i 0 ≤ 4)
def shB (forms : List Int) (xs : List NodeT) : Nat → Bool
  | 0 => true
  | m + 1 => shB forms xs m && !(wider forms (xs.length - (m + 1)) (lenS xs (xs.length - (m + 1)) (sums (phiF forms) xs m)))
theorem phiF_le (forms : List Int) (i : Nat) (n : Int) : phiF forms i n ≤ 4 := by
  unfold phiF
  split
  · omega
  · unfold wideK
    repeat' split
    all_goals omega
theorem hed_size (phi : Nat → Int → Nat) (xs : List NodeT) (hphi : ∀ i n, phi i n ≤ 4) (i : Nat) : (hedS phi xs i).size ≤ 6 := by
  have h := headS_size (nd xs i).2.1 (nd xs i).2.2.1 (nd xs i).2.2.2.1 (lenS xs i (sums phi xs (xs.length - (i + 1)))) (phi i (lenS xs i (sums phi xs (xs.length - (i + 1)))))
  have h2 := hsz_range _ (hphi i (lenS xs i (sums phi xs (xs.length - (i + 1)))))
  have h3 : (hedS phi xs i).size = (headS (nd xs i).2.1 (nd xs i).2.2.1 (nd xs i).2.2.2.1 (lenS xs i (sums phi xs (xs.length - (i + 1)))) (phi i (lenS xs i (sums phi xs (xs.length - (i + 1)))))).size := rfl
  omega
theorem cat_size (phi : Nat → Int → Nat) (xs : List NodeT) (hphi : ∀ i n, phi i n ≤ 4) : ∀ j, j ≤ xs.length → (catS phi xs j).size ≤ wt xs 0 j := by
  intro j
  induction j with
  | zero => intro _; exact Nat.zero_le _
  | succ j ih =>
    intro h
    have h1 := ih (by omega)
    have h2 := wt_one xs (show j < xs.length by omega)
    have h3 := wt_split xs (i := 0) (j := j) (k := j + 1) (by omega) (by omega)
    have h4 := hed_size phi xs hphi j
    rw [catS, ByteArray.size_append, ByteArray.size_append]
    omega
def lenN (nm : Bool) (a b : Int) : Int := if nm = true then a else b
def sumN (nm : Bool) (D : Nat) (S : Nat → Int) : Nat → Int := fun x => if nm = true ∧ x = D + 1 then 0 else S x
theorem sumN_true (D : Nat) (S : Nat → Int) : (arr66 S).setIfInBounds (D + 1) (.int .i64 0) = arr66 (sumN true D S) := by
  rw [arr66_set]
  congr 1
  funext x
  unfold sumN
  by_cases hx : x = D + 1
  · rw [if_pos hx, if_pos ⟨rfl, hx⟩]
  · rw [if_neg hx, if_neg (fun h => hx h.2)]
theorem sumN_false (D : Nat) (S : Nat → Int) : sumN false D S = S := by
  funext x
  unfold sumN
  rw [if_neg (fun h => Bool.false_ne_true h.1)]
set_option maxRecDepth 100000 in
set_option maxHeartbeats 4000000 in
theorem spelt_any (A : Option Addr) (c : Nat) (xs : List NodeT) (F : Option Addr) (cf : Nat) (forms : List Int) (w : World) (hC : Kd.C kNode w A xs.length xs) (hc : xs.length ≤ c) (hF : Kd.C (Kd.int .i64) w F forms.length forms) (hcf : forms.length ≤ cf)
    (hs : Snd xs) (h0 : 0 < xs.length) (hfew : xs.length ≤ 100000000) (hw : wt xs 0 xs.length ≤ 134217728) :
    Calls Try.prog 12 #[.slice A xs.length c, .slice F forms.length cf] w fun en w' => en = .returned (.tuple #[.string (catS (phiF forms) xs xs.length), .bool (shB forms xs xs.length)]) ∧ Below w.heap.size w w' := by
  obtain ⟨ad, rfl, -⟩ := node_at hC 0 h0
  have hmk : ∀ W : World, (Instr.makeSlice 64 (.int .i64 (xs.length : Int)) (.int .i64 (xs.length : Int))).run Try.prog W = .ok (.slice (some ⟨W.heap.size, 0, none⟩) xs.length xs.length) (W.alloc (.cells (hedA (phiF forms) xs xs.length) 9)) := by
    intro W
    obtain ⟨i, hi, hzz⟩ := Option.map_eq_some_iff.1 infoStr9
    simp only [Prod.mk.injEq] at hzz
    obtain ⟨hz, hsz1, hb⟩ := hzz
    have hr := run_make (P := Try.prog) W 64 9 i (.string ⟨#[]⟩) (by kernel_rfl) hi hz .i64 .i64 xs.length xs.length (by omega) (Int.le_refl _) (by rw [hb]; omega) (by omega)
    simp only [Int.toNat_natCast, hsz1, Nat.mul_one] at hr
    rw [hr, ← hedA_start]
    rfl
  have HS := Lib.hid hs
  have HC := Lib.hid hC
  have HF := Lib.hid hF
  clear hs hC hF
  have hz66 := zc66_run
  have hz66n := zc66_ne
  go_enter Try.func12, Try.ntmps12
  go_wp2_with fail
  go_loopw [8, 9] (fun v i wr => ∃ k : Nat, k ≤ xs.length ∧ v = .bool (shB forms xs (xs.length - k)) ∧ i = .int .i64 ((k : Int) - 1) ∧ At wr w.heap.size 9 (hedA (phiF forms) xs k) ∧ At wr (w.heap.size + 1) 65 (arr66 (sums (phiF forms) xs (xs.length - k))) ∧ Below w.heap.size w wr)
    (fun _ i _ => (intOf i + 1).toNat)
  case atStart =>
    refine ⟨xs.length, Nat.le_refl _, ?_, rfl, ?_, ?_, ?_⟩
    · rw [Nat.sub_self]; rfl
    · exact (At.new w _ _).alloc _
    · rw [Nat.sub_self]
      have := At.new (w.alloc (.cells (hedA (phiF forms) xs xs.length) 9)) 65 zc66
      simp at this
      exact this
    · exact ((Below.refl _ _).alloc (Nat.le_refl _) _).alloc (by simp) _
  case round =>
    obtain ⟨k, hk, rfl, hi, rH, rS, qB⟩ := hrel
    have zw := qB.size
    cases k with
    | zero =>
      obtain ⟨fin, hfin⟩ : ∃ fin, fin = shB forms xs (xs.length - 0) := ⟨_, rfl⟩
      rw [← hfin]
      have HFIN := Lib.hid hfin
      have e0 : ((0 : Nat) : Int) - 1 = -1 := rfl
      rw [e0] at hi
      clear hfin rS
      subst hi
      go_wp2_with fail
      obtain ⟨w1, rfl⟩ : ∃ w1, w1 = wr := ⟨_, rfl⟩
      go_loopw [13, 14] (fun v i wr => ∃ j : Nat, j ≤ xs.length ∧ i = .int .i64 (j : Nat) ∧ wr.ownsRow w1.heap.size 5 1 v (bytesOf (catS (phiF forms) xs j)).length (nums .u8 (bytesOf (catS (phiF forms) xs j))) ∧ At wr w.heap.size 9 (hedA (phiF forms) xs 0) ∧ Below w.heap.size w wr ∧ w1.heap.size ≤ wr.heap.size)
        (fun _ i _ => xs.length - (intOf i).toNat)
      case atStart => exact ⟨0, Nat.zero_le _, rfl, own_nil _ _ _ _, rH, qB, Nat.le_refl _⟩
      case round =>
        obtain ⟨j, hj, rfl, rO, rH2, qB2, zl⟩ := hrel
        obtain ⟨Ab, cb, rfl⟩ := own_slice rO
        have hcs := cat_size (phiF forms) xs (phiF_le forms) j hj
        have hwj := wt_all xs j
        have lH := rH.lt
        by_cases hjl : j < xs.length
        · obtain ⟨ad', e', m0, m1, m2, m3, m4⟩ := node_at (Kd.C_below HC.out qB2) j hjl
          obtain rfl : ad = ad' := Option.some.inj e'
          have hh := hed_size (phiF forms) xs (phiF_le forms) j
          have hwo := wt_one xs hjl
          have hws := wt_split xs (i := 0) (j := j) (k := j + 1) (by omega) (by omega)
          have hwa := wt_all xs (j + 1)
          have hc1 : w1.heap.size ≤ wr.heap.size := zl
          obtain ⟨nb, hnb⟩ : ∃ nb, nb = (nd xs j).2.2.2.2 := ⟨_, rfl⟩
          rw [← hnb] at m4 hwo
          obtain ⟨H, hH⟩ : ∃ H, H = hedS (phiF forms) xs j := ⟨_, rfl⟩
          rw [← hH] at hh
          have hd := (rH2.cell j).trans (hedA_get (phiF forms) xs 0 j hjl)
          rw [if_pos (Nat.zero_le j), ← hH] at hd
          obtain ⟨b, hb⟩ : ∃ b, b = catS (phiF forms) xs j := ⟨_, rfl⟩
          rw [← hb] at rO hcs
          have hlen1 : (bytesOf b).length + H.size ≤ 140737488355328 := by rw [bytesOf_length]; omega
          have hlen2 : (bytesOf (b ++ H)).length + nb.size ≤ 140737488355328 := by rw [bytesOf_length, ByteArray.size_append]; omega
          have hnext : Hid (catS (phiF forms) xs (j + 1) = b ++ H ++ nb) := by
            show catS (phiF forms) xs (j + 1) = b ++ H ++ nb
            rw [catS, hb, hH, hnb]
          have j0 : (0 : Int) ≤ (j : Int) := by omega
          have j1 : (j : Int) < (xs.length : Int) := by omega
          rw [← hb]
          have HNB := Lib.hid hnb
          clear hnb hH hb e' m0 m1 m2 m3 hcs hwj hwo hws hwa hh
          go_upto_region 23 with (at_builtin; go_must (refine print_append_str (w0 := wr) w1.heap.size rfl (.tmp 96) (.tmp 100) 68 9 5 rfl Try.underlying68 Try.underlying9 infoU8 (.slice Ab (bytesOf b).length cb) (bytesOf b) H rfl rfl rO (Below.refl _ _) zl hlen1 ?_); intro v1 w3 hO3 hb3 hg3)
          rw [← bytesOf_append] at hO3
          obtain ⟨A3, c3, rfl⟩ := own_slice hO3
          have rH3 : At w3 w.heap.size 9 (hedA (phiF forms) xs 0) := (hg3.block _ rH2.lt (own_ne rO rH2 (by decide))).trans rH2
          have zq := qB2.size
          have qB3 : Below w.heap.size w w3 := ⟨hg3.os.trans qB2.os, hg3.tape.trans qB2.tape, hg3.output.trans qB2.output, Nat.le_trans qB2.size hg3.size, fun q hq => (hg3.block q (by omega) (fun e => by have := own_base rO q e.symm; omega)).trans (qB2.block q hq)⟩
          have zl3 : w1.heap.size ≤ w3.heap.size := Nat.le_trans zl hg3.size
          obtain ⟨ad', e', p0, p1, p2, p3, p4⟩ := node_at (Kd.C_below HC.out qB3) j hjl
          obtain rfl : ad = ad' := Option.some.inj e'
          rw [← HNB.out] at p4
          clear e' p0 p1 p2 p3 m4 hd rO rH2 hb3 hg3 qB2
          go_wp2_with (at_builtin; go_must (refine print_append_str (w0 := w3) w1.heap.size rfl (.tmp 102) (.tmp 107) 68 9 5 rfl Try.underlying68 Try.underlying9 infoU8 (.slice A3 (bytesOf (b ++ H)).length c3) (bytesOf (b ++ H)) nb rfl rfl hO3 (Below.refl _ _) zl3 hlen2 ?_); intro v2 w4 hO4 hb4 hg4)
          rw [← bytesOf_append, ← hnext.out] at hO4
          have rH4 : At w4 w.heap.size 9 (hedA (phiF forms) xs 0) := (hg4.block _ rH3.lt (own_ne hO3 rH3 (by decide))).trans rH3
          have zq3 := qB3.size
          have qB4 : Below w.heap.size w w4 := ⟨hg4.os.trans qB3.os, hg4.tape.trans qB3.tape, hg4.output.trans qB3.output, Nat.le_trans qB3.size hg4.size, fun q hq => (hg4.block q (by omega) (fun e => by have := own_base hO3 q e.symm; omega)).trans (qB3.block q hq)⟩
          have zl4 : w1.heap.size ≤ w4.heap.size := Nat.le_trans zl3 hg4.size
          clear rH3 qB3 hO3 hb4 hg4 p4
          go_wp2
          go_roundw
          case rel => exact ⟨j + 1, by omega, by go_num, hO4, rH4, qB4, zl4⟩
          case measure => simp [intOf]; omega
        · obtain rfl : j = xs.length := by omega
          obtain ⟨b, hb⟩ : ∃ b, b = catS (phiF forms) xs xs.length := ⟨_, rfl⟩
          rw [← hb] at rO hcs
          rw [← hb]
          have HBB := Lib.hid hb
          have hcv : (convert 68 9 (.slice Ab (bytesOf b).length cb)).run Try.prog wr = .ok (.string b) wr := by
            have h := own_string (P := Try.prog) (src := 68) (dst := 9) (e := 5) Try.underlying68 Try.underlying5 Try.underlying9 rO
            rwa [str_bytes] at h
          clear hb rO rH2
          go_wp2_with fail
          go_ret2
          exact ⟨by rw [HBB.out, HFIN.out, Nat.sub_zero]; rfl, qB2⟩
    | succ k =>
      have e0 : ((k + 1 : Nat) : Int) - 1 = (k : Int) := by omega
      rw [e0] at hi
      subst hi
      have hkl : k < xs.length := by omega
      obtain ⟨ad', e', m0, m1, m2, m3, m4⟩ := node_at (Kd.C_below HC.out qB) k hkl
      obtain rfl : ad = ad' := Option.some.inj e'
      have hdp := HS.out.depth k hkl
      obtain ⟨n, hn⟩ : ∃ n, n = nd xs k := ⟨_, rfl⟩
      rw [← hn] at m0 m1 m2 m3 m4 hdp
      obtain ⟨nd0, nc, nm, nt, nb⟩ := n
      simp only at m0 m1 m2 m3 m4 hdp
      obtain ⟨D, rfl⟩ : ∃ D : Nat, nd0 = (D : Int) := ⟨nd0.toNat, by omega⟩
      have k0 : (0 : Int) ≤ (k : Int) := by omega
      have k1 : (k : Int) < (xs.length : Int) := by omega
      have hbl : (ad.add (k * 5)).block < wr.heap.size := World.block_lt_of_cell? wr _ m0
      obtain ⟨S, hS⟩ : ∃ S, S = sums (phiF forms) xs (xs.length - (k + 1)) := ⟨_, rfl⟩
      rw [← hS] at rS
      obtain ⟨bS, hbS⟩ : ∃ bS, bS = shB forms xs (xs.length - (k + 1)) := ⟨_, rfl⟩
      rw [← hbS]
      have s1 : wr.cell? ⟨w.heap.size + 1, D + 1, none⟩ = some (.int .i64 (S (D + 1))) := (rS.cell (D + 1)).trans (arr66_get S (D + 1) (by omega))
      have s0 : wr.cell? ⟨w.heap.size + 1, D, none⟩ = some (.int .i64 (S D)) := (rS.cell D).trans (arr66_get S D (by omega))
      have f1 := rS.free (D + 1)
      have lS := rS.lt
      have HN := Lib.hid hn
      have HSS := Lib.hid hS
      have HBS := Lib.hid hbS
      clear hn hS hbS e' e0
      obtain ⟨len, hlen⟩ : ∃ len : Int, len = lenN nm (S (D + 1)) nb.size := ⟨_, rfl⟩
      go_upto_if 33 with fail
      go_cut [11] from 34 to 42 (fun v11 wc => v11 = .int .i64 len ∧ At wc wr.heap.size 39 #[.int .i64 (D : Int), .int .i64 nc, .bool nm, .int .i64 nt, .string nb] ∧ At wc (w.heap.size + 1) 65 (arr66 (sumN nm D S)) ∧ At wc w.heap.size 9 (hedA (phiF forms) xs (k + 1)) ∧ Below w.heap.size w wc)
      case first =>
        cases nm with
        | true =>
          go_wp2_with fail
          go_meet
          case rel =>
            have aN := At.new (wr.setCell ⟨w.heap.size + 1, D + 1, none⟩ (.int .i64 0)) 39 #[.int .i64 (D : Int), .int .i64 nc, .bool true, .int .i64 nt, .string nb]
            have ez : (wr.setCell ⟨w.heap.size + 1, D + 1, none⟩ (.int .i64 0)).heap.size = wr.heap.size := by simp [World.setCell]
            rw [ez] at aN
            refine ⟨by rw [hlen]; rfl, aN, ?_, (rH.far (by simp) _).alloc _, (qB.setCell (by simp) _).alloc (by rw [ez]; exact zw) _⟩
            rw [← sumN_true]
            exact (rS.set (D + 1) _).alloc _
        | false =>
          go_wp2_with fail
          go_meet
          case rel =>
            refine ⟨by rw [hlen]; rfl, At.new wr 39 _, ?_, rH.alloc _, qB.alloc zw _⟩
            rw [sumN_false]
            exact rS.alloc _
      case rest =>
        obtain ⟨rfl, aN, aS, aH, qB2⟩ := hcut
        obtain ⟨S2, hS2⟩ : ∃ S2 : Nat → Int, S2 = sumN nm D S := ⟨_, rfl⟩
        rw [← hS2] at aS
        have HS2 := Lib.hid hS2
        have HLEN := Lib.hid hlen
        clear hS2 hlen s1 s0 f1 rH rS m0 m1 m2 m3 m4
        obtain ⟨wd, hwd⟩ : ∃ wd, wd = wider forms k len := ⟨_, rfl⟩
        obtain ⟨wk, hwk⟩ : ∃ wk : Nat, wk = wideK len := ⟨_, rfl⟩
        have HWD := Lib.hid hwd
        have HWK := Lib.hid hwk
        clear hwd hwk
        go_wp2_with fail
        refine (wide_any len _).mono ?_
        rintro en w2 ⟨rfl, nd, rfl⟩
        rw [← HWK.out]
        go_upto_region 13 with fail
        go_cut [63] from 45 to 63 (fun v63 wx => v63 = .bool wd ∧ At wx wr.heap.size 39 #[.int .i64 (D : Int), .int .i64 nc, .bool nm, .int .i64 nt, .string nb] ∧ At wx (w.heap.size + 1) 65 (arr66 S2) ∧ At wx w.heap.size 9 (hedA (phiF forms) xs (k + 1)) ∧ Below w.heap.size w wx)
        case first =>
          by_cases cl : k < forms.length
          · obtain ⟨fa, cF, eF, _, hK, hcF⟩ := Kd.C_get (Kd.C_below HF.out (below_draws qB2 nd)) 0 (k : Int) (by omega) (by omega)
            have hK' : cF = [.int .i64 (forms.getD (k : Int).toNat 0)] := hK
            subst hK'
            have hcell := hcF 0 _ rfl
            rw [Int.toNat_natCast] at hcell
            obtain ⟨fk, hfk⟩ : ∃ fk, fk = forms.getD k 0 := ⟨_, rfl⟩
            rw [← hfk] at hcell
            have q1 : (k : Int) < (forms.length : Int) := by omega
            have hwf : wd = decide ((wk : Int) < fk ∧ fk ≤ 4) := by
              rw [HWD.out, HWK.out, hfk]
              unfold wider
              simp only [cl, true_and]
            have e3 : k * Kd.sz (Kd.int .i64) + 0 = k := by show k * 1 + 0 = k; omega
            rw [e3] at hcell
            subst eF
            clear hcF hK hfk e3
            by_cases c2 : (wk : Int) < fk
            · by_cases c3 : fk ≤ 4
              · rw [decide_eq_true ⟨c2, c3⟩] at hwf
                subst hwf
                go_wp2_with fail
                go_meet
                case rel => exact ⟨rfl, aN.drewN _, aS.drewN _, aH.drewN _, below_draws qB2 _⟩
              · rw [decide_eq_false (fun h => c3 h.2)] at hwf
                subst hwf
                go_wp2_with fail
                go_meet
                case rel => exact ⟨rfl, aN.drewN _, aS.drewN _, aH.drewN _, below_draws qB2 _⟩
            · rw [decide_eq_false (fun h => c2 h.1)] at hwf
              subst hwf
              go_wp2_with fail
              go_meet
              case rel => exact ⟨rfl, aN.drewN _, aS.drewN _, aH.drewN _, below_draws qB2 _⟩
          · have q1 : ¬ (k : Int) < (forms.length : Int) := by omega
            have hwf : wd = false := by
              rw [HWD.out]
              unfold wider
              exact decide_eq_false (fun h => cl h.1)
            subst hwf
            go_wp2_with fail
            go_meet
            case rel => exact ⟨rfl, aN.drewN _, aS.drewN _, aH.drewN _, below_draws qB2 _⟩
        case rest =>
          obtain ⟨rfl, bN, bA, bH, qB3⟩ := hcut
          clear aN aS aH qB2
          go_upto_if 63 with fail
          obtain ⟨ks, hks⟩ : ∃ ks : Nat, ks = phiF forms k len := ⟨_, rfl⟩
          have hn1 : Hid (ks = phiF forms k len) := hks
          clear hks
          have hkf : Hid (wd = false → ks = wk) := by
            intro h
            have h1 := HWD.out
            rw [h] at h1
            unfold wider at h1
            rw [hn1.out, HWK.out]
            unfold phiF
            rw [if_neg (of_decide_eq_false h1.symm)]
          have hkt : Hid (wd = true → k < forms.length ∧ (ks : Int) = forms.getD k 0) := by
            intro h
            have h1 := HWD.out
            rw [h] at h1
            unfold wider at h1
            have h2 := of_decide_eq_true h1.symm
            rw [hn1.out]
            unfold phiF
            rw [if_pos h2]
            exact ⟨h2.1, by omega⟩
          have hnk := HN.out
          have hn2 : Hid (okN nc nt) := by
            have := HS.out.name k hkl
            rw [← hnk] at this
            exact this
          have hn4 : 0 ≤ S D ∧ S D ≤ 134217728 := by
            have := sums_le (phiF forms) xs HS.out (phiF_le forms) (xs.length - (k + 1)) (by omega) D (by omega)
            rw [← HSS.out] at this
            omega
          have hlS : Hid (len = lenS xs k (sums (phiF forms) xs (xs.length - (k + 1)))) := by
            show len = lenS xs k (sums (phiF forms) xs (xs.length - (k + 1)))
            rw [← HSS.out, HLEN.out]
            unfold lenS lenN
            rw [← hnk]
            simp only [Int.toNat_natCast]
          have hn3 : 0 ≤ len ∧ len ≤ 134217728 := by
            have := lenS_le (phiF forms) xs HS.out (phiF_le forms) k hkl
            rw [← hlS.out] at this
            omega
          clear hnk
          go_cut [8, 12] from 64 to 67 (fun v8 v12 wy => v8 = .bool (bS && !wd) ∧ v12 = .int .i64 (ks : Nat) ∧ At wy wr.heap.size 39 #[.int .i64 (D : Int), .int .i64 nc, .bool nm, .int .i64 nt, .string nb] ∧ At wy (w.heap.size + 1) 65 (arr66 S2) ∧ At wy w.heap.size 9 (hedA (phiF forms) xs (k + 1)) ∧ Below w.heap.size w wy)
          case first =>
            cases wd with
            | true =>
              obtain ⟨cl, hkv⟩ := hkt.out rfl
              obtain ⟨fa, cF, eF, _, hK, hcF⟩ := Kd.C_get (Kd.C_below HF.out qB3) 0 (k : Int) (by omega) (by omega)
              have hK' : cF = [.int .i64 (forms.getD (k : Int).toNat 0)] := hK
              subst hK'
              have hcell := hcF 0 _ rfl
              have e3 : (k : Int).toNat * Kd.sz (Kd.int .i64) + 0 = k := by show (k : Int).toNat * 1 + 0 = k; omega
              rw [e3, Int.toNat_natCast, ← hkv] at hcell
              have q1 : (k : Int) < (forms.length : Int) := by omega
              subst eF
              clear hcF hK e3 hkv
              go_wp2_with fail
              go_meet
              case rel => exact ⟨by rw [Bool.not_true, Bool.and_false], rfl, bN, bA, bH, qB3⟩
            | false =>
              have hkk := hkf.out rfl
              have HKK := Lib.hid hkk
              clear hkk
              go_wp2_with fail
              go_meet
              case rel => exact ⟨by rw [Bool.not_false, Bool.and_true], by rw [HKK.out], bN, bA, bH, qB3⟩
          case rest =>
            obtain ⟨rfl, rfl, cN, cA, cH, qB4⟩ := hcut
            clear bN bA bH qB3
            have n0 := (cN.cell 0).trans rfl
            have n1 := (cN.cell 1).trans rfl
            have n2 := (cN.cell 2).trans rfl
            have n3 := (cN.cell 3).trans rfl
            have n4 := (cN.cell 4).trans rfl
            have hokf : Hid (okForm len ks) := by
              have := phiF_ok forms k len hn3.1 (by omega)
              rw [hn1.out]
              exact this
            have hLong : ∀ W : World, Calls Try.prog 26 #[.agg #[.int .i64 (D : Int), .int .i64 nc, .bool nm, .int .i64 nt, .string nb], .int .i64 len, .int .i64 (ks : Nat)] W fun e w' => e = .returned (.string (headS nc nm nt len ks)) ∧ Below W.heap.size W w' := fun W => long_any (D : Int) nc nt len nm nb ks W hn2.out hokf.out hn3.1 (by omega)
            have HLong := Lib.hid hLong
            clear hLong
            go_wp2_with fail
            refine (HLong.out _).mono ?_
            rintro en w5 ⟨rfl, b5⟩
            have zc := qB4.size
            have dN := cN.below b5 cN.lt
            have dA := cA.below b5 cA.lt
            have dH := cH.below b5 cH.lt
            have qB5 := qB4.trans (b5.mono zc)
            clear cN cA cH qB4 b5 n0 n1 n2 n3 n4
            have d1 := (dH.cell k).trans (hedA_get _ _ _ k hkl)
            have d2 := dH.free k
            obtain ⟨H, hH⟩ : ∃ H, H = headS nc nm nt len ks := ⟨_, rfl⟩
            rw [← hH]
            have HH := Lib.hid hH
            clear hH
            go_upto_region 17 with fail
            have eN : At (w5.setCell ⟨w.heap.size, k, none⟩ (.string H)) wr.heap.size 39 #[.int .i64 (D : Int), .int .i64 nc, .bool nm, .int .i64 nt, .string nb] := dN.far (by simp; omega) _
            have eA : At (w5.setCell ⟨w.heap.size, k, none⟩ (.string H)) (w.heap.size + 1) 65 (arr66 S2) := dA.far (by simp) _
            have eH := dH.set k (.string H)
            have qB6 : Below w.heap.size w (w5.setCell ⟨w.heap.size, k, none⟩ (.string H)) := qB5.setCell (by simp) _
            clear dN dA dH qB5 d1 d2
            generalize w5.setCell ⟨w.heap.size, k, none⟩ (.string H) = w6 at eN eA eH qB6 ⊢
            have hSD : S2 D = S D := by
              rw [HS2.out]
              unfold sumN
              rw [if_neg (by omega)]
            have eD := (eA.cell D).trans (arr66_get S2 D (by omega))
            rw [hSD] at eD
            have eHk : w6.cell? ⟨w.heap.size, k, none⟩ = some (.string H) := by
              rw [eH.cell k, Array.getElem?_setIfInBounds_self_of_lt]
              unfold hedA
              simp only [List.size_toArray, List.length_map, List.length_range]
              exact hkl
            have hHs : (H.size : Int) = hsz ks := by rw [HH.out, headS_size]
            have hz := hsz_range ks (okForm_le hokf.out)
            rw [← hHs] at hz
            have eF := eA.free D
            have D0 : (0 : Int) ≤ (D : Int) := by omega
            have D1 : (D : Int) < 66 := by omega
            clear HLong
            refine start_ (n := 16) (S := fun V => V.cell? ⟨wr.heap.size, 0, none⟩ = some (.int .i64 (D : Int)) ∧ V.cell? ⟨w.heap.size + 1, D, none⟩ = some (.int .i64 (S D)) ∧ V.cell? ⟨w.heap.size, k, none⟩ = some (.string H)) (ds := [15]) #[false, false, false, false, false, false, false, false, false, false, false, false, false, false, false, false] (by kernel_rfl) rfl rfl ⟨(eN.drew.cell 0).trans rfl, eD, eHk⟩ (fun hHeld => ?_)
            refine pure_ (i := 0) (N := some 75) (v := ?_) (a' := ?_) #[true, false, false, false, false, false, false, false, false, false, false, false, false, false, false, false] rfl rfl (by kernel_rfl) (fun _ _ _ h => h) (Or.inl ⟨by rfl, ?_⟩) ?_ ?_
            rotate_left
            · intro w'
              go_simp
              with_reducible rfl
            rotate_left
            · simp only [Act.put, List.setIfInBounds_toArray, List.set_cons_zero, List.set_cons_succ, i64_w, i32_w]
              rfl
            refine pure_ (i := 2) (N := some 77) (v := ?_) (a' := ?_) #[true, false, true, false, false, false, false, false, false, false, false, false, false, false, false, false] rfl rfl (by kernel_rfl) (fun _ _ _ h => h) (Or.inl ⟨by rfl, ?_⟩) ?_ ?_
            rotate_left
            · intro w'
              go_simp
              with_reducible rfl
            rotate_left
            · simp only [Act.put, List.setIfInBounds_toArray, List.set_cons_zero, List.set_cons_succ, i64_w, i32_w]
              rfl
            refine pure_ (i := 6) (N := some 81) (v := ?_) (a' := ?_) #[true, false, true, false, false, false, true, false, false, false, false, false, false, false, false, false] rfl rfl (by kernel_rfl) (fun _ _ _ h => h) (Or.inl ⟨by rfl, ?_⟩) ?_ ?_
            rotate_left
            · intro w'
              go_simp
              with_reducible rfl
            rotate_left
            · simp only [Act.put, List.setIfInBounds_toArray, List.set_cons_zero, List.set_cons_succ, i64_w, i32_w]
              rfl
            refine pure_ (i := 7) (N := some 82) (v := ?_) (a' := ?_) #[true, false, true, false, false, false, true, true, false, false, false, false, false, false, false, false] rfl rfl (by kernel_rfl) (fun _ _ _ h => h) (Or.inl ⟨by rfl, ?_⟩) ?_ ?_
            rotate_left
            · intro w'
              go_simp
              with_reducible rfl
            rotate_left
            · simp only [Act.put, List.setIfInBounds_toArray, List.set_cons_zero, List.set_cons_succ, i64_w, i32_w]
              rfl
            refine pure_ (i := 8) (N := some 83) (v := ?_) (a' := ?_) #[true, false, true, false, false, false, true, true, true, false, false, false, false, false, false, false] rfl rfl (by kernel_rfl) (fun _ _ _ h => h) (Or.inl ⟨by rfl, ?_⟩) ?_ ?_
            rotate_left
            · intro w'
              go_simp
              with_reducible rfl
            rotate_left
            · simp only [Act.put, List.setIfInBounds_toArray, List.set_cons_zero, List.set_cons_succ, i64_w, i32_w]
              rfl
            refine pure_ (i := 12) (N := some 87) (v := ?_) (a' := ?_) #[true, false, true, false, false, false, true, true, true, false, false, false, true, false, false, false] rfl rfl (by kernel_rfl) (fun _ _ _ h => h) (Or.inl ⟨by rfl, ?_⟩) ?_ ?_
            rotate_left
            · intro w'
              go_simp
              with_reducible rfl
            rotate_left
            · simp only [Act.put, List.setIfInBounds_toArray, List.set_cons_zero, List.set_cons_succ, i64_w, i32_w]
              rfl
            refine take_ (i := 1) (N := some 76) (v := ?_) (a' := ?_) #[true, true, true, false, false, false, true, true, true, false, false, false, true, false, false, false] rfl rfl (by kernel_rfl) (fun _ _ _ h => h) (Or.inl ⟨by rfl, ?_⟩) hHeld ?_ ?_
            rotate_left
            · rintro w' ⟨s0, s1, s2⟩
              go_simp
              with_reducible rfl
            rotate_left
            · simp only [Act.put, List.setIfInBounds_toArray, List.set_cons_zero, List.set_cons_succ, i64_w, i32_w]
              rfl
            refine take_ (i := 3) (N := some 78) (v := ?_) (a' := ?_) #[true, true, true, true, false, false, true, true, true, false, false, false, true, false, false, false] rfl rfl (by kernel_rfl) (fun _ _ _ h => h) (Or.inl ⟨by rfl, ?_⟩) hHeld ?_ ?_
            rotate_left
            · rintro w' ⟨s0, s1, s2⟩
              go_simp
              with_reducible rfl
            rotate_left
            · simp only [Act.put, List.setIfInBounds_toArray, List.set_cons_zero, List.set_cons_succ, i64_w, i32_w]
              rfl
            refine pure_ (i := 4) (N := some 79) (v := ?_) (a' := ?_) #[true, true, true, true, true, false, true, true, true, false, false, false, true, false, false, false] rfl rfl (by kernel_rfl) (fun _ _ _ h => h) (Or.inl ⟨by rfl, ?_⟩) ?_ ?_
            rotate_left
            · intro w'
              go_simp
              with_reducible rfl
            rotate_left
            · simp only [Act.put, List.setIfInBounds_toArray, List.set_cons_zero, List.set_cons_succ, i64_w, i32_w]
              rfl
            refine take_ (i := 5) (N := some 80) (v := ?_) (a' := ?_) #[true, true, true, true, true, true, true, true, true, false, false, false, true, false, false, false] rfl rfl (by kernel_rfl) (fun _ _ _ h => h) (Or.inl ⟨by rfl, ?_⟩) hHeld ?_ ?_
            rotate_left
            · rintro w' ⟨s0, s1, s2⟩
              go_simp
              with_reducible rfl
            rotate_left
            · simp only [Act.put, List.setIfInBounds_toArray, List.set_cons_zero, List.set_cons_succ, i64_w, i32_w]
              rfl
            refine take_ (i := 9) (N := some 84) (v := ?_) (a' := ?_) #[true, true, true, true, true, true, true, true, true, true, false, false, true, false, false, false] rfl rfl (by kernel_rfl) (fun _ _ _ h => h) (Or.inl ⟨by rfl, ?_⟩) hHeld ?_ ?_
            rotate_left
            · rintro w' ⟨s0, s1, s2⟩
              go_simp
              with_reducible rfl
            rotate_left
            · simp only [Act.put, List.setIfInBounds_toArray, List.set_cons_zero, List.set_cons_succ, i64_w, i32_w]
              rfl
            refine pure_ (i := 10) (N := some 85) (v := ?_) (a' := ?_) #[true, true, true, true, true, true, true, true, true, true, true, false, true, false, false, false] rfl rfl (by kernel_rfl) (fun _ _ _ h => h) (Or.inl ⟨by rfl, ?_⟩) ?_ ?_
            rotate_left
            · intro w'
              go_simp
              with_reducible rfl
            rotate_left
            · simp only [Act.put, List.setIfInBounds_toArray, List.set_cons_zero, List.set_cons_succ, i64_w, i32_w]
              rfl
            refine pure_ (i := 11) (N := some 86) (v := ?_) (a' := ?_) #[true, true, true, true, true, true, true, true, true, true, true, true, true, false, false, false] rfl rfl (by kernel_rfl) (fun _ _ _ h => h) (Or.inl ⟨by rfl, ?_⟩) ?_ ?_
            rotate_left
            · intro w'
              go_simp
              with_reducible rfl
            rotate_left
            · simp only [Act.put, List.setIfInBounds_toArray, List.set_cons_zero, List.set_cons_succ, i64_w, i32_w]
              rfl
            refine pure_ (i := 13) (N := some 88) (v := ?_) (a' := ?_) #[true, true, true, true, true, true, true, true, true, true, true, true, true, true, false, false] rfl rfl (by kernel_rfl) (fun _ _ _ h => h) (Or.inl ⟨by rfl, ?_⟩) ?_ ?_
            rotate_left
            · intro w'
              go_simp
              with_reducible rfl
            rotate_left
            · simp only [Act.put, List.setIfInBounds_toArray, List.set_cons_zero, List.set_cons_succ, i64_w, i32_w]
              rfl
            refine pure_ (i := 14) (N := some 89) (v := ?_) (a' := ?_) #[true, true, true, true, true, true, true, true, true, true, true, true, true, true, true, false] rfl rfl (by kernel_rfl) (fun _ _ _ h => h) (Or.inl ⟨by rfl, ?_⟩) ?_ ?_
            rotate_left
            · intro w'
              go_simp
              with_reducible rfl
            rotate_left
            · simp only [Act.put, List.setIfInBounds_toArray, List.set_cons_zero, List.set_cons_succ, i64_w, i32_w]
              rfl
            refine last_ (i := 15) (N := none) #[true, true, true, true, true, true, true, true, true, true, true, true, true, true, true, true] rfl rfl (by kernel_rfl) (by decide) (fun K hK => ?_)
            refine skip_ (w1 := ?_) (by rfl) rfl ?_ ?_
            rotate_left
            · go_simp
              rfl
            refine hK.out _ _ ?_
            clear hK K
            refine done_ (by kernel_rfl) ?_
            have ew : wrap64 (wrap64 (S D + hsz ks) + len) = S D + hsz ks + len := by rw [wrI (S D + hsz ks) (by omega) (by omega), wrI _ (by omega) (by omega)]
            rw [ew]
            clear ew
            have hmm : xs.length - k = (xs.length - (k + 1)) + 1 := by omega
            have hmm2 : xs.length - (xs.length - (k + 1) + 1) = k := by omega
            have hnk := HN.out
            have hl2 := hlS.out
            have hphk := hn1.out
            have gA : At (w6.setCell ⟨w.heap.size + 1, D, none⟩ (.int .i64 (S D + hsz ks + len))).drew (w.heap.size + 1) 65 (arr66 (sums (phiF forms) xs (xs.length - k))) := by
              have h := (eA.set D (.int .i64 (S D + hsz ks + len))).drew
              rw [arr66_set] at h
              have e : (fun x => if x = D then S D + hsz ks + len else S2 x) = sums (phiF forms) xs (xs.length - k) := by
                rw [hmm]
                show _ = stepS (phiF forms) xs (xs.length - (xs.length - (k + 1) + 1)) (sums (phiF forms) xs (xs.length - (k + 1)))
                rw [hmm2]
                funext x
                unfold stepS
                rw [← hl2, ← hphk, ← HSS.out, ← hnk]
                simp only [Int.toNat_natCast]
                by_cases hx : x = D
                · rw [if_pos hx, if_pos hx, hx]
                · rw [if_neg hx, if_neg hx, HS2.out]
                  rfl
              rw [e] at h
              exact h
            have gH : At (w6.setCell ⟨w.heap.size + 1, D, none⟩ (.int .i64 (S D + hsz ks + len))).drew w.heap.size 9 (hedA (phiF forms) xs k) := by
              have h := (eH.far (show w.heap.size ≠ w.heap.size + 1 by omega) (p := ⟨w.heap.size + 1, D, none⟩) (.int .i64 (S D + hsz ks + len))).drew
              have e : H = hedS (phiF forms) xs k := by
                rw [HH.out]
                unfold hedS
                rw [← hl2, ← hphk, ← hnk]
              rw [e, hedA_set] at h
              exact h
            have gB : Below w.heap.size w (w6.setCell ⟨w.heap.size + 1, D, none⟩ (.int .i64 (S D + hsz ks + len))).drew := below_draws (qB6.setCell (by simp) _) 1
            have gS : shB forms xs (xs.length - k) = (bS && !wd) := by
              rw [hmm]
              show (shB forms xs (xs.length - (k + 1)) && !(wider forms (xs.length - (xs.length - (k + 1) + 1)) (lenS xs (xs.length - (xs.length - (k + 1) + 1)) (sums (phiF forms) xs (xs.length - (k + 1)))))) = _
              rw [hmm2, ← hl2, ← HBS.out, ← HWD.out]
            clear eN eA eH qB6 eD eHk hSD hHs eF HN HSS HBS HS2 HLEN HWD HWK hn1 hn2 hlS hkf hkt hokf HH hnk hl2 hphk hmm hmm2
            generalize (w6.setCell ⟨w.heap.size + 1, D, none⟩ (.int .i64 (S D + hsz ks + len))).drew = w7 at gA gH gB ⊢
            have GS := Lib.hid gS
            clear gS
            go_wp2
            go_roundw
            case rel => exact ⟨k, by omega, by rw [GS.out], by go_num, gH, gA, gB⟩
            case measure => simp [intOf]
end Go.Proofs.Ytbloccjogadlmaa.W
