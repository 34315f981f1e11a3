/- Texts of this claim in one: Ft, St3 -/
import Derived.Test.YtogjljpncdmlkaaDoorB3
import Derived.Test.YtogjljpncdmlkaaDoorB9
import Derived.Lib.Hide
section
namespace Go.Proofs.YtogjljpncdmlkaaDoor.W
open Go.RowKit Go.Proofs.YtogjljpncdmlkaaDoorW.PrintWords
set_option linter.unusedVariables false
set_option linter.unusedSimpArgs false
mutual
def mkT (phi : Nat → Int → Nat) (xs : List NodeT) : Nat → Nat → Tr × Nat
  | 0, i => (.leaf 0 0 ⟨#[]⟩ 0, i)
  | f + 1, i => if (nd xs i).2.2.1 = true then (.made (nd xs i).2.1 (nd xs i).2.2.2.1 (mkF phi xs f (i + 1) (nd xs i).1).1 (phi i (encF (mkF phi xs f (i + 1) (nd xs i).1).1).length), (mkF phi xs f (i + 1) (nd xs i).1).2)
    else (.leaf (nd xs i).2.1 (nd xs i).2.2.2.1 (nd xs i).2.2.2.2 (phi i (nd xs i).2.2.2.2.size), i + 1)
def mkF (phi : Nat → Int → Nat) (xs : List NodeT) : Nat → Nat → Int → Fs × Nat
  | 0, i, _ => (.nil, i)
  | f + 1, i, d => if i < xs.length ∧ d < (nd xs i).1 then (.cons (mkT phi xs f i).1 (mkF phi xs f (mkT phi xs f i).2 d).1, (mkF phi xs f (mkT phi xs f i).2 d).2) else (.nil, i)
end
def seg (xs : List NodeT) (i j : Nat) : List NodeT := (xs.take j).drop i
theorem seg_nil (xs : List NodeT) (i : Nat) : seg xs i i = [] := by unfold seg; simp
theorem seg_cons (xs : List NodeT) {i j : Nat} (hi : i < xs.length) (hj : i < j) : seg xs i j = nd xs i :: seg xs (i + 1) j := by
  unfold seg nd
  rw [List.drop_eq_getElem_cons q39_]
  congr 1
  simp [hi]
theorem seg_append (xs : List NodeT) {i j k : Nat} (h1 : i ≤ j) (h2 : j ≤ k) : seg xs i k = seg xs i j ++ seg xs j k := by
  unfold seg
  have e : xs.take j = (xs.take k).take j := by rw [List.take_take, Nat.min_eq_left h2]
  have h3 : (xs.take k).drop j = ((xs.take k).drop i).drop (j - i) := by rw [List.drop_drop]; congr 1; omega
  rw [e, h3]
  have h4 : ((xs.take k).take j).drop i = ((xs.take k).drop i).take (j - i) := by rw [List.drop_take]
  rw [h4, List.take_append_drop]
theorem node_eq (n : NodeT) {m : Bool} {b : ByteArray} (h : n.2.2.1 = m) (hb : n.2.2.2.2 = b) : ((n.1, n.2.1, m, n.2.2.2.1, b) : NodeT) = n := by subst h hb; rfl
structure Snd (xs : List NodeT) : Prop where
  name : ∀ i, i < xs.length → okN (nd xs i).2.1 (nd xs i).2.2.2.1
  body : ∀ i, i < xs.length → (nd xs i).2.2.1 = true → (nd xs i).2.2.2.2 = ⟨#[]⟩
  depth : ∀ i, i < xs.length → 1 ≤ (nd xs i).1 ∧ (nd xs i).1 ≤ 64
  first : 0 < xs.length → (nd xs 0).1 = 1
  next : ∀ i, i + 1 < xs.length → 2 ≤ (nd xs (i + 1)).1 ∧ (nd xs (i + 1)).1 ≤ if (nd xs i).2.2.1 = true then (nd xs i).1 + 1 else (nd xs i).1
theorem size_zero {b : ByteArray} (h : b.size = 0) : b = ⟨#[]⟩ := by
  apply ByteArray.ext
  exact Array.eq_empty_of_size_eq_zero h
theorem snd_of {xs : List NodeT} (h : ∀ i, i < xs.length → goodAt xs i = true) : Snd xs := by
  have key : ∀ i, i < xs.length → namedB (nd xs i).2.1 (nd xs i).2.2.2.1 = true ∧ ((nd xs i).2.2.1 = true → (nd xs i).2.2.2.2.size = 0) ∧ (nd xs i).1 ≤ 64 ∧ follB (prevOf xs i) (nd xs i) = true := by
    intro i hi
    have hg := h i hi
    unfold goodAt at hg
    rw [Bool.and_eq_true, decide_eq_true_eq] at hg
    have hf := foll_made hg.1
    exact ⟨hf.1, hf.2, hg.2, hg.1⟩
  have hp : ∀ i, 0 < i → prevOf xs i = some ((nd xs (i - 1)).1, (nd xs (i - 1)).2.2.1) := fun i hi => by unfold prevOf; rw [if_neg q2_]
  refine ⟨fun i hi => ?_, fun i hi hm => size_zero ((key i hi).2.1 hm), fun i hi => ⟨foll_depth (key i hi).2.2.2, (key i hi).2.2.1⟩, fun h0 => ?_, fun i hi => ?_⟩
  · have := (key i hi).1
    unfold namedB at this
    have := of_decide_eq_true this
    unfold okN
    omega
  · have hf := (key 0 h0).2.2.2
    have e : prevOf xs 0 = none := rfl
    rw [e, foll_none] at hf
    simp only [Bool.and_eq_true, decide_eq_true_eq] at hf
    exact hf.2
  · have hf := (key (i + 1) hi).2.2.2
    rw [hp (i + 1) q2_, foll_some] at hf
    simp only [Bool.and_eq_true, decide_eq_true_eq, Nat.add_sub_cancel] at hf
    exact hf.2
theorem sound_snd {xs : List NodeT} (h : soundB xs = true) : Snd xs ∧ 0 < xs.length := by
  unfold soundB at h
  rw [Bool.and_eq_true, decide_eq_true_eq] at h
  exact ⟨snd_of (fun i hi => soundN_at xs _ 0 h.1 i q2_ q2_), h.2⟩
theorem mk_flat (phi : Nat → Int → Nat) (xs : List NodeT) (hs : Snd xs) : ∀ f : Nat,
    (∀ i, i < xs.length → 2 * (xs.length - i) + 1 ≤ f → i < (mkT phi xs f i).2 ∧ (mkT phi xs f i).2 ≤ xs.length ∧ flatT (nd xs i).1 (mkT phi xs f i).1 = seg xs i (mkT phi xs f i).2 ∧
      ((mkT phi xs f i).2 < xs.length → (nd xs (mkT phi xs f i).2).1 ≤ (nd xs i).1)) ∧
    (∀ i d, i ≤ xs.length → 2 * (xs.length - i) + 2 ≤ f → (i < xs.length → (nd xs i).1 ≤ d + 1) → i ≤ (mkF phi xs f i d).2 ∧ (mkF phi xs f i d).2 ≤ xs.length ∧ flatF (d + 1) (mkF phi xs f i d).1 = seg xs i (mkF phi xs f i d).2 ∧
      ((mkF phi xs f i d).2 < xs.length → (nd xs (mkF phi xs f i d).2).1 ≤ d))
  | 0 => ⟨fun i hi hf => by omega, fun i d hi hf h => by omega⟩
  | f + 1 => by
    obtain ⟨ih1, ih2⟩ := mk_flat phi xs hs f
    refine ⟨fun i hi hf => ?_, fun i d hi hf h => ?_⟩
    · rw [mkT]
      by_cases hm : (nd xs i).2.2.1 = true
      · rw [if_pos hm]
        have hk := ih2 (i + 1) (nd xs i).1 q2_ q2_ (fun h => by have := (hs.next i h).2; rw [if_pos hm] at this; exact this)
        simp only
        refine ⟨q2_, hk.2.1, ?_, hk.2.2.2⟩
        rw [flatT, hk.2.2.1, seg_cons xs hi q2_]
        congr 1
        exact node_eq _ hm (hs.body i hi hm)
      · rw [if_neg hm]
        simp only
        refine ⟨q2_, q2_, ?_, fun h => ?_⟩
        · rw [flatT, seg_cons xs hi q2_, seg_nil]
          rw [Bool.not_eq_true] at hm
          rw [node_eq _ hm rfl]
        · have := (hs.next i h).2
          rw [if_neg hm] at this
          exact this
    · rw [mkF]
      by_cases hc : i < xs.length ∧ d < (nd xs i).1
      · rw [if_pos hc]
        have h1 := ih1 i hc.1 q2_
        have hd : (nd xs i).1 = d + 1 := by have := h hc.1; omega
        have h2 := ih2 (mkT phi xs f i).2 d h1.2.1 q2_ (fun hlt => by have := h1.2.2.2 hlt; omega)
        simp only
        refine ⟨q2_, h2.2.1, ?_, h2.2.2.2⟩
        rw [flatF, h2.2.2.1, ← hd, h1.2.2.1, ← seg_append xs q2_ h2.1]
      · rw [if_neg hc]
        simp only
        refine ⟨Nat.le_refl _, hi, ?_, fun h3 => ?_⟩
        · rw [flatF, seg_nil]
        · omega
def short (_ : Nat) (n : Int) : Nat := wideK n
theorem wr_enc (xs : List NodeT) (hs : Snd xs) (hw : wt xs 0 xs.length ≤ 134217728) (hm : ∀ i, (nd xs i).2.2.1 = true → (nd xs i).2.2.2.2.size = 0) : ∀ f : Nat,
    (∀ i, i < xs.length → 2 * (xs.length - i) + 1 ≤ f → bytesOf (wrE xs f i).1 = encT (mkT short xs f i).1 ∧ (wrE xs f i).2 = (mkT short xs f i).2) ∧
    (∀ i d b, i ≤ xs.length → 2 * (xs.length - i) + 2 ≤ f → bytesOf (wrK xs f i d b).1 = bytesOf b ++ encF (mkF short xs f i d).1 ∧ (wrK xs f i d b).2 = (mkF short xs f i d).2)
  | 0 => ⟨fun i hi hf => by omega, fun i d b hi hf => by omega⟩
  | f + 1 => by
    obtain ⟨ih1, ih2⟩ := wr_enc xs hs hw hm f
    obtain ⟨sz1, sz2⟩ := wr_size xs hm f
    refine ⟨fun i hi hf => ?_, fun i d b hi hf => ?_⟩
    · rw [wrE, mkT]
      have hwi := nd_wt xs i
      by_cases hmd : (nd xs i).2.2.1 = true
      · rw [if_pos hmd, if_pos hmd]
        have hk := ih2 (i + 1) (nd xs i).1 ⟨#[]⟩ q2_ q2_
        have hsz := sz2 (i + 1) (nd xs i).1 ⟨#[]⟩ q2_
        have hz : (⟨#[]⟩ : ByteArray).size = 0 := rfl
        rw [hz] at hsz
        have ha := wt_all xs (wrK xs f (i + 1) (nd xs i).1 ⟨#[]⟩).2
        have hsp := wt_split xs (i := 0) (j := i + 1) (k := (wrK xs f (i + 1) (nd xs i).1 ⟨#[]⟩).2) q2_ hsz.1
        simp only
        have e1 : bytesOf (wrK xs f (i + 1) (nd xs i).1 ⟨#[]⟩).1 = encF (mkF short xs f (i + 1) (nd xs i).1).1 := hk.1
        have e2 : (((wrK xs f (i + 1) (nd xs i).1 ⟨#[]⟩).1.size : Nat) : Int) = ((encF (mkF short xs f (i + 1) (nd xs i).1).1).length : Int) := by rw [← e1, bytesOf_length]
        refine ⟨?_, hk.2⟩
        rw [lay_bytes (hs.name i hi) q2_, encT, e1, e2]
        rfl
      · rw [if_neg hmd, if_neg hmd]
        simp only
        refine ⟨?_, trivial⟩
        rw [lay_bytes (hs.name i hi) q2_, encT]
        rfl
    · rw [wrK, mkF]
      by_cases hc : i < xs.length ∧ d < (nd xs i).1
      · rw [if_pos hc, if_pos hc]
        have h1 := ih1 i hc.1 q2_
        have hsz := sz1 i hc.1
        have hgt : i < (wrE xs f i).2 := by
          obtain ⟨g, rfl⟩ : ∃ g, f = g + 1 := ⟨f - 1, q2_⟩
          exact wrE_gt xs g i
        have h2 := ih2 (wrE xs f i).2 d (b ++ (wrE xs f i).1) hsz.2.1 q2_
        simp only
        refine ⟨?_, by rw [h2.2, h1.2]⟩
        rw [h2.1, bytesOf_append, h1.1, encF, List.append_assoc, h1.2]
      · rw [if_neg hc, if_neg hc]
        simp only
        refine ⟨?_, trivial⟩
        rw [encF, List.append_nil]
def treeOf (phi : Nat → Int → Nat) (xs : List NodeT) : Tr := (mkT phi xs (2 * xs.length + 2) 0).1
theorem short_ok (i : Nat) (n : Int) (h0 : 0 ≤ n) (h1 : n ≤ 4294967295) : okForm n (short i n) := wide_ok h0 h1
theorem write_sound (xs : List NodeT) (hs : soundB xs = true) (hw : wt xs 0 xs.length ≤ 134217728) : ∃ b, writeS xs = (b, 0, 0) ∧ bytesOf b = encT (treeOf short xs) := by
  obtain ⟨hS, h0⟩ := sound_snd hs
  have hm : ∀ i, (nd xs i).2.2.1 = true → (nd xs i).2.2.2.2.size = 0 := by
    intro i hi
    by_cases hl : i < xs.length
    · rw [hS.body i hl hi]; rfl
    · have : nd xs i = zN := nd_out xs i q2_
      rw [this] at hi
      cases hi
  have hb : badN xs (xs.length + 1) 0 = none := by
    unfold soundB at hs
    rw [Bool.and_eq_true] at hs
    exact (sound_bad xs xs.length 0 q2_).1 hs.1
  refine ⟨(wrE xs (2 * xs.length + 2) 0).1, ?_, ?_⟩
  · unfold writeS
    rw [if_neg q2_, hb]
  · exact ((wr_enc xs hS hw hm (2 * xs.length + 2)).1 0 h0 q2_).1
end Go.Proofs.YtogjljpncdmlkaaDoor.W
end
section
namespace Go.Proofs.YtogjljpncdmlkaaDoor.W
open Go.RowKit Go.Proofs.YtogjljpncdmlkaaDoorW.PrintWords Go.Proofs.YtogjljpncdmlkaaDoorW.PrintLast
set_option linter.unusedVariables false
set_option linter.unusedSimpArgs false
def headS (cls : Int) (made : Bool) (tag n : Int) (k : Nat) : ByteArray := strOfNums (headB cls made tag n k)
theorem headS_bytes {cls tag n : Int} {made : Bool} {k : Nat} (h : okN cls tag) (hf : okForm n k) (n0 : 0 ≤ n) : bytesOf (headS cls made tag n k) = headB cls made tag n k := bytesOf_str _ (headB_range h hf n0)
theorem headS_size (cls : Int) (made : Bool) (tag n : Int) (k : Nat) : ((headS cls made tag n k).size : Int) = hsz k := by
  unfold headS
  rw [strOfNums_size, head_len]
end Go.Proofs.YtogjljpncdmlkaaDoor.W
namespace Go.Proofs.YtogjljpncdmlkaaDoor.W
open Go.RowKit Go.Proofs.YtogjljpncdmlkaaDoorW.PrintWords
set_option linter.unusedVariables false
set_option linter.unusedSimpArgs false
def phiF (forms : List Int) (i : Nat) (n : Int) : Nat := if i < forms.length ∧ (wideK n : Int) < forms.getD i 0 ∧ forms.getD i 0 ≤ 4 then (forms.getD i 0).toNat else wideK n
def lenS (xs : List NodeT) (i : Nat) (S : Nat → Int) : Int := if (nd xs i).2.2.1 = true then S ((nd xs i).1.toNat + 1) else (nd xs i).2.2.2.2.size
def stepS (phi : Nat → Int → Nat) (xs : List NodeT) (i : Nat) (S : Nat → Int) : Nat → Int := fun d =>
  if d = (nd xs i).1.toNat then S d + hsz (phi i (lenS xs i S)) + lenS xs i S else if (nd xs i).2.2.1 = true ∧ d = (nd xs i).1.toNat + 1 then 0 else S d
def sums (phi : Nat → Int → Nat) (xs : List NodeT) : Nat → Nat → Int
  | 0 => fun _ => 0
  | m + 1 => stepS phi xs (xs.length - (m + 1)) (sums phi xs m)
def hedS (phi : Nat → Int → Nat) (xs : List NodeT) (i : Nat) : ByteArray :=
  headS (nd xs i).2.1 (nd xs i).2.2.1 (nd xs i).2.2.2.1 (lenS xs i (sums phi xs (xs.length - (i + 1)))) (phi i (lenS xs i (sums phi xs (xs.length - (i + 1)))))
def catS (phi : Nat → Int → Nat) (xs : List NodeT) : Nat → ByteArray
  | 0 => ⟨#[]⟩
  | i + 1 => catS phi xs i ++ hedS phi xs i ++ (nd xs i).2.2.2.2
def sumF (phi : Nat → Int → Nat) (xs : List NodeT) : Nat → Nat → Int → Int
  | 0, _, _ => 0
  | n + 1, i, d => if i < xs.length then (if (nd xs i).1 < d then 0 else if (nd xs i).1 = d then (encF (mkF phi xs (2 * xs.length + 2) i (d - 1)).1).length else sumF phi xs n (i + 1) d) else 0
theorem mk_more (phi : Nat → Int → Nat) (xs : List NodeT) (hs : Snd xs) : ∀ f : Nat,
    (∀ i g, i < xs.length → 2 * (xs.length - i) + 1 ≤ f → f ≤ g → mkT phi xs g i = mkT phi xs f i) ∧
    (∀ i d g, i ≤ xs.length → 2 * (xs.length - i) + 2 ≤ f → f ≤ g → (i < xs.length → (nd xs i).1 ≤ d + 1) → mkF phi xs g i d = mkF phi xs f i d)
  | 0 => ⟨fun i g h1 h2 h3 => by omega, fun i d g h1 h2 h3 => by omega⟩
  | f + 1 => by
    obtain ⟨ih1, ih2⟩ := mk_more phi xs hs f
    refine ⟨fun i g h1 h2 h3 => ?_, fun i d g h1 h2 h3 h4 => ?_⟩
    · obtain ⟨g, rfl⟩ : ∃ q, g = q + 1 := ⟨g - 1, q2_⟩
      rw [mkT, mkT]
      by_cases hm : (nd xs i).2.2.1 = true
      · rw [if_pos hm, if_pos hm, ih2 (i + 1) _ g q2_ q2_ q2_ (fun h => by have := (hs.next i h).2; rw [if_pos hm] at this; exact this)]
      · rw [if_neg hm, if_neg hm]
    · obtain ⟨g, rfl⟩ : ∃ q, g = q + 1 := ⟨g - 1, q2_⟩
      rw [mkF, mkF]
      by_cases hc : i < xs.length ∧ d < (nd xs i).1
      · rw [if_pos hc, if_pos hc]
        have e := ih1 i g hc.1 q2_ q2_
        have hfl := (mk_flat phi xs hs f).1 i hc.1 q2_
        have h5 := h4 hc.1
        rw [e, ih2 (mkT phi xs f i).2 d g hfl.2.1 q2_ q2_ (fun h => by have := hfl.2.2.2 h; omega)]
      · rw [if_neg hc, if_neg hc]
theorem mk_deep (phi : Nat → Int → Nat) (xs : List NodeT) : ∀ f : Nat,
    (∀ i q, i < q → q < (mkT phi xs f i).2 → (nd xs i).1 < (nd xs q).1) ∧ (∀ i d q, i ≤ q → q < (mkF phi xs f i d).2 → d < (nd xs q).1)
  | 0 => ⟨fun i q h1 h2 => by rw [mkT] at h2; simp only at h2; omega, fun i d q h1 h2 => by rw [mkF] at h2; simp only at h2; omega⟩
  | f + 1 => by
    obtain ⟨ih1, ih2⟩ := mk_deep phi xs f
    refine ⟨fun i q h1 h2 => ?_, fun i d q h1 h2 => ?_⟩
    · rw [mkT] at h2
      by_cases hm : (nd xs i).2.2.1 = true
      · rw [if_pos hm] at h2
        exact ih2 (i + 1) _ q h1 h2
      · rw [if_neg hm] at h2
        simp only at h2
        omega
    · rw [mkF] at h2
      by_cases hc : i < xs.length ∧ d < (nd xs i).1
      · rw [if_pos hc] at h2
        simp only at h2
        by_cases e : q = i
        · rw [e]; exact hc.2
        · by_cases hq : q < (mkT phi xs f i).2
          · have := ih1 i q q2_ hq
            have := hc.2
            omega
          · exact ih2 _ d q q2_ h2
      · rw [if_neg hc] at h2
        simp only at h2
        omega
theorem sumF_low (phi : Nat → Int → Nat) (xs : List NodeT) (n i : Nat) (d : Int) (h : i < xs.length → (nd xs i).1 < d) : sumF phi xs n i d = 0 := by
  cases n with
  | zero => rfl
  | succ n =>
    rw [sumF]
    by_cases c : i < xs.length
    · rw [if_pos c, if_pos (h c)]
    · rw [if_neg c]
theorem sumF_skip (phi : Nat → Int → Nat) (xs : List NodeT) (d : Int) (j : Nat) (hj : j ≤ xs.length) : ∀ (t n i : Nat), i + t = j → (∀ q, i ≤ q → q < j → d < (nd xs q).1) → sumF phi xs (n + t) i d = sumF phi xs n j d := by
  intro t
  induction t with
  | zero => intro n i h _; rw [Nat.add_zero] at h; rw [h]; rfl
  | succ t ih =>
    intro n i h hq
    have h1 := hq i (Nat.le_refl _) q2_
    rw [← Nat.add_assoc, sumF, if_pos q2_, if_neg q2_, if_neg q2_]
    exact ih n (i + 1) q2_ (fun q h2 h3 => hq q q2_ h3)
theorem sumF_at (phi : Nat → Int → Nat) (xs : List NodeT) (hs : Snd xs) (n i f : Nat) (d : Int) (hn : 1 ≤ n) (hi : i ≤ xs.length) (hf : 2 * (xs.length - i) + 2 ≤ f) (hf2 : f ≤ 2 * xs.length + 2) (h : i < xs.length → (nd xs i).1 ≤ d) :
    sumF phi xs n i d = ((encF (mkF phi xs f i (d - 1)).1).length : Int) := by
  have hnil : (¬ (i < xs.length ∧ d - 1 < (nd xs i).1)) → ((encF (mkF phi xs f i (d - 1)).1).length : Int) = 0 := by
    intro hc
    obtain ⟨g, rfl⟩ : ∃ q, f = q + 1 := ⟨f - 1, q2_⟩
    rw [mkF, if_neg hc, encF]
    rfl
  obtain ⟨n, rfl⟩ : ∃ q, n = q + 1 := ⟨n - 1, q2_⟩
  by_cases c : i < xs.length
  · have h1 := h c
    by_cases c2 : (nd xs i).1 < d
    · rw [sumF, if_pos c, if_pos c2, hnil q2_]
    · rw [sumF, if_pos c, if_neg c2, if_pos q2_, (mk_more phi xs hs f).2 i (d - 1) (2 * xs.length + 2) hi hf hf2 (fun _ => by omega)]
  · rw [sumF, if_neg c, hnil q2_]
theorem sums_eq (phi : Nat → Int → Nat) (xs : List NodeT) (hs : Snd xs) : ∀ m, m ≤ xs.length → ∀ d : Nat, 1 ≤ d → sums phi xs m d = sumF phi xs (m + 1) (xs.length - m) (d : Int) := by
  intro m
  induction m with
  | zero =>
    intro _ d hd
    rw [sumF_low]
    · rfl
    · intro h; omega
  | succ m ih =>
    intro hm d hd
    obtain ⟨i, hi⟩ : ∃ i, i = xs.length - (m + 1) := ⟨_, rfl⟩
    have hiL : i < xs.length := by omega
    have e1 : xs.length - m = i + 1 := by omega
    have ih := ih q2_
    rw [e1] at ih
    have hdp := hs.depth i hiL
    have hnx : i + 1 < xs.length → (nd xs (i + 1)).1 ≤ if (nd xs i).2.2.1 = true then (nd xs i).1 + 1 else (nd xs i).1 := fun h => (hs.next i h).2
    rw [← hi]
    show stepS phi xs (xs.length - (m + 1)) (sums phi xs m) d = _
    rw [← hi]
    unfold stepS
    rw [sumF, if_pos hiL]
    by_cases c1 : d = (nd xs i).1.toNat
    · rw [if_pos c1, if_neg q2_, if_pos q2_]
      have hdD : (d : Int) = (nd xs i).1 := by omega
      -- the tree at i
      have hfl := (mk_flat phi xs hs (2 * xs.length + 1)).1 i hiL q2_
      have hdeep := (mk_deep phi xs (2 * xs.length + 1)).1 i
      obtain ⟨j, hj⟩ : ∃ j, j = (mkT phi xs (2 * xs.length + 1) i).2 := ⟨_, rfl⟩
      rw [← hj] at hfl hdeep
      have hS : sums phi xs m d = ((encF (mkF phi xs (2 * xs.length + 1) j ((nd xs i).1 - 1)).1).length : Int) := by
        rw [ih d hd, hdD]
        have hsk := sumF_skip phi xs (nd xs i).1 j hfl.2.1 (j - (i + 1)) (m + 1 - (j - (i + 1))) (i + 1) q2_ (fun q q1 q2 => hdeep q q2_ q2)
        have e2 : m + 1 - (j - (i + 1)) + (j - (i + 1)) = m + 1 := by omega
        rw [e2] at hsk
        rw [hsk]
        exact sumF_at phi xs hs _ j _ _ q2_ hfl.2.1 q2_ q2_ hfl.2.2.2
      have hL : lenS xs i (sums phi xs m) = if (nd xs i).2.2.1 = true then ((encF (mkF phi xs (2 * xs.length) (i + 1) (nd xs i).1).1).length : Int) else ((nd xs i).2.2.2.2.size : Int) := by
        unfold lenS
        by_cases hmd : (nd xs i).2.2.1 = true
        · rw [if_pos hmd, if_pos hmd, ih _ q2_]
          have e3 : (((nd xs i).1.toNat + 1 : Nat) : Int) = (nd xs i).1 + 1 := by omega
          have e4 : (nd xs i).1 + 1 - 1 = (nd xs i).1 := by omega
          have := sumF_at phi xs hs (m + 1) (i + 1) (2 * xs.length) ((nd xs i).1 + 1) q2_ q2_ q2_ q2_ (fun h => by have := hnx h; rw [if_pos hmd] at this; exact this)
          rw [e3, this, e4]
        · rw [if_neg hmd, if_neg hmd]
      rw [mkF, if_pos ⟨hiL, q2_⟩, encF, List.length_append, hdD, ← hj, hS, hL]
      rw [mkT]
      by_cases hmd : (nd xs i).2.2.1 = true
      · rw [if_pos hmd, if_pos hmd]
        simp only
        rw [encT, List.length_append]
        have := head_len (nd xs i).2.1 true (nd xs i).2.2.2.1 ((encF (mkF phi xs (2 * xs.length) (i + 1) (nd xs i).1).1).length : Int) (phi i ((encF (mkF phi xs (2 * xs.length) (i + 1) (nd xs i).1).1).length : Int))
        omega
      · rw [if_neg hmd, if_neg hmd]
        simp only
        rw [encT, List.length_append, bytesOf_length]
        have := head_len (nd xs i).2.1 false (nd xs i).2.2.2.1 ((nd xs i).2.2.2.2.size : Int) (phi i ((nd xs i).2.2.2.2.size : Int))
        omega
    · rw [if_neg c1]
      by_cases c2 : (nd xs i).1 < (d : Int)
      · rw [if_pos c2]
        by_cases c3 : (nd xs i).2.2.1 = true ∧ d = (nd xs i).1.toNat + 1
        · rw [if_pos c3]
        · rw [if_neg c3, ih d hd]
          refine sumF_low phi xs _ _ _ (fun h => ?_)
          have := hnx h
          by_cases hmd : (nd xs i).2.2.1 = true
          · rw [if_pos hmd] at this
            have : ¬ d = (nd xs i).1.toNat + 1 := fun e => c3 ⟨hmd, e⟩
            omega
          · rw [if_neg hmd] at this
            omega
      · rw [if_neg c2, if_neg q2_, if_neg q2_, ih d hd]
theorem len_eq (phi : Nat → Int → Nat) (xs : List NodeT) (hs : Snd xs) (i : Nat) (hiL : i < xs.length) : lenS xs i (sums phi xs (xs.length - (i + 1))) =
    if (nd xs i).2.2.1 = true then ((encF (mkF phi xs (2 * xs.length) (i + 1) (nd xs i).1).1).length : Int) else ((nd xs i).2.2.2.2.size : Int) := by
  have hdp := hs.depth i hiL
  unfold lenS
  by_cases hmd : (nd xs i).2.2.1 = true
  · rw [if_pos hmd, if_pos hmd, sums_eq phi xs hs _ q2_ _ q2_]
    have e3 : (((nd xs i).1.toNat + 1 : Nat) : Int) = (nd xs i).1 + 1 := by omega
    have e4 : (nd xs i).1 + 1 - 1 = (nd xs i).1 := by omega
    have e5 : xs.length - (xs.length - (i + 1)) = i + 1 := by omega
    have := sumF_at phi xs hs (xs.length - (i + 1) + 1) (i + 1) (2 * xs.length) ((nd xs i).1 + 1) q2_ q2_ q2_ q2_ (fun h => by have := (hs.next i h).2; rw [if_pos hmd] at this; exact this)
    rw [e5, e3, this, e4]
  · rw [if_neg hmd, if_neg hmd]
theorem enc_wt (phi : Nat → Int → Nat) (xs : List NodeT) (hs : Snd xs) (hphi : ∀ i n, phi i n ≤ 4) : ∀ f : Nat,
    (∀ i, i < xs.length → 2 * (xs.length - i) + 1 ≤ f → (encT (mkT phi xs f i).1).length ≤ wt xs i (mkT phi xs f i).2) ∧
    (∀ i d, i ≤ xs.length → 2 * (xs.length - i) + 2 ≤ f → (i < xs.length → (nd xs i).1 ≤ d + 1) → (encF (mkF phi xs f i d).1).length ≤ wt xs i (mkF phi xs f i d).2)
  | 0 => ⟨fun i h1 h2 => by omega, fun i d h1 h2 => by omega⟩
  | f + 1 => by
    obtain ⟨ih1, ih2⟩ := enc_wt phi xs hs hphi f
    obtain ⟨fl1, fl2⟩ := mk_flat phi xs hs f
    refine ⟨fun i hi hf => ?_, fun i d hi hf h => ?_⟩
    · rw [mkT]
      have h1 := wt_one xs hi
      by_cases hm : (nd xs i).2.2.1 = true
      · rw [if_pos hm]
        have hq : i + 1 < xs.length → (nd xs (i + 1)).1 ≤ (nd xs i).1 + 1 := fun h => by have := (hs.next i h).2; rw [if_pos hm] at this; exact this
        have hk := ih2 (i + 1) (nd xs i).1 q2_ q2_ hq
        have hfl := fl2 (i + 1) (nd xs i).1 q2_ q2_ hq
        have hsp := wt_split xs (i := i) (j := i + 1) (k := (mkF phi xs f (i + 1) (nd xs i).1).2) q2_ hfl.1
        simp only
        rw [encT, List.length_append]
        have h2 := head_len (nd xs i).2.1 true (nd xs i).2.2.2.1 ((encF (mkF phi xs f (i + 1) (nd xs i).1).1).length : Int) (phi i ((encF (mkF phi xs f (i + 1) (nd xs i).1).1).length : Int))
        have h3 := hsz_range _ (hphi i ((encF (mkF phi xs f (i + 1) (nd xs i).1).1).length : Int))
        omega
      · rw [if_neg hm]
        simp only
        rw [encT, List.length_append, bytesOf_length]
        have h2 := head_len (nd xs i).2.1 false (nd xs i).2.2.2.1 ((nd xs i).2.2.2.2.size : Int) (phi i ((nd xs i).2.2.2.2.size : Int))
        have h3 := hsz_range _ (hphi i ((nd xs i).2.2.2.2.size : Int))
        omega
    · rw [mkF]
      by_cases hc : i < xs.length ∧ d < (nd xs i).1
      · rw [if_pos hc]
        have h5 := h hc.1
        have hfl := fl1 i hc.1 q2_
        have hq : (mkT phi xs f i).2 < xs.length → (nd xs (mkT phi xs f i).2).1 ≤ d + 1 := fun hlt => by have := hfl.2.2.2 hlt; omega
        have k1 := ih1 i hc.1 q2_
        have k2 := ih2 (mkT phi xs f i).2 d hfl.2.1 q2_ hq
        have f2 := fl2 (mkT phi xs f i).2 d hfl.2.1 q2_ hq
        have hsp := wt_split xs (i := i) (j := (mkT phi xs f i).2) (k := (mkF phi xs f (mkT phi xs f i).2 d).2) q2_ f2.1
        simp only
        rw [encF, List.length_append]
        omega
      · rw [if_neg hc, encF]
        exact Nat.zero_le _
theorem wt_in (xs : List NodeT) {i j : Nat} (h : i ≤ j) : wt xs i j ≤ wt xs 0 xs.length := by
  have h1 := wt_split xs (i := 0) (j := i) (k := j) q2_ h
  have h2 := wt_all xs j
  omega
theorem sumF_le (phi : Nat → Int → Nat) (xs : List NodeT) (hs : Snd xs) (hphi : ∀ i n, phi i n ≤ 4) : ∀ (n i : Nat) (d : Int), 0 ≤ sumF phi xs n i d ∧ sumF phi xs n i d ≤ wt xs 0 xs.length := by
  intro n
  induction n with
  | zero => intro i d; rw [sumF]; omega
  | succ n ih =>
    intro i d
    rw [sumF]
    by_cases c : i < xs.length
    · rw [if_pos c]
      by_cases c1 : (nd xs i).1 < d
      · rw [if_pos c1]; omega
      · rw [if_neg c1]
        by_cases c2 : (nd xs i).1 = d
        · rw [if_pos c2]
          have h1 := (enc_wt phi xs hs hphi (2 * xs.length + 2)).2 i (d - 1) q2_ q2_ (fun _ => by omega)
          have h2 := (mk_flat phi xs hs (2 * xs.length + 2)).2 i (d - 1) q2_ q2_ (fun _ => by omega)
          have h3 := wt_in xs h2.1
          omega
        · rw [if_neg c2]; exact ih _ _
    · rw [if_neg c]; omega
theorem sums_le (phi : Nat → Int → Nat) (xs : List NodeT) (hs : Snd xs) (hphi : ∀ i n, phi i n ≤ 4) (m : Nat) (hm : m ≤ xs.length) (d : Nat) (hd : 1 ≤ d) : 0 ≤ sums phi xs m d ∧ sums phi xs m d ≤ wt xs 0 xs.length := by
  rw [sums_eq phi xs hs m hm d hd]
  exact sumF_le phi xs hs hphi _ _ _
theorem lenS_le (phi : Nat → Int → Nat) (xs : List NodeT) (hs : Snd xs) (hphi : ∀ i n, phi i n ≤ 4) (i : Nat) (hi : i < xs.length) : 0 ≤ lenS xs i (sums phi xs (xs.length - (i + 1))) ∧ lenS xs i (sums phi xs (xs.length - (i + 1))) ≤ wt xs 0 xs.length := by
  unfold lenS
  by_cases hmd : (nd xs i).2.2.1 = true
  · rw [if_pos hmd]
    exact sums_le phi xs hs hphi _ q2_ _ q2_
  · rw [if_neg hmd]
    have h1 := wt_one xs hi
    have h2 := wt_in xs (i := i) (j := i + 1) q2_
    omega
theorem cat_enc (phi : Nat → Int → Nat) (xs : List NodeT) (hs : Snd xs) (hphi : ∀ i n, phi i n ≤ 4) (hok : ∀ i n, 0 ≤ n → n ≤ 4294967295 → okForm n (phi i n)) (hw : wt xs 0 xs.length ≤ 4294967295) : ∀ f : Nat,
    (∀ i, i < xs.length → 2 * (xs.length - i) + 1 ≤ f → f ≤ 2 * xs.length + 1 → bytesOf (catS phi xs (mkT phi xs f i).2) = bytesOf (catS phi xs i) ++ encT (mkT phi xs f i).1) ∧
    (∀ i d, i ≤ xs.length → 2 * (xs.length - i) + 2 ≤ f → f ≤ 2 * xs.length + 2 → (i < xs.length → (nd xs i).1 ≤ d + 1) → bytesOf (catS phi xs (mkF phi xs f i d).2) = bytesOf (catS phi xs i) ++ encF (mkF phi xs f i d).1)
  | 0 => ⟨fun i h1 h2 => by omega, fun i d h1 h2 => by omega⟩
  | f + 1 => by
    obtain ⟨ih1, ih2⟩ := cat_enc phi xs hs hphi hok hw f
    obtain ⟨fl1, fl2⟩ := mk_flat phi xs hs f
    refine ⟨fun i hi hf hf2 => ?_, fun i d hi hf hf2 h => ?_⟩
    · have hle := lenS_le phi xs hs hphi i hi
      have hlen := len_eq phi xs hs i hi
      have hbe : bytesOf (hedS phi xs i) = _ := headS_bytes (made := (nd xs i).2.2.1) (hs.name i hi) (hok i _ hle.1 q2_) hle.1
      have hcat : bytesOf (catS phi xs (i + 1)) = bytesOf (catS phi xs i) ++ (bytesOf (hedS phi xs i) ++ bytesOf (nd xs i).2.2.2.2) := by
        rw [catS, bytesOf_append, bytesOf_append, List.append_assoc]
      rw [mkT]
      by_cases hm : (nd xs i).2.2.1 = true
      · rw [if_pos hm]
        have hq : i + 1 < xs.length → (nd xs (i + 1)).1 ≤ (nd xs i).1 + 1 := fun h => by have := (hs.next i h).2; rw [if_pos hm] at this; exact this
        have hk := ih2 (i + 1) (nd xs i).1 q2_ q2_ q2_ hq
        have hmore := (mk_more phi xs hs f).2 (i + 1) (nd xs i).1 (2 * xs.length) q2_ q2_ q2_ hq
        rw [if_pos hm, hmore] at hlen
        simp only
        rw [hk, hcat, hbe, hlen, encT, hs.body i hi hm, hm]
        have : bytesOf ⟨#[]⟩ = [] := rfl
        rw [this, List.append_nil, List.append_assoc]
      · rw [if_neg hm] at hlen ⊢
        simp only
        rw [hcat, hbe, hlen, encT]
        rw [Bool.not_eq_true] at hm
        rw [hm]
    · rw [mkF]
      by_cases hc : i < xs.length ∧ d < (nd xs i).1
      · rw [if_pos hc]
        have h5 := h hc.1
        have hfl := fl1 i hc.1 q2_
        have hq : (mkT phi xs f i).2 < xs.length → (nd xs (mkT phi xs f i).2).1 ≤ d + 1 := fun hlt => by have := hfl.2.2.2 hlt; omega
        have k1 := ih1 i hc.1 q2_ q2_
        have k2 := ih2 (mkT phi xs f i).2 d hfl.2.1 q2_ q2_ hq
        simp only
        rw [k2, k1, encF, List.append_assoc]
      · rw [if_neg hc]
        simp only
        rw [encF, List.append_nil]
theorem mk_end (phi : Nat → Int → Nat) (xs : List NodeT) (hs : Snd xs) (h0 : 0 < xs.length) (f : Nat) (hf : 2 * xs.length + 1 ≤ f) : (mkT phi xs f 0).2 = xs.length := by
  have h := (mk_flat phi xs hs f).1 0 h0 q2_
  have hf := hs.first h0
  by_cases hlt : (mkT phi xs f 0).2 < xs.length
  · have h1 := h.2.2.2 hlt
    obtain ⟨j, hj⟩ : ∃ j, (mkT phi xs f 0).2 = j + 1 := ⟨(mkT phi xs f 0).2 - 1, q2_⟩
    rw [hj] at h1 hlt
    have := (hs.next j hlt).1
    omega
  · omega
theorem cat_tree (phi : Nat → Int → Nat) (xs : List NodeT) (hs : Snd xs) (h0 : 0 < xs.length) (hphi : ∀ i n, phi i n ≤ 4) (hok : ∀ i n, 0 ≤ n → n ≤ 4294967295 → okForm n (phi i n)) (hw : wt xs 0 xs.length ≤ 4294967295) :
    bytesOf (catS phi xs xs.length) = encT (treeOf phi xs) := by
  have h := (cat_enc phi xs hs hphi hok hw (2 * xs.length + 1)).1 0 h0 q2_ q2_
  rw [mk_end phi xs hs h0 _ (Nat.le_refl _)] at h
  have hm := (mk_more phi xs hs (2 * xs.length + 1)).1 0 (2 * xs.length + 2) h0 q2_ q2_
  unfold treeOf
  rw [hm, h]
  rfl
end Go.Proofs.YtogjljpncdmlkaaDoor.W
namespace Go.Proofs.YtogjljpncdmlkaaDoor.W
open Go.RowKit Go.Proofs.YtogjljpncdmlkaaDoorW.PrintWords
set_option linter.unusedVariables false
set_option linter.unusedSimpArgs false
def topH : Tr → Hd
  | .leaf c t b k => ⟨c, false, t, b.size, hsz k⟩
  | .made c t f k => ⟨c, true, t, (encF f).length, hsz k⟩
end Go.Proofs.YtogjljpncdmlkaaDoor.W
namespace Go.Proofs.YtogjljpncdmlkaaDoor.W
open Go.RowKit Go.Proofs.YtogjljpncdmlkaaDoorW.PrintWords Go.Proofs.YtogjljpncdmlkaaDoorW.PrintLast
set_option linter.unusedVariables false
set_option linter.unusedSimpArgs false
def arr66 (S : Nat → Int) : Array Value := ((List.range 66).map fun d => Value.int .i64 (S d)).toArray
theorem arr66_get (S : Nat → Int) (d : Nat) (h : d < 66) : (arr66 S)[d]? = some (.int .i64 (S d)) := by
  unfold arr66
  simp [h]
theorem arr66_set (S : Nat → Int) (d : Nat) (v : Int) : (arr66 S).setIfInBounds d (.int .i64 v) = arr66 (fun x => if x = d then v else S x) := by
  unfold arr66
  apply Array.ext
  · simp
  · intro i h1 h2
    simp at h1 h2
    simp only [List.setIfInBounds_toArray, List.getElem_toArray]
    rw [List.getElem_set]
    by_cases h : d = i
    · subst h
      simp
    · rw [if_neg h]
      simp only [List.getElem_map, List.getElem_range]
      rw [if_neg (fun e => h e.symm)]
def hedA (phi : Nat → Int → Nat) (xs : List NodeT) (i : Nat) : Array Value := ((List.range xs.length).map fun j => Value.string (if i ≤ j then hedS phi xs j else ⟨#[]⟩)).toArray
def wider (forms : List Int) (i : Nat) (n : Int) : Bool := decide (i < forms.length ∧ (wideK n : Int) < forms.getD i 0 ∧ forms.getD i 0 ≤ 4)
def shB (forms : List Int) (xs : List NodeT) : Nat → Bool
  | 0 => true
  | m + 1 => shB forms xs m && !(wider forms (xs.length - (m + 1)) (lenS xs (xs.length - (m + 1)) (sums (phiF forms) xs m)))
theorem hed_size (phi : Nat → Int → Nat) (xs : List NodeT) (hphi : ∀ i n, phi i n ≤ 4) (i : Nat) : (hedS phi xs i).size ≤ 6 := by
  have h := headS_size (nd xs i).2.1 (nd xs i).2.2.1 (nd xs i).2.2.2.1 (lenS xs i (sums phi xs (xs.length - (i + 1)))) (phi i (lenS xs i (sums phi xs (xs.length - (i + 1)))))
  have h2 := hsz_range _ (hphi i (lenS xs i (sums phi xs (xs.length - (i + 1)))))
  have h3 : (hedS phi xs i).size = (headS (nd xs i).2.1 (nd xs i).2.2.1 (nd xs i).2.2.2.1 (lenS xs i (sums phi xs (xs.length - (i + 1)))) (phi i (lenS xs i (sums phi xs (xs.length - (i + 1)))))).size := rfl
  omega
theorem cat_size (phi : Nat → Int → Nat) (xs : List NodeT) (hphi : ∀ i n, phi i n ≤ 4) : ∀ j, j ≤ xs.length → (catS phi xs j).size ≤ wt xs 0 j := by
  intro j
  induction j with
  | zero => intro _; exact Nat.zero_le _
  | succ j ih =>
    intro h
    have h1 := ih q2_
    have h2 := wt_one xs (show j < xs.length by omega)
    have h3 := wt_split xs (i := 0) (j := j) (k := j + 1) q2_ q2_
    have h4 := hed_size phi xs hphi j
    rw [catS, ByteArray.size_append, ByteArray.size_append]
    omega
def lenN (nm : Bool) (a b : Int) : Int := if nm = true then a else b
def sumN (nm : Bool) (D : Nat) (S : Nat → Int) : Nat → Int := fun x => if nm = true ∧ x = D + 1 then 0 else S x
theorem sumN_true (D : Nat) (S : Nat → Int) : (arr66 S).setIfInBounds (D + 1) (.int .i64 0) = arr66 (sumN true D S) := by
  rw [arr66_set]
  congr 1
  funext x
  unfold sumN
  by_cases hx : x = D + 1
  · rw [if_pos hx, if_pos ⟨rfl, hx⟩]
  · rw [if_neg hx, if_neg (fun h => hx h.2)]
theorem sumN_false (D : Nat) (S : Nat → Int) : sumN false D S = S := by
  funext x
  unfold sumN
  rw [if_neg (fun h => Bool.false_ne_true h.1)]
end Go.Proofs.YtogjljpncdmlkaaDoor.W
end
