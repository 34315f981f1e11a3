/- Texts of this claim in one: So, Ft, St3, Ip, Pvr, Pvo -/
import Derived.Test.YtogjljpncdmlkaaDoorB3
import Derived.Test.YtogjljpncdmlkaaDoorB11
import Derived.Lib.Hide
import Derived.Test.YtogjljpncdmlkaaDoorB13
import Derived.Test.YtogjljpncdmlkaaDoorB14
import Derived.Test.YtogjljpncdmlkaaDoorB16
section
namespace Go.Proofs.YtogjljpncdmlkaaDoor.W
open Go.RowKit Go.Proofs.YtogjljpncdmlkaaDoorW.PrintWords Go.Proofs.YtogjljpncdmlkaaDoorW.PrintLast
set_option linter.unusedVariables false
set_option linter.unusedSimpArgs false
def goodAt (xs : List NodeT) (i : Nat) : Bool := follB (prevOf xs i) (nd xs i) && decide ((nd xs i).1 ≤ 64)
def soundN (xs : List NodeT) : Nat → Nat → Bool
  | 0, _ => true
  | n + 1, i => goodAt xs i && soundN xs n (i + 1)
def soundB (xs : List NodeT) : Bool := soundN xs xs.length 0 && decide (0 < xs.length)
theorem soundN_at (xs : List NodeT) : ∀ (n i : Nat), soundN xs n i = true → ∀ j, i ≤ j → j < i + n → goodAt xs j = true := by
  intro n
  induction n with
  | zero => intro i h j h1 h2; omega
  | succ n ih =>
    intro i h j h1 h2
    rw [soundN, Bool.and_eq_true] at h
    by_cases e : j = i
    · subst e; exact h.1
    · exact ih (i + 1) h.2 j q2_ q2_
theorem sound_bad (xs : List NodeT) : ∀ (n i : Nat), i + n = xs.length → (soundN xs n i = true ↔ badN xs (n + 1) i = none) := by
  intro n
  induction n with
  | zero => intro i h; rw [soundN, badN, if_neg q2_]; simp
  | succ n ih =>
    intro i h
    rw [soundN, badN, if_pos q2_, Bool.and_eq_true]
    unfold goodAt
    rw [Bool.and_eq_true, decide_eq_true_eq]
    by_cases c : follB (prevOf xs i) (nd xs i) = true
    · rw [if_pos c]
      by_cases c2 : 64 < (nd xs i).1
      · rw [if_pos c2]
        refine ⟨fun h => by omega, fun h => by cases h⟩
      · rw [if_neg c2]
        refine ⟨fun h => (ih (i + 1) q2_).1 h.2, fun h => ⟨⟨c, q2_⟩, (ih (i + 1) q2_).2 h⟩⟩
    · rw [if_neg c]
      exact ⟨fun h => absurd h.1.1 c, fun h => by cases h⟩
def fit (x : NodeT) : Prop := -9223372036854775808 ≤ x.1 ∧ x.1 ≤ 9223372036854775807
theorem nd_wt (xs : List NodeT) (i : Nat) : (nd xs i).2.2.2.2.size ≤ wt xs 0 xs.length := by
  by_cases hi : i < xs.length
  · have h1 := wt_one xs hi
    have h2 := wt_split xs (i := 0) (j := i) (k := i + 1) q2_ q2_
    have h3 := wt_all xs (i + 1)
    omega
  · have : nd xs i = zN := by
      unfold nd
      rw [List.getD_eq_getElem?_getD, List.getElem?_eq_none q2_]
      rfl
    rw [this]
    exact Nat.zero_le _
end Go.Proofs.YtogjljpncdmlkaaDoor.W
end
section
namespace Go.Proofs.YtogjljpncdmlkaaDoor.W
open Go.RowKit Go.Proofs.YtogjljpncdmlkaaDoorW.PrintWords
set_option linter.unusedVariables false
set_option linter.unusedSimpArgs false
mutual
def mkT (phi : Nat → Int → Nat) (xs : List NodeT) : Nat → Nat → Tr × Nat
  | 0, i => (.leaf 0 0 ⟨#[]⟩ 0, i)
  | f + 1, i => if (nd xs i).2.2.1 = true then (.made (nd xs i).2.1 (nd xs i).2.2.2.1 (mkF phi xs f (i + 1) (nd xs i).1).1 (phi i (encF (mkF phi xs f (i + 1) (nd xs i).1).1).length), (mkF phi xs f (i + 1) (nd xs i).1).2)
    else (.leaf (nd xs i).2.1 (nd xs i).2.2.2.1 (nd xs i).2.2.2.2 (phi i (nd xs i).2.2.2.2.size), i + 1)
def mkF (phi : Nat → Int → Nat) (xs : List NodeT) : Nat → Nat → Int → Fs × Nat
  | 0, i, _ => (.nil, i)
  | f + 1, i, d => if i < xs.length ∧ d < (nd xs i).1 then (.cons (mkT phi xs f i).1 (mkF phi xs f (mkT phi xs f i).2 d).1, (mkF phi xs f (mkT phi xs f i).2 d).2) else (.nil, i)
end
def seg (xs : List NodeT) (i j : Nat) : List NodeT := (xs.take j).drop i
theorem seg_nil (xs : List NodeT) (i : Nat) : seg xs i i = [] := by unfold seg; simp
theorem seg_cons (xs : List NodeT) {i j : Nat} (hi : i < xs.length) (hj : i < j) : seg xs i j = nd xs i :: seg xs (i + 1) j := by
  unfold seg nd
  rw [List.drop_eq_getElem_cons q22_]
  congr 1
  simp [hi]
theorem seg_append (xs : List NodeT) {i j k : Nat} (h1 : i ≤ j) (h2 : j ≤ k) : seg xs i k = seg xs i j ++ seg xs j k := by
  unfold seg
  have e : xs.take j = (xs.take k).take j := by rw [List.take_take, Nat.min_eq_left h2]
  have h3 : (xs.take k).drop j = ((xs.take k).drop i).drop (j - i) := by rw [List.drop_drop]; congr 1; omega
  rw [e, h3]
  have h4 : ((xs.take k).take j).drop i = ((xs.take k).drop i).take (j - i) := by rw [List.drop_take]
  rw [h4, List.take_append_drop]
theorem node_eq (n : NodeT) {m : Bool} {b : ByteArray} (h : n.2.2.1 = m) (hb : n.2.2.2.2 = b) : ((n.1, n.2.1, m, n.2.2.2.1, b) : NodeT) = n := by subst h hb; rfl
structure Snd (xs : List NodeT) : Prop where
  name : ∀ i, i < xs.length → okN (nd xs i).2.1 (nd xs i).2.2.2.1
  body : ∀ i, i < xs.length → (nd xs i).2.2.1 = true → (nd xs i).2.2.2.2 = ⟨#[]⟩
  depth : ∀ i, i < xs.length → 1 ≤ (nd xs i).1 ∧ (nd xs i).1 ≤ 64
  first : 0 < xs.length → (nd xs 0).1 = 1
  next : ∀ i, i + 1 < xs.length → 2 ≤ (nd xs (i + 1)).1 ∧ (nd xs (i + 1)).1 ≤ if (nd xs i).2.2.1 = true then (nd xs i).1 + 1 else (nd xs i).1
theorem size_zero {b : ByteArray} (h : b.size = 0) : b = ⟨#[]⟩ := by
  apply ByteArray.ext
  exact Array.eq_empty_of_size_eq_zero h
theorem snd_of {xs : List NodeT} (h : ∀ i, i < xs.length → goodAt xs i = true) : Snd xs := by
  have key : ∀ i, i < xs.length → namedB (nd xs i).2.1 (nd xs i).2.2.2.1 = true ∧ ((nd xs i).2.2.1 = true → (nd xs i).2.2.2.2.size = 0) ∧ (nd xs i).1 ≤ 64 ∧ follB (prevOf xs i) (nd xs i) = true := by
    intro i hi
    have hg := h i hi
    unfold goodAt at hg
    rw [Bool.and_eq_true, decide_eq_true_eq] at hg
    have hf := foll_made hg.1
    exact ⟨hf.1, hf.2, hg.2, hg.1⟩
  have hp : ∀ i, 0 < i → prevOf xs i = some ((nd xs (i - 1)).1, (nd xs (i - 1)).2.2.1) := fun i hi => by unfold prevOf; rw [if_neg q2_]
  refine ⟨fun i hi => ?_, fun i hi hm => size_zero ((key i hi).2.1 hm), fun i hi => ⟨foll_depth (key i hi).2.2.2, (key i hi).2.2.1⟩, fun h0 => ?_, fun i hi => ?_⟩
  · have := (key i hi).1
    unfold namedB at this
    have := of_decide_eq_true this
    unfold okN
    omega
  · have hf := (key 0 h0).2.2.2
    have e : prevOf xs 0 = none := rfl
    rw [e, foll_none] at hf
    simp only [Bool.and_eq_true, decide_eq_true_eq] at hf
    exact hf.2
  · have hf := (key (i + 1) hi).2.2.2
    rw [hp (i + 1) q2_, foll_some] at hf
    simp only [Bool.and_eq_true, decide_eq_true_eq, Nat.add_sub_cancel] at hf
    exact hf.2
theorem sound_snd {xs : List NodeT} (h : soundB xs = true) : Snd xs ∧ 0 < xs.length := by
  unfold soundB at h
  rw [Bool.and_eq_true, decide_eq_true_eq] at h
  exact ⟨snd_of (fun i hi => soundN_at xs _ 0 h.1 i q2_ q2_), h.2⟩
theorem mk_flat (phi : Nat → Int → Nat) (xs : List NodeT) (hs : Snd xs) : ∀ f : Nat,
    (∀ i, i < xs.length → 2 * (xs.length - i) + 1 ≤ f → i < (mkT phi xs f i).2 ∧ (mkT phi xs f i).2 ≤ xs.length ∧ flatT (nd xs i).1 (mkT phi xs f i).1 = seg xs i (mkT phi xs f i).2 ∧
      ((mkT phi xs f i).2 < xs.length → (nd xs (mkT phi xs f i).2).1 ≤ (nd xs i).1)) ∧
    (∀ i d, i ≤ xs.length → 2 * (xs.length - i) + 2 ≤ f → (i < xs.length → (nd xs i).1 ≤ d + 1) → i ≤ (mkF phi xs f i d).2 ∧ (mkF phi xs f i d).2 ≤ xs.length ∧ flatF (d + 1) (mkF phi xs f i d).1 = seg xs i (mkF phi xs f i d).2 ∧
      ((mkF phi xs f i d).2 < xs.length → (nd xs (mkF phi xs f i d).2).1 ≤ d))
  | 0 => ⟨fun i hi hf => by omega, fun i d hi hf h => by omega⟩
  | f + 1 => by
    obtain ⟨ih1, ih2⟩ := mk_flat phi xs hs f
    refine ⟨fun i hi hf => ?_, fun i d hi hf h => ?_⟩
    · rw [mkT]
      by_cases hm : (nd xs i).2.2.1 = true
      · rw [if_pos hm]
        have hk := ih2 (i + 1) (nd xs i).1 q2_ q2_ (fun h => by have := (hs.next i h).2; rw [if_pos hm] at this; exact this)
        simp only
        refine ⟨q2_, hk.2.1, ?_, hk.2.2.2⟩
        rw [flatT, hk.2.2.1, seg_cons xs hi q2_]
        congr 1
        exact node_eq _ hm (hs.body i hi hm)
      · rw [if_neg hm]
        simp only
        refine ⟨q2_, q2_, ?_, fun h => ?_⟩
        · rw [flatT, seg_cons xs hi q2_, seg_nil]
          rw [Bool.not_eq_true] at hm
          rw [node_eq _ hm rfl]
        · have := (hs.next i h).2
          rw [if_neg hm] at this
          exact this
    · rw [mkF]
      by_cases hc : i < xs.length ∧ d < (nd xs i).1
      · rw [if_pos hc]
        have h1 := ih1 i hc.1 q2_
        have hd : (nd xs i).1 = d + 1 := by have := h hc.1; omega
        have h2 := ih2 (mkT phi xs f i).2 d h1.2.1 q2_ (fun hlt => by have := h1.2.2.2 hlt; omega)
        simp only
        refine ⟨q2_, h2.2.1, ?_, h2.2.2.2⟩
        rw [flatF, h2.2.2.1, ← hd, h1.2.2.1, ← seg_append xs q2_ h2.1]
      · rw [if_neg hc]
        simp only
        refine ⟨Nat.le_refl _, hi, ?_, fun h3 => ?_⟩
        · rw [flatF, seg_nil]
        · omega
theorem mk_ok (phi : Nat → Int → Nat) (xs : List NodeT) (hs : Snd xs) (hphi : ∀ i n, 0 ≤ n → n ≤ 4294967295 → okForm n (phi i n)) : ∀ f : Nat,
    (∀ i, i < xs.length → 2 * (xs.length - i) + 1 ≤ f → (encT (mkT phi xs f i).1).length ≤ 4294967295 → okT (mkT phi xs f i).1 ∧ (nd xs i).1 + deepT (mkT phi xs f i).1 ≤ 65) ∧
    (∀ i d, i ≤ xs.length → 2 * (xs.length - i) + 2 ≤ f → (i < xs.length → (nd xs i).1 ≤ d + 1) → d ≤ 64 → (encF (mkF phi xs f i d).1).length ≤ 4294967295 → okF (mkF phi xs f i d).1 ∧ d + deepF (mkF phi xs f i d).1 ≤ 64)
  | 0 => ⟨fun i hi hf => by omega, fun i d hi hf h => by omega⟩
  | f + 1 => by
    obtain ⟨ih1, ih2⟩ := mk_ok phi xs hs hphi f
    obtain ⟨fl1, fl2⟩ := mk_flat phi xs hs f
    refine ⟨fun i hi hf hb => ?_, fun i d hi hf h hd hb => ?_⟩
    · rw [mkT] at hb ⊢
      have hdp := hs.depth i hi
      by_cases hm : (nd xs i).2.2.1 = true
      · rw [if_pos hm] at hb ⊢
        simp only at hb ⊢
        rw [encT, List.length_append] at hb
        have hk := ih2 (i + 1) (nd xs i).1 q2_ q2_ (fun h => by have := (hs.next i h).2; rw [if_pos hm] at this; exact this) hdp.2 q2_
        refine ⟨⟨hs.name i hi, hphi _ _ q2_ q2_, hk.1⟩, ?_⟩
        rw [deepT]
        omega
      · rw [if_neg hm] at hb ⊢
        simp only at hb ⊢
        rw [encT, List.length_append, bytesOf_length] at hb
        refine ⟨⟨hs.name i hi, hphi _ _ q2_ q2_⟩, ?_⟩
        rw [deepT]
        omega
    · rw [mkF] at hb ⊢
      by_cases hc : i < xs.length ∧ d < (nd xs i).1
      · rw [if_pos hc] at hb ⊢
        simp only at hb ⊢
        rw [encF, List.length_append] at hb
        have hdd : (nd xs i).1 = d + 1 := by have := h hc.1; omega
        have h1 := ih1 i hc.1 q2_ q2_
        have f1 := fl1 i hc.1 q2_
        have h2 := ih2 (mkT phi xs f i).2 d f1.2.1 q2_ (fun hlt => by have := f1.2.2.2 hlt; omega) hd q2_
        refine ⟨⟨h1.1, h2.1⟩, ?_⟩
        rw [deepF]
        split <;> omega
      · rw [if_neg hc]
        simp only
        refine ⟨trivial, ?_⟩
        rw [deepF]
        omega
def short (_ : Nat) (n : Int) : Nat := wideK n
theorem wr_enc (xs : List NodeT) (hs : Snd xs) (hw : wt xs 0 xs.length ≤ 134217728) (hm : ∀ i, (nd xs i).2.2.1 = true → (nd xs i).2.2.2.2.size = 0) : ∀ f : Nat,
    (∀ i, i < xs.length → 2 * (xs.length - i) + 1 ≤ f → bytesOf (wrE xs f i).1 = encT (mkT short xs f i).1 ∧ (wrE xs f i).2 = (mkT short xs f i).2) ∧
    (∀ i d b, i ≤ xs.length → 2 * (xs.length - i) + 2 ≤ f → bytesOf (wrK xs f i d b).1 = bytesOf b ++ encF (mkF short xs f i d).1 ∧ (wrK xs f i d b).2 = (mkF short xs f i d).2)
  | 0 => ⟨fun i hi hf => by omega, fun i d b hi hf => by omega⟩
  | f + 1 => by
    obtain ⟨ih1, ih2⟩ := wr_enc xs hs hw hm f
    obtain ⟨sz1, sz2⟩ := wr_size xs hm f
    refine ⟨fun i hi hf => ?_, fun i d b hi hf => ?_⟩
    · rw [wrE, mkT]
      have hwi := nd_wt xs i
      by_cases hmd : (nd xs i).2.2.1 = true
      · rw [if_pos hmd, if_pos hmd]
        have hk := ih2 (i + 1) (nd xs i).1 ⟨#[]⟩ q2_ q2_
        have hsz := sz2 (i + 1) (nd xs i).1 ⟨#[]⟩ q2_
        have hz : (⟨#[]⟩ : ByteArray).size = 0 := rfl
        rw [hz] at hsz
        have ha := wt_all xs (wrK xs f (i + 1) (nd xs i).1 ⟨#[]⟩).2
        have hsp := wt_split xs (i := 0) (j := i + 1) (k := (wrK xs f (i + 1) (nd xs i).1 ⟨#[]⟩).2) q2_ hsz.1
        simp only
        have e1 : bytesOf (wrK xs f (i + 1) (nd xs i).1 ⟨#[]⟩).1 = encF (mkF short xs f (i + 1) (nd xs i).1).1 := hk.1
        have e2 : (((wrK xs f (i + 1) (nd xs i).1 ⟨#[]⟩).1.size : Nat) : Int) = ((encF (mkF short xs f (i + 1) (nd xs i).1).1).length : Int) := by rw [← e1, bytesOf_length]
        refine ⟨?_, hk.2⟩
        rw [lay_bytes (hs.name i hi) q2_, encT, e1, e2]
        rfl
      · rw [if_neg hmd, if_neg hmd]
        simp only
        refine ⟨?_, trivial⟩
        rw [lay_bytes (hs.name i hi) q2_, encT]
        rfl
    · rw [wrK, mkF]
      by_cases hc : i < xs.length ∧ d < (nd xs i).1
      · rw [if_pos hc, if_pos hc]
        have h1 := ih1 i hc.1 q2_
        have hsz := sz1 i hc.1
        have hgt : i < (wrE xs f i).2 := by
          obtain ⟨g, rfl⟩ : ∃ g, f = g + 1 := ⟨f - 1, q2_⟩
          exact wrE_gt xs g i
        have h2 := ih2 (wrE xs f i).2 d (b ++ (wrE xs f i).1) hsz.2.1 q2_
        simp only
        refine ⟨?_, by rw [h2.2, h1.2]⟩
        rw [h2.1, bytesOf_append, h1.1, encF, List.append_assoc, h1.2]
      · rw [if_neg hc, if_neg hc]
        simp only
        refine ⟨?_, trivial⟩
        rw [encF, List.append_nil]
def treeOf (phi : Nat → Int → Nat) (xs : List NodeT) : Tr := (mkT phi xs (2 * xs.length + 2) 0).1
theorem tree_flat (phi : Nat → Int → Nat) (xs : List NodeT) (hs : Snd xs) (h0 : 0 < xs.length) : flatT 1 (treeOf phi xs) = xs := by
  have h := (mk_flat phi xs hs (2 * xs.length + 2)).1 0 h0 q2_
  have hf := hs.first h0
  have hend : (mkT phi xs (2 * xs.length + 2) 0).2 = xs.length := by
    by_cases hlt : (mkT phi xs (2 * xs.length + 2) 0).2 < xs.length
    · have h1 := h.2.2.2 hlt
      obtain ⟨j, hj⟩ : ∃ j, (mkT phi xs (2 * xs.length + 2) 0).2 = j + 1 := ⟨(mkT phi xs (2 * xs.length + 2) 0).2 - 1, q2_⟩
      rw [hj] at h1 hlt
      have := (hs.next j hlt).1
      omega
    · omega
  have h2 := h.2.2.1
  rw [hf, hend] at h2
  unfold treeOf
  rw [h2]
  unfold seg
  simp
theorem short_ok (i : Nat) (n : Int) (h0 : 0 ≤ n) (h1 : n ≤ 4294967295) : okForm n (short i n) := wide_ok h0 h1
theorem write_sound (xs : List NodeT) (hs : soundB xs = true) (hw : wt xs 0 xs.length ≤ 134217728) : ∃ b, writeS xs = (b, 0, 0) ∧ bytesOf b = encT (treeOf short xs) := by
  obtain ⟨hS, h0⟩ := sound_snd hs
  have hm : ∀ i, (nd xs i).2.2.1 = true → (nd xs i).2.2.2.2.size = 0 := by
    intro i hi
    by_cases hl : i < xs.length
    · rw [hS.body i hl hi]; rfl
    · have : nd xs i = zN := nd_out xs i q2_
      rw [this] at hi
      cases hi
  have hb : badN xs (xs.length + 1) 0 = none := by
    unfold soundB at hs
    rw [Bool.and_eq_true] at hs
    exact (sound_bad xs xs.length 0 q2_).1 hs.1
  refine ⟨(wrE xs (2 * xs.length + 2) 0).1, ?_, ?_⟩
  · unfold writeS
    rw [if_neg q2_, hb]
  · exact ((wr_enc xs hS hw hm (2 * xs.length + 2)).1 0 h0 q2_).1
theorem write_size (xs : List NodeT) (hs : soundB xs = true) (b : ByteArray) (hb : writeS xs = (b, 0, 0)) : b.size ≤ wt xs 0 xs.length := by
  obtain ⟨hS, h0⟩ := sound_snd hs
  have hm : ∀ i, (nd xs i).2.2.1 = true → (nd xs i).2.2.2.2.size = 0 := by
    intro i hi
    by_cases hl : i < xs.length
    · rw [hS.body i hl hi]; rfl
    · have : nd xs i = zN := nd_out xs i q2_
      rw [this] at hi
      cases hi
  have hbd : badN xs (xs.length + 1) 0 = none := by
    unfold soundB at hs
    rw [Bool.and_eq_true] at hs
    exact (sound_bad xs xs.length 0 q2_).1 hs.1
  unfold writeS at hb
  rw [if_neg q2_, hbd] at hb
  simp only [Prod.mk.injEq] at hb
  rw [← hb.1]
  have h := ((wr_size xs hm (2 * xs.length + 2)).1 0 h0)
  have := wt_all xs (wrE xs (2 * xs.length + 2) 0).2
  omega
end Go.Proofs.YtogjljpncdmlkaaDoor.W
end
section
namespace Go.Proofs.YtogjljpncdmlkaaDoor.W
open Go.RowKit Go.Proofs.YtogjljpncdmlkaaDoorW.PrintWords Go.Proofs.YtogjljpncdmlkaaDoorW.PrintLast
set_option linter.unusedVariables false
set_option linter.unusedSimpArgs false
def headS (cls : Int) (made : Bool) (tag n : Int) (k : Nat) : ByteArray := strOfNums (headB cls made tag n k)
end Go.Proofs.YtogjljpncdmlkaaDoor.W
namespace Go.Proofs.YtogjljpncdmlkaaDoor.W
open Go.RowKit Go.Proofs.YtogjljpncdmlkaaDoorW.PrintWords
set_option linter.unusedVariables false
set_option linter.unusedSimpArgs false
def phiF (forms : List Int) (i : Nat) (n : Int) : Nat := if i < forms.length ∧ (wideK n : Int) < forms.getD i 0 ∧ forms.getD i 0 ≤ 4 then (forms.getD i 0).toNat else wideK n
def lenS (xs : List NodeT) (i : Nat) (S : Nat → Int) : Int := if (nd xs i).2.2.1 = true then S ((nd xs i).1.toNat + 1) else (nd xs i).2.2.2.2.size
def stepS (phi : Nat → Int → Nat) (xs : List NodeT) (i : Nat) (S : Nat → Int) : Nat → Int := fun d =>
  if d = (nd xs i).1.toNat then S d + hsz (phi i (lenS xs i S)) + lenS xs i S else if (nd xs i).2.2.1 = true ∧ d = (nd xs i).1.toNat + 1 then 0 else S d
def sums (phi : Nat → Int → Nat) (xs : List NodeT) : Nat → Nat → Int
  | 0 => fun _ => 0
  | m + 1 => stepS phi xs (xs.length - (m + 1)) (sums phi xs m)
def hedS (phi : Nat → Int → Nat) (xs : List NodeT) (i : Nat) : ByteArray :=
  headS (nd xs i).2.1 (nd xs i).2.2.1 (nd xs i).2.2.2.1 (lenS xs i (sums phi xs (xs.length - (i + 1)))) (phi i (lenS xs i (sums phi xs (xs.length - (i + 1)))))
def catS (phi : Nat → Int → Nat) (xs : List NodeT) : Nat → ByteArray
  | 0 => ⟨#[]⟩
  | i + 1 => catS phi xs i ++ hedS phi xs i ++ (nd xs i).2.2.2.2
def sumF (phi : Nat → Int → Nat) (xs : List NodeT) : Nat → Nat → Int → Int
  | 0, _, _ => 0
  | n + 1, i, d => if i < xs.length then (if (nd xs i).1 < d then 0 else if (nd xs i).1 = d then (encF (mkF phi xs (2 * xs.length + 2) i (d - 1)).1).length else sumF phi xs n (i + 1) d) else 0
end Go.Proofs.YtogjljpncdmlkaaDoor.W
namespace Go.Proofs.YtogjljpncdmlkaaDoor.W
open Go.RowKit Go.Proofs.YtogjljpncdmlkaaDoorW.PrintWords
set_option linter.unusedVariables false
set_option linter.unusedSimpArgs false
theorem byt_front (s : ByteArray) (n j : Nat) (h : j < n) (hn : n ≤ s.size) : byt (s.extract 0 n) (j : Int) = byt s (j : Int) := by
  have := byt_extract s 0 n j q2_ hn
  rw [Nat.zero_add] at this
  exact this
theorem numAt_same (s t : ByteArray) : ∀ (n : Nat) (i v : Int), (∀ j : Nat, j < n → byt t (i + j) = byt s (i + j)) → numAt t i n v = numAt s i n v := by
  intro n
  induction n with
  | zero => intro i v h; rfl
  | succ n ih =>
    intro i v h
    have h0 := h 0 q2_
    simp only [Int.natCast_zero, Int.add_zero] at h0
    rw [numAt, numAt, h0]
    refine ih (i + 1) _ (fun j hj => ?_)
    have := h (j + 1) q2_
    have e : i + 1 + (j : Int) = i + ((j + 1 : Nat) : Int) := by omega
    rw [e]
    exact this
theorem hdr_front {s : ByteArray} {e : Int} {h : Hd} (hh : hdr s 0 e 1 = .ok h) (cut : Nat) (hc : cut ≤ s.size) : hdr (s.extract 0 cut) 0 cut 1 = if (cut : Int) < h.size then .error (20, (cut : Int)) else .ok h := by
  have hm : miss 1 = 20 := rfl
  unfold hdr at hh
  rw [if_neg q2_] at hh
  by_cases c1 : e ≤ 0
  · rw [if_pos c1] at hh; cases hh
  rw [if_neg c1] at hh
  by_cases c2 : byt s 0 % 32 = 31
  · rw [if_pos c2] at hh; cases hh
  rw [if_neg c2] at hh
  by_cases c3 : e ≤ 0 + 1
  · rw [if_pos c3] at hh; cases hh
  rw [if_neg c3] at hh
  unfold hdr
  rw [if_neg q2_, hm]
  have b1 : 1 < cut → byt (s.extract 0 cut) (0 + 1) = byt s (0 + 1) := fun h => byt_front s cut 1 h hc
  have b0 : 0 < cut → byt (s.extract 0 cut) 0 = byt s 0 := fun h => byt_front s cut 0 h hc
  have hsz2 : 2 ≤ h.size := by
    by_cases c4 : byt s (0 + 1) < 128
    · rw [if_pos c4] at hh; injection hh with hh; rw [← hh]; exact Int.le_refl _
    · rw [if_neg c4] at hh
      by_cases c5 : byt s (0 + 1) = 128
      · rw [if_pos c5] at hh; cases hh
      rw [if_neg c5] at hh
      by_cases c6 : 132 < byt s (0 + 1)
      · rw [if_pos c6] at hh; cases hh
      rw [if_neg c6] at hh
      by_cases c7 : e < 0 + (byt s (0 + 1) - 126)
      · rw [if_pos c7] at hh; cases hh
      rw [if_neg c7] at hh
      injection hh with hh
      rw [← hh]
      show (2 : Int) ≤ byt s (0 + 1) - 126
      omega
  by_cases d1 : (cut : Int) ≤ 0
  · rw [if_pos d1, if_pos q2_]
  rw [if_neg d1, b0 q2_, if_neg c2]
  by_cases d2 : (cut : Int) ≤ 0 + 1
  · rw [if_pos d2, if_pos q2_]
  rw [if_neg d2, b1 q2_]
  by_cases c4 : byt s (0 + 1) < 128
  · rw [if_pos c4] at hh ⊢
    injection hh with hh
    rw [← hh]
    rw [if_neg (show ¬ (cut : Int) < 2 by omega)]
  rw [if_neg c4] at hh ⊢
  by_cases c5 : byt s (0 + 1) = 128
  · rw [if_pos c5] at hh; cases hh
  rw [if_neg c5] at hh ⊢
  by_cases c6 : 132 < byt s (0 + 1)
  · rw [if_pos c6] at hh; cases hh
  rw [if_neg c6] at hh ⊢
  by_cases c7 : e < 0 + (byt s (0 + 1) - 126)
  · rw [if_pos c7] at hh; cases hh
  rw [if_neg c7] at hh
  injection hh with hh
  have hs6 : h.size = byt s (0 + 1) - 126 := by rw [← hh]
  by_cases c8 : (cut : Int) < h.size
  · rw [if_pos c8, if_pos q2_]
  · rw [if_neg c8, if_neg q2_, ← hh]
    congr 2
    refine numAt_same s _ _ _ _ (fun j hj => ?_)
    have e : (0 : Int) + 2 + (j : Int) = ((2 + j : Nat) : Int) := by omega
    rw [e]
    exact byt_front s cut (2 + j) q2_ hc
def topH : Tr → Hd
  | .leaf c t b k => ⟨c, false, t, b.size, hsz k⟩
  | .made c t f k => ⟨c, true, t, (encF f).length, hsz k⟩
theorem top_size (t : Tr) : (topH t).size + (topH t).len = (encT t).length := by
  cases t with
  | leaf c g b k => rw [encT, List.length_append, bytesOf_length]; have := head_len c false g (b.size : Int) k; show hsz k + (b.size : Int) = _; omega
  | made c g f k => rw [encT, List.length_append]; have := head_len c true g ((encF f).length : Int) k; show hsz k + ((encF f).length : Int) = _; omega
theorem top_range (t : Tr) (hok : okT t) : 2 ≤ (topH t).size ∧ (topH t).size ≤ 6 ∧ 0 ≤ (topH t).len := by
  cases t with
  | leaf c g b k => have := hsz_range k (okForm_le hok.2); exact ⟨this.1, this.2, Int.natCast_nonneg _⟩
  | made c g f k => have := hsz_range k (okForm_le hok.2.1); exact ⟨this.1, this.2, Int.natCast_nonneg _⟩
theorem hdr_top {s : ByteArray} {t : Tr} (hok : okT t) (h : Has s 0 (encT t)) (e : Int) (he : ((encT t).length : Int) ≤ e) : hdr s 0 e 1 = .ok (topH t) := by
  have h1 := top_size t
  have h2 := top_range t hok
  cases t with
  | leaf c g b k =>
    rw [encT] at h
    have hz : (topH (.leaf c g b k)).size = hsz k := rfl
    exact hdr_has h.left hok.1.1 hok.1.2.1 hok.1.2.2.1 hok.1.2.2.2 q2_ hok.2 q2_ q2_
  | made c g f k =>
    rw [encT] at h
    have hz : (topH (.made c g f k)).size = hsz k := rfl
    exact hdr_has h.left hok.1.1 hok.1.2.1 hok.1.2.2.1 hok.1.2.2.2 q2_ hok.2.1 q2_ q2_
theorem tree_front {s : ByteArray} {t : Tr} (hok : okT t) (h : Has s 0 (encT t)) (hs : (s.size : Int) = (encT t).length) (cut : Nat) (hc : cut < s.size) : treeS (s.extract 0 cut) = ([], 20, (cut : Int)) := by
  have hz : (s.extract 0 cut).size = cut := by simp; omega
  have hh := hdr_front (hdr_top hok h s.size q2_) cut q2_
  have ht := top_size t
  have hb : bnd (s.extract 0 cut) 0 cut 1 = .error (20, (cut : Int)) := by
    unfold bnd
    rw [hh]
    by_cases c : (cut : Int) < (topH t).size
    · rw [if_pos c]
    · rw [if_neg c]
      simp only
      rw [if_pos q2_]
      rfl
  unfold treeS walkS
  rw [hz, elemF, hb]
  rfl
end Go.Proofs.YtogjljpncdmlkaaDoor.W
namespace Go.Proofs.YtogjljpncdmlkaaDoor.W
open Go.RowKit Go.Proofs.YtogjljpncdmlkaaDoorW.PrintWords Go.Proofs.YtogjljpncdmlkaaDoorW.PrintLast
set_option linter.unusedVariables false
set_option linter.unusedSimpArgs false
def arr66 (S : Nat → Int) : Array Value := ((List.range 66).map fun d => Value.int .i64 (S d)).toArray
def hedA (phi : Nat → Int → Nat) (xs : List NodeT) (i : Nat) : Array Value := ((List.range xs.length).map fun j => Value.string (if i ≤ j then hedS phi xs j else ⟨#[]⟩)).toArray
def wider (forms : List Int) (i : Nat) (n : Int) : Bool := decide (i < forms.length ∧ (wideK n : Int) < forms.getD i 0 ∧ forms.getD i 0 ≤ 4)
def shB (forms : List Int) (xs : List NodeT) : Nat → Bool
  | 0 => true
  | m + 1 => shB forms xs m && !(wider forms (xs.length - (m + 1)) (lenS xs (xs.length - (m + 1)) (sums (phiF forms) xs m)))
def lenN (nm : Bool) (a b : Int) : Int := if nm = true then a else b
def sumN (nm : Bool) (D : Nat) (S : Nat → Int) : Nat → Int := fun x => if nm = true ∧ x = D + 1 then 0 else S x
end Go.Proofs.YtogjljpncdmlkaaDoor.W
end
section
namespace Go.Proofs.YtogjljpncdmlkaaDoor.W
open Go.RowKit
set_option linter.unusedVariables false
set_option linter.unusedSimpArgs false
theorem pow_8 (k : Nat) : (2 : Int) ^ (8 * k) = 256 ^ k := by rw [Int.pow_mul]; rfl
theorem p256_pos (k : Nat) : (0 : Int) < 256 ^ k := Int.pow_pos q14_
theorem putAt_256 (n : Int) (c j : Nat) : putAt n c j = n / 256 ^ (c - 1 - j) % 256 := by unfold putAt; rw [pow_8]
theorem fits_pow (k : Nat) : (2 : Int) ^ (8 * (k + 1) - 1) = 128 * 256 ^ k := by
  rw [show 8 * (k + 1) - 1 = 7 + 8 * k by omega, Int.pow_add, pow_8]
  rfl
theorem fits_div (n : Int) (k : Nat) : fits n (k + 1) ↔ -128 ≤ n / 256 ^ k ∧ n / 256 ^ k < 128 := by
  unfold fits
  rw [fits_pow, Int.le_ediv_iff_mul_le (p256_pos k), Int.ediv_lt_iff_lt_mul (p256_pos k), Int.neg_mul]
theorem div_succ (n : Int) (k : Nat) : n / 256 ^ (k + 1) = n / 256 ^ k / 256 := by
  rw [Int.pow_succ, Int.ediv_mul, if_neg (fun h => by have := p256_pos k; omega), Int.add_zero]
theorem div_succ' (n : Int) (k : Nat) : n / 256 ^ (k + 1) = n / 256 / 256 ^ k := by
  rw [Int.pow_succ, Int.mul_comm, Int.ediv_mul, if_neg (fun h => by omega), Int.add_zero]
theorem putC_spec (n : Int) (h0 : -9223372036854775808 ≤ n) (h1 : n ≤ 9223372036854775807) : 1 ≤ putC n ∧ putC n ≤ 8 ∧ fits n (putC n) ∧ ∀ k, 1 ≤ k → k < putC n → ¬ fits n k := by
  unfold putC
  split
  · exact ⟨q2_, q2_, ⟨q22_, q22_⟩, fun k k1 k2 => by omega⟩
  split
  · exact ⟨q2_, q2_, ⟨q22_, q22_⟩, fun k k1 k2 => by obtain rfl : k = 1 := q2_; unfold fits; simp; omega⟩
  split
  · exact ⟨q2_, q2_, ⟨q22_, q22_⟩, fun k k1 k2 => by rcases (show k = 1 ∨ k = 2 by omega) with rfl | rfl <;> (unfold fits; simp; omega)⟩
  split
  · exact ⟨q2_, q2_, ⟨q22_, q22_⟩, fun k k1 k2 => by rcases (show k = 1 ∨ k = 2 ∨ k = 3 by omega) with rfl | rfl | rfl <;> (unfold fits; simp; omega)⟩
  split
  · exact ⟨q2_, q2_, ⟨q22_, q22_⟩, fun k k1 k2 => by rcases (show k = 1 ∨ k = 2 ∨ k = 3 ∨ k = 4 by omega) with rfl | rfl | rfl | rfl <;> (unfold fits; simp; omega)⟩
  split
  · exact ⟨q2_, q2_, ⟨q22_, q22_⟩, fun k k1 k2 => by rcases (show k = 1 ∨ k = 2 ∨ k = 3 ∨ k = 4 ∨ k = 5 by omega) with rfl | rfl | rfl | rfl | rfl <;> (unfold fits; simp; omega)⟩
  split
  · exact ⟨q2_, q2_, ⟨q22_, q22_⟩, fun k k1 k2 => by rcases (show k = 1 ∨ k = 2 ∨ k = 3 ∨ k = 4 ∨ k = 5 ∨ k = 6 by omega) with rfl | rfl | rfl | rfl | rfl | rfl <;> (unfold fits; simp; omega)⟩
  · exact ⟨q2_, q2_, ⟨q22_, q22_⟩, fun k k1 k2 => by rcases (show k = 1 ∨ k = 2 ∨ k = 3 ∨ k = 4 ∨ k = 5 ∨ k = 6 ∨ k = 7 by omega) with rfl | rfl | rfl | rfl | rfl | rfl | rfl <;> (unfold fits; simp; omega)⟩
theorem numAt_of (s : ByteArray) (i : Int) : ∀ (n : Nat) (v : Int), (∀ j, j < n → v / 256 ^ (n - 1 - j) % 256 = byt s (i + j)) → numAt s i n (v / 256 ^ n) = v := by
  intro n
  induction n with
  | zero => intro v _; simp [numAt]
  | succ n ih =>
    intro v h
    have hn := h n q2_
    rw [show n + 1 - 1 - n = 0 by omega] at hn
    rw [numAt_snoc, div_succ', ih (v / 256) (fun j hj => by
      have := h j q2_
      rw [show n + 1 - 1 - j = (n - 1 - j) + 1 by omega, div_succ'] at this
      exact this), ← hn]
    simp
    omega
theorem str_size (l : List Int) : (strOfNums l).size = l.length := by
  show (l.map fun n => UInt8.ofNat n.toNat).toArray.size = _
  simp
theorem str_byt (l : List Int) (j : Nat) (hj : j < l.length) (h : 0 ≤ l[j] ∧ l[j] < 256) : byt (strOfNums l) j = l[j] := by
  have hs : j < (strOfNums l).size := by rw [str_size]; exact hj
  have e0 : byt (strOfNums l) j = (((strOfNums l)[j]'hs).toNat : Int) := (byt_at (strOfNums l) j hs).symm
  have e : (strOfNums l)[j]'hs = UInt8.ofNat (l[j]).toNat := by
    show (l.map fun n => UInt8.ofNat n.toNat).toArray[j]'(by simpa using hj) = _
    simp
  rw [e0, e, UInt8.toNat_ofNat']
  omega
theorem putL_len (n : Int) (c : Nat) : (putL n c).length = c := by simp [putL]
theorem putS_size (n : Int) : (putS n).size = putC n := by unfold putS; rw [str_size, putL_len]
theorem putS_byt (n : Int) (j : Nat) (hj : j < putC n) : byt (putS n) j = n / 256 ^ (putC n - 1 - j) % 256 := by
  unfold putS
  have e : (putL n (putC n))[j]'(by rw [putL_len]; exact hj) = n / 256 ^ (putC n - 1 - j) % 256 := by simp [putL, putAt_256]
  rw [str_byt _ j (by rw [putL_len]; exact hj) (by rw [e]; omega), e]
theorem int_put (n : Int) (h0 : -9223372036854775808 ≤ n) (h1 : n ≤ 9223372036854775807) : intS (putS n) = (n, 0) ∧ 1 ≤ (putS n).size ∧ (putS n).size ≤ 8 ∧ (128 ≤ byt (putS n) 0 ↔ n < 0) := by
  obtain ⟨p1, p8, pf, pn⟩ := putC_spec n h0 h1
  obtain ⟨c, hc⟩ : ∃ c, putC n = c + 1 := ⟨putC n - 1, q2_⟩
  have b0 := putS_byt n 0 q2_
  rw [hc] at b0 pf
  rw [fits_div] at pf
  rw [show c + 1 - 1 - 0 = c by omega] at b0
  have sg : signed (byt (putS n) 0) = n / 256 ^ c := by
    have e : ((0 : Nat) : Int) = 0 := rfl
    rw [e] at b0
    unfold signed
    rw [b0]
    split <;> omega
  have hneg : n / 256 ^ c < 0 ↔ n < 0 := by
    rw [Int.ediv_lt_iff_lt_mul (p256_pos c)]
    simp
  have hsz := putS_size n
  rw [hc] at hsz
  refine ⟨?_, q2_, q2_, ?_⟩
  · unfold intS
    rw [if_neg q2_]
    have hv : numAt (putS n) 1 c (n / 256 ^ c) = n := by
      apply numAt_of
      intro j hj
      have := putS_byt n (j + 1) q2_
      rw [hc, show c + 1 - 1 - (j + 1) = c - 1 - j by omega] at this
      rw [← this]
      congr 1
      omega
    rw [if_neg ?_, sg, hsz, show c + 1 - 1 = c by omega, hv]
    intro h
    obtain ⟨k, rfl⟩ : ∃ k, c = k + 1 := ⟨c - 1, q2_⟩
    have nf := pn (k + 1) q2_ q2_
    rw [fits_div] at nf
    have b1 := putS_byt n 1 q2_
    rw [hc, show k + 1 + 1 - 1 - 1 = k by omega] at b1
    rw [div_succ] at b0
    have e0 : ((0 : Nat) : Int) = 0 := rfl
    have e1 : ((1 : Nat) : Int) = 1 := rfl
    rw [e0] at b0
    rw [e1] at b1
    rw [div_succ] at pf
    omega
  · have e : ((0 : Nat) : Int) = 0 := rfl
    rw [e] at b0
    rw [b0]
    omega
end Go.Proofs.YtogjljpncdmlkaaDoor.W
end
section
namespace Go.Proofs.YtogjljpncdmlkaaDoor.W
open Go.RowKit Go.Proofs.YtogjljpncdmlkaaDoorW.PrintWords Go.Proofs.YtogjljpncdmlkaaDoorW.PrintLast
set_option linter.unusedVariables false
set_option linter.unusedSimpArgs false
theorem written (xs : List NodeT) (hs : soundB xs = true) (hw : wt xs 0 xs.length ≤ 1500000) : ∃ b, writeS xs = (b, 0, 0) ∧ 0 < b.size ∧ b.size ≤ 1500000 ∧ treeS b = (xs, 0, 0) ∧ (∀ x : ByteArray, 0 < x.size → (treeS (b ++ x)).2.1 = 27) ∧ (treeS (b.extract 0 (b.size - 1))).2.1 = 20 := by
  obtain ⟨hS, h0⟩ := sound_snd hs
  obtain ⟨b, h1, h2⟩ := write_sound xs hs q2_
  have hsz := write_size xs hs b h1
  have hl : ((encT (treeOf short xs)).length : Int) = b.size := by rw [← h2, bytesOf_length]
  have hok := (mk_ok short xs hS short_ok (2 * xs.length + 2)).1 0 h0 q2_ (by
    have : (encT (mkT short xs (2 * xs.length + 2) 0).1).length = b.size := by
      have := hl
      unfold treeOf at this
      omega
    omega)
  have hf := hS.first h0
  rw [hf] at hok
  have ht := tree_enc (s := b) (t := treeOf short xs) hok.1 (by have := hok.2; unfold treeOf; omega) (has_of h2) hl.symm
  rw [tree_flat short xs hS h0] at ht
  have hb0 : 0 < b.size := by
    have := enc_two (treeOf short xs)
    omega
  refine ⟨b, h1, hb0, q2_, ht, fun x hx => ?_, ?_⟩
  · have hby : bytesOf (b ++ x) = encT (treeOf short xs) ++ bytesOf x := by rw [bytesOf_append, h2]
    have hsx : (b ++ x).size = b.size + x.size := ByteArray.size_append
    rw [tree_trail (t := treeOf short xs) hok.1 (by have := hok.2; unfold treeOf; omega) (has_of hby).left q2_]
  · rw [tree_front (t := treeOf short xs) hok.1 (has_of h2) hl.symm (b.size - 1) q2_]
def chainB : Option (Int × Bool) → List NodeT → Bool
  | _, [] => true
  | b, n :: r => follB b n && decide (n.1 ≤ 64) && chainB (some (n.1, n.2.2.1)) r
theorem chain_at (xs : List NodeT) (h : chainB none xs = true) : ∀ i, i ≤ xs.length → chainB (prevOf xs i) (xs.drop i) = true := by
  intro i
  induction i with
  | zero => intro _; exact h
  | succ i ih =>
    intro hi
    have := ih q2_
    rw [List.drop_eq_getElem_cons q2_, chainB, Bool.and_eq_true] at this
    have e : prevOf xs (i + 1) = some (xs[i].1, xs[i].2.2.1) := by
      unfold prevOf nd
      rw [if_neg q2_, show i + 1 - 1 = i by omega, List.getD_eq_getElem?_getD, List.getElem?_eq_getElem q2_]
      rfl
    rw [e]
    exact this.2
theorem chain_sound (xs : List NodeT) (h0 : 0 < xs.length) (h : chainB none xs = true) : soundB xs = true := by
  have hN : ∀ (n i : Nat), i + n = xs.length → soundN xs n i = true := by
    intro n
    induction n with
    | zero => intro i _; rfl
    | succ n ih =>
      intro i hi
      have h1 := chain_at xs h i q2_
      rw [List.drop_eq_getElem_cons q2_, chainB, Bool.and_eq_true] at h1
      have e : nd xs i = xs[i] := by
        unfold nd
        rw [List.getD_eq_getElem?_getD, List.getElem?_eq_getElem q2_]
        rfl
      rw [soundN, goodAt, e, h1.1, Bool.true_and]
      exact ih (i + 1) q2_
  unfold soundB
  rw [hN xs.length 0 q2_, decide_eq_true h0]
  rfl
def rootN : NodeT := (1, 0, true, 16, ⟨#[]⟩)
def nodesN (k : KeyT) : List NodeT := [(2, 0, true, 16, ⟨#[]⟩), (3, 0, false, 4, k.1)] ++ (if k.2.1.toList = ([] : List UInt8) then [] else [(3, 2, false, 0, k.2.1)]) ++ (if k.2.2 = true then [(3, 2, false, 1, ⟨#[255]⟩)] else [])
def flatK (l : List KeyT) : List NodeT := l.flatMap nodesN
theorem flatK_cons (k : KeyT) (l : List KeyT) : flatK (k :: l) = nodesN k ++ flatK l := rfl
theorem chain_app (b : Option (Int × Bool)) (n : NodeT) (r : List NodeT) : chainB b (n :: r) = (follB b n && decide (n.1 ≤ 64) && chainB (some (n.1, n.2.2.1)) r) := rfl
theorem foll2 (d : Int) (m : Bool) (h : (d = 1 ∧ m = true) ∨ (d = 3 ∧ m = false)) : follB (some (d, m)) (2, 0, true, 16, ⟨#[]⟩) = true := by
  rcases h with ⟨rfl, rfl⟩ | ⟨rfl, rfl⟩ <;> decide
theorem foll3 (d : Int) (m : Bool) (h : (d = 2 ∧ m = true) ∨ (d = 3 ∧ m = false)) (c t : Int) (ht : (c = 0 ∧ t = 4) ∨ (c = 2 ∧ t = 0) ∨ (c = 2 ∧ t = 1)) (x : ByteArray) : follB (some (d, m)) (3, c, false, t, x) = true := by
  rw [foll_some]
  rcases h with ⟨rfl, rfl⟩ | ⟨rfl, rfl⟩ <;> rcases ht with ⟨rfl, rfl⟩ | ⟨rfl, rfl⟩ | ⟨rfl, rfl⟩ <;> simp [namedB]
theorem chain_keys : ∀ (l : List KeyT) (d : Int) (m : Bool), (d = 1 ∧ m = true) ∨ (d = 3 ∧ m = false) → chainB (some (d, m)) (flatK l) = true := by
  intro l
  induction l with
  | nil => intro d m _; rfl
  | cons k l ih =>
    intro d m h
    rw [flatK_cons]
    unfold nodesN
    simp only [List.cons_append, List.nil_append, List.append_assoc]
    rw [chain_app, foll2 d m h, chain_app, foll3 2 true (.inl ⟨rfl, rfl⟩) 0 4 (.inl ⟨rfl, rfl⟩)]
    have hk := ih 3 false (.inr ⟨rfl, rfl⟩)
    have q := foll3 3 false (.inr ⟨rfl, rfl⟩)
    by_cases r0 : k.2.1.toList = ([] : List UInt8)
    · rw [if_pos r0]
      by_cases r1 : k.2.2 = true
      · rw [if_pos r1]
        simp only [List.cons_append, List.nil_append]
        rw [chain_app, q 2 1 (.inr (.inr ⟨rfl, rfl⟩)), hk]
        rfl
      · rw [if_neg r1]
        simp only [List.nil_append]
        rw [hk]; rfl
    · rw [if_neg r0]
      simp only [List.cons_append, List.nil_append]
      rw [chain_app, q 2 0 (.inr (.inl ⟨rfl, rfl⟩))]
      by_cases r1 : k.2.2 = true
      · rw [if_pos r1]
        simp only [List.cons_append, List.nil_append]
        rw [chain_app, q 2 1 (.inr (.inr ⟨rfl, rfl⟩)), hk]
        rfl
      · rw [if_neg r1]
        simp only [List.nil_append]
        rw [hk]; rfl
theorem keys_sound (l : List KeyT) : soundB (rootN :: flatK l) = true := by
  refine chain_sound _ (Nat.succ_pos _) ?_
  rw [chain_app]
  show (follB none rootN && decide ((1 : Int) ≤ 64) && chainB (some (1, true)) (flatK l)) = true
  rw [chain_keys l 1 true (.inl ⟨rfl, rfl⟩)]
  decide
theorem emptyB {s : ByteArray} (h : s.toList = ([] : List UInt8)) : s = ⟨#[]⟩ := size_zero ((toList_emp s).2.1 h)
theorem nx_hit (d c : Int) (m : Bool) (t : Int) (b : ByteArray) (r : List NodeT) : nx d c m t ((d, c, m, t, b) :: r) = some (b, r) := by
  unfold nx nxB
  simp
theorem nx_flat (c : Int) (m : Bool) (t : Int) (l : List KeyT) : nx 3 c m t (flatK l) = none := by
  cases l with
  | nil => rfl
  | cons k l => rfl
theorem key_read (k : KeyT) (l : List KeyT) (h1 : Tx.U k.1 = true) (h2 : Tx.U k.2.1 = true) : keyS (nodesN k ++ flatK l) false = (k, flatK l, false) := by
  obtain ⟨d, r, v⟩ := k
  simp only at h1 h2
  have hU0 : Tx.U (⟨#[]⟩ : ByteArray) = true := by kernel_rfl
  have hb : boolV (⟨#[255]⟩ : ByteArray) = (true, 0) := by kernel_rfl
  have hrev : ∀ y : List NodeT, y = (if v = true then [((3 : Int), (2 : Int), false, (1 : Int), (⟨#[255]⟩ : ByteArray))] else []) ++ flatK l → nextS 3 2 false 0 y = (⟨#[]⟩, false, y) ∧ nextS 3 2 false 1 y = if v = true then (⟨#[255]⟩, true, flatK l) else (⟨#[]⟩, false, y) := by
    rintro y rfl
    cases v with
    | true =>
      refine ⟨rfl, ?_⟩
      simp only [if_true, List.cons_append, List.nil_append]
      unfold nextS
      rw [nx_hit]
    | false =>
      simp only [Bool.false_eq_true, if_false, List.nil_append]
      unfold nextS
      rw [nx_flat, nx_flat]
      exact ⟨rfl, rfl⟩
  have e1 : ∀ y : List NodeT, (mustS 2 0 true 16 ((2, 0, true, 16, ⟨#[]⟩) :: y) false).2 = (y, false) := fun y => by unfold mustS; rw [nx_hit]
  have e2 : ∀ y : List NodeT, mustS 3 0 false 4 ((3, 0, false, 4, d) :: y) false = (d, y, false) := fun y => by unfold mustS; rw [nx_hit]
  obtain ⟨y, hy⟩ : ∃ y, y = (if v = true then [((3 : Int), (2 : Int), false, (1 : Int), (⟨#[255]⟩ : ByteArray))] else []) ++ flatK l := ⟨_, rfl⟩
  obtain ⟨n0, n1⟩ := hrev y hy
  unfold nodesN
  simp only [List.cons_append, List.nil_append, List.append_assoc]
  rw [← hy]
  have hfin : ∀ rr : ByteArray, Tx.U rr = true → ((d, rr, if (nextS 3 2 false 1 y).2.1 = true then (boolV (nextS 3 2 false 1 y).1).1 else false), (nextS 3 2 false 1 y).2.2, ((false) || ((nextS 3 2 false 1 y).2.1 && (boolV (nextS 3 2 false 1 y).1).2 != 0)) || !(Tx.U d) || !(Tx.U rr)) = ((d, rr, v), flatK l, false) := by
    intro rr hr
    rw [n1, h1, hr]
    cases v with
    | true => simp [hb]
    | false =>
      simp only [Bool.false_eq_true, if_false, List.nil_append] at hy
      simp [hy]
  by_cases r0 : r.toList = ([] : List UInt8)
  · obtain rfl := emptyB r0
    rw [if_pos r0]
    unfold keyS
    simp only [e1, List.nil_append, e2, n0, Bool.false_and, Bool.or_false]
    have := hfin ⟨#[]⟩ hU0
    simp only [Bool.false_or] at this ⊢
    exact this
  · rw [if_neg r0]
    have e3 : nextS 3 2 false 0 ((3, 2, false, 0, r) :: y) = (r, true, y) := by unfold nextS; rw [nx_hit]
    have e4 : r.toList.isEmpty = false := by rw [Bool.eq_false_iff]; exact fun h => r0 (List.isEmpty_iff.1 h)
    unfold keyS
    simp only [e1, List.cons_append, List.nil_append, e2, e3, e4, Bool.and_false, Bool.or_false]
    have := hfin r h2
    simp only [Bool.false_or] at this ⊢
    exact this
theorem keys_read : ∀ (l : List KeyT), (∀ k ∈ l, Tx.U k.1 = true ∧ Tx.U k.2.1 = true) → ∀ n acc, l.length ≤ n → keysF n (flatK l) false acc = (acc ++ l, false) := by
  intro l
  induction l with
  | nil =>
    intro _ n acc _
    cases n with
    | zero => simp [keysF]
    | succ n => rw [keysF, if_neg (by simp [flatK])]; simp
  | cons k l ih =>
    intro hu n acc hn
    obtain ⟨n, rfl⟩ : ∃ q, n = q + 1 := ⟨n - 1, by simp only [List.length_cons] at hn; omega⟩
    have hk := key_read k l (hu k List.mem_cons_self).1 (hu k List.mem_cons_self).2
    rw [flatK_cons, keysF, if_pos ⟨rfl, by unfold nodesN; simp⟩, hk]
    simp only
    rw [ih (fun x hx => hu x (List.mem_cons_of_mem _ hx)) n _ (by simp only [List.length_cons] at hn; omega)]
    simp
theorem flat_len (l : List KeyT) : 2 * l.length ≤ (flatK l).length := by
  induction l with
  | nil => exact Nat.le_refl _
  | cons k l ih => rw [flatK_cons, List.length_append]; unfold nodesN; simp only [List.length_cons, List.length_append]; omega
theorem dec_of_err (s : ByteArray) (h : (treeS s).2.1 ≠ 0) : decKeys s = ([], 224) := by
  have hb : ((treeS s).2.1 != 0) = true := bne_iff_ne.2 h
  have ho : (openV s).2 = true := by
    unfold openV mustS
    rw [hb]
    split <;> rfl
  unfold decKeys
  simp only
  rw [ho]
  have : (keysF ((openV s).1.length + 1) (openV s).1 true []).2 = true := by rw [keysF, if_neg q21_]
  rw [this]
  rfl
theorem keys_round (l : List KeyT) (hu : ∀ k ∈ l, Tx.U k.1 = true ∧ Tx.U k.2.1 = true) (hw : wt (rootN :: flatK l) 0 (rootN :: flatK l).length ≤ 1500000) :
    ∃ b, writeS (rootN :: flatK l) = (b, 0, 0) ∧ 0 < b.size ∧ b.size ≤ 1500000 ∧ decKeys b = (l, 0) ∧ (∀ x : ByteArray, 0 < x.size → decKeys (b ++ x) = ([], 224)) ∧ decKeys (b.extract 0 (b.size - 1)) = ([], 224) := by
  obtain ⟨b, h1, h2, h3, h4, h5, h6⟩ := written _ (keys_sound l) hw
  refine ⟨b, h1, h2, h3, ?_, fun x hx => dec_of_err _ (by rw [h5 x hx]; decide), dec_of_err _ (by rw [h6]; decide)⟩
  have ho : openV b = (flatK l, false) := by
    unfold openV mustS
    rw [h4]
    rfl
  unfold decKeys
  simp only
  rw [ho]
  simp only
  rw [keys_read l hu _ [] (by have := flat_len l; omega)]
  rfl
def pageN (n : Int) (c : ByteArray) : List NodeT := [rootN, (2, 0, false, 2, putS n), (2, 0, false, 4, c)]
theorem decP_of_err (s : ByteArray) (h : (treeS s).2.1 ≠ 0) : decPage s = (0, ⟨#[]⟩, 224) := by
  have hb : ((treeS s).2.1 != 0) = true := bne_iff_ne.2 h
  have hst : ∀ d c m t xs, (mustS d c m t xs true).2.2 = true := fun d c m t xs => by unfold mustS; split <;> rfl
  have ho : (openV s).2 = true := by unfold openV; rw [hb]; exact hst _ _ _ _ _
  unfold decPage
  simp only
  rw [ho]
  have e1 := hst 2 0 false 2 (openV s).1
  rw [e1]
  have e2 := hst 2 0 false 4 (mustS 2 0 false 2 (openV s).1 true).2.1
  rw [e2]
  rfl
theorem page_round (n : Int) (h0 : 0 ≤ n) (h1 : n ≤ 2147483647) (c : ByteArray) (hc : c.size ≤ 1400000) :
    ∃ b, writeS (pageN n c) = (b, 0, 0) ∧ 0 < b.size ∧ b.size ≤ 1500000 ∧ decPage b = (n, c, 0) ∧ (∀ x : ByteArray, 0 < x.size → decPage (b ++ x) = (0, ⟨#[]⟩, 224)) ∧ decPage (b.extract 0 (b.size - 1)) = (0, ⟨#[]⟩, 224) := by
  obtain ⟨i1, i2, i3, _⟩ := int_put n q2_ q2_
  have hs : soundB (pageN n c) = true := by
    refine chain_sound _ (by show 0 < 3; omega) ?_
    unfold pageN
    rw [chain_app, chain_app, chain_app]
    have q : ∀ (d : Int) (m : Bool) (t : Int) (x : ByteArray), ((d = 1 ∧ m = true) ∨ (d = 2 ∧ m = false)) → (t = 2 ∨ t = 4) → follB (some (d, m)) (2, 0, false, t, x) = true := by
      intro d m t x h ht
      rw [foll_some]
      rcases h with ⟨rfl, rfl⟩ | ⟨rfl, rfl⟩ <;> rcases ht with rfl | rfl <;> simp [namedB]
    show (follB none rootN && decide ((1 : Int) ≤ 64) && (follB (some ((1 : Int), true)) (2, 0, false, 2, putS n) && decide ((2 : Int) ≤ 64) && (follB (some ((2 : Int), false)) (2, 0, false, 4, c) && decide ((2 : Int) ≤ 64) && true))) = true
    rw [q 1 true 2 _ (.inl ⟨rfl, rfl⟩) (.inl rfl), q 2 false 4 _ (.inr ⟨rfl, rfl⟩) (.inr rfl)]
    decide
  have hw : wt (pageN n c) 0 (pageN n c).length ≤ 1500000 := by
    have : wt (pageN n c) 0 (pageN n c).length = 0 + 6 + ((putS n).size + 6 + (c.size + 6 + 0)) := rfl
    omega
  obtain ⟨b, g1, g2, g3, g4, g5, g6⟩ := written _ hs hw
  refine ⟨b, g1, g2, g3, ?_, fun x hx => decP_of_err _ (by rw [g5 x hx]; decide), decP_of_err _ (by rw [g6]; decide)⟩
  have ho : openV b = ([(2, 0, false, 2, putS n), (2, 0, false, 4, c)], false) := by
    unfold openV mustS
    rw [g4]
    rfl
  have e1 : mustS 2 0 false 2 [(2, 0, false, 2, putS n), (2, 0, false, 4, c)] false = (putS n, [(2, 0, false, 4, c)], false) := by unfold mustS; rw [nx_hit]
  have e2 : mustS 2 0 false 4 [(2, 0, false, 4, c)] false = (c, [], false) := by unfold mustS; rw [nx_hit]
  unfold decPage
  simp only [ho, e1, e2, i1]
  rw [if_neg]
  unfold pageBad
  rw [decide_eq_false (show ¬ n < 0 by omega), decide_eq_false (show ¬ 2147483647 < n by omega)]
  decide
end Go.Proofs.YtogjljpncdmlkaaDoor.W
end
section
namespace Go.Proofs.YtogjljpncdmlkaaDoor.Po
open Go.RowKit Go.Proofs.YtogjljpncdmlkaaDoor.GO Go.Proofs.YtogjljpncdmlkaaDoor.W Go.Proofs.YtogjljpncdmlkaaDoorW.PrintWords Go.Proofs.YtogjljpncdmlkaaDoorW.PrintLast
set_option linter.unusedVariables false
set_option linter.unusedSimpArgs false
abbrev K := S25
abbrev N := S43
theorem wr (i : Nat) (h : i ≤ 4294967296) : wrap64 ((i : Int) + 1) = ((i + 1 : Nat) : Int) := by unfold wrap64; omega
theorem bsB {β : Type} (b : Bool) (f : Bool → Option β) : (some b).bind f = f b := rfl
theorem utf_f (s : ByteArray) (hs : s.size ≤ 140737488355328) : view_utf8.f s = some (Tx.U s) := by
  unfold view_utf8.f text_Check.f
  rw [if_pos hs]; rfl
def nodeK (x : K) : List N := [⟨2, 0, true, 16, ⟨#[]⟩⟩, ⟨3, 0, false, 4, x.f0⟩] ++ (if x.f1.toList = ([] : List UInt8) then [] else [⟨3, 2, false, 0, x.f1⟩]) ++ (if x.f2 = true then [⟨3, 2, false, 1, ⟨#[255]⟩⟩] else [])
def fin (acc : List N) : Option (ByteArray × Int) := (ber_Write.f acc).bind fun bt => if bt.2.1 = 0 then some (bt.1, 0) else some ((⟨#[]⟩ : ByteArray), 224)
def encR : List N → List K → Option (ByteArray × Int)
  | acc, [] => fin acc
  | acc, x :: r => if Tx.U x.f0 = true ∧ Tx.U x.f1 = true then encR (acc ++ nodeK x) r else some ((⟨#[]⟩ : ByteArray), 224)
def okK (l : List K) : Prop := ∀ x ∈ l, x.f0.size ≤ 2097152 ∧ x.f1.size ≤ 2097152
theorem rdK (l : List K) (i : Nat) (h : i < l.length) : rd_T25 l (i : Int) = l[i] := by
  unfold rd_T25
  rw [Int.toNat_natCast, List.getD_eq_getElem?_getD, List.getElem?_eq_getElem h]; rfl
theorem nodeK_len (x : K) : (nodeK x).length ≤ 4 := by
  unfold nodeK
  split <;> split <;> simp
theorem vEnc_l (l : List K) (ho : okK l) (hl : l.length ≤ 1048576) : ∀ (j i k : Nat) (acc : List N), i + j = l.length → acc.length ≤ 1 + 4 * i → view_EncodeKeys.l0 (k + 3 * j + 1) acc l (l.length : Int) (i : Int) = encR acc (l.drop i) := by
  intro j
  induction j with
  | zero =>
    intro i k acc hi ha
    rw [view_EncodeKeys.l0, if_neg q2_, List.drop_of_length_le q2_]
    rfl
  | succ j ih =>
    intro i k acc hi ha
    have hil : i < l.length := by omega
    have hx := ho l[i] (List.getElem_mem hil)
    have hd : l.drop i = l[i] :: l.drop (i + 1) := List.drop_eq_getElem_cons hil
    rw [show k + 3 * (j + 1) + 1 = (k + 3 * j + 1) + 1 + 1 + 1 by omega, view_EncodeKeys.l0, if_pos q2_, if_pos q2_, if_pos q2_, rdK l i hil, hd, encR]
    generalize l[i] = x at hx ⊢
    rw [utf_f _ q2_, bsB]
    by_cases u0 : Tx.U x.f0 = true
    · rw [if_pos u0, utf_f _ q2_, bsB, view_EncodeKeys.j1]
      by_cases u1 : Tx.U x.f1 = true
      · have e1 : (!Tx.U x.f1) = false := by rw [u1]; rfl
        rw [e1, if_neg Bool.false_ne_true, if_pos ⟨u0, u1⟩]
        unfold view_sequence.f view_octets.f view_context.f
        simp only [Option.bind_some]
        have hq : ∀ (m : Nat) (a : List N), m = k + 3 * j + 1 → a.length ≤ 1 + 4 * (i + 1) → view_EncodeKeys.l0 m a l (l.length : Int) (wrap64 ((i : Int) + 1)) = encR a (l.drop (i + 1)) := by
          rintro m a rfl h
          rw [wr i q2_]
          exact ih (i + 1) k a q2_ h
        rw [if_pos q22_]
        unfold nodeK
        by_cases r0 : x.f1.toList = ([] : List UInt8)
        · rw [if_pos r0, if_pos r0, view_EncodeKeys.j2]
          by_cases r1 : x.f2 = true
          · rw [if_pos r1, if_pos r1]
            unfold ber_PutBool.f
            simp only [if_true, Option.bind_some, view_context.f]
            rw [if_pos q22_, hq _ _ rfl q22_]
            simp
          · rw [if_neg r1, if_neg r1, hq _ _ rfl q22_]
            simp
        · rw [if_neg r0, if_neg r0, if_pos q22_, view_EncodeKeys.j2]
          by_cases r1 : x.f2 = true
          · rw [if_pos r1, if_pos r1]
            unfold ber_PutBool.f
            simp only [if_true, Option.bind_some, view_context.f]
            rw [if_pos q22_, hq _ _ rfl q22_]
            simp
          · rw [if_neg r1, if_neg r1, hq _ _ rfl q22_]
            simp
      · have e1 : (!Tx.U x.f1) = true := by rw [Bool.eq_false_iff.2 u1]; rfl
        rw [e1, if_pos rfl, if_neg (fun h => u1 h.2)]
    · rw [if_neg u0, view_EncodeKeys.j1, if_pos rfl, if_neg (fun h => u0 h.1)]
def root : N := ⟨1, 0, true, 16, ⟨#[]⟩⟩
theorem vEnc_f (l : List K) (ho : okK l) (hl : l.length ≤ 1048576) (k : Nat) (hk : 3 * l.length + 1 ≤ k) : view_EncodeKeys.f k l = encR [root] l := by
  obtain ⟨q, rfl⟩ : ∃ q, k = q + 3 * l.length + 1 := ⟨k - (3 * l.length + 1), q2_⟩
  exact vEnc_l l ho hl l.length 0 q [root] q2_ q21_
def Wt (acc : List N) : Nat := (acc.map fun n => n.f4.size + 6).sum
theorem Wt_app (a b : List N) : Wt (a ++ b) = Wt a + Wt b := by unfold Wt; rw [List.map_append, List.sum_append]
theorem wt_Wt (a : List N) : wt (a.map ber_Write.dn) 0 (a.map ber_Write.dn).length = Wt a := by
  unfold wt Wt
  rw [List.take_of_length_le (Nat.le_refl _), List.drop_zero, List.map_map]
  rfl
theorem write_some (a : List N) (h1 : a.length ≤ 100000000) (h2 : Wt a ≤ 134217728) : ber_Write.f a = some ((writeS (a.map ber_Write.dn)).1, (writeS (a.map ber_Write.dn)).2.1, (writeS (a.map ber_Write.dn)).2.2) := by
  unfold ber_Write.f
  rw [if_pos ⟨by rw [List.length_map]; exact h1, by rw [wt_Wt]; exact h2⟩]
theorem nodeK_wt (x : K) : Wt (nodeK x) ≤ x.f0.size + x.f1.size + 25 := by
  unfold nodeK
  rw [Wt_app, Wt_app]
  have a1 : Wt ([⟨2, 0, true, 16, ⟨#[]⟩⟩, ⟨3, 0, false, 4, x.f0⟩] : List N) = x.f0.size + 12 := by
    show (⟨#[]⟩ : ByteArray).size + 6 + (x.f0.size + 6 + 0) = _
    rw [show (⟨#[]⟩ : ByteArray).size = 0 from rfl]; omega
  have a2 : Wt (if x.f1.toList = ([] : List UInt8) then ([] : List N) else [⟨3, 2, false, 0, x.f1⟩]) ≤ x.f1.size + 6 := by
    split
    · exact Nat.zero_le _
    · show x.f1.size + 6 + 0 ≤ _; omega
  have a3 : Wt (if x.f2 = true then ([⟨3, 2, false, 1, ⟨#[255]⟩⟩] : List N) else []) ≤ 7 := by
    split
    · show (⟨#[255]⟩ : ByteArray).size + 6 + 0 ≤ _; rw [show (⟨#[255]⟩ : ByteArray).size = 1 from rfl]; omega
    · exact Nat.zero_le _
  omega
def kw (l : List K) : Nat := (l.map fun x => x.f0.size + x.f1.size + 25).sum
def toT (x : K) : KeyT := (x.f0, x.f1, x.f2)
theorem nodeK_dn (x : K) : (nodeK x).map ber_Write.dn = nodesN (toT x) := by
  unfold nodeK nodesN toT
  simp only [List.map_append]
  by_cases h : x.f1.toList = ([] : List UInt8)
  · rw [if_pos h, if_pos h]
    by_cases h2 : x.f2 = true
    · rw [if_pos h2, if_pos h2]; rfl
    · rw [if_neg h2, if_neg h2]; rfl
  · rw [if_neg h, if_neg h]
    by_cases h2 : x.f2 = true
    · rw [if_pos h2, if_pos h2]; rfl
    · rw [if_neg h2, if_neg h2]; rfl
def okU (l : List K) : Bool := l.all fun x => Tx.U x.f0 && Tx.U x.f1
theorem encR_good : ∀ (l : List K) (acc : List N), okU l = true → encR acc l = fin (acc ++ l.flatMap nodeK) := by
  intro l
  induction l with
  | nil => intro acc _; simp [encR]
  | cons x l ih =>
    intro acc h
    unfold okU at h
    rw [List.all_cons, Bool.and_eq_true, Bool.and_eq_true] at h
    rw [encR, if_pos h.1, ih _ h.2, List.flatMap_cons, List.append_assoc]
theorem encR_bad : ∀ (l : List K) (acc : List N), okU l = false → encR acc l = some ((⟨#[]⟩ : ByteArray), 224) := by
  intro l
  induction l with
  | nil => intro acc h; cases h
  | cons x l ih =>
    intro acc h
    unfold okU at h
    rw [List.all_cons] at h
    rw [encR]
    by_cases hx : Tx.U x.f0 = true ∧ Tx.U x.f1 = true
    · rw [if_pos hx]
      rw [hx.1, hx.2] at h
      exact ih _ (by unfold okU; simpa using h)
    · rw [if_neg hx]
theorem flat_dn (l : List K) : (l.flatMap nodeK).map ber_Write.dn = flatK (l.map toT) := by
  induction l with
  | nil => rfl
  | cons x l ih => rw [List.flatMap_cons, List.map_append, nodeK_dn, ih, List.map_cons, flatK_cons]
theorem Wt_flat (l : List K) : Wt (l.flatMap nodeK) ≤ kw l := by
  induction l with
  | nil => exact Nat.le_refl _
  | cons x l ih =>
    rw [List.flatMap_cons, Wt_app]
    have := nodeK_wt x
    have h : kw (x :: l) = x.f0.size + x.f1.size + 25 + kw l := rfl
    omega
theorem flat_le (l : List K) : (l.flatMap nodeK).length ≤ 4 * l.length := by
  induction l with
  | nil => exact Nat.le_refl _
  | cons x l ih =>
    rw [List.flatMap_cons, List.length_append, List.length_cons]
    have := nodeK_len x
    omega
theorem keys_law (l : List K) (ho : okK l) (hl : l.length ≤ 1000) (hk : kw l ≤ 1400000) (hu : okU l = true) (k : Nat) (hkk : 3 * l.length + 1 ≤ k) :
    ∃ b : ByteArray, view_EncodeKeys.f k l = some (b, 0) ∧ 0 < b.size ∧ b.size ≤ 1500000 ∧ view_DecodeKeys.f b = some (l, 0) ∧ (∀ x : ByteArray, 0 < x.size → x.size ≤ 10 → view_DecodeKeys.f (b ++ x) = some ([], 224)) ∧ view_DecodeKeys.f (b.extract 0 (b.size - 1)) = some ([], 224) := by
  have hw : Wt ([root] ++ l.flatMap nodeK) ≤ 1500000 := by
    have := Wt_flat l
    have h6 : Wt [root] = 6 := rfl
    rw [Wt_app]; omega
  have hm : (([root] ++ l.flatMap nodeK).map ber_Write.dn) = rootN :: flatK (l.map toT) := by
    rw [List.map_append, flat_dn]; rfl
  have hu2 : ∀ x ∈ l.map toT, Tx.U x.1 = true ∧ Tx.U x.2.1 = true := by
    intro x hx
    obtain ⟨y, hy, rfl⟩ := List.mem_map.1 hx
    unfold okU at hu
    rw [List.all_eq_true] at hu
    have := hu y hy
    rw [Bool.and_eq_true] at this
    exact this
  have hwt := wt_Wt ([root] ++ l.flatMap nodeK)
  rw [hm] at hwt
  obtain ⟨b, g1, g2, g3, g4, g5, g6⟩ := keys_round (l.map toT) hu2 q2_
  have hup : ((l.map toT).map view_DecodeKeys.up) = l := by
    rw [List.map_map]
    have : (view_DecodeKeys.up ∘ toT) = id := funext fun x => rfl
    rw [this, List.map_id]
  refine ⟨b, ?_, g2, g3, ?_, fun x hx hx2 => ?_, ?_⟩
  · rw [vEnc_f l ho q2_ k hkk, encR_good l _ hu, fin, write_some _ (by rw [List.length_append, List.length_singleton]; have := flat_le l; omega) q2_, hm, g1]
    rfl
  · unfold view_DecodeKeys.f
    rw [if_pos q2_, g4]
    show some ((l.map toT).map view_DecodeKeys.up, (0 : Int)) = _
    rw [hup]
  · unfold view_DecodeKeys.f
    rw [if_pos (by rw [ByteArray.size_append]; omega), g5 x hx]
    rfl
  · unfold view_DecodeKeys.f
    rw [if_pos (by rw [ByteArray.size_extract]; omega), g6]
    rfl
def pgN (n : Int) (c : ByteArray) : List N := [⟨1, 0, true, 16, ⟨#[]⟩⟩, ⟨2, 0, false, 2, putS n⟩, ⟨2, 0, false, 4, c⟩]
theorem page_law (n : Int) (h0 : 0 ≤ n) (h1 : n ≤ 2147483647) (c : ByteArray) (hc : c.size ≤ 1048576) (k : Nat) (hk : 2 ≤ k) :
    ∃ b : ByteArray, view_EncodePage.f k n c = some (b, 0) ∧ 0 < b.size ∧ b.size ≤ 1500000 ∧ view_DecodePage.f b = some (n, c, 0) ∧ (∀ x : ByteArray, 0 < x.size → x.size ≤ 10 → view_DecodePage.f (b ++ x) = some (0, ⟨#[]⟩, 224)) ∧ view_DecodePage.f (b.extract 0 (b.size - 1)) = some (0, ⟨#[]⟩, 224) := by
  obtain ⟨q, rfl⟩ : ∃ q, k = q + 1 := ⟨k - 1, q2_⟩
  obtain ⟨b, g1, g2, g3, g4, g5, g6⟩ := page_round n h0 h1 c q2_
  obtain ⟨_, _, i3, _⟩ := int_put n q2_ q2_
  have hm : (pgN n c).map ber_Write.dn = W.pageN n c := rfl
  have hw : Wt (pgN n c) = 0 + 6 + ((putS n).size + 6 + (c.size + 6 + 0)) := rfl
  refine ⟨b, ?_, g2, g3, ?_, fun x hx hx2 => ?_, ?_⟩
  · unfold view_EncodePage.f
    rw [if_neg q2_, view_EncodePage.j0, decide_eq_false q2_, if_neg q14_]
    unfold view_sequence.f view_octets.f ber_PutInt.f
    rw [if_pos q2_]
    simp only [Option.bind_some]
    change ((ber_Write.f (pgN n c)).bind fun bt => (if bt.2.1 = 0 then (some (bt.1, (0 : Int))) else (some ((⟨#[]⟩ : ByteArray), 224)))) = _
    rw [write_some _ (by show 3 ≤ _; omega) q2_, hm, g1]
    rfl
  · unfold view_DecodePage.f
    rw [if_pos q2_, g4]
  · unfold view_DecodePage.f
    rw [if_pos (by rw [ByteArray.size_append]; omega), g5 x hx]
  · unfold view_DecodePage.f
    rw [if_pos (by rw [ByteArray.size_extract]; omega), g6]
theorem page_bad (n : Int) (h : n < 0 ∨ 2147483647 < n) (c : ByteArray) (k : Nat) (hk : 2 ≤ k) : view_EncodePage.f k n c = some (⟨#[]⟩, 224) := by
  obtain ⟨q, rfl⟩ : ∃ q, k = q + 1 := ⟨k - 1, q2_⟩
  unfold view_EncodePage.f
  by_cases h0 : n < 0
  · rw [if_pos h0, view_EncodePage.j0, if_pos rfl]
  · rw [if_neg h0, view_EncodePage.j0, decide_eq_true q2_, if_pos rfl]
end Go.Proofs.YtogjljpncdmlkaaDoor.Po
end
