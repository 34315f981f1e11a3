/- Plain law: a flat list that is sound is a tree's; what Write lays down is that tree's bytes in the shortest form. -/
import Derived.Test.YtbloccjogadlmaaSo
namespace Go.Proofs.Ytbloccjogadlmaa.W
open Go.RowKit Go.Proofs.YtbloccjogadlmaaW.PrintWords
set_option linter.unusedVariables false
set_option linter.unusedSimpArgs false

mutual
/-- The tree at node i (phi tells each length's form), and the place behind it. -/
def mkT (phi : Nat → Int → Nat) (xs : List NodeT) : Nat → Nat → Tr × Nat
  | 0, i => (.leaf 0 0 ⟨#[]⟩ 0, i)
  | f + 1, i => if (nd xs i).2.2.1 = true then (.made (nd xs i).2.1 (nd xs i).2.2.2.1 (mkF phi xs f (i + 1) (nd xs i).1).1 (phi i (encF (mkF phi xs f (i + 1) (nd xs i).1).1).length), (mkF phi xs f (i + 1) (nd xs i).1).2)
    else (.leaf (nd xs i).2.1 (nd xs i).2.2.2.1 (nd xs i).2.2.2.2 (phi i (nd xs i).2.2.2.2.size), i + 1)
def mkF (phi : Nat → Int → Nat) (xs : List NodeT) : Nat → Nat → Int → Fs × Nat
  | 0, i, _ => (.nil, i)
  | f + 1, i, d => if i < xs.length ∧ d < (nd xs i).1 then (.cons (mkT phi xs f i).1 (mkF phi xs f (mkT phi xs f i).2 d).1, (mkF phi xs f (mkT phi xs f i).2 d).2) else (.nil, i)
end
/-- The nodes from i up to j. -/
def seg (xs : List NodeT) (i j : Nat) : List NodeT := (xs.take j).drop i
theorem seg_nil (xs : List NodeT) (i : Nat) : seg xs i i = [] := by unfold seg; simp
theorem seg_cons (xs : List NodeT) {i j : Nat} (hi : i < xs.length) (hj : i < j) : seg xs i j = nd xs i :: seg xs (i + 1) j := by
  unfold seg nd
  rw [List.drop_eq_getElem_cons (by simp; omega)]
  congr 1
  simp [hi]
theorem seg_append (xs : List NodeT) {i j k : Nat} (h1 : i ≤ j) (h2 : j ≤ k) : seg xs i k = seg xs i j ++ seg xs j k := by
  unfold seg
  have e : xs.take j = (xs.take k).take j := by rw [List.take_take, Nat.min_eq_left h2]
  have h3 : (xs.take k).drop j = ((xs.take k).drop i).drop (j - i) := by rw [List.drop_drop]; congr 1; omega
  rw [e, h3]
  have h4 : ((xs.take k).take j).drop i = ((xs.take k).drop i).take (j - i) := by rw [List.drop_take]
  rw [h4, List.take_append_drop]
theorem node_eq (n : NodeT) {m : Bool} {b : ByteArray} (h : n.2.2.1 = m) (hb : n.2.2.2.2 = b) : ((n.1, n.2.1, m, n.2.2.2.1, b) : NodeT) = n := by subst h hb; rfl
/-- What is known of a sound list, node by node. -/
structure Snd (xs : List NodeT) : Prop where
  name : ∀ i, i < xs.length → okN (nd xs i).2.1 (nd xs i).2.2.2.1
  body : ∀ i, i < xs.length → (nd xs i).2.2.1 = true → (nd xs i).2.2.2.2 = ⟨#[]⟩
  depth : ∀ i, i < xs.length → 1 ≤ (nd xs i).1 ∧ (nd xs i).1 ≤ 64
  first : 0 < xs.length → (nd xs 0).1 = 1
  next : ∀ i, i + 1 < xs.length → 2 ≤ (nd xs (i + 1)).1 ∧ (nd xs (i + 1)).1 ≤ if (nd xs i).2.2.1 = true then (nd xs i).1 + 1 else (nd xs i).1
theorem size_zero {b : ByteArray} (h : b.size = 0) : b = ⟨#[]⟩ := by
  apply ByteArray.ext
  exact Array.eq_empty_of_size_eq_zero h
theorem snd_of {xs : List NodeT} (h : ∀ i, i < xs.length → goodAt xs i = true) : Snd xs := by
  have key : ∀ i, i < xs.length → namedB (nd xs i).2.1 (nd xs i).2.2.2.1 = true ∧ ((nd xs i).2.2.1 = true → (nd xs i).2.2.2.2.size = 0) ∧ (nd xs i).1 ≤ 64 ∧ follB (prevOf xs i) (nd xs i) = true := by
    intro i hi
    have hg := h i hi
    unfold goodAt at hg
    rw [Bool.and_eq_true, decide_eq_true_eq] at hg
    have hf := foll_made hg.1
    exact ⟨hf.1, hf.2, hg.2, hg.1⟩
  have hp : ∀ i, 0 < i → prevOf xs i = some ((nd xs (i - 1)).1, (nd xs (i - 1)).2.2.1) := fun i hi => by unfold prevOf; rw [if_neg (by omega)]
  refine ⟨fun i hi => ?_, fun i hi hm => size_zero ((key i hi).2.1 hm), fun i hi => ⟨foll_depth (key i hi).2.2.2, (key i hi).2.2.1⟩, fun h0 => ?_, fun i hi => ?_⟩
  · have := (key i hi).1
    unfold namedB at this
    have := of_decide_eq_true this
    unfold okN
    omega
  · have hf := (key 0 h0).2.2.2
    have e : prevOf xs 0 = none := rfl
    rw [e, foll_none] at hf
    simp only [Bool.and_eq_true, decide_eq_true_eq] at hf
    exact hf.2
  · have hf := (key (i + 1) hi).2.2.2
    rw [hp (i + 1) (by omega), foll_some] at hf
    simp only [Bool.and_eq_true, decide_eq_true_eq, Nat.add_sub_cancel] at hf
    exact hf.2
theorem sound_snd {xs : List NodeT} (h : soundB xs = true) : Snd xs ∧ 0 < xs.length := by
  unfold soundB at h
  rw [Bool.and_eq_true, decide_eq_true_eq] at h
  exact ⟨snd_of (fun i hi => soundN_at xs _ 0 h.1 i (by omega) (by omega)), h.2⟩
/-- THE TREE OF A SOUND LIST: it covers its run, and is flat that run. -/
theorem mk_flat (phi : Nat → Int → Nat) (xs : List NodeT) (hs : Snd xs) : ∀ f : Nat,
    (∀ i, i < xs.length → 2 * (xs.length - i) + 1 ≤ f → i < (mkT phi xs f i).2 ∧ (mkT phi xs f i).2 ≤ xs.length ∧ flatT (nd xs i).1 (mkT phi xs f i).1 = seg xs i (mkT phi xs f i).2 ∧
      ((mkT phi xs f i).2 < xs.length → (nd xs (mkT phi xs f i).2).1 ≤ (nd xs i).1)) ∧
    (∀ i d, i ≤ xs.length → 2 * (xs.length - i) + 2 ≤ f → (i < xs.length → (nd xs i).1 ≤ d + 1) → i ≤ (mkF phi xs f i d).2 ∧ (mkF phi xs f i d).2 ≤ xs.length ∧ flatF (d + 1) (mkF phi xs f i d).1 = seg xs i (mkF phi xs f i d).2 ∧
      ((mkF phi xs f i d).2 < xs.length → (nd xs (mkF phi xs f i d).2).1 ≤ d))
  | 0 => ⟨fun i hi hf => by omega, fun i d hi hf h => by omega⟩
  | f + 1 => by
    obtain ⟨ih1, ih2⟩ := mk_flat phi xs hs f
    refine ⟨fun i hi hf => ?_, fun i d hi hf h => ?_⟩
    · rw [mkT]
      by_cases hm : (nd xs i).2.2.1 = true
      · rw [if_pos hm]
        have hk := ih2 (i + 1) (nd xs i).1 (by omega) (by omega) (fun h => by have := (hs.next i h).2; rw [if_pos hm] at this; exact this)
        simp only
        refine ⟨by omega, hk.2.1, ?_, hk.2.2.2⟩
        rw [flatT, hk.2.2.1, seg_cons xs hi (by omega)]
        congr 1
        exact node_eq _ hm (hs.body i hi hm)
      · rw [if_neg hm]
        simp only
        refine ⟨by omega, by omega, ?_, fun h => ?_⟩
        · rw [flatT, seg_cons xs hi (by omega), seg_nil]
          rw [Bool.not_eq_true] at hm
          rw [node_eq _ hm rfl]
        · have := (hs.next i h).2
          rw [if_neg hm] at this
          exact this
    · rw [mkF]
      by_cases hc : i < xs.length ∧ d < (nd xs i).1
      · rw [if_pos hc]
        have h1 := ih1 i hc.1 (by omega)
        have hd : (nd xs i).1 = d + 1 := by have := h hc.1; omega
        have h2 := ih2 (mkT phi xs f i).2 d h1.2.1 (by omega) (fun hlt => by have := h1.2.2.2 hlt; omega)
        simp only
        refine ⟨by omega, h2.2.1, ?_, h2.2.2.2⟩
        rw [flatF, h2.2.2.1, ← hd, h1.2.2.1, ← seg_append xs (by omega) h2.1]
      · rw [if_neg hc]
        simp only
        refine ⟨Nat.le_refl _, hi, ?_, fun h3 => ?_⟩
        · rw [flatF, seg_nil]
        · omega
/-- Its classes and tags may be written; its depths are those of the nodes. -/
theorem mk_ok (phi : Nat → Int → Nat) (xs : List NodeT) (hs : Snd xs) (hphi : ∀ i n, 0 ≤ n → n ≤ 4294967295 → okForm n (phi i n)) : ∀ f : Nat,
    (∀ i, i < xs.length → 2 * (xs.length - i) + 1 ≤ f → (encT (mkT phi xs f i).1).length ≤ 4294967295 → okT (mkT phi xs f i).1 ∧ (nd xs i).1 + deepT (mkT phi xs f i).1 ≤ 65) ∧
    (∀ i d, i ≤ xs.length → 2 * (xs.length - i) + 2 ≤ f → (i < xs.length → (nd xs i).1 ≤ d + 1) → d ≤ 64 → (encF (mkF phi xs f i d).1).length ≤ 4294967295 → okF (mkF phi xs f i d).1 ∧ d + deepF (mkF phi xs f i d).1 ≤ 64)
  | 0 => ⟨fun i hi hf => by omega, fun i d hi hf h => by omega⟩
  | f + 1 => by
    obtain ⟨ih1, ih2⟩ := mk_ok phi xs hs hphi f
    obtain ⟨fl1, fl2⟩ := mk_flat phi xs hs f
    refine ⟨fun i hi hf hb => ?_, fun i d hi hf h hd hb => ?_⟩
    · rw [mkT] at hb ⊢
      have hdp := hs.depth i hi
      by_cases hm : (nd xs i).2.2.1 = true
      · rw [if_pos hm] at hb ⊢
        simp only at hb ⊢
        rw [encT, List.length_append] at hb
        have hk := ih2 (i + 1) (nd xs i).1 (by omega) (by omega) (fun h => by have := (hs.next i h).2; rw [if_pos hm] at this; exact this) hdp.2 (by omega)
        refine ⟨⟨hs.name i hi, hphi _ _ (by omega) (by omega), hk.1⟩, ?_⟩
        rw [deepT]
        omega
      · rw [if_neg hm] at hb ⊢
        simp only at hb ⊢
        rw [encT, List.length_append, bytesOf_length] at hb
        refine ⟨⟨hs.name i hi, hphi _ _ (by omega) (by omega)⟩, ?_⟩
        rw [deepT]
        omega
    · rw [mkF] at hb ⊢
      by_cases hc : i < xs.length ∧ d < (nd xs i).1
      · rw [if_pos hc] at hb ⊢
        simp only at hb ⊢
        rw [encF, List.length_append] at hb
        have hdd : (nd xs i).1 = d + 1 := by have := h hc.1; omega
        have h1 := ih1 i hc.1 (by omega) (by omega)
        have f1 := fl1 i hc.1 (by omega)
        have h2 := ih2 (mkT phi xs f i).2 d f1.2.1 (by omega) (fun hlt => by have := f1.2.2.2 hlt; omega) hd (by omega)
        refine ⟨⟨h1.1, h2.1⟩, ?_⟩
        rw [deepF]
        split <;> omega
      · rw [if_neg hc]
        simp only
        refine ⟨trivial, ?_⟩
        rw [deepF]
        omega
/-- What Write lays down is the tree in the shortest form. -/
def short (_ : Nat) (n : Int) : Nat := wideK n
theorem wr_enc (xs : List NodeT) (hs : Snd xs) (hw : wt xs 0 xs.length ≤ 134217728) (hm : ∀ i, (nd xs i).2.2.1 = true → (nd xs i).2.2.2.2.size = 0) : ∀ f : Nat,
    (∀ i, i < xs.length → 2 * (xs.length - i) + 1 ≤ f → bytesOf (wrE xs f i).1 = encT (mkT short xs f i).1 ∧ (wrE xs f i).2 = (mkT short xs f i).2) ∧
    (∀ i d b, i ≤ xs.length → 2 * (xs.length - i) + 2 ≤ f → bytesOf (wrK xs f i d b).1 = bytesOf b ++ encF (mkF short xs f i d).1 ∧ (wrK xs f i d b).2 = (mkF short xs f i d).2)
  | 0 => ⟨fun i hi hf => by omega, fun i d b hi hf => by omega⟩
  | f + 1 => by
    obtain ⟨ih1, ih2⟩ := wr_enc xs hs hw hm f
    obtain ⟨sz1, sz2⟩ := wr_size xs hm f
    refine ⟨fun i hi hf => ?_, fun i d b hi hf => ?_⟩
    · rw [wrE, mkT]
      have hwi := nd_wt xs i
      by_cases hmd : (nd xs i).2.2.1 = true
      · rw [if_pos hmd, if_pos hmd]
        have hk := ih2 (i + 1) (nd xs i).1 ⟨#[]⟩ (by omega) (by omega)
        have hsz := sz2 (i + 1) (nd xs i).1 ⟨#[]⟩ (by omega)
        have hz : (⟨#[]⟩ : ByteArray).size = 0 := rfl
        rw [hz] at hsz
        have ha := wt_all xs (wrK xs f (i + 1) (nd xs i).1 ⟨#[]⟩).2
        have hsp := wt_split xs (i := 0) (j := i + 1) (k := (wrK xs f (i + 1) (nd xs i).1 ⟨#[]⟩).2) (by omega) hsz.1
        simp only
        have e1 : bytesOf (wrK xs f (i + 1) (nd xs i).1 ⟨#[]⟩).1 = encF (mkF short xs f (i + 1) (nd xs i).1).1 := hk.1
        have e2 : (((wrK xs f (i + 1) (nd xs i).1 ⟨#[]⟩).1.size : Nat) : Int) = ((encF (mkF short xs f (i + 1) (nd xs i).1).1).length : Int) := by rw [← e1, bytesOf_length]
        refine ⟨?_, hk.2⟩
        rw [lay_bytes (hs.name i hi) (by omega), encT, e1, e2]
        rfl
      · rw [if_neg hmd, if_neg hmd]
        simp only
        refine ⟨?_, trivial⟩
        rw [lay_bytes (hs.name i hi) (by omega), encT]
        rfl
    · rw [wrK, mkF]
      by_cases hc : i < xs.length ∧ d < (nd xs i).1
      · rw [if_pos hc, if_pos hc]
        have h1 := ih1 i hc.1 (by omega)
        have hsz := sz1 i hc.1
        have hgt : i < (wrE xs f i).2 := by
          obtain ⟨g, rfl⟩ : ∃ g, f = g + 1 := ⟨f - 1, by omega⟩
          exact wrE_gt xs g i
        have h2 := ih2 (wrE xs f i).2 d (b ++ (wrE xs f i).1) hsz.2.1 (by omega)
        simp only
        refine ⟨?_, by rw [h2.2, h1.2]⟩
        rw [h2.1, bytesOf_append, h1.1, encF, List.append_assoc, h1.2]
      · rw [if_neg hc, if_neg hc]
        simp only
        refine ⟨?_, trivial⟩
        rw [encF, List.append_nil]
/-- THE TREE OF A LIST. -/
def treeOf (phi : Nat → Int → Nat) (xs : List NodeT) : Tr := (mkT phi xs (2 * xs.length + 2) 0).1
theorem tree_flat (phi : Nat → Int → Nat) (xs : List NodeT) (hs : Snd xs) (h0 : 0 < xs.length) : flatT 1 (treeOf phi xs) = xs := by
  have h := (mk_flat phi xs hs (2 * xs.length + 2)).1 0 h0 (by omega)
  have hf := hs.first h0
  have hend : (mkT phi xs (2 * xs.length + 2) 0).2 = xs.length := by
    by_cases hlt : (mkT phi xs (2 * xs.length + 2) 0).2 < xs.length
    · have h1 := h.2.2.2 hlt
      obtain ⟨j, hj⟩ : ∃ j, (mkT phi xs (2 * xs.length + 2) 0).2 = j + 1 := ⟨(mkT phi xs (2 * xs.length + 2) 0).2 - 1, by omega⟩
      rw [hj] at h1 hlt
      have := (hs.next j hlt).1
      omega
    · omega
  have h2 := h.2.2.1
  rw [hf, hend] at h2
  unfold treeOf
  rw [h2]
  unfold seg
  simp
theorem short_ok (i : Nat) (n : Int) (h0 : 0 ≤ n) (h1 : n ≤ 4294967295) : okForm n (short i n) := wide_ok h0 h1
/-- WHAT Write ANSWERS OF A SOUND LIST, AND OF ANOTHER. -/
theorem write_sound (xs : List NodeT) (hs : soundB xs = true) (hw : wt xs 0 xs.length ≤ 134217728) : ∃ b, writeS xs = (b, 0, 0) ∧ bytesOf b = encT (treeOf short xs) := by
  obtain ⟨hS, h0⟩ := sound_snd hs
  have hm : ∀ i, (nd xs i).2.2.1 = true → (nd xs i).2.2.2.2.size = 0 := by
    intro i hi
    by_cases hl : i < xs.length
    · rw [hS.body i hl hi]; rfl
    · have : nd xs i = zN := nd_out xs i (by omega)
      rw [this] at hi
      cases hi
  have hb : badN xs (xs.length + 1) 0 = none := by
    unfold soundB at hs
    rw [Bool.and_eq_true] at hs
    exact (sound_bad xs xs.length 0 (by omega)).1 hs.1
  refine ⟨(wrE xs (2 * xs.length + 2) 0).1, ?_, ?_⟩
  · unfold writeS
    rw [if_neg (by omega), hb]
  · exact ((wr_enc xs hS hw hm (2 * xs.length + 2)).1 0 h0 (by omega)).1
theorem write_bad (xs : List NodeT) (hs : soundB xs = false) : ∃ c at_, writeS xs = (⟨#[]⟩, c, at_) ∧ c ≠ 0 := by
  unfold writeS
  by_cases h0 : xs.length = 0
  · rw [if_pos h0]; exact ⟨28, 0, rfl, by decide⟩
  rw [if_neg h0]
  cases hb : badN xs (xs.length + 1) 0 with
  | none =>
    have := (sound_bad xs xs.length 0 (by omega)).2 hb
    unfold soundB at hs
    rw [this, decide_eq_true (show 0 < xs.length by omega)] at hs
    cases hs
  | some x =>
    have hc : ∀ n i x, badN xs n i = some x → x.1 = 25 ∨ x.1 = 28 := by
      intro n
      induction n with
      | zero => intro i x h; cases h
      | succ n ih =>
        intro i x h
        rw [badN] at h
        repeat' split at h
        all_goals first | (exact ih _ _ h) | (injection h with h; subst h; simp) | (cases h; done)
    have := hc _ _ _ hb
    exact ⟨x.1, x.2, rfl, by omega⟩
/-- Its bytes are no more than the nodes weigh. -/
theorem write_size (xs : List NodeT) (hs : soundB xs = true) (b : ByteArray) (hb : writeS xs = (b, 0, 0)) : b.size ≤ wt xs 0 xs.length := by
  obtain ⟨hS, h0⟩ := sound_snd hs
  have hm : ∀ i, (nd xs i).2.2.1 = true → (nd xs i).2.2.2.2.size = 0 := by
    intro i hi
    by_cases hl : i < xs.length
    · rw [hS.body i hl hi]; rfl
    · have : nd xs i = zN := nd_out xs i (by omega)
      rw [this] at hi
      cases hi
  have hbd : badN xs (xs.length + 1) 0 = none := by
    unfold soundB at hs
    rw [Bool.and_eq_true] at hs
    exact (sound_bad xs xs.length 0 (by omega)).1 hs.1
  unfold writeS at hb
  rw [if_neg (by omega), hbd] at hb
  simp only [Prod.mk.injEq] at hb
  rw [← hb.1]
  have h := ((wr_size xs hm (2 * xs.length + 2)).1 0 h0)
  have := wt_all xs (wrE xs (2 * xs.length + 2) 0).2
  omega
/-- THE STAGE'S THEOREM: what is written is read back. -/
theorem write_tree (xs : List NodeT) (hs : soundB xs = true) (hw : wt xs 0 xs.length ≤ 134217728) (b : ByteArray) (hb : writeS xs = (b, 0, 0)) : treeS b = (xs, 0, 0) := by
  obtain ⟨hS, h0⟩ := sound_snd hs
  obtain ⟨b', h1, h2⟩ := write_sound xs hs hw
  rw [hb] at h1
  simp only [Prod.mk.injEq, and_true] at h1
  subst h1
  have hsz := write_size xs hs b hb
  have hl : ((encT (treeOf short xs)).length : Int) = b.size := by rw [← h2, bytesOf_length]
  have hok := (mk_ok short xs hS short_ok (2 * xs.length + 2)).1 0 h0 (by omega) (by
    have : (encT (mkT short xs (2 * xs.length + 2) 0).1).length = b.size := by
      have := hl
      unfold treeOf at this
      omega
    omega)
  have hf := hS.first h0
  rw [hf] at hok
  have := tree_enc (s := b) (t := treeOf short xs) hok.1 (by have := hok.2; unfold treeOf; omega) (has_of h2) hl.symm
  rw [this, tree_flat short xs hS h0]
end Go.Proofs.Ytbloccjogadlmaa.W
