/- Plain law: what Write lays down of a made node's content is, kid by kid, what it lays down of each kid's own run of nodes lifted by one; Split takes it apart so. -/
import Derived.Test.YtolhmomnidlmaaaFt
namespace Go.Proofs.Ytolhmomnidlmaaa.W
open Go.RowKit Go.Proofs.YtolhmomnidlmaaaW.PrintWords
set_option linter.unusedVariables false
set_option linter.unusedSimpArgs false

theorem ba_nil (b : ByteArray) : b ++ (⟨#[]⟩ : ByteArray) = b := by
  rw [← str_bytes (b ++ ⟨#[]⟩), bytesOf_append]
  have : bytesOf ⟨#[]⟩ = [] := rfl
  rw [this, List.append_nil, str_bytes]
theorem nil_ba (b : ByteArray) : (⟨#[]⟩ : ByteArray) ++ b = b := by
  rw [← str_bytes (⟨#[]⟩ ++ b), bytesOf_append]
  have : bytesOf ⟨#[]⟩ = [] := rfl
  rw [this, List.nil_append, str_bytes]
/-- More rounds change nothing. -/
theorem wr_more (xs : List NodeT) : ∀ f : Nat,
    (∀ i g, i < xs.length → 2 * (xs.length - i) + 1 ≤ f → f ≤ g → wrE xs g i = wrE xs f i) ∧
    (∀ i d b g, i ≤ xs.length → 2 * (xs.length - i) + 2 ≤ f → f ≤ g → wrK xs g i d b = wrK xs f i d b)
  | 0 => ⟨fun i g h1 h2 h3 => by omega, fun i d b g h1 h2 h3 => by omega⟩
  | f + 1 => by
    obtain ⟨ih1, ih2⟩ := wr_more xs f
    refine ⟨fun i g h1 h2 h3 => ?_, fun i d b g h1 h2 h3 => ?_⟩
    · obtain ⟨g, rfl⟩ : ∃ q, g = q + 1 := ⟨g - 1, by omega⟩
      rw [wrE, wrE]
      by_cases hm : (nd xs i).2.2.1 = true
      · rw [if_pos hm, if_pos hm, ih2 (i + 1) _ _ g (by omega) (by omega) (by omega)]
      · rw [if_neg hm, if_neg hm]
    · obtain ⟨g, rfl⟩ : ∃ q, g = q + 1 := ⟨g - 1, by omega⟩
      rw [wrK, wrK]
      by_cases hc : i < xs.length ∧ d < (nd xs i).1
      · rw [if_pos hc, if_pos hc]
        have e := ih1 i g hc.1 (by omega) (by omega)
        rw [e]
        have hgt : i < (wrE xs f i).2 := by
          obtain ⟨q, rfl⟩ : ∃ q, f = q + 1 := ⟨f - 1, by omega⟩
          exact wrE_gt xs q i
        by_cases hle : (wrE xs f i).2 ≤ xs.length
        · exact ih2 _ _ _ g hle (by omega) (by omega)
        · obtain ⟨q, rfl⟩ : ∃ q, f = q + 1 := ⟨f - 1, by omega⟩
          obtain ⟨g, rfl⟩ : ∃ q, g = q + 1 := ⟨g - 1, by omega⟩
          rw [wrK, wrK, if_neg (fun h => by omega), if_neg (fun h => by omega)]
      · rw [if_neg hc, if_neg hc]
/-- What was there stays ahead. -/
theorem wrK_pre (xs : List NodeT) : ∀ (f i : Nat) (d : Int) (b : ByteArray), wrK xs f i d b = (b ++ (wrK xs f i d ⟨#[]⟩).1, (wrK xs f i d ⟨#[]⟩).2) := by
  intro f
  induction f with
  | zero => intro i d b; rw [wrK, wrK, ba_nil]
  | succ f ih =>
    intro i d b
    rw [wrK, wrK]
    by_cases hc : i < xs.length ∧ d < (nd xs i).1
    · rw [if_pos hc, if_pos hc, ih, ih (wrE xs f i).2 d (⟨#[]⟩ ++ (wrE xs f i).1)]
      simp only [nil_ba, ByteArray.append_assoc]
    · rw [if_neg hc, if_neg hc, ba_nil]
/-- The places stay in the list. -/
theorem wrE_le (xs : List NodeT) : ∀ f : Nat, (∀ i, i < xs.length → (wrE xs f i).2 ≤ xs.length) ∧ (∀ i d b, i ≤ xs.length → (wrK xs f i d b).2 ≤ xs.length)
  | 0 => ⟨fun i h => by rw [wrE]; exact Nat.le_of_lt h, fun i d b h => by rw [wrK]; exact h⟩
  | f + 1 => by
    obtain ⟨ih1, ih2⟩ := wrE_le xs f
    refine ⟨fun i h => ?_, fun i d b h => ?_⟩
    · rw [wrE]
      split
      · exact ih2 _ _ _ h
      · exact h
    · rw [wrK]
      split
      · rename_i hc
        exact ih2 _ _ _ (ih1 i hc.1)
      · exact h
/-- A node one depth higher up. -/
def downN (x : NodeT) : NodeT := (x.1 - 1, x.2.1, x.2.2.1, x.2.2.2.1, x.2.2.2.2)
/-- The run of nodes from i up to j, lifted. -/
def part (xs : List NodeT) (i j : Nat) : List NodeT := (seg xs i j).map downN
theorem seg_len (xs : List NodeT) {i j : Nat} (h : i ≤ j) (hj : j ≤ xs.length) : (seg xs i j).length = j - i := by
  unfold seg
  rw [List.length_drop, List.length_take]
  omega
theorem part_len (xs : List NodeT) {i j : Nat} (h : i ≤ j) (hj : j ≤ xs.length) : (part xs i j).length = j - i := by
  unfold part
  rw [List.length_map, seg_len xs h hj]
theorem part_nd (xs : List NodeT) {i j q : Nat} (h : i + q < j) (hj : j ≤ xs.length) : nd (part xs i j) q = downN (nd xs (i + q)) := by
  unfold part seg nd
  have h1 : q < ((xs.take j).drop i).length := by rw [List.length_drop, List.length_take]; omega
  have h2 : i + q < xs.length := by omega
  rw [List.getD_eq_getElem?_getD, List.getD_eq_getElem?_getD, List.getElem?_map, List.getElem?_eq_getElem h1, List.getElem?_eq_getElem h2]
  simp
/-- The run from i up to j is a kid of the first node's: its own depth is 2, those behind it in the run stand deeper, the one behind the run does not. -/
structure Kid (xs : List NodeT) (i j : Nat) : Prop where
  lt : i < j
  le : j ≤ xs.length
  top : (nd xs i).1 = 2
  deep : ∀ q, i < q → q < j → 2 < (nd xs q).1
  last : j < xs.length → (nd xs j).1 ≤ 2
/-- Lifted, it is laid down as it stands. -/
theorem wr_part (xs : List NodeT) {i j : Nat} (hk : Kid xs i j) : ∀ f : Nat,
    (∀ q, i + q < j → (wrE (part xs i j) f q).1 = (wrE xs f (i + q)).1 ∧ i + (wrE (part xs i j) f q).2 = (wrE xs f (i + q)).2) ∧
    (∀ q d b, i + q ≤ j → 1 ≤ d → (wrK (part xs i j) f q d b).1 = (wrK xs f (i + q) (d + 1) b).1 ∧ i + (wrK (part xs i j) f q d b).2 = (wrK xs f (i + q) (d + 1) b).2)
  | 0 => ⟨fun q h => ⟨by rw [wrE, wrE], by rw [wrE, wrE]⟩, fun q d b h hd => ⟨by rw [wrK, wrK], by rw [wrK, wrK]⟩⟩
  | f + 1 => by
    obtain ⟨ih1, ih2⟩ := wr_part xs hk f
    have hlt := hk.lt
    have hle := hk.le
    have hlen := part_len xs (Nat.le_of_lt hk.lt) hk.le
    refine ⟨fun q h => ?_, fun q d b h hd => ?_⟩
    · rw [wrE, wrE, part_nd xs h hk.le]
      by_cases hm : (nd xs (i + q)).2.2.1 = true
      · have hd2 : 2 ≤ (nd xs (i + q)).1 := by
          by_cases hq : q = 0
          · subst hq; have := hk.top; simp only [Nat.add_zero]; omega
          · have := hk.deep (i + q) (by omega) h; omega
        have hi := ih2 (q + 1) ((nd xs (i + q)).1 - 1) ⟨#[]⟩ (by omega) (by omega)
        have e : (nd xs (i + q)).1 - 1 + 1 = (nd xs (i + q)).1 := by omega
        have e2 : i + (q + 1) = i + q + 1 := by omega
        rw [e, e2] at hi
        have hm2 : (downN (nd xs (i + q))).2.2.1 = true := hm
        rw [if_pos hm, if_pos hm2]
        have hd1 : (downN (nd xs (i + q))).1 = (nd xs (i + q)).1 - 1 := rfl
        rw [hd1]
        refine ⟨?_, hi.2⟩
        show layS _ true _ (wrK (part xs i j) f (q + 1) ((nd xs (i + q)).1 - 1) ⟨#[]⟩).1 = layS _ true _ _
        rw [hi.1]
        rfl
      · have hm2 : ¬ (downN (nd xs (i + q))).2.2.1 = true := hm
        rw [if_neg hm, if_neg hm2]
        exact ⟨rfl, by simp only; omega⟩
    · rw [wrK, wrK]
      have hiff : (q < (part xs i j).length ∧ d < (nd (part xs i j) q).1) ↔ (i + q < xs.length ∧ d + 1 < (nd xs (i + q)).1) := by
        rw [hlen]
        by_cases hq : i + q < j
        · rw [part_nd xs hq hk.le]
          have hd1 : (downN (nd xs (i + q))).1 = (nd xs (i + q)).1 - 1 := rfl
          rw [hd1]
          refine ⟨fun h => ⟨by omega, by omega⟩, fun h => ⟨by omega, by omega⟩⟩
        · have e : i + q = j := by omega
          refine ⟨fun h => by omega, fun h => ?_⟩
          rw [e] at h
          have := hk.last h.1
          omega
      by_cases hc : i + q < xs.length ∧ d + 1 < (nd xs (i + q)).1
      · rw [if_pos hc, if_pos (hiff.2 hc)]
        have hq : i + q < j := by have := (hiff.2 hc).1; omega
        have h1 := ih1 q hq
        rw [h1.1]
        by_cases hle2 : i + (wrE (part xs i j) f q).2 ≤ j
        · have h2 := ih2 (wrE (part xs i j) f q).2 d (b ++ (wrE xs f (i + q)).1) hle2 hd
          rw [h1.2] at h2
          exact h2
        · -- out of the run: both stop
          exfalso
          have hb : (wrE (part xs i j) f q).2 ≤ (part xs i j).length := (wrE_le (part xs i j) f).1 q (by omega)
          omega
      · rw [if_neg hc, if_neg (fun h => hc (hiff.1 h))]
        exact ⟨rfl, rfl⟩
/-- Where the run of the node at i ends. -/
theorem next_top (xs : List NodeT) : ∀ (n i : Nat), i < xs.length → xs.length = i + 1 + n → ∃ j, i < j ∧ j ≤ xs.length ∧ (∀ q, i < q → q < j → 2 < (nd xs q).1) ∧ (j < xs.length → (nd xs j).1 ≤ 2) := by
  intro n
  induction n with
  | zero => intro i hi h; exact ⟨i + 1, by omega, by omega, fun q h1 h2 => by omega, fun h => by omega⟩
  | succ n ih =>
    intro i hi h
    by_cases c : 2 < (nd xs (i + 1)).1
    · obtain ⟨j, h1, h2, h3, h4⟩ := ih (i + 1) (by omega) (by omega)
      refine ⟨j, by omega, h2, fun q q1 q2 => ?_, h4⟩
      by_cases e : q = i + 1
      · subst e; exact c
      · exact h3 q (by omega) q2
    · exact ⟨i + 1, by omega, by omega, fun q h1 h2 => by omega, fun h => by omega⟩
theorem kid_of (xs : List NodeT) {i : Nat} (hi : i < xs.length) (ht : (nd xs i).1 = 2) : ∃ j, Kid xs i j := by
  obtain ⟨j, h1, h2, h3, h4⟩ := next_top xs (xs.length - i - 1) i hi (by omega)
  exact ⟨j, h1, h2, ht, h3, h4⟩
theorem snd_part (xs : List NodeT) (hs : Snd xs) {i j : Nat} (hk : Kid xs i j) : Snd (part xs i j) := by
  have hlt := hk.lt
  have hle := hk.le
  have hlen := part_len xs (Nat.le_of_lt hk.lt) hk.le
  have hd2 : ∀ q, i + q < j → 2 ≤ (nd xs (i + q)).1 := by
    intro q h
    by_cases hq : q = 0
    · subst hq; have := hk.top; simp only [Nat.add_zero]; omega
    · have := hk.deep (i + q) (by omega) h; omega
  refine ⟨fun q hq => ?_, fun q hq hm => ?_, fun q hq => ?_, fun h => ?_, fun q hq => ?_⟩
  · rw [part_nd xs (by omega) hk.le]
    exact hs.name (i + q) (by omega)
  · rw [part_nd xs (by omega) hk.le] at hm ⊢
    exact hs.body (i + q) (by omega) hm
  · rw [part_nd xs (by omega) hk.le]
    have h1 := hd2 q (by omega)
    have h2 := hs.depth (i + q) (by omega)
    show 1 ≤ (nd xs (i + q)).1 - 1 ∧ (nd xs (i + q)).1 - 1 ≤ 64
    omega
  · rw [part_nd xs (by omega) hk.le]
    show (nd xs (i + 0)).1 - 1 = 1
    have := hk.top
    rw [Nat.add_zero]
    omega
  · rw [part_nd xs (by omega) hk.le, part_nd xs (by omega) hk.le]
    have h1 := hk.deep (i + (q + 1)) (by omega) (by omega)
    have h2 := (hs.next (i + q) (by omega)).2
    have e : i + (q + 1) = i + q + 1 := by omega
    rw [e] at h1 ⊢
    show 2 ≤ (nd xs (i + q + 1)).1 - 1 ∧ (nd xs (i + q + 1)).1 - 1 ≤ if (nd xs (i + q)).2.2.1 = true then (nd xs (i + q)).1 - 1 + 1 else (nd xs (i + q)).1 - 1
    split at h2 <;> rename_i hm
    · rw [if_pos hm]; omega
    · rw [if_neg hm]; omega
theorem soundN_all (xs : List NodeT) : ∀ (n i : Nat), (∀ j, i ≤ j → j < i + n → goodAt xs j = true) → soundN xs n i = true := by
  intro n
  induction n with
  | zero => intro i h; rfl
  | succ n ih =>
    intro i h
    rw [soundN, h i (Nat.le_refl _) (by omega), ih (i + 1) (fun j h1 h2 => h j (by omega) (by omega))]
    rfl
theorem sound_of {xs : List NodeT} (hs : Snd xs) (h0 : 0 < xs.length) : soundB xs = true := by
  unfold soundB
  rw [decide_eq_true h0, Bool.and_true]
  refine soundN_all xs _ _ (fun j _ hj => ?_)
  have hj' : j < xs.length := by omega
  have hn : namedB (nd xs j).2.1 (nd xs j).2.2.2.1 = true := by
    have := hs.name j hj'
    unfold okN at this
    unfold namedB
    rw [decide_eq_true]
    omega
  have hb : (!((nd xs j).2.2.1 && decide ((nd xs j).2.2.2.2.size ≠ 0))) = true := by
    cases hm : (nd xs j).2.2.1 with
    | false => rfl
    | true =>
      have := hs.body j hj' hm
      rw [this]
      rfl
  have hp : ∀ r : Bool, r = true → (follB (prevOf xs j) (nd xs j) = (namedB (nd xs j).2.1 (nd xs j).2.2.2.1 && !((nd xs j).2.2.1 && decide ((nd xs j).2.2.2.2.size ≠ 0)) && r)) → goodAt xs j = true := by
    intro r hr he
    unfold goodAt
    rw [he, hn, hb, hr, decide_eq_true (hs.depth j hj').2]
    rfl
  by_cases c : j = 0
  · subst c
    refine hp (decide ((nd xs 0).1 = 1)) (decide_eq_true (hs.first h0)) ?_
    unfold follB prevOf
    rw [if_pos rfl]
  · obtain ⟨i, rfl⟩ : ∃ i, j = i + 1 := ⟨j - 1, by omega⟩
    have hx := hs.next i hj'
    refine hp (decide (2 ≤ (nd xs (i + 1)).1) && decide ((nd xs (i + 1)).1 ≤ if (nd xs i).2.2.1 = true then (nd xs i).1 + 1 else (nd xs i).1)) ?_ ?_
    · rw [decide_eq_true hx.1, decide_eq_true hx.2]; rfl
    · unfold follB prevOf
      rw [if_neg (by omega), Nat.add_sub_cancel]
theorem write_eq {xs : List NodeT} (hs : soundB xs = true) : writeS xs = ((wrE xs (2 * xs.length + 2) 0).1, 0, 0) := by
  obtain ⟨hS, h0⟩ := sound_snd hs
  have hb : badN xs (xs.length + 1) 0 = none := by
    unfold soundB at hs
    rw [Bool.and_eq_true] at hs
    exact (sound_bad xs xs.length 0 (by omega)).1 hs.1
  unfold writeS
  rw [if_neg (by omega), hb]
/-- The first node's element takes the whole list. -/
theorem wrE_end {xs : List NodeT} (hs : Snd xs) (h0 : 0 < xs.length) (hw : wt xs 0 xs.length ≤ 134217728) {f : Nat} (hf : 2 * xs.length + 1 ≤ f) : (wrE xs f 0).2 = xs.length := by
  have hm : ∀ i, (nd xs i).2.2.1 = true → (nd xs i).2.2.2.2.size = 0 := by
    intro i hi
    by_cases hl : i < xs.length
    · rw [hs.body i hl hi]; rfl
    · have : nd xs i = zN := nd_out xs i (by omega)
      rw [this] at hi
      cases hi
  rw [((wr_enc xs hs hw hm f).1 0 h0 (by omega)).2]
  have h := (mk_flat short xs hs f).1 0 h0 (by omega)
  have hf := hs.first h0
  by_cases hlt : (mkT short xs f 0).2 < xs.length
  · have h1 := h.2.2.2 hlt
    obtain ⟨j, hj⟩ : ∃ j, (mkT short xs f 0).2 = j + 1 := ⟨(mkT short xs f 0).2 - 1, by omega⟩
    rw [hj] at h1 hlt
    have := (hs.next j hlt).1
    omega
  · omega
theorem wt_map_down (l : List NodeT) : (((l.map downN)).map fun x => x.2.2.2.2.size + 6) = (l.map fun x => x.2.2.2.2.size + 6) := by
  rw [List.map_map]
  rfl
theorem wt_part (xs : List NodeT) {i j : Nat} (h : i ≤ j) : wt (part xs i j) 0 (part xs i j).length = wt xs i j := by
  unfold wt
  rw [List.take_of_length_le (Nat.le_refl _), List.drop_zero]
  unfold part
  rw [wt_map_down]
  rfl
/-- WHAT WRITE LAYS DOWN OF A KID'S RUN, LIFTED: what stands in the whole. -/
theorem write_part {xs : List NodeT} (hs : Snd xs) {i j : Nat} (hk : Kid xs i j) (hw : wt xs 0 xs.length ≤ 134217728) {f : Nat} (hf : 2 * (xs.length - i) + 1 ≤ f) :
    wt (part xs i j) 0 (part xs i j).length ≤ 134217728 ∧ writeS (part xs i j) = ((wrE xs f i).1, 0, 0) ∧ (wrE xs f i).2 = j := by
  have hlt := hk.lt
  have hle := hk.le
  have hlen := part_len xs (Nat.le_of_lt hk.lt) hk.le
  have hsp := snd_part xs hs hk
  have h0 : 0 < (part xs i j).length := by omega
  have hwp : wt (part xs i j) 0 (part xs i j).length ≤ 134217728 := by
    rw [wt_part xs (Nat.le_of_lt hlt)]
    have h1 := wt_split xs (i := 0) (j := i) (k := j) (by omega) (by omega)
    have h2 := wt_all xs j
    omega
  have hp := (wr_part xs hk f).1 0 (by omega)
  rw [Nat.add_zero] at hp
  have hend := wrE_end hsp h0 hwp (f := f) (by omega)
  refine ⟨hwp, ?_, by rw [← hp.2, hend, hlen]; omega⟩
  rw [write_eq (sound_of hsp h0), ← hp.1]
  have e1 := (wr_more (part xs i j) (2 * (part xs i j).length + 1)).1 0 (2 * (part xs i j).length + 2) h0 (by omega) (by omega)
  have e2 := (wr_more (part xs i j) (2 * (part xs i j).length + 1)).1 0 f h0 (by omega) (by omega)
  rw [e1, e2]
/-- The content of the element at node i. -/
def bodyE (xs : List NodeT) (f i : Nat) : ByteArray := if (nd xs i).2.2.1 = true then (wrK xs f (i + 1) (nd xs i).1 ⟨#[]⟩).1 else (nd xs i).2.2.2.2
theorem wrE_lay (xs : List NodeT) (f i : Nat) : (wrE xs (f + 1) i).1 = layS (nd xs i).2.1 (nd xs i).2.2.1 (nd xs i).2.2.2.1 (bodyE xs f i) := by
  rw [wrE]
  unfold bodyE
  by_cases hm : (nd xs i).2.2.1 = true
  · rw [if_pos hm, if_pos hm, hm]
  · rw [if_neg hm, if_neg hm]
    rw [Bool.not_eq_true] at hm
    rw [hm]
/-- Split takes the next element off as it was laid down. -/
theorem split_lay {s pre body : ByteArray} {R : List Int} {cls tag : Int} {made : Bool} (hb : bytesOf s = bytesOf pre ++ (bytesOf (layS cls made tag body) ++ R)) (hn : okN cls tag) (hbz : body.size ≤ 4294967295) :
    splitAt_ s pre.size = ((cls, made, tag, body) :: (splitAt_ s ((pre ++ layS cls made tag body).size : Nat)).1, (splitAt_ s ((pre ++ layS cls made tag body).size : Nat)).2) := by
  have h := has_of hb
  have h1 := h.right.left
  rw [bytesOf_length, lay_bytes hn hbz] at h1
  have e0 : (0 : Int) + (pre.size : Int) = (pre.size : Int) := by omega
  rw [e0] at h1
  have hok : okForm (body.size : Int) (wideK body.size) := wide_ok (by omega) (by omega)
  have hz := hsz_range _ (okForm_le hok)
  have hr := h1.right
  rw [head_len] at hr
  have hlen : (s.size : Int) = pre.size + (hsz (wideK body.size) + body.size) + R.length := by
    have := congrArg List.length hb
    rw [bytesOf_length, List.length_append, List.length_append, bytesOf_length, lay_bytes hn hbz, List.length_append, bytesOf_length] at this
    have h2 := head_len cls made tag (body.size : Int) (wideK body.size)
    omega
  have hsl : ((layS cls made tag body).size : Int) = hsz (wideK body.size) + body.size := by
    have := congrArg List.length (lay_bytes (made := made) hn hbz)
    rw [bytesOf_length, List.length_append, bytesOf_length] at this
    have h2 := head_len cls made tag (body.size : Int) (wideK body.size)
    omega
  have hh := hdr_has (e := (s.size : Int)) (d := 1) h1.left hn.1 hn.2.1 hn.2.2.1 hn.2.2.2 (by omega) hok (by omega) (by omega)
  have hbd : bnd s pre.size s.size 1 = .ok ⟨cls, made, tag, body.size, hsz (wideK body.size)⟩ := by
    unfold bnd
    rw [hh]
    simp only
    rw [if_neg (by omega)]
  rw [splitAt_ok (by omega) (by omega) hbd]
  simp only
  have hx := has_extract hr
  have e1 : (pre.size : Int) + hsz (wideK body.size) + body.size = ((pre ++ layS cls made tag body).size : Nat) := by rw [ByteArray.size_append]; omega
  rw [hx, e1]
end Go.Proofs.Ytolhmomnidlmaaa.W
