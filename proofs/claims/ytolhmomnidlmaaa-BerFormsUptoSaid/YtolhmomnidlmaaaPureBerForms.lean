/- BerForms: whatever form each length of a tree's bytes has, Tree gives that tree; Write's bytes are never longer, and the same just if all lengths had their shortest form. (Lists of at most 1048576 nodes and bytes.) -/
import Derived.Test.YtolhmomnidlmaaaStBerForms
import Derived.Test.YtolhmomnidlmaaaSl
import Derived.Lib.Hide
namespace Go.Proofs.Ytolhmomnidlmaaa.Pure
open Go.RowKit Go.Proofs.Ytolhmomnidlmaaa.GF Go.Proofs.Ytolhmomnidlmaaa.W Go.Proofs.YtolhmomnidlmaaaW.PrintWords Go.Proofs.YtolhmomnidlmaaaW.PrintLast
set_option linter.unusedVariables false
set_option linter.unusedSimpArgs false

theorem phi_le (forms : List Int) (i : Nat) (n : Int) : phiF forms i n ≤ 4 := by
  unfold phiF
  split
  · omega
  · unfold wideK
    repeat' split
    all_goals omega
theorem wide_mono {a b : Int} (h : a ≤ b) : wideK a ≤ wideK b := by
  unfold wideK
  repeat' split
  all_goals omega
theorem hsz_mono {a b : Nat} (h : a ≤ b) : hsz a ≤ hsz b := by
  unfold hsz
  split <;> split <;> omega
theorem hsz_lt {a b : Nat} (h : a < b) : hsz a < hsz b := by
  unfold hsz
  split <;> split <;> omega
theorem phi_ge (forms : List Int) (i : Nat) (n : Int) : wideK n ≤ phiF forms i n := by
  unfold phiF
  split
  · omega
  · exact Nat.le_refl _
theorem phi_wider (forms : List Int) (i : Nat) (n : Int) : (wider forms i n = true → wideK n < phiF forms i n) ∧ (wider forms i n = false → phiF forms i n = wideK n) := by
  unfold wider phiF
  refine ⟨fun h => ?_, fun h => ?_⟩
  · have := of_decide_eq_true h
    rw [if_pos this]
    omega
  · rw [if_neg (of_decide_eq_false h)]
theorem short_le (i : Nat) (n : Int) : short i n ≤ 4 := by
  unfold short wideK
  repeat' split
  all_goals omega
theorem mk_idx (phi psi : Nat → Int → Nat) (xs : List NodeT) : ∀ f : Nat, (∀ i, (mkT phi xs f i).2 = (mkT psi xs f i).2) ∧ (∀ i d, (mkF phi xs f i d).2 = (mkF psi xs f i d).2)
  | 0 => ⟨fun i => by rw [mkT, mkT], fun i d => by rw [mkF, mkF]⟩
  | f + 1 => by
    obtain ⟨ih1, ih2⟩ := mk_idx phi psi xs f
    refine ⟨fun i => ?_, fun i d => ?_⟩
    · rw [mkT, mkT]
      split
      · exact ih2 _ _
      · rfl
    · rw [mkF, mkF]
      split
      · simp only
        rw [ih1 i, ih2]
      · rfl
theorem enc_ge (forms : List Int) (xs : List NodeT) : ∀ f : Nat, (∀ i, (encT (mkT short xs f i).1).length ≤ (encT (mkT (phiF forms) xs f i).1).length) ∧ (∀ i d, (encF (mkF short xs f i d).1).length ≤ (encF (mkF (phiF forms) xs f i d).1).length)
  | 0 => ⟨fun i => by rw [mkT, mkT]; exact Nat.le_refl _, fun i d => by rw [mkF, mkF]; exact Nat.le_refl _⟩
  | f + 1 => by
    obtain ⟨ih1, ih2⟩ := enc_ge forms xs f
    refine ⟨fun i => ?_, fun i d => ?_⟩
    · rw [mkT, mkT]
      by_cases hm : (nd xs i).2.2.1 = true
      · rw [if_pos hm, if_pos hm]
        simp only
        rw [encT, encT, List.length_append, List.length_append]
        have hk := ih2 (i + 1) (nd xs i).1
        obtain ⟨a, ha⟩ : ∃ a, a = (encF (mkF short xs f (i + 1) (nd xs i).1).1).length := ⟨_, rfl⟩
        obtain ⟨b, hb⟩ : ∃ b, b = (encF (mkF (phiF forms) xs f (i + 1) (nd xs i).1).1).length := ⟨_, rfl⟩
        rw [← ha, ← hb] at hk ⊢
        have h1 := head_len (nd xs i).2.1 true (nd xs i).2.2.2.1 (a : Int) (short i a)
        have h2 := head_len (nd xs i).2.1 true (nd xs i).2.2.2.1 (b : Int) (phiF forms i b)
        have h3 : hsz (short i a) ≤ hsz (phiF forms i b) := hsz_mono (Nat.le_trans (wide_mono (by omega)) (phi_ge forms i b))
        omega
      · rw [if_neg hm, if_neg hm]
        simp only
        rw [encT, encT, List.length_append, List.length_append]
        have h1 := head_len (nd xs i).2.1 false (nd xs i).2.2.2.1 ((nd xs i).2.2.2.2.size : Int) (short i (nd xs i).2.2.2.2.size)
        have h2 := head_len (nd xs i).2.1 false (nd xs i).2.2.2.1 ((nd xs i).2.2.2.2.size : Int) (phiF forms i (nd xs i).2.2.2.2.size)
        have h3 : hsz (short i (nd xs i).2.2.2.2.size) ≤ hsz (phiF forms i (nd xs i).2.2.2.2.size) := hsz_mono (phi_ge forms i _)
        omega
    · rw [mkF, mkF]
      by_cases hc : i < xs.length ∧ d < (nd xs i).1
      · rw [if_pos hc, if_pos hc]
        simp only
        rw [encF, encF, List.length_append, List.length_append, (mk_idx short (phiF forms) xs f).1 i]
        have h1 := ih1 i
        have h2 := ih2 (mkT (phiF forms) xs f i).2 d
        omega
      · rw [if_neg hc, if_neg hc]
        exact Nat.le_refl _
theorem len_ge (forms : List Int) (xs : List NodeT) (hs : Snd xs) (i : Nat) (hi : i < xs.length) : lenS xs i (sums short xs (xs.length - (i + 1))) ≤ lenS xs i (sums (phiF forms) xs (xs.length - (i + 1))) := by
  rw [len_eq short xs hs i hi, len_eq (phiF forms) xs hs i hi]
  split
  · have := (enc_ge forms xs (2 * xs.length)).2 (i + 1) (nd xs i).1
    omega
  · exact Int.le_refl _
theorem hed_sz (phi : Nat → Int → Nat) (xs : List NodeT) (i : Nat) : ((hedS phi xs i).size : Int) = hsz (phi i (lenS xs i (sums phi xs (xs.length - (i + 1))))) := by
  unfold hedS
  exact headS_size _ _ _ _ _
/-- Is node i's length one of the wider? -/
def wAt (forms : List Int) (xs : List NodeT) (i : Nat) : Bool := wider forms i (lenS xs i (sums (phiF forms) xs (xs.length - (i + 1))))
theorem cat_ge (forms : List Int) (xs : List NodeT) (hs : Snd xs) : ∀ j, j ≤ xs.length → (catS short xs j).size ≤ (catS (phiF forms) xs j).size ∧ ((∃ i, i < j ∧ wAt forms xs i = true) → (catS short xs j).size < (catS (phiF forms) xs j).size) := by
  intro j
  induction j with
  | zero => intro _; exact ⟨Nat.le_refl _, fun ⟨i, h, _⟩ => by omega⟩
  | succ j ih =>
    intro hj
    obtain ⟨i1, i2⟩ := ih (by omega)
    have h1 := hed_sz short xs j
    have h2 := hed_sz (phiF forms) xs j
    have hl := len_ge forms xs hs j (by omega)
    have h3 : hsz (short j (lenS xs j (sums short xs (xs.length - (j + 1))))) ≤ hsz (phiF forms j (lenS xs j (sums (phiF forms) xs (xs.length - (j + 1))))) := hsz_mono (Nat.le_trans (wide_mono hl) (phi_ge forms j _))
    rw [catS, catS, ByteArray.size_append, ByteArray.size_append, ByteArray.size_append, ByteArray.size_append]
    refine ⟨by omega, fun ⟨i, hi, hw⟩ => ?_⟩
    by_cases e : i = j
    · subst e
      have h4 : hsz (short i (lenS xs i (sums short xs (xs.length - (i + 1))))) < hsz (phiF forms i (lenS xs i (sums (phiF forms) xs (xs.length - (i + 1))))) := hsz_lt (Nat.lt_of_le_of_lt (wide_mono hl) ((phi_wider forms i _).1 hw))
      omega
    · have := i2 ⟨i, by omega, hw⟩
      omega
theorem shB_iff (forms : List Int) (xs : List NodeT) : ∀ m, m ≤ xs.length → (shB forms xs m = true → ∀ i, xs.length - m ≤ i → i < xs.length → wAt forms xs i = false) ∧ (shB forms xs m = false → ∃ i, i < xs.length ∧ wAt forms xs i = true) := by
  intro m
  induction m with
  | zero => intro _; exact ⟨fun _ i h1 h2 => by omega, fun h => by cases h⟩
  | succ m ih =>
    intro hm
    obtain ⟨i1, i2⟩ := ih (by omega)
    have e : xs.length - (xs.length - (m + 1) + 1) = m := by omega
    have hst : shB forms xs (m + 1) = (shB forms xs m && !(wAt forms xs (xs.length - (m + 1)))) := by
      unfold wAt
      rw [e]
      rfl
    rw [hst]
    refine ⟨fun h i h1 h2 => ?_, fun h => ?_⟩
    · rw [Bool.and_eq_true, Bool.not_eq_true'] at h
      by_cases c : i = xs.length - (m + 1)
      · rw [c]; exact h.2
      · exact i1 h.1 i (by omega) h2
    · rw [Bool.and_eq_false_iff, Bool.not_eq_false'] at h
      rcases h with h | h
      · exact i2 h
      · exact ⟨_, by omega, h⟩
theorem sums_same (forms : List Int) (xs : List NodeT) (h : ∀ i, i < xs.length → wAt forms xs i = false) : ∀ m, m ≤ xs.length → sums (phiF forms) xs m = sums short xs m := by
  intro m
  induction m with
  | zero => intro _; rfl
  | succ m ih =>
    intro hm
    have h1 := h (xs.length - (m + 1)) (by omega)
    have e : xs.length - (xs.length - (m + 1) + 1) = m := by omega
    unfold wAt at h1
    rw [e] at h1
    have h2 := (phi_wider forms _ _).2 h1
    show stepS (phiF forms) xs _ (sums (phiF forms) xs m) = stepS short xs _ (sums short xs m)
    rw [← ih (by omega)]
    funext d
    unfold stepS
    rw [h2]
    rfl
theorem cat_same (forms : List Int) (xs : List NodeT) (h : ∀ i, i < xs.length → wAt forms xs i = false) : ∀ j, j ≤ xs.length → catS (phiF forms) xs j = catS short xs j := by
  intro j
  induction j with
  | zero => intro _; rfl
  | succ j ih =>
    intro hj
    have h1 := h j (by omega)
    unfold wAt at h1
    have h2 := (phi_wider forms _ _).2 h1
    have e : hedS (phiF forms) xs j = hedS short xs j := by
      unfold hedS
      rw [h2, sums_same forms xs h _ (by omega)]
      rfl
    rw [catS, catS, ih (by omega), e]
def dnF (x : S49) : NodeT := (x.f0, x.f1, x.f2, x.f3, x.f4)
theorem wt_bulk (l : List S49) : wt (l.map dnF) 0 (l.map dnF).length = (l.map StBerForms.bulk49).sum := by
  unfold wt
  rw [List.take_of_length_le (Nat.le_refl _), List.drop_zero, List.map_map]
  congr 1
  apply List.map_congr_left
  intro x hx
  show x.f4.size + 6 = 6 + x.f4.size
  omega
theorem sameN_loop (l : List S49) (hl : l.length ≤ 1000000000) : ∀ (m i : Nat), i + m = l.length → Ev (fun k => rosterlaw02_sameNodes.l0 k l l (i : Int)) true := by
  intro m
  induction m with
  | zero =>
    intro i h
    have q1 : ¬ (i : Int) < (l.length : Int) := by omega
    exact Ev.step (f := fun _ => some true) (fun k => by rw [rosterlaw02_sameNodes.l0, if_neg q1]) (Ev.now _)
  | succ m ih =>
    intro i h
    refine Ev.step (fun k => ?_) (ih (i + 1) (by omega))
    have q1 : (i : Int) < (l.length : Int) := by omega
    have q2 : (0 : Int) ≤ (i : Int) := by omega
    have e : wrap64 ((i : Int) + 1) = ((i + 1 : Nat) : Int) := by unfold wrap64; omega
    rw [rosterlaw02_sameNodes.l0, if_pos q1, if_pos q2, if_pos q1, if_neg (by simp), e]
theorem sameN_f (l : List S49) (hl : l.length ≤ 1000000000) : Ev (fun k => rosterlaw02_sameNodes.f k l l) true := by
  refine Ev.congr (fun k => ?_) (sameN_loop l hl l.length 0 (by omega))
  unfold rosterlaw02_sameNodes.f
  rw [if_pos rfl]
  rfl
theorem toList_eq_iff (a b : ByteArray) (h : a.toList = b.toList) : a.size = b.size := by
  have := congrArg List.length h
  rw [ByteArray.toList_eq, ByteArray.toList_eq, Array.length_toList, Array.length_toList] at this
  exact this
theorem BerForms : StBerForms.Pure := by
  intro l forms hl hb hwf hfl hfw
  refine Ev.rounds (g := fun k => rosterlaw02_BerForms.f k l forms) ?_
  obtain ⟨xs, hxs⟩ : ∃ xs, xs = l.map dnF := ⟨_, rfl⟩
  have hlen : xs.length = l.length := by rw [hxs, List.length_map]
  have hwt : wt xs 0 xs.length ≤ 1048576 := by rw [hxs, wt_bulk]; exact hb
  have h1 : rosterlaw02_sound.f l = some (soundB xs) := by
    unfold rosterlaw02_sound.f
    have e : l.map rosterlaw02_sound.dn = xs := hxs.symm
    rw [e, if_pos (by omega)]
  have h2 : rosterlaw02_small.f l = some true := by
    unfold rosterlaw02_small.f
    have e : l.map rosterlaw02_small.dn = xs := hxs.symm
    rw [e, if_pos ⟨by omega, by omega⟩, decide_eq_true (by omega)]
  have hback : xs.map ber_Tree.up = l := by
    rw [hxs, List.map_map]
    exact List.map_id _
  cases hsd : soundB xs with
  | false =>
    refine Ev.congr (fun k => by rw [rosterlaw02_BerForms.f, h1, hsd, Option.bind_some, h2, Option.bind_some, if_neg Bool.false_ne_true]) (Ev.step (f := fun _ => some true) (fun k => by rw [rosterlaw02_BerForms.j0, if_pos rfl]) (Ev.now _))
  | true =>
    obtain ⟨hS, h0⟩ := sound_snd hsd
    obtain ⟨t1, t2, t3, t4, t5⟩ := spelt_tree forms xs hS h0 (by omega) (phi_le forms)
    obtain ⟨s, hw, hs3⟩ := write_sound xs hsd (by omega)
    have hsS : s = catS short xs xs.length := by
      have := cat_tree short xs hS h0 short_le short_ok (by omega)
      rw [← str_bytes s, hs3, ← this, str_bytes]
    have hge := cat_ge forms xs hS xs.length (Nat.le_refl _)
    have hiff := shB_iff forms xs xs.length (Nat.le_refl _)
    have hsame := cat_same forms xs
    obtain ⟨b, hbb⟩ : ∃ b, b = catS (phiF forms) xs xs.length := ⟨_, rfl⟩
    rw [← hsS, ← hbb] at hge
    rw [← hbb] at t3
    have hbl : (b.size : Int) = (encT (treeOf (phiF forms) xs)).length := by rw [← t3, bytesOf_length]
    have hsp : rosterlaw02_spelt.f l forms = some (b, shB forms xs xs.length) := by
      have e : l.map rosterlaw02_spelt.dn = xs := hxs.symm
      unfold rosterlaw02_spelt.f
      rw [e, if_pos ⟨hsd, by omega, by omega⟩, hbb]
    have hT : ber_Tree.f b = some (l, 0, 0) := by
      have := tree_enc t1 t2 (has_of t3) hbl
      rw [t4] at this
      have hz : b.size ≤ 2097152 := by omega
      unfold ber_Tree.f
      rw [this, if_pos hz, hback]
    have hW : ber_Write.f l = some (s, 0, 0) := by
      have e : l.map ber_Write.dn = xs := hxs.symm
      unfold ber_Write.f
      rw [e, hw, if_pos ⟨by omega, by omega⟩]
    have hlast : (s.toList == b.toList) = shB forms xs xs.length := by
      cases hsh : shB forms xs xs.length with
      | true =>
        have := hsame (fun i hi => hiff.1 hsh i (by omega) hi) xs.length (Nat.le_refl _)
        rw [← hbb, ← hsS] at this
        rw [this]
        exact beq_self_eq_true _
      | false =>
        have := hge.2 (hiff.2 hsh)
        rw [beq_eq_false_iff_ne]
        intro he
        have := toList_eq_iff s b he
        omega
    have hle : ¬ (s.size : Int) > (b.size : Int) := by have := hge.1; omega
    refine Ev.congr (f := fun k => rosterlaw02_BerForms.j0 k l forms (!true)) (fun k => by rw [rosterlaw02_BerForms.f, h1, hsd, Option.bind_some, h2, Option.bind_some, if_pos rfl]) ?_
    refine Ev.step (f := fun k => (rosterlaw02_sameNodes.f k l l).bind fun t112 => (rosterlaw02_BerForms.j1 k l b (shB forms xs xs.length) (!t112))) (fun k => ?_) ?_
    · rw [rosterlaw02_BerForms.j0, if_neg (by simp), hsp, Option.bind_some, hT, Option.bind_some]
      dsimp only
      rw [if_pos rfl, if_pos rfl]
    · refine Ev.bind (sameN_f l (by omega)) ?_
      refine Ev.step (f := fun _ => some true) (fun k => ?_) (Ev.now _)
      rw [rosterlaw02_BerForms.j1, if_neg (by simp), hW, Option.bind_some]
      dsimp only
      rw [if_pos rfl, if_pos rfl, if_neg hle, hlast, beq_self_eq_true]
end Go.Proofs.Ytolhmomnidlmaaa.Pure
