/- Copies of a message's lists with marks: what they answer; words for boxes that are filled. -/
import Derived.Test.YtbpediccbeoifaaDoorMk
import Derived.Test.YtbpediccbeoifaaDoorEm
namespace Go.Proofs.YtbpediccbeoifaaDoor.W
open Go.RowKit Go.Proofs.YtbpediccbeoifaaDoorW.PrintWords Go.Proofs.YtbpediccbeoifaaDoorW.PrintLast Go.Proofs.YtbpediccbeoifaaDoor.GN
set_option linter.unusedVariables false
set_option linter.unusedSimpArgs false
abbrev SPM : ByteArray := ⟨#[115, 112, 97, 114, 101]⟩
def upT (x : S75) : Q75 := ⟨x.f0, x.f1, some x.f2⟩
abbrev zT : Q75 := ⟨SPM, ⟨#[]⟩, none⟩
def upC (x : S73) : Q73 := ⟨x.f0, x.f1, some x.f2⟩
abbrev zC : Q73 := ⟨0, SPM, none⟩
def upF (x : S71) : Q71 := ⟨x.f0, x.f1, x.f2, x.f3, ⟨x.f4.f0, some x.f4.f1, x.f4.f2⟩, x.f5, x.f6⟩
abbrev zF : Q71 := ⟨0, 0, SPM, ⟨#[]⟩, ⟨⟨#[]⟩, none, ⟨#[]⟩⟩, ⟨#[]⟩, false⟩
abbrev zL : S52 := ⟨SPM, false, ⟨#[]⟩, false⟩
theorem texts_f (l : List ByteArray) (h : l.length ≤ 1048576) : mk_texts.f l = some l := by
  unfold mk_texts.f
  have e : ([] : List ByteArray) ++ l = l := rfl
  rw [if_pos (by show 0 + l.length < _; omega), Option.bind_some, e, if_pos (by omega), Option.bind_some, if_pos (by omega), if_pos (by rw [List.length_append, List.length_singleton]; omega), Int.toNat_natCast, List.take_left]
theorem controls_f (l : List S52) (h : l.length ≤ 1048576) : mk_controls.f l = some l := by
  unfold mk_controls.f
  have e : ([] : List S52) ++ l = l := rfl
  rw [if_pos (by show 0 + l.length < _; omega), Option.bind_some, e, if_pos (by omega), Option.bind_some, if_pos (by omega), if_pos (by rw [List.length_append, List.length_singleton]; omega), Int.toNat_natCast, List.take_left]
theorem wr1 (i : Nat) (h : i ≤ 2097152) : wrap64 ((i : Int) + 1) = ((i + 1 : Nat) : Int) := by unfold wrap64; omega
theorem take_up {α β : Type} (up : α → β) (l : List α) (i : Nat) (h : i < l.length) : (l.take i).map up ++ [up l[i]] = (l.take (i + 1)).map up := by rw [List.take_succ_eq_append_getElem h, List.map_append]; rfl
theorem attrs_l (l : List S75) (hl : l.length ≤ 1048576) (hx : ∀ x ∈ l, x.f2.length ≤ 1048576) : ∀ (j i k : Nat), i + j = l.length → mk_attrs.l0 (k + j + 1) l ((l.take i).map upT) (i : Int) = some (l.map upT ++ [zT]) := by
  intro j
  induction j with
  | zero =>
    intro i k hi
    have e : l.take i = l := List.take_of_length_le (by omega)
    rw [mk_attrs.l0, if_neg (by omega), e, if_pos (by rw [List.length_map]; omega), Option.bind_some, if_pos (by omega), if_pos (by rw [List.length_append, List.length_map]; omega)]
  | succ j ih =>
    intro i k hi
    have hil : i < l.length := by omega
    have e : rd_T75 l (i : Int) = l[i] := by unfold rd_T75; rw [List.getD_eq_getElem?_getD, Int.toNat_natCast, List.getElem?_eq_getElem hil]; rfl
    rw [show k + (j + 1) + 1 = (k + j + 1) + 1 by omega, mk_attrs.l0, if_pos (by omega), if_pos (by omega), e, texts_f _ (hx _ (List.getElem_mem _)), Option.bind_some, if_pos (by rw [List.length_map, List.length_take]; omega), wr1 i (by omega)]
    have e2 := take_up upT l i hil
    unfold upT at e2 ⊢
    rw [e2]
    exact ih (i + 1) k (by omega)
theorem changes_l (l : List S73) (hl : l.length ≤ 1048576) (hx : ∀ x ∈ l, x.f2.length ≤ 1048576) : ∀ (j i k : Nat), i + j = l.length → mk_changes.l0 (k + j + 1) l ((l.take i).map upC) (i : Int) = some (l.map upC ++ [zC]) := by
  intro j
  induction j with
  | zero =>
    intro i k hi
    have e : l.take i = l := List.take_of_length_le (by omega)
    rw [mk_changes.l0, if_neg (by omega), e, if_pos (by rw [List.length_map]; omega), Option.bind_some, if_pos (by omega), if_pos (by rw [List.length_append, List.length_map]; omega)]
  | succ j ih =>
    intro i k hi
    have hil : i < l.length := by omega
    have e : rd_T73 l (i : Int) = l[i] := by unfold rd_T73; rw [List.getD_eq_getElem?_getD, Int.toNat_natCast, List.getElem?_eq_getElem hil]; rfl
    rw [show k + (j + 1) + 1 = (k + j + 1) + 1 by omega, mk_changes.l0, if_pos (by omega), if_pos (by omega), e, texts_f _ (hx _ (List.getElem_mem _)), Option.bind_some, if_pos (by rw [List.length_map, List.length_take]; omega), wr1 i (by omega)]
    have e2 := take_up upC l i hil
    unfold upC at e2 ⊢
    rw [e2]
    exact ih (i + 1) k (by omega)
theorem nodes_l (l : List S71) (hl : l.length ≤ 1048576) (hx : ∀ x ∈ l, x.f4.f1.length ≤ 1048576) : ∀ (j i k : Nat), i + j = l.length → mk_nodes.l0 (k + j + 1) l ((l.take i).map upF) (i : Int) = some (l.map upF ++ [zF]) := by
  intro j
  induction j with
  | zero =>
    intro i k hi
    have e : l.take i = l := List.take_of_length_le (by omega)
    rw [mk_nodes.l0, if_neg (by omega), e, if_pos (by rw [List.length_map]; omega), Option.bind_some, if_pos (by omega), if_pos (by rw [List.length_append, List.length_map]; omega)]
  | succ j ih =>
    intro i k hi
    have hil : i < l.length := by omega
    have e : rd_T71 l (i : Int) = l[i] := by unfold rd_T71; rw [List.getD_eq_getElem?_getD, Int.toNat_natCast, List.getElem?_eq_getElem hil]; rfl
    rw [show k + (j + 1) + 1 = (k + j + 1) + 1 by omega, mk_nodes.l0, if_pos (by omega), if_pos (by omega), e, texts_f _ (hx _ (List.getElem_mem _)), Option.bind_some, if_pos (by rw [List.length_map, List.length_take]; omega), wr1 i (by omega)]
    have e2 := take_up upF l i hil
    unfold upF at e2 ⊢
    rw [e2]
    exact ih (i + 1) k (by omega)
theorem attrs_f (l : List S75) (hl : l.length ≤ 1048576) (hx : ∀ x ∈ l, x.f2.length ≤ 1048576) : mk_attrs.f 1048577 l = some (l.map upT ++ [zT]) := by
  have h := attrs_l l hl hx l.length 0 (1048577 - l.length - 1) (by omega)
  rw [show 1048577 - l.length - 1 + l.length + 1 = 1048577 by omega] at h
  exact h
theorem changes_f (l : List S73) (hl : l.length ≤ 1048576) (hx : ∀ x ∈ l, x.f2.length ≤ 1048576) : mk_changes.f 1048577 l = some (l.map upC ++ [zC]) := by
  have h := changes_l l hl hx l.length 0 (1048577 - l.length - 1) (by omega)
  rw [show 1048577 - l.length - 1 + l.length + 1 = 1048577 by omega] at h
  exact h
theorem nodes_f (l : List S71) (hl : l.length ≤ 1048576) (hx : ∀ x ∈ l, x.f4.f1.length ≤ 1048576) : mk_nodes.f 1048577 l = some (l.map upF ++ [zF]) := by
  have h := nodes_l l hl hx l.length 0 (1048577 - l.length - 1) (by omega)
  rw [show 1048577 - l.length - 1 + l.length + 1 = 1048577 by omega] at h
  exact h

theorem set_grown (w : World) (b j : Nat) (u : Value) : w.grownBy (w.setCell ⟨b, j, none⟩ u) (some b) := ⟨rfl, rfl, rfl, by simp [World.setCell], fun k hk hne => Below.heap_setCell w _ u k (fun e => hne (congrArg some e))⟩
/-- A box that is filled cell for cell. -/
def fillFrom (w : World) (g : Nat) : Nat → List Value → World
  | _, [] => w
  | i, v :: r => fillFrom (w.setCell ⟨g, i, none⟩ v) g (i + 1) r
theorem fill_grown (g : Nat) : ∀ (vs : List Value) (i : Nat) (w : World), w.grownBy (fillFrom w g i vs) (some g) := by
  intro vs
  induction vs with
  | nil => intro i w; exact ⟨rfl, rfl, rfl, Nat.le_refl _, fun _ _ _ => rfl⟩
  | cons v r ih =>
    intro i w
    exact (set_grown w g i v).trans (ih (i + 1) _)
theorem fill_at (g : Nat) (t : TypeId) : ∀ (vs : List Value) (i : Nat) (w : World) (cs : Array Value), At w g t cs → cs.size = i + vs.length → At (fillFrom w g i vs) g t (cs.toList.take i ++ vs).toArray := by
  intro vs
  induction vs with
  | nil =>
    intro i w cs h hs
    rw [List.append_nil, List.take_of_length_le (by rw [Array.length_toList, hs]; exact Nat.le_refl _)]
    exact h
  | cons v r ih =>
    intro i w cs h hs
    rw [List.length_cons] at hs
    have h1 := ih (i + 1) _ _ (h.set i v) (by rw [Array.size_setIfInBounds]; omega)
    have e : (cs.setIfInBounds i v).toList.take (i + 1) ++ r = cs.toList.take i ++ v :: r := by
      rw [Array.toList_setIfInBounds, List.take_succ_eq_append_getElem (by rw [List.length_set, Array.length_toList]; omega), List.getElem_set_self, List.take_set_of_le (Nat.le_refl _), List.append_assoc]
      rfl
    rw [e] at h1
    exact h1
end Go.Proofs.YtbpediccbeoifaaDoor.W
