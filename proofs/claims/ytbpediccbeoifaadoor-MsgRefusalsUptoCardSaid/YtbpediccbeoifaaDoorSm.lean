/- A request, a reply compared with itself, field by field: true. -/
import Derived.Test.YtbpediccbeoifaaDoorMk2
namespace Go.Proofs.YtbpediccbeoifaaDoor.W
open Go.RowKit Go.Proofs.YtbpediccbeoifaaDoorW.PrintWords Go.Proofs.YtbpediccbeoifaaDoorW.PrintLast Go.Proofs.YtbpediccbeoifaaDoor.GN
set_option linter.unusedVariables false
set_option linter.unusedSimpArgs false
theorem bne_self' (b : Bool) : (b != b) = false := by cases b <;> rfl
theorem l_self (l : List UInt8) : (l == l) = true := by simp
theorem i_self (l : Int) : (l == l) = true := by simp
theorem b_self (l : Bool) : (l == l) = true := by simp
theorem sameTexts_l (l : List ByteArray) (hl : l.length ≤ 1048576) : ∀ (j i k : Nat), i + j = l.length → 0 ≤ k → rosterref13_sameTexts.l0 (k + j + 1) l l (i : Int) = some true := by
  intro j
  induction j with
  | zero =>
    intro i k hi hk
    rw [rosterref13_sameTexts.l0, if_neg (by omega)]
  | succ j ih =>
    intro i k hi hk
    have hil : i < l.length := by omega
    rw [show k + (j + 1) + 1 = (k + j + 1) + 1 by omega, rosterref13_sameTexts.l0, if_pos (by omega), if_pos (by omega), if_pos (by omega), if_pos rfl, wr1 i (by omega)]
    exact ih (i + 1) k (by omega) hk
theorem sameTexts_f (l : List ByteArray) (hl : l.length ≤ 1048576) (k : Nat) (hk : 1048577 ≤ k) : rosterref13_sameTexts.f k l l = some true := by
  unfold rosterref13_sameTexts.f
  rw [if_pos rfl]
  obtain ⟨q, rfl⟩ : ∃ q, k = q + l.length + 1 := ⟨k - l.length - 1, by omega⟩
  exact sameTexts_l l hl l.length 0 q (by omega) (by omega)
theorem sameAttrs_l (l : List S75) (hl : l.length ≤ 1048576) (hx : ∀ x ∈ l, (x.f2).length ≤ 1048576) : ∀ (j i k : Nat), i + j = l.length → 3000000 ≤ k → rosterref13_sameAttrs.l0 (k + j + 1) l l (i : Int) = some true := by
  intro j
  induction j with
  | zero =>
    intro i k hi hk
    rw [rosterref13_sameAttrs.l0, if_neg (by omega)]
  | succ j ih =>
    intro i k hi hk
    have hil : i < l.length := by omega
    have e : rd_T75 l (i : Int) = l[i] := by unfold rd_T75; rw [List.getD_eq_getElem?_getD, Int.toNat_natCast, List.getElem?_eq_getElem hil]; rfl
    have hm := hx l[i] (List.getElem_mem _)
    rw [← e] at hm
    rw [show k + (j + 1) + 1 = (k + j + 1) + 1 by omega, rosterref13_sameAttrs.l0, if_pos (by omega), if_pos (by omega), if_pos (by omega), sameTexts_f _ hm _ (by omega), Option.bind_some, if_pos rfl, if_pos rfl, if_pos rfl, wr1 i (by omega)]
    exact ih (i + 1) k (by omega) hk
theorem sameAttrs_f (l : List S75) (hl : l.length ≤ 1048576) (hx : ∀ x ∈ l, (x.f2).length ≤ 1048576) (k : Nat) (hk : 4100000 ≤ k) : rosterref13_sameAttrs.f k l l = some true := by
  unfold rosterref13_sameAttrs.f
  rw [if_pos rfl]
  obtain ⟨q, rfl⟩ : ∃ q, k = q + l.length + 1 := ⟨k - l.length - 1, by omega⟩
  exact sameAttrs_l l hl hx l.length 0 q (by omega) (by omega)
theorem sameChanges_l (l : List S73) (hl : l.length ≤ 1048576) (hx : ∀ x ∈ l, (x.f2).length ≤ 1048576) : ∀ (j i k : Nat), i + j = l.length → 3000000 ≤ k → rosterref13_sameChanges.l0 (k + j + 1) l l (i : Int) = some true := by
  intro j
  induction j with
  | zero =>
    intro i k hi hk
    rw [rosterref13_sameChanges.l0, if_neg (by omega)]
  | succ j ih =>
    intro i k hi hk
    have hil : i < l.length := by omega
    have e : rd_T73 l (i : Int) = l[i] := by unfold rd_T73; rw [List.getD_eq_getElem?_getD, Int.toNat_natCast, List.getElem?_eq_getElem hil]; rfl
    have hm := hx l[i] (List.getElem_mem _)
    rw [← e] at hm
    rw [show k + (j + 1) + 1 = (k + j + 1) + 1 by omega, rosterref13_sameChanges.l0, if_pos (by omega), if_pos (by omega), if_pos (by omega), sameTexts_f _ hm _ (by omega), Option.bind_some, if_pos rfl, if_pos rfl, if_pos rfl, wr1 i (by omega)]
    exact ih (i + 1) k (by omega) hk
theorem sameChanges_f (l : List S73) (hl : l.length ≤ 1048576) (hx : ∀ x ∈ l, (x.f2).length ≤ 1048576) (k : Nat) (hk : 4100000 ≤ k) : rosterref13_sameChanges.f k l l = some true := by
  unfold rosterref13_sameChanges.f
  rw [if_pos rfl]
  obtain ⟨q, rfl⟩ : ∃ q, k = q + l.length + 1 := ⟨k - l.length - 1, by omega⟩
  exact sameChanges_l l hl hx l.length 0 q (by omega) (by omega)
theorem sameControls_l (l : List S52) (hl : l.length ≤ 1048576) : ∀ (j i k : Nat), i + j = l.length → 3000000 ≤ k → rosterref13_sameControls.l0 (k + j + 1) l l (i : Int) = some true := by
  intro j
  induction j with
  | zero =>
    intro i k hi hk
    rw [rosterref13_sameControls.l0, if_neg (by omega)]
  | succ j ih =>
    intro i k hi hk
    have hil : i < l.length := by omega
    rw [show k + (j + 1) + 1 = (k + j + 1) + 1 by omega, rosterref13_sameControls.l0, if_pos (by omega), if_pos (by omega), if_pos (by omega), l_self, l_self, b_self, b_self, Bool.not_true, Bool.false_or, Bool.false_or, Bool.false_or, if_neg Bool.false_ne_true, wr1 i (by omega)]
    exact ih (i + 1) k (by omega) hk
theorem sameControls_f (l : List S52) (hl : l.length ≤ 1048576) (k : Nat) (hk : 4100000 ≤ k) : rosterref13_sameControls.f k l l = some true := by
  unfold rosterref13_sameControls.f
  rw [if_pos rfl]
  obtain ⟨q, rfl⟩ : ∃ q, k = q + l.length + 1 := ⟨k - l.length - 1, by omega⟩
  exact sameControls_l l hl l.length 0 q (by omega) (by omega)
theorem sameFilter_l (l : List S71) (hl : l.length ≤ 1048576) (hx : ∀ x ∈ l, (x.f4.f1).length ≤ 1048576) : ∀ (j i k : Nat), i + j = l.length → 3000000 ≤ k → rosterref13_sameFilter.l0 (k + 2 * j + 1) l l (i : Int) = some true := by
  intro j
  induction j with
  | zero =>
    intro i k hi hk
    rw [rosterref13_sameFilter.l0, if_neg (by omega)]
  | succ j ih =>
    intro i k hi hk
    have hil : i < l.length := by omega
    have e : rd_T71 l (i : Int) = l[i] := by unfold rd_T71; rw [List.getD_eq_getElem?_getD, Int.toNat_natCast, List.getElem?_eq_getElem hil]; rfl
    have hm := hx l[i] (List.getElem_mem _)
    rw [← e] at hm
    rw [show k + 2 * (j + 1) + 1 = (k + 2 * j + 1 + 1) + 1 by omega, rosterref13_sameFilter.l0, if_pos (by omega), if_pos (by omega), if_pos (by omega), sameTexts_f _ hm _ (by omega), Option.bind_some, if_pos rfl, if_pos rfl, if_pos rfl, if_pos rfl, if_pos rfl, if_pos rfl, bne_self', rosterref13_sameFilter.j1, if_neg Bool.false_ne_true, if_pos rfl, if_pos rfl, wr1 i (by omega)]
    exact ih (i + 1) k (by omega) hk
theorem sameFilter_f (l : List S71) (hl : l.length ≤ 1048576) (hx : ∀ x ∈ l, (x.f4.f1).length ≤ 1048576) (k : Nat) (hk : 5200000 ≤ k) : rosterref13_sameFilter.f k l l = some true := by
  unfold rosterref13_sameFilter.f
  rw [if_pos rfl]
  obtain ⟨q, rfl⟩ : ∃ q, k = q + 2 * l.length + 1 := ⟨k - 2 * l.length - 1, by omega⟩
  exact sameFilter_l l hl hx l.length 0 q (by omega) (by omega)
theorem sameSearch_f (base : ByteArray) (scope deref szl tml : Int) (tyo : Bool) (lF : List S71) (lA : List ByteArray) (nF : lF.length ≤ 1048576) (xF : ∀ x ∈ lF, x.f4.f1.length ≤ 1048576) (nA : lA.length ≤ 1048576) (k : Nat) (hk : 5200001 ≤ k) :
    rosterref13_sameSearch.f k base scope deref szl tml tyo lF lA base scope deref szl tml tyo lF lA = some true := by
  obtain ⟨k, rfl⟩ : ∃ q, k = q + 1 := ⟨k - 1, by omega⟩
  unfold rosterref13_sameSearch.f
  rw [if_pos rfl, if_pos rfl, if_pos rfl, if_pos rfl, if_pos rfl, bne_self', rosterref13_sameSearch.j0, if_neg Bool.false_ne_true, sameFilter_f lF nF xF k (by omega), Option.bind_some, if_pos rfl, sameTexts_f lA nA k (by omega), Option.bind_some]
theorem SameRequest_f (id : Int) (k : Int) (ver : Int) (bn : ByteArray) (meth : Int) (pw : ByteArray) (mech : ByteArray) (cred : ByteArray) (hcr : Bool) (base : ByteArray) (scope : Int) (deref : Int) (szl : Int) (tml : Int) (tyo : Bool) (lF : List S71) (lA : List ByteArray) (name : ByteArray) (lC : List S73) (lT : List S75) (rdn : ByteArray) (dold : Bool) (sup : ByteArray) (hsup : Bool) (desc : ByteArray) (val : ByteArray) (hval : Bool) (aban : Int) (lL : List S52) (nF : lF.length ≤ 1048576) (xF : ∀ x ∈ lF, x.f4.f1.length ≤ 1048576) (nA : lA.length ≤ 1048576) (nC : lC.length ≤ 1048576) (xC : ∀ x ∈ lC, x.f2.length ≤ 1048576) (nT : lT.length ≤ 1048576) (xT : ∀ x ∈ lT, x.f2.length ≤ 1048576) (nL : lL.length ≤ 1048576) (K : Nat) (hk : 6000000 ≤ K) :
    rosterref13_SameRequest.f K id k ver bn meth pw mech cred hcr base scope deref szl tml tyo lF lA name lC lT rdn dold sup hsup desc val hval aban lL id k ver bn meth pw mech cred hcr base scope deref szl tml tyo lF lA name lC lT rdn dold sup hsup desc val hval aban lL = some true := by
  obtain ⟨K, rfl⟩ : ∃ q, K = q + 1 + 1 := ⟨K - 2, by omega⟩
  have e1 := sameSearch_f base scope deref szl tml tyo lF lA nF xF nA K (by omega)
  have e2 := sameChanges_f lC nC xC K (by omega)
  have e3 := sameAttrs_f lT nT xT K (by omega)
  have e4 := sameControls_f lL nL K (by omega)
  unfold rosterref13_SameRequest.f
  simp only [l_self, i_self, b_self, Bool.not_true, Bool.false_or, if_true, if_false, Bool.false_eq_true, bne_self', rosterref13_SameRequest.j0, rosterref13_SameRequest.j1, e1, e2, e3, e4, Option.bind_some, bne_self_eq_false]
theorem SameReply_f (id k c : Int) (m t name : ByteArray) (lT : List S75) (oid : ByteArray) (hoid : Bool) (lL : List S52) (nT : lT.length ≤ 1048576) (xT : ∀ x ∈ lT, x.f2.length ≤ 1048576) (nL : lL.length ≤ 1048576) (K : Nat) (hk : 6000000 ≤ K) :
    rosterref13_SameReply.f K id k c m t name lT oid hoid lL id k c m t name lT oid hoid lL = some true := by
  obtain ⟨K, rfl⟩ : ∃ q, K = q + 1 + 1 := ⟨K - 2, by omega⟩
  have e3 := fun (j : Nat) (hj : 5999999 ≤ j) => sameAttrs_f lT nT xT j (by omega)
  have e4 := fun (j : Nat) (hj : 5999999 ≤ j) => sameControls_f lL nL j (by omega)
  unfold rosterref13_SameReply.f
  simp only [l_self, i_self, b_self, Bool.not_true, Bool.false_or, if_true, if_false, Bool.false_eq_true, bne_self', rosterref13_SameReply.j0, e3 (K + 1) (by omega), e3 (K + 1 + 1) (by omega), e4 (K + 1) (by omega), e4 (K + 1 + 1) (by omega), Option.bind_some, bne_self_eq_false]
end Go.Proofs.YtbpediccbeoifaaDoor.W
