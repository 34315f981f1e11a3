/- The statement BerWrite: the plain law, and the form that its row takes. -/
import Derived.Test.YtakcnckiakjpiaaTyBerWrite
import Derived.Test.YtakcnckiakjpiaaGFx3
import Derived.Test.YtakcnckiakjpiaaFt
namespace Go.Proofs.Ytakcnckiakjpiaa.Pure
open Go.ChangeShapes Go.WideShapes Go.ChangeAt Go.RowKit Go.Proofs.YtakcnckiakjpiaaW.PrintWords Go.Proofs.YtakcnckiakjpiaaW.PrintLast Go.Proofs.Ytakcnckiakjpiaa.GF Go.Proofs.Ytakcnckiakjpiaa.W
set_option linter.unusedVariables false
set_option linter.unusedSimpArgs false
theorem sameN_loop (l : List S26) (hl : l.length ≤ 1000000000) : ∀ (m i : Nat), i + m = l.length → rosterlaw02_sameNodes.l0 (m + 1) l l i = some true := by
  intro m
  induction m with
  | zero => intro i h; rw [rosterlaw02_sameNodes.l0, if_neg (by omega)]
  | succ m ih =>
    intro i h
    have e : wrap64 ((i : Int) + 1) = ((i + 1 : Nat) : Int) := by unfold wrap64; omega
    rw [rosterlaw02_sameNodes.l0, if_pos (by omega), if_pos (by omega), if_pos (by omega), if_neg (by simp), e]
    exact ih (i + 1) (by omega)
theorem sameN_f (l : List S26) (hl : l.length ≤ 1000000000) : rosterlaw02_sameNodes.f (l.length + 1) l l = some true := by
  unfold rosterlaw02_sameNodes.f
  rw [if_pos rfl]
  exact sameN_loop l hl l.length 0 (by omega)
def sp : S26 := ⟨(-7), 0, false, 0, (⟨#[115, 112, 97, 114, 101]⟩ : ByteArray)⟩
theorem rd_sp (l : List S26) : rd_T26 (l ++ [sp]) (l.length : Int) = sp := by
  unfold rd_T26
  rw [Int.toNat_natCast, List.getD_eq_getElem?_getD, List.getElem?_append_right (Nat.le_refl _), Nat.sub_self]
  rfl
theorem law (l : List S26) (hl : l.length ≤ 1048576) (hw : wt (l.map ber_Write.dn) 0 (l.map ber_Write.dn).length ≤ 67108864) : ∃ k, rosterlaw02_BerWrite.f k l = some true := by
  refine ⟨l.length + 1, ?_⟩
  have hml : (l.map ber_Write.dn).length = l.length := List.length_map _
  have h2 : rosterlaw02_small.f l = some true := by
    unfold rosterlaw02_small.f
    have e : l.map rosterlaw02_small.dn = l.map ber_Write.dn := rfl
    rw [e, if_pos ⟨by omega, by omega⟩, decide_eq_true (by omega)]
  have h3 : ber_Write.f l = some ((writeS (l.map ber_Write.dn)).1, (writeS (l.map ber_Write.dn)).2.1, (writeS (l.map ber_Write.dn)).2.2) := by
    unfold ber_Write.f
    rw [if_pos ⟨by omega, by omega⟩]
  have h4 : rosterref02_Write.f l = some ((writeS (l.map ber_Write.dn)).1, (writeS (l.map ber_Write.dn)).2.1, (writeS (l.map ber_Write.dn)).2.2) := by
    unfold rosterref02_Write.f
    have e : l.map rosterref02_Write.dn = l.map ber_Write.dn := rfl
    rw [e, if_pos ⟨by omega, by omega⟩]
  have ht : ((([] : List S26) ++ l) ++ [sp]).take ((l.length : Int)).toNat = l := by
    rw [List.nil_append, Int.toNat_natCast, List.take_left]
  have q0 : ([] : List S26).length + l.length < 2932031007402 := by rw [List.length_nil]; omega
  have q1 : (([] : List S26) ++ l).length + [sp].length < 2932031007402 := by rw [List.nil_append, List.length_singleton]; omega
  have q2 : (l.length : Int) ≤ (((([] : List S26) ++ l) ++ [sp]).length : Int) := by rw [List.nil_append, List.length_append, List.length_singleton]; omega
  have q3 : (l.length : Int) < (((([] : List S26) ++ l) ++ [sp]).length : Int) := by rw [List.nil_append, List.length_append, List.length_singleton]; omega
  unfold rosterlaw02_BerWrite.f
  rw [h2, Option.bind_some, if_pos rfl]
  change (if ([] : List S26).length + l.length < 2932031007402 then (if (([] : List S26) ++ l).length + [sp].length < 2932031007402 then (if 0 ≤ (l.length : Int) then (if (l.length : Int) ≤ (((([] : List S26) ++ l) ++ [sp]).length : Int) then _ else none) else none) else none) else none) = some true
  have es : (⟨(-7), 0, false, 0, (⟨#[115, 112, 97, 114, 101]⟩ : ByteArray)⟩ : S26) = sp := rfl
  rw [es, if_pos q0, if_pos q1, if_pos (show (0 : Int) ≤ (l.length : Int) by omega), if_pos q2, ht, h3, Option.bind_some, h4, Option.bind_some, if_pos rfl, if_pos rfl, if_pos rfl, sameN_f l (by omega), Option.bind_some, if_pos rfl, if_pos q3, List.nil_append, rd_sp]
  have e4 : sp.f4.toList = [115, 112, 97, 114, 101] := by
    show (⟨#[115, 112, 97, 114, 101]⟩ : ByteArray).toList = _
    rw [ByteArray.toList_eq]
  rw [e4]
  rfl
/-! the row's kinds -/
abbrev TN := TyBerWrite.T26
def up (x : TN) : S26 := ⟨x.1, x.2.1, x.2.2.1, x.2.2.2.1, x.2.2.2.2⟩
theorem up_C {w : World} {A : Option Addr} {n : Nat} {xs : List TN} (h : Kd.C TyBerWrite.k26 w A n xs) : Kd.C k26 w A n (xs.map up) := by
  obtain ⟨h1, h2, h3⟩ := h
  refine ⟨by rw [List.length_map]; exact h1, h2, fun hn => ?_⟩
  obtain ⟨ad, e, hc⟩ := h3 hn
  refine ⟨ad, e, fun j p hj => ?_⟩
  rw [List.getElem?_map] at hj
  obtain ⟨q, hq, rfl⟩ := Option.map_eq_some_iff.1 hj
  obtain ⟨c, g1, g2, g3⟩ := hc j q hq
  exact ⟨c, g1, g2, g3⟩
theorem sum_len {α : Type} (l : List α) (f : α → Nat) (hf : ∀ x, 1 ≤ f x) : l.length ≤ (l.map f).sum := by
  induction l with
  | nil => simp
  | cons x r ih => have := hf x; simp only [List.map_cons, List.sum_cons, List.length_cons]; omega
theorem sum_le {α : Type} (l : List α) (f g : α → Nat) (h : ∀ x, f x ≤ g x) : (l.map f).sum ≤ (l.map g).sum := by
  induction l with
  | nil => simp
  | cons x r ih => have := h x; simp only [List.map_cons, List.sum_cons]; omega
theorem bulk6 (x : TN) : x.2.2.2.2.size + 6 ≤ TyBerWrite.bulk26 x := by
  have h : TyBerWrite.bulk26 x = 1 + TyBerWrite.bulk3 x.1 + TyBerWrite.bulk24 x.2.1 + TyBerWrite.bulk4 x.2.2.1 + TyBerWrite.bulk3 x.2.2.2.1 + (x.2.2.2.2.size + 1) := rfl
  have h1 : TyBerWrite.bulk3 x.1 = 1 := rfl
  have h2 : TyBerWrite.bulk24 x.2.1 = 1 := rfl
  have h3 : TyBerWrite.bulk4 x.2.2.1 = 1 := rfl
  have h4 : TyBerWrite.bulk3 x.2.2.2.1 = 1 := rfl
  omega
theorem BerWrite (w : World) (A0 : Option Addr) (c0 : Nat) (l0 : List TN) (hc0 : l0.length ≤ c0) (hr0 : Kd.C TyBerWrite.k26 w A0 l0.length l0) (hw0 : TyBerWrite.wf22 l0) (hb0 : TyBerWrite.bulk22 l0 ≤ 1048576) :
    Calls Try.prog 3 #[.slice A0 l0.length c0] w fun en w' => en = .returned (.bool true) ∧ Below w.heap.size w w' := by
  have hb : (l0.map TyBerWrite.bulk26).sum + 1 ≤ 1048576 := hb0
  have hl : l0.length ≤ 1048576 := by
    have := sum_len l0 TyBerWrite.bulk26 (fun x => by have := bulk6 x; omega)
    omega
  have e0 : (l0.map up).length = l0.length := List.length_map _
  have hwt : wt ((l0.map up).map ber_Write.dn) 0 ((l0.map up).map ber_Write.dn).length ≤ 67108864 := by
    unfold wt
    rw [List.take_of_length_le (Nat.le_refl _), List.drop_zero, List.map_map, List.map_map]
    have := sum_le l0 (fun x => x.2.2.2.2.size + 6) TyBerWrite.bulk26 bulk6
    refine Nat.le_trans ?_ (Nat.le_trans this (by omega))
    exact Nat.le_refl _
  obtain ⟨k, h⟩ := law (l0.map up) (by rw [e0]; exact hl) hwt
  have hq := rosterlaw02_BerWrite.calls k A0 c0 (l0.map up) true w (by rw [e0]; exact up_C hr0) (by rw [e0]; exact hc0) h rfl
  rw [e0] at hq
  exact hq
end Go.Proofs.Ytakcnckiakjpiaa.Pure
