/- The statement MsgRefusals: the form that its row takes. -/
import Derived.Test.YtbpediccbeoifaaDoorTyMsgRefusals
import Derived.Test.YtbpediccbeoifaaDoorLr
namespace Go.Proofs.YtbpediccbeoifaaDoor.Pure
open Go.ChangeShapes Go.WideShapes Go.ChangeAt Go.RowKit Go.Proofs.YtbpediccbeoifaaDoorW.PrintWords Go.Proofs.YtbpediccbeoifaaDoorW.PrintLast Go.Proofs.YtbpediccbeoifaaDoor.GN
set_option linter.unusedVariables false
set_option linter.unusedSimpArgs false
abbrev TF := TyMsgRefusals.T71
abbrev TC := TyMsgRefusals.T73
abbrev TA := TyMsgRefusals.T75
abbrev TL := TyMsgRefusals.T52
def uF (x : TF) : S71 := ⟨x.1, x.2.1, x.2.2.1, x.2.2.2.1, ⟨x.2.2.2.2.1.1, x.2.2.2.2.1.2.1, x.2.2.2.2.1.2.2⟩, x.2.2.2.2.2.1, x.2.2.2.2.2.2⟩
def uC (x : TC) : S73 := ⟨x.1, x.2.1, x.2.2⟩
def uA (x : TA) : S75 := ⟨x.1, x.2.1, x.2.2⟩
def uL (x : TL) : S52 := ⟨x.1, x.2.1, x.2.2.1, x.2.2.2⟩
theorem C_map {α β : Type} {d : Kd α} {e : Kd β} {up : α → β} {w : World} {A : Option Addr} {n : Nat} {xs : List α} (hs : e.sz = d.sz) (hK : ∀ x cs, d.K w x cs → e.K w (up x) cs) (h : Kd.C d w A n xs) : Kd.C e w A n (xs.map up) := by
  obtain ⟨h1, h2, h3⟩ := h
  refine ⟨by rw [List.length_map]; exact h1, h2, fun hn => ?_⟩
  obtain ⟨ad, e1, hc⟩ := h3 hn
  refine ⟨ad, e1, fun j p hj => ?_⟩
  rw [List.getElem?_map] at hj
  obtain ⟨q, hq, rfl⟩ := Option.map_eq_some_iff.1 hj
  obtain ⟨c, g1, g2, g3⟩ := hc j q hq
  refine ⟨c, g1.trans hs.symm, hK _ _ g2, ?_⟩
  rw [hs]
  exact g3
theorem sum_len {α : Type} (l : List α) (f : α → Nat) (hf : ∀ x, 1 ≤ f x) : l.length ≤ (l.map f).sum := by
  induction l with
  | nil => simp
  | cons x r ih => have := hf x; simp only [List.map_cons, List.sum_cons, List.length_cons]; omega
theorem sum_mem {α : Type} (l : List α) (f : α → Nat) (x : α) (h : x ∈ l) : f x ≤ (l.map f).sum := by
  induction l with
  | nil => cases h
  | cons y r ih =>
    simp only [List.map_cons, List.sum_cons]
    rcases List.mem_cons.1 h with rfl | h
    · omega
    · have := ih h; omega
theorem texts_len (l : List ByteArray) : l.length ≤ TyMsgRefusals.bulk29 l := by
  have := sum_len l (fun s => s.size + 1) (fun s => by omega)
  show l.length ≤ (l.map fun s => s.size + 1).sum + 1
  omega
theorem F_b (l : List TF) : (l.map uF).length ≤ (l.map TyMsgRefusals.bulk71).sum ∧ ∀ x ∈ l.map uF, x.f4.f1.length ≤ (l.map TyMsgRefusals.bulk71).sum := by
  refine ⟨by rw [List.length_map]; exact sum_len l _ (fun x => by unfold TyMsgRefusals.bulk71; omega), fun x hx => ?_⟩
  obtain ⟨y, hy, rfl⟩ := List.mem_map.1 hx
  have h1 := sum_mem l TyMsgRefusals.bulk71 y hy
  have h2 := texts_len y.2.2.2.2.1.2.1
  have h3 : TyMsgRefusals.bulk29 y.2.2.2.2.1.2.1 ≤ TyMsgRefusals.bulk71 y := by unfold TyMsgRefusals.bulk71 TyMsgRefusals.bulk68; omega
  exact Nat.le_trans h2 (Nat.le_trans h3 h1)
theorem C_b (l : List TC) : (l.map uC).length ≤ (l.map TyMsgRefusals.bulk73).sum ∧ ∀ x ∈ l.map uC, x.f2.length ≤ (l.map TyMsgRefusals.bulk73).sum := by
  refine ⟨by rw [List.length_map]; exact sum_len l _ (fun x => by unfold TyMsgRefusals.bulk73; omega), fun x hx => ?_⟩
  obtain ⟨y, hy, rfl⟩ := List.mem_map.1 hx
  have h1 := sum_mem l TyMsgRefusals.bulk73 y hy
  have h2 := texts_len y.2.2
  have h3 : TyMsgRefusals.bulk29 y.2.2 ≤ TyMsgRefusals.bulk73 y := by unfold TyMsgRefusals.bulk73; omega
  exact Nat.le_trans h2 (Nat.le_trans h3 h1)
theorem A_b (l : List TA) : (l.map uA).length ≤ (l.map TyMsgRefusals.bulk75).sum ∧ ∀ x ∈ l.map uA, x.f2.length ≤ (l.map TyMsgRefusals.bulk75).sum := by
  refine ⟨by rw [List.length_map]; exact sum_len l _ (fun x => by unfold TyMsgRefusals.bulk75; omega), fun x hx => ?_⟩
  obtain ⟨y, hy, rfl⟩ := List.mem_map.1 hx
  have h1 := sum_mem l TyMsgRefusals.bulk75 y hy
  have h2 := texts_len y.2.2
  have h3 : TyMsgRefusals.bulk29 y.2.2 ≤ TyMsgRefusals.bulk75 y := by unfold TyMsgRefusals.bulk75; omega
  exact Nat.le_trans h2 (Nat.le_trans h3 h1)
theorem L_b (l : List TL) : (l.map uL).length ≤ (l.map TyMsgRefusals.bulk52).sum := by
  rw [List.length_map]
  exact sum_len l _ (fun x => by unfold TyMsgRefusals.bulk52; omega)
theorem MsgRefusals (w : World) (hL : laidMetH Tryd.prog Rows.msgRefusalsUptoRow.laid w) (x0 : TyMsgRefusals.T36) (cs0 : Array Value) (m0 : TyMsgRefusals.k36.K w x0 cs0.toList) (f0 : TyMsgRefusals.wf36 x0) (u0 : TyMsgRefusals.bulk36 x0 ≤ 1048576) (a1 : ByteArray) (w1 : a1.size ≤ 1048576) :
    Calls Tryd.prog 3 #[.agg cs0, .string a1] w fun en w' => en = .returned (.bool true) ∧ Below w.heap.size w w' := by
  obtain ⟨id, k, ⟨ver, bn, meth, pw, mech, cred, hcr⟩, ⟨base, scope, deref, szl, tml, tyo, lF, lA⟩, name, lC, lT, rdn, dold, sup, hsup, desc, val, hval, aban, lL⟩ := x0
  obtain ⟨_, _, e, rfl, ⟨_, _, rfl, rfl, ⟨_, _, rfl, hB, ⟨_, _, rfl, hS, ⟨_, _, rfl, rfl, ⟨_, _, rfl, hC, ⟨_, _, rfl, hT, ⟨_, _, rfl, rfl, ⟨_, _, rfl, rfl, ⟨_, _, rfl, rfl, ⟨_, _, rfl, rfl, ⟨_, _, rfl, rfl, ⟨_, _, rfl, rfl, ⟨_, _, rfl, rfl, ⟨_, _, rfl, rfl, hLc⟩⟩⟩⟩⟩⟩⟩⟩⟩⟩⟩⟩⟩⟩⟩ := m0
  obtain ⟨_, _, rfl, rfl, ⟨_, _, rfl, rfl, ⟨_, _, rfl, rfl, ⟨_, _, rfl, rfl, ⟨_, _, rfl, rfl, ⟨_, _, rfl, rfl, rfl⟩⟩⟩⟩⟩⟩ := hB
  obtain ⟨_, _, rfl, rfl, ⟨_, _, rfl, rfl, ⟨_, _, rfl, rfl, ⟨_, _, rfl, rfl, ⟨_, _, rfl, rfl, ⟨_, _, rfl, rfl, ⟨_, _, rfl, ⟨AF, cF, rfl, gF, hF⟩, ⟨AA, cA, rfl, gA, hA⟩⟩⟩⟩⟩⟩⟩⟩ := hS
  obtain ⟨AC, cC, rfl, gC, hC⟩ := hC
  obtain ⟨AT, cT, rfl, gT, hT⟩ := hT
  obtain ⟨AL, cL, rfl, gL, hLc⟩ := hLc
  obtain rfl : cs0 = _ := by cases cs0; exact congrArg Array.mk e
  have hk : (Lit.int .i64 k).wf = true := f0.2.1
  have bF := F_b lF
  have bC := C_b lC
  have bT := A_b lT
  have bL := L_b lL
  have bA := texts_len lA
  simp only [TyMsgRefusals.bulk36, TyMsgRefusals.bulk31, TyMsgRefusals.bulk28, TyMsgRefusals.bulk32, TyMsgRefusals.bulk33, TyMsgRefusals.bulk34] at u0
  have hq := W.refusals_any id k ver bn meth pw mech cred hcr base scope deref szl tml tyo AF cF (lF.map uF) AA cA lA name AC cC (lC.map uC) AT cT (lT.map uA) rdn dold sup hsup desc val hval aban AL cL (lL.map uL) a1 w
    (by rw [List.length_map]; exact C_map rfl (fun x cs h => h) hF) (by rw [List.length_map]; exact gF) (by omega) (fun x hx => Nat.le_trans (bF.2 x hx) (by omega))
    hA gA (by omega)
    (by rw [List.length_map]; exact C_map rfl (fun x cs h => h) hC) (by rw [List.length_map]; exact gC) (by omega) (fun x hx => Nat.le_trans (bC.2 x hx) (by omega))
    (by rw [List.length_map]; exact C_map rfl (fun x cs h => h) hT) (by rw [List.length_map]; exact gT) (by omega) (fun x hx => Nat.le_trans (bT.2 x hx) (by omega))
    (by rw [List.length_map]; exact C_map rfl (fun x cs h => h) hLc) (by rw [List.length_map]; exact gL) (by omega)
    (W.of_laid hL) hk
  simp only [List.length_map] at hq
  exact hq
end Go.Proofs.YtbpediccbeoifaaDoor.Pure
