/- The statement FilterGroups: the form that its row takes. -/
import Derived.Test.YtaimjacpenofpaaDoorTyFilterGroups
import Derived.Test.YtaimjacpenofpaaDoorGz
namespace Go.Proofs.YtaimjacpenofpaaDoor.Pure
open Go.ChangeShapes Go.WideShapes Go.ChangeAt Go.RowKit Go.Proofs.YtaimjacpenofpaaDoorW.PrintWords Go.Proofs.YtaimjacpenofpaaDoorW.PrintLast Go.Proofs.YtaimjacpenofpaaDoor.GC Go.Proofs.YtaimjacpenofpaaDoor.Pc
set_option linter.unusedVariables false
set_option linter.unusedSimpArgs false
abbrev TN := TyFilterGroups.T38
def up (x : TN) : N := ⟨x.1, x.2.1, x.2.2.1, x.2.2.2.1, ⟨x.2.2.2.2.1.1, x.2.2.2.2.1.2.1, x.2.2.2.2.1.2.2⟩, x.2.2.2.2.2.1, x.2.2.2.2.2.2⟩
theorem up_C {w : World} {A : Option Addr} {n : Nat} {xs : List TN} (h : Kd.C TyFilterGroups.k38 w A n xs) : Kd.C k38 w A n (xs.map up) := by
  obtain ⟨h1, h2, h3⟩ := h
  refine ⟨by rw [List.length_map]; exact h1, h2, fun hn => ?_⟩
  obtain ⟨ad, e, hc⟩ := h3 hn
  refine ⟨ad, e, fun j p hj => ?_⟩
  rw [List.getElem?_map] at hj
  obtain ⟨q, hq, rfl⟩ := Option.map_eq_some_iff.1 hj
  obtain ⟨c, g1, g2, g3⟩ := hc j q hq
  exact ⟨c, g1, g2, g3⟩
theorem sum_len {α : Type} (l : List α) (f : α → Nat) (hf : ∀ x, 1 ≤ f x) : l.length ≤ (l.map f).sum := by
  induction l with
  | nil => simp
  | cons x r ih => have := hf x; simp only [List.map_cons, List.sum_cons, List.length_cons]; omega
theorem sum_mem {α : Type} (l : List α) (f : α → Nat) (x : α) (h : x ∈ l) : f x ≤ (l.map f).sum := by
  induction l with
  | nil => cases h
  | cons y r ih =>
    simp only [List.map_cons, List.sum_cons]
    rcases List.mem_cons.1 h with rfl | h
    · omega
    · have := ih h; omega
theorem ok_of (l : List TN) (hb : (l.map TyFilterGroups.bulk38).sum + 1 ≤ 1048576) : ok (l.map up) := by
  have hf : ∀ x : TN, 1 ≤ TyFilterGroups.bulk38 x := fun x => by unfold TyFilterGroups.bulk38; omega
  refine ⟨by rw [List.length_map]; have := sum_len l _ hf; omega, fun i hi => ?_⟩
  rw [List.length_map] at hi
  have e : rd_T38 (l.map up) (i : Int) = up l[i] := by
    unfold rd_T38
    rw [Int.toNat_natCast, List.getD_eq_getElem?_getD, List.getElem?_map, List.getElem?_eq_getElem hi]
    rfl
  rw [e]
  have h1 := sum_mem l TyFilterGroups.bulk38 l[i] (List.getElem_mem _)
  generalize l[i] = x at h1 ⊢
  have h0 : TyFilterGroups.bulk38 x = 1 + TyFilterGroups.bulk3 x.1 + TyFilterGroups.bulk29 x.2.1 + (x.2.2.1.size + 1) + (x.2.2.2.1.size + 1) + (1 + (x.2.2.2.2.1.1.size + 1) + ((x.2.2.2.2.1.2.1.map fun s => s.size + 1).sum + 1) + (x.2.2.2.2.1.2.2.size + 1)) + (x.2.2.2.2.2.1.size + 1) + TyFilterGroups.bulk4 x.2.2.2.2.2.2 := rfl
  have h3 := sum_len x.2.2.2.2.1.2.1 (fun s => s.size + 1) (fun s => by omega)
  show x.2.2.1.size ≤ 1048576 ∧ x.2.2.2.2.2.1.size ≤ 1048576 ∧ x.2.2.2.2.1.2.1.length ≤ 1048576
  omega
theorem FilterGroups (w : World) (hL : laidMetH Tryd.prog Rows.filterGroupsUptoRow.laid w) (o : Int) (_w0 : (Lit.int .i64 o).wf = true) (n : Int) (_w1 : (Lit.int .i64 n).wf = true)
    (A0 : Option Addr) (c0 : Nat) (l0 : List TN) (hc0 : l0.length ≤ c0) (hr0 : Kd.C TyFilterGroups.k38 w A0 l0.length l0) (hw0 : TyFilterGroups.wf23 l0) (hb0 : TyFilterGroups.bulk23 l0 ≤ 1048576)
    (A1 : Option Addr) (c1 : Nat) (l1 : List TN) (hc1 : l1.length ≤ c1) (hr1 : Kd.C TyFilterGroups.k38 w A1 l1.length l1) (hw1 : TyFilterGroups.wf23 l1) (hb1 : TyFilterGroups.bulk23 l1 ≤ 1048576)
    (A2 : Option Addr) (c2 : Nat) (l2 : List TN) (hc2 : l2.length ≤ c2) (hr2 : Kd.C TyFilterGroups.k38 w A2 l2.length l2) (hw2 : TyFilterGroups.wf23 l2) (hb2 : TyFilterGroups.bulk23 l2 ≤ 1048576) :
    Calls Tryd.prog 3 #[.int .i64 o, .int .i64 n, .slice A0 l0.length c0, .slice A1 l1.length c1, .slice A2 l2.length c2] w fun en w' => en = .returned (.bool true) ∧ Below w.heap.size w w' := by
  have e0 : (l0.map up).length = l0.length := List.length_map _
  have e1 : (l1.map up).length = l1.length := List.length_map _
  have e2 : (l2.map up).length = l2.length := List.length_map _
  have hq := W.law_any o n (l0.map up) (l1.map up) (l2.map up) A0 A1 A2 c0 c1 c2 w (by rw [e0]; exact up_C hr0) (by rw [e1]; exact up_C hr1) (by rw [e2]; exact up_C hr2) (by rw [e0]; exact hc0) (by rw [e1]; exact hc1) (by rw [e2]; exact hc2) (ok_of l0 hb0) (ok_of l1 hb1) (ok_of l2 hb2) (W.TabW.of hL)
  rw [e0, e1, e2] at hq
  exact hq
end Go.Proofs.YtaimjacpenofpaaDoor.Pure
