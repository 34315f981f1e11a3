/- BerPlaces, as its row takes it. -/
import Derived.Test.YtbloccjogadlmaaTyBerPlaces
import Derived.Test.YtbloccjogadlmaaBp
namespace Go.Proofs.Ytbloccjogadlmaa.Pure
open Go.RowKit Go.Proofs.YtbloccjogadlmaaW.PrintWords
set_option linter.unusedVariables false
set_option linter.unusedSimpArgs false
abbrev TN := TyBerPlaces.T39
theorem sum_len {α : Type} (l : List α) (f : α → Nat) (hf : ∀ x, 1 ≤ f x) : l.length ≤ (l.map f).sum := by
  induction l with
  | nil => simp
  | cons x r ih => have := hf x; simp only [List.map_cons, List.sum_cons, List.length_cons]; omega
theorem sum_le {α : Type} (l : List α) (f g : α → Nat) (h : ∀ x, f x ≤ g x) : (l.map f).sum ≤ (l.map g).sum := by
  induction l with
  | nil => simp
  | cons x r ih => have := h x; simp only [List.map_cons, List.sum_cons]; omega
theorem bulk6 (x : TN) : x.2.2.2.2.size + 6 ≤ TyBerPlaces.bulk39 x := by
  have h : TyBerPlaces.bulk39 x = 1 + TyBerPlaces.bulk3 x.1 + TyBerPlaces.bulk27 x.2.1 + TyBerPlaces.bulk4 x.2.2.1 + TyBerPlaces.bulk3 x.2.2.2.1 + (x.2.2.2.2.size + 1) := rfl
  have h1 : TyBerPlaces.bulk3 x.1 = 1 := rfl
  have h2 : TyBerPlaces.bulk27 x.2.1 = 1 := rfl
  have h3 : TyBerPlaces.bulk4 x.2.2.1 = 1 := rfl
  have h4 : TyBerPlaces.bulk3 x.2.2.2.1 = 1 := rfl
  omega
def up (x : TN) : Go.Proofs.Ytbloccjogadlmaa.W.NodeT := (x.1, x.2.1, x.2.2.1, x.2.2.2.1, x.2.2.2.2)
theorem up_C {w : World} {A : Option Addr} {n : Nat} {xs : List TN} (h : Kd.C TyBerPlaces.k39 w A n xs) : Kd.C Go.Proofs.Ytbloccjogadlmaa.W.kNode w A n (xs.map up) := by
  obtain ⟨h1, h2, h3⟩ := h
  refine ⟨by rw [List.length_map]; exact h1, h2, fun hn => ?_⟩
  obtain ⟨ad, e, hc⟩ := h3 hn
  refine ⟨ad, e, fun j p hj => ?_⟩
  rw [List.getElem?_map] at hj
  obtain ⟨q, hq, rfl⟩ := Option.map_eq_some_iff.1 hj
  obtain ⟨c, g1, g2, g3⟩ := hc j q hq
  exact ⟨c, g1, g2, g3⟩
theorem int_C {w : World} {A : Option Addr} {n : Nat} {xs : List Int} (h : Kd.C TyBerPlaces.k3 w A n xs) : Kd.C (Kd.int .i64) w A n xs := h
theorem BerPlaces (w : World) (A0 : Option Addr) (c0 : Nat) (l0 : List TN) (hc0 : l0.length ≤ c0) (hr0 : Kd.C TyBerPlaces.k39 w A0 l0.length l0) (hw0 : TyBerPlaces.wf33 l0) (hb0 : TyBerPlaces.bulk33 l0 ≤ 1048576)
    (A1 : Option Addr) (c1 : Nat) (l1 : List Int) (hc1 : l1.length ≤ c1) (hr1 : Kd.C TyBerPlaces.k3 w A1 l1.length l1) (hw1 : TyBerPlaces.wf34 l1) (hb1 : TyBerPlaces.bulk34 l1 ≤ 1048576) :
    Calls Try.prog 4 #[.slice A0 l0.length c0, .slice A1 l1.length c1] w fun en w' => en = .returned (.bool true) ∧ Below w.heap.size w w' := by
  have hb : (l0.map TyBerPlaces.bulk39).sum + 1 ≤ 1048576 := hb0
  have hl : l0.length ≤ 1048576 := by
    have := sum_len l0 TyBerPlaces.bulk39 (fun x => by have := bulk6 x; omega)
    omega
  have e0 : (l0.map up).length = l0.length := List.length_map _
  have hwt : Go.Proofs.Ytbloccjogadlmaa.W.wt (l0.map up) 0 (l0.map up).length ≤ 1048576 := by
    unfold Go.Proofs.Ytbloccjogadlmaa.W.wt
    rw [List.take_of_length_le (Nat.le_refl _), List.drop_zero, List.map_map]
    have := sum_le l0 (fun x => x.2.2.2.2.size + 6) TyBerPlaces.bulk39 bulk6
    refine Nat.le_trans ?_ (Nat.le_trans this (by omega))
    exact Nat.le_refl _
  have h := callsIn_wide.1 (Go.Proofs.Ytbloccjogadlmaa.W.BerPlaces_in 20 (Nat.le_refl _) A0 c0 (l0.map up) A1 c1 l1 w (by rw [e0]; exact up_C hr0) (by rw [e0]; exact hc0) (int_C hr1) hc1 (by rw [e0]; exact hl) hwt)
  rw [e0] at h
  exact h
end Go.Proofs.Ytbloccjogadlmaa.Pure
