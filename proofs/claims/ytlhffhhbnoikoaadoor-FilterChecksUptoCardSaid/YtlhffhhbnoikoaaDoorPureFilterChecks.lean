/- The statement FilterChecks: the plain law, and the form that its row takes. -/
import Derived.Test.YtlhffhhbnoikoaaDoorTyFilterChecks
import Derived.Test.YtlhffhhbnoikoaaDoorPc4
import Derived.Test.YtlhffhhbnoikoaaDoorGCx13
namespace Go.Proofs.YtlhffhhbnoikoaaDoor.Pure
open Go.ChangeShapes Go.WideShapes Go.ChangeAt Go.RowKit Go.Proofs.YtlhffhhbnoikoaaDoorW.PrintWords Go.Proofs.YtlhffhhbnoikoaaDoorW.PrintLast Go.Proofs.YtlhffhhbnoikoaaDoor.GC Go.Proofs.YtlhffhhbnoikoaaDoor.Pc
set_option linter.unusedVariables false
set_option linter.unusedSimpArgs false
theorem rd_take (l : List N) (n i : Nat) (h : i < n) : rd_T34 (l.take n) (i : Int) = rd_T34 l (i : Int) := by
  unfold rd_T34
  rw [Int.toNat_natCast, List.getD_eq_getElem?_getD, List.getD_eq_getElem?_getD, List.getElem?_take, if_pos h]
theorem ok_take (l : List N) (h : ok l) (n : Nat) : ok (l.take n) := by
  refine ⟨by rw [List.length_take]; have := h.len; omega, fun i hi => ?_⟩
  rw [List.length_take] at hi
  rw [rd_take l n i (by omega)]
  exact h.node i (by omega)
def oneL : List N := [(⟨1, 7, (⟨#[99, 110]⟩ : ByteArray), (⟨#[]⟩ : ByteArray), (⟨(⟨#[]⟩ : ByteArray), ([] : List ByteArray), (⟨#[]⟩ : ByteArray)⟩ : S32), (⟨#[]⟩ : ByteArray), false⟩ : N)]
theorem one_ok : ok oneL := by
  refine ⟨by decide, fun i hi => ?_⟩
  obtain rfl : i = 0 := by simp [oneL] at hi; exact hi
  exact ⟨by decide, by decide, by decide⟩
theorem U_cn : U (⟨#[99, 110]⟩ : ByteArray) = true := by kernel_rfl
theorem U_none : U (⟨#[]⟩ : ByteArray) = true := by kernel_rfl
theorem one_sh : shB 1 7 (⟨#[99, 110]⟩ : ByteArray) (⟨#[]⟩ : ByteArray) (⟨#[]⟩ : ByteArray) ([] : List ByteArray) (⟨#[]⟩ : ByteArray) (⟨#[]⟩ : ByteArray) false = true := by
  unfold shB tailB np
  rw [U_cn, U_none, emptyList]
  rfl
theorem one_check (k : Nat) (hk : 4000000 ≤ k) : rosterref12_Check.f k oneL = some (0, 0) := by
  obtain ⟨k, rfl⟩ : ∃ q, k = q + 1 + 1 + 1 + 1 := ⟨k - 4, by omega⟩
  unfold rosterref12_Check.f
  rw [if_neg (by decide)]
  have n := one_ok.node 0 (by decide)
  rw [show ((0 : Nat) : Int) = 0 from rfl] at n
  have R := rosterref12_Check.l0.eq_2 oneL 0 (k + 1 + 1 + 1)
  have hf := (fol_eq oneL 0 (by decide) (by decide) (fun h => absurd h (by decide))).2
  have e : fol oneL 0 = true := by decide
  rw [show ((0 : Nat) : Int) = 0 from rfl, e] at hf
  rw [if_pos (by decide), hf, bsB, if_pos rfl, if_pos (by decide), if_neg (by decide), fields_f _ _ _ _ _ _ _ _ _ n.2.2 n.1 n.2.1 _ (by omega), bsB] at R
  have es : shB (rd_T34 oneL 0).f0 (rd_T34 oneL 0).f1 (rd_T34 oneL 0).f2 (rd_T34 oneL 0).f3 (rd_T34 oneL 0).f4.f0 (rd_T34 oneL 0).f4.f1 (rd_T34 oneL 0).f4.f2 (rd_T34 oneL 0).f5 (rd_T34 oneL 0).f6 = true := one_sh
  rw [es, if_pos rfl] at R
  have s0 : rosterref12_second.f (k + 1 + 1 + 1) oneL 0 = some false := by
    unfold rosterref12_second.f
    rw [rosterref12_second.l0, show wrap64 (0 - 1) = -1 by kernel_rfl, if_neg (by decide)]
  have R2 : rosterref12_Check.l0 (k + 1 + 1) oneL 1 = some (0, 0) := by rw [rosterref12_Check.l0, if_neg (by decide)]
  rw [s0, bsB, rosterref12_Check.j1, if_neg (by decide), if_pos (by decide), if_pos (by decide), if_neg (by decide), show wrap64 (0 + 1) = 1 by kernel_rfl, R2] at R
  exact R
theorem one_depth (k : Nat) (hk : 4000000 ≤ k) : filter_Depth.f k oneL = some 1 := by
  obtain ⟨k, rfl⟩ : ∃ q, k = q + 1 + 1 := ⟨k - 2, by omega⟩
  unfold filter_Depth.f
  rw [filter_Depth.l0, if_pos (by decide), if_pos (by decide), if_pos (by decide), show wrap64 (0 + 1) = 1 by kernel_rfl, filter_Depth.l0, if_neg (by decide)]
  rfl
theorem law_l (l : List N) (h : ok l) : ∀ (j i k : Nat), i + j = l.length + 1 → 8000000 ≤ k → rosterlaw12_FilterChecks.l0 (k + j + 1) l l (i : Int) = some true := by
  intro j
  have hl := h.len
  induction j with
  | zero =>
    intro i k hi hk
    rw [rosterlaw12_FilterChecks.l0, if_neg (by omega)]
    obtain ⟨e, a, c1, c2⟩ := chk_f oneL one_ok (k + 0) (k + 0) (by omega) (by omega)
    rw [one_check _ (by omega)] at c2
    obtain ⟨rfl, rfl⟩ := Prod.mk.inj (Option.some.inj c2)
    change ((some oneL).bind fun y201 => ((filter_Check.f (k + 0) y201).bind fun bt204 => (if bt204.1 = 0 then (if bt204.2 = 0 then ((filter_Depth.f (k + 0) y201).bind fun t206 => (if t206 = 1 then ((rosterlaw12_same.f (k + 0) l l).bind fun t207 => (some t207)) else (some false))) else (some false)) else (some false)))) = some true
    rw [Option.bind_some, c1, Option.bind_some, if_pos rfl, if_pos rfl, one_depth _ (by omega), Option.bind_some, if_pos rfl, same_f l h _ (by omega)]
    rfl
  | succ j ih =>
    intro i k hi hk
    have g : (i : Int) ≤ (l.length : Int) := by omega
    have g0 : (0 : Int) ≤ i := by omega
    have ht := ok_take l h i
    obtain ⟨e, a, c1, c2⟩ := chk_f (l.take i) ht (k + j + 1) (k + j + 1) (by omega) (by omega)
    obtain ⟨r, d1, d2⟩ := depth_f (l.take i) ht.len (k + j + 1) (by omega)
    rw [show k + (j + 1) + 1 = (k + j + 1) + 1 by omega]
    have R := rosterlaw12_FilterChecks.l0.eq_2 l l (i : Int) (k + j + 1)
    rw [if_pos g, if_pos g0, Int.toNat_natCast, c1, Option.bind_some, if_pos g, c2, Option.bind_some, if_pos rfl, if_pos rfl, d1, Option.bind_some, d2, Option.bind_some, if_pos rfl, wr i (by omega)] at R
    rw [R]
    exact ih (i + 1) k (by omega) hk
theorem law (l : List N) (h : ok l) : ∃ k, rosterlaw12_FilterChecks.f k l = some true := by
  have hl := h.len
  refine ⟨8000000 + (l.length + 1) + 1, ?_⟩
  unfold rosterlaw12_FilterChecks.f
  rw [cop_f _ (by omega) l h, Option.bind_some]
  exact law_l l h (l.length + 1) 0 8000000 (by omega) (by omega)
/-! the row's kinds -/
abbrev TN := TyFilterChecks.T34
def up (x : TN) : N := ⟨x.1, x.2.1, x.2.2.1, x.2.2.2.1, ⟨x.2.2.2.2.1.1, x.2.2.2.2.1.2.1, x.2.2.2.2.1.2.2⟩, x.2.2.2.2.2.1, x.2.2.2.2.2.2⟩
theorem up_C {w : World} {A : Option Addr} {n : Nat} {xs : List TN} (h : Kd.C TyFilterChecks.k34 w A n xs) : Kd.C k34 w A n (xs.map up) := by
  obtain ⟨h1, h2, h3⟩ := h
  refine ⟨by rw [List.length_map]; exact h1, h2, fun hn => ?_⟩
  obtain ⟨ad, e, hc⟩ := h3 hn
  refine ⟨ad, e, fun j p hj => ?_⟩
  rw [List.getElem?_map] at hj
  obtain ⟨q, hq, rfl⟩ := Option.map_eq_some_iff.1 hj
  obtain ⟨c, g1, g2, g3⟩ := hc j q hq
  exact ⟨c, g1, g2, g3⟩
theorem sum_len {α : Type} (l : List α) (f : α → Nat) (hf : ∀ x, 1 ≤ f x) : l.length ≤ (l.map f).sum := by
  induction l with
  | nil => simp
  | cons x r ih => have := hf x; simp only [List.map_cons, List.sum_cons, List.length_cons]; omega
theorem sum_mem {α : Type} (l : List α) (f : α → Nat) (x : α) (h : x ∈ l) : f x ≤ (l.map f).sum := by
  induction l with
  | nil => cases h
  | cons y r ih =>
    simp only [List.map_cons, List.sum_cons]
    rcases List.mem_cons.1 h with rfl | h
    · omega
    · have := ih h; omega
theorem ok_of (l : List TN) (hb : (l.map TyFilterChecks.bulk34).sum + 1 ≤ 1048576) : ok (l.map up) := by
  have hf : ∀ x : TN, 1 ≤ TyFilterChecks.bulk34 x := fun x => by unfold TyFilterChecks.bulk34; omega
  refine ⟨by rw [List.length_map]; have := sum_len l _ hf; omega, fun i hi => ?_⟩
  rw [List.length_map] at hi
  have e : rd_T34 (l.map up) (i : Int) = up l[i] := by
    unfold rd_T34
    rw [Int.toNat_natCast, List.getD_eq_getElem?_getD, List.getElem?_map, List.getElem?_eq_getElem hi]
    rfl
  rw [e]
  have h1 := sum_mem l TyFilterChecks.bulk34 l[i] (List.getElem_mem _)
  generalize l[i] = x at h1 ⊢
  have h0 : TyFilterChecks.bulk34 x = 1 + TyFilterChecks.bulk3 x.1 + TyFilterChecks.bulk29 x.2.1 + (x.2.2.1.size + 1) + (x.2.2.2.1.size + 1) + (1 + (x.2.2.2.2.1.1.size + 1) + ((x.2.2.2.2.1.2.1.map fun s => s.size + 1).sum + 1) + (x.2.2.2.2.1.2.2.size + 1)) + (x.2.2.2.2.2.1.size + 1) + TyFilterChecks.bulk4 x.2.2.2.2.2.2 := rfl
  have h3 := sum_len x.2.2.2.2.1.2.1 (fun s => s.size + 1) (fun s => by omega)
  show x.2.2.1.size ≤ 1048576 ∧ x.2.2.2.2.2.1.size ≤ 1048576 ∧ x.2.2.2.2.1.2.1.length ≤ 1048576
  omega
theorem FilterChecks (w : World) (hL : laidMetH Tryd.prog Rows.filterChecksUptoRow.laid w) (A0 : Option Addr) (c0 : Nat) (l0 : List TN) (hc0 : l0.length ≤ c0) (hr0 : Kd.C TyFilterChecks.k34 w A0 l0.length l0) (hw0 : TyFilterChecks.wf23 l0) (hb0 : TyFilterChecks.bulk23 l0 ≤ 1048576) :
    Calls Tryd.prog 3 #[.slice A0 l0.length c0] w fun en w' => en = .returned (.bool true) ∧ Below w.heap.size w w' := by
  obtain ⟨k, h⟩ := law (l0.map up) (ok_of l0 hb0)
  have e0 : (l0.map up).length = l0.length := List.length_map _
  have hq := rosterlaw12_FilterChecks.calls k A0 c0 (l0.map up) true w (by rw [e0]; exact up_C hr0) (by rw [e0]; exact hc0) h (W.TabW.of hL)
  rw [e0] at hq
  exact hq
end Go.Proofs.YtlhffhhbnoikoaaDoor.Pure
