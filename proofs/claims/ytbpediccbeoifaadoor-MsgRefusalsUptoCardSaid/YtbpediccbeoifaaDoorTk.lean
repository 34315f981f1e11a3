/- What the card's list gives MsgRefusals: the table of kinds, the map of kinds, in whatever later world. -/
import Derived.Test.YtbpediccbeoifaaDoorRows
import Derived.OpenShut
import Derived.WalkKit
import Derived.ProofKit
import Derived.Lib.LaidTab
import Derived.Below
import Derived.Maps.OwnSet
import Derived.ChangeBears2
namespace Go.Proofs.YtbpediccbeoifaaDoor.W
open Go.ChangeShapes Go.WideShapes Go.ChangeAt Go.RowKit Go.WideElems Go.Maps
set_option linter.unusedVariables false
def kindsL : List Int := [0, -1, 2, 3, 4, 5, 6, 7, -1, 8]
/-- The kind that answers a kind. -/
def toOf (k : Int) : Int := if k = 9 then 8 else k
def hasTo (k : Int) : Bool := k == 0 || k == 2 || k == 3 || k == 4 || k == 5 || k == 6 || k == 7 || k == 9
abbrev repD : DataW Unit := Rows.laid_roster_msg_replyTo
theorem rep_at (k : Int) (z : DataW Unit) : repD.atKey (.int .i64 k) z = if hasTo k then .lit (.int .i64 (toOf k)) else z := by
  unfold hasTo
  by_cases h0 : k = 0; · subst h0; rfl
  by_cases h2 : k = 2; · subst h2; rfl
  by_cases h3 : k = 3; · subst h3; rfl
  by_cases h4 : k = 4; · subst h4; rfl
  by_cases h5 : k = 5; · subst h5; rfl
  by_cases h6 : k = 6; · subst h6; rfl
  by_cases h7 : k = 7; · subst h7; rfl
  by_cases h9 : k = 9; · subst h9; rfl
  simp [repD, Rows.laid_roster_msg_replyTo, DataW.atKey, Lit.sameKey, h0, h2, h3, h4, h5, h6, h7, h9, Ne.symm h0, Ne.symm h2, Ne.symm h3, Ne.symm h4, Ne.symm h5, Ne.symm h6, Ne.symm h7, Ne.symm h9]
/-- Both tables lie in the world. -/
structure TabR (w : World) : Prop where
  kinds : ∀ i : Nat, i < 10 → w.cell? ⟨0, i, none⟩ = some (.int .i64 (kindsL.getD i 0))
  map : ∃ bm n, w.cell? ⟨1, 0, none⟩ = some (.map (some bm)) ∧ w.ownsMap Tryd.prog 22 (plainElem Tryd.prog 37) bm n repD
  size : 2 ≤ w.heap.size
theorem TabR.below {B : Nat} {w w' : World} (h : TabR w) (hb : Below B w w') (hB : w.heap.size ≤ B) : TabR w' := by
  have hs := h.size
  have h0 : ∀ (g i : Nat) (u : Value), g < 2 → w.cell? ⟨g, i, none⟩ = some u → w'.cell? ⟨g, i, none⟩ = some u := fun g i u hg hp => by
    rw [← hp]
    have := hb.block g (by omega)
    simp [World.cell?, this]
  have hs' : 2 ≤ w'.heap.size := by
    have := hb.size
    omega
  refine ⟨fun i hi => h0 _ _ _ (by omega) (h.kinds i hi), ?_, hs'⟩
  obtain ⟨bm, n, hc, es, clock, hb', F, hle, hD⟩ := h.map
  exact ⟨bm, n, h0 _ _ _ (by omega) hc, es, clock, (hb.block bm (Nat.lt_of_lt_of_le (lt_of_block hb') hB)).trans hb', F, hle, hD⟩
theorem of_laid {W : World} (h : laidMetH Tryd.prog [("roster/rosterref13.kinds", Rows.laid_roster_rosterref13_kinds), ("roster/msg.replyTo", Rows.laid_roster_msg_replyTo)] W) : TabR W := by
  have h' : laidMet Tryd.prog [("roster/rosterref13.kinds", Rows.laid_roster_rosterref13_kinds), ("roster/msg.replyTo", Rows.laid_roster_msg_replyTo)] W := h
  clear h
  obtain ⟨ps, ⟨g0, t0, cs0, f0, p0, q0, hg0, ht0, hv0, hd0, ⟨g1, t1, cs1, f1, p1, q1, hg1, ht1, hv1, hd1, _, _⟩, _⟩, _⟩ := h'
  obtain rfl := Option.some.inj ((show Tryd.prog.globalNamed "roster/rosterref13.kinds" = some 0 by kernel_rfl).symm.trans hg0)
  obtain rfl := Option.some.inj ((show Tryd.prog.globalNamed "roster/msg.replyTo" = some 1 by kernel_rfl).symm.trans hg1)
  obtain rfl := Option.some.inj ((show (Tryd.prog.globals[0]?).map (·.type) = some 50 by kernel_rfl).symm.trans ht0)
  obtain rfl := Option.some.inj ((show (Tryd.prog.globals[1]?).map (·.type) = some 60 by kernel_rfl).symm.trans ht1)
  have hcs := Lib.cells_of_tab (zs := kindsL) Tryd.underlying50 Tryd.underlying3 (by kernel_rfl) (by kernel_rfl) hd0
  rcases open_map Tryd.underlying60 hd1 with ⟨_, hx⟩ | ⟨bm, es, clock, m, rfl, hcs1, hb, _, F, hx⟩
  · have := congrArg Prod.fst hx
    cases this
  have hm := World.ownsMap_of_fit (R := plainElem Tryd.prog 37) hb F (fun x _ z hz => elemAt_plainElem_int Tryd.underlying37 hz)
  have hc1 : W.cell? ⟨1, 0, none⟩ = some (.map (some bm)) := by
    have := World.var?_cell hg1 hv1 0
    rw [show cs1 = #[.map (some bm)] by cases cs1; simp_all] at this
    simpa using this
  simp only [Prod.mk.injEq] at hx
  rw [← hx.1] at hm
  refine ⟨fun i hi => ?_, ⟨bm, _, hc1, hm⟩, ?_⟩
  · have h2 := World.var?_cell hg0 hv0 i
    rw [← Array.getElem?_toList, hcs] at h2
    refine h2.trans ?_
    match i, hi with
    | 0, _ => rfl
    | 1, _ => rfl
    | 2, _ => rfl
    | 3, _ => rfl
    | 4, _ => rfl
    | 5, _ => rfl
    | 6, _ => rfl
    | 7, _ => rfl
    | 8, _ => rfl
    | 9, _ => rfl
  · apply Classical.byContradiction
    intro hn
    have e : W.heap[1]? = none := Array.getElem?_eq_none (by omega)
    simp [World.cell?, e] at hc1
theorem look_ok (k : Int) (hk : (Lit.int .i64 k).wf = true) {w : World} {bm n : Nat} (h : w.ownsMap Tryd.prog 22 (plainElem Tryd.prog 37) bm n repD) :
    (Instr.lookup 60 (.map (some bm)) (.int .i64 k) true).run Tryd.prog w = .ok (.tuple #[.int .i64 (if hasTo k then toOf k else 0), .bool (hasTo k)]) w := by
  obtain ⟨es, clock, hb, F, _, hD⟩ := h
  have hz : (zeroValue 37).run Tryd.prog w = .ok (.int .i64 0) w := by kernel_rfl
  have K : Keyed Tryd.prog 22 := int_keyed Tryd.underlying22
  rcases Maps.fit_look true K Tryd.underlying60 hz hb F (keyOf_int_mk Tryd.underlying22 hk) with ⟨hrun, _, hat⟩ | ⟨e0, y, _, _, hrun, hRv, hat, _⟩
  · rw [← hD] at hat
    have h1 := hat .nil
    rw [rep_at] at h1
    cases hh : hasTo k with
    | true => rw [hh] at h1; cases h1
    | false => simpa using hrun
  · rw [← hD] at hat
    obtain ⟨c, hc, hc2, _⟩ := plainElem_int_inv Tryd.underlying37 hRv
    have h1 := hat .nil
    rw [rep_at] at h1
    cases hh : hasTo k with
    | false => rw [hh, hc2] at h1; cases h1
    | true =>
      rw [hh, hc2] at h1
      injection h1 with h1
      injection h1 with h1 h2
      rw [hc, ← h2] at hrun
      simpa using hrun
end Go.Proofs.YtbpediccbeoifaaDoor.W
