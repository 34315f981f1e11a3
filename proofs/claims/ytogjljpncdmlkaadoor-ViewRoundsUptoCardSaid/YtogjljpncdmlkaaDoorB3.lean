/- Texts of this claim in one: Fz, Fy, Rw, TyViewRounds, GOx0, GXx0 -/
import Derived.Test.YtogjljpncdmlkaaDoorB0
import Derived.Test.YtogjljpncdmlkaaDoorRows
import Derived.ChangeSlices
import Derived.DataElems
import Derived.Lib.SmallJoins
import Derived.Test.YtogjljpncdmlkaaDoorProg
import Derived.ChangeArms
import Derived.WalkKit
import Derived.Below
import Derived.Test.YtogjljpncdmlkaaDoorB1
import Derived.Deep.Draws
import Derived.Deep.AppendLies
import Derived.Maps.AppendAt
import Derived.OwnWalk
import Derived.Laws.BytesArg
import Derived.Laws.MakeOwn
import Derived.Laws.OwnMore
import Derived.Deep.OwnRows
import Derived.Tactics
import Derived.Lib.ConvBytes
import Derived.Laws.Slices
import Derived.KernelRfl
import Derived.RowKit3
import Derived.Deep.LoopGhost
import Derived.Deep.QuietTactic
import Derived.BigQuiet
import Derived.WideLaws
import Derived.Deep.DeepCutAuto
import Derived.Deep.CutBlock
import Derived.Deep.RegionHeld3
import Derived.Laws.Rows
import Derived.Lib.AppendStr
import Derived.ArgAppend
import Derived.Laws.IdiomCopy
import Derived.OrdersHeld
import Derived.Laws.BitsLemmas
import Derived.RowKit
import Derived.Test.YtogjljpncdmlkaaDoorB2
section
namespace Go.Proofs.YtogjljpncdmlkaaDoor
open Go.RowKit Go.Proofs.YtogjljpncdmlkaaDoorW.PrintWords
set_option linter.unusedVariables false
theorem cells3_ {w : World} {g : Nat} {t : TypeId} {c0 c1 c2 : Value} (h : w.heap[g]? = some (.cells #[c0, c1, c2] t (0, 0))) : w.cell? ⟨g, 0, none⟩ = some c0 ∧ w.cell? ⟨g, 1, none⟩ = some c1 ∧ w.cell? ⟨g, 2, none⟩ = some c2 := ⟨(blk_cell h 0).trans rfl, (blk_cell h 1).trans rfl, (blk_cell h 2).trans rfl⟩
theorem frz3_ {w : World} {g : Nat} {t : TypeId} {cs : Array Value} (h : w.heap[g]? = some (.cells cs t (0, 0))) : w.frozen? ⟨g, 0, none⟩ = false ∧ w.frozen? ⟨g, 1, none⟩ = false ∧ w.frozen? ⟨g, 2, none⟩ = false := ⟨blk_frozen h 0, blk_frozen h 1, blk_frozen h 2⟩
theorem put3_ {w : World} {g : Nat} {t : TypeId} {c0 c1 c2 v0 v1 v2 : Value} (h : w.heap[g]? = some (.cells #[c0, c1, c2] t (0, 0))) : (((w.setCell ⟨g, 0, none⟩ v0).setCell ⟨g, 1, none⟩ v1).setCell ⟨g, 2, none⟩ v2).heap[g]? = some (.cells #[v0, v1, v2] t (0, 0)) := (blk_put (cs' := #[v0, v1, v2]) (blk_put (cs' := #[v0, v1, c2]) (blk_put (cs' := #[v0, c1, c2]) h 0 v0 rfl) 1 v1 rfl) 2 v2 rfl)
theorem Rfar3_ {α : Type} {d : Kd α} {e : TypeId} {w : World} {base : Nat} {ok : Nat → Prop} {v : Value} {xs : List α} {g : Nat} {v0 v1 v2 : Value} (h : d.R e w base ok v xs) (hok : ∀ k, ok k → k ≠ g) : d.R e (((w.setCell ⟨g, 0, none⟩ v0).setCell ⟨g, 1, none⟩ v1).setCell ⟨g, 2, none⟩ v2) base ok v xs := (Kd.R_far (p := ⟨g, 2, none⟩) (Kd.R_far (p := ⟨g, 1, none⟩) (Kd.R_far (p := ⟨g, 0, none⟩) h hok v0) hok v1) hok v2)
theorem cells5_ {w : World} {g : Nat} {t : TypeId} {c0 c1 c2 c3 c4 : Value} (h : w.heap[g]? = some (.cells #[c0, c1, c2, c3, c4] t (0, 0))) : w.cell? ⟨g, 0, none⟩ = some c0 ∧ w.cell? ⟨g, 1, none⟩ = some c1 ∧ w.cell? ⟨g, 2, none⟩ = some c2 ∧ w.cell? ⟨g, 3, none⟩ = some c3 ∧ w.cell? ⟨g, 4, none⟩ = some c4 := ⟨(blk_cell h 0).trans rfl, (blk_cell h 1).trans rfl, (blk_cell h 2).trans rfl, (blk_cell h 3).trans rfl, (blk_cell h 4).trans rfl⟩
theorem frz5_ {w : World} {g : Nat} {t : TypeId} {cs : Array Value} (h : w.heap[g]? = some (.cells cs t (0, 0))) : w.frozen? ⟨g, 0, none⟩ = false ∧ w.frozen? ⟨g, 1, none⟩ = false ∧ w.frozen? ⟨g, 2, none⟩ = false ∧ w.frozen? ⟨g, 3, none⟩ = false ∧ w.frozen? ⟨g, 4, none⟩ = false := ⟨blk_frozen h 0, blk_frozen h 1, blk_frozen h 2, blk_frozen h 3, blk_frozen h 4⟩
theorem put5_ {w : World} {g : Nat} {t : TypeId} {c0 c1 c2 c3 c4 v0 v1 v2 v3 v4 : Value} (h : w.heap[g]? = some (.cells #[c0, c1, c2, c3, c4] t (0, 0))) : (((((w.setCell ⟨g, 0, none⟩ v0).setCell ⟨g, 1, none⟩ v1).setCell ⟨g, 2, none⟩ v2).setCell ⟨g, 3, none⟩ v3).setCell ⟨g, 4, none⟩ v4).heap[g]? = some (.cells #[v0, v1, v2, v3, v4] t (0, 0)) := (blk_put (cs' := #[v0, v1, v2, v3, v4]) (blk_put (cs' := #[v0, v1, v2, v3, c4]) (blk_put (cs' := #[v0, v1, v2, c3, c4]) (blk_put (cs' := #[v0, v1, c2, c3, c4]) (blk_put (cs' := #[v0, c1, c2, c3, c4]) h 0 v0 rfl) 1 v1 rfl) 2 v2 rfl) 3 v3 rfl) 4 v4 rfl)
theorem isEmpty_ne_ (l : List UInt8) : l.isEmpty = !(l != []) := by cases l <;> rfl
theorem cellB_ {w w' : World} {a : Addr} {v : Value} (hb : Below w.heap.size w w') (h : w.cell? a = some v) : w'.cell? a = some v := (hb.cell (World.block_lt_of_cell? w _ h)).trans h
end Go.Proofs.YtogjljpncdmlkaaDoor
end
section
-- Written for this claim by a program of this session (wip/tools/shrink.py): proofs that stand often in the printed texts, each under a short name.
namespace Go.Proofs.YtogjljpncdmlkaaDoor
theorem q1_ {p : Prop} (h : p := by repeat (first | (with_reducible first | exact HB.out | apply below_alloc | apply pw_below_drewN | apply below_drew1) | exact HB.out)) : p := h
theorem q2_ {p : Prop} (h : p := by omega) : p := h
theorem q3_ {p : Prop} (h : p := by first | rfl | (simp; done) | (simp [*]; done) | (simp [isEmpty_ne_]; done)) : p := h
theorem q4_ {p : Prop} (h : p := by first | (with_reducible assumption) | assumption) : p := h
theorem q5_ {p : Prop} (h : p := by repeat (first | (with_reducible first | exact HB.out | apply below_alloc | apply pw_below_drewN | apply below_drew1 | refine below_set ?_ GE118.out) | exact HB.out)) : p := h
theorem q6_ {p : Prop} (h : p := by first | rfl | (simp [isEmpty_ne_]; done) | (simp [*, errW_none, errW_some] <;> rfl)) : p := h
theorem q7_ {p : Prop} (h : p := by repeat (first | (with_reducible first | exact HB.out | apply below_alloc | apply pw_below_drewN | apply below_drew1 | refine below_set ?_ GE101.out | refine below_set ?_ GE102.out) | exact HB.out)) : p := h
theorem q8_ {p : Prop} (h : p := by (with_reducible repeat (first | refine blk_drewN ?_ _ | refine blk_drew ?_ | refine blk_alloc ?_ _)); refine blk_put (cs := #[.int .u8 128, .int .u8 0]) ?_ 1 _ rfl; (with_reducible repeat (first | refine blk_drewN ?_ _ | refine blk_drew ?_ | refine blk_alloc ?_ _)); refine blk_put (cs := #[.int .u8 0, .int .u8 0]) ?_ 0 _ rfl; (with_reducible repeat (first | refine blk_drewN ?_ _ | refine blk_drew ?_ | refine blk_alloc ?_ _)); exact BK101.out) : p := h
theorem q9_ {p : Prop} (h : p := by repeat (first | (with_reducible first | exact HB.out | apply below_alloc | apply pw_below_drewN | apply below_drew1 | refine below_set ?_ GE107.out) | exact HB.out)) : p := h
theorem q10_ {p : Prop} (h : p := by assumption) : p := h
theorem q11_ {p : Prop} (h : p := by (with_reducible repeat (first | apply Kd.R_alloc | apply Kd.R_drewN | apply Kd.R_drew)); exact HO_9.out) : p := h
theorem q12_ {p : Prop} (h : p := by (with_reducible repeat (first | refine blk_drewN ?_ _ | refine blk_drew ?_ | refine blk_alloc ?_ _)); exact BK118.out) : p := h
theorem q13_ {p : Prop} (h : p := by kernel_rfl) : p := h
theorem q14_ {p : Prop} (h : p := by decide) : p := h
theorem q15_ {p : Prop} (h : p := by (with_reducible repeat (first | apply Kd.R_alloc | apply Kd.R_drewN | apply Kd.R_drew)); exact HO_4.out) : p := h
theorem q16_ {p : Prop} (h : p := by (with_reducible repeat (first | refine blk_drewN ?_ _ | refine blk_drew ?_ | refine blk_alloc ?_ _)); refine blk_put (cs := #[.int .u8 128, .int .u8 0]) ?_ 1 _ rfl; (with_reducible repeat (first | refine blk_drewN ?_ _ | refine blk_drew ?_ | refine blk_alloc ?_ _)); refine blk_put (cs := #[.int .u8 0, .int .u8 0]) ?_ 0 _ rfl; (with_reducible repeat (first | refine blk_drewN ?_ _ | refine blk_drew ?_ | refine blk_alloc ?_ _)); exact BK102.out) : p := h
theorem q17_ {p : Prop} (h : p := by (with_reducible repeat (first | refine blk_drewN ?_ _ | refine blk_drew ?_ | refine blk_alloc ?_ _)); exact BK101.out) : p := h
theorem q18_ {p : Prop} (h : p := by (with_reducible repeat (first | refine blk_drewN ?_ _ | refine blk_drew ?_ | refine blk_alloc ?_ _)); refine blk_far ?_ NB101_102.out _; (with_reducible repeat (first | refine blk_drewN ?_ _ | refine blk_drew ?_ | refine blk_alloc ?_ _)); refine blk_far ?_ NB101_102.out _; (with_reducible repeat (first | refine blk_drewN ?_ _ | refine blk_drew ?_ | refine blk_alloc ?_ _)); exact BK101.out) : p := h
theorem q19_ {p : Prop} (h : p := by repeat (first | (with_reducible first | exact HB.out | apply below_alloc | apply pw_below_drewN | apply below_drew1 | refine below_set ?_ GE101.out) | exact HB.out)) : p := h
theorem q20_ {p : Prop} (h : p := by repeat (first | exact Drawn0.refl _ | apply Drawn0.step)) : p := h
theorem q21_ {p : Prop} (h : p := by simp) : p := h
theorem q22_ {p : Prop} (h : p := by simp; omega) : p := h
theorem q23_ {p : Prop} (h : p := by (with_reducible repeat (first | refine blk_drewN ?_ _ | refine blk_drew ?_ | refine blk_alloc ?_ _)); refine blk_put (cs := #[.int .u8 t104, .int .u8 0]) ?_ 1 _ rfl; (with_reducible repeat (first | refine blk_drewN ?_ _ | refine blk_drew ?_ | refine blk_alloc ?_ _)); refine blk_put (cs := #[.int .u8 0, .int .u8 0]) ?_ 0 _ rfl; (with_reducible repeat (first | refine blk_drewN ?_ _ | refine blk_drew ?_ | refine blk_alloc ?_ _)); exact BK107.out) : p := h
theorem q24_ {p : Prop} (h : p := by have := HK1.out; have := HJ4.out; have := HK3.out; have := HJ25.out; have := HJ31.out; have := HJ39.out; have := HJ54.out; have := HJ63.out; have := HJ66.out; first | omega | exact Nat.le_refl _) : p := h
theorem q25_ {p : Prop} (h : p := by clear e; omega) : p := h
theorem q26_ {p : Prop} (h : p := by (with_reducible repeat (first | apply Kd.R_alloc | apply Kd.R_drewN | apply Kd.R_drew)); exact HO133.out) : p := h
theorem q27_ {p : Prop} (h : p := by have := HK1.out; have := HJ4.out; have := HK3.out; have := HJ25.out; have := HJ31.out; first | omega | exact Nat.le_refl _) : p := h
theorem q28_ {p : Prop} (h : p := by (with_reducible repeat (first | refine blk_drewN ?_ _ | refine blk_drew ?_ | refine blk_alloc ?_ _)); exact BK102.out) : p := h
theorem q29_ {p : Prop} (h : p := by (with_reducible repeat (first | apply Kd.R_alloc | apply Kd.R_drewN | apply Kd.R_drew)); exact HO106.out) : p := h
theorem q30_ {p : Prop} (h : p := by rfl) : p := h
theorem q31_ {p : Prop} (h : p := by have := HK1.out; have := HJ4.out; have := HK3.out; have := HJ25.out; have := HJ31.out; have := HJ39.out; have := HJ54.out; have := HJ63.out; first | omega | exact Nat.le_refl _) : p := h
theorem q32_ {p : Prop} (h : p := by have := HK1.out; first | omega | exact Nat.le_refl _) : p := h
theorem q33_ {p : Prop} (h : p := by have := HK1.out; have := HJ4.out; have := HK3.out; have := HJ25.out; have := HJ31.out; have := HJ39.out; have := HJ54.out; first | omega | exact Nat.le_refl _) : p := h
theorem q34_ {p : Prop} (h : p := by (with_reducible repeat (first | apply Kd.R_alloc | apply Kd.R_drewN | apply Kd.R_drew)); exact HO136.out) : p := h
theorem q35_ {p : Prop} (h : p := by first | exact Kd.R_nil _ _ _ _ _ | exact Kd.N_nil _ _ _ _ _ | exact Kd.V_nil _ _ _ _ _ | exact Kd.Q_nil _ _ _ _ _ | exact Kd.S_nil _ _ _ _ _) : p := h
theorem q36_ {p : Prop} (h : p := by have := HK1.out; have := HJ4.out; have := HK3.out; have := HJ25.out; have := HJ31.out; have := HJ39.out; first | omega | exact Nat.le_refl _) : p := h
theorem q37_ {p : Prop} (h : p := by have := HK1.out; have := HJ4.out; have := HK3.out; first | omega | exact Nat.le_refl _) : p := h
theorem q38_ {p : Prop} (h : p := by simp [results, Tryd.results14, go_sem]) : p := h
theorem q39_ {p : Prop} (h : p := by (with_reducible repeat (first | refine blk_drewN ?_ _ | refine blk_drew ?_ | refine blk_alloc ?_ _)); exact BK107.out) : p := h
theorem q40_ {p : Prop} (h : p := by first | omega | exact Nat.le_refl _) : p := h
theorem q41_ {p : Prop} (h : p := by have := HK1.out; have := HJ4.out; have := HK3.out; omega) : p := h
theorem q42_ {p : Prop} (h : p := by (try simp only [List.map_toArray, List.map_cons, List.map_nil]); first | done | rfl | (simp only [List.length_drop, List.length_take]; rfl) | exact congrArg (fun n_ : Nat => #[Value.slice _ n_ _]) (Eq.trans (Aside0.out q10_) (Eq.symm (Aside0.out q10_))) | exact congrArg (fun n_ : Nat => #[Value.slice _ n_ _, Value.slice _ _ _]) (Eq.trans (Aside0.out q10_) (Eq.symm (Aside0.out q10_)))) : p := h
theorem q43_ {p : Prop} (h : p := by repeat (first | (with_reducible first | exact HB.out | apply below_alloc | apply pw_below_drewN | apply below_drew1) | exact HB.out | refine below_set ?_ (Aside0.out q10_) | exact Below.refl _ _)) : p := h
theorem q44_ {p : Prop} (h : p := by have : (1 : Int) < (a0.size : Int) := of_decide_eq_true q4_; omega) : p := h
theorem q45_ {p : Prop} (h : p := by (with_reducible repeat (first | apply Kd.R_alloc | apply Kd.R_drewN | apply Kd.R_drew)); exact (Kd.R_mono (Rfar3_ (g := gb118) (Kd.R_types HO_4.out BK118.out q14_) (fun _ hk => hk.2)) (fun _ h_ => h_.1))) : p := h
theorem q46_ {p : Prop} (h : p := by have : (2 : Int) < (a0.size : Int) := of_decide_eq_true q4_; omega) : p := h
theorem q47_ {p : Prop} (h : p := by (with_reducible repeat (first | refine blk_drewN ?_ _ | refine blk_drew ?_ | refine blk_alloc ?_ _)); exact put3_ q12_) : p := h
end Go.Proofs.YtogjljpncdmlkaaDoor
end
section
namespace Go.Proofs.YtogjljpncdmlkaaDoor.Rw
open Go.ChangeShapes Go.WideShapes Go.Joins Go.Proofs.YtogjljpncdmlkaaDoorW.PrintWords
set_option linter.unusedVariables false
set_option linter.unusedSimpArgs false
theorem part_le {H : Type} {d : DataW H} {l : List (DataW H)} (h : d ∈ l) : Rows.uptoBulk d ≤ Rows.uptoBulkAll l := by
  induction l with
  | nil => cases h
  | cons x r ih =>
    simp only [Rows.uptoBulkAll]
    cases List.mem_cons.1 h with
    | inl e => subst e; omega
    | inr e => have := ih e; omega
theorem bulk_one {H : Type} {d : DataW H} {l : List (DataW H)} (hk : Rows.uptoSmall H l = true) (h : d ∈ l) : Rows.uptoBulk d ≤ 1048576 :=
  Nat.le_trans (part_le h) (of_decide_eq_true hk)
theorem bulk_str {H : Type} {s : ByteArray} {B : Nat} (h : Rows.uptoBulk (DataW.lit (H := H) (.string s.data.toList)) ≤ B) : s.size ≤ B := by
  simp only [Rows.uptoBulk, Array.length_toList] at h
  have : s.data.size = s.size := rfl
  omega
theorem one_le {H : Type} (d : DataW H) : 1 ≤ Rows.uptoBulk d := by
  cases d with
  | lit l => cases l <;> simp [Rows.uptoBulk]
  | _ => simp [Rows.uptoBulk]
theorem length_le {H : Type} (l : List (DataW H)) : l.length ≤ Rows.uptoBulkAll l := by
  induction l with
  | nil => simp [Rows.uptoBulkAll]
  | cons x r ih => have := one_le x; simp only [Rows.uptoBulkAll, List.length_cons]; omega
section
variable {H : Type} {enc : TypeId × Value → H} {P : Program} {w : World} {base : Nat} {spare : Nat → Bool} {held : Bool}
theorem rows_list {α : Type} {ok : α → List Value → Prop} {bulk : α → Nat} {sz : Nat} {a : Addr} {n : Nat} {e : TypeId}
    (hel : ∀ cs y, DataW.trod enc P w base spare held n e cs = some y → ∃ x, ok x cs ∧ bulk x ≤ Rows.uptoBulk y.1) :
    ∀ (elems : List (DataW H × List MemPlace)) (k : Nat), (∀ i y, elems[i]? = some y → (w.cells? base (a.add ((k + i) * sz)) sz).bind (DataW.trod enc P w base spare held n e) = some y) →
    ∃ xs : List α, xs.length = elems.length ∧ (xs.map bulk).sum ≤ Rows.uptoBulkAll (elems.map (·.1)) ∧ (∀ x ∈ xs, ∃ c, ok x c) ∧
      ∀ j p, xs[j]? = some p → ∃ c, c.length = sz ∧ ok p c ∧ ∀ i u, c[i]? = some u → w.cell? (a.add ((k + j) * sz + i)) = some u := by
  intro elems
  induction elems with
  | nil => exact fun k _ => ⟨[], rfl, by simp [Rows.uptoBulkAll], q21_, q21_⟩
  | cons y r ih =>
    intro k hk
    obtain ⟨xs, h1, h2, h3, h4⟩ := ih (k + 1) fun i y hi => by
      have := hk (i + 1) y (by simpa using hi)
      rwa [show k + 1 + i = k + (i + 1) by omega]
    have h0 := hk 0 y rfl
    rw [Nat.add_zero, Option.bind_eq_some_iff] at h0
    obtain ⟨cs, hcs, hy⟩ := h0
    obtain ⟨x, hx, hb⟩ := hel cs y hy
    obtain ⟨_, hl, hc⟩ := World.cells?_some hcs
    refine ⟨x :: xs, by simp [h1], ?_, ?_, ?_⟩
    · simp only [List.map_cons, List.sum_cons, Rows.uptoBulkAll]
      omega
    · intro z hz
      rcases List.mem_cons.1 hz with rfl | hz
      · exact ⟨cs, hx⟩
      · exact h3 z hz
    · intro j p hj
      cases j with
      | zero =>
        simp at hj
        subst hj
        refine ⟨cs, hl, hx, fun i u hi => ?_⟩
        have hi' : i < sz := by rw [← hl]; exact (List.getElem?_eq_some_iff.1 hi).1
        rw [Nat.add_zero, ← Addr.add_add, hc i hi', hi]
      | succ j =>
        obtain ⟨c, g1, g2, g3⟩ := h4 j p (by simpa using hj)
        exact ⟨c, g1, g2, fun i u hi => by rw [show k + (j + 1) = k + 1 + j by omega]; exact g3 i u hi⟩
theorem el_str {t : TypeId} {n : Nat} {cs : List Value} {y : DataW H × List MemPlace} (ht : P.underlying t = some .string) (h : DataW.trod enc P w base spare held n t cs = some y) : ∃ x : ByteArray, cs = [.string x] ∧ x.size + 1 ≤ Rows.uptoBulk y.1 := by
  obtain ⟨x, e, rfl, _⟩ := DataW.trod_string ht h
  refine ⟨x, e, ?_⟩
  simp only [Rows.uptoBulk, Array.length_toList, ByteArray.size_data]
  omega
theorem open_rows {α : Type} {ok : α → List Value → Prop} {bulk : α → Nat} {sz : Nat} {t e : TypeId} {a : Option Addr} {len cap : Nat} {d : DataW H} {ps : List MemPlace}
    (ht : P.underlying t = some (.slice e)) (hc : P.cellsOf e = sz)
    (hel : ∀ n cs y, DataW.trod enc P w base spare held n e cs = some y → ∃ x, ok x cs ∧ bulk x ≤ Rows.uptoBulk y.1)
    (h : DataW.Trod enc P w base spare held t (.slice a len cap) d ps) :
    ∃ xs : List α, xs.length = len ∧ len ≤ cap ∧ cap ≤ maxLen ∧ (xs.map bulk).sum + 1 ≤ Rows.uptoBulk d ∧ (∀ x ∈ xs, ∃ c, ok x c) ∧ len + 1 ≤ Rows.uptoBulk d ∧ ReadsRow ok sz w a len xs := by
  obtain ⟨fuel, hf⟩ := h
  rcases DataW.trod_slice ht hf with ⟨hcs, hx⟩ | ⟨a', len', cap', elems, rest, n, _, hcs, hx, hb, hl, hm, hlen, hel', _, _⟩
  · simp [Value.cells] at hcs
    obtain ⟨rfl, rfl, rfl⟩ := hcs
    obtain ⟨rfl, _⟩ := Prod.mk.inj hx
    exact ⟨[], rfl, Nat.le_refl _, Nat.zero_le _, by simp [Rows.uptoBulk], q21_, by simp [Rows.uptoBulk], rfl, q2_, q2_⟩
  · simp [Value.cells] at hcs
    obtain ⟨rfl, rfl, rfl⟩ := hcs
    obtain ⟨rfl, _⟩ := Prod.mk.inj hx
    rw [hc] at hel'
    obtain ⟨xs, h1, h2, h3, h4⟩ := rows_list (a := a') (hel n) elems 0 fun i y hi => by
      have hi' : i < len := by rw [← hlen]; exact (List.getElem?_eq_some_iff.1 hi).1
      rw [Nat.zero_add, hel' i hi', hi]
    have hL := length_le (elems.map (·.1))
    rw [List.length_map] at hL
    refine ⟨xs, h1.trans hlen, hl, hm, ?_, h3, ?_, h1.trans hlen, ?_, fun _ => ⟨a', rfl, ?_⟩⟩
    · simp only [Rows.uptoBulk]
      omega
    · simp only [Rows.uptoBulk]
      omega
    · have : maxLen = 9223372036854775807 := rfl
      omega
    · intro j p hj
      obtain ⟨c, g1, g2, g3⟩ := h4 j p hj
      exact ⟨c, g1, g2, fun i u hi => by have := g3 i u hi; rwa [Nat.zero_add] at this⟩
end
end Go.Proofs.YtogjljpncdmlkaaDoor.Rw
end
section
-- Written for this claim by a program of this session (wip/tools/rows2.py).
namespace Go.Proofs.YtogjljpncdmlkaaDoor.TyViewRounds
open Go.ChangeShapes Go.WideShapes Go.ChangeAt Go.RowKit Go.Joins Go.Proofs.YtogjljpncdmlkaaDoorW.PrintWords Go.Proofs.YtogjljpncdmlkaaDoor
set_option linter.unusedVariables false
set_option linter.unusedSimpArgs false
/-- What a value of type t that reads is. -/
def Opens {α : Type} (d : Kd α) (wf : α → Prop) (bulk : α → Nat) (t : TypeId) : Prop :=
  ∀ {H : Type} {enc : TypeId × Value → H} {w : World} {base : Nat} {spare : Nat → Bool} {held : Bool} {n : Nat} {cs : List Value} {y : DataW H × List MemPlace}, DataW.trod enc Tryd.prog w base spare held n t cs = some y → ∃ x, d.K w x cs ∧ wf x ∧ bulk x ≤ Rows.uptoBulk y.1
theorem opens_int {t : TypeId} {k : IntKind} (ht : Tryd.prog.underlying t = some (.int k)) : Opens (Kd.int k) (fun x => (Lit.int k x).wf = true) (fun _ => 1) t := by
  intro H enc w base spare held n cs y h
  obtain ⟨x, e, rfl, hw⟩ := DataW.trod_int ht h
  exact ⟨x, e, hw, Rw.one_le _⟩
theorem opens_bool {t : TypeId} (ht : Tryd.prog.underlying t = some .bool) : Opens Kd.bool (fun _ => True) (fun _ => 1) t := by
  intro H enc w base spare held n cs y h
  obtain ⟨x, e, rfl⟩ := DataW.trod_bool ht h
  exact ⟨x, e, trivial, Rw.one_le _⟩
theorem opens_str {t : TypeId} (ht : Tryd.prog.underlying t = some .string) : Opens Kd.string (fun _ => True) (fun x => x.size + 1) t := by
  intro H enc w base spare held n cs y h
  obtain ⟨x, e, hb⟩ := Rw.el_str ht h
  exact ⟨x, e, trivial, hb⟩
theorem opens_slice {α : Type} {d : Kd α} {wf : α → Prop} {bulk : α → Nat} {t e : TypeId} (ht : Tryd.prog.underlying t = some (.slice e)) (hc : Tryd.prog.cellsOf e = d.sz) (hd : Opens d wf bulk e) :
    Opens (Kd.slice e d) (fun l => ∀ x ∈ l, wf x) (fun l => (l.map bulk).sum + 1) t := by
  intro H enc w base spare held n cs y h
  obtain ⟨A, len, cap, rfl⟩ : ∃ A len cap, cs = [.slice A len cap] := by
    rcases DataW.trod_slice ht h with ⟨e, _⟩ | ⟨a, l, c, _, _, _, _, e, _⟩ <;> exact ⟨_, _, _, e⟩
  obtain ⟨l, rfl, hl, hm, hb, hw, hn, hr⟩ := Rw.open_rows (ok := fun x cs => d.K w x cs ∧ wf x) (bulk := bulk) (sz := d.sz) ht hc (fun n cs y h => by
    obtain ⟨x, h1, h2, h3⟩ := hd h
    exact ⟨x, ⟨h1, h2⟩, h3⟩) ⟨n, h⟩
  refine ⟨l, ⟨A, cap, rfl, hl, ReadsRow.imp_ hr (Below.refl _ _) (fun p c hp => hp.1)⟩, fun x hx => ?_, hb⟩
  obtain ⟨c, _, h⟩ := hw x hx
  exact h
abbrev T9 : Type := ByteArray
def k9 : Kd T9 := Kd.string
def wf9 : T9 → Prop := fun _ => True
def bulk9 : T9 → Nat := fun x => x.size + 1
theorem cells9 : Tryd.prog.cellsOf 9 = 1 := by kernel_rfl
theorem op9 : Opens k9 wf9 bulk9 9 := opens_str Tryd.underlying9
abbrev T4 : Type := Bool
def k4 : Kd T4 := Kd.bool
def wf4 : T4 → Prop := fun _ => True
def bulk4 : T4 → Nat := fun _ => 1
theorem cells4 : Tryd.prog.cellsOf 4 = 1 := by kernel_rfl
theorem op4 : Opens k4 wf4 bulk4 4 := opens_bool Tryd.underlying4
abbrev T25 : Type := T9 × T9 × T4
def k25 : Kd T25 := Kd.pair k9 (Kd.pair k9 k4)
def wf25 : T25 → Prop := fun x => wf9 x.1 ∧ wf9 x.2.1 ∧ wf4 x.2.2
def bulk25 : T25 → Nat := fun x => 1 + bulk9 x.1 + bulk9 x.2.1 + bulk4 x.2.2
theorem cells25 : Tryd.prog.cellsOf 25 = 3 := by kernel_rfl
theorem list3 {α : Type} {l : List α} (h : l.length = 3) : ∃ c0 c1 c2, l = [c0, c1, c2] := by
  match l, h with
  | [c0, c1, c2], _ => exact ⟨c0, c1, c2, rfl⟩
theorem op25 : Opens k25 wf25 bulk25 25 := by
  intro H enc w base spare held n cs y h
  obtain ⟨ys, m, _, hy, hl, hn, hf⟩ := DataW.trod_struct Tryd.underlying25 h
  have hl' : cs.length = 3 := hl.trans cells25
  clear hl
  obtain ⟨c0, c1, c2, rfl⟩ := list3 hl'
  obtain ⟨y0, y1, y2, rfl⟩ := list3 (hn.trans (by kernel_rfl) : ys.length = 3)
  subst hy
  have t0 : DataW.trod enc Tryd.prog w base spare held m 9 (([c0, c1, c2].drop 0).take (Tryd.prog.cellsOf 9)) = [y0, y1, y2][0]? := hf 0 _ rfl
  rw [cells9] at t0
  replace t0 : DataW.trod enc Tryd.prog w base spare held m 9 [c0] = some y0 := t0
  obtain ⟨x0, k0_, w0, b0⟩ := op9 t0
  have t1 : DataW.trod enc Tryd.prog w base spare held m 9 (([c0, c1, c2].drop 1).take (Tryd.prog.cellsOf 9)) = [y0, y1, y2][1]? := hf 1 _ rfl
  rw [cells9] at t1
  replace t1 : DataW.trod enc Tryd.prog w base spare held m 9 [c1] = some y1 := t1
  obtain ⟨x1, k1_, w1, b1⟩ := op9 t1
  have t2 : DataW.trod enc Tryd.prog w base spare held m 4 (([c0, c1, c2].drop 2).take (Tryd.prog.cellsOf 4)) = [y0, y1, y2][2]? := hf 2 _ rfl
  rw [cells4] at t2
  replace t2 : DataW.trod enc Tryd.prog w base spare held m 4 [c2] = some y2 := t2
  obtain ⟨x2, k2_, w2, b2⟩ := op4 t2
  refine ⟨(x0, x1, x2), ⟨[c0], [c1, c2], rfl, k0_, ⟨[c1], [c2], rfl, k1_, k2_⟩⟩, ⟨w0, w1, w2⟩, ?_⟩
  simp only [Rows.uptoBulk, Rows.uptoBulkAll, List.map_cons, List.map_nil]
  show 1 + bulk9 x0 + bulk9 x1 + bulk4 x2 ≤ _
  omega
abbrev T22 : Type := List T25
def k22 : Kd T22 := Kd.slice 25 k25
def wf22 : T22 → Prop := fun l => ∀ x ∈ l, wf25 x
def bulk22 : T22 → Nat := fun l => (l.map bulk25).sum + 1
theorem cells22 : Tryd.prog.cellsOf 22 = 1 := by kernel_rfl
theorem op22 : Opens k22 wf22 bulk22 22 := opens_slice Tryd.underlying22 (by kernel_rfl) op25
abbrev T3 : Type := Int
def k3 : Kd T3 := Kd.int .i64
def wf3 : T3 → Prop := fun x => (Lit.int .i64 x).wf = true
def bulk3 : T3 → Nat := fun _ => 1
theorem cells3 : Tryd.prog.cellsOf 3 = 1 := by kernel_rfl
theorem op3 : Opens k3 wf3 bulk3 3 := opens_int Tryd.underlying3
end Go.Proofs.YtogjljpncdmlkaaDoor.TyViewRounds
end
section
namespace Go.Proofs.YtogjljpncdmlkaaDoor.GO
open Go.RowKit Go.Proofs.YtogjljpncdmlkaaDoorW.PrintWords Go.Proofs.YtogjljpncdmlkaaDoorW.PrintLast Go.Proofs.YtogjljpncdmlkaaDoorW.PrintMore
attribute [local go_sem] max2_int min2_int max_two min_two max_three min_three max_four min_four   -- for this text's walks alone
set_option linter.unusedVariables false
set_option linter.unusedSimpArgs false
def errW : Option Int → Value
 | none => .nilIface
 | some c => .iface 0 (.int .i64 c)
theorem errW_none : errW none = .nilIface := rfl
theorem errW_some (c : Int) : errW (some c) = .iface 0 (.int .i64 c) := rfl
theorem info5 : (Tryd.prog.info? 5).map (fun i => (i.zero, i.size, i.bytes)) = some (some (.int .u8 0), 1, 1) := by kernel_rfl
theorem info25 : (Tryd.prog.info? 25).map (fun i => (i.zero, i.size, i.bytes)) = some (some (.agg #[(.string ⟨#[]⟩), (.string ⟨#[]⟩), (.bool false)]), 3, 40) := by kernel_rfl
theorem info43 : (Tryd.prog.info? 43).map (fun i => (i.zero, i.size, i.bytes)) = some (some (.agg #[(.int .i64 0), (.int .i64 0), (.bool false), (.int .i64 0), (.string ⟨#[]⟩)]), 5, 48) := by kernel_rfl
structure S43 where
 f0 : Int
 f1 : Int
 f2 : Bool
 f3 : Int
 f4 : ByteArray
def z43 : S43 := ⟨(0 : Int), (0 : Int), false, (0 : Int), (⟨#[]⟩ : ByteArray)⟩
def k43 : Kd S43 := Kd.iso (Kd.pair (Kd.int .i64) (Kd.pair (Kd.int .i64) (Kd.pair Kd.bool (Kd.pair (Kd.int .i64) Kd.string)))) (fun x : S43 => (x.f0, x.f1, x.f2, x.f3, x.f4))
theorem k43_mkM (w : World) (base : Nat) (ok : Nat → Prop) (x : S43)  : k43.M w base ok x [.int .i64 x.f0, .int .i64 x.f1, .bool x.f2, .int .i64 x.f3, .string x.f4] := ⟨[.int .i64 x.f0], [.int .i64 x.f1, .bool x.f2, .int .i64 x.f3, .string x.f4], rfl, rfl, ⟨[.int .i64 x.f1], [.bool x.f2, .int .i64 x.f3, .string x.f4], rfl, rfl, ⟨[.bool x.f2], [.int .i64 x.f3, .string x.f4], rfl, rfl, ⟨[.int .i64 x.f3], [.string x.f4], rfl, rfl, rfl⟩⟩⟩⟩
def rd_T43 (xs : List S43) (i : Int) : S43 := xs.getD i.toNat z43
def rd_L4 (xs : List (List S43)) (i : Int) : (List S43) := xs.getD i.toNat ([] : List S43)
structure S25 where
 f0 : ByteArray
 f1 : ByteArray
 f2 : Bool
def z25 : S25 := ⟨(⟨#[]⟩ : ByteArray), (⟨#[]⟩ : ByteArray), false⟩
def k25 : Kd S25 := Kd.iso (Kd.pair Kd.string (Kd.pair Kd.string Kd.bool)) (fun x : S25 => (x.f0, x.f1, x.f2))
theorem k25_open {w : World} {x : S25} {cs : List Value} (h : k25.K w x cs) : cs = [.string x.f0, .string x.f1, .bool x.f2] := by
 obtain ⟨_, _, rfl, rfl, ⟨_, _, rfl, rfl, rfl⟩⟩ := h
 exact rfl
theorem k25_mkM (w : World) (base : Nat) (ok : Nat → Prop) (x : S25)  : k25.M w base ok x [.string x.f0, .string x.f1, .bool x.f2] := ⟨[.string x.f0], [.string x.f1, .bool x.f2], rfl, rfl, ⟨[.string x.f1], [.bool x.f2], rfl, rfl, rfl⟩⟩
def rd_T25 (xs : List S25) (i : Int) : S25 := xs.getD i.toNat z25
theorem at_T25 {w : World} {A : Option Addr} {n : Nat} {xs : List S25} (h : Kd.C k25 w A n xs) (i : Int) (h0 : 0 ≤ i) (h1 : i < n) : ∃ ad , A = some ad ∧ w.cell? (ad.add (i.toNat * 3)) = some (.string (rd_T25 xs i).f0) ∧ w.cell? ⟨(ad.add (i.toNat * 3)).block, (ad.add (i.toNat * 3)).off + 1, none⟩ = some (.string (rd_T25 xs i).f1) ∧ w.cell? ⟨(ad.add (i.toNat * 3)).block, (ad.add (i.toNat * 3)).off + 2, none⟩ = some (.bool (rd_T25 xs i).f2) := by
 obtain ⟨ad, c, e, _, hK, hc0⟩ := Kd.C_get h z25 i h0 h1
 have hc : ∀ j u, c[j]? = some u → w.cell? (ad.add (i.toNat * 3 + j)) = some u := hc0
 obtain rfl := k25_open hK
 exact ⟨ad, e, hc 0 _ rfl, by rw [← add_field _ _ 1 q2_]; exact hc 1 _ rfl, by rw [← add_field _ _ 2 q2_]; exact hc 2 _ rfl⟩
def rd_L6 (xs : List (List S25)) (i : Int) : (List S25) := xs.getD i.toNat ([] : List S25)
end Go.Proofs.YtogjljpncdmlkaaDoor.GO
end
section
namespace Go.Proofs.YtogjljpncdmlkaaDoor.GX
open Go.RowKit Go.Proofs.YtogjljpncdmlkaaDoorW.PrintWords Go.Proofs.YtogjljpncdmlkaaDoorW.PrintLast Go.Proofs.YtogjljpncdmlkaaDoorW.PrintMore
attribute [local go_sem] max2_int min2_int max_two min_two max_three min_three max_four min_four   -- for this text's walks alone
set_option linter.unusedVariables false
set_option linter.unusedSimpArgs false
def errW : Option Int → Value
 | none => .nilIface
 | some c => .iface 0 (.int .i64 c)
theorem errW_none : errW none = .nilIface := rfl
theorem errW_some (c : Int) : errW (some c) = .iface 0 (.int .i64 c) := rfl
end Go.Proofs.YtogjljpncdmlkaaDoor.GX
end
