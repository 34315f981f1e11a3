/- What a card's list gives: the table of chapter 1 (nine rows of nine numbers) lies in the world, cell for cell. -/
import Derived.Test.YtaimjacpenofpaaDoorRows
import Derived.OpenShut
import Derived.WalkKit
import Derived.ProofKit
import Derived.Lib.LaidTab
import Derived.Below
namespace Go.Proofs.YtaimjacpenofpaaDoor.W
open Go.ChangeShapes Go.WideShapes Go.ChangeAt Go.RowKit
set_option linter.unusedVariables false
def tabRows : List (List Int) := [[1, 0, 127, 0, 0, 0, 0, 0, 0], [2, 194, 223, 128, 191, 0, 0, 0, 0], [3, 224, 224, 160, 191, 128, 191, 0, 0], [3, 225, 236, 128, 191, 128, 191, 0, 0], [3, 237, 237, 128, 159, 128, 191, 0, 0], [3, 238, 239, 128, 191, 128, 191, 0, 0], [4, 240, 240, 144, 191, 128, 191, 128, 191], [4, 241, 243, 128, 191, 128, 191, 128, 191], [4, 244, 244, 128, 143, 128, 191, 128, 191]]
theorem chunks {α β : Type} (f : α → β) (n : Nat) : ∀ (rows : List (List α)) (cs : List β), cs.length = rows.length * n → (∀ j row, rows[j]? = some row → (cs.drop (j * n)).take n = row.map f) → cs = rows.flatten.map f := by
  intro rows
  induction rows with
  | nil =>
    intro cs hl _
    rw [List.length_nil, Nat.zero_mul] at hl
    rw [List.length_eq_zero_iff.1 hl]
    rfl
  | cons r rest ih =>
    intro cs hl h
    have h0 := h 0 r rfl
    rw [Nat.zero_mul, List.drop_zero] at h0
    rw [List.length_cons] at hl
    have h1 := ih (cs.drop n) (by rw [List.length_drop, hl, Nat.add_mul]; omega) fun j row hj => by
      have := h (j + 1) row (by simpa using hj)
      rwa [Nat.add_mul, Nat.one_mul, Nat.add_comm, ← List.drop_drop] at this
    rw [List.flatten_cons, List.map_append, ← h0, ← h1, List.take_append_drop]
theorem table {W : World} (h : laidMetH Tryd.prog [("roster/rosterref01.rows", Rows.laid_roster_rosterref01_rows)] W) : Lib.TabIs Tryd.prog W "roster/rosterref01.rows" .i64 tabRows.flatten := by
  have h' : laidMet Tryd.prog [("roster/rosterref01.rows", Rows.laid_roster_rosterref01_rows)] W := h
  obtain ⟨ps, ⟨g', t', cs, fuel, p, q, hg', ht', hvar, hd, _, _⟩, _⟩ := h'
  obtain rfl := Option.some.inj ((show Tryd.prog.globalNamed "roster/rosterref01.rows" = some 0 by kernel_rfl).symm.trans hg')
  obtain rfl := Option.some.inj ((show (Tryd.prog.globals[0]?).map (·.type) = some 60 by kernel_rfl).symm.trans ht')
  obtain ⟨xs, m, _, hx, hl, hn, hf⟩ := DataW.trod_array Tryd.underlying60 hd
  have hx' : Rows.laid_roster_rosterref01_rows = DataW.agg (xs.map (·.1)) := congrArg Prod.fst hx
  have hxs : (tabRows.map fun r => (Lib.tabData .i64 r : DataW Unit)) = xs.map (·.1) := by
    have e : Rows.laid_roster_rosterref01_rows = DataW.agg (tabRows.map fun r => (Lib.tabData .i64 r : DataW Unit)) := rfl
    rw [e] at hx'
    injection hx'
  have hcs : cs.toList = tabRows.flatten.map fun z => Value.int .i64 z := by
    refine chunks _ 9 tabRows cs.toList (hl.trans (by kernel_rfl)) fun j row hj => ?_
    have hj9 : j < 9 := (List.getElem?_eq_some_iff.1 hj).1
    have e1 := hf j hj9
    rw [show Tryd.prog.cellsOf 59 = 9 by kernel_rfl] at e1
    have e2 : (xs.map (·.1))[j]? = some (Lib.tabData .i64 row) := by rw [← hxs, List.getElem?_map, hj]; rfl
    rw [List.getElem?_map] at e2
    obtain ⟨y, hy, hyd⟩ := Option.map_eq_some_iff.1 e2
    obtain ⟨yd, yp⟩ := y
    have hyd' : yd = Lib.tabData .i64 row := hyd
    subst hyd'
    rw [hy] at e1
    exact Lib.cells_of_tab Tryd.underlying59 Tryd.underlying3 (by kernel_rfl) (by kernel_rfl) e1
  unfold Lib.TabIs
  rw [hvar, ← hcs]
theorem table_cell {W : World} (h : laidMetH Tryd.prog [("roster/rosterref01.rows", Rows.laid_roster_rosterref01_rows)] W) (i : Nat) (hi : i < 81) : W.cell? ⟨0, i, none⟩ = some (.int .i64 (tabRows.flatten.getD i 0)) :=
  (table h).cell (by kernel_rfl) i hi
end Go.Proofs.YtaimjacpenofpaaDoor.W
