-- Written for this claim by a program of this session (wip/tools/rows2.py).
import Derived.Test.YtgihlldkdbjkkaaRw
import Derived.Test.YtgihlldkdbjkkaaProg
import Derived.ChangeArms
import Derived.WalkKit
import Derived.Below
import Derived.Test.YtgihlldkdbjkkaaWLast
namespace Go.Proofs.Ytgihlldkdbjkkaa.TyFrameKeeps
open Go.ChangeShapes Go.WideShapes Go.ChangeAt Go.RowKit Go.Joins Go.Proofs.YtgihlldkdbjkkaaW.PrintWords Go.Proofs.Ytgihlldkdbjkkaa
set_option linter.unusedVariables false
set_option linter.unusedSimpArgs false
/-- What a value of type t that reads is. -/
def Opens {α : Type} (d : Kd α) (wf : α → Prop) (bulk : α → Nat) (t : TypeId) : Prop :=
  ∀ {H : Type} {enc : TypeId × Value → H} {w : World} {base : Nat} {spare : Nat → Bool} {held : Bool} {n : Nat} {cs : List Value} {y : DataW H × List MemPlace}, DataW.trod enc Try.prog w base spare held n t cs = some y → ∃ x, d.K w x cs ∧ wf x ∧ bulk x ≤ Rows.uptoBulk y.1
theorem opens_int {t : TypeId} {k : IntKind} (ht : Try.prog.underlying t = some (.int k)) : Opens (Kd.int k) (fun x => (Lit.int k x).wf = true) (fun _ => 1) t := by
  intro H enc w base spare held n cs y h
  obtain ⟨x, e, rfl, hw⟩ := DataW.trod_int ht h
  exact ⟨x, e, hw, Rw.one_le _⟩
theorem opens_bool {t : TypeId} (ht : Try.prog.underlying t = some .bool) : Opens Kd.bool (fun _ => True) (fun _ => 1) t := by
  intro H enc w base spare held n cs y h
  obtain ⟨x, e, rfl⟩ := DataW.trod_bool ht h
  exact ⟨x, e, trivial, Rw.one_le _⟩
theorem opens_str {t : TypeId} (ht : Try.prog.underlying t = some .string) : Opens Kd.string (fun _ => True) (fun x => x.size + 1) t := by
  intro H enc w base spare held n cs y h
  obtain ⟨x, e, hb⟩ := Rw.el_str ht h
  exact ⟨x, e, trivial, hb⟩
theorem opens_slice {α : Type} {d : Kd α} {wf : α → Prop} {bulk : α → Nat} {t e : TypeId} (ht : Try.prog.underlying t = some (.slice e)) (hc : Try.prog.cellsOf e = d.sz) (hd : Opens d wf bulk e) :
    Opens (Kd.slice e d) (fun l => ∀ x ∈ l, wf x) (fun l => (l.map bulk).sum + 1) t := by
  intro H enc w base spare held n cs y h
  obtain ⟨A, len, cap, rfl⟩ : ∃ A len cap, cs = [.slice A len cap] := by
    rcases DataW.trod_slice ht h with ⟨e, _⟩ | ⟨a, l, c, _, _, _, _, e, _⟩ <;> exact ⟨_, _, _, e⟩
  obtain ⟨l, rfl, hl, hm, hb, hw, hn, hr⟩ := Rw.open_rows (ok := fun x cs => d.K w x cs ∧ wf x) (bulk := bulk) (sz := d.sz) ht hc (fun n cs y h => by
    obtain ⟨x, h1, h2, h3⟩ := hd h
    exact ⟨x, ⟨h1, h2⟩, h3⟩) ⟨n, h⟩
  refine ⟨l, ⟨A, cap, rfl, hl, ReadsRow.imp_ hr (Below.refl _ _) (fun p c hp => hp.1)⟩, fun x hx => ?_, hb⟩
  obtain ⟨c, _, h⟩ := hw x hx
  exact h
abbrev T3 : Type := Int
def k3 : Kd T3 := Kd.int .i64
def wf3 : T3 → Prop := fun x => (Lit.int .i64 x).wf = true
def bulk3 : T3 → Nat := fun _ => 1
theorem cells3 : Try.prog.cellsOf 3 = 1 := by kernel_rfl
theorem op3 : Opens k3 wf3 bulk3 3 := opens_int Try.underlying3
abbrev T9 : Type := ByteArray
def k9 : Kd T9 := Kd.string
def wf9 : T9 → Prop := fun _ => True
def bulk9 : T9 → Nat := fun x => x.size + 1
theorem cells9 : Try.prog.cellsOf 9 = 1 := by kernel_rfl
theorem op9 : Opens k9 wf9 bulk9 9 := opens_str Try.underlying9
abbrev T27 : Type := T3 × T9
def k27 : Kd T27 := Kd.pair k3 k9
def wf27 : T27 → Prop := fun x => wf3 x.1 ∧ wf9 x.2
def bulk27 : T27 → Nat := fun x => 1 + bulk3 x.1 + bulk9 x.2
theorem cells27 : Try.prog.cellsOf 27 = 2 := by kernel_rfl
theorem list2 {α : Type} {l : List α} (h : l.length = 2) : ∃ c0 c1, l = [c0, c1] := by
  match l, h with
  | [c0, c1], _ => exact ⟨c0, c1, rfl⟩
theorem op27 : Opens k27 wf27 bulk27 27 := by
  intro H enc w base spare held n cs y h
  obtain ⟨ys, m, _, hy, hl, hn, hf⟩ := DataW.trod_struct Try.underlying27 h
  have hl' : cs.length = 2 := hl.trans cells27
  clear hl
  obtain ⟨c0, c1, rfl⟩ := list2 hl'
  obtain ⟨y0, y1, rfl⟩ := list2 (hn.trans (by kernel_rfl) : ys.length = 2)
  subst hy
  have t0 : DataW.trod enc Try.prog w base spare held m 3 (([c0, c1].drop 0).take (Try.prog.cellsOf 3)) = [y0, y1][0]? := hf 0 _ rfl
  rw [cells3] at t0
  replace t0 : DataW.trod enc Try.prog w base spare held m 3 [c0] = some y0 := t0
  obtain ⟨x0, k0_, w0, b0⟩ := op3 t0
  have t1 : DataW.trod enc Try.prog w base spare held m 9 (([c0, c1].drop 1).take (Try.prog.cellsOf 9)) = [y0, y1][1]? := hf 1 _ rfl
  rw [cells9] at t1
  replace t1 : DataW.trod enc Try.prog w base spare held m 9 [c1] = some y1 := t1
  obtain ⟨x1, k1_, w1, b1⟩ := op9 t1
  refine ⟨(x0, x1), ⟨[c0], [c1], rfl, k0_, k1_⟩, ⟨w0, w1⟩, ?_⟩
  simp only [Rows.uptoBulk, Rows.uptoBulkAll, List.map_cons, List.map_nil]
  show 1 + bulk3 x0 + bulk9 x1 ≤ _
  omega
abbrev T22 : Type := List T27
def k22 : Kd T22 := Kd.slice 27 k27
def wf22 : T22 → Prop := fun l => ∀ x ∈ l, wf27 x
def bulk22 : T22 → Nat := fun l => (l.map bulk27).sum + 1
theorem cells22 : Try.prog.cellsOf 22 = 1 := by kernel_rfl
theorem op22 : Opens k22 wf22 bulk22 22 := opens_slice Try.underlying22 (by kernel_rfl) op27
end Go.Proofs.Ytgihlldkdbjkkaa.TyFrameKeeps
