-- Written for this claim by a program of this session (wip/tools/rows2.py).
import Derived.Test.YtbloccjogadlmaaRw
import Derived.Test.YtbloccjogadlmaaProg
import Derived.ChangeArms
import Derived.WalkKit
import Derived.Below
import Derived.Test.YtbloccjogadlmaaWLast
namespace Go.Proofs.Ytbloccjogadlmaa.TyBerPlaces
open Go.ChangeShapes Go.WideShapes Go.ChangeAt Go.RowKit Go.Joins Go.Proofs.YtbloccjogadlmaaW.PrintWords Go.Proofs.Ytbloccjogadlmaa
set_option linter.unusedVariables false
set_option linter.unusedSimpArgs false
/-- What a value of type t that reads is. -/
def Opens {α : Type} (d : Kd α) (wf : α → Prop) (bulk : α → Nat) (t : TypeId) : Prop :=
  ∀ {H : Type} {enc : TypeId × Value → H} {w : World} {base : Nat} {spare : Nat → Bool} {held : Bool} {n : Nat} {cs : List Value} {y : DataW H × List MemPlace}, DataW.trod enc Try.prog w base spare held n t cs = some y → ∃ x, d.K w x cs ∧ wf x ∧ bulk x ≤ Rows.uptoBulk y.1
theorem opens_int {t : TypeId} {k : IntKind} (ht : Try.prog.underlying t = some (.int k)) : Opens (Kd.int k) (fun x => (Lit.int k x).wf = true) (fun _ => 1) t := by
  intro H enc w base spare held n cs y h
  obtain ⟨x, e, rfl, hw⟩ := DataW.trod_int ht h
  exact ⟨x, e, hw, Rw.one_le _⟩
theorem opens_bool {t : TypeId} (ht : Try.prog.underlying t = some .bool) : Opens Kd.bool (fun _ => True) (fun _ => 1) t := by
  intro H enc w base spare held n cs y h
  obtain ⟨x, e, rfl⟩ := DataW.trod_bool ht h
  exact ⟨x, e, trivial, Rw.one_le _⟩
theorem opens_str {t : TypeId} (ht : Try.prog.underlying t = some .string) : Opens Kd.string (fun _ => True) (fun x => x.size + 1) t := by
  intro H enc w base spare held n cs y h
  obtain ⟨x, e, hb⟩ := Rw.el_str ht h
  exact ⟨x, e, trivial, hb⟩
theorem opens_slice {α : Type} {d : Kd α} {wf : α → Prop} {bulk : α → Nat} {t e : TypeId} (ht : Try.prog.underlying t = some (.slice e)) (hc : Try.prog.cellsOf e = d.sz) (hd : Opens d wf bulk e) :
    Opens (Kd.slice e d) (fun l => ∀ x ∈ l, wf x) (fun l => (l.map bulk).sum + 1) t := by
  intro H enc w base spare held n cs y h
  obtain ⟨A, len, cap, rfl⟩ : ∃ A len cap, cs = [.slice A len cap] := by
    rcases DataW.trod_slice ht h with ⟨e, _⟩ | ⟨a, l, c, _, _, _, _, e, _⟩ <;> exact ⟨_, _, _, e⟩
  obtain ⟨l, rfl, hl, hm, hb, hw, hn, hr⟩ := Rw.open_rows (ok := fun x cs => d.K w x cs ∧ wf x) (bulk := bulk) (sz := d.sz) ht hc (fun n cs y h => by
    obtain ⟨x, h1, h2, h3⟩ := hd h
    exact ⟨x, ⟨h1, h2⟩, h3⟩) ⟨n, h⟩
  refine ⟨l, ⟨A, cap, rfl, hl, ReadsRow.imp_ hr (Below.refl _ _) (fun p c hp => hp.1)⟩, fun x hx => ?_, hb⟩
  obtain ⟨c, _, h⟩ := hw x hx
  exact h
abbrev T3 : Type := Int
def k3 : Kd T3 := Kd.int .i64
def wf3 : T3 → Prop := fun x => (Lit.int .i64 x).wf = true
def bulk3 : T3 → Nat := fun _ => 1
theorem cells3 : Try.prog.cellsOf 3 = 1 := by kernel_rfl
theorem op3 : Opens k3 wf3 bulk3 3 := opens_int Try.underlying3
abbrev T27 : Type := Int
def k27 : Kd T27 := Kd.int .i64
def wf27 : T27 → Prop := fun x => (Lit.int .i64 x).wf = true
def bulk27 : T27 → Nat := fun _ => 1
theorem cells27 : Try.prog.cellsOf 27 = 1 := by kernel_rfl
theorem op27 : Opens k27 wf27 bulk27 27 := opens_int Try.underlying27
abbrev T4 : Type := Bool
def k4 : Kd T4 := Kd.bool
def wf4 : T4 → Prop := fun _ => True
def bulk4 : T4 → Nat := fun _ => 1
theorem cells4 : Try.prog.cellsOf 4 = 1 := by kernel_rfl
theorem op4 : Opens k4 wf4 bulk4 4 := opens_bool Try.underlying4
abbrev T9 : Type := ByteArray
def k9 : Kd T9 := Kd.string
def wf9 : T9 → Prop := fun _ => True
def bulk9 : T9 → Nat := fun x => x.size + 1
theorem cells9 : Try.prog.cellsOf 9 = 1 := by kernel_rfl
theorem op9 : Opens k9 wf9 bulk9 9 := opens_str Try.underlying9
abbrev T39 : Type := T3 × T27 × T4 × T3 × T9
def k39 : Kd T39 := Kd.pair k3 (Kd.pair k27 (Kd.pair k4 (Kd.pair k3 k9)))
def wf39 : T39 → Prop := fun x => wf3 x.1 ∧ wf27 x.2.1 ∧ wf4 x.2.2.1 ∧ wf3 x.2.2.2.1 ∧ wf9 x.2.2.2.2
def bulk39 : T39 → Nat := fun x => 1 + bulk3 x.1 + bulk27 x.2.1 + bulk4 x.2.2.1 + bulk3 x.2.2.2.1 + bulk9 x.2.2.2.2
theorem cells39 : Try.prog.cellsOf 39 = 5 := by kernel_rfl
theorem list5 {α : Type} {l : List α} (h : l.length = 5) : ∃ c0 c1 c2 c3 c4, l = [c0, c1, c2, c3, c4] := by
  match l, h with
  | [c0, c1, c2, c3, c4], _ => exact ⟨c0, c1, c2, c3, c4, rfl⟩
theorem op39 : Opens k39 wf39 bulk39 39 := by
  intro H enc w base spare held n cs y h
  obtain ⟨ys, m, _, hy, hl, hn, hf⟩ := DataW.trod_struct Try.underlying39 h
  have hl' : cs.length = 5 := hl.trans cells39
  clear hl
  obtain ⟨c0, c1, c2, c3, c4, rfl⟩ := list5 hl'
  obtain ⟨y0, y1, y2, y3, y4, rfl⟩ := list5 (hn.trans (by kernel_rfl) : ys.length = 5)
  subst hy
  have t0 : DataW.trod enc Try.prog w base spare held m 3 (([c0, c1, c2, c3, c4].drop 0).take (Try.prog.cellsOf 3)) = [y0, y1, y2, y3, y4][0]? := hf 0 _ rfl
  rw [cells3] at t0
  replace t0 : DataW.trod enc Try.prog w base spare held m 3 [c0] = some y0 := t0
  obtain ⟨x0, k0_, w0, b0⟩ := op3 t0
  have t1 : DataW.trod enc Try.prog w base spare held m 27 (([c0, c1, c2, c3, c4].drop 1).take (Try.prog.cellsOf 27)) = [y0, y1, y2, y3, y4][1]? := hf 1 _ rfl
  rw [cells27] at t1
  replace t1 : DataW.trod enc Try.prog w base spare held m 27 [c1] = some y1 := t1
  obtain ⟨x1, k1_, w1, b1⟩ := op27 t1
  have t2 : DataW.trod enc Try.prog w base spare held m 4 (([c0, c1, c2, c3, c4].drop 2).take (Try.prog.cellsOf 4)) = [y0, y1, y2, y3, y4][2]? := hf 2 _ rfl
  rw [cells4] at t2
  replace t2 : DataW.trod enc Try.prog w base spare held m 4 [c2] = some y2 := t2
  obtain ⟨x2, k2_, w2, b2⟩ := op4 t2
  have t3 : DataW.trod enc Try.prog w base spare held m 3 (([c0, c1, c2, c3, c4].drop 3).take (Try.prog.cellsOf 3)) = [y0, y1, y2, y3, y4][3]? := hf 3 _ rfl
  rw [cells3] at t3
  replace t3 : DataW.trod enc Try.prog w base spare held m 3 [c3] = some y3 := t3
  obtain ⟨x3, k3_, w3, b3⟩ := op3 t3
  have t4 : DataW.trod enc Try.prog w base spare held m 9 (([c0, c1, c2, c3, c4].drop 4).take (Try.prog.cellsOf 9)) = [y0, y1, y2, y3, y4][4]? := hf 4 _ rfl
  rw [cells9] at t4
  replace t4 : DataW.trod enc Try.prog w base spare held m 9 [c4] = some y4 := t4
  obtain ⟨x4, k4_, w4, b4⟩ := op9 t4
  refine ⟨(x0, x1, x2, x3, x4), ⟨[c0], [c1, c2, c3, c4], rfl, k0_, ⟨[c1], [c2, c3, c4], rfl, k1_, ⟨[c2], [c3, c4], rfl, k2_, ⟨[c3], [c4], rfl, k3_, k4_⟩⟩⟩⟩, ⟨w0, w1, w2, w3, w4⟩, ?_⟩
  simp only [Rows.uptoBulk, Rows.uptoBulkAll, List.map_cons, List.map_nil]
  show 1 + bulk3 x0 + bulk27 x1 + bulk4 x2 + bulk3 x3 + bulk9 x4 ≤ _
  omega
abbrev T33 : Type := List T39
def k33 : Kd T33 := Kd.slice 39 k39
def wf33 : T33 → Prop := fun l => ∀ x ∈ l, wf39 x
def bulk33 : T33 → Nat := fun l => (l.map bulk39).sum + 1
theorem cells33 : Try.prog.cellsOf 33 = 1 := by kernel_rfl
theorem op33 : Opens k33 wf33 bulk33 33 := opens_slice Try.underlying33 (by kernel_rfl) op39
abbrev T34 : Type := List T3
def k34 : Kd T34 := Kd.slice 3 k3
def wf34 : T34 → Prop := fun l => ∀ x ∈ l, wf3 x
def bulk34 : T34 → Nat := fun l => (l.map bulk3).sum + 1
theorem cells34 : Try.prog.cellsOf 34 = 1 := by kernel_rfl
theorem op34 : Opens k34 wf34 bulk34 34 := opens_slice Try.underlying34 (by kernel_rfl) op3
end Go.Proofs.Ytbloccjogadlmaa.TyBerPlaces
