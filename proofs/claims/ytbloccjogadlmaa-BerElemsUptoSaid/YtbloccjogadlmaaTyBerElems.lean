-- Written for this claim by a program of this session (wip/tools/rows2.py).
import Derived.Test.YtbloccjogadlmaaRw
import Derived.Test.YtbloccjogadlmaaProg
import Derived.ChangeArms
import Derived.WalkKit
import Derived.Below
import Derived.Test.YtbloccjogadlmaaWLast
namespace Go.Proofs.Ytbloccjogadlmaa.TyBerElems
open Go.ChangeShapes Go.WideShapes Go.ChangeAt Go.RowKit Go.Joins Go.Proofs.YtbloccjogadlmaaW.PrintWords Go.Proofs.Ytbloccjogadlmaa
set_option linter.unusedVariables false
set_option linter.unusedSimpArgs false
/-- What a value of type t that reads is. -/
def Opens {α : Type} (d : Kd α) (wf : α → Prop) (bulk : α → Nat) (t : TypeId) : Prop :=
  ∀ {H : Type} {enc : TypeId × Value → H} {w : World} {base : Nat} {spare : Nat → Bool} {held : Bool} {n : Nat} {cs : List Value} {y : DataW H × List MemPlace}, DataW.trod enc Try.prog w base spare held n t cs = some y → ∃ x, d.K w x cs ∧ wf x ∧ bulk x ≤ Rows.uptoBulk y.1
theorem opens_int {t : TypeId} {k : IntKind} (ht : Try.prog.underlying t = some (.int k)) : Opens (Kd.int k) (fun x => (Lit.int k x).wf = true) (fun _ => 1) t := by
  intro H enc w base spare held n cs y h
  obtain ⟨x, e, rfl, hw⟩ := DataW.trod_int ht h
  exact ⟨x, e, hw, Rw.one_le _⟩
theorem opens_bool {t : TypeId} (ht : Try.prog.underlying t = some .bool) : Opens Kd.bool (fun _ => True) (fun _ => 1) t := by
  intro H enc w base spare held n cs y h
  obtain ⟨x, e, rfl⟩ := DataW.trod_bool ht h
  exact ⟨x, e, trivial, Rw.one_le _⟩
theorem opens_str {t : TypeId} (ht : Try.prog.underlying t = some .string) : Opens Kd.string (fun _ => True) (fun x => x.size + 1) t := by
  intro H enc w base spare held n cs y h
  obtain ⟨x, e, hb⟩ := Rw.el_str ht h
  exact ⟨x, e, trivial, hb⟩
theorem opens_slice {α : Type} {d : Kd α} {wf : α → Prop} {bulk : α → Nat} {t e : TypeId} (ht : Try.prog.underlying t = some (.slice e)) (hc : Try.prog.cellsOf e = d.sz) (hd : Opens d wf bulk e) :
    Opens (Kd.slice e d) (fun l => ∀ x ∈ l, wf x) (fun l => (l.map bulk).sum + 1) t := by
  intro H enc w base spare held n cs y h
  obtain ⟨A, len, cap, rfl⟩ : ∃ A len cap, cs = [.slice A len cap] := by
    rcases DataW.trod_slice ht h with ⟨e, _⟩ | ⟨a, l, c, _, _, _, _, e, _⟩ <;> exact ⟨_, _, _, e⟩
  obtain ⟨l, rfl, hl, hm, hb, hw, hn, hr⟩ := Rw.open_rows (ok := fun x cs => d.K w x cs ∧ wf x) (bulk := bulk) (sz := d.sz) ht hc (fun n cs y h => by
    obtain ⟨x, h1, h2, h3⟩ := hd h
    exact ⟨x, ⟨h1, h2⟩, h3⟩) ⟨n, h⟩
  refine ⟨l, ⟨A, cap, rfl, hl, ReadsRow.imp_ hr (Below.refl _ _) (fun p c hp => hp.1)⟩, fun x hx => ?_, hb⟩
  obtain ⟨c, _, h⟩ := hw x hx
  exact h
abbrev T9 : Type := ByteArray
def k9 : Kd T9 := Kd.string
def wf9 : T9 → Prop := fun _ => True
def bulk9 : T9 → Nat := fun x => x.size + 1
theorem cells9 : Try.prog.cellsOf 9 = 1 := by kernel_rfl
theorem op9 : Opens k9 wf9 bulk9 9 := opens_str Try.underlying9
abbrev T3 : Type := Int
def k3 : Kd T3 := Kd.int .i64
def wf3 : T3 → Prop := fun x => (Lit.int .i64 x).wf = true
def bulk3 : T3 → Nat := fun _ => 1
theorem cells3 : Try.prog.cellsOf 3 = 1 := by kernel_rfl
theorem op3 : Opens k3 wf3 bulk3 3 := opens_int Try.underlying3
end Go.Proofs.Ytbloccjogadlmaa.TyBerElems
