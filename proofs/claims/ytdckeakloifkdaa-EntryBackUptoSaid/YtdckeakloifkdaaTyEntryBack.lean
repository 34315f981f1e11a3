-- Written for this claim by a program of this session (wip/tools/rows2.py).
import Derived.Test.YtdckeakloifkdaaRw
import Derived.Test.YtdckeakloifkdaaProg
import Derived.ChangeArms
import Derived.WalkKit
import Derived.Below
import Derived.Test.YtdckeakloifkdaaWLast
namespace Go.Proofs.Ytdckeakloifkdaa.TyEntryBack
open Go.ChangeShapes Go.WideShapes Go.ChangeAt Go.RowKit Go.Joins Go.Proofs.YtdckeakloifkdaaW.PrintWords Go.Proofs.Ytdckeakloifkdaa
set_option linter.unusedVariables false
set_option linter.unusedSimpArgs false
/-- What a value of type t that reads is. -/
def Opens {α : Type} (d : Kd α) (wf : α → Prop) (bulk : α → Nat) (t : TypeId) : Prop :=
  ∀ {H : Type} {enc : TypeId × Value → H} {w : World} {base : Nat} {spare : Nat → Bool} {held : Bool} {n : Nat} {cs : List Value} {y : DataW H × List MemPlace}, DataW.trod enc Try.prog w base spare held n t cs = some y → ∃ x, d.K w x cs ∧ wf x ∧ bulk x ≤ Rows.uptoBulk y.1
theorem opens_int {t : TypeId} {k : IntKind} (ht : Try.prog.underlying t = some (.int k)) : Opens (Kd.int k) (fun x => (Lit.int k x).wf = true) (fun _ => 1) t := by
  intro H enc w base spare held n cs y h
  obtain ⟨x, e, rfl, hw⟩ := DataW.trod_int ht h
  exact ⟨x, e, hw, Rw.one_le _⟩
theorem opens_bool {t : TypeId} (ht : Try.prog.underlying t = some .bool) : Opens Kd.bool (fun _ => True) (fun _ => 1) t := by
  intro H enc w base spare held n cs y h
  obtain ⟨x, e, rfl⟩ := DataW.trod_bool ht h
  exact ⟨x, e, trivial, Rw.one_le _⟩
theorem opens_str {t : TypeId} (ht : Try.prog.underlying t = some .string) : Opens Kd.string (fun _ => True) (fun x => x.size + 1) t := by
  intro H enc w base spare held n cs y h
  obtain ⟨x, e, hb⟩ := Rw.el_str ht h
  exact ⟨x, e, trivial, hb⟩
theorem opens_slice {α : Type} {d : Kd α} {wf : α → Prop} {bulk : α → Nat} {t e : TypeId} (ht : Try.prog.underlying t = some (.slice e)) (hc : Try.prog.cellsOf e = d.sz) (hd : Opens d wf bulk e) :
    Opens (Kd.slice e d) (fun l => ∀ x ∈ l, wf x) (fun l => (l.map bulk).sum + 1) t := by
  intro H enc w base spare held n cs y h
  obtain ⟨A, len, cap, rfl⟩ : ∃ A len cap, cs = [.slice A len cap] := by
    rcases DataW.trod_slice ht h with ⟨e, _⟩ | ⟨a, l, c, _, _, _, _, e, _⟩ <;> exact ⟨_, _, _, e⟩
  obtain ⟨l, rfl, hl, hm, hb, hw, hn, hr⟩ := Rw.open_rows (ok := fun x cs => d.K w x cs ∧ wf x) (bulk := bulk) (sz := d.sz) ht hc (fun n cs y h => by
    obtain ⟨x, h1, h2, h3⟩ := hd h
    exact ⟨x, ⟨h1, h2⟩, h3⟩) ⟨n, h⟩
  refine ⟨l, ⟨A, cap, rfl, hl, ReadsRow.imp_ hr (Below.refl _ _) (fun p c hp => hp.1)⟩, fun x hx => ?_, hb⟩
  obtain ⟨c, _, h⟩ := hw x hx
  exact h
abbrev T3 : Type := Int
def k3 : Kd T3 := Kd.int .i64
def wf3 : T3 → Prop := fun x => (Lit.int .i64 x).wf = true
def bulk3 : T3 → Nat := fun _ => 1
theorem cells3 : Try.prog.cellsOf 3 = 1 := by kernel_rfl
theorem op3 : Opens k3 wf3 bulk3 3 := opens_int Try.underlying3
abbrev T9 : Type := ByteArray
def k9 : Kd T9 := Kd.string
def wf9 : T9 → Prop := fun _ => True
def bulk9 : T9 → Nat := fun x => x.size + 1
theorem cells9 : Try.prog.cellsOf 9 = 1 := by kernel_rfl
theorem op9 : Opens k9 wf9 bulk9 9 := opens_str Try.underlying9
abbrev T22 : Type := List T9
def k22 : Kd T22 := Kd.slice 9 k9
def wf22 : T22 → Prop := fun l => ∀ x ∈ l, wf9 x
def bulk22 : T22 → Nat := fun l => (l.map bulk9).sum + 1
theorem cells22 : Try.prog.cellsOf 22 = 1 := by kernel_rfl
theorem op22 : Opens k22 wf22 bulk22 22 := opens_slice Try.underlying22 (by kernel_rfl) op9
abbrev T37 : Type := T9 × T9 × T22
def k37 : Kd T37 := Kd.pair k9 (Kd.pair k9 k22)
def wf37 : T37 → Prop := fun x => wf9 x.1 ∧ wf9 x.2.1 ∧ wf22 x.2.2
def bulk37 : T37 → Nat := fun x => 1 + bulk9 x.1 + bulk9 x.2.1 + bulk22 x.2.2
theorem cells37 : Try.prog.cellsOf 37 = 3 := by kernel_rfl
theorem list3 {α : Type} {l : List α} (h : l.length = 3) : ∃ c0 c1 c2, l = [c0, c1, c2] := by
  match l, h with
  | [c0, c1, c2], _ => exact ⟨c0, c1, c2, rfl⟩
theorem op37 : Opens k37 wf37 bulk37 37 := by
  intro H enc w base spare held n cs y h
  obtain ⟨ys, m, _, hy, hl, hn, hf⟩ := DataW.trod_struct Try.underlying37 h
  have hl' : cs.length = 3 := hl.trans cells37
  clear hl
  obtain ⟨c0, c1, c2, rfl⟩ := list3 hl'
  obtain ⟨y0, y1, y2, rfl⟩ := list3 (hn.trans (by kernel_rfl) : ys.length = 3)
  subst hy
  have t0 : DataW.trod enc Try.prog w base spare held m 9 (([c0, c1, c2].drop 0).take (Try.prog.cellsOf 9)) = [y0, y1, y2][0]? := hf 0 _ rfl
  rw [cells9] at t0
  replace t0 : DataW.trod enc Try.prog w base spare held m 9 [c0] = some y0 := t0
  obtain ⟨x0, k0_, w0, b0⟩ := op9 t0
  have t1 : DataW.trod enc Try.prog w base spare held m 9 (([c0, c1, c2].drop 1).take (Try.prog.cellsOf 9)) = [y0, y1, y2][1]? := hf 1 _ rfl
  rw [cells9] at t1
  replace t1 : DataW.trod enc Try.prog w base spare held m 9 [c1] = some y1 := t1
  obtain ⟨x1, k1_, w1, b1⟩ := op9 t1
  have t2 : DataW.trod enc Try.prog w base spare held m 22 (([c0, c1, c2].drop 2).take (Try.prog.cellsOf 22)) = [y0, y1, y2][2]? := hf 2 _ rfl
  rw [cells22] at t2
  replace t2 : DataW.trod enc Try.prog w base spare held m 22 [c2] = some y2 := t2
  obtain ⟨x2, k2_, w2, b2⟩ := op22 t2
  refine ⟨(x0, x1, x2), ⟨[c0], [c1, c2], rfl, k0_, ⟨[c1], [c2], rfl, k1_, k2_⟩⟩, ⟨w0, w1, w2⟩, ?_⟩
  simp only [Rows.uptoBulk, Rows.uptoBulkAll, List.map_cons, List.map_nil]
  show 1 + bulk9 x0 + bulk9 x1 + bulk22 x2 ≤ _
  omega
abbrev T23 : Type := List T37
def k23 : Kd T23 := Kd.slice 37 k37
def wf23 : T23 → Prop := fun l => ∀ x ∈ l, wf37 x
def bulk23 : T23 → Nat := fun l => (l.map bulk37).sum + 1
theorem cells23 : Try.prog.cellsOf 23 = 1 := by kernel_rfl
theorem op23 : Opens k23 wf23 bulk23 23 := opens_slice Try.underlying23 (by kernel_rfl) op37
abbrev T25 : Type := T3 × T9 × T22 × T23
def k25 : Kd T25 := Kd.pair k3 (Kd.pair k9 (Kd.pair k22 k23))
def wf25 : T25 → Prop := fun x => wf3 x.1 ∧ wf9 x.2.1 ∧ wf22 x.2.2.1 ∧ wf23 x.2.2.2
def bulk25 : T25 → Nat := fun x => 1 + bulk3 x.1 + bulk9 x.2.1 + bulk22 x.2.2.1 + bulk23 x.2.2.2
theorem cells25 : Try.prog.cellsOf 25 = 4 := by kernel_rfl
theorem list4 {α : Type} {l : List α} (h : l.length = 4) : ∃ c0 c1 c2 c3, l = [c0, c1, c2, c3] := by
  match l, h with
  | [c0, c1, c2, c3], _ => exact ⟨c0, c1, c2, c3, rfl⟩
theorem op25 : Opens k25 wf25 bulk25 25 := by
  intro H enc w base spare held n cs y h
  obtain ⟨ys, m, _, hy, hl, hn, hf⟩ := DataW.trod_struct Try.underlying25 h
  have hl' : cs.length = 4 := hl.trans cells25
  clear hl
  obtain ⟨c0, c1, c2, c3, rfl⟩ := list4 hl'
  obtain ⟨y0, y1, y2, y3, rfl⟩ := list4 (hn.trans (by kernel_rfl) : ys.length = 4)
  subst hy
  have t0 : DataW.trod enc Try.prog w base spare held m 3 (([c0, c1, c2, c3].drop 0).take (Try.prog.cellsOf 3)) = [y0, y1, y2, y3][0]? := hf 0 _ rfl
  rw [cells3] at t0
  replace t0 : DataW.trod enc Try.prog w base spare held m 3 [c0] = some y0 := t0
  obtain ⟨x0, k0_, w0, b0⟩ := op3 t0
  have t1 : DataW.trod enc Try.prog w base spare held m 9 (([c0, c1, c2, c3].drop 1).take (Try.prog.cellsOf 9)) = [y0, y1, y2, y3][1]? := hf 1 _ rfl
  rw [cells9] at t1
  replace t1 : DataW.trod enc Try.prog w base spare held m 9 [c1] = some y1 := t1
  obtain ⟨x1, k1_, w1, b1⟩ := op9 t1
  have t2 : DataW.trod enc Try.prog w base spare held m 22 (([c0, c1, c2, c3].drop 2).take (Try.prog.cellsOf 22)) = [y0, y1, y2, y3][2]? := hf 2 _ rfl
  rw [cells22] at t2
  replace t2 : DataW.trod enc Try.prog w base spare held m 22 [c2] = some y2 := t2
  obtain ⟨x2, k2_, w2, b2⟩ := op22 t2
  have t3 : DataW.trod enc Try.prog w base spare held m 23 (([c0, c1, c2, c3].drop 3).take (Try.prog.cellsOf 23)) = [y0, y1, y2, y3][3]? := hf 3 _ rfl
  rw [cells23] at t3
  replace t3 : DataW.trod enc Try.prog w base spare held m 23 [c3] = some y3 := t3
  obtain ⟨x3, k3_, w3, b3⟩ := op23 t3
  refine ⟨(x0, x1, x2, x3), ⟨[c0], [c1, c2, c3], rfl, k0_, ⟨[c1], [c2, c3], rfl, k1_, ⟨[c2], [c3], rfl, k2_, k3_⟩⟩⟩, ⟨w0, w1, w2, w3⟩, ?_⟩
  simp only [Rows.uptoBulk, Rows.uptoBulkAll, List.map_cons, List.map_nil]
  show 1 + bulk3 x0 + bulk9 x1 + bulk22 x2 + bulk23 x3 ≤ _
  omega
end Go.Proofs.Ytdckeakloifkdaa.TyEntryBack
