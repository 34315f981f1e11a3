-- Written for this claim by a program of this session (wip/tools/rows2.py).
import Derived.Test.YtaimjacpenofpaaDoorRw
import Derived.Test.YtaimjacpenofpaaDoorProg
import Derived.ChangeArms
import Derived.WalkKit
import Derived.Below
import Derived.Test.YtaimjacpenofpaaDoorVLast
namespace Go.Proofs.YtaimjacpenofpaaDoor.TyFilterGroups
open Go.ChangeShapes Go.WideShapes Go.ChangeAt Go.RowKit Go.Joins Go.Proofs.YtaimjacpenofpaaDoorW.PrintWords Go.Proofs.YtaimjacpenofpaaDoor
set_option linter.unusedVariables false
set_option linter.unusedSimpArgs false
/-- What a value of type t that reads is. -/
def Opens {α : Type} (d : Kd α) (wf : α → Prop) (bulk : α → Nat) (t : TypeId) : Prop :=
  ∀ {H : Type} {enc : TypeId × Value → H} {w : World} {base : Nat} {spare : Nat → Bool} {held : Bool} {n : Nat} {cs : List Value} {y : DataW H × List MemPlace}, DataW.trod enc Tryd.prog w base spare held n t cs = some y → ∃ x, d.K w x cs ∧ wf x ∧ bulk x ≤ Rows.uptoBulk y.1
theorem opens_int {t : TypeId} {k : IntKind} (ht : Tryd.prog.underlying t = some (.int k)) : Opens (Kd.int k) (fun x => (Lit.int k x).wf = true) (fun _ => 1) t := by
  intro H enc w base spare held n cs y h
  obtain ⟨x, e, rfl, hw⟩ := DataW.trod_int ht h
  exact ⟨x, e, hw, Rw.one_le _⟩
theorem opens_bool {t : TypeId} (ht : Tryd.prog.underlying t = some .bool) : Opens Kd.bool (fun _ => True) (fun _ => 1) t := by
  intro H enc w base spare held n cs y h
  obtain ⟨x, e, rfl⟩ := DataW.trod_bool ht h
  exact ⟨x, e, trivial, Rw.one_le _⟩
theorem opens_str {t : TypeId} (ht : Tryd.prog.underlying t = some .string) : Opens Kd.string (fun _ => True) (fun x => x.size + 1) t := by
  intro H enc w base spare held n cs y h
  obtain ⟨x, e, hb⟩ := Rw.el_str ht h
  exact ⟨x, e, trivial, hb⟩
theorem opens_slice {α : Type} {d : Kd α} {wf : α → Prop} {bulk : α → Nat} {t e : TypeId} (ht : Tryd.prog.underlying t = some (.slice e)) (hc : Tryd.prog.cellsOf e = d.sz) (hd : Opens d wf bulk e) :
    Opens (Kd.slice e d) (fun l => ∀ x ∈ l, wf x) (fun l => (l.map bulk).sum + 1) t := by
  intro H enc w base spare held n cs y h
  obtain ⟨A, len, cap, rfl⟩ : ∃ A len cap, cs = [.slice A len cap] := by
    rcases DataW.trod_slice ht h with ⟨e, _⟩ | ⟨a, l, c, _, _, _, _, e, _⟩ <;> exact ⟨_, _, _, e⟩
  obtain ⟨l, rfl, hl, hm, hb, hw, hn, hr⟩ := Rw.open_rows (ok := fun x cs => d.K w x cs ∧ wf x) (bulk := bulk) (sz := d.sz) ht hc (fun n cs y h => by
    obtain ⟨x, h1, h2, h3⟩ := hd h
    exact ⟨x, ⟨h1, h2⟩, h3⟩) ⟨n, h⟩
  refine ⟨l, ⟨A, cap, rfl, hl, ReadsRow.imp_ hr (Below.refl _ _) (fun p c hp => hp.1)⟩, fun x hx => ?_, hb⟩
  obtain ⟨c, _, h⟩ := hw x hx
  exact h
abbrev T3 : Type := Int
def k3 : Kd T3 := Kd.int .i64
def wf3 : T3 → Prop := fun x => (Lit.int .i64 x).wf = true
def bulk3 : T3 → Nat := fun _ => 1
theorem cells3 : Tryd.prog.cellsOf 3 = 1 := by kernel_rfl
theorem op3 : Opens k3 wf3 bulk3 3 := opens_int Tryd.underlying3
abbrev T29 : Type := Int
def k29 : Kd T29 := Kd.int .i64
def wf29 : T29 → Prop := fun x => (Lit.int .i64 x).wf = true
def bulk29 : T29 → Nat := fun _ => 1
theorem cells29 : Tryd.prog.cellsOf 29 = 1 := by kernel_rfl
theorem op29 : Opens k29 wf29 bulk29 29 := opens_int Tryd.underlying29
abbrev T9 : Type := ByteArray
def k9 : Kd T9 := Kd.string
def wf9 : T9 → Prop := fun _ => True
def bulk9 : T9 → Nat := fun x => x.size + 1
theorem cells9 : Tryd.prog.cellsOf 9 = 1 := by kernel_rfl
theorem op9 : Opens k9 wf9 bulk9 9 := opens_str Tryd.underlying9
abbrev T34 : Type := List T9
def k34 : Kd T34 := Kd.slice 9 k9
def wf34 : T34 → Prop := fun l => ∀ x ∈ l, wf9 x
def bulk34 : T34 → Nat := fun l => (l.map bulk9).sum + 1
theorem cells34 : Tryd.prog.cellsOf 34 = 1 := by kernel_rfl
theorem op34 : Opens k34 wf34 bulk34 34 := opens_slice Tryd.underlying34 (by kernel_rfl) op9
abbrev T36 : Type := T9 × T34 × T9
def k36 : Kd T36 := Kd.pair k9 (Kd.pair k34 k9)
def wf36 : T36 → Prop := fun x => wf9 x.1 ∧ wf34 x.2.1 ∧ wf9 x.2.2
def bulk36 : T36 → Nat := fun x => 1 + bulk9 x.1 + bulk34 x.2.1 + bulk9 x.2.2
theorem cells36 : Tryd.prog.cellsOf 36 = 3 := by kernel_rfl
theorem list3 {α : Type} {l : List α} (h : l.length = 3) : ∃ c0 c1 c2, l = [c0, c1, c2] := by
  match l, h with
  | [c0, c1, c2], _ => exact ⟨c0, c1, c2, rfl⟩
theorem op36 : Opens k36 wf36 bulk36 36 := by
  intro H enc w base spare held n cs y h
  obtain ⟨ys, m, _, hy, hl, hn, hf⟩ := DataW.trod_struct Tryd.underlying36 h
  have hl' : cs.length = 3 := hl.trans cells36
  clear hl
  obtain ⟨c0, c1, c2, rfl⟩ := list3 hl'
  obtain ⟨y0, y1, y2, rfl⟩ := list3 (hn.trans (by kernel_rfl) : ys.length = 3)
  subst hy
  have t0 : DataW.trod enc Tryd.prog w base spare held m 9 (([c0, c1, c2].drop 0).take (Tryd.prog.cellsOf 9)) = [y0, y1, y2][0]? := hf 0 _ rfl
  rw [cells9] at t0
  replace t0 : DataW.trod enc Tryd.prog w base spare held m 9 [c0] = some y0 := t0
  obtain ⟨x0, k0_, w0, b0⟩ := op9 t0
  have t1 : DataW.trod enc Tryd.prog w base spare held m 34 (([c0, c1, c2].drop 1).take (Tryd.prog.cellsOf 34)) = [y0, y1, y2][1]? := hf 1 _ rfl
  rw [cells34] at t1
  replace t1 : DataW.trod enc Tryd.prog w base spare held m 34 [c1] = some y1 := t1
  obtain ⟨x1, k1_, w1, b1⟩ := op34 t1
  have t2 : DataW.trod enc Tryd.prog w base spare held m 9 (([c0, c1, c2].drop 2).take (Tryd.prog.cellsOf 9)) = [y0, y1, y2][2]? := hf 2 _ rfl
  rw [cells9] at t2
  replace t2 : DataW.trod enc Tryd.prog w base spare held m 9 [c2] = some y2 := t2
  obtain ⟨x2, k2_, w2, b2⟩ := op9 t2
  refine ⟨(x0, x1, x2), ⟨[c0], [c1, c2], rfl, k0_, ⟨[c1], [c2], rfl, k1_, k2_⟩⟩, ⟨w0, w1, w2⟩, ?_⟩
  simp only [Rows.uptoBulk, Rows.uptoBulkAll, List.map_cons, List.map_nil]
  show 1 + bulk9 x0 + bulk34 x1 + bulk9 x2 ≤ _
  omega
abbrev T4 : Type := Bool
def k4 : Kd T4 := Kd.bool
def wf4 : T4 → Prop := fun _ => True
def bulk4 : T4 → Nat := fun _ => 1
theorem cells4 : Tryd.prog.cellsOf 4 = 1 := by kernel_rfl
theorem op4 : Opens k4 wf4 bulk4 4 := opens_bool Tryd.underlying4
abbrev T38 : Type := T3 × T29 × T9 × T9 × T36 × T9 × T4
def k38 : Kd T38 := Kd.pair k3 (Kd.pair k29 (Kd.pair k9 (Kd.pair k9 (Kd.pair k36 (Kd.pair k9 k4)))))
def wf38 : T38 → Prop := fun x => wf3 x.1 ∧ wf29 x.2.1 ∧ wf9 x.2.2.1 ∧ wf9 x.2.2.2.1 ∧ wf36 x.2.2.2.2.1 ∧ wf9 x.2.2.2.2.2.1 ∧ wf4 x.2.2.2.2.2.2
def bulk38 : T38 → Nat := fun x => 1 + bulk3 x.1 + bulk29 x.2.1 + bulk9 x.2.2.1 + bulk9 x.2.2.2.1 + bulk36 x.2.2.2.2.1 + bulk9 x.2.2.2.2.2.1 + bulk4 x.2.2.2.2.2.2
theorem cells38 : Tryd.prog.cellsOf 38 = 9 := by kernel_rfl
theorem list9 {α : Type} {l : List α} (h : l.length = 9) : ∃ c0 c1 c2 c3 c4 c5 c6 c7 c8, l = [c0, c1, c2, c3, c4, c5, c6, c7, c8] := by
  match l, h with
  | [c0, c1, c2, c3, c4, c5, c6, c7, c8], _ => exact ⟨c0, c1, c2, c3, c4, c5, c6, c7, c8, rfl⟩
theorem list7 {α : Type} {l : List α} (h : l.length = 7) : ∃ c0 c1 c2 c3 c4 c5 c6, l = [c0, c1, c2, c3, c4, c5, c6] := by
  match l, h with
  | [c0, c1, c2, c3, c4, c5, c6], _ => exact ⟨c0, c1, c2, c3, c4, c5, c6, rfl⟩
theorem op38 : Opens k38 wf38 bulk38 38 := by
  intro H enc w base spare held n cs y h
  obtain ⟨ys, m, _, hy, hl, hn, hf⟩ := DataW.trod_struct Tryd.underlying38 h
  have hl' : cs.length = 9 := hl.trans cells38
  clear hl
  obtain ⟨c0, c1, c2, c3, c4, c5, c6, c7, c8, rfl⟩ := list9 hl'
  obtain ⟨y0, y1, y2, y3, y4, y5, y6, rfl⟩ := list7 (hn.trans (by kernel_rfl) : ys.length = 7)
  subst hy
  have t0 : DataW.trod enc Tryd.prog w base spare held m 3 (([c0, c1, c2, c3, c4, c5, c6, c7, c8].drop 0).take (Tryd.prog.cellsOf 3)) = [y0, y1, y2, y3, y4, y5, y6][0]? := hf 0 _ rfl
  rw [cells3] at t0
  replace t0 : DataW.trod enc Tryd.prog w base spare held m 3 [c0] = some y0 := t0
  obtain ⟨x0, k0_, w0, b0⟩ := op3 t0
  have t1 : DataW.trod enc Tryd.prog w base spare held m 29 (([c0, c1, c2, c3, c4, c5, c6, c7, c8].drop 1).take (Tryd.prog.cellsOf 29)) = [y0, y1, y2, y3, y4, y5, y6][1]? := hf 1 _ rfl
  rw [cells29] at t1
  replace t1 : DataW.trod enc Tryd.prog w base spare held m 29 [c1] = some y1 := t1
  obtain ⟨x1, k1_, w1, b1⟩ := op29 t1
  have t2 : DataW.trod enc Tryd.prog w base spare held m 9 (([c0, c1, c2, c3, c4, c5, c6, c7, c8].drop 2).take (Tryd.prog.cellsOf 9)) = [y0, y1, y2, y3, y4, y5, y6][2]? := hf 2 _ rfl
  rw [cells9] at t2
  replace t2 : DataW.trod enc Tryd.prog w base spare held m 9 [c2] = some y2 := t2
  obtain ⟨x2, k2_, w2, b2⟩ := op9 t2
  have t3 : DataW.trod enc Tryd.prog w base spare held m 9 (([c0, c1, c2, c3, c4, c5, c6, c7, c8].drop 3).take (Tryd.prog.cellsOf 9)) = [y0, y1, y2, y3, y4, y5, y6][3]? := hf 3 _ rfl
  rw [cells9] at t3
  replace t3 : DataW.trod enc Tryd.prog w base spare held m 9 [c3] = some y3 := t3
  obtain ⟨x3, k3_, w3, b3⟩ := op9 t3
  have t4 : DataW.trod enc Tryd.prog w base spare held m 36 (([c0, c1, c2, c3, c4, c5, c6, c7, c8].drop 4).take (Tryd.prog.cellsOf 36)) = [y0, y1, y2, y3, y4, y5, y6][4]? := hf 4 _ rfl
  rw [cells36] at t4
  replace t4 : DataW.trod enc Tryd.prog w base spare held m 36 [c4, c5, c6] = some y4 := t4
  obtain ⟨x4, k4_, w4, b4⟩ := op36 t4
  have t5 : DataW.trod enc Tryd.prog w base spare held m 9 (([c0, c1, c2, c3, c4, c5, c6, c7, c8].drop 7).take (Tryd.prog.cellsOf 9)) = [y0, y1, y2, y3, y4, y5, y6][5]? := hf 5 _ rfl
  rw [cells9] at t5
  replace t5 : DataW.trod enc Tryd.prog w base spare held m 9 [c7] = some y5 := t5
  obtain ⟨x5, k5_, w5, b5⟩ := op9 t5
  have t6 : DataW.trod enc Tryd.prog w base spare held m 4 (([c0, c1, c2, c3, c4, c5, c6, c7, c8].drop 8).take (Tryd.prog.cellsOf 4)) = [y0, y1, y2, y3, y4, y5, y6][6]? := hf 6 _ rfl
  rw [cells4] at t6
  replace t6 : DataW.trod enc Tryd.prog w base spare held m 4 [c8] = some y6 := t6
  obtain ⟨x6, k6_, w6, b6⟩ := op4 t6
  refine ⟨(x0, x1, x2, x3, x4, x5, x6), ⟨[c0], [c1, c2, c3, c4, c5, c6, c7, c8], rfl, k0_, ⟨[c1], [c2, c3, c4, c5, c6, c7, c8], rfl, k1_, ⟨[c2], [c3, c4, c5, c6, c7, c8], rfl, k2_, ⟨[c3], [c4, c5, c6, c7, c8], rfl, k3_, ⟨[c4, c5, c6], [c7, c8], rfl, k4_, ⟨[c7], [c8], rfl, k5_, k6_⟩⟩⟩⟩⟩⟩, ⟨w0, w1, w2, w3, w4, w5, w6⟩, ?_⟩
  simp only [Rows.uptoBulk, Rows.uptoBulkAll, List.map_cons, List.map_nil]
  show 1 + bulk3 x0 + bulk29 x1 + bulk9 x2 + bulk9 x3 + bulk36 x4 + bulk9 x5 + bulk4 x6 ≤ _
  omega
abbrev T23 : Type := List T38
def k23 : Kd T23 := Kd.slice 38 k38
def wf23 : T23 → Prop := fun l => ∀ x ∈ l, wf38 x
def bulk23 : T23 → Nat := fun l => (l.map bulk38).sum + 1
theorem cells23 : Tryd.prog.cellsOf 23 = 1 := by kernel_rfl
theorem op23 : Opens k23 wf23 bulk23 23 := opens_slice Tryd.underlying23 (by kernel_rfl) op38
end Go.Proofs.YtaimjacpenofpaaDoor.TyFilterGroups
