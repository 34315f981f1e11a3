-- Written for this claim by a program of this session (wip/tools/rows2.py).
import Derived.Test.YtbpediccbeoifaaDoorRw
import Derived.Test.YtbpediccbeoifaaDoorProg
import Derived.ChangeArms
import Derived.WalkKit
import Derived.Below
import Derived.Test.YtbpediccbeoifaaDoorVLast
namespace Go.Proofs.YtbpediccbeoifaaDoor.TyMsgRefusals
open Go.ChangeShapes Go.WideShapes Go.ChangeAt Go.RowKit Go.Joins Go.Proofs.YtbpediccbeoifaaDoorW.PrintWords Go.Proofs.YtbpediccbeoifaaDoor
set_option linter.unusedVariables false
set_option linter.unusedSimpArgs false
/-- What a value of type t that reads is. -/
def Opens {α : Type} (d : Kd α) (wf : α → Prop) (bulk : α → Nat) (t : TypeId) : Prop :=
  ∀ {H : Type} {enc : TypeId × Value → H} {w : World} {base : Nat} {spare : Nat → Bool} {held : Bool} {n : Nat} {cs : List Value} {y : DataW H × List MemPlace}, DataW.trod enc Tryd.prog w base spare held n t cs = some y → ∃ x, d.K w x cs ∧ wf x ∧ bulk x ≤ Rows.uptoBulk y.1
theorem opens_int {t : TypeId} {k : IntKind} (ht : Tryd.prog.underlying t = some (.int k)) : Opens (Kd.int k) (fun x => (Lit.int k x).wf = true) (fun _ => 1) t := by
  intro H enc w base spare held n cs y h
  obtain ⟨x, e, rfl, hw⟩ := DataW.trod_int ht h
  exact ⟨x, e, hw, Rw.one_le _⟩
theorem opens_bool {t : TypeId} (ht : Tryd.prog.underlying t = some .bool) : Opens Kd.bool (fun _ => True) (fun _ => 1) t := by
  intro H enc w base spare held n cs y h
  obtain ⟨x, e, rfl⟩ := DataW.trod_bool ht h
  exact ⟨x, e, trivial, Rw.one_le _⟩
theorem opens_str {t : TypeId} (ht : Tryd.prog.underlying t = some .string) : Opens Kd.string (fun _ => True) (fun x => x.size + 1) t := by
  intro H enc w base spare held n cs y h
  obtain ⟨x, e, hb⟩ := Rw.el_str ht h
  exact ⟨x, e, trivial, hb⟩
theorem opens_slice {α : Type} {d : Kd α} {wf : α → Prop} {bulk : α → Nat} {t e : TypeId} (ht : Tryd.prog.underlying t = some (.slice e)) (hc : Tryd.prog.cellsOf e = d.sz) (hd : Opens d wf bulk e) :
    Opens (Kd.slice e d) (fun l => ∀ x ∈ l, wf x) (fun l => (l.map bulk).sum + 1) t := by
  intro H enc w base spare held n cs y h
  obtain ⟨A, len, cap, rfl⟩ : ∃ A len cap, cs = [.slice A len cap] := by
    rcases DataW.trod_slice ht h with ⟨e, _⟩ | ⟨a, l, c, _, _, _, _, e, _⟩ <;> exact ⟨_, _, _, e⟩
  obtain ⟨l, rfl, hl, hm, hb, hw, hn, hr⟩ := Rw.open_rows (ok := fun x cs => d.K w x cs ∧ wf x) (bulk := bulk) (sz := d.sz) ht hc (fun n cs y h => by
    obtain ⟨x, h1, h2, h3⟩ := hd h
    exact ⟨x, ⟨h1, h2⟩, h3⟩) ⟨n, h⟩
  refine ⟨l, ⟨A, cap, rfl, hl, ReadsRow.imp_ hr (Below.refl _ _) (fun p c hp => hp.1)⟩, fun x hx => ?_, hb⟩
  obtain ⟨c, _, h⟩ := hw x hx
  exact h
abbrev T3 : Type := Int
def k3 : Kd T3 := Kd.int .i64
def wf3 : T3 → Prop := fun x => (Lit.int .i64 x).wf = true
def bulk3 : T3 → Nat := fun _ => 1
theorem cells3 : Tryd.prog.cellsOf 3 = 1 := by kernel_rfl
theorem op3 : Opens k3 wf3 bulk3 3 := opens_int Tryd.underlying3
abbrev T22 : Type := Int
def k22 : Kd T22 := Kd.int .i64
def wf22 : T22 → Prop := fun x => (Lit.int .i64 x).wf = true
def bulk22 : T22 → Nat := fun _ => 1
theorem cells22 : Tryd.prog.cellsOf 22 = 1 := by kernel_rfl
theorem op22 : Opens k22 wf22 bulk22 22 := opens_int Tryd.underlying22
abbrev T9 : Type := ByteArray
def k9 : Kd T9 := Kd.string
def wf9 : T9 → Prop := fun _ => True
def bulk9 : T9 → Nat := fun x => x.size + 1
theorem cells9 : Tryd.prog.cellsOf 9 = 1 := by kernel_rfl
theorem op9 : Opens k9 wf9 bulk9 9 := opens_str Tryd.underlying9
abbrev T23 : Type := Int
def k23 : Kd T23 := Kd.int .i64
def wf23 : T23 → Prop := fun x => (Lit.int .i64 x).wf = true
def bulk23 : T23 → Nat := fun _ => 1
theorem cells23 : Tryd.prog.cellsOf 23 = 1 := by kernel_rfl
theorem op23 : Opens k23 wf23 bulk23 23 := opens_int Tryd.underlying23
abbrev T4 : Type := Bool
def k4 : Kd T4 := Kd.bool
def wf4 : T4 → Prop := fun _ => True
def bulk4 : T4 → Nat := fun _ => 1
theorem cells4 : Tryd.prog.cellsOf 4 = 1 := by kernel_rfl
theorem op4 : Opens k4 wf4 bulk4 4 := opens_bool Tryd.underlying4
abbrev T25 : Type := T3 × T9 × T23 × T9 × T9 × T9 × T4
def k25 : Kd T25 := Kd.pair k3 (Kd.pair k9 (Kd.pair k23 (Kd.pair k9 (Kd.pair k9 (Kd.pair k9 k4)))))
def wf25 : T25 → Prop := fun x => wf3 x.1 ∧ wf9 x.2.1 ∧ wf23 x.2.2.1 ∧ wf9 x.2.2.2.1 ∧ wf9 x.2.2.2.2.1 ∧ wf9 x.2.2.2.2.2.1 ∧ wf4 x.2.2.2.2.2.2
def bulk25 : T25 → Nat := fun x => 1 + bulk3 x.1 + bulk9 x.2.1 + bulk23 x.2.2.1 + bulk9 x.2.2.2.1 + bulk9 x.2.2.2.2.1 + bulk9 x.2.2.2.2.2.1 + bulk4 x.2.2.2.2.2.2
theorem cells25 : Tryd.prog.cellsOf 25 = 7 := by kernel_rfl
theorem list7 {α : Type} {l : List α} (h : l.length = 7) : ∃ c0 c1 c2 c3 c4 c5 c6, l = [c0, c1, c2, c3, c4, c5, c6] := by
  match l, h with
  | [c0, c1, c2, c3, c4, c5, c6], _ => exact ⟨c0, c1, c2, c3, c4, c5, c6, rfl⟩
theorem op25 : Opens k25 wf25 bulk25 25 := by
  intro H enc w base spare held n cs y h
  obtain ⟨ys, m, _, hy, hl, hn, hf⟩ := DataW.trod_struct Tryd.underlying25 h
  have hl' : cs.length = 7 := hl.trans cells25
  clear hl
  obtain ⟨c0, c1, c2, c3, c4, c5, c6, rfl⟩ := list7 hl'
  obtain ⟨y0, y1, y2, y3, y4, y5, y6, rfl⟩ := list7 (hn.trans (by kernel_rfl) : ys.length = 7)
  subst hy
  have t0 : DataW.trod enc Tryd.prog w base spare held m 3 (([c0, c1, c2, c3, c4, c5, c6].drop 0).take (Tryd.prog.cellsOf 3)) = [y0, y1, y2, y3, y4, y5, y6][0]? := hf 0 _ rfl
  rw [cells3] at t0
  replace t0 : DataW.trod enc Tryd.prog w base spare held m 3 [c0] = some y0 := t0
  obtain ⟨x0, k0_, w0, b0⟩ := op3 t0
  have t1 : DataW.trod enc Tryd.prog w base spare held m 9 (([c0, c1, c2, c3, c4, c5, c6].drop 1).take (Tryd.prog.cellsOf 9)) = [y0, y1, y2, y3, y4, y5, y6][1]? := hf 1 _ rfl
  rw [cells9] at t1
  replace t1 : DataW.trod enc Tryd.prog w base spare held m 9 [c1] = some y1 := t1
  obtain ⟨x1, k1_, w1, b1⟩ := op9 t1
  have t2 : DataW.trod enc Tryd.prog w base spare held m 23 (([c0, c1, c2, c3, c4, c5, c6].drop 2).take (Tryd.prog.cellsOf 23)) = [y0, y1, y2, y3, y4, y5, y6][2]? := hf 2 _ rfl
  rw [cells23] at t2
  replace t2 : DataW.trod enc Tryd.prog w base spare held m 23 [c2] = some y2 := t2
  obtain ⟨x2, k2_, w2, b2⟩ := op23 t2
  have t3 : DataW.trod enc Tryd.prog w base spare held m 9 (([c0, c1, c2, c3, c4, c5, c6].drop 3).take (Tryd.prog.cellsOf 9)) = [y0, y1, y2, y3, y4, y5, y6][3]? := hf 3 _ rfl
  rw [cells9] at t3
  replace t3 : DataW.trod enc Tryd.prog w base spare held m 9 [c3] = some y3 := t3
  obtain ⟨x3, k3_, w3, b3⟩ := op9 t3
  have t4 : DataW.trod enc Tryd.prog w base spare held m 9 (([c0, c1, c2, c3, c4, c5, c6].drop 4).take (Tryd.prog.cellsOf 9)) = [y0, y1, y2, y3, y4, y5, y6][4]? := hf 4 _ rfl
  rw [cells9] at t4
  replace t4 : DataW.trod enc Tryd.prog w base spare held m 9 [c4] = some y4 := t4
  obtain ⟨x4, k4_, w4, b4⟩ := op9 t4
  have t5 : DataW.trod enc Tryd.prog w base spare held m 9 (([c0, c1, c2, c3, c4, c5, c6].drop 5).take (Tryd.prog.cellsOf 9)) = [y0, y1, y2, y3, y4, y5, y6][5]? := hf 5 _ rfl
  rw [cells9] at t5
  replace t5 : DataW.trod enc Tryd.prog w base spare held m 9 [c5] = some y5 := t5
  obtain ⟨x5, k5_, w5, b5⟩ := op9 t5
  have t6 : DataW.trod enc Tryd.prog w base spare held m 4 (([c0, c1, c2, c3, c4, c5, c6].drop 6).take (Tryd.prog.cellsOf 4)) = [y0, y1, y2, y3, y4, y5, y6][6]? := hf 6 _ rfl
  rw [cells4] at t6
  replace t6 : DataW.trod enc Tryd.prog w base spare held m 4 [c6] = some y6 := t6
  obtain ⟨x6, k6_, w6, b6⟩ := op4 t6
  refine ⟨(x0, x1, x2, x3, x4, x5, x6), ⟨[c0], [c1, c2, c3, c4, c5, c6], rfl, k0_, ⟨[c1], [c2, c3, c4, c5, c6], rfl, k1_, ⟨[c2], [c3, c4, c5, c6], rfl, k2_, ⟨[c3], [c4, c5, c6], rfl, k3_, ⟨[c4], [c5, c6], rfl, k4_, ⟨[c5], [c6], rfl, k5_, k6_⟩⟩⟩⟩⟩⟩, ⟨w0, w1, w2, w3, w4, w5, w6⟩, ?_⟩
  simp only [Rows.uptoBulk, Rows.uptoBulkAll, List.map_cons, List.map_nil]
  show 1 + bulk3 x0 + bulk9 x1 + bulk23 x2 + bulk9 x3 + bulk9 x4 + bulk9 x5 + bulk4 x6 ≤ _
  omega
abbrev T26 : Type := Int
def k26 : Kd T26 := Kd.int .i64
def wf26 : T26 → Prop := fun x => (Lit.int .i64 x).wf = true
def bulk26 : T26 → Nat := fun _ => 1
theorem cells26 : Tryd.prog.cellsOf 26 = 1 := by kernel_rfl
theorem op26 : Opens k26 wf26 bulk26 26 := opens_int Tryd.underlying26
abbrev T69 : Type := Int
def k69 : Kd T69 := Kd.int .i64
def wf69 : T69 → Prop := fun x => (Lit.int .i64 x).wf = true
def bulk69 : T69 → Nat := fun _ => 1
theorem cells69 : Tryd.prog.cellsOf 69 = 1 := by kernel_rfl
theorem op69 : Opens k69 wf69 bulk69 69 := opens_int Tryd.underlying69
abbrev T29 : Type := List T9
def k29 : Kd T29 := Kd.slice 9 k9
def wf29 : T29 → Prop := fun l => ∀ x ∈ l, wf9 x
def bulk29 : T29 → Nat := fun l => (l.map bulk9).sum + 1
theorem cells29 : Tryd.prog.cellsOf 29 = 1 := by kernel_rfl
theorem op29 : Opens k29 wf29 bulk29 29 := opens_slice Tryd.underlying29 (by kernel_rfl) op9
abbrev T68 : Type := T9 × T29 × T9
def k68 : Kd T68 := Kd.pair k9 (Kd.pair k29 k9)
def wf68 : T68 → Prop := fun x => wf9 x.1 ∧ wf29 x.2.1 ∧ wf9 x.2.2
def bulk68 : T68 → Nat := fun x => 1 + bulk9 x.1 + bulk29 x.2.1 + bulk9 x.2.2
theorem cells68 : Tryd.prog.cellsOf 68 = 3 := by kernel_rfl
theorem list3 {α : Type} {l : List α} (h : l.length = 3) : ∃ c0 c1 c2, l = [c0, c1, c2] := by
  match l, h with
  | [c0, c1, c2], _ => exact ⟨c0, c1, c2, rfl⟩
theorem op68 : Opens k68 wf68 bulk68 68 := by
  intro H enc w base spare held n cs y h
  obtain ⟨ys, m, _, hy, hl, hn, hf⟩ := DataW.trod_struct Tryd.underlying68 h
  have hl' : cs.length = 3 := hl.trans cells68
  clear hl
  obtain ⟨c0, c1, c2, rfl⟩ := list3 hl'
  obtain ⟨y0, y1, y2, rfl⟩ := list3 (hn.trans (by kernel_rfl) : ys.length = 3)
  subst hy
  have t0 : DataW.trod enc Tryd.prog w base spare held m 9 (([c0, c1, c2].drop 0).take (Tryd.prog.cellsOf 9)) = [y0, y1, y2][0]? := hf 0 _ rfl
  rw [cells9] at t0
  replace t0 : DataW.trod enc Tryd.prog w base spare held m 9 [c0] = some y0 := t0
  obtain ⟨x0, k0_, w0, b0⟩ := op9 t0
  have t1 : DataW.trod enc Tryd.prog w base spare held m 29 (([c0, c1, c2].drop 1).take (Tryd.prog.cellsOf 29)) = [y0, y1, y2][1]? := hf 1 _ rfl
  rw [cells29] at t1
  replace t1 : DataW.trod enc Tryd.prog w base spare held m 29 [c1] = some y1 := t1
  obtain ⟨x1, k1_, w1, b1⟩ := op29 t1
  have t2 : DataW.trod enc Tryd.prog w base spare held m 9 (([c0, c1, c2].drop 2).take (Tryd.prog.cellsOf 9)) = [y0, y1, y2][2]? := hf 2 _ rfl
  rw [cells9] at t2
  replace t2 : DataW.trod enc Tryd.prog w base spare held m 9 [c2] = some y2 := t2
  obtain ⟨x2, k2_, w2, b2⟩ := op9 t2
  refine ⟨(x0, x1, x2), ⟨[c0], [c1, c2], rfl, k0_, ⟨[c1], [c2], rfl, k1_, k2_⟩⟩, ⟨w0, w1, w2⟩, ?_⟩
  simp only [Rows.uptoBulk, Rows.uptoBulkAll, List.map_cons, List.map_nil]
  show 1 + bulk9 x0 + bulk29 x1 + bulk9 x2 ≤ _
  omega
abbrev T71 : Type := T3 × T69 × T9 × T9 × T68 × T9 × T4
def k71 : Kd T71 := Kd.pair k3 (Kd.pair k69 (Kd.pair k9 (Kd.pair k9 (Kd.pair k68 (Kd.pair k9 k4)))))
def wf71 : T71 → Prop := fun x => wf3 x.1 ∧ wf69 x.2.1 ∧ wf9 x.2.2.1 ∧ wf9 x.2.2.2.1 ∧ wf68 x.2.2.2.2.1 ∧ wf9 x.2.2.2.2.2.1 ∧ wf4 x.2.2.2.2.2.2
def bulk71 : T71 → Nat := fun x => 1 + bulk3 x.1 + bulk69 x.2.1 + bulk9 x.2.2.1 + bulk9 x.2.2.2.1 + bulk68 x.2.2.2.2.1 + bulk9 x.2.2.2.2.2.1 + bulk4 x.2.2.2.2.2.2
theorem cells71 : Tryd.prog.cellsOf 71 = 9 := by kernel_rfl
theorem list9 {α : Type} {l : List α} (h : l.length = 9) : ∃ c0 c1 c2 c3 c4 c5 c6 c7 c8, l = [c0, c1, c2, c3, c4, c5, c6, c7, c8] := by
  match l, h with
  | [c0, c1, c2, c3, c4, c5, c6, c7, c8], _ => exact ⟨c0, c1, c2, c3, c4, c5, c6, c7, c8, rfl⟩
theorem op71 : Opens k71 wf71 bulk71 71 := by
  intro H enc w base spare held n cs y h
  obtain ⟨ys, m, _, hy, hl, hn, hf⟩ := DataW.trod_struct Tryd.underlying71 h
  have hl' : cs.length = 9 := hl.trans cells71
  clear hl
  obtain ⟨c0, c1, c2, c3, c4, c5, c6, c7, c8, rfl⟩ := list9 hl'
  obtain ⟨y0, y1, y2, y3, y4, y5, y6, rfl⟩ := list7 (hn.trans (by kernel_rfl) : ys.length = 7)
  subst hy
  have t0 : DataW.trod enc Tryd.prog w base spare held m 3 (([c0, c1, c2, c3, c4, c5, c6, c7, c8].drop 0).take (Tryd.prog.cellsOf 3)) = [y0, y1, y2, y3, y4, y5, y6][0]? := hf 0 _ rfl
  rw [cells3] at t0
  replace t0 : DataW.trod enc Tryd.prog w base spare held m 3 [c0] = some y0 := t0
  obtain ⟨x0, k0_, w0, b0⟩ := op3 t0
  have t1 : DataW.trod enc Tryd.prog w base spare held m 69 (([c0, c1, c2, c3, c4, c5, c6, c7, c8].drop 1).take (Tryd.prog.cellsOf 69)) = [y0, y1, y2, y3, y4, y5, y6][1]? := hf 1 _ rfl
  rw [cells69] at t1
  replace t1 : DataW.trod enc Tryd.prog w base spare held m 69 [c1] = some y1 := t1
  obtain ⟨x1, k1_, w1, b1⟩ := op69 t1
  have t2 : DataW.trod enc Tryd.prog w base spare held m 9 (([c0, c1, c2, c3, c4, c5, c6, c7, c8].drop 2).take (Tryd.prog.cellsOf 9)) = [y0, y1, y2, y3, y4, y5, y6][2]? := hf 2 _ rfl
  rw [cells9] at t2
  replace t2 : DataW.trod enc Tryd.prog w base spare held m 9 [c2] = some y2 := t2
  obtain ⟨x2, k2_, w2, b2⟩ := op9 t2
  have t3 : DataW.trod enc Tryd.prog w base spare held m 9 (([c0, c1, c2, c3, c4, c5, c6, c7, c8].drop 3).take (Tryd.prog.cellsOf 9)) = [y0, y1, y2, y3, y4, y5, y6][3]? := hf 3 _ rfl
  rw [cells9] at t3
  replace t3 : DataW.trod enc Tryd.prog w base spare held m 9 [c3] = some y3 := t3
  obtain ⟨x3, k3_, w3, b3⟩ := op9 t3
  have t4 : DataW.trod enc Tryd.prog w base spare held m 68 (([c0, c1, c2, c3, c4, c5, c6, c7, c8].drop 4).take (Tryd.prog.cellsOf 68)) = [y0, y1, y2, y3, y4, y5, y6][4]? := hf 4 _ rfl
  rw [cells68] at t4
  replace t4 : DataW.trod enc Tryd.prog w base spare held m 68 [c4, c5, c6] = some y4 := t4
  obtain ⟨x4, k4_, w4, b4⟩ := op68 t4
  have t5 : DataW.trod enc Tryd.prog w base spare held m 9 (([c0, c1, c2, c3, c4, c5, c6, c7, c8].drop 7).take (Tryd.prog.cellsOf 9)) = [y0, y1, y2, y3, y4, y5, y6][5]? := hf 5 _ rfl
  rw [cells9] at t5
  replace t5 : DataW.trod enc Tryd.prog w base spare held m 9 [c7] = some y5 := t5
  obtain ⟨x5, k5_, w5, b5⟩ := op9 t5
  have t6 : DataW.trod enc Tryd.prog w base spare held m 4 (([c0, c1, c2, c3, c4, c5, c6, c7, c8].drop 8).take (Tryd.prog.cellsOf 4)) = [y0, y1, y2, y3, y4, y5, y6][6]? := hf 6 _ rfl
  rw [cells4] at t6
  replace t6 : DataW.trod enc Tryd.prog w base spare held m 4 [c8] = some y6 := t6
  obtain ⟨x6, k6_, w6, b6⟩ := op4 t6
  refine ⟨(x0, x1, x2, x3, x4, x5, x6), ⟨[c0], [c1, c2, c3, c4, c5, c6, c7, c8], rfl, k0_, ⟨[c1], [c2, c3, c4, c5, c6, c7, c8], rfl, k1_, ⟨[c2], [c3, c4, c5, c6, c7, c8], rfl, k2_, ⟨[c3], [c4, c5, c6, c7, c8], rfl, k3_, ⟨[c4, c5, c6], [c7, c8], rfl, k4_, ⟨[c7], [c8], rfl, k5_, k6_⟩⟩⟩⟩⟩⟩, ⟨w0, w1, w2, w3, w4, w5, w6⟩, ?_⟩
  simp only [Rows.uptoBulk, Rows.uptoBulkAll, List.map_cons, List.map_nil]
  show 1 + bulk3 x0 + bulk69 x1 + bulk9 x2 + bulk9 x3 + bulk68 x4 + bulk9 x5 + bulk4 x6 ≤ _
  omega
abbrev T28 : Type := List T71
def k28 : Kd T28 := Kd.slice 71 k71
def wf28 : T28 → Prop := fun l => ∀ x ∈ l, wf71 x
def bulk28 : T28 → Nat := fun l => (l.map bulk71).sum + 1
theorem cells28 : Tryd.prog.cellsOf 28 = 1 := by kernel_rfl
theorem op28 : Opens k28 wf28 bulk28 28 := opens_slice Tryd.underlying28 (by kernel_rfl) op71
abbrev T31 : Type := T9 × T26 × T3 × T3 × T3 × T4 × T28 × T29
def k31 : Kd T31 := Kd.pair k9 (Kd.pair k26 (Kd.pair k3 (Kd.pair k3 (Kd.pair k3 (Kd.pair k4 (Kd.pair k28 k29))))))
def wf31 : T31 → Prop := fun x => wf9 x.1 ∧ wf26 x.2.1 ∧ wf3 x.2.2.1 ∧ wf3 x.2.2.2.1 ∧ wf3 x.2.2.2.2.1 ∧ wf4 x.2.2.2.2.2.1 ∧ wf28 x.2.2.2.2.2.2.1 ∧ wf29 x.2.2.2.2.2.2.2
def bulk31 : T31 → Nat := fun x => 1 + bulk9 x.1 + bulk26 x.2.1 + bulk3 x.2.2.1 + bulk3 x.2.2.2.1 + bulk3 x.2.2.2.2.1 + bulk4 x.2.2.2.2.2.1 + bulk28 x.2.2.2.2.2.2.1 + bulk29 x.2.2.2.2.2.2.2
theorem cells31 : Tryd.prog.cellsOf 31 = 8 := by kernel_rfl
theorem list8 {α : Type} {l : List α} (h : l.length = 8) : ∃ c0 c1 c2 c3 c4 c5 c6 c7, l = [c0, c1, c2, c3, c4, c5, c6, c7] := by
  match l, h with
  | [c0, c1, c2, c3, c4, c5, c6, c7], _ => exact ⟨c0, c1, c2, c3, c4, c5, c6, c7, rfl⟩
theorem op31 : Opens k31 wf31 bulk31 31 := by
  intro H enc w base spare held n cs y h
  obtain ⟨ys, m, _, hy, hl, hn, hf⟩ := DataW.trod_struct Tryd.underlying31 h
  have hl' : cs.length = 8 := hl.trans cells31
  clear hl
  obtain ⟨c0, c1, c2, c3, c4, c5, c6, c7, rfl⟩ := list8 hl'
  obtain ⟨y0, y1, y2, y3, y4, y5, y6, y7, rfl⟩ := list8 (hn.trans (by kernel_rfl) : ys.length = 8)
  subst hy
  have t0 : DataW.trod enc Tryd.prog w base spare held m 9 (([c0, c1, c2, c3, c4, c5, c6, c7].drop 0).take (Tryd.prog.cellsOf 9)) = [y0, y1, y2, y3, y4, y5, y6, y7][0]? := hf 0 _ rfl
  rw [cells9] at t0
  replace t0 : DataW.trod enc Tryd.prog w base spare held m 9 [c0] = some y0 := t0
  obtain ⟨x0, k0_, w0, b0⟩ := op9 t0
  have t1 : DataW.trod enc Tryd.prog w base spare held m 26 (([c0, c1, c2, c3, c4, c5, c6, c7].drop 1).take (Tryd.prog.cellsOf 26)) = [y0, y1, y2, y3, y4, y5, y6, y7][1]? := hf 1 _ rfl
  rw [cells26] at t1
  replace t1 : DataW.trod enc Tryd.prog w base spare held m 26 [c1] = some y1 := t1
  obtain ⟨x1, k1_, w1, b1⟩ := op26 t1
  have t2 : DataW.trod enc Tryd.prog w base spare held m 3 (([c0, c1, c2, c3, c4, c5, c6, c7].drop 2).take (Tryd.prog.cellsOf 3)) = [y0, y1, y2, y3, y4, y5, y6, y7][2]? := hf 2 _ rfl
  rw [cells3] at t2
  replace t2 : DataW.trod enc Tryd.prog w base spare held m 3 [c2] = some y2 := t2
  obtain ⟨x2, k2_, w2, b2⟩ := op3 t2
  have t3 : DataW.trod enc Tryd.prog w base spare held m 3 (([c0, c1, c2, c3, c4, c5, c6, c7].drop 3).take (Tryd.prog.cellsOf 3)) = [y0, y1, y2, y3, y4, y5, y6, y7][3]? := hf 3 _ rfl
  rw [cells3] at t3
  replace t3 : DataW.trod enc Tryd.prog w base spare held m 3 [c3] = some y3 := t3
  obtain ⟨x3, k3_, w3, b3⟩ := op3 t3
  have t4 : DataW.trod enc Tryd.prog w base spare held m 3 (([c0, c1, c2, c3, c4, c5, c6, c7].drop 4).take (Tryd.prog.cellsOf 3)) = [y0, y1, y2, y3, y4, y5, y6, y7][4]? := hf 4 _ rfl
  rw [cells3] at t4
  replace t4 : DataW.trod enc Tryd.prog w base spare held m 3 [c4] = some y4 := t4
  obtain ⟨x4, k4_, w4, b4⟩ := op3 t4
  have t5 : DataW.trod enc Tryd.prog w base spare held m 4 (([c0, c1, c2, c3, c4, c5, c6, c7].drop 5).take (Tryd.prog.cellsOf 4)) = [y0, y1, y2, y3, y4, y5, y6, y7][5]? := hf 5 _ rfl
  rw [cells4] at t5
  replace t5 : DataW.trod enc Tryd.prog w base spare held m 4 [c5] = some y5 := t5
  obtain ⟨x5, k5_, w5, b5⟩ := op4 t5
  have t6 : DataW.trod enc Tryd.prog w base spare held m 28 (([c0, c1, c2, c3, c4, c5, c6, c7].drop 6).take (Tryd.prog.cellsOf 28)) = [y0, y1, y2, y3, y4, y5, y6, y7][6]? := hf 6 _ rfl
  rw [cells28] at t6
  replace t6 : DataW.trod enc Tryd.prog w base spare held m 28 [c6] = some y6 := t6
  obtain ⟨x6, k6_, w6, b6⟩ := op28 t6
  have t7 : DataW.trod enc Tryd.prog w base spare held m 29 (([c0, c1, c2, c3, c4, c5, c6, c7].drop 7).take (Tryd.prog.cellsOf 29)) = [y0, y1, y2, y3, y4, y5, y6, y7][7]? := hf 7 _ rfl
  rw [cells29] at t7
  replace t7 : DataW.trod enc Tryd.prog w base spare held m 29 [c7] = some y7 := t7
  obtain ⟨x7, k7_, w7, b7⟩ := op29 t7
  refine ⟨(x0, x1, x2, x3, x4, x5, x6, x7), ⟨[c0], [c1, c2, c3, c4, c5, c6, c7], rfl, k0_, ⟨[c1], [c2, c3, c4, c5, c6, c7], rfl, k1_, ⟨[c2], [c3, c4, c5, c6, c7], rfl, k2_, ⟨[c3], [c4, c5, c6, c7], rfl, k3_, ⟨[c4], [c5, c6, c7], rfl, k4_, ⟨[c5], [c6, c7], rfl, k5_, ⟨[c6], [c7], rfl, k6_, k7_⟩⟩⟩⟩⟩⟩⟩, ⟨w0, w1, w2, w3, w4, w5, w6, w7⟩, ?_⟩
  simp only [Rows.uptoBulk, Rows.uptoBulkAll, List.map_cons, List.map_nil]
  show 1 + bulk9 x0 + bulk26 x1 + bulk3 x2 + bulk3 x3 + bulk3 x4 + bulk4 x5 + bulk28 x6 + bulk29 x7 ≤ _
  omega
abbrev T73 : Type := T3 × T9 × T29
def k73 : Kd T73 := Kd.pair k3 (Kd.pair k9 k29)
def wf73 : T73 → Prop := fun x => wf3 x.1 ∧ wf9 x.2.1 ∧ wf29 x.2.2
def bulk73 : T73 → Nat := fun x => 1 + bulk3 x.1 + bulk9 x.2.1 + bulk29 x.2.2
theorem cells73 : Tryd.prog.cellsOf 73 = 3 := by kernel_rfl
theorem op73 : Opens k73 wf73 bulk73 73 := by
  intro H enc w base spare held n cs y h
  obtain ⟨ys, m, _, hy, hl, hn, hf⟩ := DataW.trod_struct Tryd.underlying73 h
  have hl' : cs.length = 3 := hl.trans cells73
  clear hl
  obtain ⟨c0, c1, c2, rfl⟩ := list3 hl'
  obtain ⟨y0, y1, y2, rfl⟩ := list3 (hn.trans (by kernel_rfl) : ys.length = 3)
  subst hy
  have t0 : DataW.trod enc Tryd.prog w base spare held m 3 (([c0, c1, c2].drop 0).take (Tryd.prog.cellsOf 3)) = [y0, y1, y2][0]? := hf 0 _ rfl
  rw [cells3] at t0
  replace t0 : DataW.trod enc Tryd.prog w base spare held m 3 [c0] = some y0 := t0
  obtain ⟨x0, k0_, w0, b0⟩ := op3 t0
  have t1 : DataW.trod enc Tryd.prog w base spare held m 9 (([c0, c1, c2].drop 1).take (Tryd.prog.cellsOf 9)) = [y0, y1, y2][1]? := hf 1 _ rfl
  rw [cells9] at t1
  replace t1 : DataW.trod enc Tryd.prog w base spare held m 9 [c1] = some y1 := t1
  obtain ⟨x1, k1_, w1, b1⟩ := op9 t1
  have t2 : DataW.trod enc Tryd.prog w base spare held m 29 (([c0, c1, c2].drop 2).take (Tryd.prog.cellsOf 29)) = [y0, y1, y2][2]? := hf 2 _ rfl
  rw [cells29] at t2
  replace t2 : DataW.trod enc Tryd.prog w base spare held m 29 [c2] = some y2 := t2
  obtain ⟨x2, k2_, w2, b2⟩ := op29 t2
  refine ⟨(x0, x1, x2), ⟨[c0], [c1, c2], rfl, k0_, ⟨[c1], [c2], rfl, k1_, k2_⟩⟩, ⟨w0, w1, w2⟩, ?_⟩
  simp only [Rows.uptoBulk, Rows.uptoBulkAll, List.map_cons, List.map_nil]
  show 1 + bulk3 x0 + bulk9 x1 + bulk29 x2 ≤ _
  omega
abbrev T32 : Type := List T73
def k32 : Kd T32 := Kd.slice 73 k73
def wf32 : T32 → Prop := fun l => ∀ x ∈ l, wf73 x
def bulk32 : T32 → Nat := fun l => (l.map bulk73).sum + 1
theorem cells32 : Tryd.prog.cellsOf 32 = 1 := by kernel_rfl
theorem op32 : Opens k32 wf32 bulk32 32 := opens_slice Tryd.underlying32 (by kernel_rfl) op73
abbrev T75 : Type := T9 × T9 × T29
def k75 : Kd T75 := Kd.pair k9 (Kd.pair k9 k29)
def wf75 : T75 → Prop := fun x => wf9 x.1 ∧ wf9 x.2.1 ∧ wf29 x.2.2
def bulk75 : T75 → Nat := fun x => 1 + bulk9 x.1 + bulk9 x.2.1 + bulk29 x.2.2
theorem cells75 : Tryd.prog.cellsOf 75 = 3 := by kernel_rfl
theorem op75 : Opens k75 wf75 bulk75 75 := by
  intro H enc w base spare held n cs y h
  obtain ⟨ys, m, _, hy, hl, hn, hf⟩ := DataW.trod_struct Tryd.underlying75 h
  have hl' : cs.length = 3 := hl.trans cells75
  clear hl
  obtain ⟨c0, c1, c2, rfl⟩ := list3 hl'
  obtain ⟨y0, y1, y2, rfl⟩ := list3 (hn.trans (by kernel_rfl) : ys.length = 3)
  subst hy
  have t0 : DataW.trod enc Tryd.prog w base spare held m 9 (([c0, c1, c2].drop 0).take (Tryd.prog.cellsOf 9)) = [y0, y1, y2][0]? := hf 0 _ rfl
  rw [cells9] at t0
  replace t0 : DataW.trod enc Tryd.prog w base spare held m 9 [c0] = some y0 := t0
  obtain ⟨x0, k0_, w0, b0⟩ := op9 t0
  have t1 : DataW.trod enc Tryd.prog w base spare held m 9 (([c0, c1, c2].drop 1).take (Tryd.prog.cellsOf 9)) = [y0, y1, y2][1]? := hf 1 _ rfl
  rw [cells9] at t1
  replace t1 : DataW.trod enc Tryd.prog w base spare held m 9 [c1] = some y1 := t1
  obtain ⟨x1, k1_, w1, b1⟩ := op9 t1
  have t2 : DataW.trod enc Tryd.prog w base spare held m 29 (([c0, c1, c2].drop 2).take (Tryd.prog.cellsOf 29)) = [y0, y1, y2][2]? := hf 2 _ rfl
  rw [cells29] at t2
  replace t2 : DataW.trod enc Tryd.prog w base spare held m 29 [c2] = some y2 := t2
  obtain ⟨x2, k2_, w2, b2⟩ := op29 t2
  refine ⟨(x0, x1, x2), ⟨[c0], [c1, c2], rfl, k0_, ⟨[c1], [c2], rfl, k1_, k2_⟩⟩, ⟨w0, w1, w2⟩, ?_⟩
  simp only [Rows.uptoBulk, Rows.uptoBulkAll, List.map_cons, List.map_nil]
  show 1 + bulk9 x0 + bulk9 x1 + bulk29 x2 ≤ _
  omega
abbrev T33 : Type := List T75
def k33 : Kd T33 := Kd.slice 75 k75
def wf33 : T33 → Prop := fun l => ∀ x ∈ l, wf75 x
def bulk33 : T33 → Nat := fun l => (l.map bulk75).sum + 1
theorem cells33 : Tryd.prog.cellsOf 33 = 1 := by kernel_rfl
theorem op33 : Opens k33 wf33 bulk33 33 := opens_slice Tryd.underlying33 (by kernel_rfl) op75
abbrev T52 : Type := T9 × T4 × T9 × T4
def k52 : Kd T52 := Kd.pair k9 (Kd.pair k4 (Kd.pair k9 k4))
def wf52 : T52 → Prop := fun x => wf9 x.1 ∧ wf4 x.2.1 ∧ wf9 x.2.2.1 ∧ wf4 x.2.2.2
def bulk52 : T52 → Nat := fun x => 1 + bulk9 x.1 + bulk4 x.2.1 + bulk9 x.2.2.1 + bulk4 x.2.2.2
theorem cells52 : Tryd.prog.cellsOf 52 = 4 := by kernel_rfl
theorem list4 {α : Type} {l : List α} (h : l.length = 4) : ∃ c0 c1 c2 c3, l = [c0, c1, c2, c3] := by
  match l, h with
  | [c0, c1, c2, c3], _ => exact ⟨c0, c1, c2, c3, rfl⟩
theorem op52 : Opens k52 wf52 bulk52 52 := by
  intro H enc w base spare held n cs y h
  obtain ⟨ys, m, _, hy, hl, hn, hf⟩ := DataW.trod_struct Tryd.underlying52 h
  have hl' : cs.length = 4 := hl.trans cells52
  clear hl
  obtain ⟨c0, c1, c2, c3, rfl⟩ := list4 hl'
  obtain ⟨y0, y1, y2, y3, rfl⟩ := list4 (hn.trans (by kernel_rfl) : ys.length = 4)
  subst hy
  have t0 : DataW.trod enc Tryd.prog w base spare held m 9 (([c0, c1, c2, c3].drop 0).take (Tryd.prog.cellsOf 9)) = [y0, y1, y2, y3][0]? := hf 0 _ rfl
  rw [cells9] at t0
  replace t0 : DataW.trod enc Tryd.prog w base spare held m 9 [c0] = some y0 := t0
  obtain ⟨x0, k0_, w0, b0⟩ := op9 t0
  have t1 : DataW.trod enc Tryd.prog w base spare held m 4 (([c0, c1, c2, c3].drop 1).take (Tryd.prog.cellsOf 4)) = [y0, y1, y2, y3][1]? := hf 1 _ rfl
  rw [cells4] at t1
  replace t1 : DataW.trod enc Tryd.prog w base spare held m 4 [c1] = some y1 := t1
  obtain ⟨x1, k1_, w1, b1⟩ := op4 t1
  have t2 : DataW.trod enc Tryd.prog w base spare held m 9 (([c0, c1, c2, c3].drop 2).take (Tryd.prog.cellsOf 9)) = [y0, y1, y2, y3][2]? := hf 2 _ rfl
  rw [cells9] at t2
  replace t2 : DataW.trod enc Tryd.prog w base spare held m 9 [c2] = some y2 := t2
  obtain ⟨x2, k2_, w2, b2⟩ := op9 t2
  have t3 : DataW.trod enc Tryd.prog w base spare held m 4 (([c0, c1, c2, c3].drop 3).take (Tryd.prog.cellsOf 4)) = [y0, y1, y2, y3][3]? := hf 3 _ rfl
  rw [cells4] at t3
  replace t3 : DataW.trod enc Tryd.prog w base spare held m 4 [c3] = some y3 := t3
  obtain ⟨x3, k3_, w3, b3⟩ := op4 t3
  refine ⟨(x0, x1, x2, x3), ⟨[c0], [c1, c2, c3], rfl, k0_, ⟨[c1], [c2, c3], rfl, k1_, ⟨[c2], [c3], rfl, k2_, k3_⟩⟩⟩, ⟨w0, w1, w2, w3⟩, ?_⟩
  simp only [Rows.uptoBulk, Rows.uptoBulkAll, List.map_cons, List.map_nil]
  show 1 + bulk9 x0 + bulk4 x1 + bulk9 x2 + bulk4 x3 ≤ _
  omega
abbrev T34 : Type := List T52
def k34 : Kd T34 := Kd.slice 52 k52
def wf34 : T34 → Prop := fun l => ∀ x ∈ l, wf52 x
def bulk34 : T34 → Nat := fun l => (l.map bulk52).sum + 1
theorem cells34 : Tryd.prog.cellsOf 34 = 1 := by kernel_rfl
theorem op34 : Opens k34 wf34 bulk34 34 := opens_slice Tryd.underlying34 (by kernel_rfl) op52
abbrev T36 : Type := T3 × T22 × T25 × T31 × T9 × T32 × T33 × T9 × T4 × T9 × T4 × T9 × T9 × T4 × T3 × T34
def k36 : Kd T36 := Kd.pair k3 (Kd.pair k22 (Kd.pair k25 (Kd.pair k31 (Kd.pair k9 (Kd.pair k32 (Kd.pair k33 (Kd.pair k9 (Kd.pair k4 (Kd.pair k9 (Kd.pair k4 (Kd.pair k9 (Kd.pair k9 (Kd.pair k4 (Kd.pair k3 k34))))))))))))))
def wf36 : T36 → Prop := fun x => wf3 x.1 ∧ wf22 x.2.1 ∧ wf25 x.2.2.1 ∧ wf31 x.2.2.2.1 ∧ wf9 x.2.2.2.2.1 ∧ wf32 x.2.2.2.2.2.1 ∧ wf33 x.2.2.2.2.2.2.1 ∧ wf9 x.2.2.2.2.2.2.2.1 ∧ wf4 x.2.2.2.2.2.2.2.2.1 ∧ wf9 x.2.2.2.2.2.2.2.2.2.1 ∧ wf4 x.2.2.2.2.2.2.2.2.2.2.1 ∧ wf9 x.2.2.2.2.2.2.2.2.2.2.2.1 ∧ wf9 x.2.2.2.2.2.2.2.2.2.2.2.2.1 ∧ wf4 x.2.2.2.2.2.2.2.2.2.2.2.2.2.1 ∧ wf3 x.2.2.2.2.2.2.2.2.2.2.2.2.2.2.1 ∧ wf34 x.2.2.2.2.2.2.2.2.2.2.2.2.2.2.2
def bulk36 : T36 → Nat := fun x => 1 + bulk3 x.1 + bulk22 x.2.1 + bulk25 x.2.2.1 + bulk31 x.2.2.2.1 + bulk9 x.2.2.2.2.1 + bulk32 x.2.2.2.2.2.1 + bulk33 x.2.2.2.2.2.2.1 + bulk9 x.2.2.2.2.2.2.2.1 + bulk4 x.2.2.2.2.2.2.2.2.1 + bulk9 x.2.2.2.2.2.2.2.2.2.1 + bulk4 x.2.2.2.2.2.2.2.2.2.2.1 + bulk9 x.2.2.2.2.2.2.2.2.2.2.2.1 + bulk9 x.2.2.2.2.2.2.2.2.2.2.2.2.1 + bulk4 x.2.2.2.2.2.2.2.2.2.2.2.2.2.1 + bulk3 x.2.2.2.2.2.2.2.2.2.2.2.2.2.2.1 + bulk34 x.2.2.2.2.2.2.2.2.2.2.2.2.2.2.2
theorem cells36 : Tryd.prog.cellsOf 36 = 29 := by kernel_rfl
theorem list29 {α : Type} {l : List α} (h : l.length = 29) : ∃ c0 c1 c2 c3 c4 c5 c6 c7 c8 c9 c10 c11 c12 c13 c14 c15 c16 c17 c18 c19 c20 c21 c22 c23 c24 c25 c26 c27 c28, l = [c0, c1, c2, c3, c4, c5, c6, c7, c8, c9, c10, c11, c12, c13, c14, c15, c16, c17, c18, c19, c20, c21, c22, c23, c24, c25, c26, c27, c28] := by
  match l, h with
  | [c0, c1, c2, c3, c4, c5, c6, c7, c8, c9, c10, c11, c12, c13, c14, c15, c16, c17, c18, c19, c20, c21, c22, c23, c24, c25, c26, c27, c28], _ => exact ⟨c0, c1, c2, c3, c4, c5, c6, c7, c8, c9, c10, c11, c12, c13, c14, c15, c16, c17, c18, c19, c20, c21, c22, c23, c24, c25, c26, c27, c28, rfl⟩
theorem list16 {α : Type} {l : List α} (h : l.length = 16) : ∃ c0 c1 c2 c3 c4 c5 c6 c7 c8 c9 c10 c11 c12 c13 c14 c15, l = [c0, c1, c2, c3, c4, c5, c6, c7, c8, c9, c10, c11, c12, c13, c14, c15] := by
  match l, h with
  | [c0, c1, c2, c3, c4, c5, c6, c7, c8, c9, c10, c11, c12, c13, c14, c15], _ => exact ⟨c0, c1, c2, c3, c4, c5, c6, c7, c8, c9, c10, c11, c12, c13, c14, c15, rfl⟩
theorem op36 : Opens k36 wf36 bulk36 36 := by
  intro H enc w base spare held n cs y h
  obtain ⟨ys, m, _, hy, hl, hn, hf⟩ := DataW.trod_struct Tryd.underlying36 h
  have hl' : cs.length = 29 := hl.trans cells36
  clear hl
  obtain ⟨c0, c1, c2, c3, c4, c5, c6, c7, c8, c9, c10, c11, c12, c13, c14, c15, c16, c17, c18, c19, c20, c21, c22, c23, c24, c25, c26, c27, c28, rfl⟩ := list29 hl'
  obtain ⟨y0, y1, y2, y3, y4, y5, y6, y7, y8, y9, y10, y11, y12, y13, y14, y15, rfl⟩ := list16 (hn.trans (by kernel_rfl) : ys.length = 16)
  subst hy
  have t0 : DataW.trod enc Tryd.prog w base spare held m 3 (([c0, c1, c2, c3, c4, c5, c6, c7, c8, c9, c10, c11, c12, c13, c14, c15, c16, c17, c18, c19, c20, c21, c22, c23, c24, c25, c26, c27, c28].drop 0).take (Tryd.prog.cellsOf 3)) = [y0, y1, y2, y3, y4, y5, y6, y7, y8, y9, y10, y11, y12, y13, y14, y15][0]? := hf 0 _ rfl
  rw [cells3] at t0
  replace t0 : DataW.trod enc Tryd.prog w base spare held m 3 [c0] = some y0 := t0
  obtain ⟨x0, k0_, w0, b0⟩ := op3 t0
  have t1 : DataW.trod enc Tryd.prog w base spare held m 22 (([c0, c1, c2, c3, c4, c5, c6, c7, c8, c9, c10, c11, c12, c13, c14, c15, c16, c17, c18, c19, c20, c21, c22, c23, c24, c25, c26, c27, c28].drop 1).take (Tryd.prog.cellsOf 22)) = [y0, y1, y2, y3, y4, y5, y6, y7, y8, y9, y10, y11, y12, y13, y14, y15][1]? := hf 1 _ rfl
  rw [cells22] at t1
  replace t1 : DataW.trod enc Tryd.prog w base spare held m 22 [c1] = some y1 := t1
  obtain ⟨x1, k1_, w1, b1⟩ := op22 t1
  have t2 : DataW.trod enc Tryd.prog w base spare held m 25 (([c0, c1, c2, c3, c4, c5, c6, c7, c8, c9, c10, c11, c12, c13, c14, c15, c16, c17, c18, c19, c20, c21, c22, c23, c24, c25, c26, c27, c28].drop 2).take (Tryd.prog.cellsOf 25)) = [y0, y1, y2, y3, y4, y5, y6, y7, y8, y9, y10, y11, y12, y13, y14, y15][2]? := hf 2 _ rfl
  rw [cells25] at t2
  replace t2 : DataW.trod enc Tryd.prog w base spare held m 25 [c2, c3, c4, c5, c6, c7, c8] = some y2 := t2
  obtain ⟨x2, k2_, w2, b2⟩ := op25 t2
  have t3 : DataW.trod enc Tryd.prog w base spare held m 31 (([c0, c1, c2, c3, c4, c5, c6, c7, c8, c9, c10, c11, c12, c13, c14, c15, c16, c17, c18, c19, c20, c21, c22, c23, c24, c25, c26, c27, c28].drop 9).take (Tryd.prog.cellsOf 31)) = [y0, y1, y2, y3, y4, y5, y6, y7, y8, y9, y10, y11, y12, y13, y14, y15][3]? := hf 3 _ rfl
  rw [cells31] at t3
  replace t3 : DataW.trod enc Tryd.prog w base spare held m 31 [c9, c10, c11, c12, c13, c14, c15, c16] = some y3 := t3
  obtain ⟨x3, k3_, w3, b3⟩ := op31 t3
  have t4 : DataW.trod enc Tryd.prog w base spare held m 9 (([c0, c1, c2, c3, c4, c5, c6, c7, c8, c9, c10, c11, c12, c13, c14, c15, c16, c17, c18, c19, c20, c21, c22, c23, c24, c25, c26, c27, c28].drop 17).take (Tryd.prog.cellsOf 9)) = [y0, y1, y2, y3, y4, y5, y6, y7, y8, y9, y10, y11, y12, y13, y14, y15][4]? := hf 4 _ rfl
  rw [cells9] at t4
  replace t4 : DataW.trod enc Tryd.prog w base spare held m 9 [c17] = some y4 := t4
  obtain ⟨x4, k4_, w4, b4⟩ := op9 t4
  have t5 : DataW.trod enc Tryd.prog w base spare held m 32 (([c0, c1, c2, c3, c4, c5, c6, c7, c8, c9, c10, c11, c12, c13, c14, c15, c16, c17, c18, c19, c20, c21, c22, c23, c24, c25, c26, c27, c28].drop 18).take (Tryd.prog.cellsOf 32)) = [y0, y1, y2, y3, y4, y5, y6, y7, y8, y9, y10, y11, y12, y13, y14, y15][5]? := hf 5 _ rfl
  rw [cells32] at t5
  replace t5 : DataW.trod enc Tryd.prog w base spare held m 32 [c18] = some y5 := t5
  obtain ⟨x5, k5_, w5, b5⟩ := op32 t5
  have t6 : DataW.trod enc Tryd.prog w base spare held m 33 (([c0, c1, c2, c3, c4, c5, c6, c7, c8, c9, c10, c11, c12, c13, c14, c15, c16, c17, c18, c19, c20, c21, c22, c23, c24, c25, c26, c27, c28].drop 19).take (Tryd.prog.cellsOf 33)) = [y0, y1, y2, y3, y4, y5, y6, y7, y8, y9, y10, y11, y12, y13, y14, y15][6]? := hf 6 _ rfl
  rw [cells33] at t6
  replace t6 : DataW.trod enc Tryd.prog w base spare held m 33 [c19] = some y6 := t6
  obtain ⟨x6, k6_, w6, b6⟩ := op33 t6
  have t7 : DataW.trod enc Tryd.prog w base spare held m 9 (([c0, c1, c2, c3, c4, c5, c6, c7, c8, c9, c10, c11, c12, c13, c14, c15, c16, c17, c18, c19, c20, c21, c22, c23, c24, c25, c26, c27, c28].drop 20).take (Tryd.prog.cellsOf 9)) = [y0, y1, y2, y3, y4, y5, y6, y7, y8, y9, y10, y11, y12, y13, y14, y15][7]? := hf 7 _ rfl
  rw [cells9] at t7
  replace t7 : DataW.trod enc Tryd.prog w base spare held m 9 [c20] = some y7 := t7
  obtain ⟨x7, k7_, w7, b7⟩ := op9 t7
  have t8 : DataW.trod enc Tryd.prog w base spare held m 4 (([c0, c1, c2, c3, c4, c5, c6, c7, c8, c9, c10, c11, c12, c13, c14, c15, c16, c17, c18, c19, c20, c21, c22, c23, c24, c25, c26, c27, c28].drop 21).take (Tryd.prog.cellsOf 4)) = [y0, y1, y2, y3, y4, y5, y6, y7, y8, y9, y10, y11, y12, y13, y14, y15][8]? := hf 8 _ rfl
  rw [cells4] at t8
  replace t8 : DataW.trod enc Tryd.prog w base spare held m 4 [c21] = some y8 := t8
  obtain ⟨x8, k8_, w8, b8⟩ := op4 t8
  have t9 : DataW.trod enc Tryd.prog w base spare held m 9 (([c0, c1, c2, c3, c4, c5, c6, c7, c8, c9, c10, c11, c12, c13, c14, c15, c16, c17, c18, c19, c20, c21, c22, c23, c24, c25, c26, c27, c28].drop 22).take (Tryd.prog.cellsOf 9)) = [y0, y1, y2, y3, y4, y5, y6, y7, y8, y9, y10, y11, y12, y13, y14, y15][9]? := hf 9 _ rfl
  rw [cells9] at t9
  replace t9 : DataW.trod enc Tryd.prog w base spare held m 9 [c22] = some y9 := t9
  obtain ⟨x9, k9_, w9, b9⟩ := op9 t9
  have t10 : DataW.trod enc Tryd.prog w base spare held m 4 (([c0, c1, c2, c3, c4, c5, c6, c7, c8, c9, c10, c11, c12, c13, c14, c15, c16, c17, c18, c19, c20, c21, c22, c23, c24, c25, c26, c27, c28].drop 23).take (Tryd.prog.cellsOf 4)) = [y0, y1, y2, y3, y4, y5, y6, y7, y8, y9, y10, y11, y12, y13, y14, y15][10]? := hf 10 _ rfl
  rw [cells4] at t10
  replace t10 : DataW.trod enc Tryd.prog w base spare held m 4 [c23] = some y10 := t10
  obtain ⟨x10, k10_, w10, b10⟩ := op4 t10
  have t11 : DataW.trod enc Tryd.prog w base spare held m 9 (([c0, c1, c2, c3, c4, c5, c6, c7, c8, c9, c10, c11, c12, c13, c14, c15, c16, c17, c18, c19, c20, c21, c22, c23, c24, c25, c26, c27, c28].drop 24).take (Tryd.prog.cellsOf 9)) = [y0, y1, y2, y3, y4, y5, y6, y7, y8, y9, y10, y11, y12, y13, y14, y15][11]? := hf 11 _ rfl
  rw [cells9] at t11
  replace t11 : DataW.trod enc Tryd.prog w base spare held m 9 [c24] = some y11 := t11
  obtain ⟨x11, k11_, w11, b11⟩ := op9 t11
  have t12 : DataW.trod enc Tryd.prog w base spare held m 9 (([c0, c1, c2, c3, c4, c5, c6, c7, c8, c9, c10, c11, c12, c13, c14, c15, c16, c17, c18, c19, c20, c21, c22, c23, c24, c25, c26, c27, c28].drop 25).take (Tryd.prog.cellsOf 9)) = [y0, y1, y2, y3, y4, y5, y6, y7, y8, y9, y10, y11, y12, y13, y14, y15][12]? := hf 12 _ rfl
  rw [cells9] at t12
  replace t12 : DataW.trod enc Tryd.prog w base spare held m 9 [c25] = some y12 := t12
  obtain ⟨x12, k12_, w12, b12⟩ := op9 t12
  have t13 : DataW.trod enc Tryd.prog w base spare held m 4 (([c0, c1, c2, c3, c4, c5, c6, c7, c8, c9, c10, c11, c12, c13, c14, c15, c16, c17, c18, c19, c20, c21, c22, c23, c24, c25, c26, c27, c28].drop 26).take (Tryd.prog.cellsOf 4)) = [y0, y1, y2, y3, y4, y5, y6, y7, y8, y9, y10, y11, y12, y13, y14, y15][13]? := hf 13 _ rfl
  rw [cells4] at t13
  replace t13 : DataW.trod enc Tryd.prog w base spare held m 4 [c26] = some y13 := t13
  obtain ⟨x13, k13_, w13, b13⟩ := op4 t13
  have t14 : DataW.trod enc Tryd.prog w base spare held m 3 (([c0, c1, c2, c3, c4, c5, c6, c7, c8, c9, c10, c11, c12, c13, c14, c15, c16, c17, c18, c19, c20, c21, c22, c23, c24, c25, c26, c27, c28].drop 27).take (Tryd.prog.cellsOf 3)) = [y0, y1, y2, y3, y4, y5, y6, y7, y8, y9, y10, y11, y12, y13, y14, y15][14]? := hf 14 _ rfl
  rw [cells3] at t14
  replace t14 : DataW.trod enc Tryd.prog w base spare held m 3 [c27] = some y14 := t14
  obtain ⟨x14, k14_, w14, b14⟩ := op3 t14
  have t15 : DataW.trod enc Tryd.prog w base spare held m 34 (([c0, c1, c2, c3, c4, c5, c6, c7, c8, c9, c10, c11, c12, c13, c14, c15, c16, c17, c18, c19, c20, c21, c22, c23, c24, c25, c26, c27, c28].drop 28).take (Tryd.prog.cellsOf 34)) = [y0, y1, y2, y3, y4, y5, y6, y7, y8, y9, y10, y11, y12, y13, y14, y15][15]? := hf 15 _ rfl
  rw [cells34] at t15
  replace t15 : DataW.trod enc Tryd.prog w base spare held m 34 [c28] = some y15 := t15
  obtain ⟨x15, k15_, w15, b15⟩ := op34 t15
  refine ⟨(x0, x1, x2, x3, x4, x5, x6, x7, x8, x9, x10, x11, x12, x13, x14, x15), ⟨[c0], [c1, c2, c3, c4, c5, c6, c7, c8, c9, c10, c11, c12, c13, c14, c15, c16, c17, c18, c19, c20, c21, c22, c23, c24, c25, c26, c27, c28], rfl, k0_, ⟨[c1], [c2, c3, c4, c5, c6, c7, c8, c9, c10, c11, c12, c13, c14, c15, c16, c17, c18, c19, c20, c21, c22, c23, c24, c25, c26, c27, c28], rfl, k1_, ⟨[c2, c3, c4, c5, c6, c7, c8], [c9, c10, c11, c12, c13, c14, c15, c16, c17, c18, c19, c20, c21, c22, c23, c24, c25, c26, c27, c28], rfl, k2_, ⟨[c9, c10, c11, c12, c13, c14, c15, c16], [c17, c18, c19, c20, c21, c22, c23, c24, c25, c26, c27, c28], rfl, k3_, ⟨[c17], [c18, c19, c20, c21, c22, c23, c24, c25, c26, c27, c28], rfl, k4_, ⟨[c18], [c19, c20, c21, c22, c23, c24, c25, c26, c27, c28], rfl, k5_, ⟨[c19], [c20, c21, c22, c23, c24, c25, c26, c27, c28], rfl, k6_, ⟨[c20], [c21, c22, c23, c24, c25, c26, c27, c28], rfl, k7_, ⟨[c21], [c22, c23, c24, c25, c26, c27, c28], rfl, k8_, ⟨[c22], [c23, c24, c25, c26, c27, c28], rfl, k9_, ⟨[c23], [c24, c25, c26, c27, c28], rfl, k10_, ⟨[c24], [c25, c26, c27, c28], rfl, k11_, ⟨[c25], [c26, c27, c28], rfl, k12_, ⟨[c26], [c27, c28], rfl, k13_, ⟨[c27], [c28], rfl, k14_, k15_⟩⟩⟩⟩⟩⟩⟩⟩⟩⟩⟩⟩⟩⟩⟩, ⟨w0, w1, w2, w3, w4, w5, w6, w7, w8, w9, w10, w11, w12, w13, w14, w15⟩, ?_⟩
  simp only [Rows.uptoBulk, Rows.uptoBulkAll, List.map_cons, List.map_nil]
  show 1 + bulk3 x0 + bulk22 x1 + bulk25 x2 + bulk31 x3 + bulk9 x4 + bulk32 x5 + bulk33 x6 + bulk9 x7 + bulk4 x8 + bulk9 x9 + bulk4 x10 + bulk9 x11 + bulk9 x12 + bulk4 x13 + bulk3 x14 + bulk34 x15 ≤ _
  omega
end Go.Proofs.YtbpediccbeoifaaDoor.TyMsgRefusals
