/- Walk of ber.Head: the header with which a text begins, or the error; the memory that was there stays. -/
import Derived.Test.YtolhmomnidlmaaaBCa
import Derived.Test.YtolhmomnidlmaaaMa
namespace Go.Proofs.Ytolhmomnidlmaaa.W
open Go.RowKit
set_option linter.unusedVariables false
set_option linter.unusedSimpArgs false

def hd0 : Hd := ⟨0, false, 0, 0, 0⟩
def faultOf {α : Type} : Except (Int × Int) α → Option (Int × Int) | .error x => some x | .ok _ => none
/-- What Head answers. -/
def headR (s : ByteArray) : Hd × Int := match hdr s 0 s.size 1 with | .ok h => (h, 0) | .error x => (hd0, x.1)
def hdCells (h : Hd) : Array Value := #[.int .i64 h.cls, .bool h.made, .int .i64 h.tag, .int .i64 h.len, .int .i64 h.size]

theorem HeadC_ok (B gs gb gh : Nat) (s : ByteArray) (w : World) (hs : s.size ≤ 140737488351232) (aS : At w gs 92 #[.string s, .slice none 0 0]) (aB : At w gb 9 #[.string s])
    (aH : At w gh 40 #[.int .i64 0, .bool false, .int .i64 0, .int .i64 0, .int .i64 0]) (aF : At w B 86 #[.int .i64 0, .int .i64 0]) {h : Hd} (hr : hdr s 0 s.size 1 = .ok h) :
    Calls Try.prog 56 #[.pointer (some ⟨gs, 0, none⟩), .pointer (some ⟨gb, 0, none⟩), .pointer (some ⟨gh, 0, none⟩)] w (RunEnd none B fun w1 => At w1 gh 40 (hdCells h) ∧ w.grownBy w1 (some gh)) := by
  have HR := Lib.hid hr
  clear hr
  have b0 := (aB.cell 0).trans rfl
  go_enter Try.func56, Try.ntmps56
  go_wp2_with fail
  refine (header_ok gs s 0 s.size 1 _ (by omega) (by omega) hs ((aS.cell 0).trans rfl) aS.lt HR.out).mono ?_
  rintro en w1 ⟨rfl, hbw1⟩
  have a1 := aH.below hbw1 aH.lt
  have f1 := aF.below hbw1 aF.lt
  have c0 := (a1.cell 0).trans rfl
  have c1 := (a1.cell 1).trans rfl
  have c2 := (a1.cell 2).trans rfl
  have c3 := (a1.cell 3).trans rfl
  have c4 := (a1.cell 4).trans rfl
  have e0 := a1.free 0
  have e1 := a1.free 1
  have e2 := a1.free 2
  have e3 := a1.free 3
  have e4 := a1.free 4
  have B1 := grown_below hbw1 (some gh)
  have hne : B ≠ gh := by
    rintro rfl
    unfold At at aH aF
    rw [aH] at aF
    injection aF with aF
    injection aF with _ h5 _
    exact absurd h5 (by decide)
  have A1 := Lib.hid a1
  have F1 := Lib.hid f1
  clear a1 f1 aS aB aH aF hbw1 b0
  go_wp2_with fail
  go_end0
  exact ⟨rfl, ((((F1.out.far hne _).far hne _).far hne _).far hne _).far hne _, ((((A1.out.set 0 _).set 1 _).set 2 _).set 3 _).set 4 _, grown_set (grown_set (grown_set (grown_set (grown_set B1 0 _) 1 _) 2 _) 3 _) 4 _⟩

theorem HeadC_no (B gs gb gh : Nat) (s : ByteArray) (w : World) (hs : s.size ≤ 140737488351232) (aS : At w gs 92 #[.string s, .slice none 0 0]) (aB : At w gb 9 #[.string s])
    (aH : At w gh 40 #[.int .i64 0, .bool false, .int .i64 0, .int .i64 0, .int .i64 0]) (aF : At w B 86 #[.int .i64 0, .int .i64 0]) {c q : Int} (hr : hdr s 0 s.size 1 = .error (c, q)) :
    Calls Try.prog 56 #[.pointer (some ⟨gs, 0, none⟩), .pointer (some ⟨gb, 0, none⟩), .pointer (some ⟨gh, 0, none⟩)] w (RunEnd (some (c, q)) B fun w1 => At w1 gh 40 (hdCells hd0) ∧ w.grownBy w1 (some gh)) := by
  have HR := Lib.hid hr
  clear hr
  have b0 := (aB.cell 0).trans rfl
  go_enter Try.func56, Try.ntmps56
  go_wp2_with fail
  refine (header_err gs s 0 s.size 1 _ (by omega) (by omega) hs ((aS.cell 0).trans rfl) aS.lt HR.out).mono ?_
  rintro en w1 ⟨rfl, hbw1⟩
  exact ⟨rfl, rfl, aF.below hbw1 aF.lt, aH.below hbw1 aH.lt, grown_below hbw1 _⟩

set_option maxRecDepth 100000 in
/-- WHAT Head ANSWERS. -/
theorem Head_any (s : ByteArray) (w : World) (hs : s.size ≤ 140737488351232) :
    Calls Try.prog 30 #[.string s] w fun en w' => en = .returned (.tuple #[.agg (hdCells (headR s).1), .int .i64 (headR s).2]) ∧ Below w.heap.size w w' := by
  have hmf : ∀ (fn : Fn) (first cap : Array Value) (w : World), (Instr.makeFunc fn first cap).run Try.prog w = .ok (.func fn first cap) w := fun _ _ _ _ => rfl
  have HC : ∃ r : Option (Int × Int), errOf r = (headR s).2 ∧ ∀ (W : World) (B gs gb gh : Nat), At W gs 92 #[.string s, .slice none 0 0] → At W gb 9 #[.string s] →
      At W gh 40 #[.int .i64 0, .bool false, .int .i64 0, .int .i64 0, .int .i64 0] → At W B 86 #[.int .i64 0, .int .i64 0] →
      Calls Try.prog 56 #[.pointer (some ⟨gs, 0, none⟩), .pointer (some ⟨gb, 0, none⟩), .pointer (some ⟨gh, 0, none⟩)] W (RunEnd r B fun w1 => At w1 gh 40 (hdCells (headR s).1) ∧ W.grownBy w1 (some gh)) := by
    unfold headR
    cases hr : hdr s 0 s.size 1 with
    | ok h => exact ⟨none, rfl, fun W B gs gb gh a1 a2 a3 a4 => HeadC_ok B gs gb gh s W hs a1 a2 a3 a4 hr⟩
    | error x => obtain ⟨c, q⟩ := x; exact ⟨some (c, q), rfl, fun W B gs gb gh a1 a2 a3 a4 => HeadC_no B gs gb gh s W hs a1 a2 a3 a4 hr⟩
  obtain ⟨r, hre, hc⟩ := HC
  obtain ⟨h, hh⟩ : ∃ h, h = (headR s).1 := ⟨_, rfl⟩
  obtain ⟨c, hcc⟩ : ∃ c, c = (headR s).2 := ⟨_, rfl⟩
  rw [← hh, ← hcc]
  rw [← hcc] at hre
  rw [← hh] at hc
  have HR := Lib.hid hre
  have HC := Lib.hid hc
  clear hre hc hh hcc
  go_enter Try.func30, Try.ntmps30
  go_wp2_with fail
  refine gen4 (G := fun W => Calls _ _ _ W _) fun W hB hz k1 k2 k3 k4 => ?_
  have aF := At.new W 86 #[.int .i64 0, .int .i64 0]
  refine (caught_HeadC _ _ r _ (HC.out _ _ _ _ _ (k3.alloc _) (k1.alloc _) (k4.alloc _) aF)).mono ?_
  rintro en w2 ⟨rfl, w1, ⟨m1, m2⟩, hg⟩
  have z1 : w.heap.size + 1 + 1 + 1 < W.heap.size := by omega
  have n4 := m1.kept hg (by omega)
  have n2 := ((k2.alloc (.cells #[.int .i64 0, .int .i64 0] 86)).kept m2 (by omega)).kept hg (by omega)
  have B2 : Below w.heap.size w w2 := below_kept (below_kept (hB.alloc (by omega) _) m2 (by simp; omega) (by omega)) hg (by have := m2.size; simp at this; omega) (by omega)
  have hz2 : w.heap.size ≤ w2.heap.size := B2.size
  clear m1 m2 hg k1 k2 k3 k4 aF hB HC hz
  have z2 := n4.lt
  have z3 := n2.lt
  have c0 : ∀ i, w2.cell? ⟨w.heap.size + 1 + 1 + 1, i, none⟩ = _ := n4.cell
  have d0 := (n2.cell 0).trans rfl
  have d1 := (n2.cell 1).trans rfl
  have d2 := (n2.cell 2).trans rfl
  have d3 := (n2.cell 3).trans rfl
  have d4 := (n2.cell 4).trans rfl
  have e0 := n2.free 0
  have e1 := n2.free 1
  have e2 := n2.free 2
  have e3 := n2.free 3
  have e4 := n2.free 4
  have N2 := Lib.hid n2
  clear n2
  unfold hdCells at c0
  go_wp2_with fail
  go_region
  go_wp2
  have hr := HR.out
  refine bodyPost_ret (v := .tuple #[.agg (hdCells h), .int .i64 c]) ?_ rfl ⟨rfl, ?_⟩
  · simp [results, Try.results30, go_sem, hdCells, d0, d1, d2, d3, d4, z3, hr]
  · exact ((((((B2.setCell (by simp) _).setCell (by simp) _).setCell (by simp) _).setCell (by simp) _).setCell (by simp) _).alloc (by simp; omega) _).drew
end Go.Proofs.Ytolhmomnidlmaaa.W
