/- WholeStreams, as its row takes it. -/
import Derived.Test.YtbgmnfkfbiemaaaTyWholeStreams
import Derived.Test.YtbgmnfkfbiemaaaJw
namespace Go.Proofs.Ytbgmnfkfbiemaaa.Pure
open Go.RowKit Go.Proofs.YtbgmnfkfbiemaaaW.PrintWords
set_option linter.unusedVariables false
set_option linter.unusedSimpArgs false
theorem str_C {w : World} {A : Option Addr} {n : Nat} {xs : List ByteArray} (h : Kd.C TyWholeStreams.k9 w A n xs) : Kd.C Kd.string w A n xs := h
theorem int_C {w : World} {A : Option Addr} {n : Nat} {xs : List Int} (h : Kd.C TyWholeStreams.k3 w A n xs) : Kd.C (Kd.int .i64) w A n xs := h
theorem sum_len (l : List Int) : (l.map fun _ => 1).sum = l.length := by
  induction l with
  | nil => rfl
  | cons x r ih => simp only [List.map_cons, List.sum_cons, List.length_cons]; omega
theorem WholeStreams (w : World) (A0 : Option Addr) (c0 : Nat) (l0 : List ByteArray) (hc0 : l0.length ≤ c0) (hr0 : Kd.C TyWholeStreams.k9 w A0 l0.length l0) (hw0 : TyWholeStreams.wf22 l0) (hb0 : TyWholeStreams.bulk22 l0 ≤ 1048576)
    (A1 : Option Addr) (c1 : Nat) (l1 : List Int) (hc1 : l1.length ≤ c1) (hr1 : Kd.C TyWholeStreams.k3 w A1 l1.length l1) (hw1 : TyWholeStreams.wf23 l1) (hb1 : TyWholeStreams.bulk23 l1 ≤ 1048576) :
    Calls Try.prog 3 #[.slice A0 l0.length c0, .slice A1 l1.length c1] w fun en w' => en = .returned (.bool true) ∧ Below w.heap.size w w' := by
  have hb : (l0.map fun b => b.size + 1).sum + 1 ≤ 1048576 := hb0
  have hb1' : (l1.map fun _ => 1).sum + 1 ≤ 1048576 := hb1
  rw [sum_len] at hb1'
  exact Go.Proofs.Ytbgmnfkfbiemaaa.W.streams_any A0 c0 l0 A1 c1 l1 w (str_C hr0) hc0 (int_C hr1) hc1 hw1 (by omega) (by omega)
end Go.Proofs.Ytbgmnfkfbiemaaa.Pure
