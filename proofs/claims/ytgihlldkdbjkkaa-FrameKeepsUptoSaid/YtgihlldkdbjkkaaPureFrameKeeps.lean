/- The statement FrameKeeps, as its row takes it: over the kinds of its parameter. -/
import Derived.Test.YtgihlldkdbjkkaaTyFrameKeeps
import Derived.Test.YtgihlldkdbjkkaaKp
namespace Go.Proofs.Ytgihlldkdbjkkaa.Pure
open Go.ChangeShapes Go.WideShapes Go.ChangeAt Go.RowKit Go.Proofs.YtgihlldkdbjkkaaW.PrintWords Go.Proofs.Ytgihlldkdbjkkaa.TyFrameKeeps Go.Proofs.Ytgihlldkdbjkkaa.W
set_option linter.unusedVariables false
set_option linter.unusedSimpArgs false
theorem bulk_tot (l : List (Int × ByteArray)) : 3 * l.length + totB l l.length ≤ (l.map bulk27).sum := by
  unfold totB
  rw [List.take_length]
  induction l with
  | nil => simp
  | cons x r ih =>
    simp only [List.map_cons, List.sum_cons, List.length_cons]
    have e : bulk27 x = 1 + 1 + (x.2.size + 1) := rfl
    omega
theorem FrameKeeps (w : World) (A0 : Option Addr) (c0 : Nat) (l0 : List (Int × ByteArray)) (hc0 : l0.length ≤ c0) (hr0 : Kd.C TyFrameKeeps.k27 w A0 l0.length l0) (hw0 : TyFrameKeeps.wf22 l0) (hb0 : TyFrameKeeps.bulk22 l0 ≤ 1048576) :
    Calls Try.prog 3 #[.slice A0 l0.length c0] w fun en w' => en = .returned (.bool true) ∧ Below w.heap.size w w' := by
  have hb : (l0.map TyFrameKeeps.bulk27).sum + 1 ≤ 1048576 := hb0
  have h := bulk_tot l0
  exact Go.Proofs.Ytgihlldkdbjkkaa.W.keeps_any A0 c0 l0 w hr0 hc0 (by omega) (by omega)
end Go.Proofs.Ytgihlldkdbjkkaa.Pure
