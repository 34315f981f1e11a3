/- BerElems, as its row takes it. -/
import Derived.Test.YtbloccjogadlmaaTyBerElems
import Derived.Test.YtbloccjogadlmaaEl5
namespace Go.Proofs.Ytbloccjogadlmaa.Pure
open Go.RowKit Go.Proofs.YtbloccjogadlmaaW.PrintWords
set_option linter.unusedVariables false
set_option linter.unusedSimpArgs false
theorem BerElems (W : World) (a0 : ByteArray) (w0 : a0.size ≤ 1048576) (a1 : Int) (w1 : (Lit.int .i64 a1).wf = true) :
    Calls Try.prog 3 #[.string a0, .int .i64 a1] W fun en w' => en = .returned (.bool true) ∧ Below W.heap.size W w' :=
  callsIn_wide.1 (Go.Proofs.Ytbloccjogadlmaa.W.BerElems_in 20 (Nat.le_refl _) a0 a1 W w0)
end Go.Proofs.Ytbloccjogadlmaa.Pure
