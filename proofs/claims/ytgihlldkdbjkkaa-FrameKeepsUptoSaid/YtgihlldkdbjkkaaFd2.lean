/- Walks of frame.New and of the Framer's questions: Held, Need, Fault. -/
import Derived.Test.YtgihlldkdbjkkaaFd
namespace Go.Proofs.Ytgihlldkdbjkkaa.W
open Go.RowKit Go.Proofs.YtgihlldkdbjkkaaW.PrintWords Go.Proofs.YtgihlldkdbjkkaaW.PrintLast Go.Proofs.YtgihlldkdbjkkaaW.PrintMore
attribute [local go_sem] max2_int min2_int max_two min_two   -- for this text's walks alone
set_option linter.unusedVariables false
set_option linter.unusedSimpArgs false

theorem New_any (limit : Int) (w : World) : Calls Try.prog 4 #[.int .i64 limit] w fun en w' => ∃ g, en = .returned (.pointer (some ⟨g, 0, none⟩)) ∧ w.heap.size ≤ g ∧ FrAt w' w.heap.size g (.slice none 0 0) limit ⟨#[]⟩ 0 0 ∧ Below w.heap.size w w' := by
  go_enter Try.func4, Try.ntmps4
  go_wp2_with fail
  go_ret
  exact ⟨_, rfl, Nat.le_refl _, ⟨At.new _ _ _, Kd.R_nil _ _ _ _ _⟩, (Below.refl _ _).alloc (Nat.le_refl _) _⟩
end Go.Proofs.Ytgihlldkdbjkkaa.W
