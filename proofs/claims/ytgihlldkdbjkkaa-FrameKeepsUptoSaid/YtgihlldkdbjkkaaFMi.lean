/- Walk of frame's missing: how many bytes must still come. -/
import Derived.Test.YtgihlldkdbjkkaaProg
import Derived.Test.YtgihlldkdbjkkaaMa
import Derived.Test.YtgihlldkdbjkkaaFS
import Derived.WalkLawsBesides
import Derived.WalkSpells
import Derived.RegionTactic
import Derived.ChangeAlike
import Derived.BigRegion
import Derived.IntWalk
import Derived.Lib.Hide
import Derived.Outline
namespace Go.Proofs.Ytgihlldkdbjkkaa.W
open Go.RowKit
set_option linter.unusedVariables false
set_option linter.unusedSimpArgs false

theorem missing_zero (n : Int) (w : World) (h0 : 0 ≤ n) (h1 : n ≤ 140737488351232) : Calls Try.prog 11 #[.agg #[.int .i64 0, .int .i64 0, .int .i64 0], .int .i64 n] w fun en w' => en = .returned (.int .i64 (2 - n)) ∧ Below w.heap.size w w' := by
  go_enter Try.func11, Try.ntmps11
  go_wp2
  go_ret
  exact ⟨rfl, (Below.refl _ _).alloc (Nat.le_refl _) _⟩
theorem missing_err (a b c n : Int) (w : World) (hc : ¬ c = 0) : Calls Try.prog 11 #[.agg #[.int .i64 a, .int .i64 b, .int .i64 c], .int .i64 n] w fun en w' => en = .returned (.int .i64 0) ∧ Below w.heap.size w w' := by
  have hcb : (c == 0) = false := by simpa using hc
  go_enter Try.func11, Try.ntmps11
  go_wp2
  go_ret
  exact ⟨rfl, (Below.refl _ _).alloc (Nat.le_refl _) _⟩
theorem missing_in (a b n : Int) (w : World) (ha : 2 ≤ a) (ha1 : a ≤ 6) (hb : 0 ≤ b) (hb1 : b < 4294967296) (h0 : 0 ≤ n) (h1 : n ≤ 140737488351232) : Calls Try.prog 11 #[.agg #[.int .i64 a, .int .i64 b, .int .i64 0], .int .i64 n] w fun en w' => en = .returned (.int .i64 (if 0 < a + b - n then a + b - n else 0)) ∧ Below w.heap.size w w' := by
  have hcb : (a == 0) = false := by simp; omega
  go_enter Try.func11, Try.ntmps11
  go_wp2
  all_goals
    go_ret
    exact ⟨rfl, (Below.refl _ _).alloc (Nat.le_refl _) _⟩
/-- HOW MANY BYTES MUST STILL COME, of what a header tells. -/
theorem fmissing_any (a b c n : Int) (w : World) (h0 : 0 ≤ n) (h1 : n ≤ 140737488351232) (h : (a = 0 ∧ b = 0 ∧ c = 0) ∨ ¬ c = 0 ∨ (2 ≤ a ∧ a ≤ 6 ∧ 0 ≤ b ∧ b < 4294967296 ∧ c = 0)) :
    Calls Try.prog 11 #[.agg #[.int .i64 a, .int .i64 b, .int .i64 c], .int .i64 n] w fun en w' => en = .returned (.int .i64 (missS (a, b, c) n)) ∧ Below w.heap.size w w' := by
  rcases h with ⟨rfl, rfl, rfl⟩ | h | ⟨g0, g1, g2, g3, rfl⟩
  · exact missing_zero n w h0 h1
  · have e : missS (a, b, c) n = 0 := by unfold missS; rw [if_neg (fun z => h z.2.2), if_neg h]
    rw [e]
    exact missing_err a b c n w h
  · have e : missS (a, b, 0) n = if 0 < a + b - n then a + b - n else 0 := by unfold missS; rw [if_neg (fun z => by simp at z; omega), if_pos rfl]
    rw [e]
    exact missing_in a b n w g0 g1 g2 g3 h0 h1
end Go.Proofs.Ytgihlldkdbjkkaa.W
