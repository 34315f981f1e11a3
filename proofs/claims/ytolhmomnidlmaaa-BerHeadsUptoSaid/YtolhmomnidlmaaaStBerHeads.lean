-- Written for this claim by a program of this session (wip/tools/rows.py).
import Derived.Test.YtolhmomnidlmaaaGFx5
namespace Go.Proofs.Ytolhmomnidlmaaa.StBerHeads
open Go.RowKit Go.Proofs.Ytolhmomnidlmaaa.GF Go.Proofs.YtolhmomnidlmaaaW.PrintWords
def bulk49 (x : S49) : Nat := 6 + x.f4.size
def wf49 (x : S49) : Prop := (Lit.int .i64 x.f0).wf = true ∧ (Lit.int .i64 x.f1).wf = true ∧ (Lit.int .i64 x.f3).wf = true
/-- THE PURE STATEMENT of roster/rosterlaw02.BerHeads. -/
def Pure : Prop := ∀ (l0 : List S49) (l1 : List Int) (a2 : Int) (a3 : ByteArray), l0.length ≤ 1048576 → (l0.map bulk49).sum ≤ 1048576 → (∀ x ∈ l0, wf49 x) → l1.length ≤ 1048576 → (∀ x ∈ l1, (Lit.int .i64 x).wf = true) → (Lit.int .i64 a2).wf = true → a3.size ≤ 1048576 → ∃ k, rosterlaw02_BerHeads.f k l0 l1 a2 a3 = some true
end Go.Proofs.Ytolhmomnidlmaaa.StBerHeads
