-- Written for this claim by a program of this session (wip/tools/rows.py).
import Derived.Test.YtolhmomnidlmaaaGKx3
namespace Go.Proofs.Ytolhmomnidlmaaa.StBerKids
open Go.RowKit Go.Proofs.Ytolhmomnidlmaaa.GK Go.Proofs.YtolhmomnidlmaaaW.PrintWords
def bulk49 (x : S49) : Nat := 6 + x.f4.size
def wf49 (x : S49) : Prop := (Lit.int .i64 x.f0).wf = true ∧ (Lit.int .i64 x.f1).wf = true ∧ (Lit.int .i64 x.f3).wf = true
/-- THE PURE STATEMENT of roster/rosterlaw02.BerKids. -/
def Pure : Prop := ∀ (l0 : List S49), l0.length ≤ 1048576 → (l0.map bulk49).sum ≤ 1048576 → (∀ x ∈ l0, wf49 x) → ∃ k, rosterlaw02_BerKids.f k l0 = some true
end Go.Proofs.Ytolhmomnidlmaaa.StBerKids
