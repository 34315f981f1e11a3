/- The document's Tree and Split: contracts, as of ber's own. -/
import Derived.Test.YtbloccjogadlmaaRp
import Derived.Test.YtbloccjogadlmaaMa
namespace Go.Proofs.Ytbloccjogadlmaa.W
open Go.RowKit Go.Proofs.Ytbloccjogadlmaa.GR Go.Proofs.YtbloccjogadlmaaW.PrintWords Go.Proofs.YtbloccjogadlmaaW.PrintLast
set_option linter.unusedVariables false
set_option linter.unusedSimpArgs false

theorem R_back {α β : Type} {d : Kd α} {f : β → α} {e : Nat} {w : World} {base : Nat} {ok : Nat → Prop} {v : Value} {xs : List α} (g : α → β) (hfg : ∀ x, f (g x) = x)
    (h : Kd.R (Kd.iso d f) e w base ok v (xs.map g)) : Kd.R d e w base ok v xs := by
  rw [R_iso, List.map_map] at h
  have : (f ∘ g) = id := funext hfg
  rwa [this, List.map_id] at h
theorem refSplit_any (s : ByteArray) (w : World) (hs : s.size ≤ 4194304) :
    Calls Try.prog 17 #[.string s] w fun en w' => ∃ v0_ : Value, en = .returned (.tuple #[v0_, .int .i64 (splitS s).2.1, .int .i64 (splitS s).2.2]) ∧ Kd.R kElem 71 w' w.heap.size (fun _ => True) v0_ (splitS s).1 ∧ Below w.heap.size w w' := by
  refine (rosterref02_Split.calls _ s _ _ _ w (refSplit_f s hs)).mono ?_
  rintro en w' ⟨v, h1, h2, h3⟩
  exact ⟨v, h1, R_back (d := kElem) eup (fun _ => rfl) h2, h3⟩
theorem refTree_any (s : ByteArray) (w : World) (hs : s.size ≤ 2097152) :
    Calls Try.prog 14 #[.string s] w fun en w' => ∃ v0_ : Value, en = .returned (.tuple #[v0_, .int .i64 (treeS s).2.1, .int .i64 (treeS s).2.2]) ∧ Kd.R kNode 39 w' w.heap.size (fun _ => True) v0_ (treeS s).1 ∧ Below w.heap.size w w' := by
  obtain ⟨k, hk⟩ := refTree_f s hs
  refine (rosterref02_Tree.calls k s _ _ _ w hk).mono ?_
  rintro en w' ⟨v, h1, h2, h3⟩
  exact ⟨v, h1, R_back (d := kNode) nup (fun _ => rfl) h2, h3⟩
end Go.Proofs.Ytbloccjogadlmaa.W
