/- What a round keeps: words for the bodies of ranges over functions. -/
import Derived.Test.YtbloccjogadlmaaEs
import Derived.Test.YtbloccjogadlmaaRnd
namespace Go.Proofs.Ytbloccjogadlmaa.W
open Go.RowKit Go.Shelf Go.Proofs.YtbloccjogadlmaaW.PrintWords Go.Proofs.YtbloccjogadlmaaW.PrintLast
set_option linter.unusedVariables false
set_option linter.unusedSimpArgs false

theorem at_kept {B b t : Nat} {cs : Array Value} {X Y : World} {row : Option Nat} (h : At X b t cs) (hg : X.grownBy Y row) (hr : ∀ r, row = some r → B ≤ r ∧ ∃ o : Obj, X.heap[r]? = some o ∧ o.isCells = false) : At Y b t cs := by
  refine (hg.block b h.lt (fun e => ?_)).trans h
  obtain ⟨_, o, ho, hc⟩ := hr b e.symm
  rw [show X.heap[b]? = _ from h] at ho
  injection ho with ho
  subst ho
  cases hc
theorem kpc_own {β : Type} {S : Nat → Prop} {B : Nat} {W0 : World} : OwnFrom B (fun (_ : β) W => KpC S W0 W) := by
  intro _ X Y row hs hg hr
  refine ⟨Nat.le_trans hs.1 hg.size, fun k o h1 h2 h3 => ?_⟩
  have h4 := hs.2 k o h1 h2 h3
  refine (hg.block k (Array.getElem?_eq_some_iff.1 h4).1 (fun e => ?_)).trans h4
  obtain ⟨_, q, ho, hc⟩ := hr k e.symm
  rw [h4] at ho
  injection ho with ho
  subst ho
  rw [hc] at h2
  cases h2
theorem KpC.alloc {S : Nat → Prop} {W W' : World} (h : KpC S W W') (o : Obj) : KpC S W (W'.alloc o) := ⟨Nat.le_trans h.1 (by simp), fun k q h1 h2 h3 => (Below.heap_alloc W' o k (Array.getElem?_eq_some_iff.1 (h.2 k q h1 h2 h3)).1).trans (h.2 k q h1 h2 h3)⟩
theorem KpC.set {S : Nat → Prop} {W W' : World} (h : KpC S W W') {b i : Nat} (u : Value) (hb : S b) : KpC S W (W'.setCell ⟨b, i, none⟩ u) := ⟨Nat.le_trans h.1 (by simp), fun k q h1 h2 h3 => (Below.heap_setCell W' _ u k (fun e => by subst e; exact h3 hb)).trans (h.2 k q h1 h2 h3)⟩
theorem kf_set (B : Nat) (W : World) (nq : Nat) (a : Addr) (v : Value) : KeepsFrom B W ((W.drewN nq).setCell a v) := ⟨(KeepsOthers.setCell (W.drewN nq) a v).size, fun k o _ hk ho => (KeepsOthers.setCell (W.drewN nq) a v).same k o hk ho⟩
theorem boxAt {W : World} {b t : Nat} {v : Value} (h : At W b t #[v]) : Boxed W b t v := h

end Go.Proofs.Ytbloccjogadlmaa.W
