/- More words for memory: four and five blocks that were laid get letters; what a call left of a block. -/
import Derived.Test.YtolhmomnidlmaaaBW
namespace Go.Proofs.Ytolhmomnidlmaaa.W
open Go.RowKit
set_option linter.unusedVariables false
set_option linter.unusedSimpArgs false

theorem gen4 {w : World} {c1 c2 c3 c4 : Array Value} {t1 t2 t3 t4 : TypeId} {G : World → Prop}
    (h : ∀ W, Below w.heap.size w W → W.heap.size = w.heap.size + 1 + 1 + 1 + 1 → At W w.heap.size t1 c1 → At W (w.heap.size + 1) t2 c2 → At W (w.heap.size + 1 + 1) t3 c3 → At W (w.heap.size + 1 + 1 + 1) t4 c4 → G W) :
    G ((((w.alloc (.cells c1 t1)).alloc (.cells c2 t2)).alloc (.cells c3 t3)).alloc (.cells c4 t4)) :=
  gen3 (G := fun V => G (V.alloc (.cells c4 t4))) fun V hb hz h1 h2 h3 => h _ (hb.alloc (by omega) _) (by simp [hz]) (h1.alloc _) (h2.alloc _) (h3.alloc _) (by have := At.new V t4 c4; rw [hz] at this; exact this)
theorem below_draws {B : Nat} {a w : World} (h : Below B a w) (n : Nat) : Below B a (w.drewN n) := ⟨h.os, h.tape, h.output, h.size, h.block⟩
theorem gen2d {w : World} {c1 c2 : Array Value} {t1 t2 : TypeId} {n : Nat} {G : World → Prop}
    (h : ∀ W, Below w.heap.size w W → W.heap.size = w.heap.size + 1 + 1 → At W w.heap.size t1 c1 → At W (w.heap.size + 1) t2 c2 → G W) : G (((w.alloc (.cells c1 t1)).drewN n).alloc (.cells c2 t2)) :=
  h _ ((below_draws ((Below.refl _ _).alloc (Nat.le_refl _) _) n).alloc (by show _ ≤ (w.alloc (.cells c1 t1)).heap.size; simp) _) (by show ((w.alloc (.cells c1 t1)).heap.push _).size = _; simp) (((At.new _ _ _).drewN n).alloc _)
    (by have := At.new ((w.alloc (.cells c1 t1)).drewN n) t2 c2; have e : ((w.alloc (.cells c1 t1)).drewN n).heap.size = w.heap.size + 1 := by show (w.alloc (.cells c1 t1)).heap.size = _; simp
        rw [e] at this; exact this)
theorem grown_below {w w' : World} (h : Below w.heap.size w w') (r : Option Nat) : w.grownBy w' r := ⟨h.os, h.tape, h.output, h.size, fun i hi _ => h.block i hi⟩
theorem At.kept {w w' : World} {b k : Nat} {t : TypeId} {cs : Array Value} (h : At w b t cs) (hg : w.grownBy w' (some k)) (hne : b ≠ k) : At w' b t cs :=
  (hg.block b h.lt (fun e => hne (by injection e))).trans h
theorem below_kept {B k : Nat} {a w w' : World} (h : Below B a w) (hg : w.grownBy w' (some k)) (hB : B ≤ w.heap.size) (hk : B ≤ k) : Below B a w' :=
  h.grown hg hB (fun j hj => by injection hj with hj; omega)
/-- Blocks of different element types are two. -/
theorem At.ne {w : World} {a b : Nat} {s t : TypeId} {cs ds : Array Value} (h : At w a s cs) (k : At w b t ds) (hne : s ≠ t) : a ≠ b := by
  rintro rfl
  unfold At at h k
  rw [h] at k
  injection k with k
  injection k with _ h5 _
  exact hne h5
end Go.Proofs.Ytolhmomnidlmaaa.W
