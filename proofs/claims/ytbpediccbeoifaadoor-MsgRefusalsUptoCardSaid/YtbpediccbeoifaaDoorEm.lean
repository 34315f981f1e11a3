/- Texts of this session in one: BW, BW2, BS, Kd, BE, BT, En -/
import Derived.Below
import Derived.OneCell
import Derived.WalkKit
import Derived.Lib.ConvBytes
import Derived.Deep.Draws
import Derived.Test.YtbpediccbeoifaaDoorVWords
import Derived.Laws.MakeOwn
import Derived.OwnWalk
/-! ## Words of this session for memory: a block that is known whole; which blocks a step leaves alone; bits of bytes. They hold of every program. -/
namespace Go.Proofs.YtbpediccbeoifaaDoor.W
open Go.RowKit
set_option linter.unusedVariables false
set_option linter.unusedSimpArgs false

/-- Block b is just the cells cs, of element type t, none of them frozen. -/
def At (w : World) (b : Nat) (t : TypeId) (cs : Array Value) : Prop := w.heap[b]? = some (.cells cs t (0, 0))

section
variable {w w' : World} {b : Nat} {t : TypeId} {cs : Array Value}
theorem At.lt (h : At w b t cs) : b < w.heap.size := lt_of_block h
theorem At.cell (h : At w b t cs) (i : Nat) : w.cell? ⟨b, i, none⟩ = cs[i]? := by
  unfold At at h
  simp [World.cell?, h]
theorem At.free (h : At w b t cs) (i : Nat) : w.frozen? ⟨b, i, none⟩ = false := by
  unfold At at h
  simp [World.frozen?, h]
theorem At.new (w : World) (t : TypeId) (cs : Array Value) : At (w.alloc (.cells cs t)) w.heap.size t cs := by
  unfold At
  show (w.heap.push (.cells cs t))[w.heap.size]? = _
  simp
theorem At.drew (h : At w b t cs) : At w.drew b t cs := h
theorem At.drewN (h : At w b t cs) (n : Nat) : At (w.drewN n) b t cs := h
theorem At.alloc (h : At w b t cs) (o : Obj) : At (w.alloc o) b t cs := (Below.heap_alloc w o b h.lt).trans h
theorem At.set (h : At w b t cs) (i : Nat) (u : Value) : At (w.setCell ⟨b, i, none⟩ u) b t (cs.setIfInBounds i u) := by
  unfold At at h ⊢
  simp [World.setCell, Array.getElem?_modify, h]
theorem At.far (h : At w b t cs) {p : Addr} (hp : b ≠ p.block) (u : Value) : At (w.setCell p u) b t cs := (Below.heap_setCell w p u b hp).trans h
theorem At.below {B : Nat} (h : At w b t cs) (hb : Below B w w') (hB : b < B) : At w' b t cs := (hb.block b hB).trans h
theorem At.bytes (h : At w b t cs) (e : TypeId) (s : ByteArray) : At (Lib.bytesWorld w e s) b t cs := (Lib.bytesWorld_at_old w e s b h.lt).trans h
end

theorem below_bytes {B : Nat} {a w : World} (h : Below B a w) (hB : B ≤ w.heap.size) (e : TypeId) (s : ByteArray) : Below B a (Lib.bytesWorld w e s) :=
  ⟨h.os, h.tape, h.output, by rw [Lib.bytesWorld_size]; have := h.size; omega, fun k hk => (Lib.bytesWorld_at_old w e s k (Nat.lt_of_lt_of_le hk hB)).trans (h.block k hk)⟩

/-! A world that was written out gets a letter, and what is known of it. -/
theorem gen1 {w : World} {c1 : Array Value} {t1 : TypeId} {G : World → Prop}
    (h : ∀ W, Below w.heap.size w W → W.heap.size = w.heap.size + 1 → At W w.heap.size t1 c1 → G W) : G (w.alloc (.cells c1 t1)) :=
  h _ ((Below.refl _ _).alloc (Nat.le_refl _) _) (by simp) (At.new _ _ _)
theorem gen2 {w : World} {c1 c2 : Array Value} {t1 t2 : TypeId} {G : World → Prop}
    (h : ∀ W, Below w.heap.size w W → W.heap.size = w.heap.size + 1 + 1 → At W w.heap.size t1 c1 → At W (w.heap.size + 1) t2 c2 → G W) : G ((w.alloc (.cells c1 t1)).alloc (.cells c2 t2)) :=
  h _ (((Below.refl _ _).alloc (Nat.le_refl _) _).alloc (by simp) _) (by simp) ((At.new _ _ _).alloc _) (by have := At.new (w.alloc (.cells c1 t1)) t2 c2; simpa using this)
theorem gen3 {w : World} {c1 c2 c3 : Array Value} {t1 t2 t3 : TypeId} {G : World → Prop}
    (h : ∀ W, Below w.heap.size w W → W.heap.size = w.heap.size + 1 + 1 + 1 → At W w.heap.size t1 c1 → At W (w.heap.size + 1) t2 c2 → At W (w.heap.size + 1 + 1) t3 c3 → G W) :
    G (((w.alloc (.cells c1 t1)).alloc (.cells c2 t2)).alloc (.cells c3 t3)) :=
  gen2 (G := fun V => G (V.alloc (.cells c3 t3))) fun V hb hz h1 h2 => h _ (hb.alloc (by omega) _) (by simp [hz]) (h1.alloc _) (h2.alloc _) (by have := At.new V t3 c3; rw [hz] at this; exact this)
end Go.Proofs.YtbpediccbeoifaaDoor.W

/-! ## More words for memory: four and five blocks that were laid get letters; what a call left of a block. -/
namespace Go.Proofs.YtbpediccbeoifaaDoor.W
open Go.RowKit
set_option linter.unusedVariables false
set_option linter.unusedSimpArgs false

theorem gen4 {w : World} {c1 c2 c3 c4 : Array Value} {t1 t2 t3 t4 : TypeId} {G : World → Prop}
    (h : ∀ W, Below w.heap.size w W → W.heap.size = w.heap.size + 1 + 1 + 1 + 1 → At W w.heap.size t1 c1 → At W (w.heap.size + 1) t2 c2 → At W (w.heap.size + 1 + 1) t3 c3 → At W (w.heap.size + 1 + 1 + 1) t4 c4 → G W) :
    G ((((w.alloc (.cells c1 t1)).alloc (.cells c2 t2)).alloc (.cells c3 t3)).alloc (.cells c4 t4)) :=
  gen3 (G := fun V => G (V.alloc (.cells c4 t4))) fun V hb hz h1 h2 h3 => h _ (hb.alloc (by omega) _) (by simp [hz]) (h1.alloc _) (h2.alloc _) (h3.alloc _) (by have := At.new V t4 c4; rw [hz] at this; exact this)
theorem below_draws {B : Nat} {a w : World} (h : Below B a w) (n : Nat) : Below B a (w.drewN n) := ⟨h.os, h.tape, h.output, h.size, h.block⟩
theorem gen2d {w : World} {c1 c2 : Array Value} {t1 t2 : TypeId} {n : Nat} {G : World → Prop}
    (h : ∀ W, Below w.heap.size w W → W.heap.size = w.heap.size + 1 + 1 → At W w.heap.size t1 c1 → At W (w.heap.size + 1) t2 c2 → G W) : G (((w.alloc (.cells c1 t1)).drewN n).alloc (.cells c2 t2)) :=
  h _ ((below_draws ((Below.refl _ _).alloc (Nat.le_refl _) _) n).alloc (by show _ ≤ (w.alloc (.cells c1 t1)).heap.size; simp) _) (by show ((w.alloc (.cells c1 t1)).heap.push _).size = _; simp) (((At.new _ _ _).drewN n).alloc _)
    (by have := At.new ((w.alloc (.cells c1 t1)).drewN n) t2 c2; have e : ((w.alloc (.cells c1 t1)).drewN n).heap.size = w.heap.size + 1 := by show (w.alloc (.cells c1 t1)).heap.size = _; simp
        rw [e] at this; exact this)
theorem grown_below {w w' : World} (h : Below w.heap.size w w') (r : Option Nat) : w.grownBy w' r := ⟨h.os, h.tape, h.output, h.size, fun i hi _ => h.block i hi⟩
theorem At.kept {w w' : World} {b k : Nat} {t : TypeId} {cs : Array Value} (h : At w b t cs) (hg : w.grownBy w' (some k)) (hne : b ≠ k) : At w' b t cs :=
  (hg.block b h.lt (fun e => hne (by injection e))).trans h
theorem below_kept {B k : Nat} {a w w' : World} (h : Below B a w) (hg : w.grownBy w' (some k)) (hB : B ≤ w.heap.size) (hk : B ≤ k) : Below B a w' :=
  h.grown hg hB (fun j hj => by injection hj with hj; omega)
/-- Blocks of different element types are two. -/
theorem At.ne {w : World} {a b : Nat} {s t : TypeId} {cs ds : Array Value} (h : At w a s cs) (k : At w b t ds) (hne : s ≠ t) : a ≠ b := by
  rintro rfl
  unfold At at h k
  rw [h] at k
  injection k with k
  injection k with _ h5 _
  exact hne h5
theorem At.eq {w : World} {b : Nat} {ty : TypeId} {cs cs' : Array Value} (h : At w b ty cs) (e : cs = cs') : At w b ty cs' := e ▸ h
end Go.Proofs.YtbpediccbeoifaaDoor.W
