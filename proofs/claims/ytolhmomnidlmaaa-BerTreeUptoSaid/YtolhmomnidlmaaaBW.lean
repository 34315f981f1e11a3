/- Words of this session for memory: a block that is known whole; which blocks a step leaves alone; bits of bytes. They hold of every program. -/
import Derived.Below
import Derived.OneCell
import Derived.WalkKit
import Derived.Lib.ConvBytes
import Derived.Deep.Draws
namespace Go.Proofs.Ytolhmomnidlmaaa.W
open Go.RowKit
set_option linter.unusedVariables false
set_option linter.unusedSimpArgs false

/-- Block b is just the cells cs, of element type t, none of them frozen. -/
def At (w : World) (b : Nat) (t : TypeId) (cs : Array Value) : Prop := w.heap[b]? = some (.cells cs t (0, 0))

section
variable {w w' : World} {b : Nat} {t : TypeId} {cs : Array Value}
theorem At.lt (h : At w b t cs) : b < w.heap.size := lt_of_block h
theorem At.cell (h : At w b t cs) (i : Nat) : w.cell? ⟨b, i, none⟩ = cs[i]? := by
  unfold At at h
  simp [World.cell?, h]
theorem At.free (h : At w b t cs) (i : Nat) : w.frozen? ⟨b, i, none⟩ = false := by
  unfold At at h
  simp [World.frozen?, h]
theorem At.new (w : World) (t : TypeId) (cs : Array Value) : At (w.alloc (.cells cs t)) w.heap.size t cs := by
  unfold At
  show (w.heap.push (.cells cs t))[w.heap.size]? = _
  simp
theorem At.drew (h : At w b t cs) : At w.drew b t cs := h
theorem At.drewN (h : At w b t cs) (n : Nat) : At (w.drewN n) b t cs := h
theorem At.alloc (h : At w b t cs) (o : Obj) : At (w.alloc o) b t cs := (Below.heap_alloc w o b h.lt).trans h
theorem At.set (h : At w b t cs) (i : Nat) (u : Value) : At (w.setCell ⟨b, i, none⟩ u) b t (cs.setIfInBounds i u) := by
  unfold At at h ⊢
  simp [World.setCell, Array.getElem?_modify, h]
theorem At.far (h : At w b t cs) {p : Addr} (hp : b ≠ p.block) (u : Value) : At (w.setCell p u) b t cs := (Below.heap_setCell w p u b hp).trans h
theorem At.below {B : Nat} (h : At w b t cs) (hb : Below B w w') (hB : b < B) : At w' b t cs := (hb.block b hB).trans h
theorem At.bytes (h : At w b t cs) (e : TypeId) (s : ByteArray) : At (Lib.bytesWorld w e s) b t cs := (Lib.bytesWorld_at_old w e s b h.lt).trans h
end

theorem below_bytes {B : Nat} {a w : World} (h : Below B a w) (hB : B ≤ w.heap.size) (e : TypeId) (s : ByteArray) : Below B a (Lib.bytesWorld w e s) :=
  ⟨h.os, h.tape, h.output, by rw [Lib.bytesWorld_size]; have := h.size; omega, fun k hk => (Lib.bytesWorld_at_old w e s k (Nat.lt_of_lt_of_le hk hB)).trans (h.block k hk)⟩

/-- The byte at place i of s; 0 beyond. -/
def byt (s : ByteArray) (i : Int) : Int := if h : i.toNat < s.size then ((s[i.toNat]'h).toNat : Int) else 0
theorem byt_range (s : ByteArray) (i : Int) : 0 ≤ byt s i ∧ byt s i < 256 := by
  unfold byt
  split
  · rename_i h
    have := (s[i.toNat]'h).toNat_lt
    omega
  · omega
theorem byt_at (s : ByteArray) (i : Int) (h : i.toNat < s.size) : ((s[i.toNat]'h).toNat : Int) = byt s i := by
  unfold byt; rw [dif_pos h]

theorem getD_byt (s : ByteArray) (j : Nat) : ((s.data.toList.getD j 0).toNat : Int) = byt s j := by
  unfold byt
  by_cases h : j < s.size
  · rw [dif_pos (by simpa using h), List.getD_eq_getElem?_getD, List.getElem?_eq_getElem (by simpa using h)]
    simp
    rfl
  · rw [dif_neg (by simpa using h), List.getD_eq_getElem?_getD, List.getElem?_eq_none (by simp; exact Nat.le_of_not_lt h)]
    rfl
theorem byt_extract (s : ByteArray) (a b j : Nat) (h : a + j < b) (hb : b ≤ s.size) : byt (s.extract a b) j = byt s ((a + j : Nat) : Int) := by
  rw [← getD_byt, ← getD_byt]
  have e : (s.extract a b).data = s.data.extract a b := by simp
  rw [e, List.getD_eq_getElem?_getD, List.getD_eq_getElem?_getD, Array.toList_extract]
  simp only [List.extract_eq_take_drop, List.getElem?_take, List.getElem?_drop]
  rw [if_pos (by omega)]

theorem and31_fin : ∀ c : Fin 256, bits .and .u8 (c.val : Int) 31 = (c.val : Int) % 32 := by decide +kernel
theorem and31 (c : Int) (h0 : 0 ≤ c) (h1 : c < 256) : bits .and .u8 c 31 = c % 32 := by
  have h := and31_fin ⟨c.toNat, by omega⟩
  have e : ((c.toNat : Nat) : Int) = c := by omega
  simp only [e] at h
  exact h
theorem and32_fin : ∀ c : Fin 256, (bits .and .u8 (c.val : Int) 32 != 0) = ((c.val : Int) / 32 % 2 == 1) := by decide +kernel
theorem and32 (c : Int) (h0 : 0 ≤ c) (h1 : c < 256) : (bits .and .u8 c 32 != 0) = (c / 32 % 2 == 1) := by
  have h := and32_fin ⟨c.toNat, by omega⟩
  have e : ((c.toNat : Nat) : Int) = c := by omega
  simp only [e] at h
  exact h

theorem or_low (a c : Nat) (hc : c < 256) : a * 256 ||| c = a * 256 + c := by
  have h := Nat.two_pow_add_eq_or_of_lt (i := 8) (b := c) (by omega) a
  rw [Nat.mul_comm a 256]
  exact h.symm
theorem ofInt_64 (a : Nat) (ha : a < 9223372036854775808) : (BitVec.ofInt 64 (a : Int)).toNat = a := by
  rw [BitVec.ofInt_natCast, BitVec.toNat_ofNat]
  exact Nat.mod_eq_of_lt (by omega)
/-- A number moved up by a byte, and a byte in the low end: it is their sum. -/
theorem or_byte (a c : Int) (ha : 0 ≤ a) (ha1 : a < 281474976710656) (hc : 0 ≤ c) (hc1 : c < 256) : bits .or .i64 (a * 256) c = a * 256 + c := by
  obtain ⟨x, rfl⟩ : ∃ x : Nat, a = x := ⟨a.toNat, by omega⟩
  obtain ⟨y, rfl⟩ : ∃ y : Nat, c = y := ⟨c.toNat, by omega⟩
  have hx : ((x : Int) * 256) = ((x * 256 : Nat) : Int) := by simp
  rw [hx]
  show IntKind.i64.wrap ((BitVec.ofInt 64 ((x * 256 : Nat) : Int) ||| BitVec.ofInt 64 (y : Int)).toNat : Int) = _
  rw [BitVec.toNat_or, ofInt_64 _ (by omega), ofInt_64 _ (by omega), or_low x y (by omega), IntKind.wrap_i64]
  omega

/-! A world that was written out gets a letter, and what is known of it. -/
theorem gen1 {w : World} {c1 : Array Value} {t1 : TypeId} {G : World → Prop}
    (h : ∀ W, Below w.heap.size w W → W.heap.size = w.heap.size + 1 → At W w.heap.size t1 c1 → G W) : G (w.alloc (.cells c1 t1)) :=
  h _ ((Below.refl _ _).alloc (Nat.le_refl _) _) (by simp) (At.new _ _ _)
theorem gen2 {w : World} {c1 c2 : Array Value} {t1 t2 : TypeId} {G : World → Prop}
    (h : ∀ W, Below w.heap.size w W → W.heap.size = w.heap.size + 1 + 1 → At W w.heap.size t1 c1 → At W (w.heap.size + 1) t2 c2 → G W) : G ((w.alloc (.cells c1 t1)).alloc (.cells c2 t2)) :=
  h _ (((Below.refl _ _).alloc (Nat.le_refl _) _).alloc (by simp) _) (by simp) ((At.new _ _ _).alloc _) (by have := At.new (w.alloc (.cells c1 t1)) t2 c2; simpa using this)
theorem gen3 {w : World} {c1 c2 c3 : Array Value} {t1 t2 t3 : TypeId} {G : World → Prop}
    (h : ∀ W, Below w.heap.size w W → W.heap.size = w.heap.size + 1 + 1 + 1 → At W w.heap.size t1 c1 → At W (w.heap.size + 1) t2 c2 → At W (w.heap.size + 1 + 1) t3 c3 → G W) :
    G (((w.alloc (.cells c1 t1)).alloc (.cells c2 t2)).alloc (.cells c3 t3)) :=
  gen2 (G := fun V => G (V.alloc (.cells c3 t3))) fun V hb hz h1 h2 => h _ (hb.alloc (by omega) _) (by simp [hz]) (h1.alloc _) (h2.alloc _) (by have := At.new V t3 c3; rw [hz] at this; exact this)
end Go.Proofs.Ytolhmomnidlmaaa.W
