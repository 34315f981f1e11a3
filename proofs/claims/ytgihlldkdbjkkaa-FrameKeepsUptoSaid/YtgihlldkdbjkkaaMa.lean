/- Texts of this session in one: BW, BW2, BS, Kd, BE, BT, En -/
import Derived.Below
import Derived.OneCell
import Derived.WalkKit
import Derived.Lib.ConvBytes
import Derived.Deep.Draws
import Derived.Test.YtgihlldkdbjkkaaWWords
import Derived.Laws.MakeOwn
import Derived.OwnWalk
/-! ## Words of this session for memory: a block that is known whole; which blocks a step leaves alone; bits of bytes. They hold of every program. -/
namespace Go.Proofs.Ytgihlldkdbjkkaa.W
open Go.RowKit
set_option linter.unusedVariables false
set_option linter.unusedSimpArgs false

/-- Block b is just the cells cs, of element type t, none of them frozen. -/
def At (w : World) (b : Nat) (t : TypeId) (cs : Array Value) : Prop := w.heap[b]? = some (.cells cs t (0, 0))

section
variable {w w' : World} {b : Nat} {t : TypeId} {cs : Array Value}
theorem At.lt (h : At w b t cs) : b < w.heap.size := lt_of_block h
theorem At.cell (h : At w b t cs) (i : Nat) : w.cell? ⟨b, i, none⟩ = cs[i]? := by
  unfold At at h
  simp [World.cell?, h]
theorem At.free (h : At w b t cs) (i : Nat) : w.frozen? ⟨b, i, none⟩ = false := by
  unfold At at h
  simp [World.frozen?, h]
theorem At.new (w : World) (t : TypeId) (cs : Array Value) : At (w.alloc (.cells cs t)) w.heap.size t cs := by
  unfold At
  show (w.heap.push (.cells cs t))[w.heap.size]? = _
  simp
theorem At.drew (h : At w b t cs) : At w.drew b t cs := h
theorem At.drewN (h : At w b t cs) (n : Nat) : At (w.drewN n) b t cs := h
theorem At.alloc (h : At w b t cs) (o : Obj) : At (w.alloc o) b t cs := (Below.heap_alloc w o b h.lt).trans h
theorem At.set (h : At w b t cs) (i : Nat) (u : Value) : At (w.setCell ⟨b, i, none⟩ u) b t (cs.setIfInBounds i u) := by
  unfold At at h ⊢
  simp [World.setCell, Array.getElem?_modify, h]
theorem At.far (h : At w b t cs) {p : Addr} (hp : b ≠ p.block) (u : Value) : At (w.setCell p u) b t cs := (Below.heap_setCell w p u b hp).trans h
theorem At.below {B : Nat} (h : At w b t cs) (hb : Below B w w') (hB : b < B) : At w' b t cs := (hb.block b hB).trans h
theorem At.bytes (h : At w b t cs) (e : TypeId) (s : ByteArray) : At (Lib.bytesWorld w e s) b t cs := (Lib.bytesWorld_at_old w e s b h.lt).trans h
end

theorem below_bytes {B : Nat} {a w : World} (h : Below B a w) (hB : B ≤ w.heap.size) (e : TypeId) (s : ByteArray) : Below B a (Lib.bytesWorld w e s) :=
  ⟨h.os, h.tape, h.output, by rw [Lib.bytesWorld_size]; have := h.size; omega, fun k hk => (Lib.bytesWorld_at_old w e s k (Nat.lt_of_lt_of_le hk hB)).trans (h.block k hk)⟩

/-- The byte at place i of s; 0 beyond. -/
def byt (s : ByteArray) (i : Int) : Int := if h : i.toNat < s.size then ((s[i.toNat]'h).toNat : Int) else 0
theorem byt_range (s : ByteArray) (i : Int) : 0 ≤ byt s i ∧ byt s i < 256 := by
  unfold byt
  split
  · rename_i h
    have := (s[i.toNat]'h).toNat_lt
    omega
  · omega
theorem byt_at (s : ByteArray) (i : Int) (h : i.toNat < s.size) : ((s[i.toNat]'h).toNat : Int) = byt s i := by
  unfold byt; rw [dif_pos h]

theorem getD_byt (s : ByteArray) (j : Nat) : ((s.data.toList.getD j 0).toNat : Int) = byt s j := by
  unfold byt
  by_cases h : j < s.size
  · rw [dif_pos (by simpa using h), List.getD_eq_getElem?_getD, List.getElem?_eq_getElem (by simpa using h)]
    simp
    rfl
  · rw [dif_neg (by simpa using h), List.getD_eq_getElem?_getD, List.getElem?_eq_none (by simp; exact Nat.le_of_not_lt h)]
    rfl
theorem byt_extract (s : ByteArray) (a b j : Nat) (h : a + j < b) (hb : b ≤ s.size) : byt (s.extract a b) j = byt s ((a + j : Nat) : Int) := by
  rw [← getD_byt, ← getD_byt]
  have e : (s.extract a b).data = s.data.extract a b := by simp
  rw [e, List.getD_eq_getElem?_getD, List.getD_eq_getElem?_getD, Array.toList_extract]
  simp only [List.extract_eq_take_drop, List.getElem?_take, List.getElem?_drop]
  rw [if_pos (by omega)]

theorem and31_fin : ∀ c : Fin 256, bits .and .u8 (c.val : Int) 31 = (c.val : Int) % 32 := by decide +kernel
theorem and31 (c : Int) (h0 : 0 ≤ c) (h1 : c < 256) : bits .and .u8 c 31 = c % 32 := by
  have h := and31_fin ⟨c.toNat, by omega⟩
  have e : ((c.toNat : Nat) : Int) = c := by omega
  simp only [e] at h
  exact h
theorem and32_fin : ∀ c : Fin 256, (bits .and .u8 (c.val : Int) 32 != 0) = ((c.val : Int) / 32 % 2 == 1) := by decide +kernel
theorem and32 (c : Int) (h0 : 0 ≤ c) (h1 : c < 256) : (bits .and .u8 c 32 != 0) = (c / 32 % 2 == 1) := by
  have h := and32_fin ⟨c.toNat, by omega⟩
  have e : ((c.toNat : Nat) : Int) = c := by omega
  simp only [e] at h
  exact h

theorem or_low (a c : Nat) (hc : c < 256) : a * 256 ||| c = a * 256 + c := by
  have h := Nat.two_pow_add_eq_or_of_lt (i := 8) (b := c) (by omega) a
  rw [Nat.mul_comm a 256]
  exact h.symm
theorem ofInt_64 (a : Nat) (ha : a < 9223372036854775808) : (BitVec.ofInt 64 (a : Int)).toNat = a := by
  rw [BitVec.ofInt_natCast, BitVec.toNat_ofNat]
  exact Nat.mod_eq_of_lt (by omega)
/-- A number moved up by a byte, and a byte in the low end: it is their sum. -/
theorem or_byte (a c : Int) (ha : 0 ≤ a) (ha1 : a < 281474976710656) (hc : 0 ≤ c) (hc1 : c < 256) : bits .or .i64 (a * 256) c = a * 256 + c := by
  obtain ⟨x, rfl⟩ : ∃ x : Nat, a = x := ⟨a.toNat, by omega⟩
  obtain ⟨y, rfl⟩ : ∃ y : Nat, c = y := ⟨c.toNat, by omega⟩
  have hx : ((x : Int) * 256) = ((x * 256 : Nat) : Int) := by simp
  rw [hx]
  show IntKind.i64.wrap ((BitVec.ofInt 64 ((x * 256 : Nat) : Int) ||| BitVec.ofInt 64 (y : Int)).toNat : Int) = _
  rw [BitVec.toNat_or, ofInt_64 _ (by omega), ofInt_64 _ (by omega), or_low x y (by omega), IntKind.wrap_i64]
  omega

/-! A world that was written out gets a letter, and what is known of it. -/
theorem gen1 {w : World} {c1 : Array Value} {t1 : TypeId} {G : World → Prop}
    (h : ∀ W, Below w.heap.size w W → W.heap.size = w.heap.size + 1 → At W w.heap.size t1 c1 → G W) : G (w.alloc (.cells c1 t1)) :=
  h _ ((Below.refl _ _).alloc (Nat.le_refl _) _) (by simp) (At.new _ _ _)
theorem gen2 {w : World} {c1 c2 : Array Value} {t1 t2 : TypeId} {G : World → Prop}
    (h : ∀ W, Below w.heap.size w W → W.heap.size = w.heap.size + 1 + 1 → At W w.heap.size t1 c1 → At W (w.heap.size + 1) t2 c2 → G W) : G ((w.alloc (.cells c1 t1)).alloc (.cells c2 t2)) :=
  h _ (((Below.refl _ _).alloc (Nat.le_refl _) _).alloc (by simp) _) (by simp) ((At.new _ _ _).alloc _) (by have := At.new (w.alloc (.cells c1 t1)) t2 c2; simpa using this)
theorem gen3 {w : World} {c1 c2 c3 : Array Value} {t1 t2 t3 : TypeId} {G : World → Prop}
    (h : ∀ W, Below w.heap.size w W → W.heap.size = w.heap.size + 1 + 1 + 1 → At W w.heap.size t1 c1 → At W (w.heap.size + 1) t2 c2 → At W (w.heap.size + 1 + 1) t3 c3 → G W) :
    G (((w.alloc (.cells c1 t1)).alloc (.cells c2 t2)).alloc (.cells c3 t3)) :=
  gen2 (G := fun V => G (V.alloc (.cells c3 t3))) fun V hb hz h1 h2 => h _ (hb.alloc (by omega) _) (by simp [hz]) (h1.alloc _) (h2.alloc _) (by have := At.new V t3 c3; rw [hz] at this; exact this)
end Go.Proofs.Ytgihlldkdbjkkaa.W

/-! ## More words for memory: four and five blocks that were laid get letters; what a call left of a block. -/
namespace Go.Proofs.Ytgihlldkdbjkkaa.W
open Go.RowKit
set_option linter.unusedVariables false
set_option linter.unusedSimpArgs false

theorem gen4 {w : World} {c1 c2 c3 c4 : Array Value} {t1 t2 t3 t4 : TypeId} {G : World → Prop}
    (h : ∀ W, Below w.heap.size w W → W.heap.size = w.heap.size + 1 + 1 + 1 + 1 → At W w.heap.size t1 c1 → At W (w.heap.size + 1) t2 c2 → At W (w.heap.size + 1 + 1) t3 c3 → At W (w.heap.size + 1 + 1 + 1) t4 c4 → G W) :
    G ((((w.alloc (.cells c1 t1)).alloc (.cells c2 t2)).alloc (.cells c3 t3)).alloc (.cells c4 t4)) :=
  gen3 (G := fun V => G (V.alloc (.cells c4 t4))) fun V hb hz h1 h2 h3 => h _ (hb.alloc (by omega) _) (by simp [hz]) (h1.alloc _) (h2.alloc _) (h3.alloc _) (by have := At.new V t4 c4; rw [hz] at this; exact this)
theorem below_draws {B : Nat} {a w : World} (h : Below B a w) (n : Nat) : Below B a (w.drewN n) := ⟨h.os, h.tape, h.output, h.size, h.block⟩
theorem gen2d {w : World} {c1 c2 : Array Value} {t1 t2 : TypeId} {n : Nat} {G : World → Prop}
    (h : ∀ W, Below w.heap.size w W → W.heap.size = w.heap.size + 1 + 1 → At W w.heap.size t1 c1 → At W (w.heap.size + 1) t2 c2 → G W) : G (((w.alloc (.cells c1 t1)).drewN n).alloc (.cells c2 t2)) :=
  h _ ((below_draws ((Below.refl _ _).alloc (Nat.le_refl _) _) n).alloc (by show _ ≤ (w.alloc (.cells c1 t1)).heap.size; simp) _) (by show ((w.alloc (.cells c1 t1)).heap.push _).size = _; simp) (((At.new _ _ _).drewN n).alloc _)
    (by have := At.new ((w.alloc (.cells c1 t1)).drewN n) t2 c2; have e : ((w.alloc (.cells c1 t1)).drewN n).heap.size = w.heap.size + 1 := by show (w.alloc (.cells c1 t1)).heap.size = _; simp
        rw [e] at this; exact this)
theorem grown_below {w w' : World} (h : Below w.heap.size w w') (r : Option Nat) : w.grownBy w' r := ⟨h.os, h.tape, h.output, h.size, fun i hi _ => h.block i hi⟩
theorem At.kept {w w' : World} {b k : Nat} {t : TypeId} {cs : Array Value} (h : At w b t cs) (hg : w.grownBy w' (some k)) (hne : b ≠ k) : At w' b t cs :=
  (hg.block b h.lt (fun e => hne (by injection e))).trans h
theorem below_kept {B k : Nat} {a w w' : World} (h : Below B a w) (hg : w.grownBy w' (some k)) (hB : B ≤ w.heap.size) (hk : B ≤ k) : Below B a w' :=
  h.grown hg hB (fun j hj => by injection hj with hj; omega)
/-- Blocks of different element types are two. -/
theorem At.ne {w : World} {a b : Nat} {s t : TypeId} {cs ds : Array Value} (h : At w a s cs) (k : At w b t ds) (hne : s ≠ t) : a ≠ b := by
  rintro rfl
  unfold At at h k
  rw [h] at k
  injection k with k
  injection k with _ h5 _
  exact hne h5
end Go.Proofs.Ytgihlldkdbjkkaa.W

/-! ## Plain law of the elements' headers (no program in sight): what the reader of a header answers, as a function of the bytes. -/
namespace Go.Proofs.Ytgihlldkdbjkkaa.W

/-- Bytes that are not there: of the outermost element 20, of another 26. -/
def miss (d : Int) : Int := if d = 1 then 20 else 26
/-- The number that n bytes from place i on say, the first the highest; v: what stood ahead. -/
def numAt (s : ByteArray) (i : Int) : Nat → Int → Int
  | 0, v => v
  | n + 1, v => numAt s (i + 1) n (v * 256 + byt s i)
structure Hd where
  cls : Int
  made : Bool
  tag : Int
  len : Int
  size : Int
/-- The header at p of a stretch that ends at e, at depth d; or the error and its place. -/
def hdr (s : ByteArray) (p e d : Int) : Except (Int × Int) Hd :=
  if 64 < d then .error (25, p)
  else if e ≤ p then .error (miss d, e)
  else if byt s p % 32 = 31 then .error (21, p)
  else if e ≤ p + 1 then .error (miss d, e)
  else if byt s (p + 1) < 128 then .ok ⟨byt s p / 64, byt s p / 32 % 2 == 1, byt s p % 32, byt s (p + 1), 2⟩
  else if byt s (p + 1) = 128 then .error (22, p + 1)
  else if 132 < byt s (p + 1) then .error (23, p + 1)
  else if e < p + (byt s (p + 1) - 126) then .error (miss d, e)
  else .ok ⟨byt s p / 64, byt s p / 32 % 2 == 1, byt s p % 32, numAt s (p + 2) (byt s (p + 1) - 128).toNat 0, byt s (p + 1) - 126⟩

theorem numAt_snoc (s : ByteArray) (n : Nat) : ∀ (i v : Int), numAt s i (n + 1) v = numAt s i n v * 256 + byt s (i + n) := by
  induction n with
  | zero => intro i v; simp [numAt]
  | succ n ih =>
    intro i v
    have h := ih (i + 1) (v * 256 + byt s i)
    have e : i + 1 + (n : Int) = i + ((n + 1 : Nat) : Int) := by omega
    rw [e] at h
    exact h
theorem numAt_range (s : ByteArray) (i : Int) (n : Nat) : 0 ≤ numAt s i n 0 ∧ numAt s i n 0 < 256 ^ n := by
  induction n with
  | zero => simp [numAt]
  | succ n ih =>
    rw [numAt_snoc]
    have hb := byt_range s (i + n)
    have e : (256 : Int) ^ (n + 1) = 256 ^ n * 256 := by rw [Int.pow_succ]
    rw [e]
    omega
theorem numAt_lt (s : ByteArray) (i : Int) (n : Nat) (hn : n ≤ 4) : 0 ≤ numAt s i n 0 ∧ numAt s i n 0 < 4294967296 := by
  have h := numAt_range s i n
  refine ⟨h.1, ?_⟩
  have : n = 0 ∨ n = 1 ∨ n = 2 ∨ n = 3 ∨ n = 4 := by omega
  rcases this with rfl | rfl | rfl | rfl | rfl <;> (have := h.2; simp at this; omega)

/-- The header at p, its content within the stretch. -/
def bnd (s : ByteArray) (p e d : Int) : Except (Int × Int) Hd :=
  match hdr s p e d with
  | .error x => .error x
  | .ok h => if e - p - h.size < h.len then .error (miss d, e) else .ok h
theorem hdr_ok {s : ByteArray} {p e d : Int} {h : Hd} (he : hdr s p e d = .ok h) :
    d ≤ 64 ∧ p + h.size ≤ e ∧ 2 ≤ h.size ∧ h.size ≤ 6 ∧ 0 ≤ h.len ∧ h.len < 4294967296 ∧ h.cls = byt s p / 64 ∧ h.made = (byt s p / 32 % 2 == 1) ∧ h.tag = byt s p % 32 ∧ byt s p % 32 ≠ 31 := by
  unfold hdr at he
  have hb := byt_range s (p + 1)
  by_cases c1 : 64 < d
  · rw [if_pos c1] at he; cases he
  rw [if_neg c1] at he
  by_cases c2 : e ≤ p
  · rw [if_pos c2] at he; cases he
  rw [if_neg c2] at he
  by_cases c3 : byt s p % 32 = 31
  · rw [if_pos c3] at he; cases he
  rw [if_neg c3] at he
  by_cases c4 : e ≤ p + 1
  · rw [if_pos c4] at he; cases he
  rw [if_neg c4] at he
  by_cases c5 : byt s (p + 1) < 128
  · rw [if_pos c5] at he
    injection he with he
    subst he
    exact ⟨by omega, by show p + 2 ≤ e; omega, by show (2 : Int) ≤ 2; omega, by show (2 : Int) ≤ 6; omega, hb.1, by show byt s (p + 1) < 4294967296; omega, rfl, rfl, rfl, c3⟩
  rw [if_neg c5] at he
  by_cases c6 : byt s (p + 1) = 128
  · rw [if_pos c6] at he; cases he
  rw [if_neg c6] at he
  by_cases c7 : 132 < byt s (p + 1)
  · rw [if_pos c7] at he; cases he
  rw [if_neg c7] at he
  by_cases c8 : e < p + (byt s (p + 1) - 126)
  · rw [if_pos c8] at he; cases he
  rw [if_neg c8] at he
  injection he with he
  subst he
  have hn := numAt_lt s (p + 2) (byt s (p + 1) - 128).toNat (by omega)
  exact ⟨by omega, by show p + (byt s (p + 1) - 126) ≤ e; omega, by show 2 ≤ byt s (p + 1) - 126; omega, by show byt s (p + 1) - 126 ≤ 6; omega, hn.1, hn.2, rfl, rfl, rfl, c3⟩
theorem bnd_ok {s : ByteArray} {p e d : Int} {h : Hd} (he : bnd s p e d = .ok h) : hdr s p e d = .ok h ∧ p + h.size + h.len ≤ e := by
  unfold bnd at he
  cases hh : hdr s p e d with
  | error x => rw [hh] at he; cases he
  | ok k =>
    rw [hh] at he
    simp only at he
    by_cases c : e - p - k.size < k.len
    · rw [if_pos c] at he; cases he
    · rw [if_neg c] at he
      injection he with he
      subst he
      exact ⟨rfl, by omega⟩
end Go.Proofs.Ytgihlldkdbjkkaa.W

/-! ## Words for rows of structs: a row's kind seen through a map; the kinds of ber's own structs as tuples. -/
namespace Go.Proofs.Ytgihlldkdbjkkaa.W
open Go.RowKit Go.Proofs.YtgihlldkdbjkkaaW.PrintWords
set_option linter.unusedVariables false
set_option linter.unusedSimpArgs false

theorem reps_map {α β : Type} {R : α → List Value → Prop} {f : β → α} {size : Nat} {xs : List β} {cs : List Value} : Reps (fun x => R (f x)) size xs cs ↔ Reps R size (xs.map f) cs := by
  unfold Reps
  rw [List.length_map]
  refine and_congr Iff.rfl ⟨fun h j p hp => ?_, fun h j p hp => ?_⟩
  · rw [List.getElem?_map] at hp
    obtain ⟨q, hq, rfl⟩ := Option.map_eq_some_iff.1 hp
    exact h j q hq
  · exact h j (f p) (by rw [List.getElem?_map, hp]; rfl)
/-- A row of the call's own, its elements seen through f. -/
theorem R_iso {α β : Type} {d : Kd α} {f : β → α} {e : Nat} {w : World} {base : Nat} {ok : Nat → Prop} {v : Value} {xs : List β} :
    Kd.R (Kd.iso d f) e w base ok v xs ↔ Kd.R d e w base ok v (xs.map f) := by
  unfold Kd.R OwnRow
  refine and_congr Iff.rfl (exists_congr fun inner => ?_)
  rw [List.length_map]
  exact and_congr Iff.rfl (reps_map (R := d.M w base (fun k => ok k ∧ some k ≠ v.ownBlock)) (f := f) (size := d.sz) (xs := xs) (cs := inner))
theorem R_of_map {α β : Type} {d : Kd α} {f : β → α} (g : α → β) (hfg : ∀ x, f (g x) = x) {e : Nat} {w : World} {base : Nat} {ok : Nat → Prop} {v : Value} {xs : List α} (h : Kd.R d e w base ok v xs) :
    Kd.R (Kd.iso d f) e w base ok v (xs.map g) := by
  rw [R_iso, List.map_map]
  have : (f ∘ g) = id := funext hfg
  rw [this, List.map_id]
  exact h
/-- An element: class, made, tag, body. -/
abbrev ElemT := Int × Bool × Int × ByteArray
def kElem : Kd ElemT := Kd.pair (Kd.int .i64) (Kd.pair Kd.bool (Kd.pair (Kd.int .i64) Kd.string))
theorem kElem_mkM (w : World) (base : Nat) (ok : Nat → Prop) (x : ElemT) : kElem.M w base ok x [.int .i64 x.1, .bool x.2.1, .int .i64 x.2.2.1, .string x.2.2.2] :=
  ⟨[.int .i64 x.1], [.bool x.2.1, .int .i64 x.2.2.1, .string x.2.2.2], rfl, rfl, ⟨[.bool x.2.1], [.int .i64 x.2.2.1, .string x.2.2.2], rfl, rfl, ⟨[.int .i64 x.2.2.1], [.string x.2.2.2], rfl, rfl, rfl⟩⟩⟩
/-- A node: depth, class, made, tag, body. -/
abbrev NodeT := Int × Int × Bool × Int × ByteArray
def kNode : Kd NodeT := Kd.pair (Kd.int .i64) (Kd.pair (Kd.int .i64) (Kd.pair Kd.bool (Kd.pair (Kd.int .i64) Kd.string)))
theorem kNode_mkM (w : World) (base : Nat) (ok : Nat → Prop) (x : NodeT) : kNode.M w base ok x [.int .i64 x.1, .int .i64 x.2.1, .bool x.2.2.1, .int .i64 x.2.2.2.1, .string x.2.2.2.2] :=
  ⟨[.int .i64 x.1], [.int .i64 x.2.1, .bool x.2.2.1, .int .i64 x.2.2.2.1, .string x.2.2.2.2], rfl, rfl, ⟨[.int .i64 x.2.1], [.bool x.2.2.1, .int .i64 x.2.2.2.1, .string x.2.2.2.2], rfl, rfl, ⟨[.bool x.2.2.1], [.int .i64 x.2.2.2.1, .string x.2.2.2.2], rfl, rfl, ⟨[.int .i64 x.2.2.2.1], [.string x.2.2.2.2], rfl, rfl, rfl⟩⟩⟩⟩
/-- 'make([]T, 0, c)': an empty row with room. -/
theorem R_made0 {α : Type} (d : Kd α) (W : World) (base : Nat) (e : TypeId) (c : Nat) (z : Array Value) {ok : Nat → Prop} (hbase : base ≤ W.heap.size) (h63 : c ≤ 9223372036854775807) (hok : ok W.heap.size) :
    Kd.R d e (W.alloc (.cells (madeCells z (c * d.sz)) e)) base ok (.slice (some ⟨W.heap.size, 0, none⟩) 0 c) ([] : List α) := by
  refine ⟨fun k hk => ?_, [], World.ownsRow_made W _ c hbase h63 (size_madeCells _ _), by simp, fun j p h => by simp at h⟩
  simp only [Value.ownBlock] at hk
  injection hk with hk
  exact hk ▸ hok
end Go.Proofs.Ytgihlldkdbjkkaa.W

/-! ## Plain law of the reader of an element with all that stands in it (no program in sight), and the word for the scanner's memory. -/
namespace Go.Proofs.Ytgihlldkdbjkkaa.W
open Go.RowKit
set_option linter.unusedVariables false
set_option linter.unusedSimpArgs false

/-- An element that the scanner has come by: its place, its depth, its header. -/
structure Fnd where
  at_ : Int
  depth : Int
  head : Hd
def fndCells (x : Fnd) : List Value := [.int .i64 x.at_, .int .i64 x.depth, .int .i64 x.head.cls, .bool x.head.made, .int .i64 x.head.tag, .int .i64 x.head.len, .int .i64 x.head.size]
def fndRow (l : List Fnd) : List Value := l.flatMap fndCells
theorem fndRow_len (l : List Fnd) : (fndRow l).length = l.length * 7 := by
  induction l with
  | nil => rfl
  | cons x l ih => simp only [fndRow, List.flatMap_cons, List.length_append, List.length_cons] at *; rw [ih]; simp [fndCells]; omega
theorem fndRow_snoc (l : List Fnd) (x : Fnd) : fndRow (l ++ [x]) = fndRow l ++ fndCells x := by simp [fndRow]

mutual
/-- What the reader of the element at p comes by, in its order, and where the element ends, or the fault. n: rounds. -/
def elemF (s : ByteArray) : Nat → Int → Int → Int → List Fnd × Except (Int × Int) Int
  | 0, _, _, _ => ([], .error (0, 0))
  | n + 1, p, e, d =>
    match bnd s p e d with
    | .error x => ([], .error x)
    | .ok h =>
      if h.made then (⟨p, d, h⟩ :: (elemsF s n (p + h.size) (p + h.size + h.len) (d + 1)).1, (elemsF s n (p + h.size) (p + h.size + h.len) (d + 1)).2)
      else ([⟨p, d, h⟩], .ok (p + h.size + h.len))
/-- The elements from p up to stop. -/
def elemsF (s : ByteArray) : Nat → Int → Int → Int → List Fnd × Except (Int × Int) Int
  | 0, _, _, _ => ([], .error (0, 0))
  | n + 1, p, e, d =>
    if p < e then
      match (elemF s n p e d).2 with
      | .error x => ((elemF s n p e d).1, .error x)
      | .ok q => ((elemF s n p e d).1 ++ (elemsF s n q e d).1, (elemsF s n q e d).2)
    else ([], .ok e)
end

theorem At.grown {w w' : World} {b : Nat} {t e : TypeId} {cs : Array Value} {base size n : Nat} {v : Value} {xs : List Value} (h : At w b t cs) (ho : w.ownsRow base e size v n xs) (hg : w.grownBy w' v.ownBlock) (hne : t ≠ e) : At w' b t cs := by
  refine (hg.block b h.lt ?_).trans h
  rcases ho.2 with ⟨rfl, _⟩ | ⟨g', cap, cur, rfl, _, hh, _⟩
  · simp [Value.ownBlock]
  · simp only [Value.ownBlock]
    intro he
    injection he with he
    subst he
    unfold At at h
    rw [hh] at h
    injection h with h
    injection h with _ h5 _
    exact hne h5.symm
/-- Behind 'append(l, E{..})' in a region that draws: what is known of a block of another type. -/
theorem At.lit {W w' : World} {o : Obj} {b : Nat} {t e : TypeId} {cs : Array Value} {base size n : Nat} {v : Value} {xs : List Value} (h : At W b t cs) (ho : W.ownsRow base e size v n xs) (hg : ((W.alloc o).drew).grownBy w' v.ownBlock) (hne : t ≠ e) : At w' b t cs :=
  (h.alloc o).drew.grown (ho.alloc o).drew hg hne
theorem own_below {B : Nat} {w w' : World} {base size n : Nat} {e : TypeId} {v : Value} {xs : List Value} (h : w.ownsRow base e size v n xs) (hb : Below B w w') (hB : w.heap.size ≤ B) : w'.ownsRow base e size v n xs := by
  rcases h.2 with ⟨rfl, h1⟩ | ⟨g', cap, cur, h1, h2, h3, h4⟩
  · exact ⟨h.1, .inl ⟨rfl, h1⟩⟩
  · exact ⟨h.1, .inr ⟨g', cap, cur, h1, h2, (hb.block g' (Nat.lt_of_lt_of_le (lt_of_block h3) hB)).trans h3, h4⟩⟩
theorem own_set {w : World} {base size n : Nat} {e t : TypeId} {cs : Array Value} {v : Value} {xs : List Value} (h : w.ownsRow base e size v n xs) {p : Addr} (hp : At w p.block t cs) (hne : t ≠ e) (u : Value) : (w.setCell p u).ownsRow base e size v n xs := by
  rcases h.2 with ⟨rfl, h1⟩ | ⟨g', cap, cur, h1, h2, h3, h4⟩
  · exact ⟨h.1, .inl ⟨rfl, h1⟩⟩
  · refine ⟨h.1, .inr ⟨g', cap, cur, h1, h2, (Below.heap_setCell w p u g' ?_).trans h3, h4⟩⟩
    intro he
    subst he
    unfold At at hp
    rw [h3] at hp
    injection hp with hp
    injection hp with _ h5 _
    exact hne h5.symm
theorem own_base {w : World} {base size n : Nat} {e : TypeId} {v : Value} {xs : List Value} (h : w.ownsRow base e size v n xs) : ∀ k, v.ownBlock = some k → base ≤ k := by
  rcases h.2 with ⟨rfl, _⟩ | ⟨g', cap, cur, rfl, h2, _⟩
  · intro k hk; simp [Value.ownBlock] at hk
  · intro k hk
    simp only [Value.ownBlock] at hk
    injection hk with hk
    exact hk ▸ h2

/-- What is read lies between its begin and its end, and is no longer than that. -/
theorem elem_ok (s : ByteArray) : ∀ n, (∀ p e d q, (elemF s n p e d).2 = .ok q → ((elemF s n p e d).1.length : Int) ≤ q - p ∧ p + 2 ≤ q ∧ q ≤ e) ∧
    (∀ p e d q, p ≤ e → (elemsF s n p e d).2 = .ok q → ((elemsF s n p e d).1.length : Int) ≤ q - p ∧ q = e)
  | 0 => by
    refine ⟨fun p e d q h => ?_, fun p e d q _ h => ?_⟩
    · simp [elemF] at h
    · simp [elemsF] at h
  | n + 1 => by
    obtain ⟨ih1, ih2⟩ := elem_ok s n
    refine ⟨fun p e d q h => ?_, fun p e d q hp h => ?_⟩
    · rw [elemF] at h ⊢
      cases hb : bnd s p e d with
      | error x => rw [hb] at h; cases h
      | ok k =>
        rw [hb] at h
        simp only at h ⊢
        obtain ⟨h1, h2⟩ := bnd_ok hb
        obtain ⟨_, _, h3, _, h5, _⟩ := hdr_ok h1
        cases hm : k.made with
        | true =>
          rw [hm] at h
          simp only [if_true] at h ⊢
          have := ih2 _ _ _ q (by omega) h
          simp only [List.length_cons]
          omega
        | false =>
          rw [hm] at h
          simp only [Bool.false_eq_true, if_false] at h ⊢
          injection h with h
          simp only [List.length_cons, List.length_nil]
          omega
    · rw [elemsF] at h ⊢
      by_cases c : p < e
      · rw [if_pos c] at h ⊢
        cases hr : (elemF s n p e d).2 with
        | error x => rw [hr] at h; cases h
        | ok r =>
          rw [hr] at h
          simp only at h ⊢
          have a1 := ih1 p e d r hr
          have a2 := ih2 r e d q a1.2.2 h
          rw [List.length_append]
          omega
      · rw [if_neg c] at h ⊢
        injection h with h
        simp only [List.length_nil]
        omega

/-- One round over the elements of a content. -/
theorem elemsF_step {s : ByteArray} {k : Nat} {x e d : Int} (h : x < e) : elemsF s (k + 1) x e d =
    match (elemF s k x e d).2 with
    | .error y => ((elemF s k x e d).1, .error y)
    | .ok q => ((elemF s k x e d).1 ++ (elemsF s k q e d).1, (elemsF s k q e d).2) := by
  rw [elemsF, if_pos h]
theorem elemsF_stop {s : ByteArray} {k : Nat} {x e d : Int} (h : ¬ x < e) : elemsF s (k + 1) x e d = ([], .ok e) := by
  rw [elemsF, if_neg h]

end Go.Proofs.Ytgihlldkdbjkkaa.W
