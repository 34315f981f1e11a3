/- Texts of this claim in one: Ma, GAx0 -/
import Derived.Below
import Derived.OneCell
import Derived.WalkKit
import Derived.Lib.ConvBytes
import Derived.Deep.Draws
import Derived.Test.YtogjljpncdmlkaaDoorB3
import Derived.Test.YtogjljpncdmlkaaDoorB0
import Derived.Laws.MakeOwn
import Derived.OwnWalk
import Derived.Test.YtogjljpncdmlkaaDoorProg
import Derived.Deep.AppendLies
import Derived.Maps.AppendAt
import Derived.Laws.BytesArg
import Derived.Laws.OwnMore
import Derived.Deep.OwnRows
import Derived.Tactics
import Derived.Laws.Slices
import Derived.KernelRfl
import Derived.RowKit3
import Derived.Deep.LoopGhost
import Derived.Deep.QuietTactic
import Derived.BigQuiet
import Derived.WideLaws
import Derived.Deep.DeepCutAuto
import Derived.Deep.CutBlock
import Derived.Deep.RegionHeld3
import Derived.Laws.Rows
import Derived.Lib.AppendStr
import Derived.ArgAppend
import Derived.Laws.IdiomCopy
import Derived.OrdersHeld
import Derived.Laws.BitsLemmas
import Derived.RowKit
import Derived.Test.YtogjljpncdmlkaaDoorB1
import Derived.Test.YtogjljpncdmlkaaDoorB2
section
namespace Go.Proofs.YtogjljpncdmlkaaDoor.W
open Go.RowKit
set_option linter.unusedVariables false
set_option linter.unusedSimpArgs false
def At (w : World) (b : Nat) (t : TypeId) (cs : Array Value) : Prop := w.heap[b]? = some (.cells cs t (0, 0))
section
variable {w w' : World} {b : Nat} {t : TypeId} {cs : Array Value}
theorem At.lt (h : At w b t cs) : b < w.heap.size := lt_of_block h
theorem At.cell (h : At w b t cs) (i : Nat) : w.cell? ⟨b, i, none⟩ = cs[i]? := by
  unfold At at h
  simp [World.cell?, h]
theorem At.free (h : At w b t cs) (i : Nat) : w.frozen? ⟨b, i, none⟩ = false := by
  unfold At at h
  simp [World.frozen?, h]
theorem At.new (w : World) (t : TypeId) (cs : Array Value) : At (w.alloc (.cells cs t)) w.heap.size t cs := by
  unfold At
  show (w.heap.push (.cells cs t))[w.heap.size]? = _
  simp
theorem At.drew (h : At w b t cs) : At w.drew b t cs := h
theorem At.drewN (h : At w b t cs) (n : Nat) : At (w.drewN n) b t cs := h
theorem At.alloc (h : At w b t cs) (o : Obj) : At (w.alloc o) b t cs := (Below.heap_alloc w o b h.lt).trans h
theorem At.set (h : At w b t cs) (i : Nat) (u : Value) : At (w.setCell ⟨b, i, none⟩ u) b t (cs.setIfInBounds i u) := by
  unfold At at h ⊢
  simp [World.setCell, Array.getElem?_modify, h]
theorem At.far (h : At w b t cs) {p : Addr} (hp : b ≠ p.block) (u : Value) : At (w.setCell p u) b t cs := (Below.heap_setCell w p u b hp).trans h
theorem At.below {B : Nat} (h : At w b t cs) (hb : Below B w w') (hB : b < B) : At w' b t cs := (hb.block b hB).trans h
theorem At.bytes (h : At w b t cs) (e : TypeId) (s : ByteArray) : At (Lib.bytesWorld w e s) b t cs := (Lib.bytesWorld_at_old w e s b h.lt).trans h
end
theorem below_bytes {B : Nat} {a w : World} (h : Below B a w) (hB : B ≤ w.heap.size) (e : TypeId) (s : ByteArray) : Below B a (Lib.bytesWorld w e s) :=
  ⟨h.os, h.tape, h.output, by rw [Lib.bytesWorld_size]; have := h.size; omega, fun k hk => (Lib.bytesWorld_at_old w e s k (Nat.lt_of_lt_of_le hk hB)).trans (h.block k hk)⟩
def byt (s : ByteArray) (i : Int) : Int := if h : i.toNat < s.size then ((s[i.toNat]'h).toNat : Int) else 0
theorem byt_range (s : ByteArray) (i : Int) : 0 ≤ byt s i ∧ byt s i < 256 := by
  unfold byt
  split
  · rename_i h
    have := (s[i.toNat]'h).toNat_lt
    omega
  · omega
theorem byt_at (s : ByteArray) (i : Int) (h : i.toNat < s.size) : ((s[i.toNat]'h).toNat : Int) = byt s i := by
  unfold byt; rw [dif_pos h]
theorem getD_byt (s : ByteArray) (j : Nat) : ((s.data.toList.getD j 0).toNat : Int) = byt s j := by
  unfold byt
  by_cases h : j < s.size
  · rw [dif_pos (by simpa using h), List.getD_eq_getElem?_getD, List.getElem?_eq_getElem (by simpa using h)]
    simp
    rfl
  · rw [dif_neg (by simpa using h), List.getD_eq_getElem?_getD, List.getElem?_eq_none (by simp; exact Nat.le_of_not_lt h)]
    rfl
theorem byt_extract (s : ByteArray) (a b j : Nat) (h : a + j < b) (hb : b ≤ s.size) : byt (s.extract a b) j = byt s ((a + j : Nat) : Int) := by
  rw [← getD_byt, ← getD_byt]
  have e : (s.extract a b).data = s.data.extract a b := by simp
  rw [e, List.getD_eq_getElem?_getD, List.getD_eq_getElem?_getD, Array.toList_extract]
  simp only [List.extract_eq_take_drop, List.getElem?_take, List.getElem?_drop]
  rw [if_pos q2_]
theorem and31_fin : ∀ c : Fin 256, bits .and .u8 (c.val : Int) 31 = (c.val : Int) % 32 := by decide +kernel
theorem and31 (c : Int) (h0 : 0 ≤ c) (h1 : c < 256) : bits .and .u8 c 31 = c % 32 := by
  have h := and31_fin ⟨c.toNat, q2_⟩
  have e : ((c.toNat : Nat) : Int) = c := by omega
  simp only [e] at h
  exact h
theorem and32_fin : ∀ c : Fin 256, (bits .and .u8 (c.val : Int) 32 != 0) = ((c.val : Int) / 32 % 2 == 1) := by decide +kernel
theorem and32 (c : Int) (h0 : 0 ≤ c) (h1 : c < 256) : (bits .and .u8 c 32 != 0) = (c / 32 % 2 == 1) := by
  have h := and32_fin ⟨c.toNat, q2_⟩
  have e : ((c.toNat : Nat) : Int) = c := by omega
  simp only [e] at h
  exact h
theorem or_low (a c : Nat) (hc : c < 256) : a * 256 ||| c = a * 256 + c := by
  have h := Nat.two_pow_add_eq_or_of_lt (i := 8) (b := c) q2_ a
  rw [Nat.mul_comm a 256]
  exact h.symm
theorem ofInt_64 (a : Nat) (ha : a < 9223372036854775808) : (BitVec.ofInt 64 (a : Int)).toNat = a := by
  rw [BitVec.ofInt_natCast, BitVec.toNat_ofNat]
  exact Nat.mod_eq_of_lt q2_
theorem or_byte (a c : Int) (ha : 0 ≤ a) (ha1 : a < 281474976710656) (hc : 0 ≤ c) (hc1 : c < 256) : bits .or .i64 (a * 256) c = a * 256 + c := by
  obtain ⟨x, rfl⟩ : ∃ x : Nat, a = x := ⟨a.toNat, q2_⟩
  obtain ⟨y, rfl⟩ : ∃ y : Nat, c = y := ⟨c.toNat, q2_⟩
  have hx : ((x : Int) * 256) = ((x * 256 : Nat) : Int) := by simp
  rw [hx]
  show IntKind.i64.wrap ((BitVec.ofInt 64 ((x * 256 : Nat) : Int) ||| BitVec.ofInt 64 (y : Int)).toNat : Int) = _
  rw [BitVec.toNat_or, ofInt_64 _ q2_, ofInt_64 _ q2_, or_low x y q2_, IntKind.wrap_i64]
  omega
theorem gen1 {w : World} {c1 : Array Value} {t1 : TypeId} {G : World → Prop}
    (h : ∀ W, Below w.heap.size w W → W.heap.size = w.heap.size + 1 → At W w.heap.size t1 c1 → G W) : G (w.alloc (.cells c1 t1)) :=
  h _ ((Below.refl _ _).alloc (Nat.le_refl _) _) q21_ (At.new _ _ _)
theorem gen2 {w : World} {c1 c2 : Array Value} {t1 t2 : TypeId} {G : World → Prop}
    (h : ∀ W, Below w.heap.size w W → W.heap.size = w.heap.size + 1 + 1 → At W w.heap.size t1 c1 → At W (w.heap.size + 1) t2 c2 → G W) : G ((w.alloc (.cells c1 t1)).alloc (.cells c2 t2)) :=
  h _ (((Below.refl _ _).alloc (Nat.le_refl _) _).alloc q21_ _) q21_ ((At.new _ _ _).alloc _) (by have := At.new (w.alloc (.cells c1 t1)) t2 c2; simpa using this)
theorem gen3 {w : World} {c1 c2 c3 : Array Value} {t1 t2 t3 : TypeId} {G : World → Prop}
    (h : ∀ W, Below w.heap.size w W → W.heap.size = w.heap.size + 1 + 1 + 1 → At W w.heap.size t1 c1 → At W (w.heap.size + 1) t2 c2 → At W (w.heap.size + 1 + 1) t3 c3 → G W) :
    G (((w.alloc (.cells c1 t1)).alloc (.cells c2 t2)).alloc (.cells c3 t3)) :=
  gen2 (G := fun V => G (V.alloc (.cells c3 t3))) fun V hb hz h1 h2 => h _ (hb.alloc q2_ _) (by simp [hz]) (h1.alloc _) (h2.alloc _) (by have := At.new V t3 c3; rw [hz] at this; exact this)
end Go.Proofs.YtogjljpncdmlkaaDoor.W
namespace Go.Proofs.YtogjljpncdmlkaaDoor.W
open Go.RowKit
set_option linter.unusedVariables false
set_option linter.unusedSimpArgs false
theorem below_draws {B : Nat} {a w : World} (h : Below B a w) (n : Nat) : Below B a (w.drewN n) := ⟨h.os, h.tape, h.output, h.size, h.block⟩
theorem grown_below {w w' : World} (h : Below w.heap.size w w') (r : Option Nat) : w.grownBy w' r := ⟨h.os, h.tape, h.output, h.size, fun i hi _ => h.block i hi⟩
theorem At.kept {w w' : World} {b k : Nat} {t : TypeId} {cs : Array Value} (h : At w b t cs) (hg : w.grownBy w' (some k)) (hne : b ≠ k) : At w' b t cs :=
  (hg.block b h.lt (fun e => hne (by injection e))).trans h
theorem below_kept {B k : Nat} {a w w' : World} (h : Below B a w) (hg : w.grownBy w' (some k)) (hB : B ≤ w.heap.size) (hk : B ≤ k) : Below B a w' :=
  h.grown hg hB (fun j hj => by injection hj with hj; omega)
theorem At.ne {w : World} {a b : Nat} {s t : TypeId} {cs ds : Array Value} (h : At w a s cs) (k : At w b t ds) (hne : s ≠ t) : a ≠ b := by
  rintro rfl
  unfold At at h k
  rw [h] at k
  injection k with k
  injection k with _ h5 _
  exact hne h5
end Go.Proofs.YtogjljpncdmlkaaDoor.W
namespace Go.Proofs.YtogjljpncdmlkaaDoor.W
def miss (d : Int) : Int := if d = 1 then 20 else 26
def numAt (s : ByteArray) (i : Int) : Nat → Int → Int
  | 0, v => v
  | n + 1, v => numAt s (i + 1) n (v * 256 + byt s i)
structure Hd where
  cls : Int
  made : Bool
  tag : Int
  len : Int
  size : Int
def hdr (s : ByteArray) (p e d : Int) : Except (Int × Int) Hd :=
  if 64 < d then .error (25, p)
  else if e ≤ p then .error (miss d, e)
  else if byt s p % 32 = 31 then .error (21, p)
  else if e ≤ p + 1 then .error (miss d, e)
  else if byt s (p + 1) < 128 then .ok ⟨byt s p / 64, byt s p / 32 % 2 == 1, byt s p % 32, byt s (p + 1), 2⟩
  else if byt s (p + 1) = 128 then .error (22, p + 1)
  else if 132 < byt s (p + 1) then .error (23, p + 1)
  else if e < p + (byt s (p + 1) - 126) then .error (miss d, e)
  else .ok ⟨byt s p / 64, byt s p / 32 % 2 == 1, byt s p % 32, numAt s (p + 2) (byt s (p + 1) - 128).toNat 0, byt s (p + 1) - 126⟩
theorem numAt_snoc (s : ByteArray) (n : Nat) : ∀ (i v : Int), numAt s i (n + 1) v = numAt s i n v * 256 + byt s (i + n) := by
  induction n with
  | zero => intro i v; simp [numAt]
  | succ n ih =>
    intro i v
    have h := ih (i + 1) (v * 256 + byt s i)
    have e : i + 1 + (n : Int) = i + ((n + 1 : Nat) : Int) := by omega
    rw [e] at h
    exact h
theorem numAt_range (s : ByteArray) (i : Int) (n : Nat) : 0 ≤ numAt s i n 0 ∧ numAt s i n 0 < 256 ^ n := by
  induction n with
  | zero => simp [numAt]
  | succ n ih =>
    rw [numAt_snoc]
    have hb := byt_range s (i + n)
    have e : (256 : Int) ^ (n + 1) = 256 ^ n * 256 := by rw [Int.pow_succ]
    rw [e]
    omega
theorem numAt_lt (s : ByteArray) (i : Int) (n : Nat) (hn : n ≤ 4) : 0 ≤ numAt s i n 0 ∧ numAt s i n 0 < 4294967296 := by
  have h := numAt_range s i n
  refine ⟨h.1, ?_⟩
  have : n = 0 ∨ n = 1 ∨ n = 2 ∨ n = 3 ∨ n = 4 := by omega
  rcases this with rfl | rfl | rfl | rfl | rfl <;> (have := h.2; simp at this; omega)
def bnd (s : ByteArray) (p e d : Int) : Except (Int × Int) Hd :=
  match hdr s p e d with
  | .error x => .error x
  | .ok h => if e - p - h.size < h.len then .error (miss d, e) else .ok h
theorem hdr_ok {s : ByteArray} {p e d : Int} {h : Hd} (he : hdr s p e d = .ok h) :
    d ≤ 64 ∧ p + h.size ≤ e ∧ 2 ≤ h.size ∧ h.size ≤ 6 ∧ 0 ≤ h.len ∧ h.len < 4294967296 ∧ h.cls = byt s p / 64 ∧ h.made = (byt s p / 32 % 2 == 1) ∧ h.tag = byt s p % 32 ∧ byt s p % 32 ≠ 31 := by
  unfold hdr at he
  have hb := byt_range s (p + 1)
  by_cases c1 : 64 < d
  · rw [if_pos c1] at he; cases he
  rw [if_neg c1] at he
  by_cases c2 : e ≤ p
  · rw [if_pos c2] at he; cases he
  rw [if_neg c2] at he
  by_cases c3 : byt s p % 32 = 31
  · rw [if_pos c3] at he; cases he
  rw [if_neg c3] at he
  by_cases c4 : e ≤ p + 1
  · rw [if_pos c4] at he; cases he
  rw [if_neg c4] at he
  by_cases c5 : byt s (p + 1) < 128
  · rw [if_pos c5] at he
    injection he with he
    subst he
    exact ⟨q2_, by show p + 2 ≤ e; omega, by show (2 : Int) ≤ 2; omega, by show (2 : Int) ≤ 6; omega, hb.1, by show byt s (p + 1) < 4294967296; omega, rfl, rfl, rfl, c3⟩
  rw [if_neg c5] at he
  by_cases c6 : byt s (p + 1) = 128
  · rw [if_pos c6] at he; cases he
  rw [if_neg c6] at he
  by_cases c7 : 132 < byt s (p + 1)
  · rw [if_pos c7] at he; cases he
  rw [if_neg c7] at he
  by_cases c8 : e < p + (byt s (p + 1) - 126)
  · rw [if_pos c8] at he; cases he
  rw [if_neg c8] at he
  injection he with he
  subst he
  have hn := numAt_lt s (p + 2) (byt s (p + 1) - 128).toNat q2_
  exact ⟨q2_, by show p + (byt s (p + 1) - 126) ≤ e; omega, by show 2 ≤ byt s (p + 1) - 126; omega, by show byt s (p + 1) - 126 ≤ 6; omega, hn.1, hn.2, rfl, rfl, rfl, c3⟩
theorem bnd_ok {s : ByteArray} {p e d : Int} {h : Hd} (he : bnd s p e d = .ok h) : hdr s p e d = .ok h ∧ p + h.size + h.len ≤ e := by
  unfold bnd at he
  cases hh : hdr s p e d with
  | error x => rw [hh] at he; cases he
  | ok k =>
    rw [hh] at he
    simp only at he
    by_cases c : e - p - k.size < k.len
    · rw [if_pos c] at he; cases he
    · rw [if_neg c] at he
      injection he with he
      subst he
      exact ⟨rfl, q2_⟩
end Go.Proofs.YtogjljpncdmlkaaDoor.W
namespace Go.Proofs.YtogjljpncdmlkaaDoor.W
open Go.RowKit Go.Proofs.YtogjljpncdmlkaaDoorW.PrintWords
set_option linter.unusedVariables false
set_option linter.unusedSimpArgs false
theorem reps_map {α β : Type} {R : α → List Value → Prop} {f : β → α} {size : Nat} {xs : List β} {cs : List Value} : Reps (fun x => R (f x)) size xs cs ↔ Reps R size (xs.map f) cs := by
  unfold Reps
  rw [List.length_map]
  refine and_congr Iff.rfl ⟨fun h j p hp => ?_, fun h j p hp => ?_⟩
  · rw [List.getElem?_map] at hp
    obtain ⟨q, hq, rfl⟩ := Option.map_eq_some_iff.1 hp
    exact h j q hq
  · exact h j (f p) (by rw [List.getElem?_map, hp]; rfl)
theorem R_iso {α β : Type} {d : Kd α} {f : β → α} {e : Nat} {w : World} {base : Nat} {ok : Nat → Prop} {v : Value} {xs : List β} :
    Kd.R (Kd.iso d f) e w base ok v xs ↔ Kd.R d e w base ok v (xs.map f) := by
  unfold Kd.R OwnRow
  refine and_congr Iff.rfl (exists_congr fun inner => ?_)
  rw [List.length_map]
  exact and_congr Iff.rfl (reps_map (R := d.M w base (fun k => ok k ∧ some k ≠ v.ownBlock)) (f := f) (size := d.sz) (xs := xs) (cs := inner))
theorem R_of_map {α β : Type} {d : Kd α} {f : β → α} (g : α → β) (hfg : ∀ x, f (g x) = x) {e : Nat} {w : World} {base : Nat} {ok : Nat → Prop} {v : Value} {xs : List α} (h : Kd.R d e w base ok v xs) :
    Kd.R (Kd.iso d f) e w base ok v (xs.map g) := by
  rw [R_iso, List.map_map]
  have : (f ∘ g) = id := funext hfg
  rw [this, List.map_id]
  exact h
abbrev ElemT := Int × Bool × Int × ByteArray
def kElem : Kd ElemT := Kd.pair (Kd.int .i64) (Kd.pair Kd.bool (Kd.pair (Kd.int .i64) Kd.string))
abbrev NodeT := Int × Int × Bool × Int × ByteArray
def kNode : Kd NodeT := Kd.pair (Kd.int .i64) (Kd.pair (Kd.int .i64) (Kd.pair Kd.bool (Kd.pair (Kd.int .i64) Kd.string)))
theorem kNode_mkM (w : World) (base : Nat) (ok : Nat → Prop) (x : NodeT) : kNode.M w base ok x [.int .i64 x.1, .int .i64 x.2.1, .bool x.2.2.1, .int .i64 x.2.2.2.1, .string x.2.2.2.2] :=
  ⟨[.int .i64 x.1], [.int .i64 x.2.1, .bool x.2.2.1, .int .i64 x.2.2.2.1, .string x.2.2.2.2], rfl, rfl, ⟨[.int .i64 x.2.1], [.bool x.2.2.1, .int .i64 x.2.2.2.1, .string x.2.2.2.2], rfl, rfl, ⟨[.bool x.2.2.1], [.int .i64 x.2.2.2.1, .string x.2.2.2.2], rfl, rfl, ⟨[.int .i64 x.2.2.2.1], [.string x.2.2.2.2], rfl, rfl, rfl⟩⟩⟩⟩
end Go.Proofs.YtogjljpncdmlkaaDoor.W
namespace Go.Proofs.YtogjljpncdmlkaaDoor.W
open Go.RowKit
set_option linter.unusedVariables false
set_option linter.unusedSimpArgs false
structure Fnd where
  at_ : Int
  depth : Int
  head : Hd
def fndCells (x : Fnd) : List Value := [.int .i64 x.at_, .int .i64 x.depth, .int .i64 x.head.cls, .bool x.head.made, .int .i64 x.head.tag, .int .i64 x.head.len, .int .i64 x.head.size]
def fndRow (l : List Fnd) : List Value := l.flatMap fndCells
theorem fndRow_snoc (l : List Fnd) (x : Fnd) : fndRow (l ++ [x]) = fndRow l ++ fndCells x := by simp [fndRow]
mutual
def elemF (s : ByteArray) : Nat → Int → Int → Int → List Fnd × Except (Int × Int) Int
  | 0, _, _, _ => ([], .error (0, 0))
  | n + 1, p, e, d =>
    match bnd s p e d with
    | .error x => ([], .error x)
    | .ok h =>
      if h.made then (⟨p, d, h⟩ :: (elemsF s n (p + h.size) (p + h.size + h.len) (d + 1)).1, (elemsF s n (p + h.size) (p + h.size + h.len) (d + 1)).2)
      else ([⟨p, d, h⟩], .ok (p + h.size + h.len))
def elemsF (s : ByteArray) : Nat → Int → Int → Int → List Fnd × Except (Int × Int) Int
  | 0, _, _, _ => ([], .error (0, 0))
  | n + 1, p, e, d =>
    if p < e then
      match (elemF s n p e d).2 with
      | .error x => ((elemF s n p e d).1, .error x)
      | .ok q => ((elemF s n p e d).1 ++ (elemsF s n q e d).1, (elemsF s n q e d).2)
    else ([], .ok e)
end
theorem At.grown {w w' : World} {b : Nat} {t e : TypeId} {cs : Array Value} {base size n : Nat} {v : Value} {xs : List Value} (h : At w b t cs) (ho : w.ownsRow base e size v n xs) (hg : w.grownBy w' v.ownBlock) (hne : t ≠ e) : At w' b t cs := by
  refine (hg.block b h.lt ?_).trans h
  rcases ho.2 with ⟨rfl, _⟩ | ⟨g', cap, cur, rfl, _, hh, _⟩
  · simp [Value.ownBlock]
  · simp only [Value.ownBlock]
    intro he
    injection he with he
    subst he
    unfold At at h
    rw [hh] at h
    injection h with h
    injection h with _ h5 _
    exact hne h5.symm
theorem At.lit {W w' : World} {o : Obj} {b : Nat} {t e : TypeId} {cs : Array Value} {base size n : Nat} {v : Value} {xs : List Value} (h : At W b t cs) (ho : W.ownsRow base e size v n xs) (hg : ((W.alloc o).drew).grownBy w' v.ownBlock) (hne : t ≠ e) : At w' b t cs :=
  (h.alloc o).drew.grown (ho.alloc o).drew hg hne
theorem own_below {B : Nat} {w w' : World} {base size n : Nat} {e : TypeId} {v : Value} {xs : List Value} (h : w.ownsRow base e size v n xs) (hb : Below B w w') (hB : w.heap.size ≤ B) : w'.ownsRow base e size v n xs := by
  rcases h.2 with ⟨rfl, h1⟩ | ⟨g', cap, cur, h1, h2, h3, h4⟩
  · exact ⟨h.1, .inl ⟨rfl, h1⟩⟩
  · exact ⟨h.1, .inr ⟨g', cap, cur, h1, h2, (hb.block g' (Nat.lt_of_lt_of_le (lt_of_block h3) hB)).trans h3, h4⟩⟩
theorem own_set {w : World} {base size n : Nat} {e t : TypeId} {cs : Array Value} {v : Value} {xs : List Value} (h : w.ownsRow base e size v n xs) {p : Addr} (hp : At w p.block t cs) (hne : t ≠ e) (u : Value) : (w.setCell p u).ownsRow base e size v n xs := by
  rcases h.2 with ⟨rfl, h1⟩ | ⟨g', cap, cur, h1, h2, h3, h4⟩
  · exact ⟨h.1, .inl ⟨rfl, h1⟩⟩
  · refine ⟨h.1, .inr ⟨g', cap, cur, h1, h2, (Below.heap_setCell w p u g' ?_).trans h3, h4⟩⟩
    intro he
    subst he
    unfold At at hp
    rw [h3] at hp
    injection hp with hp
    injection hp with _ h5 _
    exact hne h5.symm
theorem own_base {w : World} {base size n : Nat} {e : TypeId} {v : Value} {xs : List Value} (h : w.ownsRow base e size v n xs) : ∀ k, v.ownBlock = some k → base ≤ k := by
  rcases h.2 with ⟨rfl, _⟩ | ⟨g', cap, cur, rfl, h2, _⟩
  · intro k hk; simp [Value.ownBlock] at hk
  · intro k hk
    simp only [Value.ownBlock] at hk
    injection hk with hk
    exact hk ▸ h2
theorem elem_ok (s : ByteArray) : ∀ n, (∀ p e d q, (elemF s n p e d).2 = .ok q → ((elemF s n p e d).1.length : Int) ≤ q - p ∧ p + 2 ≤ q ∧ q ≤ e) ∧
    (∀ p e d q, p ≤ e → (elemsF s n p e d).2 = .ok q → ((elemsF s n p e d).1.length : Int) ≤ q - p ∧ q = e)
  | 0 => by
    refine ⟨fun p e d q h => ?_, fun p e d q _ h => ?_⟩
    · simp [elemF] at h
    · simp [elemsF] at h
  | n + 1 => by
    obtain ⟨ih1, ih2⟩ := elem_ok s n
    refine ⟨fun p e d q h => ?_, fun p e d q hp h => ?_⟩
    · rw [elemF] at h ⊢
      cases hb : bnd s p e d with
      | error x => rw [hb] at h; cases h
      | ok k =>
        rw [hb] at h
        simp only at h ⊢
        obtain ⟨h1, h2⟩ := bnd_ok hb
        obtain ⟨_, _, h3, _, h5, _⟩ := hdr_ok h1
        cases hm : k.made with
        | true =>
          rw [hm] at h
          simp only [if_true] at h ⊢
          have := ih2 _ _ _ q q2_ h
          simp only [List.length_cons]
          omega
        | false =>
          rw [hm] at h
          simp only [Bool.false_eq_true, if_false] at h ⊢
          injection h with h
          simp only [List.length_cons, List.length_nil]
          omega
    · rw [elemsF] at h ⊢
      by_cases c : p < e
      · rw [if_pos c] at h ⊢
        cases hr : (elemF s n p e d).2 with
        | error x => rw [hr] at h; cases h
        | ok r =>
          rw [hr] at h
          simp only at h ⊢
          have a1 := ih1 p e d r hr
          have a2 := ih2 r e d q a1.2.2 h
          rw [List.length_append]
          omega
      · rw [if_neg c] at h ⊢
        injection h with h
        simp only [List.length_nil]
        omega
theorem elemsF_step {s : ByteArray} {k : Nat} {x e d : Int} (h : x < e) : elemsF s (k + 1) x e d =
    match (elemF s k x e d).2 with
    | .error y => ((elemF s k x e d).1, .error y)
    | .ok q => ((elemF s k x e d).1 ++ (elemsF s k q e d).1, (elemsF s k q e d).2) := by
  rw [elemsF, if_pos h]
theorem elemsF_stop {s : ByteArray} {k : Nat} {x e d : Int} (h : ¬ x < e) : elemsF s (k + 1) x e d = ([], .ok e) := by
  rw [elemsF, if_neg h]
def Scan (base g : Nat) (s : ByteArray) (l : List Fnd) (w : World) : Prop :=
  ∃ v, At w g 102 #[.string s, v] ∧ w.ownsRow base 105 7 v l.length (fndRow l)
def Keeps (g : Nat) (w w' : World) : Prop := ∀ k t cs, At w k t cs → k ≠ g → t ≠ 105 → At w' k t cs
theorem Keeps.refl (g : Nat) (w : World) : Keeps g w w := fun _ _ _ h _ _ => h
theorem Keeps.trans {g : Nat} {a b c : World} (h : Keeps g a b) (k : Keeps g b c) : Keeps g a c := fun i t cs h1 h2 h3 => k i t cs (h i t cs h1 h2 h3) h2 h3
theorem Keeps.of_below {g : Nat} {a b : World} (h : Below a.heap.size a b) : Keeps g a b := fun i t cs h1 _ _ => h1.below h h1.lt
theorem Keeps.alloc {g : Nat} {a b : World} (h : Keeps g a b) (o : Obj) : Keeps g a (b.alloc o) := fun i t cs h1 h2 h3 => (h i t cs h1 h2 h3).alloc o
theorem Keeps.drew {g : Nat} {a b : World} (h : Keeps g a b) : Keeps g a b.drew := h
theorem Keeps.grown {g base : Nat} {a b c : World} {v : Value} {n : Nat} {xs : List Value} (h : Keeps g a b) (ho : b.ownsRow base 105 7 v n xs) (hg : b.grownBy c v.ownBlock) : Keeps g a c := by
  intro i t cs h1 h2 h3
  have h4 := h i t cs h1 h2 h3
  refine (hg.block i h4.lt ?_).trans h4
  rcases ho.2 with ⟨rfl, _⟩ | ⟨g', cap, cur, rfl, _, hh, _⟩
  · simp [Value.ownBlock]
  · simp only [Value.ownBlock]
    intro he
    injection he with he
    subst he
    unfold At at h4
    rw [hh] at h4
    injection h4 with h4
    injection h4 with _ h5 _
    exact h3 h5.symm
theorem Keeps.setScan {g : Nat} {a b : World} (h : Keeps g a b) (i : Nat) (u : Value) : Keeps g a (b.setCell ⟨g, i, none⟩ u) :=
  fun k t cs h1 h2 h3 => (h k t cs h1 h2 h3).far h2 u
def ElemEnd (r : List Fnd × Except (Int × Int) Int) (base g : Nat) (s : ByteArray) (l : List Fnd) (w : World) (en : Ending) (w' : World) : Prop :=
  (match r.2 with
    | .error (c, q) => en = .panicked [{ v := .iface 77 (.agg #[.int .i64 c, .int .i64 q]), recovered := false }]
    | .ok q => en = .returned (.int .i64 q)) ∧ Scan base g s (l ++ r.1) w' ∧ Below base w w' ∧ Keeps g w w'
end Go.Proofs.YtogjljpncdmlkaaDoor.W
namespace Go.Proofs.YtogjljpncdmlkaaDoor.W
open Go.RowKit
set_option linter.unusedVariables false
set_option linter.unusedSimpArgs false
def splitN (s : ByteArray) : Nat → Int → List ElemT × Option (Int × Int)
  | 0, _ => ([], none)
  | n + 1, p =>
    if p < (s.size : Int) then
      match bnd s p s.size 1 with
      | .error x => ([], some x)
      | .ok h => ((h.cls, h.made, h.tag, s.extract (p + h.size).toNat (p + h.size + h.len).toNat) :: (splitN s n (p + h.size + h.len)).1, (splitN s n (p + h.size + h.len)).2)
    else ([], none)
def splitAt_ (s : ByteArray) (p : Int) : List ElemT × Option (Int × Int) := splitN s (s.size + 1 - p.toNat) p
def splitR : List ElemT × Option (Int × Int) → List ElemT × Int × Int
  | (l, none) => (l, 0, 0)
  | (_, some x) => ([], x.1, x.2)
def splitS (s : ByteArray) : List ElemT × Int × Int := splitR (splitAt_ s 0)
theorem hdr_err {s : ByteArray} {p e d c q : Int} (h : hdr s p e d = .error (c, q)) : 20 ≤ c ∧ c ≤ 26 := by
  have hm : miss d = 20 ∨ miss d = 26 := by unfold miss; split <;> simp
  unfold hdr at h
  repeat' split at h
  all_goals first | (cases h; done) | (injection h with h; injection h with h1 h2; omega)
theorem bnd_err {s : ByteArray} {p e d c q : Int} (h : bnd s p e d = .error (c, q)) : 20 ≤ c ∧ c ≤ 26 := by
  have hm : miss d = 20 ∨ miss d = 26 := by unfold miss; split <;> simp
  unfold bnd at h
  cases hh : hdr s p e d with
  | error x =>
    obtain ⟨c', q'⟩ := x
    rw [hh] at h
    injection h with h
    injection h with h1 h2
    subst h1
    exact hdr_err hh
  | ok k =>
    rw [hh] at h
    simp only at h
    split at h
    · injection h with h; injection h with h1 h2; omega
    · cases h
theorem elem_err (s : ByteArray) : ∀ n : Nat, (∀ p e d c q, 2 * (e - p) + 1 ≤ (n : Int) → 1 ≤ n → (elemF s n p e d).2 = .error (c, q) → 20 ≤ c ∧ c ≤ 26) ∧
    (∀ p e d c q, 2 * (e - p) + 2 ≤ (n : Int) → p ≤ e → (elemsF s n p e d).2 = .error (c, q) → 20 ≤ c ∧ c ≤ 26)
  | 0 => by
    refine ⟨fun p e d c q h h1 _ => by omega, fun p e d c q h h1 _ => by omega⟩
  | n + 1 => by
    obtain ⟨ih1, ih2⟩ := elem_err s n
    refine ⟨fun p e d c q hn h1 h => ?_, fun p e d c q hn hp h => ?_⟩
    · rw [elemF] at h
      cases hb : bnd s p e d with
      | error x =>
        rw [hb] at h
        injection h with h
        subst h
        exact bnd_err hb
      | ok k =>
        rw [hb] at h
        obtain ⟨b1, b2⟩ := bnd_ok hb
        obtain ⟨_, _, k3, _, k5, _⟩ := hdr_ok b1
        cases hm : k.made with
        | true =>
          simp only [hm, if_true] at h
          exact ih2 _ _ _ c q q2_ q2_ h
        | false =>
          simp only [hm, Bool.false_eq_true, if_false] at h
          cases h
    · rw [elemsF] at h
      by_cases c1 : p < e
      · rw [if_pos c1] at h
        cases hr : (elemF s n p e d).2 with
        | error x =>
          rw [hr] at h
          simp only at h
          injection h with h
          subst h
          exact ih1 p e d c q q2_ q2_ hr
        | ok r =>
          rw [hr] at h
          simp only at h
          have := (elem_ok s n).1 p e d r hr
          exact ih2 r e d c q q2_ q2_ h
      · rw [if_neg c1] at h
        cases h
theorem elem_in (s : ByteArray) : ∀ n : Nat, (∀ p e d x, x ∈ (elemF s n p e d).1 → p ≤ x.at_ ∧ 0 ≤ x.head.len ∧ 2 ≤ x.head.size ∧ x.at_ + x.head.size + x.head.len ≤ e) ∧
    (∀ p e d x, x ∈ (elemsF s n p e d).1 → p ≤ x.at_ ∧ 0 ≤ x.head.len ∧ 2 ≤ x.head.size ∧ x.at_ + x.head.size + x.head.len ≤ e)
  | 0 => ⟨fun p e d x h => by simp [elemF] at h, fun p e d x h => by simp [elemsF] at h⟩
  | n + 1 => by
    obtain ⟨ih1, ih2⟩ := elem_in s n
    refine ⟨fun p e d x h => ?_, fun p e d x h => ?_⟩
    · rw [elemF] at h
      cases hb : bnd s p e d with
      | error y => rw [hb] at h; simp at h
      | ok k =>
        rw [hb] at h
        obtain ⟨b1, b2⟩ := bnd_ok hb
        obtain ⟨_, _, k3, _, k5, _⟩ := hdr_ok b1
        cases hm : k.made with
        | true =>
          simp only [hm, if_true, List.mem_cons] at h
          rcases h with rfl | h
          · exact ⟨Int.le_refl _, k5, k3, b2⟩
          · have := ih2 _ _ _ x h
            omega
        | false =>
          simp only [hm, Bool.false_eq_true, if_false, List.mem_singleton] at h
          subst h
          exact ⟨Int.le_refl _, k5, k3, b2⟩
    · rw [elemsF] at h
      by_cases c1 : p < e
      · rw [if_pos c1] at h
        cases hr : (elemF s n p e d).2 with
        | error y =>
          rw [hr] at h
          exact ih1 p e d x h
        | ok r =>
          rw [hr] at h
          simp only [List.mem_append] at h
          rcases h with h | h
          · exact ih1 p e d x h
          · have h2 := ih2 r e d x h
            have := (elem_ok s n).1 p e d r hr
            omega
      · rw [if_neg c1] at h
        simp at h
def nodeOf (s : ByteArray) (x : Fnd) : NodeT :=
  (x.depth, x.head.cls, x.head.made, x.head.tag, if x.head.made = true then ⟨#[]⟩ else s.extract (x.at_ + x.head.size).toNat (x.at_ + x.head.size + x.head.len).toNat)
def walkS (s : ByteArray) : List Fnd × Except (Int × Int) Int := elemF s (2 * s.size + 1) 0 s.size 1
def treeR (s : ByteArray) : List Fnd × Except (Int × Int) Int → List NodeT × Int × Int
  | (_, .error x) => ([], x.1, x.2)
  | (l, .ok q) => if q < (s.size : Int) then ([], 27, q) else (l.map (nodeOf s), 0, 0)
def treeS (s : ByteArray) : List NodeT × Int × Int := treeR s (walkS s)
end Go.Proofs.YtogjljpncdmlkaaDoor.W
namespace Go.Proofs.YtogjljpncdmlkaaDoor.W
open Go.RowKit Go.Proofs.YtogjljpncdmlkaaDoorW.PrintWords
set_option linter.unusedVariables false
set_option linter.unusedSimpArgs false
def Has (s : ByteArray) (p : Int) (L : List Int) : Prop := 0 ≤ p ∧ p + L.length ≤ (s.size : Int) ∧ ∀ j : Nat, j < L.length → byt s (p + j) = L.getD j 0
theorem Has.left {s : ByteArray} {p : Int} {A B : List Int} (h : Has s p (A ++ B)) : Has s p A := by
  obtain ⟨h0, h1, h2⟩ := h
  rw [List.length_append] at h1
  refine ⟨h0, q2_, fun j hj => ?_⟩
  rw [h2 j (by rw [List.length_append]; omega), List.getD_eq_getElem?_getD, List.getElem?_append_left hj, ← List.getD_eq_getElem?_getD]
theorem Has.right {s : ByteArray} {p : Int} {A B : List Int} (h : Has s p (A ++ B)) : Has s (p + A.length) B := by
  obtain ⟨h0, h1, h2⟩ := h
  rw [List.length_append] at h1
  refine ⟨q2_, q2_, fun j hj => ?_⟩
  have := h2 (A.length + j) (by rw [List.length_append]; omega)
  rw [List.getD_eq_getElem?_getD, List.getElem?_append_right q2_, ← List.getD_eq_getElem?_getD] at this
  have e : p + (A.length : Int) + (j : Int) = p + ((A.length + j : Nat) : Int) := by omega
  have e2 : A.length + j - A.length = j := by omega
  rw [e, this, e2]
theorem Has.at {s : ByteArray} {p : Int} {L : List Int} (h : Has s p L) (j : Nat) (hj : j < L.length) : byt s (p + j) = L.getD j 0 := h.2.2 j hj
def be (n : Int) : Nat → List Int
  | 0 => []
  | k + 1 => be (n / 256) k ++ [n % 256]
theorem be_len (k : Nat) : ∀ n, (be n k).length = k := by
  induction k with
  | zero => intro n; rfl
  | succ k ih => intro n; rw [be, List.length_append, ih]; rfl
theorem num_be (s : ByteArray) (k : Nat) : ∀ (n i : Int), 0 ≤ n → n < 256 ^ k → Has s i (be n k) → numAt s i k 0 = n := by
  induction k with
  | zero => intro n i h0 h1 h; simp at h1; simp only [numAt]; omega
  | succ k ih =>
    intro n i h0 h1 h
    rw [be] at h
    have h2 := h.right
    rw [be_len] at h2
    have h3 := h2.at 0 q21_
    simp only [Int.natCast_zero, Int.add_zero, List.getD_cons_zero] at h3
    rw [numAt_snoc, h3, ih (n / 256) i q2_ (by rw [Int.pow_succ] at h1; omega) h.left]
    omega
def lenB (n : Int) (k : Nat) : List Int := if k = 0 then [n] else (128 + (k : Int)) :: be n k
def okForm (n : Int) (k : Nat) : Prop := (k = 0 ∧ n < 128) ∨ (1 ≤ k ∧ k ≤ 4 ∧ n < 256 ^ k)
def headB (cls : Int) (made : Bool) (tag n : Int) (k : Nat) : List Int := (cls * 64 + tag + if made = true then 32 else 0) :: lenB n k
def hsz (k : Nat) : Int := if k = 0 then 2 else 2 + k
theorem lenB_len (n : Int) (k : Nat) : (lenB n k).length = if k = 0 then 1 else k + 1 := by
  unfold lenB
  split
  · rfl
  · rw [List.length_cons, be_len]
theorem head_len (cls : Int) (made : Bool) (tag n : Int) (k : Nat) : ((headB cls made tag n k).length : Int) = hsz k := by
  show (((lenB n k).length + 1 : Nat) : Int) = hsz k
  rw [lenB_len]
  unfold hsz
  split <;> omega
theorem hsz_range (k : Nat) (hk : k ≤ 4) : 2 ≤ hsz k ∧ hsz k ≤ 6 := by unfold hsz; split <;> omega
theorem hdr_has {s : ByteArray} {p e d cls tag n : Int} {made : Bool} {k : Nat} (h : Has s p (headB cls made tag n k)) (c0 : 0 ≤ cls) (c1 : cls ≤ 3) (t0 : 0 ≤ tag) (t1 : tag ≤ 30) (n0 : 0 ≤ n) (hk : okForm n k)
    (hd : d ≤ 64) (he : p + hsz k ≤ e) : hdr s p e d = .ok ⟨cls, made, tag, n, hsz k⟩ := by
  have hb0 := h.at 0 (by unfold headB; simp)
  have hb1 := h.at 1 (by show 1 < (lenB n k).length + 1; rw [lenB_len]; split <;> omega)
  have e0 : (headB cls made tag n k).getD 0 0 = cls * 64 + tag + if made = true then 32 else 0 := rfl
  have e1 : (headB cls made tag n k).getD 1 0 = (lenB n k).getD 0 0 := rfl
  rw [e0] at hb0
  rw [e1] at hb1
  simp only [Int.natCast_zero, Int.add_zero] at hb0
  have hz := hsz_range k (by rcases hk with h | h <;> omega)
  have f1 : (cls * 64 + tag + if made = true then 32 else 0) / 64 = cls := by split <;> omega
  have f2 : (cls * 64 + tag + if made = true then 32 else 0) % 32 = tag := by split <;> omega
  have f3 : ((cls * 64 + tag + if made = true then 32 else 0) / 32 % 2 == 1) = made := by
    cases made with
    | true => simp only [if_true]; rw [beq_iff_eq]; omega
    | false => simp only [Bool.false_eq_true, if_false]; rw [beq_eq_false_iff_ne]; omega
  unfold hdr
  rw [if_neg q2_, if_neg q2_, hb0, f2, if_neg q2_, if_neg q2_]
  have hb1' : byt s (p + 1) = (lenB n k).getD 0 0 := hb1
  rw [hb1']
  rcases hk with ⟨rfl, hn⟩ | ⟨k1, k4, hn⟩
  · have l0 : (lenB n 0).getD 0 0 = n := rfl
    rw [l0, if_pos hn, f1, f3]
    rfl
  · have l0 : (lenB n k).getD 0 0 = 128 + (k : Int) := by unfold lenB; rw [if_neg q2_]; rfl
    have hs : hsz k = 2 + k := by unfold hsz; rw [if_neg q2_]
    have hr : Has s (p + 2) (be n k) := by
      have e : headB cls made tag n k = [cls * 64 + tag + (if made = true then 32 else 0), 128 + (k : Int)] ++ be n k := by
        show _ :: lenB n k = _
        unfold lenB
        rw [if_neg (show ¬ k = 0 by omega)]
        rfl
      rw [e] at h
      exact h.right
    have hx : (128 + (k : Int) - 128).toNat = k := by omega
    rw [l0, if_neg q2_, if_neg q2_, if_neg q2_, if_neg q2_, f1, f3, hx, num_be s k n (p + 2) n0 hn hr, hs]
    congr 2
    omega
mutual
inductive Tr : Type
  | leaf (cls tag : Int) (body : ByteArray) (k : Nat) : Tr
  | made (cls tag : Int) (kids : Fs) (k : Nat) : Tr
inductive Fs : Type
  | nil : Fs
  | cons (t : Tr) (f : Fs) : Fs
end
mutual
def flatT : Int → Tr → List NodeT
  | d, .leaf cls tag body _ => [(d, cls, false, tag, body)]
  | d, .made cls tag kids _ => (d, cls, true, tag, ⟨#[]⟩) :: flatF (d + 1) kids
def flatF : Int → Fs → List NodeT
  | _, .nil => []
  | d, .cons t f => flatT d t ++ flatF d f
end
mutual
def encT : Tr → List Int
  | .leaf cls tag body k => headB cls false tag body.size k ++ bytesOf body
  | .made cls tag kids k => headB cls true tag (encF kids).length k ++ encF kids
def encF : Fs → List Int
  | .nil => []
  | .cons t f => encT t ++ encF f
end
def okN (cls tag : Int) : Prop := 0 ≤ cls ∧ cls ≤ 3 ∧ 0 ≤ tag ∧ tag ≤ 30
mutual
def okT : Tr → Prop
  | .leaf cls tag body k => okN cls tag ∧ okForm body.size k
  | .made cls tag kids k => okN cls tag ∧ okForm (encF kids).length k ∧ okF kids
def okF : Fs → Prop
  | .nil => True
  | .cons t f => okT t ∧ okF f
end
mutual
def deepT : Tr → Int
  | .leaf _ _ _ _ => 1
  | .made _ _ kids _ => 1 + deepF kids
def deepF : Fs → Int
  | .nil => 0
  | .cons t f => if deepT t < deepF f then deepF f else deepT t
end
mutual
def fndT : Int → Int → Tr → List Fnd
  | p, d, .leaf cls tag body k => [⟨p, d, ⟨cls, false, tag, body.size, hsz k⟩⟩]
  | p, d, .made cls tag kids k => ⟨p, d, ⟨cls, true, tag, (encF kids).length, hsz k⟩⟩ :: fndF (p + hsz k) (d + 1) kids
def fndF : Int → Int → Fs → List Fnd
  | _, _, .nil => []
  | p, d, .cons t f => fndT p d t ++ fndF (p + (encT t).length) d f
end
theorem okForm_le {n : Int} {k : Nat} (h : okForm n k) : k ≤ 4 := by rcases h with h | h <;> omega
theorem enc_two : ∀ t : Tr, 2 ≤ (encT t).length
  | .leaf cls tag body k => by
    have := head_len cls false tag body.size k
    have h2 : 2 ≤ hsz k := by unfold hsz; split <;> omega
    rw [encT, List.length_append]; omega
  | .made cls tag kids k => by
    have := head_len cls true tag (encF kids).length k
    have h2 : 2 ≤ hsz k := by unfold hsz; split <;> omega
    rw [encT, List.length_append]; omega
theorem deep_pos : (∀ t : Tr, 1 ≤ deepT t) ∧ ∀ f : Fs, 0 ≤ deepF f := by
  have hF : ∀ f : Fs, 0 ≤ deepF f := fun f => by
    induction f using Fs.rec (motive_1 := fun t => 1 ≤ deepT t) with
    | leaf => simp [deepT]
    | made cls tag kids k ih => rw [deepT]; omega
    | nil => simp [deepF]
    | cons t f ih1 ih2 => rw [deepF]; split <;> omega
  refine ⟨fun t => ?_, hF⟩
  cases t with
  | leaf => simp [deepT]
  | made cls tag kids k => rw [deepT]; have := hF kids; omega
mutual
theorem read_T (s : ByteArray) : ∀ (t : Tr) (n : Nat) (p e d : Int), okT t → d + deepT t ≤ 65 → Has s p (encT t) → p + (encT t).length ≤ e → 2 * (encT t).length + 1 ≤ n → elemF s n p e d = (fndT p d t, .ok (p + (encT t).length))
  | .leaf cls tag body k, n, p, e, d, hok, hd, h, he, hn => by
    obtain ⟨⟨c0, c1, t0, t1⟩, hf⟩ := hok
    obtain ⟨n, rfl⟩ : ∃ m, n = m + 1 := ⟨n - 1, q2_⟩
    rw [deepT] at hd
    rw [encT] at h he
    rw [encT]
    have hl := head_len cls false tag body.size k
    rw [List.length_append, bytesOf_length] at he ⊢
    have hb := hdr_has h.left c0 c1 t0 t1 q2_ hf (d := d) (e := e) q2_ q2_
    have hbd : bnd s p e d = .ok ⟨cls, false, tag, body.size, hsz k⟩ := by
      unfold bnd
      rw [hb]
      simp only
      rw [if_neg q2_]
    rw [elemF, hbd, fndT]
    simp only [Bool.false_eq_true, if_false]
    congr 2
    omega
  | .made cls tag kids k, n, p, e, d, hok, hd, h, he, hn => by
    obtain ⟨⟨c0, c1, t0, t1⟩, hf, hk⟩ := hok
    obtain ⟨n, rfl⟩ : ∃ m, n = m + 1 := ⟨n - 1, q2_⟩
    rw [deepT] at hd
    rw [encT] at h he hn
    rw [encT]
    have hl := head_len cls true tag (encF kids).length k
    have hz := hsz_range k (okForm_le hf)
    rw [List.length_append] at he hn ⊢
    have hdp := deep_pos.2 kids
    have hb := hdr_has h.left c0 c1 t0 t1 q2_ hf (d := d) (e := e) q2_ q2_
    have hbd : bnd s p e d = .ok ⟨cls, true, tag, (encF kids).length, hsz k⟩ := by
      unfold bnd
      rw [hb]
      simp only
      rw [if_neg q2_]
    have hr := h.right
    rw [hl] at hr
    have hkk := read_F s kids n (p + hsz k) (p + hsz k + (encF kids).length) (d + 1) hk q2_ hr q2_ q2_
    have ee : p + hsz k + ((encF kids).length : Int) = p + (((headB cls true tag (encF kids).length k).length + (encF kids).length : Nat) : Int) := by omega
    rw [elemF, hbd, fndT]
    simp only [if_true]
    rw [hkk, ee]
theorem read_F (s : ByteArray) : ∀ (f : Fs) (n : Nat) (p e d : Int), okF f → d + deepF f ≤ 65 → Has s p (encF f) → e = p + (encF f).length → 2 * (encF f).length + 2 ≤ n → elemsF s n p e d = (fndF p d f, .ok e)
  | .nil, n, p, e, d, hok, hd, h, he, hn => by
    obtain ⟨n, rfl⟩ : ∃ m, n = m + 1 := ⟨n - 1, q2_⟩
    rw [encF] at he
    rw [elemsF, if_neg (by simp at he; omega), fndF]
  | .cons t f, n, p, e, d, hok, hd, h, he, hn => by
    obtain ⟨ht, hf⟩ := hok
    obtain ⟨n, rfl⟩ : ∃ m, n = m + 1 := ⟨n - 1, q2_⟩
    have h2 := enc_two t
    have hdt : deepT t ≤ deepF (.cons t f) ∧ deepF f ≤ deepF (.cons t f) := by rw [deepF]; split <;> omega
    rw [encF] at h he hn
    rw [List.length_append] at he hn
    have r1 := read_T s t n p e d ht q2_ h.left q2_ q2_
    have r2 := read_F s f n (p + (encT t).length) e d hf q2_ h.right q2_ q2_
    rw [elemsF, if_pos q2_, r1]
    simp only
    rw [r2, fndF]
end
theorem has_extract {s body : ByteArray} {p : Int} (h : Has s p (bytesOf body)) : s.extract p.toNat (p + body.size).toNat = body := by
  obtain ⟨h0, h1, h2⟩ := h
  rw [bytesOf_length] at h1 h2
  apply ByteArray.ext
  apply Array.ext
  · simp; omega
  · intro i hi1 hi2
    have hi : i < body.size := hi2
    have hb := h2 i hi
    have e1 : (bytesOf body).getD i 0 = byt body i := by
      rw [← getD_byt]
      unfold bytesOf
      rw [List.getD_eq_getElem?_getD, List.getD_eq_getElem?_getD, List.getElem?_map]
      have hl : i < body.data.toList.length := by rw [data_length]; exact hi
      rw [List.getElem?_eq_getElem hl]
      rfl
    rw [e1] at hb
    have e2 : byt (s.extract p.toNat (p + body.size).toNat) i = byt body i := by
      rw [byt_extract s _ _ i q2_ q2_, ← hb]
      congr 1
      omega
    have g1 := byt_at (s.extract p.toNat (p + body.size).toNat) (i : Int) (by simpa using hi1)
    have g2 := byt_at body (i : Int) (by simpa using hi2)
    have g3 : (((s.extract p.toNat (p + body.size).toNat)[((i : Int)).toNat]'(by simpa using hi1)).toNat : Int) = ((body[((i : Int)).toNat]'(by simpa using hi2)).toNat : Int) := by rw [g1, g2, e2]
    simp only [Int.toNat_natCast] at g3
    have g4 : (s.extract p.toNat (p + body.size).toNat)[i]'(by simpa using hi1) = body[i]'(by simpa using hi2) := by
      apply UInt8.toNat_inj.1
      omega
    exact g4
mutual
theorem nodes_T (s : ByteArray) : ∀ (t : Tr) (p d : Int), Has s p (encT t) → (fndT p d t).map (nodeOf s) = flatT d t
  | .leaf cls tag body k, p, d, h => by
    rw [encT] at h
    have hr := h.right
    rw [head_len] at hr
    rw [fndT, flatT]
    simp only [List.map_cons, List.map_nil, nodeOf, Bool.false_eq_true, if_false]
    rw [has_extract hr]
  | .made cls tag kids k, p, d, h => by
    rw [encT] at h
    have hr := h.right
    rw [head_len] at hr
    rw [fndT, flatT, List.map_cons, nodes_F s kids (p + hsz k) (d + 1) hr]
    rfl
theorem nodes_F (s : ByteArray) : ∀ (f : Fs) (p d : Int), Has s p (encF f) → (fndF p d f).map (nodeOf s) = flatF d f
  | .nil, p, d, h => by rw [fndF, flatF]; rfl
  | .cons t f, p, d, h => by
    rw [encF] at h
    rw [fndF, flatF, List.map_append, nodes_T s t p d h.left, nodes_F s f _ d h.right]
end
theorem tree_enc {s : ByteArray} {t : Tr} (hok : okT t) (hd : deepT t ≤ 64) (h : Has s 0 (encT t)) (hs : (s.size : Int) = (encT t).length) : treeS s = (flatT 1 t, 0, 0) := by
  have hr := read_T s t (2 * s.size + 1) 0 s.size 1 hok q2_ h q2_ q2_
  have hn := nodes_T s t 0 1 h
  unfold treeS walkS
  rw [hr]
  simp only [treeR]
  rw [if_neg q2_, hn]
theorem tree_trail {s : ByteArray} {t : Tr} (hok : okT t) (hd : deepT t ≤ 64) (h : Has s 0 (encT t)) (hs : ((encT t).length : Int) < s.size) : treeS s = ([], 27, ((encT t).length : Int)) := by
  have hr := read_T s t (2 * s.size + 1) 0 s.size 1 hok q2_ h q2_ q2_
  unfold treeS walkS
  rw [hr]
  simp only [treeR]
  rw [if_pos q2_]
  congr 2
  omega
end Go.Proofs.YtogjljpncdmlkaaDoor.W
end
section
namespace Go.Proofs.YtogjljpncdmlkaaDoor.GA
open Go.RowKit Go.Proofs.YtogjljpncdmlkaaDoorW.PrintWords Go.Proofs.YtogjljpncdmlkaaDoorW.PrintLast Go.Proofs.YtogjljpncdmlkaaDoorW.PrintMore
attribute [local go_sem] max2_int min2_int max_two min_two max_three min_three max_four min_four   -- for this text's walks alone
set_option linter.unusedVariables false
set_option linter.unusedSimpArgs false
def errW : Option Int → Value
 | none => .nilIface
 | some c => .iface 0 (.int .i64 c)
theorem errW_none : errW none = .nilIface := rfl
theorem errW_some (c : Int) : errW (some c) = .iface 0 (.int .i64 c) := rfl
theorem info5 : (Tryd.prog.info? 5).map (fun i => (i.zero, i.size, i.bytes)) = some (some (.int .u8 0), 1, 1) := by kernel_rfl
end Go.Proofs.YtogjljpncdmlkaaDoor.GA
end
