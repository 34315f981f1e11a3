/- Walk of the document's reader of a header (rosterref02.headAt), and what it answers beside the program's own. -/
import Derived.Test.YtbloccjogadlmaaProg
import Derived.Test.YtbloccjogadlmaaMa
import Derived.WalkLawsBesides
import Derived.WalkSpells
import Derived.RegionTactic
import Derived.ChangeAlike
import Derived.BigRegion
import Derived.IntWalk
import Derived.Lib.Hide
import Derived.Outline
namespace Go.Proofs.Ytbloccjogadlmaa.W
open Go.RowKit
set_option linter.unusedVariables false
set_option linter.unusedSimpArgs false

/-- The header at p as the document's reader tells it: -1 of bytes that are missing. -/
def refOf (s : ByteArray) (p e : Int) : Hd × Int × Int :=
  match hdr s p e 2 with
  | .error (c, q) => (⟨0, false, 0, 0, 0⟩, if c = 26 then -1 else c, q)
  | .ok h => (h, 0, p)
def refV (r : Hd × Int × Int) : Value := .tuple #[.agg #[.int .i64 r.1.cls, .bool r.1.made, .int .i64 r.1.tag, .int .i64 r.1.len, .int .i64 r.1.size], .int .i64 r.2.1, .int .i64 r.2.2]
def RefEnd (r : Hd × Int × Int) (w : World) (en : Ending) (w' : World) : Prop := en = .returned (refV r) ∧ Below w.heap.size w w'

theorem refOf_err {s : ByteArray} {p e c q : Int} (h : hdr s p e 2 = .error (c, q)) : refOf s p e = (⟨0, false, 0, 0, 0⟩, if c = 26 then -1 else c, q) := by unfold refOf; rw [h]
theorem refOf_ok {s : ByteArray} {p e : Int} {k : Hd} (h : hdr s p e 2 = .ok k) : refOf s p e = (k, 0, p) := by unfold refOf; rw [h]
theorem hdr2 (s : ByteArray) (p e : Int) : hdr s p e 2 =
    if e ≤ p then .error (26, e) else if byt s p % 32 = 31 then .error (21, p) else if e ≤ p + 1 then .error (26, e)
    else if byt s (p + 1) < 128 then .ok ⟨byt s p / 64, byt s p / 32 % 2 == 1, byt s p % 32, byt s (p + 1), 2⟩
    else if byt s (p + 1) = 128 then .error (22, p + 1) else if 132 < byt s (p + 1) then .error (23, p + 1)
    else if e < p + (byt s (p + 1) - 126) then .error (26, e)
    else .ok ⟨byt s p / 64, byt s p / 32 % 2 == 1, byt s p % 32, numAt s (p + 2) (byt s (p + 1) - 128).toNat 0, byt s (p + 1) - 126⟩ := by
  unfold hdr
  rw [if_neg (by omega)]
  simp [miss]

set_option maxRecDepth 100000 in
theorem headAt_out (s : ByteArray) (p e : Int) (w : World) (h0 : 0 ≤ p) (hp : e ≤ p) (he : e ≤ (s.size : Int)) (hs : s.size ≤ 140737488351232) :
    Calls Try.prog 37 #[.string s, .int .i64 p, .int .i64 e] w fun en w' => RefEnd (refOf s p e) w en w' := by
  have HR : Hid (refOf s p e = (⟨0, false, 0, 0, 0⟩, -1, e)) := by
    have hh : hdr s p e 2 = .error (26, e) := by rw [hdr2, if_pos hp]
    unfold Hid; rw [refOf_err hh, if_pos rfl]
  go_enter Try.func37, Try.ntmps37
  go_wp2
  refine bodyPost_ret (v := refV (⟨0, false, 0, 0, 0⟩, -1, e)) ?_ rfl ⟨by rw [HR.out], ?_⟩
  · simp [results, Try.results37, go_sem, refV]
  · repeat (first | exact Below.refl _ _ | (refine Below.alloc ?_ (by first | exact Nat.le_refl _ | (simp; done) | (simp; omega)) _) | (refine Below.setCell ?_ (by first | (simp; done) | (simp; omega)) _) | refine Below.drew ?_)

set_option maxRecDepth 100000 in
theorem headAt_tag (s : ByteArray) (p e : Int) (w : World) (h0 : 0 ≤ p) (hp : p < e) (c : UInt8) (hx : p.toNat < s.size) (hcc : s[p.toNat]'hx = c) (ht : (c.toNat : Int) % 32 = 31) (he : e ≤ (s.size : Int)) (hs : s.size ≤ 140737488351232) :
    Calls Try.prog 37 #[.string s, .int .i64 p, .int .i64 e] w fun en w' => RefEnd (refOf s p e) w en w' := by
  have HR : Hid (refOf s p e = (⟨0, false, 0, 0, 0⟩, 21, p)) := by
    have b0 := byt_at s p hx
    rw [hcc] at b0
    have hh : hdr s p e 2 = .error (21, p) := by rw [hdr2, if_neg (by omega), if_pos (by omega)]
    unfold Hid; rw [refOf_err hh, if_neg (by omega)]
  have hcb : (c.toNat : Int) < 256 := by have := c.toNat_lt; omega
  go_enter Try.func37, Try.ntmps37
  go_wp2
  refine bodyPost_ret (v := refV (⟨0, false, 0, 0, 0⟩, 21, p)) ?_ rfl ⟨by rw [HR.out], ?_⟩
  · simp [results, Try.results37, go_sem, refV]
  · repeat (first | exact Below.refl _ _ | (refine Below.alloc ?_ (by first | exact Nat.le_refl _ | (simp; done) | (simp; omega)) _) | (refine Below.setCell ?_ (by first | (simp; done) | (simp; omega)) _) | refine Below.drew ?_)

set_option maxRecDepth 100000 in
theorem headAt_short (s : ByteArray) (p e : Int) (w : World) (h0 : 0 ≤ p) (hp : p < e) (c : UInt8) (hx : p.toNat < s.size) (hcc : s[p.toNat]'hx = c) (ht : ¬ (c.toNat : Int) % 32 = 31) (h1 : e ≤ p + 1) (he : e ≤ (s.size : Int)) (hs : s.size ≤ 140737488351232) :
    Calls Try.prog 37 #[.string s, .int .i64 p, .int .i64 e] w fun en w' => RefEnd (refOf s p e) w en w' := by
  have HR : Hid (refOf s p e = (⟨0, false, 0, 0, 0⟩, -1, e)) := by
    have b0 := byt_at s p hx
    rw [hcc] at b0
    have hh : hdr s p e 2 = .error (26, e) := by rw [hdr2, if_neg (by omega), if_neg (by omega), if_pos h1]
    unfold Hid; rw [refOf_err hh, if_pos rfl]
  have hcb : (c.toNat : Int) < 256 := by have := c.toNat_lt; omega
  go_enter Try.func37, Try.ntmps37
  go_wp2
  refine bodyPost_ret (v := refV (⟨0, false, 0, 0, 0⟩, -1, e)) ?_ rfl ⟨by rw [HR.out], ?_⟩
  · simp [results, Try.results37, go_sem, refV]
  · repeat (first | exact Below.refl _ _ | (refine Below.alloc ?_ (by first | exact Nat.le_refl _ | (simp; done) | (simp; omega)) _) | (refine Below.setCell ?_ (by first | (simp; done) | (simp; omega)) _) | refine Below.drew ?_)

set_option maxRecDepth 100000 in
theorem headAt_indef (s : ByteArray) (p e : Int) (w : World) (h0 : 0 ≤ p) (hp : p < e) (c : UInt8) (hx : p.toNat < s.size) (hcc : s[p.toNat]'hx = c) (ht : ¬ (c.toNat : Int) % 32 = 31) (h1 : p + 1 < e) (l : UInt8) (hy : (p + 1).toNat < s.size) (hll : s[(p + 1).toNat]'hy = l) (hl : (l.toNat : Int) = 128) (he : e ≤ (s.size : Int)) (hs : s.size ≤ 140737488351232) :
    Calls Try.prog 37 #[.string s, .int .i64 p, .int .i64 e] w fun en w' => RefEnd (refOf s p e) w en w' := by
  have HR : Hid (refOf s p e = (⟨0, false, 0, 0, 0⟩, 22, p + 1)) := by
    have b0 := byt_at s p hx
    rw [hcc] at b0
    have b1 := byt_at s (p + 1) hy
    rw [hll] at b1
    have hh : hdr s p e 2 = .error (22, p + 1) := by rw [hdr2, if_neg (by omega), if_neg (by omega), if_neg (by omega), if_neg (by omega), if_pos (by omega)]
    unfold Hid; rw [refOf_err hh, if_neg (by omega)]
  have hcb : (c.toNat : Int) < 256 := by have := c.toNat_lt; omega
  have hlb : (l.toNat : Int) < 256 := by have := l.toNat_lt; omega
  go_enter Try.func37, Try.ntmps37
  go_wp2
  refine bodyPost_ret (v := refV (⟨0, false, 0, 0, 0⟩, 22, p + 1)) ?_ rfl ⟨by rw [HR.out], ?_⟩
  · simp [results, Try.results37, go_sem, refV]
  · repeat (first | exact Below.refl _ _ | (refine Below.alloc ?_ (by first | exact Nat.le_refl _ | (simp; done) | (simp; omega)) _) | (refine Below.setCell ?_ (by first | (simp; done) | (simp; omega)) _) | refine Below.drew ?_)

set_option maxRecDepth 100000 in
theorem headAt_far (s : ByteArray) (p e : Int) (w : World) (h0 : 0 ≤ p) (hp : p < e) (c : UInt8) (hx : p.toNat < s.size) (hcc : s[p.toNat]'hx = c) (ht : ¬ (c.toNat : Int) % 32 = 31) (h1 : p + 1 < e) (l : UInt8) (hy : (p + 1).toNat < s.size) (hll : s[(p + 1).toNat]'hy = l) (hl : 132 < (l.toNat : Int)) (he : e ≤ (s.size : Int)) (hs : s.size ≤ 140737488351232) :
    Calls Try.prog 37 #[.string s, .int .i64 p, .int .i64 e] w fun en w' => RefEnd (refOf s p e) w en w' := by
  have HR : Hid (refOf s p e = (⟨0, false, 0, 0, 0⟩, 23, p + 1)) := by
    have b0 := byt_at s p hx
    rw [hcc] at b0
    have b1 := byt_at s (p + 1) hy
    rw [hll] at b1
    have hh : hdr s p e 2 = .error (23, p + 1) := by rw [hdr2, if_neg (by omega), if_neg (by omega), if_neg (by omega), if_neg (by omega), if_neg (by omega), if_pos (by omega)]
    unfold Hid; rw [refOf_err hh, if_neg (by omega)]
  have hcb : (c.toNat : Int) < 256 := by have := c.toNat_lt; omega
  have hlb : (l.toNat : Int) < 256 := by have := l.toNat_lt; omega
  go_enter Try.func37, Try.ntmps37
  go_wp2
  refine bodyPost_ret (v := refV (⟨0, false, 0, 0, 0⟩, 23, p + 1)) ?_ rfl ⟨by rw [HR.out], ?_⟩
  · simp [results, Try.results37, go_sem, refV]
  · repeat (first | exact Below.refl _ _ | (refine Below.alloc ?_ (by first | exact Nat.le_refl _ | (simp; done) | (simp; omega)) _) | (refine Below.setCell ?_ (by first | (simp; done) | (simp; omega)) _) | refine Below.drew ?_)

set_option maxRecDepth 100000 in
theorem headAt_lack (s : ByteArray) (p e : Int) (w : World) (h0 : 0 ≤ p) (hp : p < e) (c : UInt8) (hx : p.toNat < s.size) (hcc : s[p.toNat]'hx = c) (ht : ¬ (c.toNat : Int) % 32 = 31) (h1 : p + 1 < e) (l : UInt8) (hy : (p + 1).toNat < s.size) (hll : s[(p + 1).toNat]'hy = l) (hl0 : (128 : Int) < l.toNat) (hl1 : (l.toNat : Int) ≤ 132) (hq : e < p + (2 + (l.toNat : Int) - 128)) (he : e ≤ (s.size : Int)) (hs : s.size ≤ 140737488351232) :
    Calls Try.prog 37 #[.string s, .int .i64 p, .int .i64 e] w fun en w' => RefEnd (refOf s p e) w en w' := by
  have HR : Hid (refOf s p e = (⟨0, false, 0, 0, 0⟩, -1, e)) := by
    have b0 := byt_at s p hx
    rw [hcc] at b0
    have b1 := byt_at s (p + 1) hy
    rw [hll] at b1
    have hh : hdr s p e 2 = .error (26, e) := by rw [hdr2, if_neg (by omega), if_neg (by omega), if_neg (by omega), if_neg (by omega), if_neg (by omega), if_neg (by omega), if_pos (by omega)]
    unfold Hid; rw [refOf_err hh, if_pos rfl]
  have hcb : (c.toNat : Int) < 256 := by have := c.toNat_lt; omega
  have hlb : (l.toNat : Int) < 256 := by have := l.toNat_lt; omega
  go_enter Try.func37, Try.ntmps37
  go_wp2
  refine bodyPost_ret (v := refV (⟨0, false, 0, 0, 0⟩, -1, e)) ?_ rfl ⟨by rw [HR.out], ?_⟩
  · simp [results, Try.results37, go_sem, refV]
  · repeat (first | exact Below.refl _ _ | (refine Below.alloc ?_ (by first | exact Nat.le_refl _ | (simp; done) | (simp; omega)) _) | (refine Below.setCell ?_ (by first | (simp; done) | (simp; omega)) _) | refine Below.drew ?_)

set_option maxRecDepth 100000 in
theorem headAt_one (s : ByteArray) (p e : Int) (w : World) (h0 : 0 ≤ p) (hp : p < e) (c : UInt8) (hx : p.toNat < s.size) (hcc : s[p.toNat]'hx = c) (ht : ¬ (c.toNat : Int) % 32 = 31) (h1 : p + 1 < e) (l : UInt8) (hy : (p + 1).toNat < s.size) (hll : s[(p + 1).toNat]'hy = l) (hl : (l.toNat : Int) < 128) (he : e ≤ (s.size : Int)) (hs : s.size ≤ 140737488351232) :
    Calls Try.prog 37 #[.string s, .int .i64 p, .int .i64 e] w fun en w' => RefEnd (refOf s p e) w en w' := by
  have HR : Hid (refOf s p e = (⟨(c.toNat : Int) / 64, (c.toNat : Int) / 32 % 2 == 1, (c.toNat : Int) % 32, (l.toNat : Int), 2⟩, 0, p)) := by
    have e0 := byt_at s p hx
    have e1 := byt_at s (p + 1) hy
    rw [hcc] at e0
    rw [hll] at e1
    have hh := hdr2 s p e
    rw [← e0, ← e1, if_neg (by omega), if_neg (by omega), if_neg (by omega), if_pos hl] at hh
    exact refOf_ok hh
  have hcb : (c.toNat : Int) < 256 := by have := c.toNat_lt; omega
  have hlb : (l.toNat : Int) < 256 := by have := l.toNat_lt; omega
  go_enter Try.func37, Try.ntmps37
  go_wp2
  refine bodyPost_ret (v := refV (⟨(c.toNat : Int) / 64, (c.toNat : Int) / 32 % 2 == 1, (c.toNat : Int) % 32, (l.toNat : Int), 2⟩, 0, p)) ?_ rfl ⟨by rw [HR.out], ?_⟩
  · simp [results, Try.results37, go_sem, refV]
  · repeat (first | exact Below.refl _ _ | (refine Below.alloc ?_ (by first | exact Nat.le_refl _ | (simp; done) | (simp; omega)) _) | (refine Below.setCell ?_ (by first | (simp; done) | (simp; omega)) _) | refine Below.drew ?_)

set_option maxRecDepth 100000 in
theorem headAt_many (s : ByteArray) (p e : Int) (w : World) (h0 : 0 ≤ p) (hp : p < e) (c : UInt8) (hx : p.toNat < s.size) (hcc : s[p.toNat]'hx = c) (ht : ¬ (c.toNat : Int) % 32 = 31) (h1 : p + 1 < e) (l : UInt8) (hy : (p + 1).toNat < s.size) (hll : s[(p + 1).toNat]'hy = l) (hl0 : (128 : Int) < l.toNat) (hl1 : (l.toNat : Int) ≤ 132) (hq : p + (2 + (l.toNat : Int) - 128) ≤ e) (he : e ≤ (s.size : Int)) (hs : s.size ≤ 140737488351232) :
    Calls Try.prog 37 #[.string s, .int .i64 p, .int .i64 e] w fun en w' => RefEnd (refOf s p e) w en w' := by
  have HR : Hid (refOf s p e = (⟨(c.toNat : Int) / 64, (c.toNat : Int) / 32 % 2 == 1, (c.toNat : Int) % 32, numAt s (p + 2) (l.toNat - 128) 0, 2 + (l.toNat : Int) - 128⟩, 0, p)) := by
    have e0 := byt_at s p hx
    have e1 := byt_at s (p + 1) hy
    rw [hcc] at e0
    rw [hll] at e1
    have hh := hdr2 s p e
    rw [← e0, ← e1, if_neg (by omega), if_neg (by omega), if_neg (by omega), if_neg (by omega), if_neg (by omega), if_neg (by omega), if_neg (by omega)] at hh
    have a1 : ((l.toNat : Int) - 128).toNat = l.toNat - 128 := by omega
    have a2 : (l.toNat : Int) - 126 = 2 + (l.toNat : Int) - 128 := by omega
    rw [a1, a2] at hh
    exact refOf_ok hh
  have hcb : (c.toNat : Int) < 256 := by have := c.toNat_lt; omega
  have hlb : (l.toNat : Int) < 256 := by have := l.toNat_lt; omega
  go_enter Try.func37, Try.ntmps37
  go_wp2
  refine gen2 (G := fun W => Code.wp _ _ _ _ W) fun W hB hz k1 k3 => ?_
  obtain ⟨n, hn⟩ : ∃ n : Nat, n = l.toNat - 128 := ⟨_, rfl⟩
  have hn4 : n ≤ 4 := by omega
  have hnl : (l.toNat : Int) = (n : Int) + 128 := by omega
  rw [← hn] at HR
  rw [hnl] at HR hq hlb hl0 hl1 k3
  have e2 : 2 + ((n : Int) + 128) - 128 = 2 + (n : Int) := by omega
  rw [e2] at HR hq k3
  generalize hx1 : (c.toNat : Int) = x1 at HR hcb ht k3
  clear hn hll hcc
  have HL : Hid ((l.toNat : Int) = (n : Int) + 128) := hnl
  clear hnl hx1
  go_loopw [12] (fun i wr => ∃ k : Nat, k ≤ n ∧ i = .int .i64 (p + 2 + k) ∧ At wr w.heap.size 29 #[.int .i64 0, .bool false, .int .i64 0, .int .i64 0, .int .i64 0] ∧
      At wr (w.heap.size + 1) 29 #[.int .i64 (x1 / 64), .bool (x1 / 32 % 2 == 1), .int .i64 (x1 % 32), .int .i64 (numAt s (p + 2) k 0), .int .i64 (2 + (n : Int))] ∧ Below w.heap.size w wr)
    (fun i _ => (p + 2 + n - intOf i).toNat)
  case atStart => exact ⟨0, Nat.zero_le _, by simp, k1, k3, hB⟩
  case round =>
    obtain ⟨k, hk, rfl, r1, r3, rB⟩ := hrel
    have L0 := numAt_lt s (p + 2) k (by omega)
    obtain ⟨L, hL⟩ : ∃ L, L = numAt s (p + 2) k 0 := ⟨_, rfl⟩
    rw [← hL] at L0 r3
    have HL2 : Hid (L = numAt s (p + 2) k 0) := hL
    clear hL
    have c3 := (r3.cell 3).trans rfl
    have f3 := r3.free 3
    have c4 := (r3.cell 4).trans rfl
    have lt1 := r3.lt
    have e2' : k < n → (p + 2 + (k : Int)).toNat < s.size := by omega
    by_cases hkn : k < n
    · have hz2 : (p + 2 + (k : Int)).toNat < s.size := e2' hkn
      have g0 : 0 ≤ p + 2 + (k : Int) := by omega
      have g1 : p + 2 + (k : Int) < (s.size : Int) := by omega
      have hb := byt_range s (p + 2 + k)
      have hbe := byt_at s (p + 2 + k) hz2
      go_wp2
      go_region
      go_wp2
      have hnext : numAt s (p + 2) (k + 1) 0 = L * 256 + byt s (p + 2 + k) := by
        rw [numAt_snoc, HL2.out]
      have hr3 := (r3.set 3 (.int .i64 (L * 256 + byt s (p + 2 + k)))).drew
      go_roundw
      case rel => exact ⟨k + 1, by omega, by simp; omega, (r1.far (by simp) _).drew, by rw [hnext]; exact hr3, (rB.setCell (by simp) _).drew⟩
      case measure => simp [intOf]; omega
    · obtain rfl : k = n := by omega
      have a0 := (r3.cell 0).trans rfl
      have a1 := (r3.cell 1).trans rfl
      have a2 := (r3.cell 2).trans rfl
      have b0 := (r1.cell 0).trans rfl
      have b1 := (r1.cell 1).trans rfl
      have b2 := (r1.cell 2).trans rfl
      have b3 := (r1.cell 3).trans rfl
      have b4 := (r1.cell 4).trans rfl
      have d0 := r1.free 0
      have d1 := r1.free 1
      have d2 := r1.free 2
      have d3 := r1.free 3
      have d4 := r1.free 4
      go_wp2
      refine bodyPost_ret (v := refV (⟨x1 / 64, x1 / 32 % 2 == 1, x1 % 32, L, 2 + (k : Int)⟩, 0, p)) ?_ rfl ⟨by rw [HR.out, HL2.out], ?_⟩
      · simp [results, Try.results37, go_sem, refV, b0, b1, b2, b3, b4]
      · exact ((((rB.setCell (by simp) _).setCell (by simp) _).setCell (by simp) _).setCell (by simp) _).setCell (by simp) _

/-- THE DOCUMENT'S READER OF A HEADER, at any place of a stretch within the text. -/
theorem headAt_any (s : ByteArray) (p e : Int) (w : World) (h0 : 0 ≤ p) (he : e ≤ (s.size : Int)) (hs : s.size ≤ 140737488351232) :
    Calls Try.prog 37 #[.string s, .int .i64 p, .int .i64 e] w fun en w' => RefEnd (refOf s p e) w en w' := by
  by_cases hp : e ≤ p
  · exact headAt_out s p e w h0 hp he hs
  have hx : p.toNat < s.size := by omega
  obtain ⟨c, hcc⟩ : ∃ c, s[p.toNat]'hx = c := ⟨_, rfl⟩
  by_cases ht : (c.toNat : Int) % 32 = 31
  · exact headAt_tag s p e w h0 (by omega) c hx hcc ht he hs
  by_cases h1 : e ≤ p + 1
  · exact headAt_short s p e w h0 (by omega) c hx hcc ht h1 he hs
  have hy : (p + 1).toNat < s.size := by omega
  obtain ⟨l, hll⟩ : ∃ l, s[(p + 1).toNat]'hy = l := ⟨_, rfl⟩
  rcases (show (l.toNat : Int) < 128 ∨ (l.toNat : Int) = 128 ∨ 132 < (l.toNat : Int) ∨ ((128 : Int) < l.toNat ∧ (l.toNat : Int) ≤ 132) by omega) with hl | hl | hl | ⟨hl0, hl1⟩
  · exact headAt_one s p e w h0 (by omega) c hx hcc ht (by omega) l hy hll hl he hs
  · exact headAt_indef s p e w h0 (by omega) c hx hcc ht (by omega) l hy hll hl he hs
  · exact headAt_far s p e w h0 (by omega) c hx hcc ht (by omega) l hy hll hl he hs
  · by_cases hq : e < p + (2 + (l.toNat : Int) - 128)
    · exact headAt_lack s p e w h0 (by omega) c hx hcc ht (by omega) l hy hll hl0 hl1 hq he hs
    · exact headAt_many s p e w h0 (by omega) c hx hcc ht (by omega) l hy hll hl0 hl1 (by omega) he hs
end Go.Proofs.Ytbloccjogadlmaa.W
