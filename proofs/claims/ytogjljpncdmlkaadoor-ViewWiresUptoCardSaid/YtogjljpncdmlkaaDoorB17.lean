/- Texts of this claim in one: GVx1, RHd, Hdd, GRx0 -/
import Derived.Test.YtogjljpncdmlkaaDoorB3
import Derived.Test.YtogjljpncdmlkaaDoorProg
import Derived.Test.YtogjljpncdmlkaaDoorB4
import Derived.WalkLawsBesides
import Derived.WalkSpells
import Derived.RegionTactic
import Derived.ChangeAlike
import Derived.BigRegion
import Derived.IntWalk
import Derived.Lib.Hide
import Derived.Outline
import Derived.Below
import Derived.Deep.Draws
import Derived.Deep.AppendLies
import Derived.Maps.AppendAt
import Derived.OwnWalk
import Derived.Laws.BytesArg
import Derived.Laws.MakeOwn
import Derived.Laws.OwnMore
import Derived.Deep.OwnRows
import Derived.Tactics
import Derived.Lib.ConvBytes
import Derived.Laws.Slices
import Derived.WalkKit
import Derived.KernelRfl
import Derived.RowKit3
import Derived.Deep.LoopGhost
import Derived.Deep.QuietTactic
import Derived.BigQuiet
import Derived.WideLaws
import Derived.Deep.DeepCutAuto
import Derived.Deep.CutBlock
import Derived.Deep.RegionHeld3
import Derived.Laws.Rows
import Derived.Lib.AppendStr
import Derived.ArgAppend
import Derived.Laws.IdiomCopy
import Derived.OrdersHeld
import Derived.Laws.BitsLemmas
import Derived.RowKit
import Derived.Test.YtogjljpncdmlkaaDoorB0
import Derived.Test.YtogjljpncdmlkaaDoorB1
import Derived.Test.YtogjljpncdmlkaaDoorB2
section
namespace Go.Proofs.YtogjljpncdmlkaaDoor.GV
open Go.RowKit Go.Proofs.YtogjljpncdmlkaaDoorW.PrintWords Go.Proofs.YtogjljpncdmlkaaDoorW.PrintLast Go.Proofs.YtogjljpncdmlkaaDoorW.PrintMore
attribute [local go_sem] max2_int min2_int max_two min_two max_three min_three max_four min_four   -- for this text's walks alone
set_option linter.unusedVariables false
set_option linter.unusedSimpArgs false
theorem eqA25 (d : Nat) (w : World) (x0 y0 : ByteArray) (x1 y1 : ByteArray) (x2 y2 : Bool) :
  (Op.equalIn (d + 2) 25 (.agg #[.string x0, .string x1, .bool x2]) (.agg #[.string y0, .string y1, .bool y2])).run Tryd.prog w = .ok (x0.toList == y0.toList && (x1.toList == y1.toList && (x2 == y2))) w := by
 refine eqA_of Tryd.underlying25 q9_ ?_
 refine eqf_cons q43_ (by go_simp; rfl) (by go_simp; rfl) (by go_simp) ?_
 refine eqf_cons q43_ (by go_simp; rfl) (by go_simp; rfl) (by go_simp) ?_
 exact eqf_last q43_ (by go_simp; rfl) (by go_simp; rfl) (by go_simp)
end Go.Proofs.YtogjljpncdmlkaaDoor.GV
end
section
namespace Go.Proofs.YtogjljpncdmlkaaDoor.W
open Go.RowKit
set_option linter.unusedVariables false
set_option linter.unusedSimpArgs false
def refOf (s : ByteArray) (p e : Int) : Hd × Int × Int :=
  match hdr s p e 2 with
  | .error (c, q) => (⟨0, false, 0, 0, 0⟩, if c = 26 then -1 else c, q)
  | .ok h => (h, 0, p)
def refV (r : Hd × Int × Int) : Value := .tuple #[.agg #[.int .i64 r.1.cls, .bool r.1.made, .int .i64 r.1.tag, .int .i64 r.1.len, .int .i64 r.1.size], .int .i64 r.2.1, .int .i64 r.2.2]
def RefEnd (r : Hd × Int × Int) (w : World) (en : Ending) (w' : World) : Prop := en = .returned (refV r) ∧ Below w.heap.size w w'
theorem refOf_err {s : ByteArray} {p e c q : Int} (h : hdr s p e 2 = .error (c, q)) : refOf s p e = (⟨0, false, 0, 0, 0⟩, if c = 26 then -1 else c, q) := by unfold refOf; rw [h]
theorem refOf_ok {s : ByteArray} {p e : Int} {k : Hd} (h : hdr s p e 2 = .ok k) : refOf s p e = (k, 0, p) := by unfold refOf; rw [h]
theorem hdr2 (s : ByteArray) (p e : Int) : hdr s p e 2 =
    if e ≤ p then .error (26, e) else if byt s p % 32 = 31 then .error (21, p) else if e ≤ p + 1 then .error (26, e)
    else if byt s (p + 1) < 128 then .ok ⟨byt s p / 64, byt s p / 32 % 2 == 1, byt s p % 32, byt s (p + 1), 2⟩
    else if byt s (p + 1) = 128 then .error (22, p + 1) else if 132 < byt s (p + 1) then .error (23, p + 1)
    else if e < p + (byt s (p + 1) - 126) then .error (26, e)
    else .ok ⟨byt s p / 64, byt s p / 32 % 2 == 1, byt s p % 32, numAt s (p + 2) (byt s (p + 1) - 128).toNat 0, byt s (p + 1) - 126⟩ := by
  unfold hdr
  rw [if_neg q2_]
  simp [miss]
set_option maxRecDepth 100000 in
theorem headAt_out (s : ByteArray) (p e : Int) (w : World) (h0 : 0 ≤ p) (hp : e ≤ p) (he : e ≤ (s.size : Int)) (hs : s.size ≤ 140737488351232) :
    Calls Tryd.prog 61 #[.string s, .int .i64 p, .int .i64 e] w fun en w' => RefEnd (refOf s p e) w en w' := by
  have HR : Hid (refOf s p e = (⟨0, false, 0, 0, 0⟩, -1, e)) := by
    have hh : hdr s p e 2 = .error (26, e) := by rw [hdr2, if_pos hp]
    unfold Hid; rw [refOf_err hh, if_pos rfl]
  go_enter Tryd.func61, Tryd.ntmps61
  go_wp2
  refine bodyPost_ret (v := refV (⟨0, false, 0, 0, 0⟩, -1, e)) ?_ rfl ⟨by rw [HR.out], ?_⟩
  · simp [results, Tryd.results61, go_sem, refV]
  · repeat (first | exact Below.refl _ _ | (refine Below.alloc ?_ q68_ _) | (refine Below.setCell ?_ q76_ _) | refine Below.drew ?_)
set_option maxRecDepth 100000 in
theorem headAt_tag (s : ByteArray) (p e : Int) (w : World) (h0 : 0 ≤ p) (hp : p < e) (c : UInt8) (hx : p.toNat < s.size) (hcc : s[p.toNat]'hx = c) (ht : (c.toNat : Int) % 32 = 31) (he : e ≤ (s.size : Int)) (hs : s.size ≤ 140737488351232) :
    Calls Tryd.prog 61 #[.string s, .int .i64 p, .int .i64 e] w fun en w' => RefEnd (refOf s p e) w en w' := by
  have HR : Hid (refOf s p e = (⟨0, false, 0, 0, 0⟩, 21, p)) := by
    have b0 := byt_at s p hx
    rw [hcc] at b0
    have hh : hdr s p e 2 = .error (21, p) := by rw [hdr2, if_neg q2_, if_pos q2_]
    unfold Hid; rw [refOf_err hh, if_neg q2_]
  have hcb : (c.toNat : Int) < 256 := by have := c.toNat_lt; omega
  go_enter Tryd.func61, Tryd.ntmps61
  go_wp2
  refine bodyPost_ret (v := refV (⟨0, false, 0, 0, 0⟩, 21, p)) ?_ rfl ⟨by rw [HR.out], ?_⟩
  · simp [results, Tryd.results61, go_sem, refV]
  · repeat (first | exact Below.refl _ _ | (refine Below.alloc ?_ q68_ _) | (refine Below.setCell ?_ q76_ _) | refine Below.drew ?_)
set_option maxRecDepth 100000 in
theorem headAt_short (s : ByteArray) (p e : Int) (w : World) (h0 : 0 ≤ p) (hp : p < e) (c : UInt8) (hx : p.toNat < s.size) (hcc : s[p.toNat]'hx = c) (ht : ¬ (c.toNat : Int) % 32 = 31) (h1 : e ≤ p + 1) (he : e ≤ (s.size : Int)) (hs : s.size ≤ 140737488351232) :
    Calls Tryd.prog 61 #[.string s, .int .i64 p, .int .i64 e] w fun en w' => RefEnd (refOf s p e) w en w' := by
  have HR : Hid (refOf s p e = (⟨0, false, 0, 0, 0⟩, -1, e)) := by
    have b0 := byt_at s p hx
    rw [hcc] at b0
    have hh : hdr s p e 2 = .error (26, e) := by rw [hdr2, if_neg q2_, if_neg q2_, if_pos h1]
    unfold Hid; rw [refOf_err hh, if_pos rfl]
  have hcb : (c.toNat : Int) < 256 := by have := c.toNat_lt; omega
  go_enter Tryd.func61, Tryd.ntmps61
  go_wp2
  refine bodyPost_ret (v := refV (⟨0, false, 0, 0, 0⟩, -1, e)) ?_ rfl ⟨by rw [HR.out], ?_⟩
  · simp [results, Tryd.results61, go_sem, refV]
  · repeat (first | exact Below.refl _ _ | (refine Below.alloc ?_ q68_ _) | (refine Below.setCell ?_ q76_ _) | refine Below.drew ?_)
set_option maxRecDepth 100000 in
theorem headAt_indef (s : ByteArray) (p e : Int) (w : World) (h0 : 0 ≤ p) (hp : p < e) (c : UInt8) (hx : p.toNat < s.size) (hcc : s[p.toNat]'hx = c) (ht : ¬ (c.toNat : Int) % 32 = 31) (h1 : p + 1 < e) (l : UInt8) (hy : (p + 1).toNat < s.size) (hll : s[(p + 1).toNat]'hy = l) (hl : (l.toNat : Int) = 128) (he : e ≤ (s.size : Int)) (hs : s.size ≤ 140737488351232) :
    Calls Tryd.prog 61 #[.string s, .int .i64 p, .int .i64 e] w fun en w' => RefEnd (refOf s p e) w en w' := by
  have HR : Hid (refOf s p e = (⟨0, false, 0, 0, 0⟩, 22, p + 1)) := by
    have b0 := byt_at s p hx
    rw [hcc] at b0
    have b1 := byt_at s (p + 1) hy
    rw [hll] at b1
    have hh : hdr s p e 2 = .error (22, p + 1) := by rw [hdr2, if_neg q2_, if_neg q2_, if_neg q2_, if_neg q2_, if_pos q2_]
    unfold Hid; rw [refOf_err hh, if_neg q2_]
  have hcb : (c.toNat : Int) < 256 := by have := c.toNat_lt; omega
  have hlb : (l.toNat : Int) < 256 := by have := l.toNat_lt; omega
  go_enter Tryd.func61, Tryd.ntmps61
  go_wp2
  refine bodyPost_ret (v := refV (⟨0, false, 0, 0, 0⟩, 22, p + 1)) ?_ rfl ⟨by rw [HR.out], ?_⟩
  · simp [results, Tryd.results61, go_sem, refV]
  · repeat (first | exact Below.refl _ _ | (refine Below.alloc ?_ q68_ _) | (refine Below.setCell ?_ q76_ _) | refine Below.drew ?_)
set_option maxRecDepth 100000 in
theorem headAt_far (s : ByteArray) (p e : Int) (w : World) (h0 : 0 ≤ p) (hp : p < e) (c : UInt8) (hx : p.toNat < s.size) (hcc : s[p.toNat]'hx = c) (ht : ¬ (c.toNat : Int) % 32 = 31) (h1 : p + 1 < e) (l : UInt8) (hy : (p + 1).toNat < s.size) (hll : s[(p + 1).toNat]'hy = l) (hl : 132 < (l.toNat : Int)) (he : e ≤ (s.size : Int)) (hs : s.size ≤ 140737488351232) :
    Calls Tryd.prog 61 #[.string s, .int .i64 p, .int .i64 e] w fun en w' => RefEnd (refOf s p e) w en w' := by
  have HR : Hid (refOf s p e = (⟨0, false, 0, 0, 0⟩, 23, p + 1)) := by
    have b0 := byt_at s p hx
    rw [hcc] at b0
    have b1 := byt_at s (p + 1) hy
    rw [hll] at b1
    have hh : hdr s p e 2 = .error (23, p + 1) := by rw [hdr2, if_neg q2_, if_neg q2_, if_neg q2_, if_neg q2_, if_neg q2_, if_pos q2_]
    unfold Hid; rw [refOf_err hh, if_neg q2_]
  have hcb : (c.toNat : Int) < 256 := by have := c.toNat_lt; omega
  have hlb : (l.toNat : Int) < 256 := by have := l.toNat_lt; omega
  go_enter Tryd.func61, Tryd.ntmps61
  go_wp2
  refine bodyPost_ret (v := refV (⟨0, false, 0, 0, 0⟩, 23, p + 1)) ?_ rfl ⟨by rw [HR.out], ?_⟩
  · simp [results, Tryd.results61, go_sem, refV]
  · repeat (first | exact Below.refl _ _ | (refine Below.alloc ?_ q68_ _) | (refine Below.setCell ?_ q76_ _) | refine Below.drew ?_)
set_option maxRecDepth 100000 in
theorem headAt_lack (s : ByteArray) (p e : Int) (w : World) (h0 : 0 ≤ p) (hp : p < e) (c : UInt8) (hx : p.toNat < s.size) (hcc : s[p.toNat]'hx = c) (ht : ¬ (c.toNat : Int) % 32 = 31) (h1 : p + 1 < e) (l : UInt8) (hy : (p + 1).toNat < s.size) (hll : s[(p + 1).toNat]'hy = l) (hl0 : (128 : Int) < l.toNat) (hl1 : (l.toNat : Int) ≤ 132) (hq : e < p + (2 + (l.toNat : Int) - 128)) (he : e ≤ (s.size : Int)) (hs : s.size ≤ 140737488351232) :
    Calls Tryd.prog 61 #[.string s, .int .i64 p, .int .i64 e] w fun en w' => RefEnd (refOf s p e) w en w' := by
  have HR : Hid (refOf s p e = (⟨0, false, 0, 0, 0⟩, -1, e)) := by
    have b0 := byt_at s p hx
    rw [hcc] at b0
    have b1 := byt_at s (p + 1) hy
    rw [hll] at b1
    have hh : hdr s p e 2 = .error (26, e) := by rw [hdr2, if_neg q2_, if_neg q2_, if_neg q2_, if_neg q2_, if_neg q2_, if_neg q2_, if_pos q2_]
    unfold Hid; rw [refOf_err hh, if_pos rfl]
  have hcb : (c.toNat : Int) < 256 := by have := c.toNat_lt; omega
  have hlb : (l.toNat : Int) < 256 := by have := l.toNat_lt; omega
  go_enter Tryd.func61, Tryd.ntmps61
  go_wp2
  refine bodyPost_ret (v := refV (⟨0, false, 0, 0, 0⟩, -1, e)) ?_ rfl ⟨by rw [HR.out], ?_⟩
  · simp [results, Tryd.results61, go_sem, refV]
  · repeat (first | exact Below.refl _ _ | (refine Below.alloc ?_ q68_ _) | (refine Below.setCell ?_ q76_ _) | refine Below.drew ?_)
set_option maxRecDepth 100000 in
theorem headAt_one (s : ByteArray) (p e : Int) (w : World) (h0 : 0 ≤ p) (hp : p < e) (c : UInt8) (hx : p.toNat < s.size) (hcc : s[p.toNat]'hx = c) (ht : ¬ (c.toNat : Int) % 32 = 31) (h1 : p + 1 < e) (l : UInt8) (hy : (p + 1).toNat < s.size) (hll : s[(p + 1).toNat]'hy = l) (hl : (l.toNat : Int) < 128) (he : e ≤ (s.size : Int)) (hs : s.size ≤ 140737488351232) :
    Calls Tryd.prog 61 #[.string s, .int .i64 p, .int .i64 e] w fun en w' => RefEnd (refOf s p e) w en w' := by
  have HR : Hid (refOf s p e = (⟨(c.toNat : Int) / 64, (c.toNat : Int) / 32 % 2 == 1, (c.toNat : Int) % 32, (l.toNat : Int), 2⟩, 0, p)) := by
    have e0 := byt_at s p hx
    have e1 := byt_at s (p + 1) hy
    rw [hcc] at e0
    rw [hll] at e1
    have hh := hdr2 s p e
    rw [← e0, ← e1, if_neg q2_, if_neg q2_, if_neg q2_, if_pos hl] at hh
    exact refOf_ok hh
  have hcb : (c.toNat : Int) < 256 := by have := c.toNat_lt; omega
  have hlb : (l.toNat : Int) < 256 := by have := l.toNat_lt; omega
  go_enter Tryd.func61, Tryd.ntmps61
  go_wp2
  refine bodyPost_ret (v := refV (⟨(c.toNat : Int) / 64, (c.toNat : Int) / 32 % 2 == 1, (c.toNat : Int) % 32, (l.toNat : Int), 2⟩, 0, p)) ?_ rfl ⟨by rw [HR.out], ?_⟩
  · simp [results, Tryd.results61, go_sem, refV]
  · repeat (first | exact Below.refl _ _ | (refine Below.alloc ?_ q68_ _) | (refine Below.setCell ?_ q76_ _) | refine Below.drew ?_)
set_option maxRecDepth 100000 in
theorem headAt_many (s : ByteArray) (p e : Int) (w : World) (h0 : 0 ≤ p) (hp : p < e) (c : UInt8) (hx : p.toNat < s.size) (hcc : s[p.toNat]'hx = c) (ht : ¬ (c.toNat : Int) % 32 = 31) (h1 : p + 1 < e) (l : UInt8) (hy : (p + 1).toNat < s.size) (hll : s[(p + 1).toNat]'hy = l) (hl0 : (128 : Int) < l.toNat) (hl1 : (l.toNat : Int) ≤ 132) (hq : p + (2 + (l.toNat : Int) - 128) ≤ e) (he : e ≤ (s.size : Int)) (hs : s.size ≤ 140737488351232) :
    Calls Tryd.prog 61 #[.string s, .int .i64 p, .int .i64 e] w fun en w' => RefEnd (refOf s p e) w en w' := by
  have HR : Hid (refOf s p e = (⟨(c.toNat : Int) / 64, (c.toNat : Int) / 32 % 2 == 1, (c.toNat : Int) % 32, numAt s (p + 2) (l.toNat - 128) 0, 2 + (l.toNat : Int) - 128⟩, 0, p)) := by
    have e0 := byt_at s p hx
    have e1 := byt_at s (p + 1) hy
    rw [hcc] at e0
    rw [hll] at e1
    have hh := hdr2 s p e
    rw [← e0, ← e1, if_neg q2_, if_neg q2_, if_neg q2_, if_neg q2_, if_neg q2_, if_neg q2_, if_neg q2_] at hh
    have a1 : ((l.toNat : Int) - 128).toNat = l.toNat - 128 := by omega
    have a2 : (l.toNat : Int) - 126 = 2 + (l.toNat : Int) - 128 := by omega
    rw [a1, a2] at hh
    exact refOf_ok hh
  have hcb : (c.toNat : Int) < 256 := by have := c.toNat_lt; omega
  have hlb : (l.toNat : Int) < 256 := by have := l.toNat_lt; omega
  go_enter Tryd.func61, Tryd.ntmps61
  go_wp2
  refine gen2 (G := fun W => Code.wp _ _ _ _ W) fun W hB hz k1 k3 => ?_
  obtain ⟨n, hn⟩ : ∃ n : Nat, n = l.toNat - 128 := ⟨_, rfl⟩
  have hn4 : n ≤ 4 := by omega
  have hnl : (l.toNat : Int) = (n : Int) + 128 := by omega
  rw [← hn] at HR
  rw [hnl] at HR hq hlb hl0 hl1 k3
  have e2 : 2 + ((n : Int) + 128) - 128 = 2 + (n : Int) := by omega
  rw [e2] at HR hq k3
  generalize hx1 : (c.toNat : Int) = x1 at HR hcb ht k3
  clear hn hll hcc
  have HL : Hid ((l.toNat : Int) = (n : Int) + 128) := hnl
  clear hnl hx1
  go_loopw [12] (fun i wr => ∃ k : Nat, k ≤ n ∧ i = .int .i64 (p + 2 + k) ∧ At wr w.heap.size 84 #[.int .i64 0, .bool false, .int .i64 0, .int .i64 0, .int .i64 0] ∧
      At wr (w.heap.size + 1) 84 #[.int .i64 (x1 / 64), .bool (x1 / 32 % 2 == 1), .int .i64 (x1 % 32), .int .i64 (numAt s (p + 2) k 0), .int .i64 (2 + (n : Int))] ∧ Below w.heap.size w wr)
    (fun i _ => (p + 2 + n - intOf i).toNat)
  case atStart => exact ⟨0, Nat.zero_le _, q28_, k1, k3, hB⟩
  case round =>
    obtain ⟨k, hk, rfl, r1, r3, rB⟩ := hrel
    have L0 := numAt_lt s (p + 2) k q2_
    obtain ⟨L, hL⟩ : ∃ L, L = numAt s (p + 2) k 0 := ⟨_, rfl⟩
    rw [← hL] at L0 r3
    have HL2 : Hid (L = numAt s (p + 2) k 0) := hL
    clear hL
    have c3 := (r3.cell 3).trans rfl
    have f3 := r3.free 3
    have c4 := (r3.cell 4).trans rfl
    have lt1 := r3.lt
    have e2' : k < n → (p + 2 + (k : Int)).toNat < s.size := by omega
    by_cases hkn : k < n
    · have hz2 : (p + 2 + (k : Int)).toNat < s.size := e2' hkn
      have g0 : 0 ≤ p + 2 + (k : Int) := by omega
      have g1 : p + 2 + (k : Int) < (s.size : Int) := by omega
      have hb := byt_range s (p + 2 + k)
      have hbe := byt_at s (p + 2 + k) hz2
      go_wp2
      go_region
      go_wp2
      have hnext : numAt s (p + 2) (k + 1) 0 = L * 256 + byt s (p + 2 + k) := by
        rw [numAt_snoc, HL2.out]
      have hr3 := (r3.set 3 (.int .i64 (L * 256 + byt s (p + 2 + k)))).drew
      go_roundw
      case rel => exact ⟨k + 1, q2_, q39_, (r1.far q28_ _).drew, by rw [hnext]; exact hr3, (rB.setCell q28_ _).drew⟩
      case measure => simp [intOf]; omega
    · obtain rfl : k = n := by omega
      have a0 := (r3.cell 0).trans rfl
      have a1 := (r3.cell 1).trans rfl
      have a2 := (r3.cell 2).trans rfl
      have b0 := (r1.cell 0).trans rfl
      have b1 := (r1.cell 1).trans rfl
      have b2 := (r1.cell 2).trans rfl
      have b3 := (r1.cell 3).trans rfl
      have b4 := (r1.cell 4).trans rfl
      have d0 := r1.free 0
      have d1 := r1.free 1
      have d2 := r1.free 2
      have d3 := r1.free 3
      have d4 := r1.free 4
      go_wp2
      refine bodyPost_ret (v := refV (⟨x1 / 64, x1 / 32 % 2 == 1, x1 % 32, L, 2 + (k : Int)⟩, 0, p)) ?_ rfl ⟨by rw [HR.out, HL2.out], ?_⟩
      · simp [results, Tryd.results61, go_sem, refV, b0, b1, b2, b3, b4]
      · exact ((((rB.setCell q28_ _).setCell q28_ _).setCell q28_ _).setCell q28_ _).setCell q28_ _
theorem headAt_any (s : ByteArray) (p e : Int) (w : World) (h0 : 0 ≤ p) (he : e ≤ (s.size : Int)) (hs : s.size ≤ 140737488351232) :
    Calls Tryd.prog 61 #[.string s, .int .i64 p, .int .i64 e] w fun en w' => RefEnd (refOf s p e) w en w' := by
  by_cases hp : e ≤ p
  · exact headAt_out s p e w h0 hp he hs
  have hx : p.toNat < s.size := by omega
  obtain ⟨c, hcc⟩ : ∃ c, s[p.toNat]'hx = c := ⟨_, rfl⟩
  by_cases ht : (c.toNat : Int) % 32 = 31
  · exact headAt_tag s p e w h0 q2_ c hx hcc ht he hs
  by_cases h1 : e ≤ p + 1
  · exact headAt_short s p e w h0 q2_ c hx hcc ht h1 he hs
  have hy : (p + 1).toNat < s.size := by omega
  obtain ⟨l, hll⟩ : ∃ l, s[(p + 1).toNat]'hy = l := ⟨_, rfl⟩
  rcases (show (l.toNat : Int) < 128 ∨ (l.toNat : Int) = 128 ∨ 132 < (l.toNat : Int) ∨ ((128 : Int) < l.toNat ∧ (l.toNat : Int) ≤ 132) by omega) with hl | hl | hl | ⟨hl0, hl1⟩
  · exact headAt_one s p e w h0 q2_ c hx hcc ht q2_ l hy hll hl he hs
  · exact headAt_indef s p e w h0 q2_ c hx hcc ht q2_ l hy hll hl he hs
  · exact headAt_far s p e w h0 q2_ c hx hcc ht q2_ l hy hll hl he hs
  · by_cases hq : e < p + (2 + (l.toNat : Int) - 128)
    · exact headAt_lack s p e w h0 q2_ c hx hcc ht q2_ l hy hll hl0 hl1 hq he hs
    · exact headAt_many s p e w h0 q2_ c hx hcc ht q2_ l hy hll hl0 hl1 q2_ he hs
end Go.Proofs.YtogjljpncdmlkaaDoor.W
end
section
namespace Go.Proofs.YtogjljpncdmlkaaDoor.W
set_option linter.unusedVariables false
set_option linter.unusedSimpArgs false
theorem hdr_code {s : ByteArray} {p e c q : Int} (h : hdr s p e 2 = .error (c, q)) : c = 26 ∨ c = 21 ∨ c = 22 ∨ c = 23 := by
  rw [hdr2] at h
  repeat' split at h
  all_goals first | (cases h; done) | (injection h with h; injection h with h1 h2; omega)
theorem hdr_as (s : ByteArray) (p e d : Int) (hd : d ≤ 64) :
    hdr s p e d = (match hdr s p e 2 with | .ok h => .ok h | .error (c, q) => .error (if c = 26 then miss d else c, q)) := by
  rw [hdr2]
  unfold hdr
  rw [if_neg q2_]
  repeat' split
  all_goals first | rfl | simp_all | (exfalso; omega)
end Go.Proofs.YtogjljpncdmlkaaDoor.W
end
section
namespace Go.Proofs.YtogjljpncdmlkaaDoor.GR
open Go.RowKit Go.Proofs.YtogjljpncdmlkaaDoorW.PrintWords Go.Proofs.YtogjljpncdmlkaaDoorW.PrintLast Go.Proofs.YtogjljpncdmlkaaDoorW.PrintMore
attribute [local go_sem] max2_int min2_int max_two min_two max_three min_three max_four min_four   -- for this text's walks alone
set_option linter.unusedVariables false
set_option linter.unusedSimpArgs false
def errW : Option Int → Value
 | none => .nilIface
 | some c => .iface 0 (.int .i64 c)
theorem errW_none : errW none = .nilIface := rfl
theorem errW_some (c : Int) : errW (some c) = .iface 0 (.int .i64 c) := rfl
theorem info3 : (Tryd.prog.info? 3).map (fun i => (i.zero, i.size, i.bytes)) = some (some (.int .i64 0), 1, 8) := by kernel_rfl
theorem info43 : (Tryd.prog.info? 43).map (fun i => (i.zero, i.size, i.bytes)) = some (some (.agg #[(.int .i64 0), (.int .i64 0), (.bool false), (.int .i64 0), (.string ⟨#[]⟩)]), 5, 48) := by kernel_rfl
theorem info86 : (Tryd.prog.info? 86).map (fun i => (i.zero, i.size, i.bytes)) = some (some (.agg #[(.int .i64 0), (.int .i64 0), (.bool false), (.int .i64 0), (.int .i64 0), (.int .i64 0)]), 6, 48) := by kernel_rfl
structure S84 where
 f0 : Int
 f1 : Bool
 f2 : Int
 f3 : Int
 f4 : Int
def z84 : S84 := ⟨(0 : Int), false, (0 : Int), (0 : Int), (0 : Int)⟩
def k84 : Kd S84 := Kd.iso (Kd.pair (Kd.int .i64) (Kd.pair Kd.bool (Kd.pair (Kd.int .i64) (Kd.pair (Kd.int .i64) (Kd.int .i64))))) (fun x : S84 => (x.f0, x.f1, x.f2, x.f3, x.f4))
theorem k84_open {w : World} {x : S84} {cs : List Value} (h : k84.K w x cs) : cs = [.int .i64 x.f0, .bool x.f1, .int .i64 x.f2, .int .i64 x.f3, .int .i64 x.f4] := by
 obtain ⟨_, _, rfl, rfl, ⟨_, _, rfl, rfl, ⟨_, _, rfl, rfl, ⟨_, _, rfl, rfl, rfl⟩⟩⟩⟩ := h
 exact rfl
theorem k84_mkM (w : World) (base : Nat) (ok : Nat → Prop) (x : S84)  : k84.M w base ok x [.int .i64 x.f0, .bool x.f1, .int .i64 x.f2, .int .i64 x.f3, .int .i64 x.f4] := ⟨[.int .i64 x.f0], [.bool x.f1, .int .i64 x.f2, .int .i64 x.f3, .int .i64 x.f4], rfl, rfl, ⟨[.bool x.f1], [.int .i64 x.f2, .int .i64 x.f3, .int .i64 x.f4], rfl, rfl, ⟨[.int .i64 x.f2], [.int .i64 x.f3, .int .i64 x.f4], rfl, rfl, ⟨[.int .i64 x.f3], [.int .i64 x.f4], rfl, rfl, rfl⟩⟩⟩⟩
def rd_T84 (xs : List S84) (i : Int) : S84 := xs.getD i.toNat z84
structure S86 where
 f0 : Int
 f1 : S84
def z86 : S86 := ⟨(0 : Int), z84⟩
def k86 : Kd S86 := Kd.iso (Kd.pair (Kd.int .i64) k84) (fun x : S86 => (x.f0, x.f1))
theorem k86_open {w : World} {x : S86} {cs : List Value} (h : k86.K w x cs) : cs = [.int .i64 x.f0, .int .i64 x.f1.f0, .bool x.f1.f1, .int .i64 x.f1.f2, .int .i64 x.f1.f3, .int .i64 x.f1.f4] := by
 obtain ⟨_, _, rfl, rfl, s1⟩ := h
 obtain rfl := k84_open s1
 exact rfl
theorem k86_mkM (w : World) (base : Nat) (ok : Nat → Prop) (x : S86)  : k86.M w base ok x [.int .i64 x.f0, .int .i64 x.f1.f0, .bool x.f1.f1, .int .i64 x.f1.f2, .int .i64 x.f1.f3, .int .i64 x.f1.f4] := ⟨[.int .i64 x.f0], [.int .i64 x.f1.f0, .bool x.f1.f1, .int .i64 x.f1.f2, .int .i64 x.f1.f3, .int .i64 x.f1.f4], rfl, rfl, (k84_mkM w base ok x.f1 )⟩
def rd_T86 (xs : List S86) (i : Int) : S86 := xs.getD i.toNat z86
theorem at_T86 {w : World} {A : Option Addr} {n : Nat} {xs : List S86} (h : Kd.C k86 w A n xs) (i : Int) (h0 : 0 ≤ i) (h1 : i < n) : ∃ ad , A = some ad ∧ w.cell? (ad.add (i.toNat * 6)) = some (.int .i64 (rd_T86 xs i).f0) ∧ w.cell? ⟨(ad.add (i.toNat * 6)).block, (ad.add (i.toNat * 6)).off + 1, none⟩ = some (.int .i64 (rd_T86 xs i).f1.f0) ∧ w.cell? ⟨(ad.add (i.toNat * 6)).block, (ad.add (i.toNat * 6)).off + 2, none⟩ = some (.bool (rd_T86 xs i).f1.f1) ∧ w.cell? ⟨(ad.add (i.toNat * 6)).block, (ad.add (i.toNat * 6)).off + 3, none⟩ = some (.int .i64 (rd_T86 xs i).f1.f2) ∧ w.cell? ⟨(ad.add (i.toNat * 6)).block, (ad.add (i.toNat * 6)).off + 4, none⟩ = some (.int .i64 (rd_T86 xs i).f1.f3) ∧ w.cell? ⟨(ad.add (i.toNat * 6)).block, (ad.add (i.toNat * 6)).off + 5, none⟩ = some (.int .i64 (rd_T86 xs i).f1.f4) := by
 obtain ⟨ad, c, e, _, hK, hc0⟩ := Kd.C_get h z86 i h0 h1
 have hc : ∀ j u, c[j]? = some u → w.cell? (ad.add (i.toNat * 6 + j)) = some u := hc0
 obtain rfl := k86_open hK
 exact ⟨ad, e, hc 0 _ rfl, q99_, q100_, q101_, q102_, by rw [← add_field _ _ 5 q2_]; exact hc 5 _ rfl⟩
structure S43 where
 f0 : Int
 f1 : Int
 f2 : Bool
 f3 : Int
 f4 : ByteArray
def z43 : S43 := ⟨(0 : Int), (0 : Int), false, (0 : Int), (⟨#[]⟩ : ByteArray)⟩
def k43 : Kd S43 := Kd.iso (Kd.pair (Kd.int .i64) (Kd.pair (Kd.int .i64) (Kd.pair Kd.bool (Kd.pair (Kd.int .i64) Kd.string)))) (fun x : S43 => (x.f0, x.f1, x.f2, x.f3, x.f4))
theorem k43_open {w : World} {x : S43} {cs : List Value} (h : k43.K w x cs) : cs = [.int .i64 x.f0, .int .i64 x.f1, .bool x.f2, .int .i64 x.f3, .string x.f4] := by
 obtain ⟨_, _, rfl, rfl, ⟨_, _, rfl, rfl, ⟨_, _, rfl, rfl, ⟨_, _, rfl, rfl, rfl⟩⟩⟩⟩ := h
 exact rfl
theorem k43_mkM (w : World) (base : Nat) (ok : Nat → Prop) (x : S43)  : k43.M w base ok x [.int .i64 x.f0, .int .i64 x.f1, .bool x.f2, .int .i64 x.f3, .string x.f4] := ⟨[.int .i64 x.f0], [.int .i64 x.f1, .bool x.f2, .int .i64 x.f3, .string x.f4], rfl, rfl, ⟨[.int .i64 x.f1], [.bool x.f2, .int .i64 x.f3, .string x.f4], rfl, rfl, ⟨[.bool x.f2], [.int .i64 x.f3, .string x.f4], rfl, rfl, ⟨[.int .i64 x.f3], [.string x.f4], rfl, rfl, rfl⟩⟩⟩⟩
def rd_T43 (xs : List S43) (i : Int) : S43 := xs.getD i.toNat z43
theorem at_T43 {w : World} {A : Option Addr} {n : Nat} {xs : List S43} (h : Kd.C k43 w A n xs) (i : Int) (h0 : 0 ≤ i) (h1 : i < n) : ∃ ad , A = some ad ∧ w.cell? (ad.add (i.toNat * 5)) = some (.int .i64 (rd_T43 xs i).f0) ∧ w.cell? ⟨(ad.add (i.toNat * 5)).block, (ad.add (i.toNat * 5)).off + 1, none⟩ = some (.int .i64 (rd_T43 xs i).f1) ∧ w.cell? ⟨(ad.add (i.toNat * 5)).block, (ad.add (i.toNat * 5)).off + 2, none⟩ = some (.bool (rd_T43 xs i).f2) ∧ w.cell? ⟨(ad.add (i.toNat * 5)).block, (ad.add (i.toNat * 5)).off + 3, none⟩ = some (.int .i64 (rd_T43 xs i).f3) ∧ w.cell? ⟨(ad.add (i.toNat * 5)).block, (ad.add (i.toNat * 5)).off + 4, none⟩ = some (.string (rd_T43 xs i).f4) := by
 obtain ⟨ad, c, e, _, hK, hc0⟩ := Kd.C_get h z43 i h0 h1
 have hc : ∀ j u, c[j]? = some u → w.cell? (ad.add (i.toNat * 5 + j)) = some u := hc0
 obtain rfl := k43_open hK
 exact ⟨ad, e, hc 0 _ rfl, q99_, q100_, q101_, q102_⟩
end Go.Proofs.YtogjljpncdmlkaaDoor.GR
end
