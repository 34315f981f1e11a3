/- Texts of this claim in one: BHd, BBn, BCa, Mj, Sp -/
import Derived.Test.YtogjljpncdmlkaaDoorB3
import Derived.Test.YtogjljpncdmlkaaDoorProg
import Derived.Test.YtogjljpncdmlkaaDoorB7
import Derived.WalkLawsBesides
import Derived.WalkSpells
import Derived.RegionTactic
import Derived.ChangeAlike
import Derived.BigRegion
import Derived.Deep.RegionHeld
import Derived.Outline
import Derived.IntWalk
import Derived.Lib.Hide
import Derived.Defers
import Derived.Recover
import Derived.Laws.Pointers
import Derived.KernelRfl
import Derived.Test.YtogjljpncdmlkaaDoorB8
import Derived.Deep.AppendLies
import Derived.Deep.RegionHeld3
import Derived.Deep.RegionLaw
import Derived.Deep.QuietTactic
import Derived.Test.YtogjljpncdmlkaaDoorB1
import Derived.BigQuiet
section
namespace Go.Proofs.YtogjljpncdmlkaaDoor.W
open Go.RowKit
set_option linter.unusedVariables false
set_option linter.unusedSimpArgs false
theorem missing_any (d : Int) (w : World) : Calls Tryd.prog 64 #[.int .i64 d] w fun en w' => en = .returned (.int .i64 (miss d)) ∧ w = w' := by
  by_cases h : d = 1
  · subst h
    go_enter Tryd.func64, Tryd.ntmps64
    go_wp2
    go_ret
    exact ⟨rfl, rfl⟩
  · have e : miss d = 26 := by unfold miss; rw [if_neg h]
    rw [e]
    go_enter Tryd.func64, Tryd.ntmps64
    go_wp2
    go_ret
    exact ⟨rfl, rfl⟩
def faulty (c at_ : Int) : Ending := .panicked [{ v := .iface 77 (.agg #[.int .i64 c, .int .i64 at_]), recovered := false }]
def hdV (h : Hd) : Value := .agg #[.int .i64 h.cls, .bool h.made, .int .i64 h.tag, .int .i64 h.len, .int .i64 h.size]
def HdrEnd (r : Except (Int × Int) Hd) (B : Nat) (w : World) (en : Ending) (w' : World) : Prop :=
  (match r with
    | .error (c, q) => en = faulty c q
    | .ok h => en = .returned (hdV h)) ∧ Below B w w'
theorem HdrEnd.err {r : Except (Int × Int) Hd} {B : Nat} {w w' : World} {c q : Int} (hr : r = .error (c, q)) (hb : Below B w w') : HdrEnd r B w (faulty c q) w' := by
  subst hr; exact ⟨rfl, hb⟩
theorem HdrEnd.ok {r : Except (Int × Int) Hd} {B : Nat} {w w' : World} {h : Hd} (hr : r = .ok h) (hb : Below B w w') : HdrEnd r B w (.returned (hdV h)) w' := by
  subst hr; exact ⟨rfl, hb⟩
theorem header_deep (g : Nat) (s : ByteArray) (p e d : Int) (w : World) (hd : 64 < d) :
    Calls Tryd.prog 63 #[.pointer (some ⟨g, 0, none⟩), .int .i64 p, .int .i64 e, .int .i64 d] w fun en w' => HdrEnd (hdr s p e d) w.heap.size w en w' := by
  have HR : Hid (hdr s p e d = .error (25, p)) := by unfold Hid hdr; rw [if_pos hd]
  go_enter Tryd.func63, Tryd.ntmps63
  go_wp2
  exact ⟨rfl, HdrEnd.err HR.out ((Below.refl _ _).alloc (Nat.le_refl _) _)⟩
theorem header_out (g : Nat) (s : ByteArray) (p e d : Int) (w : World) (hd : d ≤ 64) (hp : e ≤ p) :
    Calls Tryd.prog 63 #[.pointer (some ⟨g, 0, none⟩), .int .i64 p, .int .i64 e, .int .i64 d] w fun en w' => HdrEnd (hdr s p e d) w.heap.size w en w' := by
  have HR : Hid (hdr s p e d = .error (miss d, e)) := by unfold Hid hdr; rw [if_neg q2_, if_pos hp]
  go_enter Tryd.func63, Tryd.ntmps63
  go_wp2_with (go_at_call 64; refine (missing_any d _).mono ?_; rintro e w' ⟨rfl, rfl⟩)
  exact ⟨rfl, HdrEnd.err HR.out (((Below.refl _ _).alloc (Nat.le_refl _) _).alloc q21_ _)⟩
section
variable {s : ByteArray} {p e d : Int} (hd : d ≤ 64) (hp : p < e) {h : p.toNat < s.size} {k : (p + 1).toNat < s.size}
include hd hp
theorem hdr_tag (t : (bits .and .u8 ((s[p.toNat]'h).toNat : Int) 31 == 31) = true) : hdr s p e d = .error (21, p) := by
  rw [byt_at s p h, and31 _ (byt_range s p).1 (byt_range s p).2, beq_iff_eq] at t
  unfold hdr
  rw [if_neg q2_, if_neg q2_, if_pos t]
theorem hdr_tail (t : (bits .and .u8 ((s[p.toNat]'h).toNat : Int) 31 == 31) = false) : hdr s p e d =
    if e ≤ p + 1 then .error (miss d, e)
    else if byt s (p + 1) < 128 then .ok ⟨byt s p / 64, byt s p / 32 % 2 == 1, byt s p % 32, byt s (p + 1), 2⟩
    else if byt s (p + 1) = 128 then .error (22, p + 1)
    else if 132 < byt s (p + 1) then .error (23, p + 1)
    else if e < p + (byt s (p + 1) - 126) then .error (miss d, e)
    else .ok ⟨byt s p / 64, byt s p / 32 % 2 == 1, byt s p % 32, numAt s (p + 2) (byt s (p + 1) - 128).toNat 0, byt s (p + 1) - 126⟩ := by
  rw [byt_at s p h, and31 _ (byt_range s p).1 (byt_range s p).2, beq_eq_false_iff_ne] at t
  unfold hdr
  rw [if_neg q2_, if_neg q2_, if_neg t]
theorem hdr_short (t : (bits .and .u8 ((s[p.toNat]'h).toNat : Int) 31 == 31) = false) (q : e ≤ p + 1) : hdr s p e d = .error (miss d, e) := by
  rw [hdr_tail hd hp t, if_pos q]
theorem hdr_one (t : (bits .and .u8 ((s[p.toNat]'h).toNat : Int) 31 == 31) = false) (q : p + 1 < e) (l : ((s[(p + 1).toNat]'k).toNat : Int) < 128) :
    hdr s p e d = .ok ⟨byt s p / 64, byt s p / 32 % 2 == 1, byt s p % 32, byt s (p + 1), 2⟩ := by
  rw [byt_at s (p + 1) k] at l
  rw [hdr_tail hd hp t, if_neg q2_, if_pos l]
theorem hdr_indef (t : (bits .and .u8 ((s[p.toNat]'h).toNat : Int) 31 == 31) = false) (q : p + 1 < e) (l : (((s[(p + 1).toNat]'k).toNat : Int) == 128) = true) : hdr s p e d = .error (22, p + 1) := by
  rw [byt_at s (p + 1) k, beq_iff_eq] at l
  rw [hdr_tail hd hp t, if_neg q2_, if_neg q2_, if_pos l]
theorem hdr_far (t : (bits .and .u8 ((s[p.toNat]'h).toNat : Int) 31 == 31) = false) (q : p + 1 < e) (l : 132 < ((s[(p + 1).toNat]'k).toNat : Int)) : hdr s p e d = .error (23, p + 1) := by
  rw [byt_at s (p + 1) k] at l
  rw [hdr_tail hd hp t, if_neg q2_, if_neg q2_, if_neg q2_, if_pos l]
theorem hdr_lack (t : (bits .and .u8 ((s[p.toNat]'h).toNat : Int) 31 == 31) = false) (q : p + 1 < e) (l0 : (128 : Int) ≤ ((s[(p + 1).toNat]'k).toNat : Int)) (l1 : (((s[(p + 1).toNat]'k).toNat : Int) == 128) = false)
    (l2 : ((s[(p + 1).toNat]'k).toNat : Int) ≤ 132) (r : e < p + (2 + (((s[(p + 1).toNat]'k).toNat : Int) - 128))) : hdr s p e d = .error (miss d, e) := by
  rw [byt_at s (p + 1) k] at l0 l1 l2 r
  rw [beq_eq_false_iff_ne] at l1
  rw [hdr_tail hd hp t, if_neg q2_, if_neg q2_, if_neg q2_, if_neg q2_, if_pos q2_]
theorem hdr_many (t : (bits .and .u8 ((s[p.toNat]'h).toNat : Int) 31 == 31) = false) (q : p + 1 < e) (l0 : (128 : Int) ≤ ((s[(p + 1).toNat]'k).toNat : Int)) (l1 : (((s[(p + 1).toNat]'k).toNat : Int) == 128) = false)
    (l2 : ((s[(p + 1).toNat]'k).toNat : Int) ≤ 132) (r : p + (2 + (((s[(p + 1).toNat]'k).toNat : Int) - 128)) ≤ e) :
    hdr s p e d = .ok ⟨byt s p / 64, byt s p / 32 % 2 == 1, byt s p % 32, numAt s (p + 2) (byt s (p + 1) - 128).toNat 0, byt s (p + 1) - 126⟩ := by
  rw [byt_at s (p + 1) k] at l0 l1 l2 r
  rw [beq_eq_false_iff_ne] at l1
  rw [hdr_tail hd hp t, if_neg q2_, if_neg q2_, if_neg q2_, if_neg q2_, if_neg q2_]
end
theorem conv_bytes (x : ByteArray) (W : World) : (convert 9 39 (.string x)).run Tryd.prog W = .ok (.slice (some ⟨W.heap.size, 0, none⟩) x.size (grownCap W x.size 0 5)) (Lib.bytesWorld W 5 x) :=
  Lib.run_convert_string_bytes W 9 39 5 x Tryd.underlying9 Tryd.underlying39 Tryd.underlying5
set_option maxRecDepth 100000 in
set_option maxHeartbeats 1000000 in
theorem header_many (g : Nat) (s : ByteArray) (p e d : Int) (w : World) (hd : d ≤ 64) (h0 : 0 ≤ p) (hp : p + 1 < e) (he : e ≤ (s.size : Int)) (hs : s.size ≤ 140737488351232)
    (hc : w.cell? ⟨g, 0, none⟩ = some (.string s)) (hg : g < w.heap.size) (c l : UInt8) (hx : p.toNat < s.size) (hy : (p + 1).toNat < s.size) (hcc : s[p.toNat]'hx = c) (hll : s[(p + 1).toNat]'hy = l)
    (ht : (bits .and .u8 (c.toNat : Int) 31 == 31) = false) (hl0 : (128 : Int) < l.toNat) (hl1 : (l.toNat : Int) ≤ 132) (hq : p + (2 + ((l.toNat : Int) - 128)) ≤ e) :
    Calls Tryd.prog 63 #[.pointer (some ⟨g, 0, none⟩), .int .i64 p, .int .i64 e, .int .i64 d] w fun en w' => HdrEnd (hdr s p e d) w.heap.size w en w' := by
  obtain ⟨h, hh⟩ : ∃ h : Hd, h = ⟨byt s p / 64, byt s p / 32 % 2 == 1, byt s p % 32, numAt s (p + 2) (byt s (p + 1) - 128).toNat 0, byt s (p + 1) - 126⟩ := ⟨_, rfl⟩
  have HR : Hid (hdr s p e d = .ok h) := by
    subst hcc hll
    rw [hh]
    exact hdr_many hd q2_ ht hp q2_ q22_ hl1 hq
  have HH := Lib.hid hh
  clear hh
  have hg1 : g < w.heap.size + 1 := by omega
  have hg2 : g < w.heap.size + 1 + 1 := by omega
  have hg3 : g < w.heap.size + 1 + 1 + 1 := by omega
  go_enter Tryd.func63, Tryd.ntmps63
  go_wp2_with (go_at_call 64; refine (missing_any d _).mono ?_; rintro e w' ⟨rfl, rfl⟩)
  refine gen3 (G := fun W => Code.wp _ _ _ _ W) fun W hB hz k1 k2 k3 => ?_
  have hcv := conv_bytes
  have q1 : IntKind.i64.wrap (p + 2) = p + 2 := IntWalk.i64_in _ q2_
  have q2 : IntKind.i64.wrap (p + (2 + ((l.toNat : Int) - 128))) = p + (2 + ((l.toNat : Int) - 128)) := IntWalk.i64_in _ q2_
  have q3 : 0 ≤ p + 2 := by omega
  have q4 : p + 2 ≤ p + (2 + ((l.toNat : Int) - 128)) := by omega
  have q5 : p + (2 + ((l.toNat : Int) - 128)) ≤ (s.size : Int) := by omega
  have q6 : 0 ≤ p + (2 + ((l.toNat : Int) - 128)) := by omega
  have f0 : W.cell? ⟨g, 0, none⟩ = some (.string s) := (hB.cell (p := ⟨g, 0, none⟩) hg).trans hc
  have f1 := (k3.cell 4).trans rfl
  have z1 : g < W.heap.size := by omega
  have z2 : w.heap.size + 1 + 1 < W.heap.size := by omega
  go_region_held (fun V => V.cell? ⟨g, 0, none⟩ = some (.string s) ∧ V.cell? ⟨w.heap.size + 1 + 1, 4, none⟩ = some (.int .i64 (2 + ((l.toNat : Int) - 128)))) (first | exact ⟨f0, f1⟩ | exact ⟨(Lib.bytesWorld_old W.drew _ _ ⟨g, 0, none⟩ z1).trans f0, (Lib.bytesWorld_old W.drew _ _ ⟨w.heap.size + 1 + 1, 4, none⟩ z2).trans f1⟩) (fail)
  rename_i hHeld
  clear hHeld hcv q1 q2 f0 f1 k2
  have xs : (s.extract (p + 2).toNat (p + (2 + ((l.toNat : Int) - 128))).toNat).size = l.toNat - 128 := by simp; omega
  have xb : ∀ j, j < l.toNat - 128 → (((s.extract (p + 2).toNat (p + (2 + ((l.toNat : Int) - 128))).toNat).data.toList.getD j 0).toNat : Int) = byt s (p + 2 + j) := by
    intro j hj
    rw [getD_byt, byt_extract s _ _ j q2_ q2_]
    congr 1
    omega
  generalize s.extract (p + 2).toNat (p + (2 + ((l.toNat : Int) - 128))).toNat = x at xs xb ⊢
  have m1 := k1.drew.bytes 5 x
  have m3 := k3.drew.bytes 5 x
  have hBV := below_bytes hB.drew q22_ 5 x
  have hcell : ∀ j, j < l.toNat - 128 → (Lib.bytesWorld W.drew 5 x).cell? ⟨W.heap.size, j, none⟩ = some (.int .u8 (byt s (p + 2 + j))) := by
    intro j hj
    rw [← xb j hj]
    exact Lib.bytesWorld_cell W.drew 5 x j q2_
  generalize Lib.bytesWorld W.drew 5 x = V at m1 m3 hBV hcell ⊢
  clear k1 k3 xb
  obtain ⟨n, hn⟩ : ∃ n : Nat, n = l.toNat - 128 := ⟨_, rfl⟩
  rw [← hn] at hcell xs
  have hn4 : n ≤ 4 := by omega
  have hnl : (n : Int) + 128 = (l.toNat : Int) := by omega
  have HN : Hid ((n : Int) + 128 = (l.toNat : Int)) := hnl
  go_wp2
  have hnn : (p + (2 + ((l.toNat : Int) - 128))).toNat - (p + 2).toNat = n := by omega
  rw [hnn]
  clear hnn hn hnl
  rw [hz] at hcell
  go_loopw [113, 14] (fun i _ wr => ∃ k : Nat, k ≤ n ∧ i = .int .i64 k ∧ At wr w.heap.size 84 #[.int .i64 0, .bool false, .int .i64 0, .int .i64 0, .int .i64 0] ∧
      At wr (w.heap.size + 1 + 1) 84 #[.int .i64 (wrap64 ((c.toNat : Int) / 64)), .bool (bits .and .u8 (c.toNat : Int) 32 != 0), .int .i64 (wrap64 (bits .and .u8 (c.toNat : Int) 31)), .int .i64 (numAt s (p + 2) k 0), .int .i64 (2 + ((l.toNat : Int) - 128))] ∧
      (∀ j, j < n → wr.cell? ⟨w.heap.size + 1 + 1 + 1, j, none⟩ = some (.int .u8 (byt s (p + 2 + j)))) ∧ Below w.heap.size w wr)
    (fun i _ _ => n - (intOf i).toNat)
  case atStart => exact ⟨0, Nat.zero_le _, rfl, m1, m3, hcell, hBV⟩
  case round =>
    obtain ⟨k, hk, rfl, r1, r3, hcs, rB⟩ := hrel
    have L0 := numAt_lt s (p + 2) k q2_
    obtain ⟨L, hL⟩ : ∃ L, L = numAt s (p + 2) k 0 := ⟨_, rfl⟩
    rw [← hL] at L0 r3
    have HL : Hid (L = numAt s (p + 2) k 0) := hL
    clear hL
    have hb := byt_range s (p + 2 + k)
    have c3 := (r3.cell 3).trans rfl
    have f3 := r3.free 3
    have cR : ∀ i, wr.cell? ⟨w.heap.size + 1 + 1, i, none⟩ = _ := r3.cell
    have hck : k < n → wr.cell? ⟨w.heap.size + 1 + 1 + 1, k, none⟩ = some (.int .u8 (byt s (p + 2 + k))) := fun h => hcs k h
    by_cases hkn : k < n
    · go_wp2
      have hr3 := r3.set 3 (.int .i64 (bits .or .i64 (L * 256) (byt s (p + 2 + k))))
      have hnext : numAt s (p + 2) (k + 1) 0 = bits .or .i64 (L * 256) (byt s (p + 2 + k)) := by
        rw [numAt_snoc, or_byte L _ L0.1 q2_ hb.1 hb.2, HL.out]
      go_roundw
      case rel => exact ⟨k + 1, q2_, by go_num, r1.far q22_ _, by rw [hnext]; exact hr3, fun j hj => (World.cell?_setCell_other _ _ _ _ q21_).trans (hcs j hj), rB.setCell q22_ _⟩
      case measure => simp [intOf]; omega
    · obtain rfl : k = n := by omega
      have a0 := (r1.cell 0).trans rfl
      have a1 := (r1.cell 1).trans rfl
      have a2 := (r1.cell 2).trans rfl
      have a3 := (r1.cell 3).trans rfl
      have a4 := (r1.cell 4).trans rfl
      have e0 := r1.free 0
      have e1 := r1.free 1
      have e2 := r1.free 2
      have e3 := r1.free 3
      have e4 := r1.free 4
      go_wp2
      have hv : Value.agg #[.int .i64 (wrap64 ((c.toNat : Int) / 64)), .bool (bits .and .u8 (c.toNat : Int) 32 != 0), .int .i64 (wrap64 (bits .and .u8 (c.toNat : Int) 31)), .int .i64 L, .int .i64 (2 + ((l.toNat : Int) - 128))] = hdV h := by
        have e0 := byt_at s p hx
        have e1 := byt_at s (p + 1) hy
        rw [hcc] at e0
        rw [hll] at e1
        have b0 := byt_range s p
        have ek : (byt s (p + 1) - 128).toNat = k := by have := HN.out; omega
        rw [HH.out, HL.out, e0, e1, and31 _ b0.1 b0.2, and32 _ b0.1 b0.2, ek]
        have w1 : wrap64 (byt s p / 64) = byt s p / 64 := by unfold wrap64; omega
        have w2 : wrap64 (byt s p % 32) = byt s p % 32 := by unfold wrap64; omega
        have w3 : 2 + (byt s (p + 1) - 128) = byt s (p + 1) - 126 := by omega
        rw [w1, w2, w3]
        rfl
      refine bodyPost_ret (v := hdV h) ?_ rfl (HdrEnd.ok HR.out ?_)
      · rw [← hv]
        simp [results, Tryd.results63, go_sem, a0, a1, a2, a3, a4]
      · exact ((((rB.setCell q21_ _).setCell q21_ _).setCell q21_ _).setCell q21_ _).setCell q21_ _
set_option maxRecDepth 100000 in
theorem header_tag (g : Nat) (s : ByteArray) (p e d : Int) (w : World) (hd : d ≤ 64) (h0 : 0 ≤ p) (hp : p < e) (he : e ≤ (s.size : Int)) (hs : s.size ≤ 140737488351232)
    (hc : w.cell? ⟨g, 0, none⟩ = some (.string s)) (hg : g < w.heap.size) (c : UInt8) (hx : p.toNat < s.size) (hcc : s[p.toNat]'hx = c) (ht : (bits .and .u8 (c.toNat : Int) 31 == 31) = true) :
    Calls Tryd.prog 63 #[.pointer (some ⟨g, 0, none⟩), .int .i64 p, .int .i64 e, .int .i64 d] w fun en w' => HdrEnd (hdr s p e d) w.heap.size w en w' := by
  have HR : Hid (hdr s p e d = .error (21, p)) := by
    subst hcc
    exact hdr_tag hd hp ht
  have hg1 : g < w.heap.size + 1 := by omega
  have hg2 : g < w.heap.size + 1 + 1 := by omega
  have hg3 : g < w.heap.size + 1 + 1 + 1 := by omega
  go_enter Tryd.func63, Tryd.ntmps63
  go_wp2_with (go_at_call 64; refine (missing_any d _).mono ?_; rintro e w' ⟨rfl, rfl⟩)
  exact ⟨rfl, HdrEnd.err HR.out (((Below.refl _ _).alloc (Nat.le_refl _) _).alloc q21_ _)⟩
set_option maxRecDepth 100000 in
theorem header_short (g : Nat) (s : ByteArray) (p e d : Int) (w : World) (hd : d ≤ 64) (h0 : 0 ≤ p) (hp : p < e) (he : e ≤ (s.size : Int)) (hs : s.size ≤ 140737488351232)
    (hc : w.cell? ⟨g, 0, none⟩ = some (.string s)) (hg : g < w.heap.size) (c : UInt8) (hx : p.toNat < s.size) (hcc : s[p.toNat]'hx = c) (ht : (bits .and .u8 (c.toNat : Int) 31 == 31) = false) (h1 : e ≤ p + 1) :
    Calls Tryd.prog 63 #[.pointer (some ⟨g, 0, none⟩), .int .i64 p, .int .i64 e, .int .i64 d] w fun en w' => HdrEnd (hdr s p e d) w.heap.size w en w' := by
  have HR : Hid (hdr s p e d = .error (miss d, e)) := by
    subst hcc
    exact hdr_short hd hp ht h1
  have hg1 : g < w.heap.size + 1 := by omega
  have hg2 : g < w.heap.size + 1 + 1 := by omega
  have hg3 : g < w.heap.size + 1 + 1 + 1 := by omega
  go_enter Tryd.func63, Tryd.ntmps63
  go_wp2_with (go_at_call 64; refine (missing_any d _).mono ?_; rintro e w' ⟨rfl, rfl⟩)
  exact ⟨rfl, HdrEnd.err HR.out (((Below.refl _ _).alloc (Nat.le_refl _) _).alloc q21_ _)⟩
set_option maxRecDepth 100000 in
theorem header_indef (g : Nat) (s : ByteArray) (p e d : Int) (w : World) (hd : d ≤ 64) (h0 : 0 ≤ p) (hp : p < e) (he : e ≤ (s.size : Int)) (hs : s.size ≤ 140737488351232)
    (hc : w.cell? ⟨g, 0, none⟩ = some (.string s)) (hg : g < w.heap.size) (c : UInt8) (hx : p.toNat < s.size) (hcc : s[p.toNat]'hx = c) (ht : (bits .and .u8 (c.toNat : Int) 31 == 31) = false) (h1 : p + 1 < e) (l : UInt8) (hy : (p + 1).toNat < s.size) (hll : s[(p + 1).toNat]'hy = l) (hl : (l.toNat : Int) = 128) :
    Calls Tryd.prog 63 #[.pointer (some ⟨g, 0, none⟩), .int .i64 p, .int .i64 e, .int .i64 d] w fun en w' => HdrEnd (hdr s p e d) w.heap.size w en w' := by
  have HR : Hid (hdr s p e d = .error (22, p + 1)) := by
    subst hcc hll
    exact hdr_indef (k := hy) hd hp ht h1 (by simp [hl])
  have hg1 : g < w.heap.size + 1 := by omega
  have hg2 : g < w.heap.size + 1 + 1 := by omega
  have hg3 : g < w.heap.size + 1 + 1 + 1 := by omega
  go_enter Tryd.func63, Tryd.ntmps63
  go_wp2_with (go_at_call 64; refine (missing_any d _).mono ?_; rintro e w' ⟨rfl, rfl⟩)
  exact ⟨rfl, HdrEnd.err HR.out ((((Below.refl _ _).alloc (Nat.le_refl _) _).alloc q21_ _).alloc q22_ _)⟩
set_option maxRecDepth 100000 in
theorem header_far (g : Nat) (s : ByteArray) (p e d : Int) (w : World) (hd : d ≤ 64) (h0 : 0 ≤ p) (hp : p < e) (he : e ≤ (s.size : Int)) (hs : s.size ≤ 140737488351232)
    (hc : w.cell? ⟨g, 0, none⟩ = some (.string s)) (hg : g < w.heap.size) (c : UInt8) (hx : p.toNat < s.size) (hcc : s[p.toNat]'hx = c) (ht : (bits .and .u8 (c.toNat : Int) 31 == 31) = false) (h1 : p + 1 < e) (l : UInt8) (hy : (p + 1).toNat < s.size) (hll : s[(p + 1).toNat]'hy = l) (hl : 132 < (l.toNat : Int)) :
    Calls Tryd.prog 63 #[.pointer (some ⟨g, 0, none⟩), .int .i64 p, .int .i64 e, .int .i64 d] w fun en w' => HdrEnd (hdr s p e d) w.heap.size w en w' := by
  have HR : Hid (hdr s p e d = .error (23, p + 1)) := by
    subst hcc hll
    exact hdr_far hd hp ht h1 hl
  have hg1 : g < w.heap.size + 1 := by omega
  have hg2 : g < w.heap.size + 1 + 1 := by omega
  have hg3 : g < w.heap.size + 1 + 1 + 1 := by omega
  go_enter Tryd.func63, Tryd.ntmps63
  go_wp2_with (go_at_call 64; refine (missing_any d _).mono ?_; rintro e w' ⟨rfl, rfl⟩)
  exact ⟨rfl, HdrEnd.err HR.out ((((Below.refl _ _).alloc (Nat.le_refl _) _).alloc q21_ _).alloc q22_ _)⟩
set_option maxRecDepth 100000 in
theorem header_lack (g : Nat) (s : ByteArray) (p e d : Int) (w : World) (hd : d ≤ 64) (h0 : 0 ≤ p) (hp : p < e) (he : e ≤ (s.size : Int)) (hs : s.size ≤ 140737488351232)
    (hc : w.cell? ⟨g, 0, none⟩ = some (.string s)) (hg : g < w.heap.size) (c : UInt8) (hx : p.toNat < s.size) (hcc : s[p.toNat]'hx = c) (ht : (bits .and .u8 (c.toNat : Int) 31 == 31) = false) (h1 : p + 1 < e) (l : UInt8) (hy : (p + 1).toNat < s.size) (hll : s[(p + 1).toNat]'hy = l) (hl0 : (128 : Int) < l.toNat) (hl1 : (l.toNat : Int) ≤ 132) (hq : e < p + (2 + ((l.toNat : Int) - 128))) :
    Calls Tryd.prog 63 #[.pointer (some ⟨g, 0, none⟩), .int .i64 p, .int .i64 e, .int .i64 d] w fun en w' => HdrEnd (hdr s p e d) w.heap.size w en w' := by
  have HR : Hid (hdr s p e d = .error (miss d, e)) := by
    subst hcc hll
    exact hdr_lack hd hp ht h1 q2_ q22_ hl1 hq
  have hg1 : g < w.heap.size + 1 := by omega
  have hg2 : g < w.heap.size + 1 + 1 := by omega
  have hg3 : g < w.heap.size + 1 + 1 + 1 := by omega
  go_enter Tryd.func63, Tryd.ntmps63
  go_wp2_with (go_at_call 64; refine (missing_any d _).mono ?_; rintro e w' ⟨rfl, rfl⟩)
  exact ⟨rfl, HdrEnd.err HR.out ((((Below.refl _ _).alloc (Nat.le_refl _) _).alloc q21_ _).alloc q22_ _)⟩
set_option maxRecDepth 100000 in
theorem header_one (g : Nat) (s : ByteArray) (p e d : Int) (w : World) (hd : d ≤ 64) (h0 : 0 ≤ p) (hp : p < e) (he : e ≤ (s.size : Int)) (hs : s.size ≤ 140737488351232)
    (hc : w.cell? ⟨g, 0, none⟩ = some (.string s)) (hg : g < w.heap.size) (c : UInt8) (hx : p.toNat < s.size) (hcc : s[p.toNat]'hx = c) (ht : (bits .and .u8 (c.toNat : Int) 31 == 31) = false) (h1 : p + 1 < e) (l : UInt8) (hy : (p + 1).toNat < s.size) (hll : s[(p + 1).toNat]'hy = l) (hl : (l.toNat : Int) < 128) :
    Calls Tryd.prog 63 #[.pointer (some ⟨g, 0, none⟩), .int .i64 p, .int .i64 e, .int .i64 d] w fun en w' => HdrEnd (hdr s p e d) w.heap.size w en w' := by
  obtain ⟨h, hh⟩ : ∃ h : Hd, h = ⟨byt s p / 64, byt s p / 32 % 2 == 1, byt s p % 32, byt s (p + 1), 2⟩ := ⟨_, rfl⟩
  have HR : Hid (hdr s p e d = .ok h) := by
    subst hcc hll
    exact by rw [hh]; exact hdr_one hd hp ht h1 hl
  have HH := Lib.hid hh
  clear hh
  have hg1 : g < w.heap.size + 1 := by omega
  have hg2 : g < w.heap.size + 1 + 1 := by omega
  have hg3 : g < w.heap.size + 1 + 1 + 1 := by omega
  go_enter Tryd.func63, Tryd.ntmps63
  go_wp2_with (go_at_call 64; refine (missing_any d _).mono ?_; rintro e w' ⟨rfl, rfl⟩)
  have hv : Value.agg #[.int .i64 (wrap64 ((c.toNat : Int) / 64)), .bool (bits .and .u8 (c.toNat : Int) 32 != 0), .int .i64 (wrap64 (bits .and .u8 (c.toNat : Int) 31)), .int .i64 (l.toNat : Int), .int .i64 2] = hdV h := by
    have e0 := byt_at s p hx
    have e1 := byt_at s (p + 1) hy
    rw [hcc] at e0
    rw [hll] at e1
    have b0 := byt_range s p
    rw [HH.out, e0, e1, and31 _ b0.1 b0.2, and32 _ b0.1 b0.2]
    have w1 : wrap64 (byt s p / 64) = byt s p / 64 := by unfold wrap64; omega
    have w2 : wrap64 (byt s p % 32) = byt s p % 32 := by unfold wrap64; omega
    rw [w1, w2]
    rfl
  refine bodyPost_ret (v := hdV h) ?_ rfl (HdrEnd.ok HR.out ?_)
  · rw [← hv]
    simp [results, Tryd.results63, go_sem]
  · exact (((Below.refl _ _).alloc (Nat.le_refl _) _).alloc q21_ _).alloc q22_ _
theorem header_any (g : Nat) (s : ByteArray) (p e d : Int) (w : World) (h0 : 0 ≤ p) (he : e ≤ (s.size : Int)) (hs : s.size ≤ 140737488351232)
    (hc : w.cell? ⟨g, 0, none⟩ = some (.string s)) (hg : g < w.heap.size) :
    Calls Tryd.prog 63 #[.pointer (some ⟨g, 0, none⟩), .int .i64 p, .int .i64 e, .int .i64 d] w fun en w' => HdrEnd (hdr s p e d) w.heap.size w en w' := by
  by_cases hd : 64 < d
  · exact header_deep g s p e d w hd
  by_cases hp : e ≤ p
  · exact header_out g s p e d w q2_ hp
  have hx : p.toNat < s.size := by omega
  obtain ⟨c, hcc⟩ : ∃ c, s[p.toNat]'hx = c := ⟨_, rfl⟩
  cases ht : (bits .and .u8 (c.toNat : Int) 31 == 31) with
  | true => exact header_tag g s p e d w q2_ h0 q2_ he hs hc hg c hx hcc ht
  | false =>
    by_cases h1 : e ≤ p + 1
    · exact header_short g s p e d w q2_ h0 q2_ he hs hc hg c hx hcc ht h1
    have hy : (p + 1).toNat < s.size := by omega
    obtain ⟨l, hll⟩ : ∃ l, s[(p + 1).toNat]'hy = l := ⟨_, rfl⟩
    rcases (show (l.toNat : Int) < 128 ∨ (l.toNat : Int) = 128 ∨ 132 < (l.toNat : Int) ∨ ((128 : Int) < l.toNat ∧ (l.toNat : Int) ≤ 132) by omega) with hl | hl | hl | ⟨hl0, hl1⟩
    · exact header_one g s p e d w q2_ h0 q2_ he hs hc hg c hx hcc ht q2_ l hy hll hl
    · exact header_indef g s p e d w q2_ h0 q2_ he hs hc hg c hx hcc ht q2_ l hy hll hl
    · exact header_far g s p e d w q2_ h0 q2_ he hs hc hg c hx hcc ht q2_ l hy hll hl
    · by_cases hq : e < p + (2 + ((l.toNat : Int) - 128))
      · exact header_lack g s p e d w q2_ h0 q2_ he hs hc hg c hx hcc ht q2_ l hy hll hl0 hl1 hq
      · exact header_many g s p e d w q2_ h0 q2_ he hs hc hg c l hx hy hcc hll ht hl0 hl1 q2_
end Go.Proofs.YtogjljpncdmlkaaDoor.W
end
section
namespace Go.Proofs.YtogjljpncdmlkaaDoor.W
open Go.RowKit
set_option linter.unusedVariables false
set_option linter.unusedSimpArgs false
section
variable (g : Nat) (s : ByteArray) (p e d : Int) (w : World) (h0 : 0 ≤ p) (he : e ≤ (s.size : Int)) (hs : s.size ≤ 140737488351232) (hc : w.cell? ⟨g, 0, none⟩ = some (.string s)) (hg : g < w.heap.size)
include h0 he hs hc hg
theorem header_err {c q : Int} (hr : hdr s p e d = .error (c, q)) :
    Calls Tryd.prog 63 #[.pointer (some ⟨g, 0, none⟩), .int .i64 p, .int .i64 e, .int .i64 d] w fun en w' => en = .panicked [{ v := .iface 77 (.agg #[.int .i64 c, .int .i64 q]), recovered := false }] ∧ Below w.heap.size w w' :=
  (header_any g s p e d w h0 he hs hc hg).mono fun en w' h => by unfold HdrEnd at h; rw [hr] at h; exact h
theorem header_ok {h : Hd} (hr : hdr s p e d = .ok h) :
    Calls Tryd.prog 63 #[.pointer (some ⟨g, 0, none⟩), .int .i64 p, .int .i64 e, .int .i64 d] w fun en w' =>
      en = .returned (.agg #[.int .i64 h.cls, .bool h.made, .int .i64 h.tag, .int .i64 h.len, .int .i64 h.size]) ∧ Below w.heap.size w w' :=
  (header_any g s p e d w h0 he hs hc hg).mono fun en w' h => by unfold HdrEnd at h; rw [hr] at h; exact h
end
theorem bounded_err (g : Nat) (s : ByteArray) (p e d : Int) (w : World) (h0 : 0 ≤ p) (he : e ≤ (s.size : Int)) (hs : s.size ≤ 140737488351232) (hc : w.cell? ⟨g, 0, none⟩ = some (.string s)) (hg : g < w.heap.size)
    {c q : Int} (hr : hdr s p e d = .error (c, q)) :
    Calls Tryd.prog 62 #[.pointer (some ⟨g, 0, none⟩), .int .i64 p, .int .i64 e, .int .i64 d] w fun en w' => HdrEnd (bnd s p e d) w.heap.size w en w' := by
  have HR : Hid (bnd s p e d = .error (c, q)) := by unfold Hid bnd; rw [hr]
  have H := Lib.hid hr
  clear hr
  go_enter Tryd.func62, Tryd.ntmps62
  go_wp2_with (go_at_call 63; refine (header_err g s p e d _ h0 he hs ?_ ?_ H.out).mono ?_; (exact (World.cell?_alloc_lt w _ ⟨g, 0, none⟩ hg).trans hc); (simp; omega); rintro en w1 ⟨rfl, hb⟩)
  exact ⟨rfl, HdrEnd.err HR.out (((Below.refl _ _).alloc (Nat.le_refl _) _).trans (hb.mono q21_))⟩
set_option maxRecDepth 100000 in
theorem bounded_ok (g : Nat) (s : ByteArray) (p e d : Int) (w : World) (h0 : 0 ≤ p) (he : e ≤ (s.size : Int)) (hs : s.size ≤ 140737488351232) (hc : w.cell? ⟨g, 0, none⟩ = some (.string s)) (hg : g < w.heap.size)
    {h : Hd} (hr : hdr s p e d = .ok h) :
    Calls Tryd.prog 62 #[.pointer (some ⟨g, 0, none⟩), .int .i64 p, .int .i64 e, .int .i64 d] w fun en w' => HdrEnd (bnd s p e d) w.heap.size w en w' := by
  have HD : Hid (bnd s p e d = if e - p - h.size < h.len then .error (miss d, e) else .ok h) := by unfold Hid bnd; rw [hr]
  obtain ⟨k1, k2, k3, k4, k5, k6, k7⟩ := hdr_ok hr
  clear k7
  have H := Lib.hid hr
  clear hr
  go_enter Tryd.func62, Tryd.ntmps62
  go_wp2_with fail
  refine (header_ok g s p e d _ h0 he hs ?_ ?_ H.out).mono ?_
  · exact (World.cell?_alloc_lt w _ ⟨g, 0, none⟩ hg).trans hc
  · simp; omega
  rintro en w1 ⟨rfl, hb⟩
  have z1 : w.heap.size < w1.heap.size := by have := hb.size; simp at this; omega
  have m0 := (At.new w 84 #[.int .i64 0, .bool false, .int .i64 0, .int .i64 0, .int .i64 0]).below hb q21_
  have B1 := ((Below.refl _ _).alloc (Nat.le_refl _) _).trans (hb.mono q21_)
  clear hb
  have a0 := (m0.cell 0).trans rfl
  have a1 := (m0.cell 1).trans rfl
  have a2 := (m0.cell 2).trans rfl
  have a3 := (m0.cell 3).trans rfl
  have a4 := (m0.cell 4).trans rfl
  have e0 := m0.free 0
  have e1 := m0.free 1
  have e2 := m0.free 2
  have e3 := m0.free 3
  have e4 := m0.free 4
  go_wp2_with (go_at_call 64; refine (missing_any d _).mono ?_; rintro e w' ⟨rfl, rfl⟩)
  · have hr2 : bnd s p e d = .error (miss d, e) := by rw [HD.out, if_pos q10_]
    exact ⟨rfl, HdrEnd.err hr2 (B1.alloc q2_ _)⟩
  · have hr2 : bnd s p e d = .ok h := by rw [HD.out, if_neg q2_]
    refine bodyPost_ret (v := hdV h) ?_ rfl (HdrEnd.ok hr2 ?_)
    · simp [results, Tryd.results62, go_sem, a0, a1, a2, a3, a4, hdV, z1]
    · exact (((((B1.setCell q21_ _).setCell q21_ _).setCell q21_ _).setCell q21_ _).setCell q21_ _).alloc q22_ _
theorem bounded_any (g : Nat) (s : ByteArray) (p e d : Int) (w : World) (h0 : 0 ≤ p) (he : e ≤ (s.size : Int)) (hs : s.size ≤ 140737488351232) (hc : w.cell? ⟨g, 0, none⟩ = some (.string s)) (hg : g < w.heap.size) :
    Calls Tryd.prog 62 #[.pointer (some ⟨g, 0, none⟩), .int .i64 p, .int .i64 e, .int .i64 d] w fun en w' => HdrEnd (bnd s p e d) w.heap.size w en w' := by
  cases hr : hdr s p e d with
  | error x => obtain ⟨c, q⟩ := x; exact bounded_err g s p e d w h0 he hs hc hg hr
  | ok h => exact bounded_ok g s p e d w h0 he hs hc hg hr
section
variable (g : Nat) (s : ByteArray) (p e d : Int) (w : World) (h0 : 0 ≤ p) (he : e ≤ (s.size : Int)) (hs : s.size ≤ 140737488351232) (hc : w.cell? ⟨g, 0, none⟩ = some (.string s)) (hg : g < w.heap.size)
include h0 he hs hc hg
theorem bound_err {c q : Int} (hr : bnd s p e d = .error (c, q)) :
    Calls Tryd.prog 62 #[.pointer (some ⟨g, 0, none⟩), .int .i64 p, .int .i64 e, .int .i64 d] w fun en w' => en = .panicked [{ v := .iface 77 (.agg #[.int .i64 c, .int .i64 q]), recovered := false }] ∧ Below w.heap.size w w' :=
  (bounded_any g s p e d w h0 he hs hc hg).mono fun en w' h => by unfold HdrEnd at h; rw [hr] at h; exact h
theorem bound_ok {h : Hd} (hr : bnd s p e d = .ok h) :
    Calls Tryd.prog 62 #[.pointer (some ⟨g, 0, none⟩), .int .i64 p, .int .i64 e, .int .i64 d] w fun en w' =>
      en = .returned (.agg #[.int .i64 h.cls, .bool h.made, .int .i64 h.tag, .int .i64 h.len, .int .i64 h.size]) ∧ Below w.heap.size w w' :=
  (bounded_any g s p e d w h0 he hs hc hg).mono fun en w' h => by unfold HdrEnd at h; rw [hr] at h; exact h
end
end Go.Proofs.YtogjljpncdmlkaaDoor.W
end
section
namespace Go.Proofs.YtogjljpncdmlkaaDoor.W
open Go.RowKit
set_option linter.unusedVariables false
set_option linter.unusedSimpArgs false
theorem assert_fault (v : Value) (W : World) : (Instr.typeAssert (.iface 77 v) 20 77 true).run Tryd.prog W = .ok (.tuple #[v, .bool true]) W := by kernel_rfl
theorem fault_not_nil (v : Value) (W : World) : (binOp .eql 20 (.iface 77 v) .nilIface).run Tryd.prog W = .ok (.bool false) W := by kernel_rfl
theorem grown_set {w w' : World} {b : Nat} (h : w.grownBy w' (some b)) (i : Nat) (u : Value) : w.grownBy (w'.setCell ⟨b, i, none⟩ u) (some b) :=
  ⟨h.os, h.tape, h.output, by simpa [World.setCell] using h.size, fun k hk hne => (Below.heap_setCell w' ⟨b, i, none⟩ u k (fun e => hne (by rw [e]))).trans (h.block k hk hne)⟩
theorem grown_alloc {w w' : World} {r : Option Nat} (h : w.grownBy w' r) (o : Obj) : w.grownBy (w'.alloc o) r :=
  ⟨h.os, h.tape, h.output, Nat.le_trans h.size q21_, fun k hk hne => (Below.heap_alloc w' o k (Nat.lt_of_lt_of_le hk h.size)).trans (h.block k hk hne)⟩
theorem grown_refl (w : World) (r : Option Nat) : w.grownBy w r := ⟨rfl, rfl, rfl, Nat.le_refl _, fun _ _ _ => rfl⟩
theorem caughtD_panicking (b : Nat) (c q : Int) (w : World) (hA : At w b 77 #[.int .i64 0, .int .i64 0]) :
    CallsD Tryd.prog 53 #[.pointer (some ⟨b, 0, none⟩)] (.panicking [{ v := .iface 77 (.agg #[.int .i64 c, .int .i64 q]), recovered := false }]) w fun e u' w' =>
      e = .returned (.tuple #[]) ∧ u' = .panicking [{ v := .iface 77 (.agg #[.int .i64 c, .int .i64 q]), recovered := true }] ∧ At w' b 77 #[.int .i64 c, .int .i64 q] ∧ w.grownBy w' (some b) := by
  have hlt := hA.lt
  have a0 := (hA.cell 0).trans rfl
  have a1 := (hA.cell 1).trans rfl
  have e0 := hA.free 0
  have e1 := hA.free 1
  refine callsD_of_wpS Tryd.func53 rfl fun c₀ cs hu => ?_
  apply wpS_seq
  apply wpS_region
  simp [wpOpsS, go_sem, recoverD, hu, Tryd.ntmps53, Exit.thenS]
  refine wpS_of_wp ?_
  have hta := assert_fault
  have hnn := fault_not_nil
  have HA := Lib.hid hA
  clear hA
  rw [show #[Value.pointer (some ⟨b, 0, none⟩)] ++ (Array.replicate 10 undef).setIfInBounds 3 (Value.iface 77 (Value.agg #[Value.int IntKind.i64 c, Value.int IntKind.i64 q])) =
    #[Value.pointer (some ⟨b, 0, none⟩), undef, undef, undef, .iface 77 (.agg #[.int .i64 c, .int .i64 q]), undef, undef, undef, undef, undef, undef] from rfl]
  go_wp2
  exact ⟨rfl, _, rfl, .tuple #[], by simp [results, Tryd.results53], rfl, rfl, ((HA.out.set 0 _).set 1 _).alloc _, grown_alloc (grown_set (grown_set (grown_refl w _) 0 _) 1 _) _⟩
theorem caughtD_idle (b : Nat) (w : World) :
    CallsD Tryd.prog 53 #[.pointer (some ⟨b, 0, none⟩)] .returning w fun e u' w' => e = .returned (.tuple #[]) ∧ u' = .returning ∧ w' = w := by
  refine callsD_of_wpS Tryd.func53 rfl fun c₀ cs hu => ?_
  apply wpS_seq
  apply wpS_region
  simp [wpOpsS, go_sem, recoverD, hu, Tryd.ntmps53, Exit.thenS]
  refine wpS_of_wp ?_
  go_wp2
  refine ⟨rfl, .returning, ?_, .tuple #[], by simp [results, Tryd.results53], rfl, rfl, rfl⟩
  cases c₀
  simp_all
def errOf : Option (Int × Int) → Int | some x => x.1 | none => 0
def atOf : Option (Int × Int) → Int | some x => x.2 | none => 0
def RunEnd (r : Option (Int × Int)) (B : Nat) (Q : World → Prop) (en : Ending) (w1 : World) : Prop :=
  (match r with
    | none => en = .returned (.tuple #[])
    | some (c, q) => en = .panicked [{ v := .iface 77 (.agg #[.int .i64 c, .int .i64 q]), recovered := false }]) ∧ At w1 B 77 #[.int .i64 0, .int .i64 0] ∧ Q w1
theorem caught_TreeC (cap : Array Value) (w : World) (r : Option (Int × Int)) (Q : World → Prop)
    (hR : Calls Tryd.prog 56 cap (w.alloc (.cells #[.int .i64 0, .int .i64 0] 77)) (RunEnd r w.heap.size Q)) :
    Calls Tryd.prog 42 #[.func (.func 56) #[] cap] w fun en w' => en = .returned (.agg #[.int .i64 (errOf r), .int .i64 (atOf r)]) ∧ ∃ w1, Q w1 ∧ w1.grownBy w' (some w.heap.size) := by
  have hmf : ∀ (fn : Fn) (first cap : Array Value) (w : World), (Instr.makeFunc fn first cap).run Tryd.prog w = .ok (.func fn first cap) w := fun _ _ _ _ => rfl
  go_enter_defers Tryd.func42, Tryd.ntmps42
  go_wp2_with fail
  refine hR.mono ?_
  rintro en w1 ⟨h1, hA, hq⟩
  have a0 := (hA.cell 0).trans rfl
  have a1 := (hA.cell 1).trans rfl
  have e0 := hA.free 0
  have e1 := hA.free 1
  have HA := Lib.hid hA
  have HQ := Lib.hid hq
  clear hA hq hR
  cases r with
  | none =>
    simp only at h1
    subst h1
    go_wp2_with fail
    refine leaves_cons (f := 53) (args := #[.pointer (some ⟨w.heap.size, 0, none⟩)]) q21_ (by simp [go_sem]) ?_
    refine (caughtD_idle w.heap.size _).mono ?_
    rintro e u' w'' ⟨rfl, rfl, rfl⟩
    refine ⟨.agg #[.int .i64 0, .int .i64 0], ?_, rfl, w1, HQ.out, ?_⟩
    · simp [results, Tryd.results42, go_sem, a0, a1]
    · exact grown_set (grown_set (grown_refl w1 _) 0 _) 1 _
  | some x =>
    obtain ⟨c, q⟩ := x
    simp only at h1
    subst h1
    refine leaves_cons (f := 53) (args := #[.pointer (some ⟨w.heap.size, 0, none⟩)]) q21_ (by simp [go_sem]) ?_
    refine (caughtD_panicking w.heap.size c q w1 HA.out).mono ?_
    rintro e u' w'' ⟨rfl, rfl, hA2, hg⟩
    refine ⟨.agg #[.int .i64 c, .int .i64 q], ?_, rfl, w1, HQ.out, hg⟩
    have b0 := (hA2.cell 0).trans rfl
    have b1 := (hA2.cell 1).trans rfl
    simp [results, Tryd.results42, go_sem, b0, b1]
theorem caught_WriteC (cap : Array Value) (w : World) (r : Option (Int × Int)) (Q : World → Prop)
    (hR : Calls Tryd.prog 43 cap (w.alloc (.cells #[.int .i64 0, .int .i64 0] 77)) (RunEnd r w.heap.size Q)) :
    Calls Tryd.prog 42 #[.func (.func 43) #[] cap] w fun en w' => en = .returned (.agg #[.int .i64 (errOf r), .int .i64 (atOf r)]) ∧ ∃ w1, Q w1 ∧ w1.grownBy w' (some w.heap.size) := by
  have hmf : ∀ (fn : Fn) (first cap : Array Value) (w : World), (Instr.makeFunc fn first cap).run Tryd.prog w = .ok (.func fn first cap) w := fun _ _ _ _ => rfl
  go_enter_defers Tryd.func42, Tryd.ntmps42
  go_wp2_with fail
  refine hR.mono ?_
  rintro en w1 ⟨h1, hA, hq⟩
  have a0 := (hA.cell 0).trans rfl
  have a1 := (hA.cell 1).trans rfl
  have e0 := hA.free 0
  have e1 := hA.free 1
  have HA := Lib.hid hA
  have HQ := Lib.hid hq
  clear hA hq hR
  cases r with
  | none =>
    simp only at h1
    subst h1
    go_wp2_with fail
    refine leaves_cons (f := 53) (args := #[.pointer (some ⟨w.heap.size, 0, none⟩)]) q21_ (by simp [go_sem]) ?_
    refine (caughtD_idle w.heap.size _).mono ?_
    rintro e u' w'' ⟨rfl, rfl, rfl⟩
    refine ⟨.agg #[.int .i64 0, .int .i64 0], ?_, rfl, w1, HQ.out, ?_⟩
    · simp [results, Tryd.results42, go_sem, a0, a1]
    · exact grown_set (grown_set (grown_refl w1 _) 0 _) 1 _
  | some x =>
    obtain ⟨c, q⟩ := x
    simp only at h1
    subst h1
    refine leaves_cons (f := 53) (args := #[.pointer (some ⟨w.heap.size, 0, none⟩)]) q21_ (by simp [go_sem]) ?_
    refine (caughtD_panicking w.heap.size c q w1 HA.out).mono ?_
    rintro e u' w'' ⟨rfl, rfl, hA2, hg⟩
    refine ⟨.agg #[.int .i64 c, .int .i64 q], ?_, rfl, w1, HQ.out, hg⟩
    have b0 := (hA2.cell 0).trans rfl
    have b1 := (hA2.cell 1).trans rfl
    simp [results, Tryd.results42, go_sem, b0, b1]
end Go.Proofs.YtogjljpncdmlkaaDoor.W
end
section
namespace Go.Proofs.YtogjljpncdmlkaaDoor.W
open Go.RowKit Go.Proofs.YtogjljpncdmlkaaDoor.GA Go.Proofs.YtogjljpncdmlkaaDoorW.PrintWords Go.Proofs.YtogjljpncdmlkaaDoorW.PrintMore
set_option linter.unusedVariables false
set_option linter.unusedSimpArgs false
def lenNums (n : Int) : List Int :=
  if n < 128 then [n] else if n < 256 then [129, n] else if n < 65536 then [130, n / 256, n % 256]
  else if n < 16777216 then [131, n / 65536, n / 256 % 256, n % 256] else [132, n / 16777216, n / 65536 % 256, n / 256 % 256, n % 256]
def firstOf (cls : Int) (made : Bool) (tag : Int) : Int :=
  if made = true then bits .or .u8 (bits .or .u8 (((cls % 256) * 64) % 256) (tag % 256)) 32 else bits .or .u8 (((cls % 256) * 64) % 256) (tag % 256)
def layS (cls : Int) (made : Bool) (tag : Int) (body : ByteArray) : ByteArray := strOfNums (firstOf cls made tag :: lenNums body.size) ++ body
theorem first_fin : ∀ (c : Fin 4) (t : Fin 31), bits .or .u8 ((((c.val : Int) % 256) * 64) % 256) ((t.val : Int) % 256) = (c.val : Int) * 64 + t.val ∧
    bits .or .u8 (bits .or .u8 ((((c.val : Int) % 256) * 64) % 256) ((t.val : Int) % 256)) 32 = (c.val : Int) * 64 + t.val + 32 := by decide +kernel
theorem first_eq {cls tag : Int} {made : Bool} (h0 : 0 ≤ cls) (h1 : cls ≤ 3) (h2 : 0 ≤ tag) (h3 : tag < 31) : firstOf cls made tag = cls * 64 + tag + (if made = true then 32 else 0) := by
  have h := first_fin ⟨cls.toNat, q2_⟩ ⟨tag.toNat, q2_⟩
  have e1 : ((cls.toNat : Nat) : Int) = cls := by omega
  have e2 : ((tag.toNat : Nat) : Int) = tag := by omega
  simp only [e1, e2] at h
  unfold firstOf
  cases made with
  | true => simp only [if_true]; exact h.2
  | false => simp only [Bool.false_eq_true, if_false]; rw [h.1]; omega
theorem lenNums_len (n : Int) : 1 ≤ (lenNums n).length ∧ (lenNums n).length ≤ 5 := by
  unfold lenNums
  repeat' split
  all_goals simp
theorem length_f (n : Int) (h0 : 0 ≤ n) (h1 : n ≤ 4294967295) : ber_length.f 7 n = some (lenNums n) := by
  have w8 : wrap64 (8 * 1) = 8 := by unfold wrap64; omega
  have s1 : shr .i64 n 8 = n / 256 := by unfold shr; rfl
  have s2 : shr .i64 n 16 = n / 65536 := by unfold shr; rfl
  have s3 : shr .i64 n 24 = n / 16777216 := by unfold shr; rfl
  have w16 : wrap64 (8 * 2) = 16 := by unfold wrap64; omega
  have w24 : wrap64 (8 * 3) = 24 := by unfold wrap64; omega
  have w2 : wrap64 (1 + 1) = 2 := by unfold wrap64; omega
  have w3 : wrap64 (2 + 1) = 3 := by unfold wrap64; omega
  have w4 : wrap64 (3 + 1) = 4 := by unfold wrap64; omega
  have a1 : wrap64 (128 + 1) % 256 = 129 := by unfold wrap64; omega
  have a2 : wrap64 (128 + 2) % 256 = 130 := by unfold wrap64; omega
  have a3 : wrap64 (128 + 3) % 256 = 131 := by unfold wrap64; omega
  have a4 : wrap64 (128 + 4) % 256 = 132 := by unfold wrap64; omega
  unfold ber_length.f lenNums
  by_cases c0 : n < 128
  · rw [if_pos c0, if_pos c0, Int.emod_eq_of_lt h0 q2_]
  rw [if_neg c0, if_neg c0]
  simp only [ber_length.l0, w8, s1]
  rw [if_pos q2_, if_pos q2_]
  by_cases c1 : n < 256
  · rw [if_neg q2_, if_pos c1]
    simp only [ber_length.j1, a1, Option.bind_some]
    rw [if_neg q2_, if_neg q2_, if_neg q2_, if_pos q21_]
    simp
    omega
  rw [if_pos q2_, if_neg c1]
  simp only [w2, w16, s2]
  rw [if_pos q2_, if_pos q2_]
  by_cases c2 : n < 65536
  · rw [if_neg q2_, if_pos c2]
    simp only [ber_length.j1, a2, Option.bind_some]
    rw [if_neg q2_, if_neg q2_, if_pos (by trivial), if_pos q21_, if_pos q21_]
    simp
    omega
  rw [if_pos q2_, if_neg c2]
  simp only [w3, w24, s3]
  rw [if_pos q2_, if_pos q2_]
  by_cases c3 : n < 16777216
  · rw [if_neg q2_, if_pos c3]
    simp only [ber_length.j1, a3, Option.bind_some]
    rw [if_neg q2_, if_pos (by trivial), if_pos q21_, if_pos q21_, if_pos q21_]
    simp
    omega
  rw [if_pos q2_, if_neg c3]
  simp only [w4]
  rw [if_neg q2_]
  simp only [ber_length.j1, a4, Option.bind_some]
  rw [if_pos (by trivial), if_pos q21_, if_pos q21_, if_pos q21_, if_pos q21_]
  simp
  omega
theorem strOfNums_size (l : List Int) : (strOfNums l).size = l.length := by
  show (l.map fun n => UInt8.ofNat n.toNat).toArray.size = _
  simp
theorem lay_f (cls : Int) (made : Bool) (tag : Int) (body : ByteArray) (hb : body.size ≤ 4294967295) : ber_lay.f 7 cls made tag body = some (layS cls made tag body) := by
  unfold ber_lay.f layS firstOf
  have hl := lenNums_len body.size
  rw [if_neg q2_, length_f _ q2_ q2_]
  cases made with
  | true =>
    simp only [if_true, Option.bind_some, List.singleton_append, List.length_singleton]
    rw [if_pos q2_, strOfNums_size]
    simp only [List.length_cons]
    rw [if_pos q2_]
  | false =>
    simp only [Bool.false_eq_true, if_false, Option.bind_some, List.singleton_append, List.length_singleton]
    rw [if_pos q2_, strOfNums_size]
    simp only [List.length_cons]
    rw [if_pos q2_]
end Go.Proofs.YtogjljpncdmlkaaDoor.W
namespace Go.Proofs.YtogjljpncdmlkaaDoor.W
open Go.RowKit Go.Proofs.YtogjljpncdmlkaaDoor.GA Go.Proofs.YtogjljpncdmlkaaDoorW.PrintWords Go.Proofs.YtogjljpncdmlkaaDoorW.PrintMore
set_option linter.unusedVariables false
set_option linter.unusedSimpArgs false
theorem lay_any (cls : Int) (made : Bool) (tag : Int) (body : ByteArray) (w : World) (hb : body.size ≤ 4294967295) :
    Calls Tryd.prog 54 #[.int .i64 cls, .bool made, .int .i64 tag, .string body] w fun en w' => en = .returned (.string (layS cls made tag body)) ∧ Below w.heap.size w w' :=
  ber_lay.calls 7 cls made tag body _ w (lay_f cls made tag body hb)
def namedB (cls tag : Int) : Bool := decide (0 ≤ cls ∧ cls ≤ 3 ∧ 0 ≤ tag ∧ tag < 31)
theorem named_any (cls tag : Int) (w : World) : Calls Tryd.prog 52 #[.int .i64 cls, .int .i64 tag] w fun en w' => en = .returned (.bool (namedB cls tag)) ∧ Drawn0 w w' := by
  refine ber_named.calls cls tag _ w ?_
  unfold ber_named.f namedB
  by_cases h0 : cls ≥ 0
  · rw [if_pos h0]
    by_cases h1 : cls ≤ 3
    · rw [if_pos h1]
      by_cases h2 : tag ≥ 0
      · rw [if_pos h2]
        congr 1
        rw [decide_eq_decide]
        omega
      · rw [if_neg h2]
        congr 1
        rw [eq_comm, decide_eq_false_iff_not]
        omega
    · rw [if_neg h1]
      congr 1
      rw [eq_comm, decide_eq_false_iff_not]
      omega
  · rw [if_neg h0]
    congr 1
    rw [eq_comm, decide_eq_false_iff_not]
    omega
def joinR (cls : Int) (made : Bool) (tag : Int) (body : ByteArray) : ByteArray × Int :=
  if namedB cls tag = true then (if body.size ≤ 4294967295 then (layS cls made tag body, 0) else (⟨#[]⟩, 24)) else (⟨#[]⟩, 28)
end Go.Proofs.YtogjljpncdmlkaaDoor.W
namespace Go.Proofs.YtogjljpncdmlkaaDoor.W
open Go.RowKit Go.Proofs.YtogjljpncdmlkaaDoorW.PrintWords Go.Proofs.YtogjljpncdmlkaaDoorW.PrintMore
set_option linter.unusedVariables false
set_option linter.unusedSimpArgs false
def wideK (n : Int) : Nat := if n < 128 then 0 else if n < 256 then 1 else if n < 65536 then 2 else if n < 16777216 then 3 else 4
theorem wide_ok {n : Int} (h0 : 0 ≤ n) (h1 : n ≤ 4294967295) : okForm n (wideK n) := by
  unfold wideK okForm
  split
  · left; omega
  split
  · right; refine ⟨q2_, q2_, ?_⟩; simpa using (by omega : n < 256)
  split
  · right; exact ⟨q2_, q2_, q22_⟩
  split
  · right; exact ⟨q2_, q2_, q22_⟩
  · right; exact ⟨q2_, q2_, q22_⟩
theorem lenNums_eq {n : Int} (h0 : 0 ≤ n) (h1 : n ≤ 4294967295) : lenNums n = lenB n (wideK n) := by
  unfold lenNums wideK lenB
  by_cases c0 : n < 128
  · rw [if_pos c0, if_pos c0, if_pos rfl]
  rw [if_neg c0, if_neg c0]
  by_cases c1 : n < 256
  · rw [if_pos c1, if_pos c1, if_neg q2_]
    simp only [be, List.nil_append]
    rw [Int.emod_eq_of_lt h0 c1]
    rfl
  rw [if_neg c1, if_neg c1]
  by_cases c2 : n < 65536
  · rw [if_pos c2, if_pos c2, if_neg q2_]
    simp only [be, List.nil_append]
    rw [Int.emod_eq_of_lt (a := n / 256) q2_ q2_]
    rfl
  rw [if_neg c2, if_neg c2]
  by_cases c3 : n < 16777216
  · rw [if_pos c3, if_pos c3, if_neg q2_]
    simp only [be, List.nil_append]
    have e1 : n / 256 / 256 = n / 65536 := by omega
    rw [e1, Int.emod_eq_of_lt (a := n / 65536) q2_ q2_]
    rfl
  · rw [if_neg c3, if_neg c3, if_neg q2_]
    simp only [be, List.nil_append]
    have e1 : n / 256 / 256 = n / 65536 := by omega
    have e2 : n / 65536 / 256 = n / 16777216 := by omega
    rw [e1, e2, Int.emod_eq_of_lt (a := n / 16777216) q2_ q2_]
    rfl
theorem bytesOf_append (a b : ByteArray) : bytesOf (a ++ b) = bytesOf a ++ bytesOf b := by
  unfold bytesOf
  rw [← List.map_append]
  simp
theorem bytesOf_str (L : List Int) (h : ∀ x ∈ L, 0 ≤ x ∧ x < 256) : bytesOf (strOfNums L) = L := by
  unfold bytesOf
  show (L.map fun n => UInt8.ofNat n.toNat).toArray.toList.map (fun b => (b.toNat : Int)) = L
  rw [List.map_map]
  induction L with
  | nil => rfl
  | cons x L ih =>
    have hx := h x q21_
    rw [List.map_cons, ih (fun y hy => h y (by simp [hy]))]
    congr 1
    simp only [Function.comp]
    rw [UInt8.toNat_ofNat']
    omega
theorem be_range (k : Nat) : ∀ n, ∀ x ∈ be n k, 0 ≤ x ∧ x < 256 := by
  induction k with
  | zero => intro n x h; simp [be] at h
  | succ k ih =>
    intro n x h
    rw [be, List.mem_append, List.mem_singleton] at h
    rcases h with h | rfl
    · exact ih _ x h
    · omega
theorem headB_range {cls tag n : Int} {made : Bool} {k : Nat} (h : okN cls tag) (hf : okForm n k) (n0 : 0 ≤ n) : ∀ x ∈ headB cls made tag n k, 0 ≤ x ∧ x < 256 := by
  obtain ⟨c0, c1, t0, t1⟩ := h
  intro x hx
  unfold headB lenB at hx
  rcases List.mem_cons.1 hx with rfl | hx
  · split <;> omega
  · by_cases c : k = 0
    · rw [if_pos c] at hx
      rcases hf with hf | hf
      · simp at hx; omega
      · omega
    · rw [if_neg c] at hx
      rcases List.mem_cons.1 hx with rfl | hx
      · rcases hf with hf | hf <;> omega
      · exact be_range k n x hx
theorem lay_bytes {cls tag : Int} {made : Bool} {body : ByteArray} (h : okN cls tag) (hb : body.size ≤ 4294967295) : bytesOf (layS cls made tag body) = headB cls made tag body.size (wideK body.size) ++ bytesOf body := by
  obtain ⟨c0, c1, t0, t1⟩ := h
  unfold layS
  have e : firstOf cls made tag :: lenNums body.size = headB cls made tag body.size (wideK body.size) := by
    rw [first_eq c0 c1 t0 q2_, lenNums_eq q2_ q2_]
    rfl
  rw [bytesOf_append, e, bytesOf_str _ (headB_range ⟨c0, c1, t0, t1⟩ (wide_ok q2_ q2_) q2_)]
theorem lay_size (cls : Int) (made : Bool) (tag : Int) (body : ByteArray) : (layS cls made tag body).size ≤ body.size + 6 := by
  have := lenNums_len body.size
  unfold layS
  rw [ByteArray.size_append, strOfNums_size, List.length_cons]
  omega
theorem has_self (s : ByteArray) : Has s 0 (bytesOf s) := by
  refine ⟨q2_, by rw [bytesOf_length]; omega, fun j hj => ?_⟩
  rw [bytesOf_length] at hj
  rw [Int.zero_add, ← getD_byt]
  unfold bytesOf
  have hl : j < s.data.toList.length := by rw [data_length]; exact hj
  rw [List.getD_eq_getElem?_getD, List.getD_eq_getElem?_getD, List.getElem?_map, List.getElem?_eq_getElem hl]
  rfl
theorem has_of {s : ByteArray} {L : List Int} (h : bytesOf s = L) : Has s 0 L := h ▸ has_self s
end Go.Proofs.YtogjljpncdmlkaaDoor.W
namespace Go.Proofs.YtogjljpncdmlkaaDoor.W
open Go.RowKit Go.Proofs.YtogjljpncdmlkaaDoorW.PrintWords
set_option linter.unusedVariables false
set_option linter.unusedSimpArgs false
def zN : NodeT := (0, 0, false, 0, ⟨#[]⟩)
def nd (xs : List NodeT) (i : Nat) : NodeT := xs.getD i zN
mutual
def wrE (xs : List NodeT) : Nat → Nat → ByteArray × Nat
  | 0, i => (⟨#[]⟩, i)
  | f + 1, i => if (nd xs i).2.2.1 = true then (layS (nd xs i).2.1 true (nd xs i).2.2.2.1 (wrK xs f (i + 1) (nd xs i).1 ⟨#[]⟩).1, (wrK xs f (i + 1) (nd xs i).1 ⟨#[]⟩).2)
    else (layS (nd xs i).2.1 false (nd xs i).2.2.2.1 (nd xs i).2.2.2.2, i + 1)
def wrK (xs : List NodeT) : Nat → Nat → Int → ByteArray → ByteArray × Nat
  | 0, i, _, b => (b, i)
  | f + 1, i, d, b => if i < xs.length ∧ d < (nd xs i).1 then wrK xs f (wrE xs f i).2 d (b ++ (wrE xs f i).1) else (b, i)
end
def wt (xs : List NodeT) (i j : Nat) : Nat := (((xs.take j).drop i).map fun x => x.2.2.2.2.size + 6).sum
theorem wt_split (xs : List NodeT) {i j k : Nat} (h1 : i ≤ j) (h2 : j ≤ k) : wt xs i k = wt xs i j + wt xs j k := by
  unfold wt
  rw [← List.sum_append, ← List.map_append]
  congr 2
  have e : xs.take j = (xs.take k).take j := by rw [List.take_take, Nat.min_eq_left h2]
  rw [e]
  have : (xs.take k).drop j = ((xs.take k).drop i).drop (j - i) := by rw [List.drop_drop]; congr 1; omega
  rw [this]
  have h3 : ((xs.take k).take j).drop i = ((xs.take k).drop i).take (j - i) := by rw [List.drop_take]
  rw [h3, List.take_append_drop]
theorem wt_one (xs : List NodeT) {i : Nat} (h : i < xs.length) : wt xs i (i + 1) = (nd xs i).2.2.2.2.size + 6 := by
  unfold wt nd
  rw [List.take_succ_eq_append_getElem h, List.drop_append_of_le_length q22_]
  have : (xs.take i).drop i = [] := by simp
  rw [this]
  simp [h]
theorem wt_le (xs : List NodeT) {i j : Nat} (h : i ≤ j) : wt xs 0 i ≤ wt xs 0 j := by rw [wt_split xs (Nat.zero_le _) h]; omega
theorem wt_all (xs : List NodeT) (j : Nat) : wt xs 0 j ≤ wt xs 0 xs.length := by
  by_cases h : j ≤ xs.length
  · exact wt_le xs h
  · unfold wt
    rw [List.take_of_length_le q2_, List.take_of_length_le (Nat.le_refl _)]
    exact Nat.le_refl _
theorem wr_size (xs : List NodeT) (hm : ∀ i, (nd xs i).2.2.1 = true → (nd xs i).2.2.2.2.size = 0) : ∀ f : Nat,
    (∀ i, i < xs.length → i ≤ (wrE xs f i).2 ∧ (wrE xs f i).2 ≤ xs.length ∧ (wrE xs f i).1.size ≤ wt xs i (wrE xs f i).2) ∧
    (∀ i d b, i ≤ xs.length → i ≤ (wrK xs f i d b).2 ∧ (wrK xs f i d b).2 ≤ xs.length ∧ (wrK xs f i d b).1.size ≤ b.size + wt xs i (wrK xs f i d b).2)
  | 0 => ⟨fun i h => ⟨Nat.le_refl _, by rw [wrE]; omega, by rw [wrE]; exact Nat.zero_le _⟩, fun i d b h => ⟨Nat.le_refl _, by rw [wrK]; exact h, by rw [wrK]; exact Nat.le_add_right _ _⟩⟩
  | f + 1 => by
    obtain ⟨ih1, ih2⟩ := wr_size xs hm f
    refine ⟨fun i h => ?_, fun i d b h => ?_⟩
    · rw [wrE]
      split
      · rename_i hmd
        have hk := ih2 (i + 1) (nd xs i).1 ⟨#[]⟩ h
        have hl := lay_size (nd xs i).2.1 true (nd xs i).2.2.2.1 (wrK xs f (i + 1) (nd xs i).1 ⟨#[]⟩).1
        have h1 := wt_one xs h
        have h2 := wt_split xs (i := i) (j := i + 1) (k := (wrK xs f (i + 1) (nd xs i).1 ⟨#[]⟩).2) q2_ hk.1
        have hz : (⟨#[]⟩ : ByteArray).size = 0 := rfl
        rw [hz] at hk
        simp only
        omega
      · have hl := lay_size (nd xs i).2.1 false (nd xs i).2.2.2.1 (nd xs i).2.2.2.2
        have h1 := wt_one xs h
        simp only
        omega
    · rw [wrK]
      split
      · rename_i hc
        have h1 := ih1 i hc.1
        have h2 := ih2 (wrE xs f i).2 d (b ++ (wrE xs f i).1) h1.2.1
        rw [ByteArray.size_append] at h2
        have h3 := wt_split xs (i := i) (j := (wrE xs f i).2) (k := (wrK xs f (wrE xs f i).2 d (b ++ (wrE xs f i).1)).2) h1.1 h2.1
        omega
      · simp only
        omega
theorem wrE_gt (xs : List NodeT) (f i : Nat) : i < (wrE xs (f + 1) i).2 := by
  have hk : ∀ f i d b, i ≤ (wrK xs f i d b).2 := by
    intro f
    induction f using Nat.strongRecOn with
    | _ f ih =>
      intro i d b
      cases f with
      | zero => rw [wrK]; exact Nat.le_refl _
      | succ f =>
        rw [wrK]
        split
        · refine Nat.le_trans ?_ (ih f q2_ _ _ _)
          cases f with
          | zero => rw [wrE]; exact Nat.le_refl _
          | succ f =>
            rw [wrE]
            split
            · exact Nat.le_trans q2_ (ih f q2_ (i + 1) _ _)
            · simp
        · exact Nat.le_refl _
  rw [wrE]
  split
  · exact Nat.lt_of_lt_of_le (Nat.lt_succ_self i) (hk f (i + 1) _ _)
  · simp
def follB (b : Option (Int × Bool)) (n : NodeT) : Bool :=
  namedB n.2.1 n.2.2.2.1 && !(n.2.2.1 && decide (n.2.2.2.2.size ≠ 0)) && match b with
    | none => decide (n.1 = 1)
    | some (d, m) => decide (2 ≤ n.1) && decide (n.1 ≤ if m = true then d + 1 else d)
def prevOf (xs : List NodeT) (i : Nat) : Option (Int × Bool) := if i = 0 then none else some ((nd xs (i - 1)).1, (nd xs (i - 1)).2.2.1)
def badN (xs : List NodeT) : Nat → Nat → Option (Int × Int)
  | 0, _ => none
  | n + 1, i =>
    if i < xs.length then
      if follB (prevOf xs i) (nd xs i) = true then (if 64 < (nd xs i).1 then some (25, (i : Int)) else badN xs n (i + 1))
      else some (28, (i : Int))
    else none
def writeS (xs : List NodeT) : ByteArray × Int × Int :=
  if xs.length = 0 then (⟨#[]⟩, 28, 0)
  else match badN xs (xs.length + 1) 0 with
    | some x => (⟨#[]⟩, x.1, x.2)
    | none => ((wrE xs (2 * xs.length + 2) 0).1, 0, 0)
theorem badN_at (xs : List NodeT) : ∀ (n i : Nat), badN xs n i = none → xs.length < n + i → ∀ j, i ≤ j → j < xs.length → follB (prevOf xs j) (nd xs j) = true ∧ (nd xs j).1 ≤ 64 := by
  intro n
  induction n with
  | zero => intro i h hn j hi hj; omega
  | succ n ih =>
    intro i h hn j hi hj
    rw [badN] at h
    rw [if_pos q2_] at h
    by_cases c : follB (prevOf xs i) (nd xs i) = true
    · rw [if_pos c] at h
      by_cases c2 : 64 < (nd xs i).1
      · rw [if_pos c2] at h; cases h
      · rw [if_neg c2] at h
        by_cases e : j = i
        · subst e; exact ⟨c, q2_⟩
        · exact ih (i + 1) h q2_ j q2_ hj
    · rw [if_neg c] at h; cases h
theorem foll_made {b : Option (Int × Bool)} {n : NodeT} (h : follB b n = true) : namedB n.2.1 n.2.2.2.1 = true ∧ (n.2.2.1 = true → n.2.2.2.2.size = 0) := by
  unfold follB at h
  simp only [Bool.and_eq_true, Bool.not_eq_true', Bool.and_eq_false_iff, decide_eq_false_iff_not] at h
  obtain ⟨⟨h1, h2⟩, _⟩ := h
  refine ⟨h1, fun hm => ?_⟩
  rcases h2 with h2 | h2
  · rw [hm] at h2; cases h2
  · omega
end Go.Proofs.YtogjljpncdmlkaaDoor.W
end
section
namespace Go.Proofs.YtogjljpncdmlkaaDoor.W
open Go.RowKit Go.Proofs.YtogjljpncdmlkaaDoorW.PrintWords Go.Proofs.YtogjljpncdmlkaaDoorW.PrintLast
set_option linter.unusedVariables false
set_option linter.unusedSimpArgs false
def optErr : Option (Int × Int) → Ending
  | none => .returned (.tuple #[])
  | some (c, q) => .panicked [{ v := .iface 77 (.agg #[.int .i64 c, .int .i64 q]), recovered := false }]
end Go.Proofs.YtogjljpncdmlkaaDoor.W
end
