/- Walks of ber.missing and of (*scanner).header: the header at a place, or a panic that bears the error and its place; the memory that was there stays. -/
import Derived.Test.YtbgmnfkfbiemaaaProg
import Derived.Test.YtbgmnfkfbiemaaaMa
import Derived.WalkLawsBesides
import Derived.WalkSpells
import Derived.RegionTactic
import Derived.ChangeAlike
import Derived.BigRegion
import Derived.Deep.RegionHeld
import Derived.Outline
import Derived.IntWalk
import Derived.Lib.Hide
namespace Go.Proofs.Ytbgmnfkfbiemaaa.W
open Go.RowKit
set_option linter.unusedVariables false
set_option linter.unusedSimpArgs false

theorem missing_any (d : Int) (w : World) : Calls Try.prog 34 #[.int .i64 d] w fun en w' => en = .returned (.int .i64 (miss d)) ∧ w = w' := by
  by_cases h : d = 1
  · subst h
    go_enter Try.func34, Try.ntmps34
    go_wp2
    go_ret
    exact ⟨rfl, rfl⟩
  · have e : miss d = 26 := by unfold miss; rw [if_neg h]
    rw [e]
    go_enter Try.func34, Try.ntmps34
    go_wp2
    go_ret
    exact ⟨rfl, rfl⟩

/-- The panic that bears an error and its place. -/
def faulty (c at_ : Int) : Ending := .panicked [{ v := .iface 61 (.agg #[.int .i64 c, .int .i64 at_]), recovered := false }]
def hdV (h : Hd) : Value := .agg #[.int .i64 h.cls, .bool h.made, .int .i64 h.tag, .int .i64 h.len, .int .i64 h.size]
def HdrEnd (r : Except (Int × Int) Hd) (B : Nat) (w : World) (en : Ending) (w' : World) : Prop :=
  (match r with
    | .error (c, q) => en = faulty c q
    | .ok h => en = .returned (hdV h)) ∧ Below B w w'
theorem HdrEnd.err {r : Except (Int × Int) Hd} {B : Nat} {w w' : World} {c q : Int} (hr : r = .error (c, q)) (hb : Below B w w') : HdrEnd r B w (faulty c q) w' := by
  subst hr; exact ⟨rfl, hb⟩
theorem HdrEnd.ok {r : Except (Int × Int) Hd} {B : Nat} {w w' : World} {h : Hd} (hr : r = .ok h) (hb : Below B w w') : HdrEnd r B w (.returned (hdV h)) w' := by
  subst hr; exact ⟨rfl, hb⟩

theorem header_deep (g : Nat) (s : ByteArray) (p e d : Int) (w : World) (hd : 64 < d) :
    Calls Try.prog 33 #[.pointer (some ⟨g, 0, none⟩), .int .i64 p, .int .i64 e, .int .i64 d] w fun en w' => HdrEnd (hdr s p e d) w.heap.size w en w' := by
  have HR : Hid (hdr s p e d = .error (25, p)) := by unfold Hid hdr; rw [if_pos hd]
  go_enter Try.func33, Try.ntmps33
  go_wp2
  exact ⟨rfl, HdrEnd.err HR.out ((Below.refl _ _).alloc (Nat.le_refl _) _)⟩

theorem header_out (g : Nat) (s : ByteArray) (p e d : Int) (w : World) (hd : d ≤ 64) (hp : e ≤ p) :
    Calls Try.prog 33 #[.pointer (some ⟨g, 0, none⟩), .int .i64 p, .int .i64 e, .int .i64 d] w fun en w' => HdrEnd (hdr s p e d) w.heap.size w en w' := by
  have HR : Hid (hdr s p e d = .error (miss d, e)) := by unfold Hid hdr; rw [if_neg (by omega), if_pos hp]
  go_enter Try.func33, Try.ntmps33
  go_wp2_with (go_at_call 34; refine (missing_any d _).mono ?_; rintro e w' ⟨rfl, rfl⟩)
  exact ⟨rfl, HdrEnd.err HR.out (((Below.refl _ _).alloc (Nat.le_refl _) _).alloc (by simp) _)⟩

/-! The ways of the header, by the tests as the walk leaves them. -/
section
variable {s : ByteArray} {p e d : Int} (hd : d ≤ 64) (hp : p < e) {h : p.toNat < s.size} {k : (p + 1).toNat < s.size}
include hd hp
theorem hdr_tag (t : (bits .and .u8 ((s[p.toNat]'h).toNat : Int) 31 == 31) = true) : hdr s p e d = .error (21, p) := by
  rw [byt_at s p h, and31 _ (byt_range s p).1 (byt_range s p).2, beq_iff_eq] at t
  unfold hdr
  rw [if_neg (by omega), if_neg (by omega), if_pos t]
theorem hdr_tail (t : (bits .and .u8 ((s[p.toNat]'h).toNat : Int) 31 == 31) = false) : hdr s p e d =
    if e ≤ p + 1 then .error (miss d, e)
    else if byt s (p + 1) < 128 then .ok ⟨byt s p / 64, byt s p / 32 % 2 == 1, byt s p % 32, byt s (p + 1), 2⟩
    else if byt s (p + 1) = 128 then .error (22, p + 1)
    else if 132 < byt s (p + 1) then .error (23, p + 1)
    else if e < p + (byt s (p + 1) - 126) then .error (miss d, e)
    else .ok ⟨byt s p / 64, byt s p / 32 % 2 == 1, byt s p % 32, numAt s (p + 2) (byt s (p + 1) - 128).toNat 0, byt s (p + 1) - 126⟩ := by
  rw [byt_at s p h, and31 _ (byt_range s p).1 (byt_range s p).2, beq_eq_false_iff_ne] at t
  unfold hdr
  rw [if_neg (by omega), if_neg (by omega), if_neg t]
theorem hdr_short (t : (bits .and .u8 ((s[p.toNat]'h).toNat : Int) 31 == 31) = false) (q : e ≤ p + 1) : hdr s p e d = .error (miss d, e) := by
  rw [hdr_tail hd hp t, if_pos q]
theorem hdr_one (t : (bits .and .u8 ((s[p.toNat]'h).toNat : Int) 31 == 31) = false) (q : p + 1 < e) (l : ((s[(p + 1).toNat]'k).toNat : Int) < 128) :
    hdr s p e d = .ok ⟨byt s p / 64, byt s p / 32 % 2 == 1, byt s p % 32, byt s (p + 1), 2⟩ := by
  rw [byt_at s (p + 1) k] at l
  rw [hdr_tail hd hp t, if_neg (by omega), if_pos l]
theorem hdr_indef (t : (bits .and .u8 ((s[p.toNat]'h).toNat : Int) 31 == 31) = false) (q : p + 1 < e) (l : (((s[(p + 1).toNat]'k).toNat : Int) == 128) = true) : hdr s p e d = .error (22, p + 1) := by
  rw [byt_at s (p + 1) k, beq_iff_eq] at l
  rw [hdr_tail hd hp t, if_neg (by omega), if_neg (by omega), if_pos l]
theorem hdr_far (t : (bits .and .u8 ((s[p.toNat]'h).toNat : Int) 31 == 31) = false) (q : p + 1 < e) (l : 132 < ((s[(p + 1).toNat]'k).toNat : Int)) : hdr s p e d = .error (23, p + 1) := by
  rw [byt_at s (p + 1) k] at l
  rw [hdr_tail hd hp t, if_neg (by omega), if_neg (by omega), if_neg (by omega), if_pos l]
theorem hdr_lack (t : (bits .and .u8 ((s[p.toNat]'h).toNat : Int) 31 == 31) = false) (q : p + 1 < e) (l0 : (128 : Int) ≤ ((s[(p + 1).toNat]'k).toNat : Int)) (l1 : (((s[(p + 1).toNat]'k).toNat : Int) == 128) = false)
    (l2 : ((s[(p + 1).toNat]'k).toNat : Int) ≤ 132) (r : e < p + (2 + (((s[(p + 1).toNat]'k).toNat : Int) - 128))) : hdr s p e d = .error (miss d, e) := by
  rw [byt_at s (p + 1) k] at l0 l1 l2 r
  rw [beq_eq_false_iff_ne] at l1
  rw [hdr_tail hd hp t, if_neg (by omega), if_neg (by omega), if_neg (by omega), if_neg (by omega), if_pos (by omega)]
theorem hdr_many (t : (bits .and .u8 ((s[p.toNat]'h).toNat : Int) 31 == 31) = false) (q : p + 1 < e) (l0 : (128 : Int) ≤ ((s[(p + 1).toNat]'k).toNat : Int)) (l1 : (((s[(p + 1).toNat]'k).toNat : Int) == 128) = false)
    (l2 : ((s[(p + 1).toNat]'k).toNat : Int) ≤ 132) (r : p + (2 + (((s[(p + 1).toNat]'k).toNat : Int) - 128)) ≤ e) :
    hdr s p e d = .ok ⟨byt s p / 64, byt s p / 32 % 2 == 1, byt s p % 32, numAt s (p + 2) (byt s (p + 1) - 128).toNat 0, byt s (p + 1) - 126⟩ := by
  rw [byt_at s (p + 1) k] at l0 l1 l2 r
  rw [beq_eq_false_iff_ne] at l1
  rw [hdr_tail hd hp t, if_neg (by omega), if_neg (by omega), if_neg (by omega), if_neg (by omega), if_neg (by omega)]
end

/-- The conversion's run, laid ahead of the walk. -/
theorem conv_bytes (x : ByteArray) (W : World) : (convert 9 32 (.string x)).run Try.prog W = .ok (.slice (some ⟨W.heap.size, 0, none⟩) x.size (grownCap W x.size 0 5)) (Lib.bytesWorld W 5 x) :=
  Lib.run_convert_string_bytes W 9 32 5 x Try.underlying9 Try.underlying32 Try.underlying5

set_option maxRecDepth 100000 in
set_option maxHeartbeats 1000000 in
theorem header_many (g : Nat) (s : ByteArray) (p e d : Int) (w : World) (hd : d ≤ 64) (h0 : 0 ≤ p) (hp : p + 1 < e) (he : e ≤ (s.size : Int)) (hs : s.size ≤ 140737488351232)
    (hc : w.cell? ⟨g, 0, none⟩ = some (.string s)) (hg : g < w.heap.size) (c l : UInt8) (hx : p.toNat < s.size) (hy : (p + 1).toNat < s.size) (hcc : s[p.toNat]'hx = c) (hll : s[(p + 1).toNat]'hy = l)
    (ht : (bits .and .u8 (c.toNat : Int) 31 == 31) = false) (hl0 : (128 : Int) < l.toNat) (hl1 : (l.toNat : Int) ≤ 132) (hq : p + (2 + ((l.toNat : Int) - 128)) ≤ e) :
    Calls Try.prog 33 #[.pointer (some ⟨g, 0, none⟩), .int .i64 p, .int .i64 e, .int .i64 d] w fun en w' => HdrEnd (hdr s p e d) w.heap.size w en w' := by
  obtain ⟨h, hh⟩ : ∃ h : Hd, h = ⟨byt s p / 64, byt s p / 32 % 2 == 1, byt s p % 32, numAt s (p + 2) (byt s (p + 1) - 128).toNat 0, byt s (p + 1) - 126⟩ := ⟨_, rfl⟩
  have HR : Hid (hdr s p e d = .ok h) := by
    subst hcc hll
    rw [hh]
    exact hdr_many hd (by omega) ht hp (by omega) (by simp; omega) hl1 hq
  have HH := Lib.hid hh
  clear hh
  have hg1 : g < w.heap.size + 1 := by omega
  have hg2 : g < w.heap.size + 1 + 1 := by omega
  have hg3 : g < w.heap.size + 1 + 1 + 1 := by omega
  go_enter Try.func33, Try.ntmps33
  go_wp2_with (go_at_call 34; refine (missing_any d _).mono ?_; rintro e w' ⟨rfl, rfl⟩)
  refine gen3 (G := fun W => Code.wp _ _ _ _ W) fun W hB hz k1 k2 k3 => ?_
  have hcv := conv_bytes
  have q1 : IntKind.i64.wrap (p + 2) = p + 2 := IntWalk.i64_in _ (by omega)
  have q2 : IntKind.i64.wrap (p + (2 + ((l.toNat : Int) - 128))) = p + (2 + ((l.toNat : Int) - 128)) := IntWalk.i64_in _ (by omega)
  have q3 : 0 ≤ p + 2 := by omega
  have q4 : p + 2 ≤ p + (2 + ((l.toNat : Int) - 128)) := by omega
  have q5 : p + (2 + ((l.toNat : Int) - 128)) ≤ (s.size : Int) := by omega
  have q6 : 0 ≤ p + (2 + ((l.toNat : Int) - 128)) := by omega
  have f0 : W.cell? ⟨g, 0, none⟩ = some (.string s) := (hB.cell (p := ⟨g, 0, none⟩) hg).trans hc
  have f1 := (k3.cell 4).trans rfl
  have z1 : g < W.heap.size := by omega
  have z2 : w.heap.size + 1 + 1 < W.heap.size := by omega
  go_region_held (fun V => V.cell? ⟨g, 0, none⟩ = some (.string s) ∧ V.cell? ⟨w.heap.size + 1 + 1, 4, none⟩ = some (.int .i64 (2 + ((l.toNat : Int) - 128)))) (first | exact ⟨f0, f1⟩ | exact ⟨(Lib.bytesWorld_old W.drew _ _ ⟨g, 0, none⟩ z1).trans f0, (Lib.bytesWorld_old W.drew _ _ ⟨w.heap.size + 1 + 1, 4, none⟩ z2).trans f1⟩) (fail)
  rename_i hHeld
  clear hHeld hcv q1 q2 f0 f1 k2
  have xs : (s.extract (p + 2).toNat (p + (2 + ((l.toNat : Int) - 128))).toNat).size = l.toNat - 128 := by simp; omega
  have xb : ∀ j, j < l.toNat - 128 → (((s.extract (p + 2).toNat (p + (2 + ((l.toNat : Int) - 128))).toNat).data.toList.getD j 0).toNat : Int) = byt s (p + 2 + j) := by
    intro j hj
    rw [getD_byt, byt_extract s _ _ j (by omega) (by omega)]
    congr 1
    omega
  generalize s.extract (p + 2).toNat (p + (2 + ((l.toNat : Int) - 128))).toNat = x at xs xb ⊢
  have m1 := k1.drew.bytes 5 x
  have m3 := k3.drew.bytes 5 x
  have hBV := below_bytes hB.drew (by simp; omega) 5 x
  have hcell : ∀ j, j < l.toNat - 128 → (Lib.bytesWorld W.drew 5 x).cell? ⟨W.heap.size, j, none⟩ = some (.int .u8 (byt s (p + 2 + j))) := by
    intro j hj
    rw [← xb j hj]
    exact Lib.bytesWorld_cell W.drew 5 x j (by omega)
  generalize Lib.bytesWorld W.drew 5 x = V at m1 m3 hBV hcell ⊢
  clear k1 k3 xb
  obtain ⟨n, hn⟩ : ∃ n : Nat, n = l.toNat - 128 := ⟨_, rfl⟩
  rw [← hn] at hcell xs
  have hn4 : n ≤ 4 := by omega
  have hnl : (n : Int) + 128 = (l.toNat : Int) := by omega
  have HN : Hid ((n : Int) + 128 = (l.toNat : Int)) := hnl
  go_wp2
  have hnn : (p + (2 + ((l.toNat : Int) - 128))).toNat - (p + 2).toNat = n := by omega
  rw [hnn]
  clear hnn hn hnl
  rw [hz] at hcell
  go_loopw [113, 14] (fun i _ wr => ∃ k : Nat, k ≤ n ∧ i = .int .i64 k ∧ At wr w.heap.size 65 #[.int .i64 0, .bool false, .int .i64 0, .int .i64 0, .int .i64 0] ∧
      At wr (w.heap.size + 1 + 1) 65 #[.int .i64 (wrap64 ((c.toNat : Int) / 64)), .bool (bits .and .u8 (c.toNat : Int) 32 != 0), .int .i64 (wrap64 (bits .and .u8 (c.toNat : Int) 31)), .int .i64 (numAt s (p + 2) k 0), .int .i64 (2 + ((l.toNat : Int) - 128))] ∧
      (∀ j, j < n → wr.cell? ⟨w.heap.size + 1 + 1 + 1, j, none⟩ = some (.int .u8 (byt s (p + 2 + j)))) ∧ Below w.heap.size w wr)
    (fun i _ _ => n - (intOf i).toNat)
  case atStart => exact ⟨0, Nat.zero_le _, rfl, m1, m3, hcell, hBV⟩
  case round =>
    obtain ⟨k, hk, rfl, r1, r3, hcs, rB⟩ := hrel
    have L0 := numAt_lt s (p + 2) k (by omega)
    obtain ⟨L, hL⟩ : ∃ L, L = numAt s (p + 2) k 0 := ⟨_, rfl⟩
    rw [← hL] at L0 r3
    have HL : Hid (L = numAt s (p + 2) k 0) := hL
    clear hL
    have hb := byt_range s (p + 2 + k)
    have c3 := (r3.cell 3).trans rfl
    have f3 := r3.free 3
    have cR : ∀ i, wr.cell? ⟨w.heap.size + 1 + 1, i, none⟩ = _ := r3.cell
    have hck : k < n → wr.cell? ⟨w.heap.size + 1 + 1 + 1, k, none⟩ = some (.int .u8 (byt s (p + 2 + k))) := fun h => hcs k h
    by_cases hkn : k < n
    · go_wp2
      have hr3 := r3.set 3 (.int .i64 (bits .or .i64 (L * 256) (byt s (p + 2 + k))))
      have hnext : numAt s (p + 2) (k + 1) 0 = bits .or .i64 (L * 256) (byt s (p + 2 + k)) := by
        rw [numAt_snoc, or_byte L _ L0.1 (by omega) hb.1 hb.2, HL.out]
      go_roundw
      case rel => exact ⟨k + 1, by omega, by go_num, r1.far (by simp; omega) _, by rw [hnext]; exact hr3, fun j hj => (World.cell?_setCell_other _ _ _ _ (by simp)).trans (hcs j hj), rB.setCell (by simp; omega) _⟩
      case measure => simp [intOf]; omega
    · obtain rfl : k = n := by omega
      have a0 := (r1.cell 0).trans rfl
      have a1 := (r1.cell 1).trans rfl
      have a2 := (r1.cell 2).trans rfl
      have a3 := (r1.cell 3).trans rfl
      have a4 := (r1.cell 4).trans rfl
      have e0 := r1.free 0
      have e1 := r1.free 1
      have e2 := r1.free 2
      have e3 := r1.free 3
      have e4 := r1.free 4
      go_wp2
      have hv : Value.agg #[.int .i64 (wrap64 ((c.toNat : Int) / 64)), .bool (bits .and .u8 (c.toNat : Int) 32 != 0), .int .i64 (wrap64 (bits .and .u8 (c.toNat : Int) 31)), .int .i64 L, .int .i64 (2 + ((l.toNat : Int) - 128))] = hdV h := by
        have e0 := byt_at s p hx
        have e1 := byt_at s (p + 1) hy
        rw [hcc] at e0
        rw [hll] at e1
        have b0 := byt_range s p
        have ek : (byt s (p + 1) - 128).toNat = k := by have := HN.out; omega
        rw [HH.out, HL.out, e0, e1, and31 _ b0.1 b0.2, and32 _ b0.1 b0.2, ek]
        have w1 : wrap64 (byt s p / 64) = byt s p / 64 := by unfold wrap64; omega
        have w2 : wrap64 (byt s p % 32) = byt s p % 32 := by unfold wrap64; omega
        have w3 : 2 + (byt s (p + 1) - 128) = byt s (p + 1) - 126 := by omega
        rw [w1, w2, w3]
        rfl
      refine bodyPost_ret (v := hdV h) ?_ rfl (HdrEnd.ok HR.out ?_)
      · rw [← hv]
        simp [results, Try.results33, go_sem, a0, a1, a2, a3, a4]
      · exact ((((rB.setCell (by simp) _).setCell (by simp) _).setCell (by simp) _).setCell (by simp) _).setCell (by simp) _

set_option maxRecDepth 100000 in
theorem header_tag (g : Nat) (s : ByteArray) (p e d : Int) (w : World) (hd : d ≤ 64) (h0 : 0 ≤ p) (hp : p < e) (he : e ≤ (s.size : Int)) (hs : s.size ≤ 140737488351232)
    (hc : w.cell? ⟨g, 0, none⟩ = some (.string s)) (hg : g < w.heap.size) (c : UInt8) (hx : p.toNat < s.size) (hcc : s[p.toNat]'hx = c) (ht : (bits .and .u8 (c.toNat : Int) 31 == 31) = true) :
    Calls Try.prog 33 #[.pointer (some ⟨g, 0, none⟩), .int .i64 p, .int .i64 e, .int .i64 d] w fun en w' => HdrEnd (hdr s p e d) w.heap.size w en w' := by
  have HR : Hid (hdr s p e d = .error (21, p)) := by
    subst hcc
    exact hdr_tag hd hp ht
  have hg1 : g < w.heap.size + 1 := by omega
  have hg2 : g < w.heap.size + 1 + 1 := by omega
  have hg3 : g < w.heap.size + 1 + 1 + 1 := by omega
  go_enter Try.func33, Try.ntmps33
  go_wp2_with (go_at_call 34; refine (missing_any d _).mono ?_; rintro e w' ⟨rfl, rfl⟩)
  exact ⟨rfl, HdrEnd.err HR.out (((Below.refl _ _).alloc (Nat.le_refl _) _).alloc (by simp) _)⟩

set_option maxRecDepth 100000 in
theorem header_short (g : Nat) (s : ByteArray) (p e d : Int) (w : World) (hd : d ≤ 64) (h0 : 0 ≤ p) (hp : p < e) (he : e ≤ (s.size : Int)) (hs : s.size ≤ 140737488351232)
    (hc : w.cell? ⟨g, 0, none⟩ = some (.string s)) (hg : g < w.heap.size) (c : UInt8) (hx : p.toNat < s.size) (hcc : s[p.toNat]'hx = c) (ht : (bits .and .u8 (c.toNat : Int) 31 == 31) = false) (h1 : e ≤ p + 1) :
    Calls Try.prog 33 #[.pointer (some ⟨g, 0, none⟩), .int .i64 p, .int .i64 e, .int .i64 d] w fun en w' => HdrEnd (hdr s p e d) w.heap.size w en w' := by
  have HR : Hid (hdr s p e d = .error (miss d, e)) := by
    subst hcc
    exact hdr_short hd hp ht h1
  have hg1 : g < w.heap.size + 1 := by omega
  have hg2 : g < w.heap.size + 1 + 1 := by omega
  have hg3 : g < w.heap.size + 1 + 1 + 1 := by omega
  go_enter Try.func33, Try.ntmps33
  go_wp2_with (go_at_call 34; refine (missing_any d _).mono ?_; rintro e w' ⟨rfl, rfl⟩)
  exact ⟨rfl, HdrEnd.err HR.out (((Below.refl _ _).alloc (Nat.le_refl _) _).alloc (by simp) _)⟩

set_option maxRecDepth 100000 in
theorem header_indef (g : Nat) (s : ByteArray) (p e d : Int) (w : World) (hd : d ≤ 64) (h0 : 0 ≤ p) (hp : p < e) (he : e ≤ (s.size : Int)) (hs : s.size ≤ 140737488351232)
    (hc : w.cell? ⟨g, 0, none⟩ = some (.string s)) (hg : g < w.heap.size) (c : UInt8) (hx : p.toNat < s.size) (hcc : s[p.toNat]'hx = c) (ht : (bits .and .u8 (c.toNat : Int) 31 == 31) = false) (h1 : p + 1 < e) (l : UInt8) (hy : (p + 1).toNat < s.size) (hll : s[(p + 1).toNat]'hy = l) (hl : (l.toNat : Int) = 128) :
    Calls Try.prog 33 #[.pointer (some ⟨g, 0, none⟩), .int .i64 p, .int .i64 e, .int .i64 d] w fun en w' => HdrEnd (hdr s p e d) w.heap.size w en w' := by
  have HR : Hid (hdr s p e d = .error (22, p + 1)) := by
    subst hcc hll
    exact hdr_indef (k := hy) hd hp ht h1 (by simp [hl])
  have hg1 : g < w.heap.size + 1 := by omega
  have hg2 : g < w.heap.size + 1 + 1 := by omega
  have hg3 : g < w.heap.size + 1 + 1 + 1 := by omega
  go_enter Try.func33, Try.ntmps33
  go_wp2_with (go_at_call 34; refine (missing_any d _).mono ?_; rintro e w' ⟨rfl, rfl⟩)
  exact ⟨rfl, HdrEnd.err HR.out ((((Below.refl _ _).alloc (Nat.le_refl _) _).alloc (by simp) _).alloc (by simp; omega) _)⟩

set_option maxRecDepth 100000 in
theorem header_far (g : Nat) (s : ByteArray) (p e d : Int) (w : World) (hd : d ≤ 64) (h0 : 0 ≤ p) (hp : p < e) (he : e ≤ (s.size : Int)) (hs : s.size ≤ 140737488351232)
    (hc : w.cell? ⟨g, 0, none⟩ = some (.string s)) (hg : g < w.heap.size) (c : UInt8) (hx : p.toNat < s.size) (hcc : s[p.toNat]'hx = c) (ht : (bits .and .u8 (c.toNat : Int) 31 == 31) = false) (h1 : p + 1 < e) (l : UInt8) (hy : (p + 1).toNat < s.size) (hll : s[(p + 1).toNat]'hy = l) (hl : 132 < (l.toNat : Int)) :
    Calls Try.prog 33 #[.pointer (some ⟨g, 0, none⟩), .int .i64 p, .int .i64 e, .int .i64 d] w fun en w' => HdrEnd (hdr s p e d) w.heap.size w en w' := by
  have HR : Hid (hdr s p e d = .error (23, p + 1)) := by
    subst hcc hll
    exact hdr_far hd hp ht h1 hl
  have hg1 : g < w.heap.size + 1 := by omega
  have hg2 : g < w.heap.size + 1 + 1 := by omega
  have hg3 : g < w.heap.size + 1 + 1 + 1 := by omega
  go_enter Try.func33, Try.ntmps33
  go_wp2_with (go_at_call 34; refine (missing_any d _).mono ?_; rintro e w' ⟨rfl, rfl⟩)
  exact ⟨rfl, HdrEnd.err HR.out ((((Below.refl _ _).alloc (Nat.le_refl _) _).alloc (by simp) _).alloc (by simp; omega) _)⟩

set_option maxRecDepth 100000 in
theorem header_lack (g : Nat) (s : ByteArray) (p e d : Int) (w : World) (hd : d ≤ 64) (h0 : 0 ≤ p) (hp : p < e) (he : e ≤ (s.size : Int)) (hs : s.size ≤ 140737488351232)
    (hc : w.cell? ⟨g, 0, none⟩ = some (.string s)) (hg : g < w.heap.size) (c : UInt8) (hx : p.toNat < s.size) (hcc : s[p.toNat]'hx = c) (ht : (bits .and .u8 (c.toNat : Int) 31 == 31) = false) (h1 : p + 1 < e) (l : UInt8) (hy : (p + 1).toNat < s.size) (hll : s[(p + 1).toNat]'hy = l) (hl0 : (128 : Int) < l.toNat) (hl1 : (l.toNat : Int) ≤ 132) (hq : e < p + (2 + ((l.toNat : Int) - 128))) :
    Calls Try.prog 33 #[.pointer (some ⟨g, 0, none⟩), .int .i64 p, .int .i64 e, .int .i64 d] w fun en w' => HdrEnd (hdr s p e d) w.heap.size w en w' := by
  have HR : Hid (hdr s p e d = .error (miss d, e)) := by
    subst hcc hll
    exact hdr_lack hd hp ht h1 (by omega) (by simp; omega) hl1 hq
  have hg1 : g < w.heap.size + 1 := by omega
  have hg2 : g < w.heap.size + 1 + 1 := by omega
  have hg3 : g < w.heap.size + 1 + 1 + 1 := by omega
  go_enter Try.func33, Try.ntmps33
  go_wp2_with (go_at_call 34; refine (missing_any d _).mono ?_; rintro e w' ⟨rfl, rfl⟩)
  exact ⟨rfl, HdrEnd.err HR.out ((((Below.refl _ _).alloc (Nat.le_refl _) _).alloc (by simp) _).alloc (by simp; omega) _)⟩

set_option maxRecDepth 100000 in
theorem header_one (g : Nat) (s : ByteArray) (p e d : Int) (w : World) (hd : d ≤ 64) (h0 : 0 ≤ p) (hp : p < e) (he : e ≤ (s.size : Int)) (hs : s.size ≤ 140737488351232)
    (hc : w.cell? ⟨g, 0, none⟩ = some (.string s)) (hg : g < w.heap.size) (c : UInt8) (hx : p.toNat < s.size) (hcc : s[p.toNat]'hx = c) (ht : (bits .and .u8 (c.toNat : Int) 31 == 31) = false) (h1 : p + 1 < e) (l : UInt8) (hy : (p + 1).toNat < s.size) (hll : s[(p + 1).toNat]'hy = l) (hl : (l.toNat : Int) < 128) :
    Calls Try.prog 33 #[.pointer (some ⟨g, 0, none⟩), .int .i64 p, .int .i64 e, .int .i64 d] w fun en w' => HdrEnd (hdr s p e d) w.heap.size w en w' := by
  obtain ⟨h, hh⟩ : ∃ h : Hd, h = ⟨byt s p / 64, byt s p / 32 % 2 == 1, byt s p % 32, byt s (p + 1), 2⟩ := ⟨_, rfl⟩
  have HR : Hid (hdr s p e d = .ok h) := by
    subst hcc hll
    exact by rw [hh]; exact hdr_one hd hp ht h1 hl
  have HH := Lib.hid hh
  clear hh
  have hg1 : g < w.heap.size + 1 := by omega
  have hg2 : g < w.heap.size + 1 + 1 := by omega
  have hg3 : g < w.heap.size + 1 + 1 + 1 := by omega
  go_enter Try.func33, Try.ntmps33
  go_wp2_with (go_at_call 34; refine (missing_any d _).mono ?_; rintro e w' ⟨rfl, rfl⟩)
  have hv : Value.agg #[.int .i64 (wrap64 ((c.toNat : Int) / 64)), .bool (bits .and .u8 (c.toNat : Int) 32 != 0), .int .i64 (wrap64 (bits .and .u8 (c.toNat : Int) 31)), .int .i64 (l.toNat : Int), .int .i64 2] = hdV h := by
    have e0 := byt_at s p hx
    have e1 := byt_at s (p + 1) hy
    rw [hcc] at e0
    rw [hll] at e1
    have b0 := byt_range s p
    rw [HH.out, e0, e1, and31 _ b0.1 b0.2, and32 _ b0.1 b0.2]
    have w1 : wrap64 (byt s p / 64) = byt s p / 64 := by unfold wrap64; omega
    have w2 : wrap64 (byt s p % 32) = byt s p % 32 := by unfold wrap64; omega
    rw [w1, w2]
    rfl
  refine bodyPost_ret (v := hdV h) ?_ rfl (HdrEnd.ok HR.out ?_)
  · rw [← hv]
    simp [results, Try.results33, go_sem]
  · exact (((Below.refl _ _).alloc (Nat.le_refl _) _).alloc (by simp) _).alloc (by simp; omega) _

/-- THE HEADER'S READER, at any place of a stretch within the text. -/
theorem header_any (g : Nat) (s : ByteArray) (p e d : Int) (w : World) (h0 : 0 ≤ p) (he : e ≤ (s.size : Int)) (hs : s.size ≤ 140737488351232)
    (hc : w.cell? ⟨g, 0, none⟩ = some (.string s)) (hg : g < w.heap.size) :
    Calls Try.prog 33 #[.pointer (some ⟨g, 0, none⟩), .int .i64 p, .int .i64 e, .int .i64 d] w fun en w' => HdrEnd (hdr s p e d) w.heap.size w en w' := by
  by_cases hd : 64 < d
  · exact header_deep g s p e d w hd
  by_cases hp : e ≤ p
  · exact header_out g s p e d w (by omega) hp
  have hx : p.toNat < s.size := by omega
  obtain ⟨c, hcc⟩ : ∃ c, s[p.toNat]'hx = c := ⟨_, rfl⟩
  cases ht : (bits .and .u8 (c.toNat : Int) 31 == 31) with
  | true => exact header_tag g s p e d w (by omega) h0 (by omega) he hs hc hg c hx hcc ht
  | false =>
    by_cases h1 : e ≤ p + 1
    · exact header_short g s p e d w (by omega) h0 (by omega) he hs hc hg c hx hcc ht h1
    have hy : (p + 1).toNat < s.size := by omega
    obtain ⟨l, hll⟩ : ∃ l, s[(p + 1).toNat]'hy = l := ⟨_, rfl⟩
    rcases (show (l.toNat : Int) < 128 ∨ (l.toNat : Int) = 128 ∨ 132 < (l.toNat : Int) ∨ ((128 : Int) < l.toNat ∧ (l.toNat : Int) ≤ 132) by omega) with hl | hl | hl | ⟨hl0, hl1⟩
    · exact header_one g s p e d w (by omega) h0 (by omega) he hs hc hg c hx hcc ht (by omega) l hy hll hl
    · exact header_indef g s p e d w (by omega) h0 (by omega) he hs hc hg c hx hcc ht (by omega) l hy hll hl
    · exact header_far g s p e d w (by omega) h0 (by omega) he hs hc hg c hx hcc ht (by omega) l hy hll hl
    · by_cases hq : e < p + (2 + ((l.toNat : Int) - 128))
      · exact header_lack g s p e d w (by omega) h0 (by omega) he hs hc hg c hx hcc ht (by omega) l hy hll hl0 hl1 hq
      · exact header_many g s p e d w (by omega) h0 (by omega) he hs hc hg c l hx hy hcc hll ht hl0 hl1 (by omega)
end Go.Proofs.Ytbgmnfkfbiemaaa.W
