/- Walk of ber.Int: which contents are numbers, and what they mean. -/
import Derived.Test.YtbgmnfkfbiemaaaProg
import Derived.Test.YtbgmnfkfbiemaaaMa
import Derived.Test.YtbgmnfkfbiemaaaBHd
import Derived.WalkLawsBesides
import Derived.WalkSpells
import Derived.RegionTactic
import Derived.ChangeAlike
import Derived.BigRegion
import Derived.Deep.RegionHeld
import Derived.Outline
import Derived.IntWalk
import Derived.Lib.Hide
namespace Go.Proofs.Ytbgmnfkfbiemaaa.W
open Go.RowKit
set_option linter.unusedVariables false
set_option linter.unusedSimpArgs false

def intV (v e : Int) : Value := .tuple #[.int .i64 v, .int .i64 e]
theorem Int_none (s : ByteArray) (w : World) (h : s.size = 0) : Calls Try.prog 11 #[.string s] w fun en w' => en = .returned (intV 0 29) ∧ Below w.heap.size w w' := by
  have h0 : (s.size : Int) = 0 := by omega
  go_enter Try.func11, Try.ntmps11
  go_wp2
  go_ret2
  exact ⟨rfl, Below.refl _ _⟩
theorem Int_many (s : ByteArray) (w : World) (h : 8 < s.size) : Calls Try.prog 11 #[.string s] w fun en w' => en = .returned (intV 0 29) ∧ Below w.heap.size w w' := by
  have h0 : ((s.size : Int) == 0) = false := beq_eq_false_iff_ne.2 (by omega)
  have h1 : (8 : Int) < s.size := by omega
  go_enter Try.func11, Try.ntmps11
  go_wp2
  go_ret2
  exact ⟨rfl, Below.refl _ _⟩
set_option maxRecDepth 100000 in
theorem Int_long_z (s : ByteArray) (w : World) (h : 1 < s.size) (h8 : s.size ≤ 8) (c d : UInt8) (hc : s[0]'(Nat.lt_trans Nat.zero_lt_one h) = c) (hd : s[1]'h = d) (hA : c.toNat = 0) (hB : (d.toNat : Int) < 128) : Calls Try.prog 11 #[.string s] w fun en w' => en = .returned (intV 0 29) ∧ Below w.heap.size w w' := by
  have h1 : (1 : Int) < s.size := by omega
  have h2 : (s.size : Int) ≤ 8 := by omega
  have h3 : ((s.size : Int) == 0) = false := beq_eq_false_iff_ne.2 (by omega)
  have z0 : (0 : Int) < s.size := by omega
  go_enter Try.func11, Try.ntmps11
  go_wp2
  go_ret2
  exact ⟨rfl, Below.refl _ _⟩
set_option maxRecDepth 100000 in
theorem Int_long_f (s : ByteArray) (w : World) (h : 1 < s.size) (h8 : s.size ≤ 8) (c d : UInt8) (hc : s[0]'(Nat.lt_trans Nat.zero_lt_one h) = c) (hd : s[1]'h = d) (hA : c.toNat = 255) (hB : (128 : Int) ≤ d.toNat) : Calls Try.prog 11 #[.string s] w fun en w' => en = .returned (intV 0 29) ∧ Below w.heap.size w w' := by
  have h1 : (1 : Int) < s.size := by omega
  have h2 : (s.size : Int) ≤ 8 := by omega
  have h3 : ((s.size : Int) == 0) = false := beq_eq_false_iff_ne.2 (by omega)
  have z0 : (0 : Int) < s.size := by omega
  go_enter Try.func11, Try.ntmps11
  go_wp2
  go_ret2
  exact ⟨rfl, Below.refl _ _⟩
/-- A number, below 0 too, moved up by a byte, and a byte in the low end: it is their sum. -/
theorem or_byte_s (a c : Int) (ha : -36028797018963968 ≤ a) (ha1 : a < 36028797018963968) (hc : 0 ≤ c) (hc1 : c < 256) : bits .or .i64 (a * 256) c = a * 256 + c := by
  obtain ⟨y, rfl⟩ : ∃ y : Nat, c = y := ⟨c.toNat, by omega⟩
  obtain ⟨x, hx⟩ : ∃ x : Nat, (x : Int) = (a + (if a < 0 then 72057594037927936 else 0)) := ⟨(a + (if a < 0 then 72057594037927936 else 0)).toNat, by split <;> omega⟩
  have e : (BitVec.ofInt 64 (a * 256)).toNat = x * 256 := by
    rw [BitVec.toNat_ofInt]
    split at hx <;> omega
  show IntKind.i64.wrap ((BitVec.ofInt 64 (a * 256) ||| BitVec.ofInt 64 (y : Int)).toNat : Int) = _
  rw [BitVec.toNat_or, e, ofInt_64 _ (by omega), or_low x y (by omega), IntKind.wrap_i64]
  split at hx <;> omega
theorem numAt_abs (s : ByteArray) (x : Int) (h0 : -128 ≤ x) (h1 : x < 128) (k : Nat) : -(128 * 256 ^ k : Int) ≤ numAt s 1 k x ∧ numAt s 1 k x < 128 * 256 ^ k := by
  induction k with
  | zero => simp [numAt]; omega
  | succ k ih =>
    have b := byt_range s (1 + k)
    rw [numAt_snoc, Int.pow_succ]
    generalize (256 : Int) ^ k = P at ih ⊢
    omega
theorem numAt_in (s : ByteArray) (x : Int) (h0 : -128 ≤ x) (h1 : x < 128) (k : Nat) (hk : k ≤ 6) : -36028797018963968 ≤ numAt s 1 k x ∧ numAt s 1 k x < 36028797018963968 := by
  have h := numAt_abs s x h0 h1 k
  have hp : (256 : Int) ^ k ≤ 281474976710656 := by
    rcases (show k = 0 ∨ k = 1 ∨ k = 2 ∨ k = 3 ∨ k = 4 ∨ k = 5 ∨ k = 6 by omega) with rfl | rfl | rfl | rfl | rfl | rfl | rfl <;> decide
  omega
/-- The first byte as a number with a sign. -/
def signed (c : Int) : Int := if c < 128 then c else c - 256
theorem signed_wrap (c : UInt8) : wrap64 (IntKind.i8.wrap (c.toNat : Int)) = signed c.toNat := by
  have h := c.toNat_lt
  have e : IntKind.i8.wrap (c.toNat : Int) = signed c.toNat := by
    unfold signed
    simp [IntKind.wrap, IntKind.bits, IntKind.signed]
    split <;> omega
  rw [e]
  unfold signed wrap64
  split <;> omega
theorem row_of (s : ByteArray) (w : World) (h : 1 < s.size) : ∀ j, j < s.size - 1 → (Lib.bytesWorld w 5 (s.extract 1 s.size)).cell? ⟨w.heap.size, j, none⟩ = some (.int .u8 (byt s (1 + j))) := by
  intro j hj
  have e := Lib.bytesWorld_cell w 5 (s.extract 1 s.size) j (by simp; omega)
  rw [e]
  have e2 := getD_byt (s.extract 1 s.size) j
  rw [e2, byt_extract s 1 s.size j (by omega) (Nat.le_refl _)]
  congr 2
set_option maxRecDepth 100000 in
theorem Int_in_z (s : ByteArray) (w : World) (m : Nat) (hm : s.size = m + 1) (h : 1 < s.size) (g0 : 0 < s.size) (h8 : s.size ≤ 8) (c d : UInt8) (hc : s[0]'g0 = c) (hd : s[1]'h = d) (hA : c.toNat = 0) (hB : (128 : Int) ≤ d.toNat) : Calls Try.prog 11 #[.string s] w fun en w' => en = .returned (intV (numAt s 1 m 0) 0) ∧ Below w.heap.size w w' := by
  have h1 : (1 : Int) < s.size := by omega
  have h2 : (s.size : Int) ≤ 8 := by omega
  have h3 : ((s.size : Int) == 0) = false := beq_eq_false_iff_ne.2 (by omega)
  have z0 : (0 : Int) < s.size := by omega
  have hcv := conv_bytes
  have hrow := row_of s w h
  have hB0 := below_bytes (Below.refl w.heap.size w) (Nat.le_refl _) 5 (s.extract 1 s.size)
  have hm1 : s.size - 1 = m := by omega
  rw [hm1] at hrow
  have hm7 : m ≤ 7 := by omega
  clear hm
  go_enter Try.func11, Try.ntmps11
  go_wp2
  generalize Lib.bytesWorld w 5 (s.extract 1 s.size) = V at hrow hB0 ⊢
  clear hcv hm1
  go_loopw [4, 46] (fun n i wr => ∃ k : Nat, k ≤ m ∧ i = .int .i64 k ∧ n = .int .i64 (numAt s 1 k 0) ∧ (∀ j, j < m → wr.cell? ⟨w.heap.size, j, none⟩ = some (.int .u8 (byt s (1 + j)))) ∧ Below w.heap.size w wr)
    (fun _ i _ => m - (intOf i).toNat)
  case atStart => exact ⟨0, Nat.zero_le _, rfl, rfl, hrow, hB0⟩
  case round =>
    obtain ⟨k, hk, rfl, rfl, hcs, rB⟩ := hrel
    have hb := byt_range s (1 + k)
    have hck : k < m → wr.cell? ⟨w.heap.size, k, none⟩ = some (.int .u8 (byt s (1 + k))) := fun h => hcs k h
    by_cases hkm : k < m
    · have nb := numAt_in s 0 (by omega) (by omega) k (by omega)
      have hck2 := hck hkm
      have hnext := numAt_snoc s k 1 0
      rw [← or_byte_s _ _ nb.1 nb.2 hb.1 hb.2] at hnext
      have HN := Lib.hid hnext
      clear hnext
      go_wp2
      go_roundw
      case rel => exact ⟨k + 1, by omega, by go_num, by rw [HN.out], hcs, rB⟩
      case measure => simp [intOf]; omega
    · obtain rfl : k = m := by omega
      go_wp2
      go_ret2
      exact ⟨rfl, rB⟩
set_option maxRecDepth 100000 in
theorem Int_in_f (s : ByteArray) (w : World) (m : Nat) (hm : s.size = m + 1) (h : 1 < s.size) (g0 : 0 < s.size) (h8 : s.size ≤ 8) (c d : UInt8) (hc : s[0]'g0 = c) (hd : s[1]'h = d) (hA : c.toNat = 255) (hB : (d.toNat : Int) < 128) : Calls Try.prog 11 #[.string s] w fun en w' => en = .returned (intV (numAt s 1 m (-1)) 0) ∧ Below w.heap.size w w' := by
  have h1 : (1 : Int) < s.size := by omega
  have h2 : (s.size : Int) ≤ 8 := by omega
  have h3 : ((s.size : Int) == 0) = false := beq_eq_false_iff_ne.2 (by omega)
  have z0 : (0 : Int) < s.size := by omega
  have hcv := conv_bytes
  have hrow := row_of s w h
  have hB0 := below_bytes (Below.refl w.heap.size w) (Nat.le_refl _) 5 (s.extract 1 s.size)
  have hm1 : s.size - 1 = m := by omega
  rw [hm1] at hrow
  have hx : wrap64 (IntKind.i8.wrap 255) = -1 := by simp [IntKind.wrap, IntKind.bits, IntKind.signed, wrap64]
  have hm7 : m ≤ 7 := by omega
  have HX := Lib.hid hx
  clear hm hx
  go_enter Try.func11, Try.ntmps11
  go_wp2
  generalize Lib.bytesWorld w 5 (s.extract 1 s.size) = V at hrow hB0 ⊢
  clear hcv hm1
  go_loopw [4, 46] (fun n i wr => ∃ k : Nat, k ≤ m ∧ i = .int .i64 k ∧ n = .int .i64 (numAt s 1 k (-1)) ∧ (∀ j, j < m → wr.cell? ⟨w.heap.size, j, none⟩ = some (.int .u8 (byt s (1 + j)))) ∧ Below w.heap.size w wr)
    (fun _ i _ => m - (intOf i).toNat)
  case atStart => exact ⟨0, Nat.zero_le _, rfl, by rw [HX.out]; rfl, hrow, hB0⟩
  case round =>
    obtain ⟨k, hk, rfl, rfl, hcs, rB⟩ := hrel
    have hb := byt_range s (1 + k)
    have hck : k < m → wr.cell? ⟨w.heap.size, k, none⟩ = some (.int .u8 (byt s (1 + k))) := fun h => hcs k h
    by_cases hkm : k < m
    · have nb := numAt_in s (-1) (by omega) (by omega) k (by omega)
      have hck2 := hck hkm
      have hnext := numAt_snoc s k 1 (-1)
      rw [← or_byte_s _ _ nb.1 nb.2 hb.1 hb.2] at hnext
      have HN := Lib.hid hnext
      clear hnext
      go_wp2
      go_roundw
      case rel => exact ⟨k + 1, by omega, by go_num, by rw [HN.out], hcs, rB⟩
      case measure => simp [intOf]; omega
    · obtain rfl : k = m := by omega
      go_wp2
      go_ret2
      exact ⟨rfl, rB⟩
set_option maxRecDepth 100000 in
theorem Int_in_n (s : ByteArray) (w : World) (m : Nat) (hm : s.size = m + 1) (h : 1 < s.size) (g0 : 0 < s.size) (h8 : s.size ≤ 8) (c d : UInt8) (hc : s[0]'g0 = c) (hd : s[1]'h = d) (hA : ¬ c.toNat = 0) (hC : ¬ c.toNat = 255) (x : Int) (hx : wrap64 (IntKind.i8.wrap (c.toNat : Int)) = x) (xr : -128 ≤ x ∧ x < 128) : Calls Try.prog 11 #[.string s] w fun en w' => en = .returned (intV (numAt s 1 m x) 0) ∧ Below w.heap.size w w' := by
  have h1 : (1 : Int) < s.size := by omega
  have h2 : (s.size : Int) ≤ 8 := by omega
  have h3 : ((s.size : Int) == 0) = false := beq_eq_false_iff_ne.2 (by omega)
  have z0 : (0 : Int) < s.size := by omega
  have hcv := conv_bytes
  have hrow := row_of s w h
  have hB0 := below_bytes (Below.refl w.heap.size w) (Nat.le_refl _) 5 (s.extract 1 s.size)
  have hm1 : s.size - 1 = m := by omega
  rw [hm1] at hrow
  have hm7 : m ≤ 7 := by omega
  have HX := Lib.hid hx
  clear hm hx
  go_enter Try.func11, Try.ntmps11
  go_wp2
  generalize Lib.bytesWorld w 5 (s.extract 1 s.size) = V at hrow hB0 ⊢
  clear hcv hm1
  go_loopw [4, 46] (fun n i wr => ∃ k : Nat, k ≤ m ∧ i = .int .i64 k ∧ n = .int .i64 (numAt s 1 k x) ∧ (∀ j, j < m → wr.cell? ⟨w.heap.size, j, none⟩ = some (.int .u8 (byt s (1 + j)))) ∧ Below w.heap.size w wr)
    (fun _ i _ => m - (intOf i).toNat)
  case atStart => exact ⟨0, Nat.zero_le _, rfl, by rw [HX.out]; rfl, hrow, hB0⟩
  case round =>
    obtain ⟨k, hk, rfl, rfl, hcs, rB⟩ := hrel
    have hb := byt_range s (1 + k)
    have hck : k < m → wr.cell? ⟨w.heap.size, k, none⟩ = some (.int .u8 (byt s (1 + k))) := fun h => hcs k h
    by_cases hkm : k < m
    · have nb := numAt_in s x xr.1 xr.2 k (by omega)
      have hck2 := hck hkm
      have hnext := numAt_snoc s k 1 x
      rw [← or_byte_s _ _ nb.1 nb.2 hb.1 hb.2] at hnext
      have HN := Lib.hid hnext
      clear hnext
      go_wp2
      go_roundw
      case rel => exact ⟨k + 1, by omega, by go_num, by rw [HN.out], hcs, rB⟩
      case measure => simp [intOf]; omega
    · obtain rfl : k = m := by omega
      go_wp2
      go_ret2
      exact ⟨rfl, rB⟩
set_option maxRecDepth 100000 in
theorem Int_one (s : ByteArray) (w : World) (h : s.size = 1) (g0 : 0 < s.size) (c : UInt8) (hc : s[0]'g0 = c) (x : Int) (hx : wrap64 (IntKind.i8.wrap (c.toNat : Int)) = x) : Calls Try.prog 11 #[.string s] w fun en w' => en = .returned (intV x 0) ∧ Below w.heap.size w w' := by
  have h2 : (s.size : Int) = 1 := by omega
  have hcv := conv_bytes
  have hz1 : (s.extract 1 1).size = 0 := by simp
  have hB0 := below_bytes (Below.refl w.heap.size w) (Nat.le_refl _) 5 ByteArray.empty
  have HX := Lib.hid hx
  clear hx
  go_enter Try.func11, Try.ntmps11
  go_wp2
  generalize Lib.bytesWorld w 5 ByteArray.empty = V at hB0 ⊢
  clear hcv
  go_loopw [4, 46] (fun n i wr => i = .int .i64 0 ∧ n = .int .i64 x ∧ Below w.heap.size w wr) (fun _ i _ => 0)
  case atStart => exact ⟨rfl, by rw [HX.out], hB0⟩
  case round =>
    obtain ⟨rfl, rfl, rB⟩ := hrel
    go_wp2
    go_ret2
    exact ⟨rfl, rB⟩

/-- Which contents are numbers, and what they mean (0 and the error 29 of others). -/
def intS (s : ByteArray) : Int × Int :=
  if s.size = 0 ∨ 8 < s.size then (0, 29) else if 1 < s.size ∧ ((byt s 0 = 0 ∧ byt s 1 < 128) ∨ (byt s 0 = 255 ∧ 128 ≤ byt s 1)) then (0, 29)
  else (numAt s 1 (s.size - 1) (signed (byt s 0)), 0)
theorem Int_any (s : ByteArray) (w : World) : Calls Try.prog 11 #[.string s] w fun en w' => en = .returned (intV (intS s).1 (intS s).2) ∧ Below w.heap.size w w' := by
  by_cases h0 : s.size = 0
  · have e : intS s = (0, 29) := by unfold intS; rw [if_pos (Or.inl h0)]
    rw [e]
    exact Int_none s w h0
  by_cases h8 : 8 < s.size
  · have e : intS s = (0, 29) := by unfold intS; rw [if_pos (Or.inr h8)]
    rw [e]
    exact Int_many s w h8
  have g0 : 0 < s.size := by omega
  have b0 : ((s[0]'g0).toNat : Int) = byt s 0 := byt_at s 0 g0
  obtain ⟨c, hc⟩ : ∃ c, s[0]'g0 = c := ⟨_, rfl⟩
  rw [hc] at b0
  have hx : wrap64 (IntKind.i8.wrap (c.toNat : Int)) = signed (byt s 0) := by rw [← b0]; exact signed_wrap c
  have xr : -128 ≤ signed (byt s 0) ∧ signed (byt s 0) < 128 := by have := byt_range s 0; unfold signed; split <;> omega
  by_cases h1 : 1 < s.size
  · have b1 : ((s[1]'h1).toNat : Int) = byt s 1 := byt_at s 1 h1
    obtain ⟨d, hd⟩ : ∃ d, s[1]'h1 = d := ⟨_, rfl⟩
    rw [hd] at b1
    by_cases hg : (byt s 0 = 0 ∧ byt s 1 < 128) ∨ (byt s 0 = 255 ∧ 128 ≤ byt s 1)
    · have e : intS s = (0, 29) := by unfold intS; rw [if_neg (by omega), if_pos ⟨h1, hg⟩]
      rw [e]
      rcases hg with ⟨ga, gb⟩ | ⟨ga, gb⟩
      · exact Int_long_z s w h1 (by omega) c d hc hd (by omega) (by omega)
      · exact Int_long_f s w h1 (by omega) c d hc hd (by omega) (by omega)
    · have e : intS s = (numAt s 1 (s.size - 1) (signed (byt s 0)), 0) := by unfold intS; rw [if_neg (by omega), if_neg (fun h => hg h.2)]
      rw [e]
      by_cases hA : c.toNat = 0
      · have es : signed (byt s 0) = 0 := by rw [← b0, hA]; rfl
        rw [es]
        exact Int_in_z s w (s.size - 1) (by omega) h1 g0 (by omega) c d hc hd hA (by omega)
      · by_cases hC : c.toNat = 255
        · have es : signed (byt s 0) = -1 := by rw [← b0, hC]; rfl
          rw [es]
          exact Int_in_f s w (s.size - 1) (by omega) h1 g0 (by omega) c d hc hd hC (by omega)
        · exact Int_in_n s w (s.size - 1) (by omega) h1 g0 (by omega) c d hc hd hA hC _ hx xr
  · have e1 : s.size = 1 := by omega
    have e : intS s = (signed (byt s 0), 0) := by unfold intS; rw [if_neg (by omega), if_neg (fun h => h1 h.1), e1]; rfl
    rw [e]
    exact Int_one s w e1 g0 c hc _ hx
end Go.Proofs.Ytbgmnfkfbiemaaa.W
