/- Texts of this claim in one: BIn, GYx0, GYx1, Vk -/
import Derived.Test.YtogjljpncdmlkaaDoorB3
import Derived.Test.YtogjljpncdmlkaaDoorProg
import Derived.Test.YtogjljpncdmlkaaDoorB7
import Derived.Test.YtogjljpncdmlkaaDoorB9
import Derived.WalkLawsBesides
import Derived.WalkSpells
import Derived.RegionTactic
import Derived.ChangeAlike
import Derived.BigRegion
import Derived.Deep.RegionHeld
import Derived.Outline
import Derived.IntWalk
import Derived.Lib.Hide
import Derived.Below
import Derived.Deep.Draws
import Derived.Deep.AppendLies
import Derived.Maps.AppendAt
import Derived.OwnWalk
import Derived.Laws.BytesArg
import Derived.Laws.MakeOwn
import Derived.Laws.OwnMore
import Derived.Deep.OwnRows
import Derived.Tactics
import Derived.Lib.ConvBytes
import Derived.Laws.Slices
import Derived.WalkKit
import Derived.KernelRfl
import Derived.RowKit3
import Derived.Deep.LoopGhost
import Derived.Deep.QuietTactic
import Derived.BigQuiet
import Derived.WideLaws
import Derived.Deep.DeepCutAuto
import Derived.Deep.CutBlock
import Derived.Deep.RegionHeld3
import Derived.Laws.Rows
import Derived.Lib.AppendStr
import Derived.ArgAppend
import Derived.Laws.IdiomCopy
import Derived.OrdersHeld
import Derived.Laws.BitsLemmas
import Derived.RowKit
import Derived.Test.YtogjljpncdmlkaaDoorB0
import Derived.Test.YtogjljpncdmlkaaDoorB1
import Derived.Test.YtogjljpncdmlkaaDoorB2
import Derived.Test.YtogjljpncdmlkaaDoorB6
import Derived.Test.YtogjljpncdmlkaaDoorB13
section
namespace Go.Proofs.YtogjljpncdmlkaaDoor.W
open Go.RowKit
set_option linter.unusedVariables false
set_option linter.unusedSimpArgs false
def intV (v e : Int) : Value := .tuple #[.int .i64 v, .int .i64 e]
theorem Int_none (s : ByteArray) (w : World) (h : s.size = 0) : Calls Tryd.prog 35 #[.string s] w fun en w' => en = .returned (intV 0 29) ∧ Below w.heap.size w w' := by
  have h0 : (s.size : Int) = 0 := by omega
  go_enter Tryd.func35, Tryd.ntmps35
  go_wp2
  go_ret2
  exact ⟨rfl, Below.refl _ _⟩
theorem Int_many (s : ByteArray) (w : World) (h : 8 < s.size) : Calls Tryd.prog 35 #[.string s] w fun en w' => en = .returned (intV 0 29) ∧ Below w.heap.size w w' := by
  have h0 : ((s.size : Int) == 0) = false := beq_eq_false_iff_ne.2 q2_
  have h1 : (8 : Int) < s.size := by omega
  go_enter Tryd.func35, Tryd.ntmps35
  go_wp2
  go_ret2
  exact ⟨rfl, Below.refl _ _⟩
set_option maxRecDepth 100000 in
theorem Int_long_z (s : ByteArray) (w : World) (h : 1 < s.size) (h8 : s.size ≤ 8) (c d : UInt8) (hc : s[0]'(Nat.lt_trans Nat.zero_lt_one h) = c) (hd : s[1]'h = d) (hA : c.toNat = 0) (hB : (d.toNat : Int) < 128) : Calls Tryd.prog 35 #[.string s] w fun en w' => en = .returned (intV 0 29) ∧ Below w.heap.size w w' := by
  have h1 : (1 : Int) < s.size := by omega
  have h2 : (s.size : Int) ≤ 8 := by omega
  have h3 : ((s.size : Int) == 0) = false := beq_eq_false_iff_ne.2 q2_
  have z0 : (0 : Int) < s.size := by omega
  go_enter Tryd.func35, Tryd.ntmps35
  go_wp2
  go_ret2
  exact ⟨rfl, Below.refl _ _⟩
set_option maxRecDepth 100000 in
theorem Int_long_f (s : ByteArray) (w : World) (h : 1 < s.size) (h8 : s.size ≤ 8) (c d : UInt8) (hc : s[0]'(Nat.lt_trans Nat.zero_lt_one h) = c) (hd : s[1]'h = d) (hA : c.toNat = 255) (hB : (128 : Int) ≤ d.toNat) : Calls Tryd.prog 35 #[.string s] w fun en w' => en = .returned (intV 0 29) ∧ Below w.heap.size w w' := by
  have h1 : (1 : Int) < s.size := by omega
  have h2 : (s.size : Int) ≤ 8 := by omega
  have h3 : ((s.size : Int) == 0) = false := beq_eq_false_iff_ne.2 q2_
  have z0 : (0 : Int) < s.size := by omega
  go_enter Tryd.func35, Tryd.ntmps35
  go_wp2
  go_ret2
  exact ⟨rfl, Below.refl _ _⟩
theorem or_byte_s (a c : Int) (ha : -36028797018963968 ≤ a) (ha1 : a < 36028797018963968) (hc : 0 ≤ c) (hc1 : c < 256) : bits .or .i64 (a * 256) c = a * 256 + c := by
  obtain ⟨y, rfl⟩ : ∃ y : Nat, c = y := ⟨c.toNat, q2_⟩
  obtain ⟨x, hx⟩ : ∃ x : Nat, (x : Int) = (a + (if a < 0 then 72057594037927936 else 0)) := ⟨(a + (if a < 0 then 72057594037927936 else 0)).toNat, by split <;> omega⟩
  have e : (BitVec.ofInt 64 (a * 256)).toNat = x * 256 := by
    rw [BitVec.toNat_ofInt]
    split at hx <;> omega
  show IntKind.i64.wrap ((BitVec.ofInt 64 (a * 256) ||| BitVec.ofInt 64 (y : Int)).toNat : Int) = _
  rw [BitVec.toNat_or, e, ofInt_64 _ q2_, or_low x y q2_, IntKind.wrap_i64]
  split at hx <;> omega
theorem numAt_abs (s : ByteArray) (x : Int) (h0 : -128 ≤ x) (h1 : x < 128) (k : Nat) : -(128 * 256 ^ k : Int) ≤ numAt s 1 k x ∧ numAt s 1 k x < 128 * 256 ^ k := by
  induction k with
  | zero => simp [numAt]; omega
  | succ k ih =>
    have b := byt_range s (1 + k)
    rw [numAt_snoc, Int.pow_succ]
    generalize (256 : Int) ^ k = P at ih ⊢
    omega
theorem numAt_in (s : ByteArray) (x : Int) (h0 : -128 ≤ x) (h1 : x < 128) (k : Nat) (hk : k ≤ 6) : -36028797018963968 ≤ numAt s 1 k x ∧ numAt s 1 k x < 36028797018963968 := by
  have h := numAt_abs s x h0 h1 k
  have hp : (256 : Int) ^ k ≤ 281474976710656 := by
    rcases (show k = 0 ∨ k = 1 ∨ k = 2 ∨ k = 3 ∨ k = 4 ∨ k = 5 ∨ k = 6 by omega) with rfl | rfl | rfl | rfl | rfl | rfl | rfl <;> decide
  omega
def signed (c : Int) : Int := if c < 128 then c else c - 256
theorem signed_wrap (c : UInt8) : wrap64 (IntKind.i8.wrap (c.toNat : Int)) = signed c.toNat := by
  have h := c.toNat_lt
  have e : IntKind.i8.wrap (c.toNat : Int) = signed c.toNat := by
    unfold signed
    simp [IntKind.wrap, IntKind.bits, IntKind.signed]
    split <;> omega
  rw [e]
  unfold signed wrap64
  split <;> omega
theorem row_of (s : ByteArray) (w : World) (h : 1 < s.size) : ∀ j, j < s.size - 1 → (Lib.bytesWorld w 5 (s.extract 1 s.size)).cell? ⟨w.heap.size, j, none⟩ = some (.int .u8 (byt s (1 + j))) := by
  intro j hj
  have e := Lib.bytesWorld_cell w 5 (s.extract 1 s.size) j q22_
  rw [e]
  have e2 := getD_byt (s.extract 1 s.size) j
  rw [e2, byt_extract s 1 s.size j q2_ (Nat.le_refl _)]
  congr 2
set_option maxRecDepth 100000 in
theorem Int_in_z (s : ByteArray) (w : World) (m : Nat) (hm : s.size = m + 1) (h : 1 < s.size) (g0 : 0 < s.size) (h8 : s.size ≤ 8) (c d : UInt8) (hc : s[0]'g0 = c) (hd : s[1]'h = d) (hA : c.toNat = 0) (hB : (128 : Int) ≤ d.toNat) : Calls Tryd.prog 35 #[.string s] w fun en w' => en = .returned (intV (numAt s 1 m 0) 0) ∧ Below w.heap.size w w' := by
  have h1 : (1 : Int) < s.size := by omega
  have h2 : (s.size : Int) ≤ 8 := by omega
  have h3 : ((s.size : Int) == 0) = false := beq_eq_false_iff_ne.2 q2_
  have z0 : (0 : Int) < s.size := by omega
  have hcv := conv_bytes
  have hrow := row_of s w h
  have hB0 := below_bytes (Below.refl w.heap.size w) (Nat.le_refl _) 5 (s.extract 1 s.size)
  have hm1 : s.size - 1 = m := by omega
  rw [hm1] at hrow
  have hm7 : m ≤ 7 := by omega
  clear hm
  go_enter Tryd.func35, Tryd.ntmps35
  go_wp2
  generalize Lib.bytesWorld w 5 (s.extract 1 s.size) = V at hrow hB0 ⊢
  clear hcv hm1
  go_loopw [4, 46] (fun n i wr => ∃ k : Nat, k ≤ m ∧ i = .int .i64 k ∧ n = .int .i64 (numAt s 1 k 0) ∧ (∀ j, j < m → wr.cell? ⟨w.heap.size, j, none⟩ = some (.int .u8 (byt s (1 + j)))) ∧ Below w.heap.size w wr)
    (fun _ i _ => m - (intOf i).toNat)
  case atStart => exact ⟨0, Nat.zero_le _, rfl, rfl, hrow, hB0⟩
  case round =>
    obtain ⟨k, hk, rfl, rfl, hcs, rB⟩ := hrel
    have hb := byt_range s (1 + k)
    have hck : k < m → wr.cell? ⟨w.heap.size, k, none⟩ = some (.int .u8 (byt s (1 + k))) := fun h => hcs k h
    by_cases hkm : k < m
    · have nb := numAt_in s 0 q2_ q2_ k q2_
      have hck2 := hck hkm
      have hnext := numAt_snoc s k 1 0
      rw [← or_byte_s _ _ nb.1 nb.2 hb.1 hb.2] at hnext
      have HN := Lib.hid hnext
      clear hnext
      go_wp2
      go_roundw
      case rel => exact ⟨k + 1, q2_, by go_num, by rw [HN.out], hcs, rB⟩
      case measure => simp [intOf]; omega
    · obtain rfl : k = m := by omega
      go_wp2
      go_ret2
      exact ⟨rfl, rB⟩
set_option maxRecDepth 100000 in
theorem Int_in_f (s : ByteArray) (w : World) (m : Nat) (hm : s.size = m + 1) (h : 1 < s.size) (g0 : 0 < s.size) (h8 : s.size ≤ 8) (c d : UInt8) (hc : s[0]'g0 = c) (hd : s[1]'h = d) (hA : c.toNat = 255) (hB : (d.toNat : Int) < 128) : Calls Tryd.prog 35 #[.string s] w fun en w' => en = .returned (intV (numAt s 1 m (-1)) 0) ∧ Below w.heap.size w w' := by
  have h1 : (1 : Int) < s.size := by omega
  have h2 : (s.size : Int) ≤ 8 := by omega
  have h3 : ((s.size : Int) == 0) = false := beq_eq_false_iff_ne.2 q2_
  have z0 : (0 : Int) < s.size := by omega
  have hcv := conv_bytes
  have hrow := row_of s w h
  have hB0 := below_bytes (Below.refl w.heap.size w) (Nat.le_refl _) 5 (s.extract 1 s.size)
  have hm1 : s.size - 1 = m := by omega
  rw [hm1] at hrow
  have hx : wrap64 (IntKind.i8.wrap 255) = -1 := by simp [IntKind.wrap, IntKind.bits, IntKind.signed, wrap64]
  have hm7 : m ≤ 7 := by omega
  have HX := Lib.hid hx
  clear hm hx
  go_enter Tryd.func35, Tryd.ntmps35
  go_wp2
  generalize Lib.bytesWorld w 5 (s.extract 1 s.size) = V at hrow hB0 ⊢
  clear hcv hm1
  go_loopw [4, 46] (fun n i wr => ∃ k : Nat, k ≤ m ∧ i = .int .i64 k ∧ n = .int .i64 (numAt s 1 k (-1)) ∧ (∀ j, j < m → wr.cell? ⟨w.heap.size, j, none⟩ = some (.int .u8 (byt s (1 + j)))) ∧ Below w.heap.size w wr)
    (fun _ i _ => m - (intOf i).toNat)
  case atStart => exact ⟨0, Nat.zero_le _, rfl, by rw [HX.out]; rfl, hrow, hB0⟩
  case round =>
    obtain ⟨k, hk, rfl, rfl, hcs, rB⟩ := hrel
    have hb := byt_range s (1 + k)
    have hck : k < m → wr.cell? ⟨w.heap.size, k, none⟩ = some (.int .u8 (byt s (1 + k))) := fun h => hcs k h
    by_cases hkm : k < m
    · have nb := numAt_in s (-1) q2_ q2_ k q2_
      have hck2 := hck hkm
      have hnext := numAt_snoc s k 1 (-1)
      rw [← or_byte_s _ _ nb.1 nb.2 hb.1 hb.2] at hnext
      have HN := Lib.hid hnext
      clear hnext
      go_wp2
      go_roundw
      case rel => exact ⟨k + 1, q2_, by go_num, by rw [HN.out], hcs, rB⟩
      case measure => simp [intOf]; omega
    · obtain rfl : k = m := by omega
      go_wp2
      go_ret2
      exact ⟨rfl, rB⟩
set_option maxRecDepth 100000 in
theorem Int_in_n (s : ByteArray) (w : World) (m : Nat) (hm : s.size = m + 1) (h : 1 < s.size) (g0 : 0 < s.size) (h8 : s.size ≤ 8) (c d : UInt8) (hc : s[0]'g0 = c) (hd : s[1]'h = d) (hA : ¬ c.toNat = 0) (hC : ¬ c.toNat = 255) (x : Int) (hx : wrap64 (IntKind.i8.wrap (c.toNat : Int)) = x) (xr : -128 ≤ x ∧ x < 128) : Calls Tryd.prog 35 #[.string s] w fun en w' => en = .returned (intV (numAt s 1 m x) 0) ∧ Below w.heap.size w w' := by
  have h1 : (1 : Int) < s.size := by omega
  have h2 : (s.size : Int) ≤ 8 := by omega
  have h3 : ((s.size : Int) == 0) = false := beq_eq_false_iff_ne.2 q2_
  have z0 : (0 : Int) < s.size := by omega
  have hcv := conv_bytes
  have hrow := row_of s w h
  have hB0 := below_bytes (Below.refl w.heap.size w) (Nat.le_refl _) 5 (s.extract 1 s.size)
  have hm1 : s.size - 1 = m := by omega
  rw [hm1] at hrow
  have hm7 : m ≤ 7 := by omega
  have HX := Lib.hid hx
  clear hm hx
  go_enter Tryd.func35, Tryd.ntmps35
  go_wp2
  generalize Lib.bytesWorld w 5 (s.extract 1 s.size) = V at hrow hB0 ⊢
  clear hcv hm1
  go_loopw [4, 46] (fun n i wr => ∃ k : Nat, k ≤ m ∧ i = .int .i64 k ∧ n = .int .i64 (numAt s 1 k x) ∧ (∀ j, j < m → wr.cell? ⟨w.heap.size, j, none⟩ = some (.int .u8 (byt s (1 + j)))) ∧ Below w.heap.size w wr)
    (fun _ i _ => m - (intOf i).toNat)
  case atStart => exact ⟨0, Nat.zero_le _, rfl, by rw [HX.out]; rfl, hrow, hB0⟩
  case round =>
    obtain ⟨k, hk, rfl, rfl, hcs, rB⟩ := hrel
    have hb := byt_range s (1 + k)
    have hck : k < m → wr.cell? ⟨w.heap.size, k, none⟩ = some (.int .u8 (byt s (1 + k))) := fun h => hcs k h
    by_cases hkm : k < m
    · have nb := numAt_in s x xr.1 xr.2 k q2_
      have hck2 := hck hkm
      have hnext := numAt_snoc s k 1 x
      rw [← or_byte_s _ _ nb.1 nb.2 hb.1 hb.2] at hnext
      have HN := Lib.hid hnext
      clear hnext
      go_wp2
      go_roundw
      case rel => exact ⟨k + 1, q2_, by go_num, by rw [HN.out], hcs, rB⟩
      case measure => simp [intOf]; omega
    · obtain rfl : k = m := by omega
      go_wp2
      go_ret2
      exact ⟨rfl, rB⟩
set_option maxRecDepth 100000 in
theorem Int_one (s : ByteArray) (w : World) (h : s.size = 1) (g0 : 0 < s.size) (c : UInt8) (hc : s[0]'g0 = c) (x : Int) (hx : wrap64 (IntKind.i8.wrap (c.toNat : Int)) = x) : Calls Tryd.prog 35 #[.string s] w fun en w' => en = .returned (intV x 0) ∧ Below w.heap.size w w' := by
  have h2 : (s.size : Int) = 1 := by omega
  have hcv := conv_bytes
  have hz1 : (s.extract 1 1).size = 0 := by simp
  have hB0 := below_bytes (Below.refl w.heap.size w) (Nat.le_refl _) 5 ByteArray.empty
  have HX := Lib.hid hx
  clear hx
  go_enter Tryd.func35, Tryd.ntmps35
  go_wp2
  generalize Lib.bytesWorld w 5 ByteArray.empty = V at hB0 ⊢
  clear hcv
  go_loopw [4, 46] (fun n i wr => i = .int .i64 0 ∧ n = .int .i64 x ∧ Below w.heap.size w wr) (fun _ i _ => 0)
  case atStart => exact ⟨rfl, by rw [HX.out], hB0⟩
  case round =>
    obtain ⟨rfl, rfl, rB⟩ := hrel
    go_wp2
    go_ret2
    exact ⟨rfl, rB⟩
def intS (s : ByteArray) : Int × Int :=
  if s.size = 0 ∨ 8 < s.size then (0, 29) else if 1 < s.size ∧ ((byt s 0 = 0 ∧ byt s 1 < 128) ∨ (byt s 0 = 255 ∧ 128 ≤ byt s 1)) then (0, 29)
  else (numAt s 1 (s.size - 1) (signed (byt s 0)), 0)
theorem Int_any (s : ByteArray) (w : World) : Calls Tryd.prog 35 #[.string s] w fun en w' => en = .returned (intV (intS s).1 (intS s).2) ∧ Below w.heap.size w w' := by
  by_cases h0 : s.size = 0
  · have e : intS s = (0, 29) := by unfold intS; rw [if_pos (Or.inl h0)]
    rw [e]
    exact Int_none s w h0
  by_cases h8 : 8 < s.size
  · have e : intS s = (0, 29) := by unfold intS; rw [if_pos (Or.inr h8)]
    rw [e]
    exact Int_many s w h8
  have g0 : 0 < s.size := by omega
  have b0 : ((s[0]'g0).toNat : Int) = byt s 0 := byt_at s 0 g0
  obtain ⟨c, hc⟩ : ∃ c, s[0]'g0 = c := ⟨_, rfl⟩
  rw [hc] at b0
  have hx : wrap64 (IntKind.i8.wrap (c.toNat : Int)) = signed (byt s 0) := by rw [← b0]; exact signed_wrap c
  have xr : -128 ≤ signed (byt s 0) ∧ signed (byt s 0) < 128 := by have := byt_range s 0; unfold signed; split <;> omega
  by_cases h1 : 1 < s.size
  · have b1 : ((s[1]'h1).toNat : Int) = byt s 1 := byt_at s 1 h1
    obtain ⟨d, hd⟩ : ∃ d, s[1]'h1 = d := ⟨_, rfl⟩
    rw [hd] at b1
    by_cases hg : (byt s 0 = 0 ∧ byt s 1 < 128) ∨ (byt s 0 = 255 ∧ 128 ≤ byt s 1)
    · have e : intS s = (0, 29) := by unfold intS; rw [if_neg q2_, if_pos ⟨h1, hg⟩]
      rw [e]
      rcases hg with ⟨ga, gb⟩ | ⟨ga, gb⟩
      · exact Int_long_z s w h1 q2_ c d hc hd q2_ q2_
      · exact Int_long_f s w h1 q2_ c d hc hd q2_ q2_
    · have e : intS s = (numAt s 1 (s.size - 1) (signed (byt s 0)), 0) := by unfold intS; rw [if_neg q2_, if_neg (fun h => hg h.2)]
      rw [e]
      by_cases hA : c.toNat = 0
      · have es : signed (byt s 0) = 0 := by rw [← b0, hA]; rfl
        rw [es]
        exact Int_in_z s w (s.size - 1) q2_ h1 g0 q2_ c d hc hd hA q2_
      · by_cases hC : c.toNat = 255
        · have es : signed (byt s 0) = -1 := by rw [← b0, hC]; rfl
          rw [es]
          exact Int_in_f s w (s.size - 1) q2_ h1 g0 q2_ c d hc hd hC q2_
        · exact Int_in_n s w (s.size - 1) q2_ h1 g0 q2_ c d hc hd hA hC _ hx xr
  · have e1 : s.size = 1 := by omega
    have e : intS s = (signed (byt s 0), 0) := by unfold intS; rw [if_neg q2_, if_neg (fun h => h1 h.1), e1]; rfl
    rw [e]
    exact Int_one s w e1 g0 c hc _ hx
end Go.Proofs.YtogjljpncdmlkaaDoor.W
end
section
namespace Go.Proofs.YtogjljpncdmlkaaDoor.GY
open Go.RowKit Go.Proofs.YtogjljpncdmlkaaDoorW.PrintWords Go.Proofs.YtogjljpncdmlkaaDoorW.PrintLast Go.Proofs.YtogjljpncdmlkaaDoorW.PrintMore
attribute [local go_sem] max2_int min2_int max_two min_two max_three min_three max_four min_four   -- for this text's walks alone
set_option linter.unusedVariables false
set_option linter.unusedSimpArgs false
def errW : Option Int → Value
 | none => .nilIface
 | some c => .iface 0 (.int .i64 c)
theorem errW_none : errW none = .nilIface := rfl
theorem errW_some (c : Int) : errW (some c) = .iface 0 (.int .i64 c) := rfl
end Go.Proofs.YtogjljpncdmlkaaDoor.GY
end
section
namespace Go.Proofs.YtogjljpncdmlkaaDoor.GY
open Go.RowKit Go.Proofs.YtogjljpncdmlkaaDoorW.PrintWords Go.Proofs.YtogjljpncdmlkaaDoorW.PrintLast Go.Proofs.YtogjljpncdmlkaaDoorW.PrintMore
attribute [local go_sem] max2_int min2_int max_two min_two max_three min_three max_four min_four   -- for this text's walks alone
set_option linter.unusedVariables false
set_option linter.unusedSimpArgs false
def ber_Bool.f (a0 : ByteArray) : Option (Bool × Int) := if (a0.size : Int) = 1 then (if 0 < (a0.size : Int) then (some (((bt a0 0) != 0), 0)) else (none)) else (some (false, 29))
set_option maxHeartbeats 8000000 in
set_option maxRecDepth 100000 in
theorem ber_Bool.calls (a0 : ByteArray) (r1 : Bool) (r2 : Int) (w : World) (h : ber_Bool.f a0 = some (r1, r2)) :
  Calls Tryd.prog 48 #[.string a0] w fun e w' => e = .returned (.tuple #[.bool r1, .int .i64 r2]) ∧ Drawn0 w w' := by
 have H : (if (a0.size : Int) = 1 then (if 0 < (a0.size : Int) then (some (((bt a0 0) != 0), 0)) else (none)) else (some (false, 29))) = some (r1, r2) := h
 clear h
 by_cases c2 : (a0.size : Int) = 1
 ·rw [if_pos c2] at H
  have c2b0 : ((a0.size : Int) == 1) = true := beq_iff_eq.mpr c2
  have c2b1 : ((a0.size : Int) != 1) = false := bne_eq_false_iff_eq.mpr c2
  clear c2
  by_cases c3 : 0 < (a0.size : Int)
  ·rw [if_pos c3] at H
   have c3b0 : decide (0 < (a0.size : Int)) = true := decide_eq_true c3
   have c3b1 : decide (0 < a0.size) = true := decide_eq_true q2_
   have c3b2 : 0 < a0.size := by omega
   clear c3
   simp only [Option.some.injEq, Prod.mk.injEq] at H
   obtain ⟨rfl, rfl⟩ := H
   have p4 : 0 ≤ (0 : Int) := q2_
   have q4 : 0 < a0.size := (by have : (0 : Int) < (a0.size : Int) := of_decide_eq_true q4_; omega)
   have hx4 : ∀ h : 0 < a0.size, ((a0[0]'h).toNat : Int) = bt a0 0 := bt_at a0 0
   clear p4
   have qi4 : (0 < (a0.size : Int)) = True := eq_true (of_decide_eq_true q4_)
   replace q4 := eq_true q4
   go_enter Tryd.func48, Tryd.ntmps48
   go_wp2
   go_ret2
   exact ⟨q3_, q20_⟩
  ·rw [if_neg c3] at H
   exact absurd H q21_
 ·rw [if_neg c2] at H
  have c2b0 : ((a0.size : Int) == 1) = false := beq_eq_false_iff_ne.mpr c2
  have c2b1 : ((a0.size : Int) != 1) = true := bne_iff_ne.mpr c2
  simp only [Option.some.injEq, Prod.mk.injEq] at H
  obtain ⟨rfl, rfl⟩ := H
  go_enter Tryd.func48, Tryd.ntmps48
  go_wp2
  go_ret2
  exact ⟨q3_, q20_⟩
def text_Check.f (a0 : ByteArray) : Option (Int × Int) := if a0.size ≤ 140737488355328 then some (W.chkB a0) else none
theorem text_Check.calls (a0 : ByteArray) (r1 r2 : Int) (w : World) (h : text_Check.f a0 = some (r1, r2)) :
  Calls Tryd.prog 40 #[.string a0] w fun e w' => e = .returned (.tuple #[.int .i64 r1, .int .i64 r2]) ∧ Below w.heap.size w w' := by
 unfold text_Check.f at h
 by_cases c : a0.size ≤ 140737488355328
 ·rw [if_pos c] at h
  have e := Option.some.inj h
  have hq := Tx.check_any a0 c w
  rw [e] at hq
  exact hq
 ·rw [if_neg c] at h
  cases h
def view_utf8.f (a0 : ByteArray) : Option (Bool) := (text_Check.f a0).bind fun bt101 => (some (bt101.1 == 0))
set_option maxHeartbeats 8000000 in
set_option maxRecDepth 100000 in
theorem view_utf8.calls (a0 : ByteArray) (r : Bool) (w : World) (h : view_utf8.f a0 = some r) :
  Calls Tryd.prog 22 #[.string a0] w fun e w' => e = .returned (.bool r) ∧ Below w.heap.size w w' := by
 have HB := Aside0.mk (Below.refl w.heap.size w)
 have H : ((text_Check.f a0).bind fun bt101 => (some (bt101.1 == 0))) = some r := h
 clear h
 replace H := Option.bind_eq_some_iff.mp H
 obtain ⟨⟨t101, t102⟩, A20, H⟩ := H
 replace H : (some (t101 == 0)) = some r := H
 have A2 := Aside0.mk A20
 clear A20
 obtain rfl := Option.some.inj H
 go_enter Tryd.func22, Tryd.ntmps22
 go_wp2_with (first | ((with_reducible refine gate_callee (f := 40) rfl ?_); refine goesL_ (some 7) rfl rfl Tryd.func40 q13_ rfl #[.string a0] rfl q42_ ?_; (with_reducible refine (text_Check.calls a0 t101 t102 _ A2.out).mono ?_); rintro e w3 ⟨rfl, hb⟩; refine ⟨_, rfl, ?_⟩; have n0_ := Aside0.mk (below_step q1_ hb); clear HB; have HB := n0_; clear n0_; (try clear hb); (try clear hb2); (try clear hk); (try clear hi)))
 go_ret
 exact ⟨q6_, q1_⟩
def view_utf8.Pure : Prop := ∀ (a0 : ByteArray), a0.size ≤ 140737488351232 → view_utf8.f a0 = some true
end Go.Proofs.YtogjljpncdmlkaaDoor.GY
end
section
namespace Go.Proofs.YtogjljpncdmlkaaDoor.W
open Go.RowKit Go.Proofs.YtogjljpncdmlkaaDoorW.PrintWords Go.Proofs.YtogjljpncdmlkaaDoorW.PrintLast Go.Proofs.YtogjljpncdmlkaaDoor.GY
set_option linter.unusedVariables false
set_option linter.unusedSimpArgs false
def nextS (d cls : Int) (made : Bool) (tag : Int) (xs : List NodeT) : ByteArray × Bool × List NodeT :=
  match nx d cls made tag xs with
  | some (b, r) => (b, true, r)
  | none => (⟨#[]⟩, false, xs)
theorem next_any {w0 w : World} {g : Nat} {xs : List NodeT} {bad : Bool} (h : RdV w0 w g xs bad) (d cls : Int) (made : Bool) (tag : Int) :
    Calls Tryd.prog 47 #[.pointer (some ⟨g, 0, none⟩), .int .i64 d, .int .i64 cls, .bool made, .int .i64 tag] w
      fun en w' => en = .returned (.tuple #[.string (nextS d cls made tag xs).1, .bool (nextS d cls made tag xs).2.1]) ∧ RdV w0 w' g (nextS d cls made tag xs).2.2 bad ∧ w.grownBy w' (some g) := by
  cases hn : nx d cls made tag xs with
  | some p =>
    obtain ⟨b, r⟩ := p
    have e : nextS d cls made tag xs = (b, true, r) := by unfold nextS; rw [hn]
    rw [e]
    exact next_hit h d cls made tag hn
  | none =>
    have e : nextS d cls made tag xs = (⟨#[]⟩, false, xs) := by unfold nextS; rw [hn]
    rw [e]
    exact next_miss h d cls made tag hn
theorem RdV.lt {w0 w : World} {g : Nat} {xs : List NodeT} {bad : Bool} (h : RdV w0 w g xs bad) : g < w.heap.size := by
  obtain ⟨A, c, m, _⟩ := h
  exact m.lt
theorem RdV.below {w0 w w' : World} {g : Nat} {xs : List NodeT} {bad : Bool} (h : RdV w0 w g xs bad) (hb : Below w.heap.size w w') : RdV w0 w' g xs bad := by
  obtain ⟨A, c, m, hc, hC, hB, hg⟩ := h
  exact ⟨A, c, m.below hb m.lt, hc, hC, hB.trans (hb.mono hB.size), hg⟩
theorem RdV.alloc {w0 w : World} {g : Nat} {xs : List NodeT} {bad : Bool} (h : RdV w0 w g xs bad) (o : Obj) : RdV w0 (w.alloc o) g xs bad := h.below ((Below.refl _ _).alloc (Nat.le_refl _) _)
theorem RdV.set {w0 w : World} {g : Nat} {xs : List NodeT} {bad : Bool} (h : RdV w0 w g xs bad) {b i : Nat} {t : TypeId} {cs : Array Value} (hb : At w b t cs) (ht : t ≠ 61) (hw : w0.heap.size ≤ b) (u : Value) : RdV w0 (w.setCell ⟨b, i, none⟩ u) g xs bad := by
  obtain ⟨A, c, m, hc, hC, hB, hg⟩ := h
  exact ⟨A, c, m.far (fun e => hb.ne m ht e.symm) u, hc, hC, hB.setCell hw _, hg⟩
theorem RdV.ne {w0 w : World} {g : Nat} {xs : List NodeT} {bad : Bool} (h : RdV w0 w g xs bad) {b : Nat} {t : TypeId} {cs : Array Value} (hb : At w b t cs) (ht : t ≠ 61) : b ≠ g := by
  obtain ⟨A, c, m, _⟩ := h
  exact hb.ne m ht
theorem next_none {d cls : Int} {made : Bool} {tag : Int} {xs r : List NodeT} {b : ByteArray} (h : nextS d cls made tag xs = (b, false, r)) : b = ⟨#[]⟩ := by
  unfold nextS at h
  split at h
  · cases h
  · injection h with h1 h2
    exact h1.symm
theorem At.keptR {w w' : World} {b g : Nat} {t : TypeId} {cs : Array Value} (h : At w b t cs) (hg : w.grownBy w' (some g)) {w0 : World} {xs : List NodeT} {bad : Bool} (r : RdV w0 w g xs bad) (ht : t ≠ 61) : At w' b t cs := h.kept hg (r.ne h ht)
theorem grown_far {w W : World} {r : Option Nat} (h : w.grownBy W r) {p : Addr} (hp : w.heap.size ≤ p.block) (u : Value) : w.grownBy (W.setCell p u) r :=
  ⟨h.os, h.tape, h.output, by simp; exact h.size, fun k hk hr => (Below.heap_setCell W p u k q2_).trans (h.block k hk hr)⟩
theorem grown_drewN {w W : World} {r : Option Nat} (h : w.grownBy W r) (n : Nat) : w.grownBy (W.drewN n) r := ⟨h.os, h.tape, h.output, h.size, h.block⟩
theorem RdV.drewN {w0 w : World} {g : Nat} {xs : List NodeT} {bad : Bool} (h : RdV w0 w g xs bad) (n : Nat) : RdV w0 (w.drewN n) g xs bad := by
  obtain ⟨A, c, m, hc, hC, hB, hg⟩ := h
  exact ⟨A, c, m, hc, hC, below_draws hB n, hg⟩
theorem RdV.set3 {w0 w : World} {g : Nat} {xs : List NodeT} {bad : Bool} (h : RdV w0 w g xs bad) {b : Nat} {t : TypeId} {cs : Array Value} (hb : At w b t cs) (ht : t ≠ 61) (hw : w0.heap.size ≤ b) (u0 u1 u2 : Value) :
    RdV w0 (((w.setCell ⟨b, 0, none⟩ u0).setCell ⟨b, 1, none⟩ u1).setCell ⟨b, 2, none⟩ u2) g xs bad :=
  ((h.set hb ht hw u0).set (hb.set 0 _) ht hw u1).set ((hb.set 0 _).set 1 _) ht hw u2
def Small (xs : List NodeT) : Prop := ∀ n ∈ xs, n.2.2.2.2.size ≤ 2097152
theorem nx_small {d cls : Int} {made : Bool} {tag : Int} {xs r : List NodeT} {b : ByteArray} (h : Small xs) (e : nx d cls made tag xs = some (b, r)) : b.size ≤ 2097152 ∧ Small r := by
  cases xs with
  | nil => cases e
  | cons n rest =>
    simp only [nx] at e
    split at e
    · injection e with e
      injection e with e1 e2
      subst e1 e2
      exact ⟨h _ List.mem_cons_self, fun n hn => h n (List.mem_cons_of_mem _ hn)⟩
    · cases e
theorem must_small (d cls : Int) (made : Bool) (tag : Int) (xs : List NodeT) (bad : Bool) (h : Small xs) : (mustS d cls made tag xs bad).1.size ≤ 2097152 ∧ Small (mustS d cls made tag xs bad).2.1 := by
  unfold mustS
  split
  · rename_i b r e
    exact nx_small h e
  · exact ⟨Nat.zero_le _, h⟩
theorem next_small (d cls : Int) (made : Bool) (tag : Int) (xs : List NodeT) (h : Small xs) : (nextS d cls made tag xs).1.size ≤ 2097152 ∧ Small (nextS d cls made tag xs).2.2 := by
  unfold nextS
  split
  · rename_i b r e
    exact nx_small h e
  · exact ⟨Nat.zero_le _, h⟩
def boolV (s : ByteArray) : Bool × Int := if s.size = 1 then (byt s 0 != 0, 0) else (false, 29)
theorem bool_f (s : ByteArray) : ber_Bool.f s = some (boolV s) := by
  unfold ber_Bool.f boolV
  by_cases h : s.size = 1
  · rw [if_pos q2_, if_pos q2_, if_pos h]
    rfl
  · rw [if_neg q2_, if_neg h]
theorem utf8_any (s : ByteArray) (hs : s.size ≤ 140737488355328) (w : World) :
    Calls Tryd.prog 22 #[.string s] w fun en w' => en = .returned (.bool (Tx.U s)) ∧ Below w.heap.size w w' := by
  refine view_utf8.calls s _ w ?_
  unfold view_utf8.f text_Check.f
  rw [if_pos hs]
  rfl
def keyS (xs : List NodeT) (bad : Bool) : (ByteArray × ByteArray × Bool) × List NodeT × Bool :=
  let s1 := (mustS 2 0 true 16 xs bad).2
  let m2 := mustS 3 0 false 4 s1.1 s1.2
  let n3 := nextS 3 2 false 0 m2.2.1
  let n4 := nextS 3 2 false 1 n3.2.2
  ((m2.1, n3.1, if n4.2.1 = true then (boolV n4.1).1 else false), n4.2.2,
    ((m2.2.2 || (n3.2.1 && n3.1.toList.isEmpty)) || (n4.2.1 && (boolV n4.1).2 != 0)) || !(Tx.U m2.1) || !(Tx.U n3.1))
def KeyP (w0 w : World) (g : Nat) (k : (ByteArray × ByteArray × Bool) × List NodeT × Bool) (en : Ending) (w' : World) : Prop :=
  en = .returned (.agg #[.string k.1.1, .string k.1.2.1, .bool k.1.2.2]) ∧ RdV w0 w' g k.2.1 k.2.2 ∧ w.grownBy w' (some g)
set_option maxRecDepth 100000 in
set_option maxHeartbeats 8000000 in
theorem key_any {w0 w : World} {g : Nat} {xs : List NodeT} {bad : Bool} (h : RdV w0 w g xs bad) (hsz : Small xs) :
    Calls Tryd.prog 31 #[.pointer (some ⟨g, 0, none⟩)] w (KeyP w0 w g (keyS xs bad)) := by
  obtain ⟨ks, hks⟩ : ∃ ks, ks = keyS xs bad := ⟨_, rfl⟩
  rw [← hks]
  have HK := Lib.hid hks
  have HS := Lib.hid hsz
  clear hks hsz
  have H1 := Lib.hid (must_any (h.alloc (.cells #[.string ⟨#[]⟩, .string ⟨#[]⟩, .bool false] 25)) 2 0 true 16)
  have hA := At.new w 25 #[.string ⟨#[]⟩, .string ⟨#[]⟩, .bool false]
  have lg := h.lt
  have hwk : w0.heap.size ≤ w.heap.size := by obtain ⟨A, c, m, _, _, hB, _⟩ := h; exact hB.size
  go_enter Tryd.func31, Tryd.ntmps31
  go_wp2_with fail
  refine H1.out.mono ?_
  rintro en w1 ⟨rfl, r1, g1⟩
  have a1 := hA.kept g1 q2_
  clear hA
  obtain ⟨xs1, bad1, hs1⟩ : ∃ xs1 bad1, (mustS 2 0 true 16 xs bad).2 = (xs1, bad1) := ⟨_, _, rfl⟩
  rw [hs1] at r1
  simp only at r1
  have HS1 := Lib.hid hs1
  have H2 := Lib.hid (must_any r1 3 0 false 4)
  have G1 := Lib.hid (Lib.grownBy_trans (World.grownBy_alloc w _ _) g1)
  clear hs1 g1 H1 h
  go_wp2_with fail
  refine H2.out.mono ?_
  rintro en w2 ⟨rfl, r2, g2⟩
  have a2 := a1.kept g2 (r1.ne a1 q14_)
  obtain ⟨ds, xs2, bad2, hs2⟩ : ∃ ds xs2 bad2, mustS 3 0 false 4 xs1 bad1 = (ds, xs2, bad2) := ⟨_, _, _, rfl⟩
  rw [hs2] at r2 ⊢
  simp only at r2 ⊢
  have G2 := Lib.hid (Lib.grownBy_trans G1.out g2)
  have HS2 := Lib.hid hs2
  have hw0 : w0.heap.size ≤ w2.heap.size := by obtain ⟨A, c, m, _, _, hB, _⟩ := r2; exact hB.size
  have a3 := At.new w2 25 #[.string ds, .string ⟨#[]⟩, .bool false]
  have rr := r2.alloc (.cells #[.string ds, .string ⟨#[]⟩, .bool false] 25)
  have H3 := Lib.hid (next_any rr 3 2 false 0)
  have a4 := a2.alloc (.cells #[.string ds, .string ⟨#[]⟩, .bool false] 25)
  clear hs2 g2 H2 r1 a1 G1
  go_wp2_with fail
  refine H3.out.mono ?_
  rintro en w3 ⟨rfl, r3, g3⟩
  obtain ⟨rb, ok, xs3, hs3⟩ : ∃ rb ok xs3, nextS 3 2 false 0 xs2 = (rb, ok, xs3) := ⟨_, _, _, rfl⟩
  rw [hs3] at r3 ⊢
  simp only at r3 ⊢
  have HS3 := Lib.hid hs3
  have b3 := a3.keptR g3 rr q14_
  have b4 := a4.keptR g3 rr q14_
  have G3 := Lib.hid (Lib.grownBy_trans (Lib.grownBy_allocR G2.out _) g3)
  have hne : w.heap.size ≠ w2.heap.size := by have := a2.lt; omega
  have hlt2 : w.heap.size < w2.heap.size := by have := a2.lt; omega
  clear hs3 g3 H3 r2 rr a3 a4 G2 a2
  go_upto_if 20 with fail
  go_cut [] (fun wx => At wx w2.heap.size 25 #[.string ds, .string rb, .bool false] ∧ At wx w.heap.size 25 #[.string ⟨#[]⟩, .string ⟨#[]⟩, .bool false] ∧ RdV w0 wx g xs3 (bad2 || (ok && rb.toList.isEmpty)) ∧ w.grownBy wx (some g))
  case first =>
    cases ok with
    | false =>
      obtain rfl := next_none HS3.out
      go_wp2_with fail
      go_meet
      exact ⟨b3, b4, by rw [Bool.false_and, Bool.or_false]; exact r3, G3.out⟩
    | true =>
      obtain ⟨A, c, m, _⟩ := id r3
      have x1 := (m.cell 1).trans rfl
      have y1 := m.free 1
      have z0 := b3.free 1
      have z1 := (b3.cell 1).trans rfl
      have l3 := b3.lt
      have l4 := m.lt
      have hn := r3.ne b3 q14_
      clear m
      cases bad2
      all_goals
        go_wp2_with fail
        go_meet
        refine ⟨(b3.set 1 _).far hn _, (b4.far hne _).far (r3.ne b4 q14_) _, ?_, Lib.grownBy_trans (grown_far G3.out (by show w.heap.size ≤ w2.heap.size; omega) _) (Lib.grownBy_setCell _ _ _ _)⟩
        have := (r3.set b3 (i := 1) q14_ hw0 (.string rb)).put
        exact this _
  case rest =>
    obtain ⟨c3, c4, q3, G4⟩ := hcut
    obtain ⟨bad3, hb3⟩ : ∃ b, b = (bad2 || (ok && rb.toList.isEmpty)) := ⟨_, rfl⟩
    rw [← hb3] at q3
    have HB3 := Lib.hid hb3
    have G4 := Lib.hid G4
    have H4 := Lib.hid (next_any q3 3 2 false 1)
    clear b3 b4 r3 G3 hb3 w3
    go_wp2_with fail
    refine H4.out.mono ?_
    rintro en w4 ⟨rfl, r4, g4⟩
    obtain ⟨vb, ok2, xs4, hs4⟩ : ∃ vb ok2 xs4, nextS 3 2 false 1 xs3 = (vb, ok2, xs4) := ⟨_, _, _, rfl⟩
    rw [hs4] at r4 ⊢
    simp only at r4 ⊢
    have HS4 := Lib.hid hs4
    have d3 := c3.keptR g4 q3 q14_
    have d4 := c4.keptR g4 q3 q14_
    have G5 := Lib.hid (Lib.grownBy_trans G4.out g4)
    clear hs4 g4 H4 q3 c3 c4 G4
    go_upto_if 39 with fail
    go_cut [] (fun wx => At wx w2.heap.size 25 #[.string ds, .string rb, .bool (if ok2 = true then (boolV vb).1 else false)] ∧ At wx w.heap.size 25 #[.string ⟨#[]⟩, .string ⟨#[]⟩, .bool false] ∧ RdV w0 wx g xs4 (bad3 || (ok2 && (boolV vb).2 != 0)) ∧ w.grownBy wx (some g))
    case first =>
      cases ok2 with
      | false =>
        go_wp2_with fail
        go_meet
        exact ⟨d3, d4, by rw [Bool.false_and, Bool.or_false]; exact r4, G5.out⟩
      | true =>
        obtain ⟨v, e, hv⟩ : ∃ v e, boolV vb = (v, e) := ⟨_, _, rfl⟩
        have hbf := (bool_f vb).trans (congrArg some hv)
        have HBF := Lib.hid hbf
        have HV := Lib.hid hv
        clear hbf hv
        go_wp2_with fail
        refine (ber_Bool.calls vb v e _ HBF.out).mono ?_
        rintro en w5 ⟨rfl, nd, rfl⟩
        obtain ⟨A, c, m, _⟩ := id r4
        have x1 := ((m.drewN nd).cell 1).trans rfl
        have y1 := (m.drewN nd).free 1
        have z0 := (d3.drewN nd).free 2
        have z1 := ((d3.drewN nd).cell 2).trans rfl
        have l3 := d3.lt
        have l4 := m.lt
        have hn := r4.ne d3 q14_
        clear m
        cases bad3
        all_goals
          go_wp2_with fail
          go_meet
          simp only [if_true, HV.out]
          refine ⟨((d3.drewN nd).set 2 _).far hn _, ((d4.drewN nd).far hne _).far (r4.ne d4 q14_) _, ?_, Lib.grownBy_trans (grown_far (grown_drewN G5.out nd) (by show w.heap.size ≤ w2.heap.size; omega) _) (Lib.grownBy_setCell _ _ _ _)⟩
          have := ((r4.drewN nd).set (d3.drewN nd) (i := 2) q14_ hw0 (.bool v)).put
          exact this _
    case rest =>
      obtain ⟨e3, e4, q4, G6⟩ := hcut
      obtain ⟨bad4, hb4⟩ : ∃ b, b = (bad3 || (ok2 && (boolV vb).2 != 0)) := ⟨_, rfl⟩
      obtain ⟨rv, hrv⟩ : ∃ b, b = (if ok2 = true then (boolV vb).1 else false) := ⟨_, rfl⟩
      rw [← hb4] at q4
      rw [← hrv] at e3
      have hout : ks = ((ds, rb, rv), xs4, (bad4 || !(Tx.U ds)) || !(Tx.U rb)) := by
        rw [HK.out, keyS]
        simp only [HS1.out, HS2.out, HS3.out, HS4.out, hb4, hrv, HB3.out]
      have s1 : Small xs1 := by have := (must_small 2 0 true 16 xs bad HS.out).2; rw [HS1.out] at this; exact this
      have s2 := must_small 3 0 false 4 xs1 bad1 s1
      rw [HS2.out] at s2
      have s3 := next_small 3 2 false 0 xs2 s2.2
      rw [HS3.out] at s3
      have hds : ds.size ≤ 2097152 := s2.1
      have hrb : rb.size ≤ 2097152 := s3.1
      clear s1 s2 s3
      have HO := Lib.hid hout
      have G6 := Lib.hid G6
      clear hb4 hrv HK HS HB3 HS1 HS2 HS3 HS4 hout d3 d4 r4 G5
      obtain ⟨A, c, m, _⟩ := id q4
      have x1 := (m.cell 1).trans rfl
      have y1 := m.free 1
      have lk := e3.lt
      have lg4 := m.lt
      have hn := q4.ne e3 q14_
      have z0 := (e3.cell 0).trans rfl
      have z1 := (e3.cell 1).trans rfl
      have z2 := (e3.cell 2).trans rfl
      have hne4 := q4.ne e4 q14_
      have lk4 := e4.lt
      have u0 := (e4.cell 0).trans rfl
      have u1 := (e4.cell 1).trans rfl
      have u2 := (e4.cell 2).trans rfl
      have v0 := e4.free 0
      have v1 := e4.free 1
      have v2 := e4.free 2
      cases bad4 with
      | true =>
        clear m
        go_wp2_with fail
        refine bodyPost_ret (v := .agg #[.string ds, .string rb, .bool rv]) (by simp [results, Tryd.results31, go_sem, *]) rfl ⟨?_, ?_, ?_⟩
        · rw [HO.out]
        · rw [HO.out]
          exact (q4.put _).set3 (e4.far hne4 _) q14_ hwk _ _ _
        · exact grown_far (grown_far (grown_far (Lib.grownBy_trans G6.out (Lib.grownBy_setCell _ _ _ _)) (Nat.le_refl _) _) (Nat.le_refl _) _) (Nat.le_refl _) _
      | false =>
        obtain ⟨ud, hud⟩ : ∃ b, b = Tx.U ds := ⟨_, rfl⟩
        obtain ⟨ur, hur⟩ : ∃ b, b = Tx.U rb := ⟨_, rfl⟩
        have HO2 := HO.out
        rw [← hud, ← hur] at HO2
        have HU1 := Lib.hid (utf8_any ds q2_)
        have HU2 := Lib.hid (utf8_any rb q2_)
        rw [← hud] at HU1
        rw [← hur] at HU2
        have HO := Lib.hid HO2
        clear m HO2 hud hur
        go_wp2_with fail
        refine (HU1.out _).mono ?_
        rintro en w5 ⟨rfl, b5⟩
        have e3' := e3.below b5 e3.lt
        have e4' := e4.below b5 e4.lt
        have q4' := q4.below b5
        have G6' := Lib.hid (Lib.grownBy_below G6.out b5)
        clear x1 y1 z0 z1 z2 u0 u1 u2 v0 v1 v2 lk lk4 lg4 e3 e4 q4 G6 b5
        obtain ⟨A, c, m, _⟩ := id q4'
        have x1 := (m.cell 1).trans rfl
        have y1 := m.free 1
        have lk := e3'.lt
        have lg4 := m.lt
        have hn := q4'.ne e3' q14_
        have z0 := (e3'.cell 0).trans rfl
        have z1 := (e3'.cell 1).trans rfl
        have z2 := (e3'.cell 2).trans rfl
        have hne4 := q4'.ne e4' q14_
        have lk4 := e4'.lt
        have u0 := (e4'.cell 0).trans rfl
        have u1 := (e4'.cell 1).trans rfl
        have u2 := (e4'.cell 2).trans rfl
        have v0 := e4'.free 0
        have v1 := e4'.free 1
        have v2 := e4'.free 2
        cases ud with
        | false =>
          clear m
          go_wp2_with fail
          refine bodyPost_ret (v := .agg #[.string ds, .string rb, .bool rv]) (by simp [results, Tryd.results31, go_sem, *]) rfl ⟨?_, ?_, ?_⟩
          · rw [HO.out]
          · rw [HO.out]
            exact (q4'.put _).set3 (e4'.far hne4 _) q14_ hwk _ _ _
          · exact grown_far (grown_far (grown_far (Lib.grownBy_trans G6'.out (Lib.grownBy_setCell _ _ _ _)) (Nat.le_refl _) _) (Nat.le_refl _) _) (Nat.le_refl _) _
        | true =>
          clear m
          go_wp2_with fail
          refine (HU2.out _).mono ?_
          rintro en w6 ⟨rfl, b6⟩
          have e3 := e3'.below b6 e3'.lt
          have e4 := e4'.below b6 e4'.lt
          have q4 := q4'.below b6
          have G6 := Lib.hid (Lib.grownBy_below G6'.out b6)
          clear x1 y1 z0 z1 z2 u0 u1 u2 v0 v1 v2 lk lk4 lg4 e3' e4' q4' G6' b6
          obtain ⟨A, c, m, _⟩ := id q4
          have x1 := (m.cell 1).trans rfl
          have y1 := m.free 1
          have lk := e3.lt
          have lg4 := m.lt
          have hn := q4.ne e3 q14_
          have z0 := (e3.cell 0).trans rfl
          have z1 := (e3.cell 1).trans rfl
          have z2 := (e3.cell 2).trans rfl
          have hne4 := q4.ne e4 q14_
          have lk4 := e4.lt
          have u0 := (e4.cell 0).trans rfl
          have u1 := (e4.cell 1).trans rfl
          have u2 := (e4.cell 2).trans rfl
          have v0 := e4.free 0
          have v1 := e4.free 1
          have v2 := e4.free 2
          clear m
          cases ur
          all_goals
            go_wp2_with fail
            refine bodyPost_ret (v := .agg #[.string ds, .string rb, .bool rv]) (by simp [results, Tryd.results31, go_sem, *]) rfl ⟨?_, ?_, ?_⟩
            · rw [HO.out]
            · rw [HO.out]
              exact (q4.put _).set3 (e4.far hne4 _) q14_ hwk _ _ _
            · exact grown_far (grown_far (grown_far (Lib.grownBy_trans G6.out (Lib.grownBy_setCell _ _ _ _)) (Nat.le_refl _) _) (Nat.le_refl _) _) (Nat.le_refl _) _
theorem key_small (xs : List NodeT) (bad : Bool) (h : Small xs) : (keyS xs bad).1.1.size ≤ 2097152 ∧ (keyS xs bad).1.2.1.size ≤ 2097152 ∧ Small (keyS xs bad).2.1 := by
  have s1 := (must_small 2 0 true 16 xs bad h).2
  have s2 := must_small 3 0 false 4 _ (mustS 2 0 true 16 xs bad).2.2 s1
  have s3 := next_small 3 2 false 0 _ s2.2
  have s4 := next_small 3 2 false 1 _ s3.2
  exact ⟨s2.1, s3.1, s4.2⟩
def openV (s : ByteArray) : List NodeT × Bool := (mustS 1 0 true 16 (treeS s).1 ((treeS s).2.1 != 0)).2
theorem tree_small (s : ByteArray) (hs : s.size ≤ 2097152) : Small (treeS s).1 := by
  intro n hn
  unfold treeS at hn
  generalize hw : walkS s = r at hn
  obtain ⟨l, x⟩ := r
  have hl : l = (elemF s (2 * s.size + 1) 0 s.size 1).1 := by
    have := congrArg Prod.fst hw
    exact this.symm
  cases x with
  | error x => simp [treeR] at hn
  | ok q =>
    simp only [treeR] at hn
    split at hn
    · cases hn
    · obtain ⟨x, hx, rfl⟩ := List.mem_map.1 hn
      rw [hl] at hx
      have h1 := (elem_in s (2 * s.size + 1)).1 0 s.size 1 x hx
      unfold nodeOf
      simp only
      split
      · exact Nat.zero_le _
      · rw [ByteArray.size_extract]
        omega
set_option maxHeartbeats 4000000 in
theorem open_any (s : ByteArray) (w : World) (hs : s.size ≤ 2097152) :
    Calls Tryd.prog 30 #[.string s] w fun en w' => ∃ w0 g, en = .returned (.pointer (some ⟨g, 0, none⟩)) ∧ w.heap.size ≤ g ∧ RdV w0 w' g (openV s).1 (openV s).2 ∧ Below w.heap.size w w0 := by
  obtain ⟨o, ho⟩ : ∃ o, o = openV s := ⟨_, rfl⟩
  rw [← ho]
  have HO := Lib.hid ho
  clear ho
  go_enter Tryd.func30, Tryd.ntmps30
  go_wp2_with fail
  refine (Tree_any s w hs).mono ?_
  rintro en w1 ⟨v, rfl, hr, hb⟩
  obtain ⟨A, c, rfl, hc, hC⟩ := Kd.R_reads hr
  obtain ⟨l, e, at_, ht⟩ : ∃ l e a, treeS s = (l, e, a) := ⟨_, _, _, rfl⟩
  rw [ht] at hc hC ⊢
  simp only at hc hC ⊢
  have HT := Lib.hid ht
  clear hr ht
  have hq : RdV w1 (w1.alloc (.cells #[.slice A l.length c, .bool (e != 0)] 61)) w1.heap.size l (e != 0) := ⟨A, c, At.new _ _ _, hc, hC, (Below.refl _ _).alloc (Nat.le_refl _) _, Nat.le_refl _⟩
  have hM := Lib.hid (must_any hq 1 0 true 16)
  have hB := Lib.hid hb
  clear hq hb
  go_wp2_with fail
  refine hM.out.mono ?_
  rintro en w2 ⟨rfl, hr2, hg2⟩
  have hs1 := hB.out.size
  have hO : o = (mustS 1 0 true 16 l (e != 0)).2 := by rw [HO.out, openV, HT.out]
  have HO2 := Lib.hid hO
  have HR := Lib.hid hr2
  clear hO hr2 hg2
  go_wp2_with fail
  go_ret
  exact ⟨w1, w1.heap.size, rfl, hs1, by rw [HO2.out]; exact HR.out, hB.out⟩
theorem R_keepG {α : Type} {d : Kd α} {e : Nat} {w w1 : World} {base g : Nat} {ok : Nat → Prop} {v : Value} {xs : List α} {t : TypeId} {cs : Array Value} (h : Kd.R d e w base ok v xs) (hg : w.grownBy w1 (some g)) (hb : At w g t cs) (ht : ∀ q ∈ e :: d.E, t ≠ q) : Kd.R d e w1 base ok v xs := by
  have h2 := Kd.R_move (w1 := w1) (Kd.R_bound h) (fun k hk => hg.block k hk.2.2.1 (by
    rintro e'
    injection e' with e'
    subst e'
    obtain ⟨_, _, _, q, hq, cells, hc⟩ := hk
    unfold At at hb
    rw [hb] at hc
    injection hc with hc
    injection hc with _ h5 _
    exact ht q hq h5))
  exact Kd.R_mono h2 (fun k hk => hk.1)
abbrev KeyT := ByteArray × ByteArray × Bool
def kSK : Kd KeyT := Kd.pair Kd.string (Kd.pair Kd.string Kd.bool)
def keysF : Nat → List NodeT → Bool → List KeyT → List KeyT × Bool
  | 0, _, bad, acc => (acc, bad)
  | n + 1, xs, bad, acc => if bad = false ∧ 0 < xs.length then keysF n (keyS xs bad).2.1 (keyS xs bad).2.2 (acc ++ [(keyS xs bad).1]) else (acc, bad)
theorem nx_less {d cls : Int} {made : Bool} {tag : Int} {xs r : List NodeT} {b : ByteArray} (e : nx d cls made tag xs = some (b, r)) : r.length + 1 = xs.length := by
  cases xs with
  | nil => cases e
  | cons n rest =>
    simp only [nx] at e
    split at e
    · injection e with e
      injection e with e1 e2
      subst e2
      rfl
    · cases e
theorem must_less (d cls : Int) (made : Bool) (tag : Int) (xs : List NodeT) (bad : Bool) : ((mustS d cls made tag xs bad).2.2 = false → (mustS d cls made tag xs bad).2.1.length + 1 = xs.length ∧ bad = false) ∧ (mustS d cls made tag xs bad).2.1.length ≤ xs.length := by
  unfold mustS
  split
  · rename_i b r e
    have := nx_less e
    exact ⟨fun h => ⟨this, h⟩, by simp only; omega⟩
  · exact ⟨(fun h => by cases h), Nat.le_refl _⟩
theorem next_less (d cls : Int) (made : Bool) (tag : Int) (xs : List NodeT) : (nextS d cls made tag xs).2.2.length ≤ xs.length := by
  unfold nextS
  split
  · rename_i b r e
    have := nx_less e
    simp only; omega
  · exact Nat.le_refl _
theorem key_less (xs : List NodeT) (bad : Bool) (h : (keyS xs bad).2.2 = false) : (keyS xs bad).2.1.length < xs.length := by
  have n4 := next_less 3 2 false 1 (nextS 3 2 false 0 (mustS 3 0 false 4 (mustS 2 0 true 16 xs bad).2.1 (mustS 2 0 true 16 xs bad).2.2).2.1).2.2
  have n3 := next_less 3 2 false 0 (mustS 3 0 false 4 (mustS 2 0 true 16 xs bad).2.1 (mustS 2 0 true 16 xs bad).2.2).2.1
  have m2 := must_less 3 0 false 4 (mustS 2 0 true 16 xs bad).2.1 (mustS 2 0 true 16 xs bad).2.2
  have m1 := must_less 2 0 true 16 xs bad
  unfold keyS at h ⊢
  simp only [Bool.or_eq_false_iff] at h ⊢
  have h2 := m2.1 h.1.1.1.1
  omega
def lenOf : Value → Nat
  | .slice _ n _ => n
  | _ => 0
theorem infoSK : (Tryd.prog.info? 25).map (fun i => (i.zero, i.size, i.bytes)) = some (some (.agg #[.string ⟨#[]⟩, .string ⟨#[]⟩, .bool false]), 3, 40) := by kernel_rfl
theorem kSK_mkM (w : World) (base : Nat) (ok : Nat → Prop) (x : KeyT) : kSK.M w base ok x [.string x.1, .string x.2.1, .bool x.2.2] :=
  ⟨[.string x.1], [.string x.2.1, .bool x.2.2], rfl, rfl, ⟨[.string x.2.1], [.bool x.2.2], rfl, rfl, rfl⟩⟩
def decKeys (s : ByteArray) : List KeyT × Int :=
  let r := keysF ((openV s).1.length + 1) (openV s).1 (openV s).2 []
  if r.2 = true then ([], 224) else (r.1, 0)
theorem open_len (s : ByteArray) (hs : s.size ≤ 2097152) : (openV s).1.length ≤ 2097153 ∧ Small (openV s).1 := by
  have hl : (treeS s).1.length ≤ 2097153 := by
    unfold treeS
    generalize hw : walkS s = r
    obtain ⟨l, x⟩ := r
    have hl : l = (elemF s (2 * s.size + 1) 0 s.size 1).1 := (congrArg Prod.fst hw).symm
    have hx : x = (elemF s (2 * s.size + 1) 0 s.size 1).2 := (congrArg Prod.snd hw).symm
    cases x with
    | error x => exact Nat.zero_le _
    | ok q =>
      have h := (elem_ok s (2 * s.size + 1)).1 0 s.size 1 q hx.symm
      rw [← hl] at h
      simp only [treeR]
      split
      · exact Nat.zero_le _
      · rw [List.length_map]; omega
  have h1 := (must_less 1 0 true 16 (treeS s).1 ((treeS s).2.1 != 0)).2
  exact ⟨by unfold openV; omega, (must_small 1 0 true 16 _ _ (tree_small s hs)).2⟩
set_option maxRecDepth 100000 in
set_option maxHeartbeats 8000000 in
theorem decKeys_any (s : ByteArray) (w : World) (hs : s.size ≤ 2097152) :
    Calls Tryd.prog 10 #[.string s] w fun en w' => ∃ v0_ : Value, en = .returned (.tuple #[v0_, .int .i64 (decKeys s).2]) ∧ Kd.R kSK 25 w' w.heap.size (fun _ => True) v0_ (decKeys s).1 ∧ Below w.heap.size w w' := by
  obtain ⟨dk, hdk⟩ : ∃ dk, dk = decKeys s := ⟨_, rfl⟩
  rw [← hdk]
  obtain ⟨hlen, hsm⟩ := open_len s hs
  obtain ⟨xs0, bad0, ho⟩ : ∃ xs0 bad0, openV s = (xs0, bad0) := ⟨_, _, rfl⟩
  obtain ⟨out, hout⟩ : ∃ out, keysF (xs0.length + 1) xs0 bad0 [] = out := ⟨_, rfl⟩
  have hd : dk = if out.2 = true then ([], 224) else (out.1, 0) := by
    rw [hdk, decKeys, ho]
    simp only [hout]
  have hO := Lib.hid (open_any s w hs)
  rw [ho] at hO hlen hsm
  have HD := Lib.hid hd
  have HOUT := Lib.hid hout
  have HSM := Lib.hid hsm
  simp only at hlen
  clear hd hout hdk ho hsm
  go_enter Tryd.func10, Tryd.ntmps10
  go_wp2_with fail
  refine hO.out.mono ?_
  rintro en w1 ⟨w0, g, rfl, hg, hr, hb⟩
  have HR := Lib.hid hr
  have HB := Lib.hid hb
  clear hr hb
  go_wp2_with fail
  go_loopw [5] (fun lv wr => ∃ (acc : List KeyT) (xs : List NodeT) (bad : Bool) (A : Option Addr) (c : Nat), lv = .slice A acc.length c ∧ Kd.R kSK 25 wr w0.heap.size (fun _ => True) (.slice A acc.length c) acc ∧ RdV w0 wr g xs bad ∧
      Hid (keysF (xs0.length + 1 - acc.length) xs bad acc = out) ∧ acc.length + (if bad = true then 0 else xs.length) ≤ xs0.length + (if bad = true then 1 else 0) ∧ Hid (Small xs))
    (fun lv _ => xs0.length + 1 - lenOf lv)
  case atStart =>
    refine ⟨[], xs0, bad0, none, 0, rfl, Kd.R_nil _ _ _ _ _, HR.out, HOUT, ?_, HSM⟩
    cases bad0 <;> simp
  case round =>
    obtain ⟨acc, xs, bad, A, c, rfl, rR, rV, HF, hm, HS⟩ := hrel
    obtain ⟨A1, c1, m1, hc1, hC1, hB1, hg1⟩ := id rV
    have x0 : wr.cell? ⟨g, 0, none⟩ = some (.slice A1 xs.length c1) := (m1.cell 0).trans rfl
    have x1 : wr.cell? ⟨g, 1, none⟩ = some (.bool bad) := (m1.cell 1).trans rfl
    have HC1 := Lib.hid hC1
    have HB1 := Lib.hid hB1
    have z0 := HB.out.size
    have HBB := Lib.hid (HB.out.trans (hB1.mono z0))
    clear m1 hC1 hB1 hc1
    cases bad with
    | true =>
      have hk : out = (acc, true) := by
        rw [← HF.out]
        cases hf : xs0.length + 1 - acc.length with
        | zero => rfl
        | succ n => rw [keysF, if_neg q21_]
      have HK := Lib.hid hk
      have hm' : acc.length ≤ xs0.length + 1 := by simpa using hm
      clear hk hm
      go_wp2_with fail
      refine bodyPost_ret (v := .tuple #[.slice none 0 0, .int .i64 224]) (by simp [results, Tryd.results10, go_sem]) rfl ⟨.slice none 0 0, ?_, ?_, HBB.out⟩
      · rw [HD.out, HK.out]; rfl
      · rw [HD.out, HK.out]; exact Kd.R_nil _ _ _ _ _
    | false =>
      have hm' : acc.length + xs.length ≤ xs0.length := by simpa using hm
      clear hm
      cases xs with
      | nil =>
        have hk : out = (acc, false) := by
          rw [← HF.out]
          cases hf : xs0.length + 1 - acc.length with
          | zero => rfl
          | succ n => rw [keysF, if_neg q21_]
        have HK := Lib.hid hk
        replace x0 : wr.cell? ⟨g, 0, none⟩ = some (.slice A1 0 c1) := x0
        clear hk hm'
        go_wp2_with fail
        refine bodyPost_ret (v := .tuple #[.slice A acc.length c, .int .i64 0]) (by simp [results, Tryd.results10, go_sem]) rfl ⟨.slice A acc.length c, ?_, ?_, HBB.out⟩
        · rw [HD.out, HK.out]; rfl
        · rw [HD.out, HK.out]; exact Kd.R_lower rR z0
      | cons n rest =>
        have hf : xs0.length + 1 - acc.length = (xs0.length + 1 - (acc.length + 1)) + 1 := by simp only [List.length_cons] at hm'; omega
        have hF := HF.out
        obtain ⟨xs, hxs⟩ : ∃ xs, xs = n :: rest := ⟨_, rfl⟩
        have hp : 0 < xs.length := by rw [hxs]; exact Nat.succ_pos _
        rw [← hxs] at x0 HS hm' rV HC1 hF
        rw [hf, keysF, if_pos ⟨rfl, hp⟩] at hF
        have hkl := key_less xs false
        have hks := key_small xs false HS.out
        have hK := Lib.hid (key_any rV HS.out)
        obtain ⟨k, xs', bad', hke⟩ : ∃ k xs' bad', keyS xs false = (k, xs', bad') := ⟨_, _, _, rfl⟩
        rw [hke] at hK hF hkl hks
        simp only at hF hkl hks
        have p0 : (0 : Int) < (xs.length : Int) := by omega
        have HFn := Lib.hid hF
        have hmn : acc.length + 1 + (if bad' = true then 0 else xs'.length) ≤ xs0.length + (if bad' = true then 1 else 0) := by
          cases bad' with
          | true => simp; omega
          | false => have := hkl rfl; simp; omega
        have HMN := Lib.hid hmn
        have hac : acc.length ≤ 2097153 := by omega
        have HSn := Lib.hid hks.2.2
        have mg : ∃ cs, At wr g 61 cs := by obtain ⟨A, c, m, _⟩ := rV; exact ⟨_, m⟩
        clear hF hkl hks hke hmn hf hxs HF HS HC1
        go_wp2_with fail
        refine hK.out.mono ?_
        rintro en w2 ⟨rfl, r2, g2⟩
        obtain ⟨k0, k1, k2⟩ := k
        obtain ⟨_, mg⟩ := mg
        have rR2 := R_keepG rR g2 mg q14_
        obtain ⟨A2, c2, m2, hc2, hC2, hB2, hg2⟩ := id r2
        have zz2 := hB2.size
        have HC2 := Lib.hid hC2
        clear rR rV x0 x1 hK mg g2 HB1 hC2 HBB
        have hlim : (acc.length + 1) * 40 ≤ 140737488355328 := by omega
        go_wp2_with (at_builtin; go_must (refine Kd.R_append kSK (w0 := w0) w0.heap.size rfl (.tmp 21) (.tmp 24) 22 25 _ 40 rfl Tryd.underlying22 infoSK rfl q14_ q14_ (.slice A acc.length c) acc (k0, k1, k2) [.string k0, .string k1, .bool k2] (fun _ => True) (fun _ => False) rfl (by first | (go_simp; done) | (go_simp; rfl)) (kSK_mkM _ _ _ _) (fun _ h => h.elim) (fun _ _ => trivial) rR2 hB2 zz2 hlim ?_); intro v1 w5 hR5 hb5 hg5 hat5)
        have r5 : RdV w0 w5 g xs' bad' := ⟨A2, c2, (hg5.block _ m2.lt (Kd.R_ne rR2 m2 q14_)).trans m2, hc2, HC2.out, hb5, hg2⟩
        obtain ⟨A5, c5, rfl⟩ := Kd.R_slice hR5
        have hlen5 : (acc ++ [(k0, k1, k2)]).length = acc.length + 1 := by simp
        rw [hlen5] at hR5 ⊢
        clear rR2 r2 hg5 hat5 hb5 m2 HC2 hc2
        go_wp2
        go_roundw
        case rel => exact ⟨acc ++ [(k0, k1, k2)], xs', bad', A5, c5, by rw [hlen5], by rw [hlen5]; exact hR5, r5, by rw [hlen5]; exact HFn, by rw [hlen5]; exact HMN.out, HSn⟩
        case measure => simp only [lenOf]; omega
def pageBad (n e : Int) (xs : List NodeT) (bad : Bool) : Bool := bad || (e != 0 || (decide (0 < xs.length) || (decide (n < 0) || decide (2147483647 < n))))
def decPage (s : ByteArray) : Int × ByteArray × Int :=
  let m1 := mustS 2 0 false 2 (openV s).1 (openV s).2
  let m2 := mustS 2 0 false 4 m1.2.1 m1.2.2
  if pageBad (intS m1.1).1 (intS m1.1).2 m2.2.1 m2.2.2 = true then (0, ⟨#[]⟩, 224) else ((intS m1.1).1, m2.1, 0)
set_option maxRecDepth 100000 in
set_option maxHeartbeats 8000000 in
theorem decPage_any (s : ByteArray) (w : World) (hs : s.size ≤ 2097152) :
    Calls Tryd.prog 14 #[.string s] w fun en w' => en = .returned (.tuple #[.int .i64 (decPage s).1, .string (decPage s).2.1, .int .i64 (decPage s).2.2]) ∧ Below w.heap.size w w' := by
  obtain ⟨dk, hdk⟩ : ∃ dk, dk = decPage s := ⟨_, rfl⟩
  rw [← hdk]
  obtain ⟨xs0, bad0, ho⟩ : ∃ xs0 bad0, openV s = (xs0, bad0) := ⟨_, _, rfl⟩
  obtain ⟨b1, xs1, bad1, h1⟩ : ∃ b1 xs1 bad1, mustS 2 0 false 2 xs0 bad0 = (b1, xs1, bad1) := ⟨_, _, _, rfl⟩
  obtain ⟨b2, xs2, bad2, h2⟩ : ∃ b2 xs2 bad2, mustS 2 0 false 4 xs1 bad1 = (b2, xs2, bad2) := ⟨_, _, _, rfl⟩
  obtain ⟨n, e, hn⟩ : ∃ n e, intS b1 = (n, e) := ⟨_, _, rfl⟩
  have hd : dk = if pageBad n e xs2 bad2 = true then (0, ⟨#[]⟩, 224) else (n, b2, 0) := by
    rw [hdk, decPage, ho]
    simp only [h1, h2, hn]
  have hO := Lib.hid (open_any s w hs)
  rw [ho] at hO
  have HD := Lib.hid hd
  have HN := Lib.hid hn
  have HM1 := Lib.hid h1
  have HM2 := Lib.hid h2
  clear hd hdk ho h1 h2 hn
  go_enter Tryd.func14, Tryd.ntmps14
  go_wp2_with fail
  refine hO.out.mono ?_
  rintro en w1 ⟨w0, g, rfl, hg, hr, hb⟩
  have hM := must_any hr 2 0 false 2
  simp only [HM1.out] at hM
  have HM := Lib.hid hM
  have HB := Lib.hid hb
  clear hr hb hO hM
  go_wp2_with fail
  refine HM.out.mono ?_
  rintro en w2 ⟨rfl, hr, -⟩
  have hI := Int_any b1 w2
  rw [HN.out] at hI
  unfold intV at hI
  have HI := Lib.hid hI
  have HR := Lib.hid hr
  clear HM hI hr
  go_wp2_with fail
  refine HI.out.mono ?_
  rintro en w3 ⟨rfl, b3⟩
  have hM := must_any (HR.out.below b3) 2 0 false 4
  simp only [HM2.out] at hM
  have HM := Lib.hid hM
  clear HI HR b3 hM
  go_wp2_with fail
  refine HM.out.mono ?_
  rintro en w4 ⟨rfl, hr, -⟩
  obtain ⟨A, c, m, hc, hC, hB, hg⟩ := hr
  have x0 : w4.cell? ⟨g, 0, none⟩ = some (.slice A xs2.length c) := (m.cell 0).trans rfl
  have x1 : w4.cell? ⟨g, 1, none⟩ = some (.bool bad2) := (m.cell 1).trans rfl
  have hb4 : Below w.heap.size w w4 := HB.out.trans (hB.mono HB.out.size)
  have H4 := Lib.hid hb4
  obtain ⟨L, hL⟩ : ∃ L, L = xs2.length := ⟨_, rfl⟩
  rw [← hL] at x0
  have hd := HD.out
  rw [pageBad, ← hL] at hd
  have HD := Lib.hid hd
  clear HM m hC hB hg hb4 hc hL hd
  cases bad2 with
  | true =>
    have hd : dk = (0, ⟨#[]⟩, 224) := by rw [HD.out]; rfl
    have HD := Lib.hid hd
    clear hd
    go_wp2_with fail
    refine bodyPost_ret (v := .tuple #[.int .i64 0, .string ⟨#[]⟩, .int .i64 224]) q38_ rfl ⟨by rw [HD.out], H4.out⟩
  | false =>
    by_cases he : e = 0
    · subst he
      have e1 : ((0 : Int) != 0) = false := by decide
      by_cases hl : 0 < L
      · have e2 : decide (0 < L) = true := decide_eq_true hl
        have e3 : decide ((0 : Int) < (L : Int)) = true := decide_eq_true q2_
        have hd : dk = (0, ⟨#[]⟩, 224) := by rw [HD.out, e1, e2]; rfl
        have HD := Lib.hid hd
        clear hd e2
        go_wp2_with fail
        refine bodyPost_ret (v := .tuple #[.int .i64 0, .string ⟨#[]⟩, .int .i64 224]) q38_ rfl ⟨by rw [HD.out], H4.out⟩
      · obtain rfl : L = 0 := by omega
        by_cases h0 : n < 0
        · have e2 : decide (n < 0) = true := decide_eq_true h0
          have hd : dk = (0, ⟨#[]⟩, 224) := by rw [HD.out, e1, e2]; rfl
          have HD := Lib.hid hd
          clear hd
          go_wp2_with fail
          refine bodyPost_ret (v := .tuple #[.int .i64 0, .string ⟨#[]⟩, .int .i64 224]) q38_ rfl ⟨by rw [HD.out], H4.out⟩
        · have e2 : decide (n < 0) = false := decide_eq_false h0
          by_cases h9 : 2147483647 < n
          · have e4 : decide (2147483647 < n) = true := decide_eq_true h9
            have hd : dk = (0, ⟨#[]⟩, 224) := by rw [HD.out, e1, e2, e4]; rfl
            have HD := Lib.hid hd
            clear hd
            go_wp2_with fail
            refine bodyPost_ret (v := .tuple #[.int .i64 0, .string ⟨#[]⟩, .int .i64 224]) q38_ rfl ⟨by rw [HD.out], H4.out⟩
          · have e4 : decide (2147483647 < n) = false := decide_eq_false h9
            have hd : dk = (n, b2, 0) := by rw [HD.out, e1, e2, e4]; rfl
            have HD := Lib.hid hd
            clear hd
            go_wp2_with fail
            refine bodyPost_ret (v := .tuple #[.int .i64 n, .string b2, .int .i64 0]) q38_ rfl ⟨by rw [HD.out], H4.out⟩
    · have e1 : (e != 0) = true := bne_iff_ne.2 he
      have hd : dk = (0, ⟨#[]⟩, 224) := by rw [HD.out, e1]; rfl
      have HD := Lib.hid hd
      clear hd
      go_wp2_with fail
      refine bodyPost_ret (v := .tuple #[.int .i64 0, .string ⟨#[]⟩, .int .i64 224]) q38_ rfl ⟨by rw [HD.out], H4.out⟩
end Go.Proofs.YtogjljpncdmlkaaDoor.W
end
