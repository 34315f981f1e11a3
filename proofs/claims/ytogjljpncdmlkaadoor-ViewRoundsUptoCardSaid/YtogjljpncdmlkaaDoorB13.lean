/- Texts of this claim in one: GOx1, BPi, Vr -/
import Derived.Test.YtogjljpncdmlkaaDoorB3
import Derived.Test.YtogjljpncdmlkaaDoorProg
import Derived.Test.YtogjljpncdmlkaaDoorB7
import Derived.Test.YtogjljpncdmlkaaDoorB0
import Derived.WalkLawsBesides
import Derived.WalkSpells
import Derived.RegionTactic
import Derived.ChangeAlike
import Derived.BigRegion
import Derived.IntWalk
import Derived.Lib.Hide
import Derived.Outline
import Derived.Test.YtogjljpncdmlkaaDoorB11
import Derived.Test.YtogjljpncdmlkaaDoorB10
import Derived.Lib.BufferOwn
import Derived.Lib.HexFns
section
namespace Go.Proofs.YtogjljpncdmlkaaDoor.GO
open Go.RowKit Go.Proofs.YtogjljpncdmlkaaDoorW.PrintWords Go.Proofs.YtogjljpncdmlkaaDoorW.PrintLast Go.Proofs.YtogjljpncdmlkaaDoorW.PrintMore
attribute [local go_sem] max2_int min2_int max_two min_two max_three min_three max_four min_four   -- for this text's walks alone
set_option linter.unusedVariables false
set_option linter.unusedSimpArgs false
theorem eqA25 (d : Nat) (w : World) (x0 y0 : ByteArray) (x1 y1 : ByteArray) (x2 y2 : Bool) :
  (Op.equalIn (d + 2) 25 (.agg #[.string x0, .string x1, .bool x2]) (.agg #[.string y0, .string y1, .bool y2])).run Tryd.prog w = .ok (x0.toList == y0.toList && (x1.toList == y1.toList && (x2 == y2))) w := by
 refine eqA_of Tryd.underlying25 q13_ ?_
 refine eqf_cons q30_ (by go_simp; rfl) (by go_simp; rfl) (by go_simp) ?_
 refine eqf_cons q30_ (by go_simp; rfl) (by go_simp; rfl) (by go_simp) ?_
 exact eqf_last q30_ (by go_simp; rfl) (by go_simp; rfl) (by go_simp)
end Go.Proofs.YtogjljpncdmlkaaDoor.GO
end
section
namespace Go.Proofs.YtogjljpncdmlkaaDoor.W
open Go.RowKit Go.Proofs.YtogjljpncdmlkaaDoorW.PrintWords
set_option linter.unusedVariables false
set_option linter.unusedSimpArgs false
theorem info_u8 : (Tryd.prog.info? 5).map (fun i => (i.zero, i.size, i.bytes)) = some (some (.int .u8 0), 1, 1) := by kernel_rfl
def putAt (n : Int) (c j : Nat) : Int := n / 2 ^ (8 * (c - 1 - j)) % 256
def putArr (n : Int) (c : Nat) (q : Int) : Array Value := Array.ofFn (n := c) fun j => .int .u8 (if (j.val : Int) < q then putAt n c j.val else 0)
def putL (n : Int) (c : Nat) : List Int := List.ofFn (n := c) fun j => putAt n c j.val
theorem putArr_get (n : Int) (c : Nat) (q : Int) (i : Nat) : (putArr n c q)[i]? = if i < c then some (.int .u8 (if (i : Int) < q then putAt n c i else 0)) else none := by
  unfold putArr
  rw [Array.getElem?_ofFn]
  by_cases h : i < c
  · rw [dif_pos h, if_pos h]
  · rw [dif_neg h, if_neg h]
theorem putArr_size (n : Int) (c : Nat) (q : Int) : (putArr n c q).size = c := by simp [putArr]
theorem putArr_set (n : Int) (c : Nat) (q : Int) (h0 : 0 ≤ q) (h1 : q < c) : (putArr n c q).setIfInBounds q.toNat (.int .u8 (putAt n c q.toNat)) = putArr n c (q + 1) := by
  apply Array.ext_getElem?
  intro i
  rw [Array.getElem?_setIfInBounds, putArr_get, putArr_get, putArr_size]
  by_cases e : q.toNat = i
  · subst e
    rw [if_pos rfl, if_pos q2_, if_pos q2_, if_pos q2_]
  · rw [if_neg e]
    by_cases l : (i : Int) < q
    · rw [if_pos l, if_pos (show (i : Int) < q + 1 by omega)]
    · rw [if_neg l, if_neg (show ¬ (i : Int) < q + 1 by omega)]
theorem putArr_at (n : Int) (c : Nat) (q : Int) (h0 : 0 ≤ q) (h1 : q < c) : (putArr n c q)[q.toNat]? = some (.int .u8 0) := by
  rw [putArr_get, if_pos q2_, if_neg q2_]
theorem putArr_0 (n : Int) (c : Nat) : madeCells #[.int .u8 0] c = putArr n c 0 := by
  apply Array.ext
  · simp [putArr, size_madeCells]
  · intro i hi hi2
    simp [putArr, madeCells, Nat.mod_one]
    omega
theorem make_u8 (n : Int) (m : Nat) (hm : m ≤ 8) : ∀ W : World, (Instr.makeSlice 39 (.int .i64 (m : Int)) (.int .i64 (m : Int))).run Tryd.prog W = .ok (.slice (some ⟨W.heap.size, 0, none⟩) m m) (W.alloc (.cells (putArr n m 0) 5)) := by
  rw [← putArr_0 n m]
  exact print_make (P := Tryd.prog) 39 5 .u8 1 Tryd.underlying39 info_u8 q14_ m q2_
theorem put_conv (n : Int) (c : Nat) (hc : c ≤ 8) (w : World) (b : Nat) (h : At w b 5 (putArr n c c)) : (convert 39 9 (.slice (some ⟨b, 0, none⟩) c c)).run Tryd.prog w = .ok (.string (strOfNums (putL n c))) w := by
  refine string_of_reads Tryd.underlying39 Tryd.underlying5 Tryd.underlying9 ⟨by simp [putL], q2_, fun _ => ⟨_, rfl, fun j hj => ?_⟩⟩
  have e : (putL n c).getD j 0 = putAt n c j := by
    rw [List.getD_eq_getElem?_getD, List.getElem?_eq_getElem (by simpa [putL] using hj)]
    simp [putL]
  have e2 : (⟨b, 0, none⟩ : Addr).add j = ⟨b, j, none⟩ := by
    unfold Addr.add
    split
    · rename_i h; subst h; rfl
    · simp
  rw [e, e2, h.cell j, Array.getElem?_eq_getElem (by simpa [putArr] using hj)]
  simp only [putArr, Array.getElem_ofFn]
  rw [if_pos q2_]
def fits (n : Int) (c : Nat) : Prop := -(2 ^ (8 * c - 1) : Int) ≤ n ∧ n < (2 ^ (8 * c - 1) : Int)
set_option maxRecDepth 100000 in
set_option maxHeartbeats 1000000 in
theorem put_1 (n : Int) (w : World) (hin : fits n 1) (hout : ∀ k, 1 ≤ k → k < 1 → ¬ fits n k) :
    Calls Tryd.prog 33 #[.int .i64 n] w fun en w' => en = .returned (.string (strOfNums (putL n 1))) ∧ Below w.heap.size w w' := by
  clear hout
  obtain ⟨hi1, hi2⟩ : -128 ≤ n ∧ n < 128 := hin
  have hm : ∀ W : World, (Instr.makeSlice 39 (.int .i64 1) (.int .i64 1)).run Tryd.prog W = .ok (.slice (some ⟨W.heap.size, 0, none⟩) 1 1) (W.alloc (.cells (putArr n 1 0) 5)) := make_u8 n 1 q2_
  go_enter Tryd.func33, Tryd.ntmps33
  go_wp2
  go_loopw [3] (fun i wr => ∃ k : Int, 1 ≤ k ∧ k ≤ 1 ∧ i = .int .i64 k ∧ w = wr)
    (fun i _ => (1 - intOf i).toNat)
  case atStart => exact ⟨1, q2_, q2_, rfl, rfl⟩
  case round =>
    obtain ⟨k, hk, hk2, rfl, rfl⟩ := hrel
    obtain rfl : k = 1 := by omega
    · go_wp2
      have kz := At.new w 5 (putArr n 1 0)
      have hB := (Below.refl w.heap.size w).alloc (Nat.le_refl _) (.cells (putArr n 1 0) 5)
      generalize w.alloc (.cells (putArr n 1 0) 5) = W at kz hB ⊢
      go_loopw [30] (fun i w2 => ∃ q : Int, 0 ≤ q ∧ q ≤ 1 ∧ i = .int .i64 q ∧ At w2 w.heap.size 5 (putArr n 1 q) ∧ Below w.heap.size w w2)
        (fun i _ => (1 - intOf i).toNat)
      case atStart => exact ⟨0, q2_, q2_, rfl, kz, hB⟩
      case round =>
        obtain ⟨q, q0, q3, rfl, rA, rB⟩ := hrel
        have lt1 := rA.lt
        by_cases hq : q < 1
        · have cq := (rA.cell q.toNat).trans (putArr_at n 1 q q0 hq)
          have fq := rA.free q.toNat
          have rN := rA.set q.toNat (.int .u8 (n / 2 ^ (8 * -q).toNat % 256))
          have eq : n / 2 ^ (8 * -q).toNat % 256 = putAt n 1 q.toNat := by
            unfold putAt
            rw [show (8 * -q).toNat = 8 * (1 - 1 - q.toNat) by omega]
          have rN2 : At (wr.setCell ⟨w.heap.size, q.toNat, none⟩ (.int .u8 (n / 2 ^ (8 * -q).toNat % 256))) w.heap.size 5 (putArr n 1 (q + 1)) := by
            rw [← putArr_set n 1 q q0 hq, ← eq]
            exact rN
          clear rN eq
          go_wp2
          go_roundw
          case rel => exact ⟨q + 1, q2_, q2_, q21_, rN2, rB.setCell q21_ _⟩
          case measure => simp [intOf]; omega
        · obtain rfl : q = 1 := by omega
          have hcv := put_conv n 1 q2_ _ _ rA
          go_wp2
          go_ret
          exact ⟨rfl, rB⟩
set_option maxRecDepth 100000 in
set_option maxHeartbeats 1000000 in
theorem put_2 (n : Int) (w : World) (hin : fits n 2) (hout : ∀ k, 1 ≤ k → k < 2 → ¬ fits n k) :
    Calls Tryd.prog 33 #[.int .i64 n] w fun en w' => en = .returned (.string (strOfNums (putL n 2))) ∧ Below w.heap.size w w' := by
  have o1 : ¬ (-128 ≤ n ∧ n < 128) := hout 1 q2_ q2_
  clear hout
  obtain ⟨hi1, hi2⟩ : -32768 ≤ n ∧ n < 32768 := hin
  have hm : ∀ W : World, (Instr.makeSlice 39 (.int .i64 2) (.int .i64 2)).run Tryd.prog W = .ok (.slice (some ⟨W.heap.size, 0, none⟩) 2 2) (W.alloc (.cells (putArr n 2 0) 5)) := make_u8 n 2 q2_
  go_enter Tryd.func33, Tryd.ntmps33
  go_wp2
  go_loopw [3] (fun i wr => ∃ k : Int, 1 ≤ k ∧ k ≤ 2 ∧ i = .int .i64 k ∧ w = wr)
    (fun i _ => (2 - intOf i).toNat)
  case atStart => exact ⟨1, q2_, q2_, rfl, rfl⟩
  case round =>
    obtain ⟨k, hk, hk2, rfl, rfl⟩ := hrel
    rcases (show k = 1 ∨ k = 2 by omega) with rfl | rfl
    · by_cases hn : n < -128
      · go_wp2
        go_roundw
        case rel => exact ⟨2, q2_, q2_, rfl, trivial⟩
        case measure => simp [intOf]
      · have hn2 : 128 ≤ n := by omega
        go_wp2
        go_roundw
        case rel => exact ⟨2, q2_, q2_, rfl, trivial⟩
        case measure => simp [intOf]
    · go_wp2
      have kz := At.new w 5 (putArr n 2 0)
      have hB := (Below.refl w.heap.size w).alloc (Nat.le_refl _) (.cells (putArr n 2 0) 5)
      generalize w.alloc (.cells (putArr n 2 0) 5) = W at kz hB ⊢
      go_loopw [30] (fun i w2 => ∃ q : Int, 0 ≤ q ∧ q ≤ 2 ∧ i = .int .i64 q ∧ At w2 w.heap.size 5 (putArr n 2 q) ∧ Below w.heap.size w w2)
        (fun i _ => (2 - intOf i).toNat)
      case atStart => exact ⟨0, q2_, q2_, rfl, kz, hB⟩
      case round =>
        obtain ⟨q, q0, q3, rfl, rA, rB⟩ := hrel
        have lt1 := rA.lt
        by_cases hq : q < 2
        · have cq := (rA.cell q.toNat).trans (putArr_at n 2 q q0 hq)
          have fq := rA.free q.toNat
          have rN := rA.set q.toNat (.int .u8 (n / 2 ^ (8 * (1 - q)).toNat % 256))
          have eq : n / 2 ^ (8 * (1 - q)).toNat % 256 = putAt n 2 q.toNat := by
            unfold putAt
            rw [show (8 * (1 - q)).toNat = 8 * (2 - 1 - q.toNat) by omega]
          have rN2 : At (wr.setCell ⟨w.heap.size, q.toNat, none⟩ (.int .u8 (n / 2 ^ (8 * (1 - q)).toNat % 256))) w.heap.size 5 (putArr n 2 (q + 1)) := by
            rw [← putArr_set n 2 q q0 hq, ← eq]
            exact rN
          clear rN eq
          go_wp2
          go_roundw
          case rel => exact ⟨q + 1, q2_, q2_, q21_, rN2, rB.setCell q21_ _⟩
          case measure => simp [intOf]; omega
        · obtain rfl : q = 2 := by omega
          have hcv := put_conv n 2 q2_ _ _ rA
          go_wp2
          go_ret
          exact ⟨rfl, rB⟩
set_option maxRecDepth 100000 in
set_option maxHeartbeats 1000000 in
theorem put_3 (n : Int) (w : World) (hin : fits n 3) (hout : ∀ k, 1 ≤ k → k < 3 → ¬ fits n k) :
    Calls Tryd.prog 33 #[.int .i64 n] w fun en w' => en = .returned (.string (strOfNums (putL n 3))) ∧ Below w.heap.size w w' := by
  have o1 : ¬ (-128 ≤ n ∧ n < 128) := hout 1 q2_ q2_
  have o2 : ¬ (-32768 ≤ n ∧ n < 32768) := hout 2 q2_ q2_
  clear hout
  obtain ⟨hi1, hi2⟩ : -8388608 ≤ n ∧ n < 8388608 := hin
  have hm : ∀ W : World, (Instr.makeSlice 39 (.int .i64 3) (.int .i64 3)).run Tryd.prog W = .ok (.slice (some ⟨W.heap.size, 0, none⟩) 3 3) (W.alloc (.cells (putArr n 3 0) 5)) := make_u8 n 3 q2_
  go_enter Tryd.func33, Tryd.ntmps33
  go_wp2
  go_loopw [3] (fun i wr => ∃ k : Int, 1 ≤ k ∧ k ≤ 3 ∧ i = .int .i64 k ∧ w = wr)
    (fun i _ => (3 - intOf i).toNat)
  case atStart => exact ⟨1, q2_, q2_, rfl, rfl⟩
  case round =>
    obtain ⟨k, hk, hk2, rfl, rfl⟩ := hrel
    rcases (show k = 1 ∨ k = 2 ∨ k = 3 by omega) with rfl | rfl | rfl
    · by_cases hn : n < -128
      · go_wp2
        go_roundw
        case rel => exact ⟨2, q2_, q2_, rfl, trivial⟩
        case measure => simp [intOf]
      · have hn2 : 128 ≤ n := by omega
        go_wp2
        go_roundw
        case rel => exact ⟨2, q2_, q2_, rfl, trivial⟩
        case measure => simp [intOf]
    · by_cases hn : n < -32768
      · go_wp2
        go_roundw
        case rel => exact ⟨3, q2_, q2_, rfl, trivial⟩
        case measure => simp [intOf]
      · have hn2 : 32768 ≤ n := by omega
        go_wp2
        go_roundw
        case rel => exact ⟨3, q2_, q2_, rfl, trivial⟩
        case measure => simp [intOf]
    · go_wp2
      have kz := At.new w 5 (putArr n 3 0)
      have hB := (Below.refl w.heap.size w).alloc (Nat.le_refl _) (.cells (putArr n 3 0) 5)
      generalize w.alloc (.cells (putArr n 3 0) 5) = W at kz hB ⊢
      go_loopw [30] (fun i w2 => ∃ q : Int, 0 ≤ q ∧ q ≤ 3 ∧ i = .int .i64 q ∧ At w2 w.heap.size 5 (putArr n 3 q) ∧ Below w.heap.size w w2)
        (fun i _ => (3 - intOf i).toNat)
      case atStart => exact ⟨0, q2_, q2_, rfl, kz, hB⟩
      case round =>
        obtain ⟨q, q0, q3, rfl, rA, rB⟩ := hrel
        have lt1 := rA.lt
        by_cases hq : q < 3
        · have cq := (rA.cell q.toNat).trans (putArr_at n 3 q q0 hq)
          have fq := rA.free q.toNat
          have rN := rA.set q.toNat (.int .u8 (n / 2 ^ (8 * (2 - q)).toNat % 256))
          have eq : n / 2 ^ (8 * (2 - q)).toNat % 256 = putAt n 3 q.toNat := by
            unfold putAt
            rw [show (8 * (2 - q)).toNat = 8 * (3 - 1 - q.toNat) by omega]
          have rN2 : At (wr.setCell ⟨w.heap.size, q.toNat, none⟩ (.int .u8 (n / 2 ^ (8 * (2 - q)).toNat % 256))) w.heap.size 5 (putArr n 3 (q + 1)) := by
            rw [← putArr_set n 3 q q0 hq, ← eq]
            exact rN
          clear rN eq
          go_wp2
          go_roundw
          case rel => exact ⟨q + 1, q2_, q2_, q21_, rN2, rB.setCell q21_ _⟩
          case measure => simp [intOf]; omega
        · obtain rfl : q = 3 := by omega
          have hcv := put_conv n 3 q2_ _ _ rA
          go_wp2
          go_ret
          exact ⟨rfl, rB⟩
set_option maxRecDepth 100000 in
set_option maxHeartbeats 1000000 in
theorem put_4 (n : Int) (w : World) (hin : fits n 4) (hout : ∀ k, 1 ≤ k → k < 4 → ¬ fits n k) :
    Calls Tryd.prog 33 #[.int .i64 n] w fun en w' => en = .returned (.string (strOfNums (putL n 4))) ∧ Below w.heap.size w w' := by
  have o1 : ¬ (-128 ≤ n ∧ n < 128) := hout 1 q2_ q2_
  have o2 : ¬ (-32768 ≤ n ∧ n < 32768) := hout 2 q2_ q2_
  have o3 : ¬ (-8388608 ≤ n ∧ n < 8388608) := hout 3 q2_ q2_
  clear hout
  obtain ⟨hi1, hi2⟩ : -2147483648 ≤ n ∧ n < 2147483648 := hin
  have hm : ∀ W : World, (Instr.makeSlice 39 (.int .i64 4) (.int .i64 4)).run Tryd.prog W = .ok (.slice (some ⟨W.heap.size, 0, none⟩) 4 4) (W.alloc (.cells (putArr n 4 0) 5)) := make_u8 n 4 q2_
  go_enter Tryd.func33, Tryd.ntmps33
  go_wp2
  go_loopw [3] (fun i wr => ∃ k : Int, 1 ≤ k ∧ k ≤ 4 ∧ i = .int .i64 k ∧ w = wr)
    (fun i _ => (4 - intOf i).toNat)
  case atStart => exact ⟨1, q2_, q2_, rfl, rfl⟩
  case round =>
    obtain ⟨k, hk, hk2, rfl, rfl⟩ := hrel
    rcases (show k = 1 ∨ k = 2 ∨ k = 3 ∨ k = 4 by omega) with rfl | rfl | rfl | rfl
    · by_cases hn : n < -128
      · go_wp2
        go_roundw
        case rel => exact ⟨2, q2_, q2_, rfl, trivial⟩
        case measure => simp [intOf]
      · have hn2 : 128 ≤ n := by omega
        go_wp2
        go_roundw
        case rel => exact ⟨2, q2_, q2_, rfl, trivial⟩
        case measure => simp [intOf]
    · by_cases hn : n < -32768
      · go_wp2
        go_roundw
        case rel => exact ⟨3, q2_, q2_, rfl, trivial⟩
        case measure => simp [intOf]
      · have hn2 : 32768 ≤ n := by omega
        go_wp2
        go_roundw
        case rel => exact ⟨3, q2_, q2_, rfl, trivial⟩
        case measure => simp [intOf]
    · by_cases hn : n < -8388608
      · go_wp2
        go_roundw
        case rel => exact ⟨4, q2_, q2_, rfl, trivial⟩
        case measure => simp [intOf]
      · have hn2 : 8388608 ≤ n := by omega
        go_wp2
        go_roundw
        case rel => exact ⟨4, q2_, q2_, rfl, trivial⟩
        case measure => simp [intOf]
    · go_wp2
      have kz := At.new w 5 (putArr n 4 0)
      have hB := (Below.refl w.heap.size w).alloc (Nat.le_refl _) (.cells (putArr n 4 0) 5)
      generalize w.alloc (.cells (putArr n 4 0) 5) = W at kz hB ⊢
      go_loopw [30] (fun i w2 => ∃ q : Int, 0 ≤ q ∧ q ≤ 4 ∧ i = .int .i64 q ∧ At w2 w.heap.size 5 (putArr n 4 q) ∧ Below w.heap.size w w2)
        (fun i _ => (4 - intOf i).toNat)
      case atStart => exact ⟨0, q2_, q2_, rfl, kz, hB⟩
      case round =>
        obtain ⟨q, q0, q3, rfl, rA, rB⟩ := hrel
        have lt1 := rA.lt
        by_cases hq : q < 4
        · have cq := (rA.cell q.toNat).trans (putArr_at n 4 q q0 hq)
          have fq := rA.free q.toNat
          have rN := rA.set q.toNat (.int .u8 (n / 2 ^ (8 * (3 - q)).toNat % 256))
          have eq : n / 2 ^ (8 * (3 - q)).toNat % 256 = putAt n 4 q.toNat := by
            unfold putAt
            rw [show (8 * (3 - q)).toNat = 8 * (4 - 1 - q.toNat) by omega]
          have rN2 : At (wr.setCell ⟨w.heap.size, q.toNat, none⟩ (.int .u8 (n / 2 ^ (8 * (3 - q)).toNat % 256))) w.heap.size 5 (putArr n 4 (q + 1)) := by
            rw [← putArr_set n 4 q q0 hq, ← eq]
            exact rN
          clear rN eq
          go_wp2
          go_roundw
          case rel => exact ⟨q + 1, q2_, q2_, q21_, rN2, rB.setCell q21_ _⟩
          case measure => simp [intOf]; omega
        · obtain rfl : q = 4 := by omega
          have hcv := put_conv n 4 q2_ _ _ rA
          go_wp2
          go_ret
          exact ⟨rfl, rB⟩
set_option maxRecDepth 100000 in
set_option maxHeartbeats 1000000 in
theorem put_5 (n : Int) (w : World) (hin : fits n 5) (hout : ∀ k, 1 ≤ k → k < 5 → ¬ fits n k) :
    Calls Tryd.prog 33 #[.int .i64 n] w fun en w' => en = .returned (.string (strOfNums (putL n 5))) ∧ Below w.heap.size w w' := by
  have o1 : ¬ (-128 ≤ n ∧ n < 128) := hout 1 q2_ q2_
  have o2 : ¬ (-32768 ≤ n ∧ n < 32768) := hout 2 q2_ q2_
  have o3 : ¬ (-8388608 ≤ n ∧ n < 8388608) := hout 3 q2_ q2_
  have o4 : ¬ (-2147483648 ≤ n ∧ n < 2147483648) := hout 4 q2_ q2_
  clear hout
  obtain ⟨hi1, hi2⟩ : -549755813888 ≤ n ∧ n < 549755813888 := hin
  have hm : ∀ W : World, (Instr.makeSlice 39 (.int .i64 5) (.int .i64 5)).run Tryd.prog W = .ok (.slice (some ⟨W.heap.size, 0, none⟩) 5 5) (W.alloc (.cells (putArr n 5 0) 5)) := make_u8 n 5 q2_
  go_enter Tryd.func33, Tryd.ntmps33
  go_wp2
  go_loopw [3] (fun i wr => ∃ k : Int, 1 ≤ k ∧ k ≤ 5 ∧ i = .int .i64 k ∧ w = wr)
    (fun i _ => (5 - intOf i).toNat)
  case atStart => exact ⟨1, q2_, q2_, rfl, rfl⟩
  case round =>
    obtain ⟨k, hk, hk2, rfl, rfl⟩ := hrel
    rcases (show k = 1 ∨ k = 2 ∨ k = 3 ∨ k = 4 ∨ k = 5 by omega) with rfl | rfl | rfl | rfl | rfl
    · by_cases hn : n < -128
      · go_wp2
        go_roundw
        case rel => exact ⟨2, q2_, q2_, rfl, trivial⟩
        case measure => simp [intOf]
      · have hn2 : 128 ≤ n := by omega
        go_wp2
        go_roundw
        case rel => exact ⟨2, q2_, q2_, rfl, trivial⟩
        case measure => simp [intOf]
    · by_cases hn : n < -32768
      · go_wp2
        go_roundw
        case rel => exact ⟨3, q2_, q2_, rfl, trivial⟩
        case measure => simp [intOf]
      · have hn2 : 32768 ≤ n := by omega
        go_wp2
        go_roundw
        case rel => exact ⟨3, q2_, q2_, rfl, trivial⟩
        case measure => simp [intOf]
    · by_cases hn : n < -8388608
      · go_wp2
        go_roundw
        case rel => exact ⟨4, q2_, q2_, rfl, trivial⟩
        case measure => simp [intOf]
      · have hn2 : 8388608 ≤ n := by omega
        go_wp2
        go_roundw
        case rel => exact ⟨4, q2_, q2_, rfl, trivial⟩
        case measure => simp [intOf]
    · by_cases hn : n < -2147483648
      · go_wp2
        go_roundw
        case rel => exact ⟨5, q2_, q2_, rfl, trivial⟩
        case measure => simp [intOf]
      · have hn2 : 2147483648 ≤ n := by omega
        go_wp2
        go_roundw
        case rel => exact ⟨5, q2_, q2_, rfl, trivial⟩
        case measure => simp [intOf]
    · go_wp2
      have kz := At.new w 5 (putArr n 5 0)
      have hB := (Below.refl w.heap.size w).alloc (Nat.le_refl _) (.cells (putArr n 5 0) 5)
      generalize w.alloc (.cells (putArr n 5 0) 5) = W at kz hB ⊢
      go_loopw [30] (fun i w2 => ∃ q : Int, 0 ≤ q ∧ q ≤ 5 ∧ i = .int .i64 q ∧ At w2 w.heap.size 5 (putArr n 5 q) ∧ Below w.heap.size w w2)
        (fun i _ => (5 - intOf i).toNat)
      case atStart => exact ⟨0, q2_, q2_, rfl, kz, hB⟩
      case round =>
        obtain ⟨q, q0, q3, rfl, rA, rB⟩ := hrel
        have lt1 := rA.lt
        by_cases hq : q < 5
        · have cq := (rA.cell q.toNat).trans (putArr_at n 5 q q0 hq)
          have fq := rA.free q.toNat
          have rN := rA.set q.toNat (.int .u8 (n / 2 ^ (8 * (4 - q)).toNat % 256))
          have eq : n / 2 ^ (8 * (4 - q)).toNat % 256 = putAt n 5 q.toNat := by
            unfold putAt
            rw [show (8 * (4 - q)).toNat = 8 * (5 - 1 - q.toNat) by omega]
          have rN2 : At (wr.setCell ⟨w.heap.size, q.toNat, none⟩ (.int .u8 (n / 2 ^ (8 * (4 - q)).toNat % 256))) w.heap.size 5 (putArr n 5 (q + 1)) := by
            rw [← putArr_set n 5 q q0 hq, ← eq]
            exact rN
          clear rN eq
          go_wp2
          go_roundw
          case rel => exact ⟨q + 1, q2_, q2_, q21_, rN2, rB.setCell q21_ _⟩
          case measure => simp [intOf]; omega
        · obtain rfl : q = 5 := by omega
          have hcv := put_conv n 5 q2_ _ _ rA
          go_wp2
          go_ret
          exact ⟨rfl, rB⟩
set_option maxRecDepth 100000 in
set_option maxHeartbeats 1000000 in
theorem put_6 (n : Int) (w : World) (hin : fits n 6) (hout : ∀ k, 1 ≤ k → k < 6 → ¬ fits n k) :
    Calls Tryd.prog 33 #[.int .i64 n] w fun en w' => en = .returned (.string (strOfNums (putL n 6))) ∧ Below w.heap.size w w' := by
  have o1 : ¬ (-128 ≤ n ∧ n < 128) := hout 1 q2_ q2_
  have o2 : ¬ (-32768 ≤ n ∧ n < 32768) := hout 2 q2_ q2_
  have o3 : ¬ (-8388608 ≤ n ∧ n < 8388608) := hout 3 q2_ q2_
  have o4 : ¬ (-2147483648 ≤ n ∧ n < 2147483648) := hout 4 q2_ q2_
  have o5 : ¬ (-549755813888 ≤ n ∧ n < 549755813888) := hout 5 q2_ q2_
  clear hout
  obtain ⟨hi1, hi2⟩ : -140737488355328 ≤ n ∧ n < 140737488355328 := hin
  have hm : ∀ W : World, (Instr.makeSlice 39 (.int .i64 6) (.int .i64 6)).run Tryd.prog W = .ok (.slice (some ⟨W.heap.size, 0, none⟩) 6 6) (W.alloc (.cells (putArr n 6 0) 5)) := make_u8 n 6 q2_
  go_enter Tryd.func33, Tryd.ntmps33
  go_wp2
  go_loopw [3] (fun i wr => ∃ k : Int, 1 ≤ k ∧ k ≤ 6 ∧ i = .int .i64 k ∧ w = wr)
    (fun i _ => (6 - intOf i).toNat)
  case atStart => exact ⟨1, q2_, q2_, rfl, rfl⟩
  case round =>
    obtain ⟨k, hk, hk2, rfl, rfl⟩ := hrel
    rcases (show k = 1 ∨ k = 2 ∨ k = 3 ∨ k = 4 ∨ k = 5 ∨ k = 6 by omega) with rfl | rfl | rfl | rfl | rfl | rfl
    · by_cases hn : n < -128
      · go_wp2
        go_roundw
        case rel => exact ⟨2, q2_, q2_, rfl, trivial⟩
        case measure => simp [intOf]
      · have hn2 : 128 ≤ n := by omega
        go_wp2
        go_roundw
        case rel => exact ⟨2, q2_, q2_, rfl, trivial⟩
        case measure => simp [intOf]
    · by_cases hn : n < -32768
      · go_wp2
        go_roundw
        case rel => exact ⟨3, q2_, q2_, rfl, trivial⟩
        case measure => simp [intOf]
      · have hn2 : 32768 ≤ n := by omega
        go_wp2
        go_roundw
        case rel => exact ⟨3, q2_, q2_, rfl, trivial⟩
        case measure => simp [intOf]
    · by_cases hn : n < -8388608
      · go_wp2
        go_roundw
        case rel => exact ⟨4, q2_, q2_, rfl, trivial⟩
        case measure => simp [intOf]
      · have hn2 : 8388608 ≤ n := by omega
        go_wp2
        go_roundw
        case rel => exact ⟨4, q2_, q2_, rfl, trivial⟩
        case measure => simp [intOf]
    · by_cases hn : n < -2147483648
      · go_wp2
        go_roundw
        case rel => exact ⟨5, q2_, q2_, rfl, trivial⟩
        case measure => simp [intOf]
      · have hn2 : 2147483648 ≤ n := by omega
        go_wp2
        go_roundw
        case rel => exact ⟨5, q2_, q2_, rfl, trivial⟩
        case measure => simp [intOf]
    · by_cases hn : n < -549755813888
      · go_wp2
        go_roundw
        case rel => exact ⟨6, q2_, q2_, rfl, trivial⟩
        case measure => simp [intOf]
      · have hn2 : 549755813888 ≤ n := by omega
        go_wp2
        go_roundw
        case rel => exact ⟨6, q2_, q2_, rfl, trivial⟩
        case measure => simp [intOf]
    · go_wp2
      have kz := At.new w 5 (putArr n 6 0)
      have hB := (Below.refl w.heap.size w).alloc (Nat.le_refl _) (.cells (putArr n 6 0) 5)
      generalize w.alloc (.cells (putArr n 6 0) 5) = W at kz hB ⊢
      go_loopw [30] (fun i w2 => ∃ q : Int, 0 ≤ q ∧ q ≤ 6 ∧ i = .int .i64 q ∧ At w2 w.heap.size 5 (putArr n 6 q) ∧ Below w.heap.size w w2)
        (fun i _ => (6 - intOf i).toNat)
      case atStart => exact ⟨0, q2_, q2_, rfl, kz, hB⟩
      case round =>
        obtain ⟨q, q0, q3, rfl, rA, rB⟩ := hrel
        have lt1 := rA.lt
        by_cases hq : q < 6
        · have cq := (rA.cell q.toNat).trans (putArr_at n 6 q q0 hq)
          have fq := rA.free q.toNat
          have rN := rA.set q.toNat (.int .u8 (n / 2 ^ (8 * (5 - q)).toNat % 256))
          have eq : n / 2 ^ (8 * (5 - q)).toNat % 256 = putAt n 6 q.toNat := by
            unfold putAt
            rw [show (8 * (5 - q)).toNat = 8 * (6 - 1 - q.toNat) by omega]
          have rN2 : At (wr.setCell ⟨w.heap.size, q.toNat, none⟩ (.int .u8 (n / 2 ^ (8 * (5 - q)).toNat % 256))) w.heap.size 5 (putArr n 6 (q + 1)) := by
            rw [← putArr_set n 6 q q0 hq, ← eq]
            exact rN
          clear rN eq
          go_wp2
          go_roundw
          case rel => exact ⟨q + 1, q2_, q2_, q21_, rN2, rB.setCell q21_ _⟩
          case measure => simp [intOf]; omega
        · obtain rfl : q = 6 := by omega
          have hcv := put_conv n 6 q2_ _ _ rA
          go_wp2
          go_ret
          exact ⟨rfl, rB⟩
set_option maxRecDepth 100000 in
set_option maxHeartbeats 1000000 in
theorem put_7 (n : Int) (w : World) (hin : fits n 7) (hout : ∀ k, 1 ≤ k → k < 7 → ¬ fits n k) :
    Calls Tryd.prog 33 #[.int .i64 n] w fun en w' => en = .returned (.string (strOfNums (putL n 7))) ∧ Below w.heap.size w w' := by
  have o1 : ¬ (-128 ≤ n ∧ n < 128) := hout 1 q2_ q2_
  have o2 : ¬ (-32768 ≤ n ∧ n < 32768) := hout 2 q2_ q2_
  have o3 : ¬ (-8388608 ≤ n ∧ n < 8388608) := hout 3 q2_ q2_
  have o4 : ¬ (-2147483648 ≤ n ∧ n < 2147483648) := hout 4 q2_ q2_
  have o5 : ¬ (-549755813888 ≤ n ∧ n < 549755813888) := hout 5 q2_ q2_
  have o6 : ¬ (-140737488355328 ≤ n ∧ n < 140737488355328) := hout 6 q2_ q2_
  clear hout
  obtain ⟨hi1, hi2⟩ : -36028797018963968 ≤ n ∧ n < 36028797018963968 := hin
  have hm : ∀ W : World, (Instr.makeSlice 39 (.int .i64 7) (.int .i64 7)).run Tryd.prog W = .ok (.slice (some ⟨W.heap.size, 0, none⟩) 7 7) (W.alloc (.cells (putArr n 7 0) 5)) := make_u8 n 7 q2_
  go_enter Tryd.func33, Tryd.ntmps33
  go_wp2
  go_loopw [3] (fun i wr => ∃ k : Int, 1 ≤ k ∧ k ≤ 7 ∧ i = .int .i64 k ∧ w = wr)
    (fun i _ => (7 - intOf i).toNat)
  case atStart => exact ⟨1, q2_, q2_, rfl, rfl⟩
  case round =>
    obtain ⟨k, hk, hk2, rfl, rfl⟩ := hrel
    rcases (show k = 1 ∨ k = 2 ∨ k = 3 ∨ k = 4 ∨ k = 5 ∨ k = 6 ∨ k = 7 by omega) with rfl | rfl | rfl | rfl | rfl | rfl | rfl
    · by_cases hn : n < -128
      · go_wp2
        go_roundw
        case rel => exact ⟨2, q2_, q2_, rfl, trivial⟩
        case measure => simp [intOf]
      · have hn2 : 128 ≤ n := by omega
        go_wp2
        go_roundw
        case rel => exact ⟨2, q2_, q2_, rfl, trivial⟩
        case measure => simp [intOf]
    · by_cases hn : n < -32768
      · go_wp2
        go_roundw
        case rel => exact ⟨3, q2_, q2_, rfl, trivial⟩
        case measure => simp [intOf]
      · have hn2 : 32768 ≤ n := by omega
        go_wp2
        go_roundw
        case rel => exact ⟨3, q2_, q2_, rfl, trivial⟩
        case measure => simp [intOf]
    · by_cases hn : n < -8388608
      · go_wp2
        go_roundw
        case rel => exact ⟨4, q2_, q2_, rfl, trivial⟩
        case measure => simp [intOf]
      · have hn2 : 8388608 ≤ n := by omega
        go_wp2
        go_roundw
        case rel => exact ⟨4, q2_, q2_, rfl, trivial⟩
        case measure => simp [intOf]
    · by_cases hn : n < -2147483648
      · go_wp2
        go_roundw
        case rel => exact ⟨5, q2_, q2_, rfl, trivial⟩
        case measure => simp [intOf]
      · have hn2 : 2147483648 ≤ n := by omega
        go_wp2
        go_roundw
        case rel => exact ⟨5, q2_, q2_, rfl, trivial⟩
        case measure => simp [intOf]
    · by_cases hn : n < -549755813888
      · go_wp2
        go_roundw
        case rel => exact ⟨6, q2_, q2_, rfl, trivial⟩
        case measure => simp [intOf]
      · have hn2 : 549755813888 ≤ n := by omega
        go_wp2
        go_roundw
        case rel => exact ⟨6, q2_, q2_, rfl, trivial⟩
        case measure => simp [intOf]
    · by_cases hn : n < -140737488355328
      · go_wp2
        go_roundw
        case rel => exact ⟨7, q2_, q2_, rfl, trivial⟩
        case measure => simp [intOf]
      · have hn2 : 140737488355328 ≤ n := by omega
        go_wp2
        go_roundw
        case rel => exact ⟨7, q2_, q2_, rfl, trivial⟩
        case measure => simp [intOf]
    · go_wp2
      have kz := At.new w 5 (putArr n 7 0)
      have hB := (Below.refl w.heap.size w).alloc (Nat.le_refl _) (.cells (putArr n 7 0) 5)
      generalize w.alloc (.cells (putArr n 7 0) 5) = W at kz hB ⊢
      go_loopw [30] (fun i w2 => ∃ q : Int, 0 ≤ q ∧ q ≤ 7 ∧ i = .int .i64 q ∧ At w2 w.heap.size 5 (putArr n 7 q) ∧ Below w.heap.size w w2)
        (fun i _ => (7 - intOf i).toNat)
      case atStart => exact ⟨0, q2_, q2_, rfl, kz, hB⟩
      case round =>
        obtain ⟨q, q0, q3, rfl, rA, rB⟩ := hrel
        have lt1 := rA.lt
        by_cases hq : q < 7
        · have cq := (rA.cell q.toNat).trans (putArr_at n 7 q q0 hq)
          have fq := rA.free q.toNat
          have rN := rA.set q.toNat (.int .u8 (n / 2 ^ (8 * (6 - q)).toNat % 256))
          have eq : n / 2 ^ (8 * (6 - q)).toNat % 256 = putAt n 7 q.toNat := by
            unfold putAt
            rw [show (8 * (6 - q)).toNat = 8 * (7 - 1 - q.toNat) by omega]
          have rN2 : At (wr.setCell ⟨w.heap.size, q.toNat, none⟩ (.int .u8 (n / 2 ^ (8 * (6 - q)).toNat % 256))) w.heap.size 5 (putArr n 7 (q + 1)) := by
            rw [← putArr_set n 7 q q0 hq, ← eq]
            exact rN
          clear rN eq
          go_wp2
          go_roundw
          case rel => exact ⟨q + 1, q2_, q2_, q21_, rN2, rB.setCell q21_ _⟩
          case measure => simp [intOf]; omega
        · obtain rfl : q = 7 := by omega
          have hcv := put_conv n 7 q2_ _ _ rA
          go_wp2
          go_ret
          exact ⟨rfl, rB⟩
set_option maxRecDepth 100000 in
set_option maxHeartbeats 1000000 in
theorem put_8 (n : Int) (w : World) (hin : fits n 8) (hout : ∀ k, 1 ≤ k → k < 8 → ¬ fits n k) :
    Calls Tryd.prog 33 #[.int .i64 n] w fun en w' => en = .returned (.string (strOfNums (putL n 8))) ∧ Below w.heap.size w w' := by
  have o1 : ¬ (-128 ≤ n ∧ n < 128) := hout 1 q2_ q2_
  have o2 : ¬ (-32768 ≤ n ∧ n < 32768) := hout 2 q2_ q2_
  have o3 : ¬ (-8388608 ≤ n ∧ n < 8388608) := hout 3 q2_ q2_
  have o4 : ¬ (-2147483648 ≤ n ∧ n < 2147483648) := hout 4 q2_ q2_
  have o5 : ¬ (-549755813888 ≤ n ∧ n < 549755813888) := hout 5 q2_ q2_
  have o6 : ¬ (-140737488355328 ≤ n ∧ n < 140737488355328) := hout 6 q2_ q2_
  have o7 : ¬ (-36028797018963968 ≤ n ∧ n < 36028797018963968) := hout 7 q2_ q2_
  clear hout
  obtain ⟨hi1, hi2⟩ : -9223372036854775808 ≤ n ∧ n < 9223372036854775808 := hin
  have hm : ∀ W : World, (Instr.makeSlice 39 (.int .i64 8) (.int .i64 8)).run Tryd.prog W = .ok (.slice (some ⟨W.heap.size, 0, none⟩) 8 8) (W.alloc (.cells (putArr n 8 0) 5)) := make_u8 n 8 q2_
  go_enter Tryd.func33, Tryd.ntmps33
  go_wp2
  go_loopw [3] (fun i wr => ∃ k : Int, 1 ≤ k ∧ k ≤ 8 ∧ i = .int .i64 k ∧ w = wr)
    (fun i _ => (8 - intOf i).toNat)
  case atStart => exact ⟨1, q2_, q2_, rfl, rfl⟩
  case round =>
    obtain ⟨k, hk, hk2, rfl, rfl⟩ := hrel
    rcases (show k = 1 ∨ k = 2 ∨ k = 3 ∨ k = 4 ∨ k = 5 ∨ k = 6 ∨ k = 7 ∨ k = 8 by omega) with rfl | rfl | rfl | rfl | rfl | rfl | rfl | rfl
    · by_cases hn : n < -128
      · go_wp2
        go_roundw
        case rel => exact ⟨2, q2_, q2_, rfl, trivial⟩
        case measure => simp [intOf]
      · have hn2 : 128 ≤ n := by omega
        go_wp2
        go_roundw
        case rel => exact ⟨2, q2_, q2_, rfl, trivial⟩
        case measure => simp [intOf]
    · by_cases hn : n < -32768
      · go_wp2
        go_roundw
        case rel => exact ⟨3, q2_, q2_, rfl, trivial⟩
        case measure => simp [intOf]
      · have hn2 : 32768 ≤ n := by omega
        go_wp2
        go_roundw
        case rel => exact ⟨3, q2_, q2_, rfl, trivial⟩
        case measure => simp [intOf]
    · by_cases hn : n < -8388608
      · go_wp2
        go_roundw
        case rel => exact ⟨4, q2_, q2_, rfl, trivial⟩
        case measure => simp [intOf]
      · have hn2 : 8388608 ≤ n := by omega
        go_wp2
        go_roundw
        case rel => exact ⟨4, q2_, q2_, rfl, trivial⟩
        case measure => simp [intOf]
    · by_cases hn : n < -2147483648
      · go_wp2
        go_roundw
        case rel => exact ⟨5, q2_, q2_, rfl, trivial⟩
        case measure => simp [intOf]
      · have hn2 : 2147483648 ≤ n := by omega
        go_wp2
        go_roundw
        case rel => exact ⟨5, q2_, q2_, rfl, trivial⟩
        case measure => simp [intOf]
    · by_cases hn : n < -549755813888
      · go_wp2
        go_roundw
        case rel => exact ⟨6, q2_, q2_, rfl, trivial⟩
        case measure => simp [intOf]
      · have hn2 : 549755813888 ≤ n := by omega
        go_wp2
        go_roundw
        case rel => exact ⟨6, q2_, q2_, rfl, trivial⟩
        case measure => simp [intOf]
    · by_cases hn : n < -140737488355328
      · go_wp2
        go_roundw
        case rel => exact ⟨7, q2_, q2_, rfl, trivial⟩
        case measure => simp [intOf]
      · have hn2 : 140737488355328 ≤ n := by omega
        go_wp2
        go_roundw
        case rel => exact ⟨7, q2_, q2_, rfl, trivial⟩
        case measure => simp [intOf]
    · by_cases hn : n < -36028797018963968
      · go_wp2
        go_roundw
        case rel => exact ⟨8, q2_, q2_, rfl, trivial⟩
        case measure => simp [intOf]
      · have hn2 : 36028797018963968 ≤ n := by omega
        go_wp2
        go_roundw
        case rel => exact ⟨8, q2_, q2_, rfl, trivial⟩
        case measure => simp [intOf]
    · go_wp2
      have kz := At.new w 5 (putArr n 8 0)
      have hB := (Below.refl w.heap.size w).alloc (Nat.le_refl _) (.cells (putArr n 8 0) 5)
      generalize w.alloc (.cells (putArr n 8 0) 5) = W at kz hB ⊢
      go_loopw [30] (fun i w2 => ∃ q : Int, 0 ≤ q ∧ q ≤ 8 ∧ i = .int .i64 q ∧ At w2 w.heap.size 5 (putArr n 8 q) ∧ Below w.heap.size w w2)
        (fun i _ => (8 - intOf i).toNat)
      case atStart => exact ⟨0, q2_, q2_, rfl, kz, hB⟩
      case round =>
        obtain ⟨q, q0, q3, rfl, rA, rB⟩ := hrel
        have lt1 := rA.lt
        by_cases hq : q < 8
        · have cq := (rA.cell q.toNat).trans (putArr_at n 8 q q0 hq)
          have fq := rA.free q.toNat
          have rN := rA.set q.toNat (.int .u8 (n / 2 ^ (8 * (7 - q)).toNat % 256))
          have eq : n / 2 ^ (8 * (7 - q)).toNat % 256 = putAt n 8 q.toNat := by
            unfold putAt
            rw [show (8 * (7 - q)).toNat = 8 * (8 - 1 - q.toNat) by omega]
          have rN2 : At (wr.setCell ⟨w.heap.size, q.toNat, none⟩ (.int .u8 (n / 2 ^ (8 * (7 - q)).toNat % 256))) w.heap.size 5 (putArr n 8 (q + 1)) := by
            rw [← putArr_set n 8 q q0 hq, ← eq]
            exact rN
          clear rN eq
          go_wp2
          go_roundw
          case rel => exact ⟨q + 1, q2_, q2_, q21_, rN2, rB.setCell q21_ _⟩
          case measure => simp [intOf]; omega
        · obtain rfl : q = 8 := by omega
          have hcv := put_conv n 8 q2_ _ _ rA
          go_wp2
          go_ret
          exact ⟨rfl, rB⟩
def putC (n : Int) : Nat := if -128 ≤ n ∧ n < 128 then 1 else if -32768 ≤ n ∧ n < 32768 then 2 else if -8388608 ≤ n ∧ n < 8388608 then 3 else if -2147483648 ≤ n ∧ n < 2147483648 then 4
  else if -549755813888 ≤ n ∧ n < 549755813888 then 5 else if -140737488355328 ≤ n ∧ n < 140737488355328 then 6 else if -36028797018963968 ≤ n ∧ n < 36028797018963968 then 7 else 8
def putS (n : Int) : ByteArray := strOfNums (putL n (putC n))
theorem PutInt_any (n : Int) (w : World) (h0 : -9223372036854775808 ≤ n) (h1 : n ≤ 9223372036854775807) :
    Calls Tryd.prog 33 #[.int .i64 n] w fun en w' => en = .returned (.string (putS n)) ∧ Below w.heap.size w w' := by
  unfold putS putC
  by_cases c1 : -128 ≤ n ∧ n < 128
  · rw [if_pos c1]
    exact put_1 n w ⟨q22_, q22_⟩ (by intro k k1 k2; omega)
  rw [if_neg c1]
  by_cases c2 : -32768 ≤ n ∧ n < 32768
  · rw [if_pos c2]
    exact put_2 n w ⟨q22_, q22_⟩ (by intro k k1 k2; rcases (show k = 1 by omega) with rfl <;> (unfold fits; simp; omega))
  rw [if_neg c2]
  by_cases c3 : -8388608 ≤ n ∧ n < 8388608
  · rw [if_pos c3]
    exact put_3 n w ⟨q22_, q22_⟩ (by intro k k1 k2; rcases (show k = 1 ∨ k = 2 by omega) with rfl | rfl <;> (unfold fits; simp; omega))
  rw [if_neg c3]
  by_cases c4 : -2147483648 ≤ n ∧ n < 2147483648
  · rw [if_pos c4]
    exact put_4 n w ⟨q22_, q22_⟩ (by intro k k1 k2; rcases (show k = 1 ∨ k = 2 ∨ k = 3 by omega) with rfl | rfl | rfl <;> (unfold fits; simp; omega))
  rw [if_neg c4]
  by_cases c5 : -549755813888 ≤ n ∧ n < 549755813888
  · rw [if_pos c5]
    exact put_5 n w ⟨q22_, q22_⟩ (by intro k k1 k2; rcases (show k = 1 ∨ k = 2 ∨ k = 3 ∨ k = 4 by omega) with rfl | rfl | rfl | rfl <;> (unfold fits; simp; omega))
  rw [if_neg c5]
  by_cases c6 : -140737488355328 ≤ n ∧ n < 140737488355328
  · rw [if_pos c6]
    exact put_6 n w ⟨q22_, q22_⟩ (by intro k k1 k2; rcases (show k = 1 ∨ k = 2 ∨ k = 3 ∨ k = 4 ∨ k = 5 by omega) with rfl | rfl | rfl | rfl | rfl <;> (unfold fits; simp; omega))
  rw [if_neg c6]
  by_cases c7 : -36028797018963968 ≤ n ∧ n < 36028797018963968
  · rw [if_pos c7]
    exact put_7 n w ⟨q22_, q22_⟩ (by intro k k1 k2; rcases (show k = 1 ∨ k = 2 ∨ k = 3 ∨ k = 4 ∨ k = 5 ∨ k = 6 by omega) with rfl | rfl | rfl | rfl | rfl | rfl <;> (unfold fits; simp; omega))
  rw [if_neg c7]
  exact put_8 n w ⟨q22_, q22_⟩ (by intro k k1 k2; rcases (show k = 1 ∨ k = 2 ∨ k = 3 ∨ k = 4 ∨ k = 5 ∨ k = 6 ∨ k = 7 by omega) with rfl | rfl | rfl | rfl | rfl | rfl | rfl <;> (unfold fits; simp; omega))
end Go.Proofs.YtogjljpncdmlkaaDoor.W
end
section
namespace Go.Proofs.YtogjljpncdmlkaaDoor.W
open Go.RowKit Go.Proofs.YtogjljpncdmlkaaDoorW.PrintWords Go.Proofs.YtogjljpncdmlkaaDoorW.PrintLast
set_option linter.unusedVariables false
set_option linter.unusedSimpArgs false
def nxB (n : NodeT) (d cls : Int) (made : Bool) (tag : Int) : Bool := n.1 == d && (n.2.1 == cls && (n.2.2.1 == made && n.2.2.2.1 == tag))
def nx (d cls : Int) (made : Bool) (tag : Int) : List NodeT → Option (ByteArray × List NodeT)
  | n :: r => if nxB n d cls made tag = true then some (n.2.2.2.2, r) else none
  | [] => none
def RdV (w0 w : World) (g : Nat) (xs : List NodeT) (bad : Bool) : Prop :=
  ∃ A c, At w g 61 #[.slice A xs.length c, .bool bad] ∧ xs.length ≤ c ∧ Kd.C kNode w0 A xs.length xs ∧ Below w0.heap.size w0 w ∧ w0.heap.size ≤ g
theorem infoNodeV : ∃ i : TypeInfo, Tryd.prog.info? 43 = some i ∧ i.size = 5 := by
  obtain ⟨i, h, _, h2, _⟩ := info_parts infoNode
  exact ⟨i, h, h2⟩
theorem slice_tail {W : World} (A : Option Addr) (n c : Nat) (h1 : 1 ≤ n) (hc : n ≤ c) :
    (Instr.slice 45 (.slice A n c) (some (.int .i64 1)) none none).run Tryd.prog W = .ok (.slice (if c = 1 then A else A.map (·.add (1 * 5))) (n - 1) (c - 1)) W := by
  obtain ⟨i, hi, hz⟩ := infoNodeV
  have hel : Tryd.prog.elem 45 = 43 := by simp [Program.elem, Tryd.underlying45]
  have hu : Tryd.prog.underlying 45 = some (.slice (Tryd.prog.elem 45)) := by rw [hel]; exact Tryd.underlying45
  rw [run_slice_l W 45 A n c hu .i64 1 q2_ q2_, hel]
  simp [sizeOf, typeInfo, hi, hz, sliced, Result.andThen]
def NextHit (w0 w : World) (g : Nat) (b : ByteArray) (r : List NodeT) (bad : Bool) (en : Ending) (w' : World) : Prop :=
  en = .returned (.tuple #[.string b, .bool true]) ∧ RdV w0 w' g r bad ∧ w.grownBy w' (some g)
def NextMiss (w0 w : World) (g : Nat) (xs : List NodeT) (bad : Bool) (en : Ending) (w' : World) : Prop :=
  en = .returned (.tuple #[.string ⟨#[]⟩, .bool false]) ∧ RdV w0 w' g xs bad ∧ w.grownBy w' (some g)
def mustS (d cls : Int) (made : Bool) (tag : Int) (xs : List NodeT) (bad : Bool) : ByteArray × List NodeT × Bool :=
  match nx d cls made tag xs with
  | some (b, r) => (b, r, bad)
  | none => (⟨#[]⟩, xs, true)
set_option maxRecDepth 100000 in
set_option maxHeartbeats 4000000 in
theorem next_hit {w0 w : World} {g : Nat} {xs : List NodeT} {bad : Bool} (h : RdV w0 w g xs bad) (d cls : Int) (made : Bool) (tag : Int) {b : ByteArray} {r : List NodeT} (hx : nx d cls made tag xs = some (b, r)) :
    Calls Tryd.prog 47 #[.pointer (some ⟨g, 0, none⟩), .int .i64 d, .int .i64 cls, .bool made, .int .i64 tag] w (NextHit w0 w g b r bad) := by
  obtain ⟨A, c, m, hc, hC, hB, hg⟩ := h
  cases xs with
  | nil => cases hx
  | cons n rest =>
    simp only [nx] at hx
    by_cases hb : nxB n d cls made tag = true
    · rw [if_pos hb] at hx
      obtain ⟨rfl, rfl⟩ := Prod.mk.inj (Option.some.inj hx)
      simp only [nxB, Bool.and_eq_true, beq_iff_eq] at hb
      obtain ⟨rfl, rfl, rfl, rfl⟩ := hb
      have hC' := Kd.C_below hC hB
      obtain ⟨ad, rfl, m0, m1, m2, m3, m4⟩ := node_at hC' 0 q21_
      have hd := Kd.C_drop (m := 1) hC q21_ hc
      simp only [nd, List.getD_cons_zero] at m0 m1 m2 m3 m4
      have x0 : w.cell? ⟨g, 0, none⟩ = some (.slice (some ad) (n :: rest).length c) := (m.cell 0).trans rfl
      have x1 := (m.cell 1).trans rfl
      have y0 := m.free 0
      have lg := m.lt
      obtain ⟨L, hL⟩ : ∃ L, L = (n :: rest).length := ⟨_, rfl⟩
      have hL1 : L - 1 = rest.length := by rw [hL]; rfl
      rw [← hL] at x0 hc hC hC' m
      have p0 : (0 : Int) < (L : Int) := by rw [hL, List.length_cons]; omega
      have p1 : (1 : Int) ≤ (L : Int) := by omega
      have p2 : 1 ≤ L := by omega
      have hz : ((L : Int) == 0) = false := by rw [beq_eq_false_iff_ne]; omega
      have hs := slice_tail (W := (w.alloc (.cells #[.int .i64 n.1, .int .i64 n.2.1, .bool n.2.2.1, .int .i64 n.2.2.2.1, .string n.2.2.2.2] 43))) (some ad) L c p2 hc
      clear hx
      have HD := Lib.hid hd
      have HL := Lib.hid hL
      have HB := Lib.hid hB
      have HL1 := Lib.hid hL1
      clear hd hL hL1 hB hC hC'
      rw [Nat.zero_mul] at m0 m1 m2 m3 m4
      obtain ⟨ab, ao, asp⟩ := ad
      have hsp : asp = none := spot_none m0
      subst hsp
      replace m0 : w.cell? ⟨ab, ao, none⟩ = some (.int .i64 n.1) := m0
      replace m1 : w.cell? ⟨ab, ao + 1, none⟩ = some (.int .i64 n.2.1) := m1
      replace m2 : w.cell? ⟨ab, ao + 2, none⟩ = some (.bool n.2.2.1) := m2
      replace m3 : w.cell? ⟨ab, ao + 3, none⟩ = some (.int .i64 n.2.2.2.1) := m3
      replace m4 : w.cell? ⟨ab, ao + 4, none⟩ = some (.string n.2.2.2.2) := m4
      go_enter Tryd.func47, Tryd.ntmps47
      go_wp2_with fail
      all_goals go_ret2
      all_goals
        have hD := HD.out
        have hB1 := HB.out.size
        refine ⟨rfl, ⟨_, _, by rw [← HL1.out]; exact (m.set 0 _).alloc _, by rw [← HL1.out]; omega, ?_, (HB.out.setCell hg _).alloc q22_ _, hg⟩, Lib.grownBy_allocR (Lib.grownBy_setCell _ _ _ _) _⟩
        first
          | (rw [if_pos q10_] at hD; exact hD)
          | (rw [if_neg q10_] at hD; exact hD)
    · rw [if_neg hb] at hx
      cases hx
set_option maxHeartbeats 4000000 in
theorem next_miss {w0 w : World} {g : Nat} {xs : List NodeT} {bad : Bool} (h : RdV w0 w g xs bad) (d cls : Int) (made : Bool) (tag : Int) (hx : nx d cls made tag xs = none) :
    Calls Tryd.prog 47 #[.pointer (some ⟨g, 0, none⟩), .int .i64 d, .int .i64 cls, .bool made, .int .i64 tag] w (NextMiss w0 w g xs bad) := by
  obtain ⟨A, c, m, hc, hC, hB, hg⟩ := h
  have x0 := (m.cell 0).trans rfl
  have x1 := (m.cell 1).trans rfl
  cases xs with
  | nil =>
    clear hx
    have x0 : w.cell? ⟨g, 0, none⟩ = some (.slice A 0 c) := x0
    have m : At w g 61 #[.slice A 0 c, .bool bad] := m
    have HB := Lib.hid hB
    have HC := Lib.hid hC
    clear hB hC
    go_enter Tryd.func47, Tryd.ntmps47
    go_wp2_with fail
    go_ret2
    exact ⟨rfl, ⟨A, c, m, Nat.zero_le _, HC.out, HB.out, hg⟩, World.grownBy.refl _ _⟩
  | cons n rest =>
    have hb : nxB n d cls made tag = false := by
      simp only [nx] at hx
      by_cases hb : nxB n d cls made tag = true
      · rw [if_pos hb] at hx; cases hx
      · exact Bool.eq_false_iff.2 hb
    have hC' := Kd.C_below hC hB
    obtain ⟨ad, rfl, m0, m1, m2, m3, m4⟩ := node_at hC' 0 q21_
    simp only [nd, List.getD_cons_zero] at m0 m1 m2 m3 m4
    obtain ⟨L, hL⟩ : ∃ L, L = (n :: rest).length := ⟨_, rfl⟩
    have x0 : w.cell? ⟨g, 0, none⟩ = some (.slice (some ad) (n :: rest).length c) := x0
    rw [← hL] at x0 hc m
    have p0 : (0 : Int) < (L : Int) := by rw [hL, List.length_cons]; omega
    have hz : ((L : Int) == 0) = false := by rw [beq_eq_false_iff_ne]; omega
    have HL := Lib.hid hL
    have HB := Lib.hid hB
    have HC := Lib.hid hC
    have HN := Lib.hid hb
    rw [Nat.zero_mul] at m0 m1 m2 m3 m4
    obtain ⟨ab, ao, asp⟩ := ad
    have hsp : asp = none := spot_none m0
    subst hsp
    replace m0 : w.cell? ⟨ab, ao, none⟩ = some (.int .i64 n.1) := m0
    replace m1 : w.cell? ⟨ab, ao + 1, none⟩ = some (.int .i64 n.2.1) := m1
    replace m2 : w.cell? ⟨ab, ao + 2, none⟩ = some (.bool n.2.2.1) := m2
    replace m3 : w.cell? ⟨ab, ao + 3, none⟩ = some (.int .i64 n.2.2.2.1) := m3
    replace m4 : w.cell? ⟨ab, ao + 4, none⟩ = some (.string n.2.2.2.2) := m4
    obtain ⟨n0, n1, n2, n3, n4⟩ := n
    simp only at m0 m1 m2 m3 m4
    have lg := m.lt
    have hm : n0 ≠ d ∨ (n0 = d ∧ n1 ≠ cls) ∨ (n0 = d ∧ n1 = cls ∧ n2 ≠ made) ∨ (n0 = d ∧ n1 = cls ∧ n2 = made ∧ n3 ≠ tag) := by
      simp only [nxB, Bool.and_eq_false_iff, beq_eq_false_iff_ne] at hb
      by_cases a0 : n0 = d
      · by_cases a1 : n1 = cls
        · by_cases a2 : n2 = made
          · rcases hb with h | h | h | h
            · exact absurd a0 h
            · exact absurd a1 h
            · exact absurd a2 h
            · exact .inr (.inr (.inr ⟨a0, a1, a2, h⟩))
          · exact .inr (.inr (.inl ⟨a0, a1, a2⟩))
        · exact .inr (.inl ⟨a0, a1⟩)
      · exact .inl a0
    clear hL hB hC hC' hb hx HN
    have fin : ∀ W, W = w.alloc (.cells #[.int .i64 n0, .int .i64 n1, .bool n2, .int .i64 n3, .string n4] 43) → RdV w0 W g ((n0, n1, n2, n3, n4) :: rest) bad ∧ w.grownBy W (some g) := by
      rintro W rfl
      have hB1 := HB.out.size
      exact ⟨⟨some ⟨ab, ao, none⟩, c, by rw [← HL.out]; exact m.alloc _, by rw [← HL.out]; exact hc, HC.out, HB.out.alloc q2_ _, hg⟩, World.grownBy_alloc _ _ _⟩
    have FIN := Lib.hid fin
    clear fin HC HB
    rcases hm with h | ⟨rfl, h⟩ | ⟨rfl, rfl, h⟩ | ⟨rfl, rfl, rfl, h⟩
    · have e : (n0 != d) = true := bne_iff_ne.2 h
      go_enter Tryd.func47, Tryd.ntmps47
      go_wp2_with fail
      go_ret2
      exact ⟨rfl, FIN.out _ rfl⟩
    · have e : (n1 != cls) = true := bne_iff_ne.2 h
      go_enter Tryd.func47, Tryd.ntmps47
      go_wp2_with fail
      go_ret2
      exact ⟨rfl, FIN.out _ rfl⟩
    · have e : (n2 != made) = true := bne_iff_ne.2 h
      go_enter Tryd.func47, Tryd.ntmps47
      go_wp2_with fail
      go_ret2
      exact ⟨rfl, FIN.out _ rfl⟩
    · have e : (n3 != tag) = true := bne_iff_ne.2 h
      go_enter Tryd.func47, Tryd.ntmps47
      go_wp2_with fail
      go_ret2
      exact ⟨rfl, FIN.out _ rfl⟩
theorem RdV.put {w0 w : World} {g : Nat} {xs : List NodeT} {bad : Bool} (h : RdV w0 w g xs bad) (b : Bool) : RdV w0 (w.setCell ⟨g, 1, none⟩ (.bool b)) g xs b := by
  obtain ⟨A, c, m, hc, hC, hB, hg⟩ := h
  exact ⟨A, c, m.set 1 _, hc, hC, hB.setCell hg _, hg⟩
set_option maxHeartbeats 4000000 in
theorem must_any {w0 w : World} {g : Nat} {xs : List NodeT} {bad : Bool} (h : RdV w0 w g xs bad) (d cls : Int) (made : Bool) (tag : Int) :
    Calls Tryd.prog 36 #[.pointer (some ⟨g, 0, none⟩), .int .i64 d, .int .i64 cls, .bool made, .int .i64 tag] w
      fun en w' => en = .returned (.string (mustS d cls made tag xs bad).1) ∧ RdV w0 w' g (mustS d cls made tag xs bad).2.1 (mustS d cls made tag xs bad).2.2 ∧ w.grownBy w' (some g) := by
  cases hn : nx d cls made tag xs with
  | some p =>
    obtain ⟨b, r⟩ := p
    have e : mustS d cls made tag xs bad = (b, r, bad) := by unfold mustS; rw [hn]
    rw [e]
    have H := Lib.hid (next_hit h d cls made tag hn)
    clear e hn h
    go_enter Tryd.func36, Tryd.ntmps36
    go_wp2_with fail
    refine H.out.mono ?_
    rintro en w1 ⟨rfl, hr, hgr⟩
    have HR := Lib.hid hr
    obtain ⟨A, c, m, hc, hC, hB, hg⟩ := hr
    have x1 := (m.cell 1).trans rfl
    have y1 := m.free 1
    have G := Lib.hid hgr
    clear hC hB hgr m hc hg
    cases bad
    all_goals
      go_wp2_with fail
      go_ret
      exact ⟨rfl, HR.out.put _, Lib.grownBy_trans G.out (Lib.grownBy_setCell _ _ _ _)⟩
  | none =>
    have e : mustS d cls made tag xs bad = (⟨#[]⟩, xs, true) := by unfold mustS; rw [hn]
    rw [e]
    have H := Lib.hid (next_miss h d cls made tag hn)
    clear e hn h
    go_enter Tryd.func36, Tryd.ntmps36
    go_wp2_with fail
    refine H.out.mono ?_
    rintro en w1 ⟨rfl, hr, hgr⟩
    have HR := Lib.hid hr
    obtain ⟨A, c, m, hc, hC, hB, hg⟩ := hr
    have x1 := (m.cell 1).trans rfl
    have y1 := m.free 1
    have G := Lib.hid hgr
    clear hC hB hgr m hc hg
    cases bad
    all_goals
      go_wp2_with fail
      go_ret
      exact ⟨rfl, HR.out.put _, Lib.grownBy_trans G.out (Lib.grownBy_setCell _ _ _ _)⟩
end Go.Proofs.YtogjljpncdmlkaaDoor.W
end
