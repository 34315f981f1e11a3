/- Texts of this claim in one: BPi -/
import Derived.Test.YtogjljpncdmlkaaDoorB3
import Derived.Test.YtogjljpncdmlkaaDoorProg
import Derived.Test.YtogjljpncdmlkaaDoorB4
import Derived.Test.YtogjljpncdmlkaaDoorB0
import Derived.WalkLawsBesides
import Derived.WalkSpells
import Derived.RegionTactic
import Derived.ChangeAlike
import Derived.BigRegion
import Derived.IntWalk
import Derived.Lib.Hide
import Derived.Outline
section
namespace Go.Proofs.YtogjljpncdmlkaaDoor.W
open Go.RowKit Go.Proofs.YtogjljpncdmlkaaDoorW.PrintWords
set_option linter.unusedVariables false
set_option linter.unusedSimpArgs false
theorem info_u8 : (Tryd.prog.info? 5).map (fun i => (i.zero, i.size, i.bytes)) = some (some (.int .u8 0), 1, 1) := by kernel_rfl
def putAt (n : Int) (c j : Nat) : Int := n / 2 ^ (8 * (c - 1 - j)) % 256
def putArr (n : Int) (c : Nat) (q : Int) : Array Value := Array.ofFn (n := c) fun j => .int .u8 (if (j.val : Int) < q then putAt n c j.val else 0)
def putL (n : Int) (c : Nat) : List Int := List.ofFn (n := c) fun j => putAt n c j.val
theorem putArr_get (n : Int) (c : Nat) (q : Int) (i : Nat) : (putArr n c q)[i]? = if i < c then some (.int .u8 (if (i : Int) < q then putAt n c i else 0)) else none := by
  unfold putArr
  rw [Array.getElem?_ofFn]
  by_cases h : i < c
  · rw [dif_pos h, if_pos h]
  · rw [dif_neg h, if_neg h]
theorem putArr_size (n : Int) (c : Nat) (q : Int) : (putArr n c q).size = c := by simp [putArr]
theorem putArr_set (n : Int) (c : Nat) (q : Int) (h0 : 0 ≤ q) (h1 : q < c) : (putArr n c q).setIfInBounds q.toNat (.int .u8 (putAt n c q.toNat)) = putArr n c (q + 1) := by
  apply Array.ext_getElem?
  intro i
  rw [Array.getElem?_setIfInBounds, putArr_get, putArr_get, putArr_size]
  by_cases e : q.toNat = i
  · subst e
    rw [if_pos rfl, if_pos q2_, if_pos q2_, if_pos q2_]
  · rw [if_neg e]
    by_cases l : (i : Int) < q
    · rw [if_pos l, if_pos (show (i : Int) < q + 1 by omega)]
    · rw [if_neg l, if_neg (show ¬ (i : Int) < q + 1 by omega)]
theorem putArr_at (n : Int) (c : Nat) (q : Int) (h0 : 0 ≤ q) (h1 : q < c) : (putArr n c q)[q.toNat]? = some (.int .u8 0) := by
  rw [putArr_get, if_pos q2_, if_neg q2_]
theorem putArr_0 (n : Int) (c : Nat) : madeCells #[.int .u8 0] c = putArr n c 0 := by
  apply Array.ext
  · simp [putArr, size_madeCells]
  · intro i hi hi2
    simp [putArr, madeCells, Nat.mod_one]
    omega
theorem make_u8 (n : Int) (m : Nat) (hm : m ≤ 8) : ∀ W : World, (Instr.makeSlice 39 (.int .i64 (m : Int)) (.int .i64 (m : Int))).run Tryd.prog W = .ok (.slice (some ⟨W.heap.size, 0, none⟩) m m) (W.alloc (.cells (putArr n m 0) 5)) := by
  rw [← putArr_0 n m]
  exact print_make (P := Tryd.prog) 39 5 .u8 1 Tryd.underlying39 info_u8 q19_ m q2_
theorem put_conv (n : Int) (c : Nat) (hc : c ≤ 8) (w : World) (b : Nat) (h : At w b 5 (putArr n c c)) : (convert 39 9 (.slice (some ⟨b, 0, none⟩) c c)).run Tryd.prog w = .ok (.string (strOfNums (putL n c))) w := by
  refine string_of_reads Tryd.underlying39 Tryd.underlying5 Tryd.underlying9 ⟨by simp [putL], q2_, fun _ => ⟨_, rfl, fun j hj => ?_⟩⟩
  have e : (putL n c).getD j 0 = putAt n c j := by
    rw [List.getD_eq_getElem?_getD, List.getElem?_eq_getElem (by simpa [putL] using hj)]
    simp [putL]
  have e2 : (⟨b, 0, none⟩ : Addr).add j = ⟨b, j, none⟩ := by
    unfold Addr.add
    split
    · rename_i h; subst h; rfl
    · simp
  rw [e, e2, h.cell j, Array.getElem?_eq_getElem (by simpa [putArr] using hj)]
  simp only [putArr, Array.getElem_ofFn]
  rw [if_pos q2_]
def fits (n : Int) (c : Nat) : Prop := -(2 ^ (8 * c - 1) : Int) ≤ n ∧ n < (2 ^ (8 * c - 1) : Int)
set_option maxRecDepth 100000 in
set_option maxHeartbeats 1000000 in
theorem put_1 (n : Int) (w : World) (hin : fits n 1) (hout : ∀ k, 1 ≤ k → k < 1 → ¬ fits n k) :
    Calls Tryd.prog 33 #[.int .i64 n] w fun en w' => en = .returned (.string (strOfNums (putL n 1))) ∧ Below w.heap.size w w' := by
  clear hout
  obtain ⟨hi1, hi2⟩ : -128 ≤ n ∧ n < 128 := hin
  have hm : ∀ W : World, (Instr.makeSlice 39 (.int .i64 1) (.int .i64 1)).run Tryd.prog W = .ok (.slice (some ⟨W.heap.size, 0, none⟩) 1 1) (W.alloc (.cells (putArr n 1 0) 5)) := make_u8 n 1 q2_
  go_enter Tryd.func33, Tryd.ntmps33
  go_wp2
  go_loopw [3] (fun i wr => ∃ k : Int, 1 ≤ k ∧ k ≤ 1 ∧ i = .int .i64 k ∧ w = wr)
    (fun i _ => (1 - intOf i).toNat)
  case atStart => exact ⟨1, q2_, q2_, rfl, rfl⟩
  case round =>
    obtain ⟨k, hk, hk2, rfl, rfl⟩ := hrel
    obtain rfl : k = 1 := by omega
    · go_wp2
      have kz := At.new w 5 (putArr n 1 0)
      have hB := (Below.refl w.heap.size w).alloc (Nat.le_refl _) (.cells (putArr n 1 0) 5)
      generalize w.alloc (.cells (putArr n 1 0) 5) = W at kz hB ⊢
      go_loopw [30] (fun i w2 => ∃ q : Int, 0 ≤ q ∧ q ≤ 1 ∧ i = .int .i64 q ∧ At w2 w.heap.size 5 (putArr n 1 q) ∧ Below w.heap.size w w2)
        (fun i _ => (1 - intOf i).toNat)
      case atStart => exact ⟨0, q2_, q2_, rfl, kz, hB⟩
      case round =>
        obtain ⟨q, q0, q3, rfl, rA, rB⟩ := hrel
        have lt1 := rA.lt
        by_cases hq : q < 1
        · have cq := (rA.cell q.toNat).trans (putArr_at n 1 q q0 hq)
          have fq := rA.free q.toNat
          have rN := rA.set q.toNat (.int .u8 (n / 2 ^ (8 * -q).toNat % 256))
          have eq : n / 2 ^ (8 * -q).toNat % 256 = putAt n 1 q.toNat := by
            unfold putAt
            rw [show (8 * -q).toNat = 8 * (1 - 1 - q.toNat) by omega]
          have rN2 : At (wr.setCell ⟨w.heap.size, q.toNat, none⟩ (.int .u8 (n / 2 ^ (8 * -q).toNat % 256))) w.heap.size 5 (putArr n 1 (q + 1)) := by
            rw [← putArr_set n 1 q q0 hq, ← eq]
            exact rN
          clear rN eq
          go_wp2
          go_roundw
          case rel => exact ⟨q + 1, q2_, q2_, q28_, rN2, rB.setCell q28_ _⟩
          case measure => simp [intOf]; omega
        · obtain rfl : q = 1 := by omega
          have hcv := put_conv n 1 q2_ _ _ rA
          go_wp2
          go_ret
          exact ⟨rfl, rB⟩
set_option maxRecDepth 100000 in
set_option maxHeartbeats 1000000 in
theorem put_2 (n : Int) (w : World) (hin : fits n 2) (hout : ∀ k, 1 ≤ k → k < 2 → ¬ fits n k) :
    Calls Tryd.prog 33 #[.int .i64 n] w fun en w' => en = .returned (.string (strOfNums (putL n 2))) ∧ Below w.heap.size w w' := by
  have o1 : ¬ (-128 ≤ n ∧ n < 128) := hout 1 q2_ q2_
  clear hout
  obtain ⟨hi1, hi2⟩ : -32768 ≤ n ∧ n < 32768 := hin
  have hm : ∀ W : World, (Instr.makeSlice 39 (.int .i64 2) (.int .i64 2)).run Tryd.prog W = .ok (.slice (some ⟨W.heap.size, 0, none⟩) 2 2) (W.alloc (.cells (putArr n 2 0) 5)) := make_u8 n 2 q2_
  go_enter Tryd.func33, Tryd.ntmps33
  go_wp2
  go_loopw [3] (fun i wr => ∃ k : Int, 1 ≤ k ∧ k ≤ 2 ∧ i = .int .i64 k ∧ w = wr)
    (fun i _ => (2 - intOf i).toNat)
  case atStart => exact ⟨1, q2_, q2_, rfl, rfl⟩
  case round =>
    obtain ⟨k, hk, hk2, rfl, rfl⟩ := hrel
    rcases (show k = 1 ∨ k = 2 by omega) with rfl | rfl
    · by_cases hn : n < -128
      · go_wp2
        go_roundw
        case rel => exact ⟨2, q2_, q2_, rfl, trivial⟩
        case measure => simp [intOf]
      · have hn2 : 128 ≤ n := by omega
        go_wp2
        go_roundw
        case rel => exact ⟨2, q2_, q2_, rfl, trivial⟩
        case measure => simp [intOf]
    · go_wp2
      have kz := At.new w 5 (putArr n 2 0)
      have hB := (Below.refl w.heap.size w).alloc (Nat.le_refl _) (.cells (putArr n 2 0) 5)
      generalize w.alloc (.cells (putArr n 2 0) 5) = W at kz hB ⊢
      go_loopw [30] (fun i w2 => ∃ q : Int, 0 ≤ q ∧ q ≤ 2 ∧ i = .int .i64 q ∧ At w2 w.heap.size 5 (putArr n 2 q) ∧ Below w.heap.size w w2)
        (fun i _ => (2 - intOf i).toNat)
      case atStart => exact ⟨0, q2_, q2_, rfl, kz, hB⟩
      case round =>
        obtain ⟨q, q0, q3, rfl, rA, rB⟩ := hrel
        have lt1 := rA.lt
        by_cases hq : q < 2
        · have cq := (rA.cell q.toNat).trans (putArr_at n 2 q q0 hq)
          have fq := rA.free q.toNat
          have rN := rA.set q.toNat (.int .u8 (n / 2 ^ (8 * (1 - q)).toNat % 256))
          have eq : n / 2 ^ (8 * (1 - q)).toNat % 256 = putAt n 2 q.toNat := by
            unfold putAt
            rw [show (8 * (1 - q)).toNat = 8 * (2 - 1 - q.toNat) by omega]
          have rN2 : At (wr.setCell ⟨w.heap.size, q.toNat, none⟩ (.int .u8 (n / 2 ^ (8 * (1 - q)).toNat % 256))) w.heap.size 5 (putArr n 2 (q + 1)) := by
            rw [← putArr_set n 2 q q0 hq, ← eq]
            exact rN
          clear rN eq
          go_wp2
          go_roundw
          case rel => exact ⟨q + 1, q2_, q2_, q28_, rN2, rB.setCell q28_ _⟩
          case measure => simp [intOf]; omega
        · obtain rfl : q = 2 := by omega
          have hcv := put_conv n 2 q2_ _ _ rA
          go_wp2
          go_ret
          exact ⟨rfl, rB⟩
set_option maxRecDepth 100000 in
set_option maxHeartbeats 1000000 in
theorem put_3 (n : Int) (w : World) (hin : fits n 3) (hout : ∀ k, 1 ≤ k → k < 3 → ¬ fits n k) :
    Calls Tryd.prog 33 #[.int .i64 n] w fun en w' => en = .returned (.string (strOfNums (putL n 3))) ∧ Below w.heap.size w w' := by
  have o1 : ¬ (-128 ≤ n ∧ n < 128) := hout 1 q2_ q2_
  have o2 : ¬ (-32768 ≤ n ∧ n < 32768) := hout 2 q2_ q2_
  clear hout
  obtain ⟨hi1, hi2⟩ : -8388608 ≤ n ∧ n < 8388608 := hin
  have hm : ∀ W : World, (Instr.makeSlice 39 (.int .i64 3) (.int .i64 3)).run Tryd.prog W = .ok (.slice (some ⟨W.heap.size, 0, none⟩) 3 3) (W.alloc (.cells (putArr n 3 0) 5)) := make_u8 n 3 q2_
  go_enter Tryd.func33, Tryd.ntmps33
  go_wp2
  go_loopw [3] (fun i wr => ∃ k : Int, 1 ≤ k ∧ k ≤ 3 ∧ i = .int .i64 k ∧ w = wr)
    (fun i _ => (3 - intOf i).toNat)
  case atStart => exact ⟨1, q2_, q2_, rfl, rfl⟩
  case round =>
    obtain ⟨k, hk, hk2, rfl, rfl⟩ := hrel
    rcases (show k = 1 ∨ k = 2 ∨ k = 3 by omega) with rfl | rfl | rfl
    · by_cases hn : n < -128
      · go_wp2
        go_roundw
        case rel => exact ⟨2, q2_, q2_, rfl, trivial⟩
        case measure => simp [intOf]
      · have hn2 : 128 ≤ n := by omega
        go_wp2
        go_roundw
        case rel => exact ⟨2, q2_, q2_, rfl, trivial⟩
        case measure => simp [intOf]
    · by_cases hn : n < -32768
      · go_wp2
        go_roundw
        case rel => exact ⟨3, q2_, q2_, rfl, trivial⟩
        case measure => simp [intOf]
      · have hn2 : 32768 ≤ n := by omega
        go_wp2
        go_roundw
        case rel => exact ⟨3, q2_, q2_, rfl, trivial⟩
        case measure => simp [intOf]
    · go_wp2
      have kz := At.new w 5 (putArr n 3 0)
      have hB := (Below.refl w.heap.size w).alloc (Nat.le_refl _) (.cells (putArr n 3 0) 5)
      generalize w.alloc (.cells (putArr n 3 0) 5) = W at kz hB ⊢
      go_loopw [30] (fun i w2 => ∃ q : Int, 0 ≤ q ∧ q ≤ 3 ∧ i = .int .i64 q ∧ At w2 w.heap.size 5 (putArr n 3 q) ∧ Below w.heap.size w w2)
        (fun i _ => (3 - intOf i).toNat)
      case atStart => exact ⟨0, q2_, q2_, rfl, kz, hB⟩
      case round =>
        obtain ⟨q, q0, q3, rfl, rA, rB⟩ := hrel
        have lt1 := rA.lt
        by_cases hq : q < 3
        · have cq := (rA.cell q.toNat).trans (putArr_at n 3 q q0 hq)
          have fq := rA.free q.toNat
          have rN := rA.set q.toNat (.int .u8 (n / 2 ^ (8 * (2 - q)).toNat % 256))
          have eq : n / 2 ^ (8 * (2 - q)).toNat % 256 = putAt n 3 q.toNat := by
            unfold putAt
            rw [show (8 * (2 - q)).toNat = 8 * (3 - 1 - q.toNat) by omega]
          have rN2 : At (wr.setCell ⟨w.heap.size, q.toNat, none⟩ (.int .u8 (n / 2 ^ (8 * (2 - q)).toNat % 256))) w.heap.size 5 (putArr n 3 (q + 1)) := by
            rw [← putArr_set n 3 q q0 hq, ← eq]
            exact rN
          clear rN eq
          go_wp2
          go_roundw
          case rel => exact ⟨q + 1, q2_, q2_, q28_, rN2, rB.setCell q28_ _⟩
          case measure => simp [intOf]; omega
        · obtain rfl : q = 3 := by omega
          have hcv := put_conv n 3 q2_ _ _ rA
          go_wp2
          go_ret
          exact ⟨rfl, rB⟩
set_option maxRecDepth 100000 in
set_option maxHeartbeats 1000000 in
theorem put_4 (n : Int) (w : World) (hin : fits n 4) (hout : ∀ k, 1 ≤ k → k < 4 → ¬ fits n k) :
    Calls Tryd.prog 33 #[.int .i64 n] w fun en w' => en = .returned (.string (strOfNums (putL n 4))) ∧ Below w.heap.size w w' := by
  have o1 : ¬ (-128 ≤ n ∧ n < 128) := hout 1 q2_ q2_
  have o2 : ¬ (-32768 ≤ n ∧ n < 32768) := hout 2 q2_ q2_
  have o3 : ¬ (-8388608 ≤ n ∧ n < 8388608) := hout 3 q2_ q2_
  clear hout
  obtain ⟨hi1, hi2⟩ : -2147483648 ≤ n ∧ n < 2147483648 := hin
  have hm : ∀ W : World, (Instr.makeSlice 39 (.int .i64 4) (.int .i64 4)).run Tryd.prog W = .ok (.slice (some ⟨W.heap.size, 0, none⟩) 4 4) (W.alloc (.cells (putArr n 4 0) 5)) := make_u8 n 4 q2_
  go_enter Tryd.func33, Tryd.ntmps33
  go_wp2
  go_loopw [3] (fun i wr => ∃ k : Int, 1 ≤ k ∧ k ≤ 4 ∧ i = .int .i64 k ∧ w = wr)
    (fun i _ => (4 - intOf i).toNat)
  case atStart => exact ⟨1, q2_, q2_, rfl, rfl⟩
  case round =>
    obtain ⟨k, hk, hk2, rfl, rfl⟩ := hrel
    rcases (show k = 1 ∨ k = 2 ∨ k = 3 ∨ k = 4 by omega) with rfl | rfl | rfl | rfl
    · by_cases hn : n < -128
      · go_wp2
        go_roundw
        case rel => exact ⟨2, q2_, q2_, rfl, trivial⟩
        case measure => simp [intOf]
      · have hn2 : 128 ≤ n := by omega
        go_wp2
        go_roundw
        case rel => exact ⟨2, q2_, q2_, rfl, trivial⟩
        case measure => simp [intOf]
    · by_cases hn : n < -32768
      · go_wp2
        go_roundw
        case rel => exact ⟨3, q2_, q2_, rfl, trivial⟩
        case measure => simp [intOf]
      · have hn2 : 32768 ≤ n := by omega
        go_wp2
        go_roundw
        case rel => exact ⟨3, q2_, q2_, rfl, trivial⟩
        case measure => simp [intOf]
    · by_cases hn : n < -8388608
      · go_wp2
        go_roundw
        case rel => exact ⟨4, q2_, q2_, rfl, trivial⟩
        case measure => simp [intOf]
      · have hn2 : 8388608 ≤ n := by omega
        go_wp2
        go_roundw
        case rel => exact ⟨4, q2_, q2_, rfl, trivial⟩
        case measure => simp [intOf]
    · go_wp2
      have kz := At.new w 5 (putArr n 4 0)
      have hB := (Below.refl w.heap.size w).alloc (Nat.le_refl _) (.cells (putArr n 4 0) 5)
      generalize w.alloc (.cells (putArr n 4 0) 5) = W at kz hB ⊢
      go_loopw [30] (fun i w2 => ∃ q : Int, 0 ≤ q ∧ q ≤ 4 ∧ i = .int .i64 q ∧ At w2 w.heap.size 5 (putArr n 4 q) ∧ Below w.heap.size w w2)
        (fun i _ => (4 - intOf i).toNat)
      case atStart => exact ⟨0, q2_, q2_, rfl, kz, hB⟩
      case round =>
        obtain ⟨q, q0, q3, rfl, rA, rB⟩ := hrel
        have lt1 := rA.lt
        by_cases hq : q < 4
        · have cq := (rA.cell q.toNat).trans (putArr_at n 4 q q0 hq)
          have fq := rA.free q.toNat
          have rN := rA.set q.toNat (.int .u8 (n / 2 ^ (8 * (3 - q)).toNat % 256))
          have eq : n / 2 ^ (8 * (3 - q)).toNat % 256 = putAt n 4 q.toNat := by
            unfold putAt
            rw [show (8 * (3 - q)).toNat = 8 * (4 - 1 - q.toNat) by omega]
          have rN2 : At (wr.setCell ⟨w.heap.size, q.toNat, none⟩ (.int .u8 (n / 2 ^ (8 * (3 - q)).toNat % 256))) w.heap.size 5 (putArr n 4 (q + 1)) := by
            rw [← putArr_set n 4 q q0 hq, ← eq]
            exact rN
          clear rN eq
          go_wp2
          go_roundw
          case rel => exact ⟨q + 1, q2_, q2_, q28_, rN2, rB.setCell q28_ _⟩
          case measure => simp [intOf]; omega
        · obtain rfl : q = 4 := by omega
          have hcv := put_conv n 4 q2_ _ _ rA
          go_wp2
          go_ret
          exact ⟨rfl, rB⟩
set_option maxRecDepth 100000 in
set_option maxHeartbeats 1000000 in
theorem put_5 (n : Int) (w : World) (hin : fits n 5) (hout : ∀ k, 1 ≤ k → k < 5 → ¬ fits n k) :
    Calls Tryd.prog 33 #[.int .i64 n] w fun en w' => en = .returned (.string (strOfNums (putL n 5))) ∧ Below w.heap.size w w' := by
  have o1 : ¬ (-128 ≤ n ∧ n < 128) := hout 1 q2_ q2_
  have o2 : ¬ (-32768 ≤ n ∧ n < 32768) := hout 2 q2_ q2_
  have o3 : ¬ (-8388608 ≤ n ∧ n < 8388608) := hout 3 q2_ q2_
  have o4 : ¬ (-2147483648 ≤ n ∧ n < 2147483648) := hout 4 q2_ q2_
  clear hout
  obtain ⟨hi1, hi2⟩ : -549755813888 ≤ n ∧ n < 549755813888 := hin
  have hm : ∀ W : World, (Instr.makeSlice 39 (.int .i64 5) (.int .i64 5)).run Tryd.prog W = .ok (.slice (some ⟨W.heap.size, 0, none⟩) 5 5) (W.alloc (.cells (putArr n 5 0) 5)) := make_u8 n 5 q2_
  go_enter Tryd.func33, Tryd.ntmps33
  go_wp2
  go_loopw [3] (fun i wr => ∃ k : Int, 1 ≤ k ∧ k ≤ 5 ∧ i = .int .i64 k ∧ w = wr)
    (fun i _ => (5 - intOf i).toNat)
  case atStart => exact ⟨1, q2_, q2_, rfl, rfl⟩
  case round =>
    obtain ⟨k, hk, hk2, rfl, rfl⟩ := hrel
    rcases (show k = 1 ∨ k = 2 ∨ k = 3 ∨ k = 4 ∨ k = 5 by omega) with rfl | rfl | rfl | rfl | rfl
    · by_cases hn : n < -128
      · go_wp2
        go_roundw
        case rel => exact ⟨2, q2_, q2_, rfl, trivial⟩
        case measure => simp [intOf]
      · have hn2 : 128 ≤ n := by omega
        go_wp2
        go_roundw
        case rel => exact ⟨2, q2_, q2_, rfl, trivial⟩
        case measure => simp [intOf]
    · by_cases hn : n < -32768
      · go_wp2
        go_roundw
        case rel => exact ⟨3, q2_, q2_, rfl, trivial⟩
        case measure => simp [intOf]
      · have hn2 : 32768 ≤ n := by omega
        go_wp2
        go_roundw
        case rel => exact ⟨3, q2_, q2_, rfl, trivial⟩
        case measure => simp [intOf]
    · by_cases hn : n < -8388608
      · go_wp2
        go_roundw
        case rel => exact ⟨4, q2_, q2_, rfl, trivial⟩
        case measure => simp [intOf]
      · have hn2 : 8388608 ≤ n := by omega
        go_wp2
        go_roundw
        case rel => exact ⟨4, q2_, q2_, rfl, trivial⟩
        case measure => simp [intOf]
    · by_cases hn : n < -2147483648
      · go_wp2
        go_roundw
        case rel => exact ⟨5, q2_, q2_, rfl, trivial⟩
        case measure => simp [intOf]
      · have hn2 : 2147483648 ≤ n := by omega
        go_wp2
        go_roundw
        case rel => exact ⟨5, q2_, q2_, rfl, trivial⟩
        case measure => simp [intOf]
    · go_wp2
      have kz := At.new w 5 (putArr n 5 0)
      have hB := (Below.refl w.heap.size w).alloc (Nat.le_refl _) (.cells (putArr n 5 0) 5)
      generalize w.alloc (.cells (putArr n 5 0) 5) = W at kz hB ⊢
      go_loopw [30] (fun i w2 => ∃ q : Int, 0 ≤ q ∧ q ≤ 5 ∧ i = .int .i64 q ∧ At w2 w.heap.size 5 (putArr n 5 q) ∧ Below w.heap.size w w2)
        (fun i _ => (5 - intOf i).toNat)
      case atStart => exact ⟨0, q2_, q2_, rfl, kz, hB⟩
      case round =>
        obtain ⟨q, q0, q3, rfl, rA, rB⟩ := hrel
        have lt1 := rA.lt
        by_cases hq : q < 5
        · have cq := (rA.cell q.toNat).trans (putArr_at n 5 q q0 hq)
          have fq := rA.free q.toNat
          have rN := rA.set q.toNat (.int .u8 (n / 2 ^ (8 * (4 - q)).toNat % 256))
          have eq : n / 2 ^ (8 * (4 - q)).toNat % 256 = putAt n 5 q.toNat := by
            unfold putAt
            rw [show (8 * (4 - q)).toNat = 8 * (5 - 1 - q.toNat) by omega]
          have rN2 : At (wr.setCell ⟨w.heap.size, q.toNat, none⟩ (.int .u8 (n / 2 ^ (8 * (4 - q)).toNat % 256))) w.heap.size 5 (putArr n 5 (q + 1)) := by
            rw [← putArr_set n 5 q q0 hq, ← eq]
            exact rN
          clear rN eq
          go_wp2
          go_roundw
          case rel => exact ⟨q + 1, q2_, q2_, q28_, rN2, rB.setCell q28_ _⟩
          case measure => simp [intOf]; omega
        · obtain rfl : q = 5 := by omega
          have hcv := put_conv n 5 q2_ _ _ rA
          go_wp2
          go_ret
          exact ⟨rfl, rB⟩
set_option maxRecDepth 100000 in
set_option maxHeartbeats 1000000 in
theorem put_6 (n : Int) (w : World) (hin : fits n 6) (hout : ∀ k, 1 ≤ k → k < 6 → ¬ fits n k) :
    Calls Tryd.prog 33 #[.int .i64 n] w fun en w' => en = .returned (.string (strOfNums (putL n 6))) ∧ Below w.heap.size w w' := by
  have o1 : ¬ (-128 ≤ n ∧ n < 128) := hout 1 q2_ q2_
  have o2 : ¬ (-32768 ≤ n ∧ n < 32768) := hout 2 q2_ q2_
  have o3 : ¬ (-8388608 ≤ n ∧ n < 8388608) := hout 3 q2_ q2_
  have o4 : ¬ (-2147483648 ≤ n ∧ n < 2147483648) := hout 4 q2_ q2_
  have o5 : ¬ (-549755813888 ≤ n ∧ n < 549755813888) := hout 5 q2_ q2_
  clear hout
  obtain ⟨hi1, hi2⟩ : -140737488355328 ≤ n ∧ n < 140737488355328 := hin
  have hm : ∀ W : World, (Instr.makeSlice 39 (.int .i64 6) (.int .i64 6)).run Tryd.prog W = .ok (.slice (some ⟨W.heap.size, 0, none⟩) 6 6) (W.alloc (.cells (putArr n 6 0) 5)) := make_u8 n 6 q2_
  go_enter Tryd.func33, Tryd.ntmps33
  go_wp2
  go_loopw [3] (fun i wr => ∃ k : Int, 1 ≤ k ∧ k ≤ 6 ∧ i = .int .i64 k ∧ w = wr)
    (fun i _ => (6 - intOf i).toNat)
  case atStart => exact ⟨1, q2_, q2_, rfl, rfl⟩
  case round =>
    obtain ⟨k, hk, hk2, rfl, rfl⟩ := hrel
    rcases (show k = 1 ∨ k = 2 ∨ k = 3 ∨ k = 4 ∨ k = 5 ∨ k = 6 by omega) with rfl | rfl | rfl | rfl | rfl | rfl
    · by_cases hn : n < -128
      · go_wp2
        go_roundw
        case rel => exact ⟨2, q2_, q2_, rfl, trivial⟩
        case measure => simp [intOf]
      · have hn2 : 128 ≤ n := by omega
        go_wp2
        go_roundw
        case rel => exact ⟨2, q2_, q2_, rfl, trivial⟩
        case measure => simp [intOf]
    · by_cases hn : n < -32768
      · go_wp2
        go_roundw
        case rel => exact ⟨3, q2_, q2_, rfl, trivial⟩
        case measure => simp [intOf]
      · have hn2 : 32768 ≤ n := by omega
        go_wp2
        go_roundw
        case rel => exact ⟨3, q2_, q2_, rfl, trivial⟩
        case measure => simp [intOf]
    · by_cases hn : n < -8388608
      · go_wp2
        go_roundw
        case rel => exact ⟨4, q2_, q2_, rfl, trivial⟩
        case measure => simp [intOf]
      · have hn2 : 8388608 ≤ n := by omega
        go_wp2
        go_roundw
        case rel => exact ⟨4, q2_, q2_, rfl, trivial⟩
        case measure => simp [intOf]
    · by_cases hn : n < -2147483648
      · go_wp2
        go_roundw
        case rel => exact ⟨5, q2_, q2_, rfl, trivial⟩
        case measure => simp [intOf]
      · have hn2 : 2147483648 ≤ n := by omega
        go_wp2
        go_roundw
        case rel => exact ⟨5, q2_, q2_, rfl, trivial⟩
        case measure => simp [intOf]
    · by_cases hn : n < -549755813888
      · go_wp2
        go_roundw
        case rel => exact ⟨6, q2_, q2_, rfl, trivial⟩
        case measure => simp [intOf]
      · have hn2 : 549755813888 ≤ n := by omega
        go_wp2
        go_roundw
        case rel => exact ⟨6, q2_, q2_, rfl, trivial⟩
        case measure => simp [intOf]
    · go_wp2
      have kz := At.new w 5 (putArr n 6 0)
      have hB := (Below.refl w.heap.size w).alloc (Nat.le_refl _) (.cells (putArr n 6 0) 5)
      generalize w.alloc (.cells (putArr n 6 0) 5) = W at kz hB ⊢
      go_loopw [30] (fun i w2 => ∃ q : Int, 0 ≤ q ∧ q ≤ 6 ∧ i = .int .i64 q ∧ At w2 w.heap.size 5 (putArr n 6 q) ∧ Below w.heap.size w w2)
        (fun i _ => (6 - intOf i).toNat)
      case atStart => exact ⟨0, q2_, q2_, rfl, kz, hB⟩
      case round =>
        obtain ⟨q, q0, q3, rfl, rA, rB⟩ := hrel
        have lt1 := rA.lt
        by_cases hq : q < 6
        · have cq := (rA.cell q.toNat).trans (putArr_at n 6 q q0 hq)
          have fq := rA.free q.toNat
          have rN := rA.set q.toNat (.int .u8 (n / 2 ^ (8 * (5 - q)).toNat % 256))
          have eq : n / 2 ^ (8 * (5 - q)).toNat % 256 = putAt n 6 q.toNat := by
            unfold putAt
            rw [show (8 * (5 - q)).toNat = 8 * (6 - 1 - q.toNat) by omega]
          have rN2 : At (wr.setCell ⟨w.heap.size, q.toNat, none⟩ (.int .u8 (n / 2 ^ (8 * (5 - q)).toNat % 256))) w.heap.size 5 (putArr n 6 (q + 1)) := by
            rw [← putArr_set n 6 q q0 hq, ← eq]
            exact rN
          clear rN eq
          go_wp2
          go_roundw
          case rel => exact ⟨q + 1, q2_, q2_, q28_, rN2, rB.setCell q28_ _⟩
          case measure => simp [intOf]; omega
        · obtain rfl : q = 6 := by omega
          have hcv := put_conv n 6 q2_ _ _ rA
          go_wp2
          go_ret
          exact ⟨rfl, rB⟩
set_option maxRecDepth 100000 in
set_option maxHeartbeats 1000000 in
theorem put_7 (n : Int) (w : World) (hin : fits n 7) (hout : ∀ k, 1 ≤ k → k < 7 → ¬ fits n k) :
    Calls Tryd.prog 33 #[.int .i64 n] w fun en w' => en = .returned (.string (strOfNums (putL n 7))) ∧ Below w.heap.size w w' := by
  have o1 : ¬ (-128 ≤ n ∧ n < 128) := hout 1 q2_ q2_
  have o2 : ¬ (-32768 ≤ n ∧ n < 32768) := hout 2 q2_ q2_
  have o3 : ¬ (-8388608 ≤ n ∧ n < 8388608) := hout 3 q2_ q2_
  have o4 : ¬ (-2147483648 ≤ n ∧ n < 2147483648) := hout 4 q2_ q2_
  have o5 : ¬ (-549755813888 ≤ n ∧ n < 549755813888) := hout 5 q2_ q2_
  have o6 : ¬ (-140737488355328 ≤ n ∧ n < 140737488355328) := hout 6 q2_ q2_
  clear hout
  obtain ⟨hi1, hi2⟩ : -36028797018963968 ≤ n ∧ n < 36028797018963968 := hin
  have hm : ∀ W : World, (Instr.makeSlice 39 (.int .i64 7) (.int .i64 7)).run Tryd.prog W = .ok (.slice (some ⟨W.heap.size, 0, none⟩) 7 7) (W.alloc (.cells (putArr n 7 0) 5)) := make_u8 n 7 q2_
  go_enter Tryd.func33, Tryd.ntmps33
  go_wp2
  go_loopw [3] (fun i wr => ∃ k : Int, 1 ≤ k ∧ k ≤ 7 ∧ i = .int .i64 k ∧ w = wr)
    (fun i _ => (7 - intOf i).toNat)
  case atStart => exact ⟨1, q2_, q2_, rfl, rfl⟩
  case round =>
    obtain ⟨k, hk, hk2, rfl, rfl⟩ := hrel
    rcases (show k = 1 ∨ k = 2 ∨ k = 3 ∨ k = 4 ∨ k = 5 ∨ k = 6 ∨ k = 7 by omega) with rfl | rfl | rfl | rfl | rfl | rfl | rfl
    · by_cases hn : n < -128
      · go_wp2
        go_roundw
        case rel => exact ⟨2, q2_, q2_, rfl, trivial⟩
        case measure => simp [intOf]
      · have hn2 : 128 ≤ n := by omega
        go_wp2
        go_roundw
        case rel => exact ⟨2, q2_, q2_, rfl, trivial⟩
        case measure => simp [intOf]
    · by_cases hn : n < -32768
      · go_wp2
        go_roundw
        case rel => exact ⟨3, q2_, q2_, rfl, trivial⟩
        case measure => simp [intOf]
      · have hn2 : 32768 ≤ n := by omega
        go_wp2
        go_roundw
        case rel => exact ⟨3, q2_, q2_, rfl, trivial⟩
        case measure => simp [intOf]
    · by_cases hn : n < -8388608
      · go_wp2
        go_roundw
        case rel => exact ⟨4, q2_, q2_, rfl, trivial⟩
        case measure => simp [intOf]
      · have hn2 : 8388608 ≤ n := by omega
        go_wp2
        go_roundw
        case rel => exact ⟨4, q2_, q2_, rfl, trivial⟩
        case measure => simp [intOf]
    · by_cases hn : n < -2147483648
      · go_wp2
        go_roundw
        case rel => exact ⟨5, q2_, q2_, rfl, trivial⟩
        case measure => simp [intOf]
      · have hn2 : 2147483648 ≤ n := by omega
        go_wp2
        go_roundw
        case rel => exact ⟨5, q2_, q2_, rfl, trivial⟩
        case measure => simp [intOf]
    · by_cases hn : n < -549755813888
      · go_wp2
        go_roundw
        case rel => exact ⟨6, q2_, q2_, rfl, trivial⟩
        case measure => simp [intOf]
      · have hn2 : 549755813888 ≤ n := by omega
        go_wp2
        go_roundw
        case rel => exact ⟨6, q2_, q2_, rfl, trivial⟩
        case measure => simp [intOf]
    · by_cases hn : n < -140737488355328
      · go_wp2
        go_roundw
        case rel => exact ⟨7, q2_, q2_, rfl, trivial⟩
        case measure => simp [intOf]
      · have hn2 : 140737488355328 ≤ n := by omega
        go_wp2
        go_roundw
        case rel => exact ⟨7, q2_, q2_, rfl, trivial⟩
        case measure => simp [intOf]
    · go_wp2
      have kz := At.new w 5 (putArr n 7 0)
      have hB := (Below.refl w.heap.size w).alloc (Nat.le_refl _) (.cells (putArr n 7 0) 5)
      generalize w.alloc (.cells (putArr n 7 0) 5) = W at kz hB ⊢
      go_loopw [30] (fun i w2 => ∃ q : Int, 0 ≤ q ∧ q ≤ 7 ∧ i = .int .i64 q ∧ At w2 w.heap.size 5 (putArr n 7 q) ∧ Below w.heap.size w w2)
        (fun i _ => (7 - intOf i).toNat)
      case atStart => exact ⟨0, q2_, q2_, rfl, kz, hB⟩
      case round =>
        obtain ⟨q, q0, q3, rfl, rA, rB⟩ := hrel
        have lt1 := rA.lt
        by_cases hq : q < 7
        · have cq := (rA.cell q.toNat).trans (putArr_at n 7 q q0 hq)
          have fq := rA.free q.toNat
          have rN := rA.set q.toNat (.int .u8 (n / 2 ^ (8 * (6 - q)).toNat % 256))
          have eq : n / 2 ^ (8 * (6 - q)).toNat % 256 = putAt n 7 q.toNat := by
            unfold putAt
            rw [show (8 * (6 - q)).toNat = 8 * (7 - 1 - q.toNat) by omega]
          have rN2 : At (wr.setCell ⟨w.heap.size, q.toNat, none⟩ (.int .u8 (n / 2 ^ (8 * (6 - q)).toNat % 256))) w.heap.size 5 (putArr n 7 (q + 1)) := by
            rw [← putArr_set n 7 q q0 hq, ← eq]
            exact rN
          clear rN eq
          go_wp2
          go_roundw
          case rel => exact ⟨q + 1, q2_, q2_, q28_, rN2, rB.setCell q28_ _⟩
          case measure => simp [intOf]; omega
        · obtain rfl : q = 7 := by omega
          have hcv := put_conv n 7 q2_ _ _ rA
          go_wp2
          go_ret
          exact ⟨rfl, rB⟩
set_option maxRecDepth 100000 in
set_option maxHeartbeats 1000000 in
theorem put_8 (n : Int) (w : World) (hin : fits n 8) (hout : ∀ k, 1 ≤ k → k < 8 → ¬ fits n k) :
    Calls Tryd.prog 33 #[.int .i64 n] w fun en w' => en = .returned (.string (strOfNums (putL n 8))) ∧ Below w.heap.size w w' := by
  have o1 : ¬ (-128 ≤ n ∧ n < 128) := hout 1 q2_ q2_
  have o2 : ¬ (-32768 ≤ n ∧ n < 32768) := hout 2 q2_ q2_
  have o3 : ¬ (-8388608 ≤ n ∧ n < 8388608) := hout 3 q2_ q2_
  have o4 : ¬ (-2147483648 ≤ n ∧ n < 2147483648) := hout 4 q2_ q2_
  have o5 : ¬ (-549755813888 ≤ n ∧ n < 549755813888) := hout 5 q2_ q2_
  have o6 : ¬ (-140737488355328 ≤ n ∧ n < 140737488355328) := hout 6 q2_ q2_
  have o7 : ¬ (-36028797018963968 ≤ n ∧ n < 36028797018963968) := hout 7 q2_ q2_
  clear hout
  obtain ⟨hi1, hi2⟩ : -9223372036854775808 ≤ n ∧ n < 9223372036854775808 := hin
  have hm : ∀ W : World, (Instr.makeSlice 39 (.int .i64 8) (.int .i64 8)).run Tryd.prog W = .ok (.slice (some ⟨W.heap.size, 0, none⟩) 8 8) (W.alloc (.cells (putArr n 8 0) 5)) := make_u8 n 8 q2_
  go_enter Tryd.func33, Tryd.ntmps33
  go_wp2
  go_loopw [3] (fun i wr => ∃ k : Int, 1 ≤ k ∧ k ≤ 8 ∧ i = .int .i64 k ∧ w = wr)
    (fun i _ => (8 - intOf i).toNat)
  case atStart => exact ⟨1, q2_, q2_, rfl, rfl⟩
  case round =>
    obtain ⟨k, hk, hk2, rfl, rfl⟩ := hrel
    rcases (show k = 1 ∨ k = 2 ∨ k = 3 ∨ k = 4 ∨ k = 5 ∨ k = 6 ∨ k = 7 ∨ k = 8 by omega) with rfl | rfl | rfl | rfl | rfl | rfl | rfl | rfl
    · by_cases hn : n < -128
      · go_wp2
        go_roundw
        case rel => exact ⟨2, q2_, q2_, rfl, trivial⟩
        case measure => simp [intOf]
      · have hn2 : 128 ≤ n := by omega
        go_wp2
        go_roundw
        case rel => exact ⟨2, q2_, q2_, rfl, trivial⟩
        case measure => simp [intOf]
    · by_cases hn : n < -32768
      · go_wp2
        go_roundw
        case rel => exact ⟨3, q2_, q2_, rfl, trivial⟩
        case measure => simp [intOf]
      · have hn2 : 32768 ≤ n := by omega
        go_wp2
        go_roundw
        case rel => exact ⟨3, q2_, q2_, rfl, trivial⟩
        case measure => simp [intOf]
    · by_cases hn : n < -8388608
      · go_wp2
        go_roundw
        case rel => exact ⟨4, q2_, q2_, rfl, trivial⟩
        case measure => simp [intOf]
      · have hn2 : 8388608 ≤ n := by omega
        go_wp2
        go_roundw
        case rel => exact ⟨4, q2_, q2_, rfl, trivial⟩
        case measure => simp [intOf]
    · by_cases hn : n < -2147483648
      · go_wp2
        go_roundw
        case rel => exact ⟨5, q2_, q2_, rfl, trivial⟩
        case measure => simp [intOf]
      · have hn2 : 2147483648 ≤ n := by omega
        go_wp2
        go_roundw
        case rel => exact ⟨5, q2_, q2_, rfl, trivial⟩
        case measure => simp [intOf]
    · by_cases hn : n < -549755813888
      · go_wp2
        go_roundw
        case rel => exact ⟨6, q2_, q2_, rfl, trivial⟩
        case measure => simp [intOf]
      · have hn2 : 549755813888 ≤ n := by omega
        go_wp2
        go_roundw
        case rel => exact ⟨6, q2_, q2_, rfl, trivial⟩
        case measure => simp [intOf]
    · by_cases hn : n < -140737488355328
      · go_wp2
        go_roundw
        case rel => exact ⟨7, q2_, q2_, rfl, trivial⟩
        case measure => simp [intOf]
      · have hn2 : 140737488355328 ≤ n := by omega
        go_wp2
        go_roundw
        case rel => exact ⟨7, q2_, q2_, rfl, trivial⟩
        case measure => simp [intOf]
    · by_cases hn : n < -36028797018963968
      · go_wp2
        go_roundw
        case rel => exact ⟨8, q2_, q2_, rfl, trivial⟩
        case measure => simp [intOf]
      · have hn2 : 36028797018963968 ≤ n := by omega
        go_wp2
        go_roundw
        case rel => exact ⟨8, q2_, q2_, rfl, trivial⟩
        case measure => simp [intOf]
    · go_wp2
      have kz := At.new w 5 (putArr n 8 0)
      have hB := (Below.refl w.heap.size w).alloc (Nat.le_refl _) (.cells (putArr n 8 0) 5)
      generalize w.alloc (.cells (putArr n 8 0) 5) = W at kz hB ⊢
      go_loopw [30] (fun i w2 => ∃ q : Int, 0 ≤ q ∧ q ≤ 8 ∧ i = .int .i64 q ∧ At w2 w.heap.size 5 (putArr n 8 q) ∧ Below w.heap.size w w2)
        (fun i _ => (8 - intOf i).toNat)
      case atStart => exact ⟨0, q2_, q2_, rfl, kz, hB⟩
      case round =>
        obtain ⟨q, q0, q3, rfl, rA, rB⟩ := hrel
        have lt1 := rA.lt
        by_cases hq : q < 8
        · have cq := (rA.cell q.toNat).trans (putArr_at n 8 q q0 hq)
          have fq := rA.free q.toNat
          have rN := rA.set q.toNat (.int .u8 (n / 2 ^ (8 * (7 - q)).toNat % 256))
          have eq : n / 2 ^ (8 * (7 - q)).toNat % 256 = putAt n 8 q.toNat := by
            unfold putAt
            rw [show (8 * (7 - q)).toNat = 8 * (8 - 1 - q.toNat) by omega]
          have rN2 : At (wr.setCell ⟨w.heap.size, q.toNat, none⟩ (.int .u8 (n / 2 ^ (8 * (7 - q)).toNat % 256))) w.heap.size 5 (putArr n 8 (q + 1)) := by
            rw [← putArr_set n 8 q q0 hq, ← eq]
            exact rN
          clear rN eq
          go_wp2
          go_roundw
          case rel => exact ⟨q + 1, q2_, q2_, q28_, rN2, rB.setCell q28_ _⟩
          case measure => simp [intOf]; omega
        · obtain rfl : q = 8 := by omega
          have hcv := put_conv n 8 q2_ _ _ rA
          go_wp2
          go_ret
          exact ⟨rfl, rB⟩
def putC (n : Int) : Nat := if -128 ≤ n ∧ n < 128 then 1 else if -32768 ≤ n ∧ n < 32768 then 2 else if -8388608 ≤ n ∧ n < 8388608 then 3 else if -2147483648 ≤ n ∧ n < 2147483648 then 4
  else if -549755813888 ≤ n ∧ n < 549755813888 then 5 else if -140737488355328 ≤ n ∧ n < 140737488355328 then 6 else if -36028797018963968 ≤ n ∧ n < 36028797018963968 then 7 else 8
def putS (n : Int) : ByteArray := strOfNums (putL n (putC n))
theorem PutInt_any (n : Int) (w : World) (h0 : -9223372036854775808 ≤ n) (h1 : n ≤ 9223372036854775807) :
    Calls Tryd.prog 33 #[.int .i64 n] w fun en w' => en = .returned (.string (putS n)) ∧ Below w.heap.size w w' := by
  unfold putS putC
  by_cases c1 : -128 ≤ n ∧ n < 128
  · rw [if_pos c1]
    exact put_1 n w ⟨q39_, q39_⟩ (by intro k k1 k2; omega)
  rw [if_neg c1]
  by_cases c2 : -32768 ≤ n ∧ n < 32768
  · rw [if_pos c2]
    exact put_2 n w ⟨q39_, q39_⟩ (by intro k k1 k2; rcases (show k = 1 by omega) with rfl <;> (unfold fits; simp; omega))
  rw [if_neg c2]
  by_cases c3 : -8388608 ≤ n ∧ n < 8388608
  · rw [if_pos c3]
    exact put_3 n w ⟨q39_, q39_⟩ (by intro k k1 k2; rcases (show k = 1 ∨ k = 2 by omega) with rfl | rfl <;> (unfold fits; simp; omega))
  rw [if_neg c3]
  by_cases c4 : -2147483648 ≤ n ∧ n < 2147483648
  · rw [if_pos c4]
    exact put_4 n w ⟨q39_, q39_⟩ (by intro k k1 k2; rcases (show k = 1 ∨ k = 2 ∨ k = 3 by omega) with rfl | rfl | rfl <;> (unfold fits; simp; omega))
  rw [if_neg c4]
  by_cases c5 : -549755813888 ≤ n ∧ n < 549755813888
  · rw [if_pos c5]
    exact put_5 n w ⟨q39_, q39_⟩ (by intro k k1 k2; rcases (show k = 1 ∨ k = 2 ∨ k = 3 ∨ k = 4 by omega) with rfl | rfl | rfl | rfl <;> (unfold fits; simp; omega))
  rw [if_neg c5]
  by_cases c6 : -140737488355328 ≤ n ∧ n < 140737488355328
  · rw [if_pos c6]
    exact put_6 n w ⟨q39_, q39_⟩ (by intro k k1 k2; rcases (show k = 1 ∨ k = 2 ∨ k = 3 ∨ k = 4 ∨ k = 5 by omega) with rfl | rfl | rfl | rfl | rfl <;> (unfold fits; simp; omega))
  rw [if_neg c6]
  by_cases c7 : -36028797018963968 ≤ n ∧ n < 36028797018963968
  · rw [if_pos c7]
    exact put_7 n w ⟨q39_, q39_⟩ (by intro k k1 k2; rcases (show k = 1 ∨ k = 2 ∨ k = 3 ∨ k = 4 ∨ k = 5 ∨ k = 6 by omega) with rfl | rfl | rfl | rfl | rfl | rfl <;> (unfold fits; simp; omega))
  rw [if_neg c7]
  exact put_8 n w ⟨q39_, q39_⟩ (by intro k k1 k2; rcases (show k = 1 ∨ k = 2 ∨ k = 3 ∨ k = 4 ∨ k = 5 ∨ k = 6 ∨ k = 7 by omega) with rfl | rfl | rfl | rfl | rfl | rfl | rfl <;> (unfold fits; simp; omega))
end Go.Proofs.YtogjljpncdmlkaaDoor.W
end
