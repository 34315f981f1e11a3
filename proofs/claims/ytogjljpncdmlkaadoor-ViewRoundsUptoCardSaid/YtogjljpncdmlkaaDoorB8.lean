/- Texts of this claim in one: GAx1 -/
import Derived.Test.YtogjljpncdmlkaaDoorB3
import Derived.Test.YtogjljpncdmlkaaDoorB7
section
namespace Go.Proofs.YtogjljpncdmlkaaDoor.GA
open Go.RowKit Go.Proofs.YtogjljpncdmlkaaDoorW.PrintWords Go.Proofs.YtogjljpncdmlkaaDoorW.PrintLast Go.Proofs.YtogjljpncdmlkaaDoorW.PrintMore
attribute [local go_sem] max2_int min2_int max_two min_two max_three min_three max_four min_four   -- for this text's walks alone
set_option linter.unusedVariables false
set_option linter.unusedSimpArgs false
mutual
def ber_length.j1 : Nat → Int → Int → Option (List Int)
 | 0, _, _ => none
 | k + 1, x0, x3 => (some (([(wrap64 (128 + x3)) % 256] : List Int) : List Int)).bind fun y104 => (if x3 = 4 then (if y104.length < 140737488355328 then ((some (y104 ++ [(x0 / 16777216) % 256] : List Int)).bind fun y107 => (if y107.length < 140737488355328 then ((some (y107 ++ [(x0 / 65536) % 256] : List Int)).bind fun y110 => (if y110.length < 140737488355328 then ((some (y110 ++ [(x0 / 256) % 256] : List Int)).bind fun y113 => (if y113.length < 140737488355328 then (some (y113 ++ [(x0) % 256])) else (none))) else (none))) else (none))) else (none)) else (if x3 = 3 then (if y104.length < 140737488355328 then ((some (y104 ++ [(x0 / 65536) % 256] : List Int)).bind fun y119 => (if y119.length < 140737488355328 then ((some (y119 ++ [(x0 / 256) % 256] : List Int)).bind fun y122 => (if y122.length < 140737488355328 then (some (y122 ++ [(x0) % 256])) else (none))) else (none))) else (none)) else (if x3 = 2 then (if y104.length < 140737488355328 then ((some (y104 ++ [(x0 / 256) % 256] : List Int)).bind fun y128 => (if y128.length < 140737488355328 then (some (y128 ++ [(x0) % 256])) else (none))) else (none)) else (if y104.length < 140737488355328 then (some (y104 ++ [(x0) % 256])) else (none)))))
def ber_length.l0 : Nat → Int → Int → Option (List Int)
 | 0, _, _ => none
 | k + 1, x0, x3 => if x3 < 4 then (if 0 ≤ (wrap64 (8 * x3)) then (if (shr .i64 x0 (wrap64 (8 * x3))) > 0 then (ber_length.l0 k x0 (wrap64 (x3 + 1))) else (ber_length.j1 k x0 x3)) else (none)) else (ber_length.j1 k x0 x3)
end
def ber_length.f (k : Nat) (a0 : Int) : Option (List Int) := if a0 < 128 then (some (([(a0) % 256] : List Int))) else (ber_length.l0 k a0 1)
set_option maxHeartbeats 8000000 in
set_option maxRecDepth 100000 in
theorem ber_length.calls (k : Nat) (a0 : Int) (r : List Int) (w : World) (h : ber_length.f k a0 = some r) :
  Calls Tryd.prog 60 #[.int .i64 a0] w fun e w' => ∃ v0_ : Value, e = .returned (v0_) ∧ Kd.R (Kd.int .u8) 5 w' w.heap.size (fun _ => True) v0_ r ∧ Below w.heap.size w w' := by
 have HB := Aside0.mk (Below.refl w.heap.size w)
 have H : (if a0 < 128 then (some (([(a0) % 256] : List Int))) else (ber_length.l0 k a0 1)) = some r := h
 clear h
 by_cases c2 : a0 < 128
 ·rw [if_pos c2] at H
  have c2b0 : decide (a0 < 128) = true := decide_eq_true c2
  clear c2
  obtain ⟨y101, hy101⟩ : ∃ y_ : List Int, y_ = (([(a0) % 256] : List Int)) := ⟨_, rfl⟩
  replace H : (some y101) = some r := by first | (rw [hy101]; with_reducible exact H) | (have H2_ := (Option.bind_some _ _).symm.trans H; rw [hy101]; with_reducible exact H2_) | (have H2_ := (Option.bind_some _ _).symm.trans H; with_reducible exact H2_) | with_reducible exact H | (rw [hy101]; exact H) | exact H
  have Ny101 := Aside0.mk hy101
  clear hy101
  obtain rfl := Option.some.inj H
  go_enter Tryd.func60, Tryd.ntmps60
  go_wp2_with (first | ((with_reducible refine gate_dst (N := 9) rfl ?_); refine Kd.R_lit (Kd.int .u8) _ 5 ?hg (N := 9) ?hd (xs := ([(a0) % 256] : List Int)) (inner := [.int .u8 ((a0) % 256)]) (ok := fun _ => True) (okp := fun _ => True) ?hr ?hp (fun _ hk => hk) trivial (Below.refl _ _) (Nat.le_refl _) q21_ ?_; (case hd => rfl); (case hg => rfl); (case hr => first | (go_simp; done) | (go_simp; rfl)); (case hp => exact (Reps.one (show Kd.M (Kd.int .u8) _ _ _ ((a0) % 256) [.int .u8 ((a0) % 256)] from rfl) (Reps.none _ _))); intro v102 w3 ho4 hb hg_ hnew_; clear hg_ hnew_; (first | rw [← Ny101.out] at ho4 | (simp only [Int.reduceToNat] at ho4; rw [← Ny101.out] at ho4)); have n0_ := Aside0.mk (Kd.R_lower ho4 (below_size q1_)); have n1_ := Aside0.mk (below_step q1_ hb); clear HB; have HO103 := n0_; have HB := n1_; clear n0_ n1_; clear hb ho4))
  go_ret
  exact ⟨_, q6_, by (with_reducible repeat (first | apply Kd.R_alloc | apply Kd.R_drewN | apply Kd.R_drew)); exact HO103.out, q1_⟩
 ·rw [if_neg c2] at H
  have c2b0 : decide (a0 < 128) = false := decide_eq_false c2
  clear c2
  have HC5 := Aside0.mk H
  clear H
  go_enter Tryd.func60, Tryd.ntmps60
  go_upto_block 0 with (fail)
  go_cut [3] (fun v3 wc => ∃ (kq : Nat) (x3_4 : Int), v3 = .int .i64 x3_4 ∧ Aside0 (ber_length.j1 kq a0 x3_4 = some r) ∧ Aside0 (kq ≤ k) ∧ Aside0 (Below w.heap.size w wc))
  case first =>
   have H := HC5.out
   clear HC5
   have H' := Aside0.mk H
   clear H
   go_wp2
   go_loopg [3] k (fun kq v3 w' => ∃ (x3_1 : Int), v3 = .int .i64 x3_1 ∧ Aside0 (ber_length.l0 kq a0 x3_1 = some r) ∧ Aside0 (kq ≤ k) ∧ Aside0 (Below w.heap.size w w'))
   case atStart => exact ⟨(1), q3_, H', ⟨Nat.le_refl _⟩, ⟨q1_⟩⟩
   case round =>
    clear H'
    try clear c2
    try clear c2b0
    try clear p2
    obtain ⟨x3_1, rfl, HA, HK1, HB⟩ := hrel
    cases gk with
    | zero => exact absurd HA.out (by simp [ber_length.l0])
    | succ k1 =>
     have H := HA.out
     clear HA
     simp only [ber_length.l0] at H
     by_cases c6 : x3_1 < 4
     ·rw [if_pos c6] at H
      have c6b0 : decide (x3_1 < 4) = true := decide_eq_true c6
      clear c6
      (first | rw [c6b0] | rw [c6be] | (simp only [i64_w, i32_w]; rw [c6b0]) | skip)
      obtain ⟨ji7, hji7⟩ : ∃ j_ : Int, (wrap64 (8 * x3_1)) = j_ := ⟨_, rfl⟩
      replace H : (if 0 ≤ (ji7) then (if (shr .i64 a0 (ji7)) > 0 then (ber_length.l0 k1 a0 (wrap64 (x3_1 + 1))) else (ber_length.j1 k1 a0 x3_1)) else (none)) = some r := by first | (rw [hji7] at H; exact H) | (simp only [hji7] at H ⊢; exact H)
      have hji7w : (IntKind.i64.wrap (8 * x3_1)) = ji7 := (i64_w _).trans hji7
      by_cases c8 : 0 ≤ (ji7)
      ·rw [if_pos c8] at H
       have c8b0 := eq_true c8
       have c8b1 : decide (0 ≤ (ji7)) = true := decide_eq_true c8
       clear c8
       obtain ⟨ji9, hji9⟩ : ∃ j_ : Int, (shr .i64 a0 (ji7)) = j_ := ⟨_, rfl⟩
       replace H : (if (ji9) > 0 then (ber_length.l0 k1 a0 (wrap64 (x3_1 + 1))) else (ber_length.j1 k1 a0 x3_1)) = some r := by first | (rw [hji9] at H; exact H) | (simp only [hji9] at H ⊢; exact H)
       have hji9_ : (a0 / 2 ^ min (ji7).toNat 64) = ji9 := hji9
       have hji9z : (ji7) ≤ 64 → (a0 / 2 ^ (ji7).toNat) = ji9 := shr_small hji9
       by_cases c10 : (ji9) > 0
       ·rw [if_pos c10] at H
        have c10b0 : decide (0 < (ji9)) = true := decide_eq_true c10
        clear c10
        have H' := Aside0.mk H
        clear H
        go_wp2
        go_roundg k1
        case measure => have := HK1.out; omega
        case rel => exact ⟨(wrap64 (x3_1 + 1)), q3_, H', ⟨by have := HK1.out; omega⟩, ⟨q1_⟩⟩
       ·rw [if_neg c10] at H
        have c10b0 : decide (0 < (ji9)) = false := decide_eq_false c10
        clear c10
        have H' := Aside0.mk H
        clear H
        go_wp2
        go_meet
        case rel => exact ⟨_, (x3_1), q3_, H', ⟨q32_⟩, ⟨q1_⟩⟩
      ·rw [if_neg c8] at H
       exact absurd H q21_
     ·rw [if_neg c6] at H
      have c6b0 : decide (x3_1 < 4) = false := decide_eq_false c6
      clear c6
      (first | rw [c6b0] | rw [c6be] | (simp only [i64_w, i32_w]; rw [c6b0]) | skip)
      have H' := Aside0.mk H
      clear H
      go_wp2
      go_meet
      case rel => exact ⟨_, (x3_1), q3_, H', ⟨q32_⟩, ⟨q1_⟩⟩
  case rest =>
   clear HC5
   try clear c1
   try clear c2
   try clear c2b0
   try clear p2
   try clear c6
   try clear c6b0
   try clear p6
   try clear c8
   try clear c8b0
   try clear c8b1
   try clear c10
   try clear c10b0
   try clear p2
   obtain ⟨kq, x3_4, rfl, HA, HJ4, HB⟩ := hcut
   cases kq with
   | zero => exact absurd HA.out (by simp [ber_length.j1])
   | succ kj4 =>
    have H := HA.out
    clear HA
    simp only [ber_length.j1] at H
    obtain ⟨y104, hy104⟩ : ∃ y_ : List Int, y_ = (([(wrap64 (128 + x3_4)) % 256] : List Int)) := ⟨_, rfl⟩
    replace H : (if x3_4 = 4 then (if y104.length < 140737488355328 then ((some (y104 ++ [(a0 / 16777216) % 256] : List Int)).bind fun y107 => (if y107.length < 140737488355328 then ((some (y107 ++ [(a0 / 65536) % 256] : List Int)).bind fun y110 => (if y110.length < 140737488355328 then ((some (y110 ++ [(a0 / 256) % 256] : List Int)).bind fun y113 => (if y113.length < 140737488355328 then (some (y113 ++ [(a0) % 256])) else (none))) else (none))) else (none))) else (none)) else (if x3_4 = 3 then (if y104.length < 140737488355328 then ((some (y104 ++ [(a0 / 65536) % 256] : List Int)).bind fun y119 => (if y119.length < 140737488355328 then ((some (y119 ++ [(a0 / 256) % 256] : List Int)).bind fun y122 => (if y122.length < 140737488355328 then (some (y122 ++ [(a0) % 256])) else (none))) else (none))) else (none)) else (if x3_4 = 2 then (if y104.length < 140737488355328 then ((some (y104 ++ [(a0 / 256) % 256] : List Int)).bind fun y128 => (if y128.length < 140737488355328 then (some (y128 ++ [(a0) % 256])) else (none))) else (none)) else (if y104.length < 140737488355328 then (some (y104 ++ [(a0) % 256])) else (none))))) = some r := by first | (rw [hy104]; with_reducible exact H) | (have H2_ := (Option.bind_some _ _).symm.trans H; rw [hy104]; with_reducible exact H2_) | (have H2_ := (Option.bind_some _ _).symm.trans H; with_reducible exact H2_) | with_reducible exact H | (rw [hy104]; exact H) | exact H
    have Ny104 := Aside0.mk hy104
    clear hy104
    by_cases c11 : x3_4 = 4
    ·rw [if_pos c11] at H
     have c11b0 : (x3_4 == 4) = true := beq_iff_eq.mpr c11
     have c11b1 : (x3_4 != 4) = false := bne_eq_false_iff_eq.mpr c11
     clear c11
     by_cases c12 : y104.length < 140737488355328
     ·rw [if_pos c12] at H
      have LMc12 := Aside0.mk c12
      clear c12
      obtain ⟨y107, hy107⟩ : ∃ y_ : List Int, y_ = (y104 ++ [(a0 / 16777216) % 256]) := ⟨_, rfl⟩
      replace H : (if y107.length < 140737488355328 then ((some (y107 ++ [(a0 / 65536) % 256] : List Int)).bind fun y110 => (if y110.length < 140737488355328 then ((some (y110 ++ [(a0 / 256) % 256] : List Int)).bind fun y113 => (if y113.length < 140737488355328 then (some (y113 ++ [(a0) % 256])) else (none))) else (none))) else (none)) = some r := by first | (rw [hy107]; with_reducible exact H) | (have H2_ := (Option.bind_some _ _).symm.trans H; rw [hy107]; with_reducible exact H2_) | (have H2_ := (Option.bind_some _ _).symm.trans H; with_reducible exact H2_) | with_reducible exact H | (rw [hy107]; exact H) | exact H
      have Ny107 := Aside0.mk hy107
      clear hy107
      by_cases c13 : y107.length < 140737488355328
      ·rw [if_pos c13] at H
       have LMc13 := Aside0.mk c13
       clear c13
       obtain ⟨y110, hy110⟩ : ∃ y_ : List Int, y_ = (y107 ++ [(a0 / 65536) % 256]) := ⟨_, rfl⟩
       replace H : (if y110.length < 140737488355328 then ((some (y110 ++ [(a0 / 256) % 256] : List Int)).bind fun y113 => (if y113.length < 140737488355328 then (some (y113 ++ [(a0) % 256])) else (none))) else (none)) = some r := by first | (rw [hy110]; with_reducible exact H) | (have H2_ := (Option.bind_some _ _).symm.trans H; rw [hy110]; with_reducible exact H2_) | (have H2_ := (Option.bind_some _ _).symm.trans H; with_reducible exact H2_) | with_reducible exact H | (rw [hy110]; exact H) | exact H
       have Ny110 := Aside0.mk hy110
       clear hy110
       by_cases c14 : y110.length < 140737488355328
       ·rw [if_pos c14] at H
        have LMc14 := Aside0.mk c14
        clear c14
        obtain ⟨y113, hy113⟩ : ∃ y_ : List Int, y_ = (y110 ++ [(a0 / 256) % 256]) := ⟨_, rfl⟩
        replace H : (if y113.length < 140737488355328 then (some (y113 ++ [(a0) % 256])) else (none)) = some r := by first | (rw [hy113]; with_reducible exact H) | (have H2_ := (Option.bind_some _ _).symm.trans H; rw [hy113]; with_reducible exact H2_) | (have H2_ := (Option.bind_some _ _).symm.trans H; with_reducible exact H2_) | with_reducible exact H | (rw [hy113]; exact H) | exact H
        have Ny113 := Aside0.mk hy113
        clear hy113
        by_cases c15 : y113.length < 140737488355328
        ·rw [if_pos c15] at H
         have LMc15 := Aside0.mk c15
         clear c15
         obtain ⟨y116, hy116⟩ : ∃ y_ : List Int, y_ = (y113 ++ [(a0) % 256]) := ⟨_, rfl⟩
         replace H : (some y116) = some r := by first | (rw [hy116]; with_reducible exact H) | (have H2_ := (Option.bind_some _ _).symm.trans H; rw [hy116]; with_reducible exact H2_) | (have H2_ := (Option.bind_some _ _).symm.trans H; with_reducible exact H2_) | with_reducible exact H | (rw [hy116]; exact H) | exact H
         have Ny116 := Aside0.mk hy116
         clear hy116
         obtain rfl := Option.some.inj H
         go_wp2_with (first | ((with_reducible refine gate_dst (N := 24) rfl ?_); refine Kd.R_lit (Kd.int .u8) _ 5 ?hg (N := 24) ?hd (xs := ([(wrap64 (128 + x3_4)) % 256] : List Int)) (inner := [.int .u8 ((wrap64 (128 + x3_4)) % 256)]) (ok := fun _ => True) (okp := fun _ => True) ?hr ?hp (fun _ hk => hk) trivial (Below.refl _ _) (Nat.le_refl _) q21_ ?_; (case hd => rfl); (case hg => rfl); (case hr => first | (go_simp; done) | (go_simp; rfl)); (case hp => exact (Reps.one (show Kd.M (Kd.int .u8) _ _ _ ((wrap64 (128 + x3_4)) % 256) [.int .u8 ((wrap64 (128 + x3_4)) % 256)] from rfl) (Reps.none _ _))); intro v105 w16 ho17 hb hg_ hnew_; clear hg_ hnew_; (first | rw [← Ny104.out] at ho17 | (simp only [Int.reduceToNat] at ho17; rw [← Ny104.out] at ho17)); have n0_ := Aside0.mk (Kd.R_lower ho17 (below_size q1_)); have n1_ := Aside0.mk (below_step q1_ hb); clear HB; have HO106 := n0_; have HB := n1_; clear n0_ n1_; clear hb ho17) | ((with_reducible refine gate_builtin (b := .append) (xs := #[.tmp 32, .tmp 36]) rfl ?_); at_builtin; refine Kd.R_append (Kd.int .u8) (w0 := w) w.heap.size rfl (.tmp 32) (.tmp 36) 39 5 (.int .u8 0) 1 rfl Tryd.underlying39 info5 rfl q14_ q2_ v105 y104 ((a0 / 16777216) % 256) [.int .u8 ((a0 / 16777216) % 256)] (fun _ => True) (fun _ => False) rfl rfl ?aP (fun _ hk => hk.elim) ?aF ?aO ?aB ?aS ?aL ?_; (case aP => exact rfl); (case aB => exact q1_); (case aF => exact (fun _ _ => trivial)); (case aO => exact q29_); (case aS => exact (below_size q1_)); (case aL => have := LMc12.out; omega); intro v108 w18 ho hb hg hat; rw [← Ny107.out] at ho; have n0_ := Aside0.mk (hb); have n1_ := Aside0.mk (ho); clear HB; clear HO106; have HB := n0_; have HO109 := n1_; clear n0_ n1_; clear ho hb hg hat) | ((with_reducible refine gate_builtin (b := .append) (xs := #[.tmp 38, .tmp 42]) rfl ?_); at_builtin; refine Kd.R_append (Kd.int .u8) (w0 := w) w.heap.size rfl (.tmp 38) (.tmp 42) 39 5 (.int .u8 0) 1 rfl Tryd.underlying39 info5 rfl q14_ q2_ v108 y107 ((a0 / 65536) % 256) [.int .u8 ((a0 / 65536) % 256)] (fun _ => True) (fun _ => False) rfl rfl ?aP (fun _ hk => hk.elim) ?aF ?aO ?aB ?aS ?aL ?_; (case aP => exact rfl); (case aB => exact q1_); (case aF => exact (fun _ _ => trivial)); (case aO => exact (by (with_reducible repeat (first | apply Kd.R_alloc | apply Kd.R_drewN | apply Kd.R_drew)); exact HO109.out)); (case aS => exact (below_size q1_)); (case aL => have := LMc13.out; omega); intro v111 w19 ho hb hg hat; rw [← Ny110.out] at ho; have n0_ := Aside0.mk (hb); have n1_ := Aside0.mk (ho); clear HB; clear HO109; have HB := n0_; have HO112 := n1_; clear n0_ n1_; clear ho hb hg hat) | ((with_reducible refine gate_builtin (b := .append) (xs := #[.tmp 44, .tmp 48]) rfl ?_); at_builtin; refine Kd.R_append (Kd.int .u8) (w0 := w) w.heap.size rfl (.tmp 44) (.tmp 48) 39 5 (.int .u8 0) 1 rfl Tryd.underlying39 info5 rfl q14_ q2_ v111 y110 ((a0 / 256) % 256) [.int .u8 ((a0 / 256) % 256)] (fun _ => True) (fun _ => False) rfl rfl ?aP (fun _ hk => hk.elim) ?aF ?aO ?aB ?aS ?aL ?_; (case aP => exact rfl); (case aB => exact q1_); (case aF => exact (fun _ _ => trivial)); (case aO => exact (by (with_reducible repeat (first | apply Kd.R_alloc | apply Kd.R_drewN | apply Kd.R_drew)); exact HO112.out)); (case aS => exact (below_size q1_)); (case aL => have := LMc14.out; omega); intro v114 w20 ho hb hg hat; rw [← Ny113.out] at ho; have n0_ := Aside0.mk (hb); have n1_ := Aside0.mk (ho); clear HB; clear HO112; have HB := n0_; have HO115 := n1_; clear n0_ n1_; clear ho hb hg hat) | ((with_reducible refine gate_builtin (b := .append) (xs := #[.tmp 50, .tmp 53]) rfl ?_); at_builtin; refine Kd.R_append (Kd.int .u8) (w0 := w) w.heap.size rfl (.tmp 50) (.tmp 53) 39 5 (.int .u8 0) 1 rfl Tryd.underlying39 info5 rfl q14_ q2_ v114 y113 ((a0) % 256) [.int .u8 ((a0) % 256)] (fun _ => True) (fun _ => False) rfl rfl ?aP (fun _ hk => hk.elim) ?aF ?aO ?aB ?aS ?aL ?_; (case aP => exact rfl); (case aB => exact q1_); (case aF => exact (fun _ _ => trivial)); (case aO => exact (by (with_reducible repeat (first | apply Kd.R_alloc | apply Kd.R_drewN | apply Kd.R_drew)); exact HO115.out)); (case aS => exact (below_size q1_)); (case aL => have := LMc15.out; omega); intro v117 w21 ho hb hg hat; rw [← Ny116.out] at ho; have n0_ := Aside0.mk (hb); have n1_ := Aside0.mk (ho); clear HB; clear HO115; have HB := n0_; have HO118 := n1_; clear n0_ n1_; clear ho hb hg hat))
         go_ret
         exact ⟨_, q6_, by (with_reducible repeat (first | apply Kd.R_alloc | apply Kd.R_drewN | apply Kd.R_drew)); exact HO118.out, q1_⟩
        ·rw [if_neg c15] at H
         exact absurd H q21_
       ·rw [if_neg c14] at H
        exact absurd H q21_
      ·rw [if_neg c13] at H
       exact absurd H q21_
     ·rw [if_neg c12] at H
      exact absurd H q21_
    ·rw [if_neg c11] at H
     have c11b0 : (x3_4 == 4) = false := beq_eq_false_iff_ne.mpr c11
     have c11b1 : (x3_4 != 4) = true := bne_iff_ne.mpr c11
     by_cases c22 : x3_4 = 3
     ·rw [if_pos c22] at H
      have c22b0 : (x3_4 == 3) = true := beq_iff_eq.mpr c22
      have c22b1 : (x3_4 != 3) = false := bne_eq_false_iff_eq.mpr c22
      clear c22
      by_cases c23 : y104.length < 140737488355328
      ·rw [if_pos c23] at H
       have LMc23 := Aside0.mk c23
       clear c23
       obtain ⟨y119, hy119⟩ : ∃ y_ : List Int, y_ = (y104 ++ [(a0 / 65536) % 256]) := ⟨_, rfl⟩
       replace H : (if y119.length < 140737488355328 then ((some (y119 ++ [(a0 / 256) % 256] : List Int)).bind fun y122 => (if y122.length < 140737488355328 then (some (y122 ++ [(a0) % 256])) else (none))) else (none)) = some r := by first | (rw [hy119]; with_reducible exact H) | (have H2_ := (Option.bind_some _ _).symm.trans H; rw [hy119]; with_reducible exact H2_) | (have H2_ := (Option.bind_some _ _).symm.trans H; with_reducible exact H2_) | with_reducible exact H | (rw [hy119]; exact H) | exact H
       have Ny119 := Aside0.mk hy119
       clear hy119
       by_cases c24 : y119.length < 140737488355328
       ·rw [if_pos c24] at H
        have LMc24 := Aside0.mk c24
        clear c24
        obtain ⟨y122, hy122⟩ : ∃ y_ : List Int, y_ = (y119 ++ [(a0 / 256) % 256]) := ⟨_, rfl⟩
        replace H : (if y122.length < 140737488355328 then (some (y122 ++ [(a0) % 256])) else (none)) = some r := by first | (rw [hy122]; with_reducible exact H) | (have H2_ := (Option.bind_some _ _).symm.trans H; rw [hy122]; with_reducible exact H2_) | (have H2_ := (Option.bind_some _ _).symm.trans H; with_reducible exact H2_) | with_reducible exact H | (rw [hy122]; exact H) | exact H
        have Ny122 := Aside0.mk hy122
        clear hy122
        by_cases c25 : y122.length < 140737488355328
        ·rw [if_pos c25] at H
         have LMc25 := Aside0.mk c25
         clear c25
         obtain ⟨y125, hy125⟩ : ∃ y_ : List Int, y_ = (y122 ++ [(a0) % 256]) := ⟨_, rfl⟩
         replace H : (some y125) = some r := by first | (rw [hy125]; with_reducible exact H) | (have H2_ := (Option.bind_some _ _).symm.trans H; rw [hy125]; with_reducible exact H2_) | (have H2_ := (Option.bind_some _ _).symm.trans H; with_reducible exact H2_) | with_reducible exact H | (rw [hy125]; exact H) | exact H
         have Ny125 := Aside0.mk hy125
         clear hy125
         obtain rfl := Option.some.inj H
         go_wp2_with (first | ((with_reducible refine gate_dst (N := 24) rfl ?_); refine Kd.R_lit (Kd.int .u8) _ 5 ?hg (N := 24) ?hd (xs := ([(wrap64 (128 + x3_4)) % 256] : List Int)) (inner := [.int .u8 ((wrap64 (128 + x3_4)) % 256)]) (ok := fun _ => True) (okp := fun _ => True) ?hr ?hp (fun _ hk => hk) trivial (Below.refl _ _) (Nat.le_refl _) q21_ ?_; (case hd => rfl); (case hg => rfl); (case hr => first | (go_simp; done) | (go_simp; rfl)); (case hp => exact (Reps.one (show Kd.M (Kd.int .u8) _ _ _ ((wrap64 (128 + x3_4)) % 256) [.int .u8 ((wrap64 (128 + x3_4)) % 256)] from rfl) (Reps.none _ _))); intro v105 w26 ho27 hb hg_ hnew_; clear hg_ hnew_; (first | rw [← Ny104.out] at ho27 | (simp only [Int.reduceToNat] at ho27; rw [← Ny104.out] at ho27)); have n0_ := Aside0.mk (Kd.R_lower ho27 (below_size q1_)); have n1_ := Aside0.mk (below_step q1_ hb); clear HB; have HO106 := n0_; have HB := n1_; clear n0_ n1_; clear hb ho27) | ((with_reducible refine gate_builtin (b := .append) (xs := #[.tmp 38, .tmp 42]) rfl ?_); at_builtin; refine Kd.R_append (Kd.int .u8) (w0 := w) w.heap.size rfl (.tmp 38) (.tmp 42) 39 5 (.int .u8 0) 1 rfl Tryd.underlying39 info5 rfl q14_ q2_ v105 y104 ((a0 / 65536) % 256) [.int .u8 ((a0 / 65536) % 256)] (fun _ => True) (fun _ => False) rfl rfl ?aP (fun _ hk => hk.elim) ?aF ?aO ?aB ?aS ?aL ?_; (case aP => exact rfl); (case aB => exact q1_); (case aF => exact (fun _ _ => trivial)); (case aO => exact q29_); (case aS => exact (below_size q1_)); (case aL => have := LMc23.out; omega); intro v120 w28 ho hb hg hat; rw [← Ny119.out] at ho; have n0_ := Aside0.mk (hb); have n1_ := Aside0.mk (ho); clear HB; clear HO106; have HB := n0_; have HO121 := n1_; clear n0_ n1_; clear ho hb hg hat) | ((with_reducible refine gate_builtin (b := .append) (xs := #[.tmp 44, .tmp 48]) rfl ?_); at_builtin; refine Kd.R_append (Kd.int .u8) (w0 := w) w.heap.size rfl (.tmp 44) (.tmp 48) 39 5 (.int .u8 0) 1 rfl Tryd.underlying39 info5 rfl q14_ q2_ v120 y119 ((a0 / 256) % 256) [.int .u8 ((a0 / 256) % 256)] (fun _ => True) (fun _ => False) rfl rfl ?aP (fun _ hk => hk.elim) ?aF ?aO ?aB ?aS ?aL ?_; (case aP => exact rfl); (case aB => exact q1_); (case aF => exact (fun _ _ => trivial)); (case aO => exact (by (with_reducible repeat (first | apply Kd.R_alloc | apply Kd.R_drewN | apply Kd.R_drew)); exact HO121.out)); (case aS => exact (below_size q1_)); (case aL => have := LMc24.out; omega); intro v123 w29 ho hb hg hat; rw [← Ny122.out] at ho; have n0_ := Aside0.mk (hb); have n1_ := Aside0.mk (ho); clear HB; clear HO121; have HB := n0_; have HO124 := n1_; clear n0_ n1_; clear ho hb hg hat) | ((with_reducible refine gate_builtin (b := .append) (xs := #[.tmp 50, .tmp 53]) rfl ?_); at_builtin; refine Kd.R_append (Kd.int .u8) (w0 := w) w.heap.size rfl (.tmp 50) (.tmp 53) 39 5 (.int .u8 0) 1 rfl Tryd.underlying39 info5 rfl q14_ q2_ v123 y122 ((a0) % 256) [.int .u8 ((a0) % 256)] (fun _ => True) (fun _ => False) rfl rfl ?aP (fun _ hk => hk.elim) ?aF ?aO ?aB ?aS ?aL ?_; (case aP => exact rfl); (case aB => exact q1_); (case aF => exact (fun _ _ => trivial)); (case aO => exact (by (with_reducible repeat (first | apply Kd.R_alloc | apply Kd.R_drewN | apply Kd.R_drew)); exact HO124.out)); (case aS => exact (below_size q1_)); (case aL => have := LMc25.out; omega); intro v126 w30 ho hb hg hat; rw [← Ny125.out] at ho; have n0_ := Aside0.mk (hb); have n1_ := Aside0.mk (ho); clear HB; clear HO124; have HB := n0_; have HO127 := n1_; clear n0_ n1_; clear ho hb hg hat))
         go_ret
         exact ⟨_, q6_, by (with_reducible repeat (first | apply Kd.R_alloc | apply Kd.R_drewN | apply Kd.R_drew)); exact HO127.out, q1_⟩
        ·rw [if_neg c25] at H
         exact absurd H q21_
       ·rw [if_neg c24] at H
        exact absurd H q21_
      ·rw [if_neg c23] at H
       exact absurd H q21_
     ·rw [if_neg c22] at H
      have c22b0 : (x3_4 == 3) = false := beq_eq_false_iff_ne.mpr c22
      have c22b1 : (x3_4 != 3) = true := bne_iff_ne.mpr c22
      by_cases c31 : x3_4 = 2
      ·rw [if_pos c31] at H
       have c31b0 : (x3_4 == 2) = true := beq_iff_eq.mpr c31
       have c31b1 : (x3_4 != 2) = false := bne_eq_false_iff_eq.mpr c31
       clear c31
       by_cases c32 : y104.length < 140737488355328
       ·rw [if_pos c32] at H
        have LMc32 := Aside0.mk c32
        clear c32
        obtain ⟨y128, hy128⟩ : ∃ y_ : List Int, y_ = (y104 ++ [(a0 / 256) % 256]) := ⟨_, rfl⟩
        replace H : (if y128.length < 140737488355328 then (some (y128 ++ [(a0) % 256])) else (none)) = some r := by first | (rw [hy128]; with_reducible exact H) | (have H2_ := (Option.bind_some _ _).symm.trans H; rw [hy128]; with_reducible exact H2_) | (have H2_ := (Option.bind_some _ _).symm.trans H; with_reducible exact H2_) | with_reducible exact H | (rw [hy128]; exact H) | exact H
        have Ny128 := Aside0.mk hy128
        clear hy128
        by_cases c33 : y128.length < 140737488355328
        ·rw [if_pos c33] at H
         have LMc33 := Aside0.mk c33
         clear c33
         obtain ⟨y131, hy131⟩ : ∃ y_ : List Int, y_ = (y128 ++ [(a0) % 256]) := ⟨_, rfl⟩
         replace H : (some y131) = some r := by first | (rw [hy131]; with_reducible exact H) | (have H2_ := (Option.bind_some _ _).symm.trans H; rw [hy131]; with_reducible exact H2_) | (have H2_ := (Option.bind_some _ _).symm.trans H; with_reducible exact H2_) | with_reducible exact H | (rw [hy131]; exact H) | exact H
         have Ny131 := Aside0.mk hy131
         clear hy131
         obtain rfl := Option.some.inj H
         go_wp2_with (first | ((with_reducible refine gate_dst (N := 24) rfl ?_); refine Kd.R_lit (Kd.int .u8) _ 5 ?hg (N := 24) ?hd (xs := ([(wrap64 (128 + x3_4)) % 256] : List Int)) (inner := [.int .u8 ((wrap64 (128 + x3_4)) % 256)]) (ok := fun _ => True) (okp := fun _ => True) ?hr ?hp (fun _ hk => hk) trivial (Below.refl _ _) (Nat.le_refl _) q21_ ?_; (case hd => rfl); (case hg => rfl); (case hr => first | (go_simp; done) | (go_simp; rfl)); (case hp => exact (Reps.one (show Kd.M (Kd.int .u8) _ _ _ ((wrap64 (128 + x3_4)) % 256) [.int .u8 ((wrap64 (128 + x3_4)) % 256)] from rfl) (Reps.none _ _))); intro v105 w34 ho35 hb hg_ hnew_; clear hg_ hnew_; (first | rw [← Ny104.out] at ho35 | (simp only [Int.reduceToNat] at ho35; rw [← Ny104.out] at ho35)); have n0_ := Aside0.mk (Kd.R_lower ho35 (below_size q1_)); have n1_ := Aside0.mk (below_step q1_ hb); clear HB; have HO106 := n0_; have HB := n1_; clear n0_ n1_; clear hb ho35) | ((with_reducible refine gate_builtin (b := .append) (xs := #[.tmp 44, .tmp 48]) rfl ?_); at_builtin; refine Kd.R_append (Kd.int .u8) (w0 := w) w.heap.size rfl (.tmp 44) (.tmp 48) 39 5 (.int .u8 0) 1 rfl Tryd.underlying39 info5 rfl q14_ q2_ v105 y104 ((a0 / 256) % 256) [.int .u8 ((a0 / 256) % 256)] (fun _ => True) (fun _ => False) rfl rfl ?aP (fun _ hk => hk.elim) ?aF ?aO ?aB ?aS ?aL ?_; (case aP => exact rfl); (case aB => exact q1_); (case aF => exact (fun _ _ => trivial)); (case aO => exact q29_); (case aS => exact (below_size q1_)); (case aL => have := LMc32.out; omega); intro v129 w36 ho hb hg hat; rw [← Ny128.out] at ho; have n0_ := Aside0.mk (hb); have n1_ := Aside0.mk (ho); clear HB; clear HO106; have HB := n0_; have HO130 := n1_; clear n0_ n1_; clear ho hb hg hat) | ((with_reducible refine gate_builtin (b := .append) (xs := #[.tmp 50, .tmp 53]) rfl ?_); at_builtin; refine Kd.R_append (Kd.int .u8) (w0 := w) w.heap.size rfl (.tmp 50) (.tmp 53) 39 5 (.int .u8 0) 1 rfl Tryd.underlying39 info5 rfl q14_ q2_ v129 y128 ((a0) % 256) [.int .u8 ((a0) % 256)] (fun _ => True) (fun _ => False) rfl rfl ?aP (fun _ hk => hk.elim) ?aF ?aO ?aB ?aS ?aL ?_; (case aP => exact rfl); (case aB => exact q1_); (case aF => exact (fun _ _ => trivial)); (case aO => exact (by (with_reducible repeat (first | apply Kd.R_alloc | apply Kd.R_drewN | apply Kd.R_drew)); exact HO130.out)); (case aS => exact (below_size q1_)); (case aL => have := LMc33.out; omega); intro v132 w37 ho hb hg hat; rw [← Ny131.out] at ho; have n0_ := Aside0.mk (hb); have n1_ := Aside0.mk (ho); clear HB; clear HO130; have HB := n0_; have HO133 := n1_; clear n0_ n1_; clear ho hb hg hat))
         go_ret
         exact ⟨_, q6_, q26_, q1_⟩
        ·rw [if_neg c33] at H
         exact absurd H q21_
       ·rw [if_neg c32] at H
        exact absurd H q21_
      ·rw [if_neg c31] at H
       have c31b0 : (x3_4 == 2) = false := beq_eq_false_iff_ne.mpr c31
       have c31b1 : (x3_4 != 2) = true := bne_iff_ne.mpr c31
       by_cases c38 : y104.length < 140737488355328
       ·rw [if_pos c38] at H
        have LMc38 := Aside0.mk c38
        clear c38
        obtain ⟨y134, hy134⟩ : ∃ y_ : List Int, y_ = (y104 ++ [(a0) % 256]) := ⟨_, rfl⟩
        replace H : (some y134) = some r := by first | (rw [hy134]; with_reducible exact H) | (have H2_ := (Option.bind_some _ _).symm.trans H; rw [hy134]; with_reducible exact H2_) | (have H2_ := (Option.bind_some _ _).symm.trans H; with_reducible exact H2_) | with_reducible exact H | (rw [hy134]; exact H) | exact H
        have Ny134 := Aside0.mk hy134
        clear hy134
        obtain rfl := Option.some.inj H
        go_wp2_with (first | ((with_reducible refine gate_dst (N := 24) rfl ?_); refine Kd.R_lit (Kd.int .u8) _ 5 ?hg (N := 24) ?hd (xs := ([(wrap64 (128 + x3_4)) % 256] : List Int)) (inner := [.int .u8 ((wrap64 (128 + x3_4)) % 256)]) (ok := fun _ => True) (okp := fun _ => True) ?hr ?hp (fun _ hk => hk) trivial (Below.refl _ _) (Nat.le_refl _) q21_ ?_; (case hd => rfl); (case hg => rfl); (case hr => first | (go_simp; done) | (go_simp; rfl)); (case hp => exact (Reps.one (show Kd.M (Kd.int .u8) _ _ _ ((wrap64 (128 + x3_4)) % 256) [.int .u8 ((wrap64 (128 + x3_4)) % 256)] from rfl) (Reps.none _ _))); intro v105 w39 ho40 hb hg_ hnew_; clear hg_ hnew_; (first | rw [← Ny104.out] at ho40 | (simp only [Int.reduceToNat] at ho40; rw [← Ny104.out] at ho40)); have n0_ := Aside0.mk (Kd.R_lower ho40 (below_size q1_)); have n1_ := Aside0.mk (below_step q1_ hb); clear HB; have HO106 := n0_; have HB := n1_; clear n0_ n1_; clear hb ho40) | ((with_reducible refine gate_builtin (b := .append) (xs := #[.tmp 50, .tmp 53]) rfl ?_); at_builtin; refine Kd.R_append (Kd.int .u8) (w0 := w) w.heap.size rfl (.tmp 50) (.tmp 53) 39 5 (.int .u8 0) 1 rfl Tryd.underlying39 info5 rfl q14_ q2_ v105 y104 ((a0) % 256) [.int .u8 ((a0) % 256)] (fun _ => True) (fun _ => False) rfl rfl ?aP (fun _ hk => hk.elim) ?aF ?aO ?aB ?aS ?aL ?_; (case aP => exact rfl); (case aB => exact q1_); (case aF => exact (fun _ _ => trivial)); (case aO => exact q29_); (case aS => exact (below_size q1_)); (case aL => have := LMc38.out; omega); intro v135 w41 ho hb hg hat; rw [← Ny134.out] at ho; have n0_ := Aside0.mk (hb); have n1_ := Aside0.mk (ho); clear HB; clear HO106; have HB := n0_; have HO136 := n1_; clear n0_ n1_; clear ho hb hg hat))
        go_ret
        exact ⟨_, q6_, q34_, q1_⟩
       ·rw [if_neg c38] at H
        exact absurd H q21_
def ber_lay.f (k : Nat) (a0 : Int) (a1 : Bool) (a2 : Int) (a3 : ByteArray) : Option (ByteArray) := if (a3.size : Int) > 4294967295 then (none) else (if a1 = true then ((some (([Go.bits .or .u8 (Go.bits .or .u8 ((((a0) % 256) * 64) % 256) ((a2) % 256)) 32] : List Int) : List Int)).bind fun y137 => ((ber_length.f k (a3.size : Int)).bind fun t140 => (if y137.length + t140.length < 140737488355328 then ((some (y137 ++ t140 : List Int)).bind fun y143 => (if (strOfNums y143).size + a3.size ≤ 9223372036854775807 then (some ((strOfNums y143) ++ a3)) else (none))) else (none)))) else ((some (([Go.bits .or .u8 ((((a0) % 256) * 64) % 256) ((a2) % 256)] : List Int) : List Int)).bind fun y146 => ((ber_length.f k (a3.size : Int)).bind fun t149 => (if y146.length + t149.length < 140737488355328 then ((some (y146 ++ t149 : List Int)).bind fun y152 => (if (strOfNums y152).size + a3.size ≤ 9223372036854775807 then (some ((strOfNums y152) ++ a3)) else (none))) else (none)))))
set_option maxHeartbeats 8000000 in
set_option maxRecDepth 100000 in
theorem ber_lay.calls (k : Nat) (a0 : Int) (a1 : Bool) (a2 : Int) (a3 : ByteArray) (r : ByteArray) (w : World) (h : ber_lay.f k a0 a1 a2 a3 = some r) :
  Calls Tryd.prog 54 #[.int .i64 a0, .bool a1, .int .i64 a2, .string a3] w fun e w' => e = .returned (.string r) ∧ Below w.heap.size w w' := by
 have hu77 := Tryd.underlying77
 have HB := Aside0.mk (Below.refl w.heap.size w)
 have H : (if (a3.size : Int) > 4294967295 then (none) else (if a1 = true then ((some (([Go.bits .or .u8 (Go.bits .or .u8 ((((a0) % 256) * 64) % 256) ((a2) % 256)) 32] : List Int) : List Int)).bind fun y137 => ((ber_length.f k (a3.size : Int)).bind fun t140 => (if y137.length + t140.length < 140737488355328 then ((some (y137 ++ t140 : List Int)).bind fun y143 => (if (strOfNums y143).size + a3.size ≤ 9223372036854775807 then (some ((strOfNums y143) ++ a3)) else (none))) else (none)))) else ((some (([Go.bits .or .u8 ((((a0) % 256) * 64) % 256) ((a2) % 256)] : List Int) : List Int)).bind fun y146 => ((ber_length.f k (a3.size : Int)).bind fun t149 => (if y146.length + t149.length < 140737488355328 then ((some (y146 ++ t149 : List Int)).bind fun y152 => (if (strOfNums y152).size + a3.size ≤ 9223372036854775807 then (some ((strOfNums y152) ++ a3)) else (none))) else (none)))))) = some r := h
 clear h
 by_cases c5 : (a3.size : Int) > 4294967295
 ·rw [if_pos c5] at H
  exact absurd H q21_
 ·rw [if_neg c5] at H
  have c5b0 : decide (4294967295 < (a3.size : Int)) = false := decide_eq_false c5
  have c5b1 : decide (4294967295 < a3.size) = false := decide_eq_false q2_
  have c5b2 : ¬ (4294967295 < a3.size) := by omega
  clear c5
  by_cases c6 : a1 = true
  ·subst c6
   have H1 : ((some (([Go.bits .or .u8 (Go.bits .or .u8 ((((a0) % 256) * 64) % 256) ((a2) % 256)) 32] : List Int) : List Int)).bind fun y137 => ((ber_length.f k (a3.size : Int)).bind fun t140 => (if y137.length + t140.length < 140737488355328 then ((some (y137 ++ t140 : List Int)).bind fun y143 => (if (strOfNums y143).size + a3.size ≤ 9223372036854775807 then (some ((strOfNums y143) ++ a3)) else (none))) else (none)))) = some r := by rw [if_pos rfl] at H; exact H
   clear H
   have H := H1
   clear H1
   obtain ⟨y137, hy137⟩ : ∃ y_ : List Int, y_ = (([Go.bits .or .u8 (Go.bits .or .u8 ((((a0) % 256) * 64) % 256) ((a2) % 256)) 32] : List Int)) := ⟨_, rfl⟩
   replace H : ((ber_length.f k (a3.size : Int)).bind fun t140 => (if y137.length + t140.length < 140737488355328 then ((some (y137 ++ t140 : List Int)).bind fun y143 => (if (strOfNums y143).size + a3.size ≤ 9223372036854775807 then (some ((strOfNums y143) ++ a3)) else (none))) else (none))) = some r := by first | (rw [hy137]; with_reducible exact H) | (have H2_ := (Option.bind_some _ _).symm.trans H; rw [hy137]; with_reducible exact H2_) | (have H2_ := (Option.bind_some _ _).symm.trans H; with_reducible exact H2_) | with_reducible exact H | (rw [hy137]; exact H) | exact H
   have Ny137 := Aside0.mk hy137
   clear hy137
   replace H := Option.bind_eq_some_iff.mp H
   obtain ⟨t140, A70, H⟩ := H
   replace H : (if y137.length + t140.length < 140737488355328 then ((some (y137 ++ t140 : List Int)).bind fun y143 => (if (strOfNums y143).size + a3.size ≤ 9223372036854775807 then (some ((strOfNums y143) ++ a3)) else (none))) else (none)) = some r := H
   have A7 := Aside0.mk A70
   clear A70
   by_cases c8 : y137.length + t140.length < 140737488355328
   ·rw [if_pos c8] at H
    have LMc8 := Aside0.mk c8
    clear c8
    obtain ⟨y143, hy143⟩ : ∃ y_ : List Int, y_ = (y137 ++ t140) := ⟨_, rfl⟩
    replace H : (if (strOfNums y143).size + a3.size ≤ 9223372036854775807 then (some ((strOfNums y143) ++ a3)) else (none)) = some r := by first | (rw [hy143]; with_reducible exact H) | (have H2_ := (Option.bind_some _ _).symm.trans H; rw [hy143]; with_reducible exact H2_) | (have H2_ := (Option.bind_some _ _).symm.trans H; with_reducible exact H2_) | with_reducible exact H | (rw [hy143]; exact H) | exact H
    have Ny143 := Aside0.mk hy143
    clear hy143
    by_cases c9 : (strOfNums y143).size + a3.size ≤ 9223372036854775807
    ·rw [if_pos c9] at H
     have c9b0 := eq_true c9
     have c9b1 : decide ((strOfNums y143).size + a3.size ≤ 9223372036854775807) = true := decide_eq_true c9
     try have c9b2 : (9223372036854775807 < (strOfNums y143).size + a3.size) = False := eq_false (Nat.not_lt.2 c9)
     obtain rfl := Option.some.inj H
     go_enter Tryd.func54, Tryd.ntmps54
     go_wp2_with (first | ((with_reducible refine gate_dst (N := 25) rfl ?_); refine Kd.R_lit (Kd.int .u8) _ 5 ?hg (N := 25) ?hd (xs := ([Go.bits .or .u8 (Go.bits .or .u8 ((((a0) % 256) * 64) % 256) ((a2) % 256)) 32] : List Int)) (inner := [.int .u8 (Go.bits .or .u8 (Go.bits .or .u8 ((((a0) % 256) * 64) % 256) ((a2) % 256)) 32)]) (ok := fun _ => True) (okp := fun _ => True) ?hr ?hp (fun _ hk => hk) trivial (Below.refl _ _) (Nat.le_refl _) q21_ ?_; (case hd => rfl); (case hg => rfl); (case hr => first | (go_simp; done) | (go_simp; rfl)); (case hp => exact (Reps.one (show Kd.M (Kd.int .u8) _ _ _ (Go.bits .or .u8 (Go.bits .or .u8 ((((a0) % 256) * 64) % 256) ((a2) % 256)) 32) [.int .u8 (Go.bits .or .u8 (Go.bits .or .u8 ((((a0) % 256) * 64) % 256) ((a2) % 256)) 32)] from rfl) (Reps.none _ _))); intro v138 w10 ho11 hb hg_ hnew_; clear hg_ hnew_; (first | rw [← Ny137.out] at ho11 | (simp only [Int.reduceToNat] at ho11; rw [← Ny137.out] at ho11)); have n0_ := Aside0.mk (Kd.R_lower ho11 (below_size q1_)); have n1_ := Aside0.mk (below_step q1_ hb); clear HB; have HO139 := n0_; have HB := n1_; clear n0_ n1_; clear hb ho11) | ((with_reducible refine gate_callee (f := 60) rfl ?_); refine goesL_ (some 28) rfl rfl Tryd.func60 q13_ rfl #[.int .i64 (a3.size : Int)] rfl q42_ ?_; (with_reducible refine (ber_length.calls k (a3.size : Int) t140 _ A7.out).mono ?_); rintro e w12 ⟨v141, rfl, ho0, hb⟩; refine ⟨_, rfl, ?_⟩; have n0_ := Aside0.mk (Kd.R_elder' (by (with_reducible repeat (first | apply Kd.R_alloc | apply Kd.R_drewN | apply Kd.R_drew)); exact HO139.out) (Kd.R_base ho0) hb); have n1_ := Aside0.mk (Kd.R_lower (Kd.R_new' ho0 (Kd.R_lt (by (with_reducible repeat (first | apply Kd.R_alloc | apply Kd.R_drewN | apply Kd.R_drew)); exact HO139.out))) (below_size q1_)); have n2_ := Aside0.mk (below_step q1_ hb); clear HO139; clear HB; have HO139 := n0_; have HO142 := n1_; have HB := n2_; clear n0_ n1_ n2_; (try clear hb); (try clear hb2); (try clear hk); (try clear hi); (try clear ho0); obtain ⟨Ao14, co14, eo14⟩ := Kd.R_slice HO142.out; subst eo14) | ((with_reducible refine gate_builtin (b := .append) (xs := #[.tmp 25, .tmp 28]) rfl ?_); at_builtin; refine Kd.R_append_rows (Kd.int .u8) (w0 := w) w.heap.size rfl (.tmp 25) (.tmp 28) 39 5 (.int .u8 0) 1 rfl Tryd.underlying39 info5 rfl q14_ q2_ v138 y137 t140 _ _ _ (fun k_ => some k_ ≠ (.slice Ao14 t140.length co14 : Value).ownBlock) (fun _ => False) rfl rfl ?aO ?aR (fun _ _ h => h) (fun _ h => h.elim) ?aF ?aB ?aS ?aL ?_; (case aR => repeat (first | exact (Kd.R_reads' HO142.out).2.2 | (with_reducible refine Kd.C_alloc ?_ _) | (with_reducible refine Kd.C_drewN ?_ _) | (with_reducible refine Kd.C_drew ?_))); (case aB => exact q1_); (case aF => exact (fun k_ hk => Kd.fresh' (Kd.R_lt (by (with_reducible repeat (first | apply Kd.R_alloc | apply Kd.R_drewN | apply Kd.R_drew)); exact HO142.out)) k_ hk)); (case aO => exact (by (with_reducible repeat (first | apply Kd.R_alloc | apply Kd.R_drewN | apply Kd.R_drew)); exact Kd.R_mono HO139.out (fun _ hk => hk.2))); (case aS => exact (below_size q1_)); (case aL => have := LMc8.out; omega); intro v144 w13 ho hb hg hat; rw [← Ny143.out] at ho; have n0_ := Aside0.mk (Kd.R_after (ok := (fun _ => True)) (by (with_reducible repeat (first | apply Kd.R_alloc | apply Kd.R_drewN | apply Kd.R_drew)); exact HO142.out) hg hat); have n1_ := Aside0.mk (hb); have n2_ := Aside0.mk (ho); clear HO142; clear HB; clear HO139; have HO142 := n0_; have HB := n1_; have HO145 := n2_; clear n0_ n1_ n2_; clear ho hb hg hat; have hcv15 := own_string (P := Tryd.prog) Tryd.underlying39 Tryd.underlying5 Tryd.underlying9 (Kd.own_of_R HO145.out)))
     go_ret
     exact ⟨q6_, q1_⟩
    ·rw [if_neg c9] at H
     exact absurd H q21_
   ·rw [if_neg c8] at H
    exact absurd H q21_
  ·replace c6 := Bool.eq_false_iff.mpr c6
   subst c6
   have H1 : ((some (([Go.bits .or .u8 ((((a0) % 256) * 64) % 256) ((a2) % 256)] : List Int) : List Int)).bind fun y146 => ((ber_length.f k (a3.size : Int)).bind fun t149 => (if y146.length + t149.length < 140737488355328 then ((some (y146 ++ t149 : List Int)).bind fun y152 => (if (strOfNums y152).size + a3.size ≤ 9223372036854775807 then (some ((strOfNums y152) ++ a3)) else (none))) else (none)))) = some r := by rw [if_neg (show ¬ (false = true) by decide)] at H; exact H
   clear H
   have H := H1
   clear H1
   obtain ⟨y146, hy146⟩ : ∃ y_ : List Int, y_ = (([Go.bits .or .u8 ((((a0) % 256) * 64) % 256) ((a2) % 256)] : List Int)) := ⟨_, rfl⟩
   replace H : ((ber_length.f k (a3.size : Int)).bind fun t149 => (if y146.length + t149.length < 140737488355328 then ((some (y146 ++ t149 : List Int)).bind fun y152 => (if (strOfNums y152).size + a3.size ≤ 9223372036854775807 then (some ((strOfNums y152) ++ a3)) else (none))) else (none))) = some r := by first | (rw [hy146]; with_reducible exact H) | (have H2_ := (Option.bind_some _ _).symm.trans H; rw [hy146]; with_reducible exact H2_) | (have H2_ := (Option.bind_some _ _).symm.trans H; with_reducible exact H2_) | with_reducible exact H | (rw [hy146]; exact H) | exact H
   have Ny146 := Aside0.mk hy146
   clear hy146
   replace H := Option.bind_eq_some_iff.mp H
   obtain ⟨t149, A160, H⟩ := H
   replace H : (if y146.length + t149.length < 140737488355328 then ((some (y146 ++ t149 : List Int)).bind fun y152 => (if (strOfNums y152).size + a3.size ≤ 9223372036854775807 then (some ((strOfNums y152) ++ a3)) else (none))) else (none)) = some r := H
   have A16 := Aside0.mk A160
   clear A160
   by_cases c17 : y146.length + t149.length < 140737488355328
   ·rw [if_pos c17] at H
    have LMc17 := Aside0.mk c17
    clear c17
    obtain ⟨y152, hy152⟩ : ∃ y_ : List Int, y_ = (y146 ++ t149) := ⟨_, rfl⟩
    replace H : (if (strOfNums y152).size + a3.size ≤ 9223372036854775807 then (some ((strOfNums y152) ++ a3)) else (none)) = some r := by first | (rw [hy152]; with_reducible exact H) | (have H2_ := (Option.bind_some _ _).symm.trans H; rw [hy152]; with_reducible exact H2_) | (have H2_ := (Option.bind_some _ _).symm.trans H; with_reducible exact H2_) | with_reducible exact H | (rw [hy152]; exact H) | exact H
    have Ny152 := Aside0.mk hy152
    clear hy152
    by_cases c18 : (strOfNums y152).size + a3.size ≤ 9223372036854775807
    ·rw [if_pos c18] at H
     have c18b0 := eq_true c18
     have c18b1 : decide ((strOfNums y152).size + a3.size ≤ 9223372036854775807) = true := decide_eq_true c18
     try have c18b2 : (9223372036854775807 < (strOfNums y152).size + a3.size) = False := eq_false (Nat.not_lt.2 c18)
     obtain rfl := Option.some.inj H
     go_enter Tryd.func54, Tryd.ntmps54
     go_wp2_with (first | ((with_reducible refine gate_dst (N := 25) rfl ?_); refine Kd.R_lit (Kd.int .u8) _ 5 ?hg (N := 25) ?hd (xs := ([Go.bits .or .u8 ((((a0) % 256) * 64) % 256) ((a2) % 256)] : List Int)) (inner := [.int .u8 (Go.bits .or .u8 ((((a0) % 256) * 64) % 256) ((a2) % 256))]) (ok := fun _ => True) (okp := fun _ => True) ?hr ?hp (fun _ hk => hk) trivial (Below.refl _ _) (Nat.le_refl _) q21_ ?_; (case hd => rfl); (case hg => rfl); (case hr => first | (go_simp; done) | (go_simp; rfl)); (case hp => exact (Reps.one (show Kd.M (Kd.int .u8) _ _ _ (Go.bits .or .u8 ((((a0) % 256) * 64) % 256) ((a2) % 256)) [.int .u8 (Go.bits .or .u8 ((((a0) % 256) * 64) % 256) ((a2) % 256))] from rfl) (Reps.none _ _))); intro v147 w19 ho20 hb hg_ hnew_; clear hg_ hnew_; (first | rw [← Ny146.out] at ho20 | (simp only [Int.reduceToNat] at ho20; rw [← Ny146.out] at ho20)); have n0_ := Aside0.mk (Kd.R_lower ho20 (below_size q1_)); have n1_ := Aside0.mk (below_step q1_ hb); clear HB; have HO148 := n0_; have HB := n1_; clear n0_ n1_; clear hb ho20) | ((with_reducible refine gate_callee (f := 60) rfl ?_); refine goesL_ (some 28) rfl rfl Tryd.func60 q13_ rfl #[.int .i64 (a3.size : Int)] rfl q42_ ?_; (with_reducible refine (ber_length.calls k (a3.size : Int) t149 _ A16.out).mono ?_); rintro e w21 ⟨v150, rfl, ho0, hb⟩; refine ⟨_, rfl, ?_⟩; have n0_ := Aside0.mk (Kd.R_elder' (by (with_reducible repeat (first | apply Kd.R_alloc | apply Kd.R_drewN | apply Kd.R_drew)); exact HO148.out) (Kd.R_base ho0) hb); have n1_ := Aside0.mk (Kd.R_lower (Kd.R_new' ho0 (Kd.R_lt (by (with_reducible repeat (first | apply Kd.R_alloc | apply Kd.R_drewN | apply Kd.R_drew)); exact HO148.out))) (below_size q1_)); have n2_ := Aside0.mk (below_step q1_ hb); clear HO148; clear HB; have HO148 := n0_; have HO151 := n1_; have HB := n2_; clear n0_ n1_ n2_; (try clear hb); (try clear hb2); (try clear hk); (try clear hi); (try clear ho0); obtain ⟨Ao23, co23, eo23⟩ := Kd.R_slice HO151.out; subst eo23) | ((with_reducible refine gate_builtin (b := .append) (xs := #[.tmp 25, .tmp 28]) rfl ?_); at_builtin; refine Kd.R_append_rows (Kd.int .u8) (w0 := w) w.heap.size rfl (.tmp 25) (.tmp 28) 39 5 (.int .u8 0) 1 rfl Tryd.underlying39 info5 rfl q14_ q2_ v147 y146 t149 _ _ _ (fun k_ => some k_ ≠ (.slice Ao23 t149.length co23 : Value).ownBlock) (fun _ => False) rfl rfl ?aO ?aR (fun _ _ h => h) (fun _ h => h.elim) ?aF ?aB ?aS ?aL ?_; (case aR => repeat (first | exact (Kd.R_reads' HO151.out).2.2 | (with_reducible refine Kd.C_alloc ?_ _) | (with_reducible refine Kd.C_drewN ?_ _) | (with_reducible refine Kd.C_drew ?_))); (case aB => exact q1_); (case aF => exact (fun k_ hk => Kd.fresh' (Kd.R_lt (by (with_reducible repeat (first | apply Kd.R_alloc | apply Kd.R_drewN | apply Kd.R_drew)); exact HO151.out)) k_ hk)); (case aO => exact (by (with_reducible repeat (first | apply Kd.R_alloc | apply Kd.R_drewN | apply Kd.R_drew)); exact Kd.R_mono HO148.out (fun _ hk => hk.2))); (case aS => exact (below_size q1_)); (case aL => have := LMc17.out; omega); intro v153 w22 ho hb hg hat; rw [← Ny152.out] at ho; have n0_ := Aside0.mk (Kd.R_after (ok := (fun _ => True)) (by (with_reducible repeat (first | apply Kd.R_alloc | apply Kd.R_drewN | apply Kd.R_drew)); exact HO151.out) hg hat); have n1_ := Aside0.mk (hb); have n2_ := Aside0.mk (ho); clear HO151; clear HB; clear HO148; have HO151 := n0_; have HB := n1_; have HO154 := n2_; clear n0_ n1_ n2_; clear ho hb hg hat; have hcv24 := own_string (P := Tryd.prog) Tryd.underlying39 Tryd.underlying5 Tryd.underlying9 (Kd.own_of_R HO154.out)))
     go_ret
     exact ⟨q6_, q1_⟩
    ·rw [if_neg c18] at H
     exact absurd H q21_
   ·rw [if_neg c17] at H
    exact absurd H q21_
def ber_named.f (a0 : Int) (a1 : Int) : Option (Bool) := if a0 ≥ 0 then (if a0 ≤ 3 then (if a1 ≥ 0 then (some (decide (a1 < 31))) else (some false)) else (some false)) else (some false)
set_option maxHeartbeats 8000000 in
set_option maxRecDepth 100000 in
theorem ber_named.calls (a0 : Int) (a1 : Int) (r : Bool) (w : World) (h : ber_named.f a0 a1 = some r) :
  Calls Tryd.prog 52 #[.int .i64 a0, .int .i64 a1] w fun e w' => e = .returned (.bool r) ∧ Drawn0 w w' := by
 have H : (if a0 ≥ 0 then (if a0 ≤ 3 then (if a1 ≥ 0 then (some (decide (a1 < 31))) else (some false)) else (some false)) else (some false)) = some r := h
 clear h
 by_cases c3 : a0 ≥ 0
 ·rw [if_pos c3] at H
  have c3b0 : decide (0 ≤ a0) = true := decide_eq_true c3
  clear c3
  by_cases c4 : a0 ≤ 3
  ·rw [if_pos c4] at H
   have c4b0 : decide (a0 ≤ 3) = true := decide_eq_true c4
   clear c4
   by_cases c5 : a1 ≥ 0
   ·rw [if_pos c5] at H
    have c5b0 : decide (0 ≤ a1) = true := decide_eq_true c5
    clear c5
    obtain rfl := Option.some.inj H
    go_enter Tryd.func52, Tryd.ntmps52
    go_wp2
    go_ret
    exact ⟨q3_, q20_⟩
   ·rw [if_neg c5] at H
    have c5b0 : decide (0 ≤ a1) = false := decide_eq_false c5
    clear c5
    obtain rfl := Option.some.inj H
    go_enter Tryd.func52, Tryd.ntmps52
    go_wp2
    go_ret
    exact ⟨q3_, q20_⟩
  ·rw [if_neg c4] at H
   have c4b0 : decide (a0 ≤ 3) = false := decide_eq_false c4
   clear c4
   obtain rfl := Option.some.inj H
   go_enter Tryd.func52, Tryd.ntmps52
   go_wp2
   go_ret
   exact ⟨q3_, q20_⟩
 ·rw [if_neg c3] at H
  have c3b0 : decide (0 ≤ a0) = false := decide_eq_false c3
  clear c3
  obtain rfl := Option.some.inj H
  go_enter Tryd.func52, Tryd.ntmps52
  go_wp2
  go_ret
  exact ⟨q3_, q20_⟩
def ber_named.Pure : Prop := ∀ (a0 : Int) (a1 : Int), (Lit.int .i64 a0).wf = true → (Lit.int .i64 a1).wf = true → ber_named.f a0 a1 = some true
end Go.Proofs.YtogjljpncdmlkaaDoor.GA
end
