/- Texts of this claim in one: GRx2 -/
import Derived.Test.YtogjljpncdmlkaaDoorB3
import Derived.Test.YtogjljpncdmlkaaDoorB17
import Derived.Test.YtogjljpncdmlkaaDoorB18
section
namespace Go.Proofs.YtogjljpncdmlkaaDoor.GR
open Go.RowKit Go.Proofs.YtogjljpncdmlkaaDoorW.PrintWords Go.Proofs.YtogjljpncdmlkaaDoorW.PrintLast Go.Proofs.YtogjljpncdmlkaaDoorW.PrintMore
attribute [local go_sem] max2_int min2_int max_two min_two max_three min_three max_four min_four   -- for this text's walks alone
set_option linter.unusedVariables false
set_option linter.unusedSimpArgs false
mutual
def rosterref02_Tree.j0 : Nat → ByteArray → List (S86) → List Int → Int → Int → Bool → Option ((List (S43)) × Int × Int)
 | 0, _, _, _, _, _, _ => none
 | k + 1, x0, x5, x6, x7, x8, x28 => if x28 = true then (rosterref02_Tree.j1 k x0 x5 x6 27 x8) else (rosterref02_Tree.j1 k x0 x5 x6 x7 x8)
def rosterref02_Tree.j1 : Nat → ByteArray → List (S86) → List Int → Int → Int → Option ((List (S43)) × Int × Int)
 | 0, _, _, _, _, _ => none
 | k + 1, x0, x5, x6, x7, x8 => if x7 = 0 then (rosterref02_Tree.l0 k x0 x5 x6 ([] : List (S43)) 0) else (some (([] : List (S43)), x7, x8))
def rosterref02_Tree.l0 : Nat → ByteArray → List (S86) → List Int → List (S43) → Int → Option ((List (S43)) × Int × Int)
 | 0, _, _, _, _, _ => none
 | k + 1, x0, x5, x6, x9, x10 => if x10 < (x5.length : Int) then (if 0 ≤ x10 then (if x10 < (x6.length : Int) then (if ((rd_T86 x5 x10).f1.f1 = true) then (if x9.length < 2932031007402 then (rosterref02_Tree.l0 k x0 x5 x6 (x9 ++ [(⟨rd x6 x10, (rd_T86 x5 x10).f1.f0, (rd_T86 x5 x10).f1.f1, (rd_T86 x5 x10).f1.f2, (⟨#[]⟩ : ByteArray)⟩ : S43)]) (wrap64 (x10 + 1))) else (none)) else (if 0 ≤ (wrap64 (((rd_T86 x5 x10).f0) + ((rd_T86 x5 x10).f1.f4))) then (if (wrap64 (((rd_T86 x5 x10).f0) + ((rd_T86 x5 x10).f1.f4))) ≤ (wrap64 ((wrap64 (((rd_T86 x5 x10).f0) + ((rd_T86 x5 x10).f1.f4))) + ((rd_T86 x5 x10).f1.f3))) then (if (wrap64 ((wrap64 (((rd_T86 x5 x10).f0) + ((rd_T86 x5 x10).f1.f4))) + ((rd_T86 x5 x10).f1.f3))) ≤ (x0.size : Int) then (if x9.length < 2932031007402 then (rosterref02_Tree.l0 k x0 x5 x6 (x9 ++ [(⟨rd x6 x10, (rd_T86 x5 x10).f1.f0, (rd_T86 x5 x10).f1.f1, (rd_T86 x5 x10).f1.f2, x0.extract ((wrap64 (((rd_T86 x5 x10).f0) + ((rd_T86 x5 x10).f1.f4))) : Int).toNat ((wrap64 ((wrap64 (((rd_T86 x5 x10).f0) + ((rd_T86 x5 x10).f1.f4))) + ((rd_T86 x5 x10).f1.f3))) : Int).toNat⟩ : S43)]) (wrap64 (x10 + 1))) else (none)) else (none)) else (none)) else (none))) else (none)) else (none)) else (some (x9, 0, 0))
end
def rosterref02_Tree.f (k : Nat) (a0 : ByteArray) : Option ((List (S43)) × Int × Int) := (rosterref02_walk.f k a0).bind fun bt132 => (if bt132.2.2.1 = 0 then (rosterref02_Tree.j0 k a0 bt132.1 bt132.2.1 bt132.2.2.1 bt132.2.2.2 (decide (bt132.2.2.2 < (a0.size : Int)))) else (rosterref02_Tree.j0 k a0 bt132.1 bt132.2.1 bt132.2.2.1 bt132.2.2.2 false))
def rosterref02_Tree.T11 : Bool × List (List Nat × List Nat) := (true, [([], []), ([], []), ([0, 1], [0, 1]), ([2], [2]), ([], []), ([4], [4]), ([], []), ([6], [6]), ([], []), ([8], [8]), ([3, 5, 7, 9], [3, 5, 7, 9]), ([], []), ([11, 10, 0, 1, 2, 3, 4, 5, 6, 7, 8, 9, 10, 11], [10, 11])])
def rosterref02_Tree.B11 : List Nat := [0, 0, 3, 7, 0, 16, 0, 64, 0, 256, 1023, 0, 4095]
theorem rosterref02_Tree.tab11 : rtab .any (opsOf Tryd.f27 11) = rosterref02_Tree.T11 := by kernel_rfl
theorem rosterref02_Tree.bits11 : waitsOk rosterref02_Tree.T11.2 rosterref02_Tree.B11 = true := by kernel_rfl
def rosterref02_Tree.T13 : Bool × List (List Nat × List Nat) := (true, [([], []), ([], []), ([0, 1], [0, 1]), ([2], [2]), ([3], [3]), ([], []), ([5], [5]), ([4, 6], [4, 6]), ([7, 0, 1, 2, 3, 4, 5, 6, 7], [7])])
def rosterref02_Tree.B13 : List Nat := [0, 0, 3, 7, 15, 0, 32, 127, 255]
theorem rosterref02_Tree.tab13 : rtab .any (opsOf Tryd.f27 13) = rosterref02_Tree.T13 := by kernel_rfl
theorem rosterref02_Tree.bits13 : waitsOk rosterref02_Tree.T13.2 rosterref02_Tree.B13 = true := by kernel_rfl
set_option maxHeartbeats 8000000 in
set_option maxRecDepth 100000 in
theorem rosterref02_Tree.calls (k : Nat) (a0 : ByteArray) (r1 : List (S43)) (r2 : Int) (r3 : Int) (w : World) (h : rosterref02_Tree.f k a0 = some (r1, r2, r3)) :
  Calls Tryd.prog 27 #[.string a0] w fun e w' => ∃ v0_ : Value, e = .returned (.tuple #[v0_, .int .i64 r2, .int .i64 r3]) ∧ Kd.R k43 43 w' w.heap.size (fun _ => True) v0_ r1 ∧ Below w.heap.size w w' := by
 have hu84 := Tryd.underlying84
 have hu43 := Tryd.underlying43
 have HB := Aside0.mk (Below.refl w.heap.size w)
 have H : ((rosterref02_walk.f k a0).bind fun bt132 => (if bt132.2.2.1 = 0 then (rosterref02_Tree.j0 k a0 bt132.1 bt132.2.1 bt132.2.2.1 bt132.2.2.2 (decide (bt132.2.2.2 < (a0.size : Int)))) else (rosterref02_Tree.j0 k a0 bt132.1 bt132.2.1 bt132.2.2.1 bt132.2.2.2 false))) = some (r1, r2, r3) := h
 clear h
 replace H := Option.bind_eq_some_iff.mp H
 obtain ⟨⟨t132, t133, t134, t135⟩, A20, H⟩ := H
 replace H : (if t134 = 0 then (rosterref02_Tree.j0 k a0 t132 t133 t134 t135 (decide (t135 < (a0.size : Int)))) else (rosterref02_Tree.j0 k a0 t132 t133 t134 t135 false)) = some (r1, r2, r3) := H
 have A2 := Aside0.mk A20
 clear A20
 have HC3 := Aside0.mk H
 clear H
 go_enter Tryd.func27, Tryd.ntmps27
 go_upto_region 2 with (first | ((with_reducible refine gate_callee (f := 45) rfl ?_); refine goesL_ (some 16) rfl rfl Tryd.func45 q9_ rfl #[.string a0] rfl q84_ ?_; (with_reducible refine (rosterref02_walk.calls k a0 t132 t133 t134 t135 _ A2.out).mono ?_); rintro e w4 ⟨v136, v138, rfl, ho0, ho1, hb⟩; refine ⟨_, rfl, ?_⟩; have n0_ := Aside0.mk (Kd.R_lower ho0 (below_size q1_)); have n1_ := Aside0.mk (Kd.R_lower ho1 (below_size q1_)); have n2_ := Aside0.mk (below_step q1_ hb); clear HB; have HO137 := n0_; have HO139 := n1_; have HB := n2_; clear n0_ n1_ n2_; (try clear hb); (try clear hb2); (try clear hk); (try clear hi); (try clear ho0); (try clear ho1)))
 (try simp only [Act.put, List.setIfInBounds_toArray, List.set_cons_zero, List.set_cons_succ])
 go_cut [28] (fun v28 wc => ∃ (kq : Nat) (x28_2 : Bool), v28 = .bool x28_2 ∧ Aside0 (rosterref02_Tree.j0 kq a0 t132 t133 t134 t135 x28_2 = some (r1, r2, r3)) ∧ Aside0 (kq ≤ k) ∧ Aside0 (Kd.R k86 86 wc w.heap.size (fun _ => True) v136 t132) ∧ Aside0 (Kd.R (Kd.int .i64) 3 wc w.heap.size (fun _ => True) v138 t133) ∧ Aside0 (Below w.heap.size w wc))
 case first =>
  have H := HC3.out
  clear HC3
  by_cases c5 : t134 = 0
  ·rw [if_pos c5] at H
   have c5b0 : (t134 == 0) = true := beq_iff_eq.mpr c5
   have c5b1 : (t134 != 0) = false := bne_eq_false_iff_eq.mpr c5
   clear c5
   (first | rw [c5b0] | rw [c5be] | (simp only [i64_w, i32_w]; rw [c5b0]) | skip)
   have H' := Aside0.mk H
   clear H
   go_wp2
   go_meet
   case rel => exact ⟨_, (decide (t135 < (a0.size : Int))), q3_, H', ⟨q42_⟩, ⟨by (with_reducible repeat (first | apply Kd.R_alloc | apply Kd.R_drewN | apply Kd.R_drew)); exact HO137.out⟩, ⟨q67_⟩, ⟨q1_⟩⟩
  ·rw [if_neg c5] at H
   have c5b0 : (t134 == 0) = false := beq_eq_false_iff_ne.mpr c5
   have c5b1 : (t134 != 0) = true := bne_iff_ne.mpr c5
   (first | rw [c5b0] | rw [c5be] | (simp only [i64_w, i32_w]; rw [c5b0]) | skip)
   have H' := Aside0.mk H
   clear H
   go_wp2
   go_meet
   case rel => exact ⟨_, (false), q3_, H', ⟨q42_⟩, ⟨by (with_reducible repeat (first | apply Kd.R_alloc | apply Kd.R_drewN | apply Kd.R_drew)); exact HO137.out⟩, ⟨q67_⟩, ⟨q1_⟩⟩
 case rest =>
  clear HC3
  try clear c2
  try clear p2
  try clear c4
  try clear c5
  try clear c5b0
  try clear c5b1
  obtain ⟨kq, x28_2, rfl, HA, HJ2, HO_5, HO_6, HB⟩ := hcut
  cases kq with
  | zero => exact absurd HA.out (by simp [rosterref02_Tree.j0])
  | succ kj2 =>
   have H := HA.out
   clear HA
   simp only [rosterref02_Tree.j0] at H
   have HC6 := Aside0.mk H
   clear H
   go_upto_if 28 with (fail)
   go_cut [7] (fun v7 wc => ∃ (kq : Nat) (x7_5 : Int), v7 = .int .i64 x7_5 ∧ Aside0 (rosterref02_Tree.j1 kq a0 t132 t133 x7_5 t135 = some (r1, r2, r3)) ∧ Aside0 (kq ≤ kj2) ∧ Aside0 (Kd.R k86 86 wc w.heap.size (fun _ => True) v136 t132) ∧ Aside0 (Kd.R (Kd.int .i64) 3 wc w.heap.size (fun _ => True) v138 t133) ∧ Aside0 (Below w.heap.size w wc))
   case first =>
    have H := HC6.out
    clear HC6
    by_cases c7 : x28_2 = true
    ·subst c7
     have H1 : (rosterref02_Tree.j1 kj2 a0 t132 t133 27 t135) = some (r1, r2, r3) := by rw [if_pos rfl] at H; exact H
     clear H
     have H := H1
     clear H1
     have H' := Aside0.mk H
     clear H
     go_wp2
     go_meet
     case rel => exact ⟨_, (27), q3_, H', ⟨by have := HJ2.out; first | omega | exact Nat.le_refl _⟩, ⟨q33_⟩, ⟨q17_⟩, ⟨q1_⟩⟩
    ·replace c7 := Bool.eq_false_iff.mpr c7
     subst c7
     have H1 : (rosterref02_Tree.j1 kj2 a0 t132 t133 t134 t135) = some (r1, r2, r3) := by rw [if_neg (show ¬ (false = true) by decide)] at H; exact H
     clear H
     have H := H1
     clear H1
     have H' := Aside0.mk H
     clear H
     go_wp2
     go_meet
     case rel => exact ⟨_, (t134), q3_, H', ⟨by have := HJ2.out; first | omega | exact Nat.le_refl _⟩, ⟨q33_⟩, ⟨q17_⟩, ⟨q1_⟩⟩
   case rest =>
    clear HC6
    try clear c2
    try clear p2
    try clear c4
    try clear c5
    try clear c5b0
    try clear c5b1
    try clear c7
    try clear p2
    obtain ⟨kq, x7_5, rfl, HA, HJ5, HO_5, HO_6, HB⟩ := hcut
    cases kq with
    | zero => exact absurd HA.out (by simp [rosterref02_Tree.j1])
    | succ kj5 =>
     have H := HA.out
     clear HA
     simp only [rosterref02_Tree.j1] at H
     by_cases c8 : x7_5 = 0
     ·rw [if_pos c8] at H
      have c8b0 : (x7_5 == 0) = true := beq_iff_eq.mpr c8
      have c8b1 : (x7_5 != 0) = false := bne_eq_false_iff_eq.mpr c8
      clear c8
      have H' := Aside0.mk H
      clear H
      go_wp2
      go_loopg [9, 10] kj5 (fun kq v9 v10 w' => ∃ (x9_3 : List (S43)) (x10_3 : Int), v10 = .int .i64 x10_3 ∧ Aside0 (rosterref02_Tree.l0 kq a0 t132 t133 x9_3 x10_3 = some (r1, r2, r3)) ∧ Aside0 (kq ≤ kj5) ∧ Aside0 (Kd.R k86 86 w' w.heap.size (fun _ => True) v136 t132) ∧ Aside0 (Kd.R (Kd.int .i64) 3 w' w.heap.size (fun _ => True) v138 t133) ∧ Aside0 (Kd.R k43 43 w' w.heap.size (fun _ => True) v9 x9_3) ∧ Aside0 (Below w.heap.size w w'))
      case atStart => exact ⟨(([] : List (S43))), (0), q3_, H', ⟨Nat.le_refl _⟩, ⟨q33_⟩, ⟨q17_⟩, ⟨q27_⟩, ⟨q1_⟩⟩
      case round =>
       clear H'
       try clear c2
       try clear p2
       try clear c4
       try clear c5
       try clear c5b0
       try clear c5b1
       try clear c7
       try clear c8
       try clear c8b0
       try clear c8b1
       try clear p2
       obtain ⟨x9_3, x10_3, rfl, HA, HK3, HO_5, HO_6, HO_9, HB⟩ := hrel
       cases gk with
       | zero => exact absurd HA.out (by simp [rosterref02_Tree.l0])
       | succ k3 =>
        have H := HA.out
        clear HA
        simp only [rosterref02_Tree.l0] at H
        by_cases c9 : x10_3 < (t132.length : Int)
        ·rw [if_pos c9] at H
         have c9b0 : decide (x10_3 < (t132.length : Int)) = true := decide_eq_true c9
         clear c9
         by_cases c10 : 0 ≤ x10_3
         ·rw [if_pos c10] at H
          have c10b0 : decide (0 ≤ x10_3) = true := decide_eq_true c10
          clear c10
          by_cases c11 : x10_3 < (t133.length : Int)
          ·rw [if_pos c11] at H
           have c11b0 : decide (x10_3 < (t133.length : Int)) = true := decide_eq_true c11
           clear c11
           obtain ⟨bq12, hbq12⟩ : ∃ b_ : Bool, b_ = ((rd_T86 t132 x10_3).f1.f1) := ⟨_, rfl⟩
           replace H : (if (bq12 = true) then (if x9_3.length < 2932031007402 then (rosterref02_Tree.l0 k3 a0 t132 t133 (x9_3 ++ [(⟨rd t133 x10_3, (rd_T86 t132 x10_3).f1.f0, bq12, (rd_T86 t132 x10_3).f1.f2, (⟨#[]⟩ : ByteArray)⟩ : S43)]) (wrap64 (x10_3 + 1))) else (none)) else (if 0 ≤ (wrap64 (((rd_T86 t132 x10_3).f0) + ((rd_T86 t132 x10_3).f1.f4))) then (if (wrap64 (((rd_T86 t132 x10_3).f0) + ((rd_T86 t132 x10_3).f1.f4))) ≤ (wrap64 ((wrap64 (((rd_T86 t132 x10_3).f0) + ((rd_T86 t132 x10_3).f1.f4))) + ((rd_T86 t132 x10_3).f1.f3))) then (if (wrap64 ((wrap64 (((rd_T86 t132 x10_3).f0) + ((rd_T86 t132 x10_3).f1.f4))) + ((rd_T86 t132 x10_3).f1.f3))) ≤ (a0.size : Int) then (if x9_3.length < 2932031007402 then (rosterref02_Tree.l0 k3 a0 t132 t133 (x9_3 ++ [(⟨rd t133 x10_3, (rd_T86 t132 x10_3).f1.f0, bq12, (rd_T86 t132 x10_3).f1.f2, a0.extract ((wrap64 (((rd_T86 t132 x10_3).f0) + ((rd_T86 t132 x10_3).f1.f4))) : Int).toNat ((wrap64 ((wrap64 (((rd_T86 t132 x10_3).f0) + ((rd_T86 t132 x10_3).f1.f4))) + ((rd_T86 t132 x10_3).f1.f3))) : Int).toNat⟩ : S43)]) (wrap64 (x10_3 + 1))) else (none)) else (none)) else (none)) else (none))) = some (r1, r2, r3) := by rw [← hbq12] at H; exact H
           have Nbq12 := Aside0.mk hbq12
           clear hbq12
           by_cases c13 : (bq12 = true)
           ·subst c13
            have H1 : (if x9_3.length < 2932031007402 then (rosterref02_Tree.l0 k3 a0 t132 t133 (x9_3 ++ [(⟨rd t133 x10_3, (rd_T86 t132 x10_3).f1.f0, true, (rd_T86 t132 x10_3).f1.f2, (⟨#[]⟩ : ByteArray)⟩ : S43)]) (wrap64 (x10_3 + 1))) else (none)) = some (r1, r2, r3) := by rw [if_pos rfl] at H; exact H
            clear H
            have H := H1
            clear H1
            by_cases c14 : x9_3.length < 2932031007402
            ·rw [if_pos c14] at H
             have LMc14 := Aside0.mk c14
             clear c14
             obtain ⟨y144, hy144⟩ : ∃ y_ : List (S43), y_ = (x9_3 ++ [(⟨rd t133 x10_3, (rd_T86 t132 x10_3).f1.f0, true, (rd_T86 t132 x10_3).f1.f2, (⟨#[]⟩ : ByteArray)⟩ : S43)]) := ⟨_, rfl⟩
             replace H : (rosterref02_Tree.l0 k3 a0 t132 t133 y144 (wrap64 (x10_3 + 1))) = some (r1, r2, r3) := by first | (rw [hy144]; with_reducible exact H) | (have H2_ := (Option.bind_some _ _).symm.trans H; rw [hy144]; with_reducible exact H2_) | (have H2_ := (Option.bind_some _ _).symm.trans H; with_reducible exact H2_) | with_reducible exact H | (rw [hy144]; exact H) | exact H
             have Ny144 := Aside0.mk hy144
             clear hy144
             have H' := Aside0.mk H
             clear H
             obtain ⟨Ao15, co15, eo15⟩ := Kd.R_slice HO_5.out
             subst eo15
             have p140 : 0 ≤ (x10_3 : Int) := of_decide_eq_true q6_
             have q140 : x10_3 < (t132.length : Int) := of_decide_eq_true q6_
             obtain ⟨ad140, e140, hx140_0, hx140_1, hx140_2, hx140_3, hx140_4, hx140_5⟩ := at_T86 (Kd.R_reads' HO_5.out).2.2 x10_3 p140 q140
             (try rw [← Nbq12.out] at hx140_2)
             cases e140
             replace p140 := eq_true p140
             replace q140 := eq_true q140
             try go_wp2_with (first | ((with_reducible refine gate_dst (N := 11) rfl ?_); (try (refine gate_guard q43_ ?_; dsimp only)); refine box_event ?hg (N := 11) ?hd (cs := #[.int .i64 0, .bool false, .int .i64 0, .int .i64 0, .int .i64 0]) (t := 84) ?hr ?_; (case hd => rfl); (case hg => rfl); (case hr => first | (go_simp; done) | (go_simp; rfl)); intro gb141 hg w16 hbox hb; have n0_ := Aside0.mk (Kd.R_below q33_ hb); have n1_ := Aside0.mk (Kd.R_below q17_ hb); have n2_ := Aside0.mk (Kd.R_below q62_ hb); have n3_ := Aside0.mk (below_step q1_ hb); have n4_ := Aside0.mk (hbox); have n5_ := Aside0.mk ((by rw [hg]; exact (below_size q1_) : w.heap.size ≤ gb141)); have n6_ := Aside0.mk ((by rw [hg]; exact (below_size q1_) : w.heap.size ≤ gb141)); clear HO_5; clear HO_6; clear HO_9; clear HB; have HO_5 := n0_; have HO_6 := n1_; have HO_9 := n2_; have HB := n3_; have BK141 := n4_; have GW141 := n5_; have GE141 := n6_; clear n0_ n1_ n2_ n3_ n4_ n5_ n6_; clear hb hbox hg; obtain ⟨hcz17_0, hcz17_1, hcz17_2, hcz17_3, hcz17_4⟩ := cells5_ BK141.out; obtain ⟨hfz17_0, hfz17_1, hfz17_2, hfz17_3, hfz17_4⟩ := frz5_ BK141.out))
             have n0_ : Aside0 (Kd.R k86 86 (((((w16.setCell ⟨gb141, 0, none⟩ (.int .i64 ((rd_T86 t132 x10_3).f1.f0))).setCell ⟨gb141, 1, none⟩ (.bool true)).setCell ⟨gb141, 2, none⟩ (.int .i64 ((rd_T86 t132 x10_3).f1.f2))).setCell ⟨gb141, 3, none⟩ (.int .i64 ((rd_T86 t132 x10_3).f1.f3))).setCell ⟨gb141, 4, none⟩ (.int .i64 ((rd_T86 t132 x10_3).f1.f4))) w.heap.size (fun _ => True) (.slice (some ad140) t132.length co15) t132) := ⟨q92_⟩
             have n1_ : Aside0 (Kd.R (Kd.int .i64) 3 (((((w16.setCell ⟨gb141, 0, none⟩ (.int .i64 ((rd_T86 t132 x10_3).f1.f0))).setCell ⟨gb141, 1, none⟩ (.bool true)).setCell ⟨gb141, 2, none⟩ (.int .i64 ((rd_T86 t132 x10_3).f1.f2))).setCell ⟨gb141, 3, none⟩ (.int .i64 ((rd_T86 t132 x10_3).f1.f3))).setCell ⟨gb141, 4, none⟩ (.int .i64 ((rd_T86 t132 x10_3).f1.f4))) w.heap.size (fun _ => True) v138 t133) := ⟨q93_⟩
             have n2_ : Aside0 (Kd.R k43 43 (((((w16.setCell ⟨gb141, 0, none⟩ (.int .i64 ((rd_T86 t132 x10_3).f1.f0))).setCell ⟨gb141, 1, none⟩ (.bool true)).setCell ⟨gb141, 2, none⟩ (.int .i64 ((rd_T86 t132 x10_3).f1.f2))).setCell ⟨gb141, 3, none⟩ (.int .i64 ((rd_T86 t132 x10_3).f1.f3))).setCell ⟨gb141, 4, none⟩ (.int .i64 ((rd_T86 t132 x10_3).f1.f4))) w.heap.size (fun _ => True) u9 x9_3) := ⟨q94_⟩
             have n3_ : Aside0 ((((((w16.setCell ⟨gb141, 0, none⟩ (.int .i64 ((rd_T86 t132 x10_3).f1.f0))).setCell ⟨gb141, 1, none⟩ (.bool true)).setCell ⟨gb141, 2, none⟩ (.int .i64 ((rd_T86 t132 x10_3).f1.f2))).setCell ⟨gb141, 3, none⟩ (.int .i64 ((rd_T86 t132 x10_3).f1.f3))).setCell ⟨gb141, 4, none⟩ (.int .i64 ((rd_T86 t132 x10_3).f1.f4))).heap[gb141]? = some (.cells #[.int .i64 ((rd_T86 t132 x10_3).f1.f0), .bool true, .int .i64 ((rd_T86 t132 x10_3).f1.f2), .int .i64 ((rd_T86 t132 x10_3).f1.f3), .int .i64 ((rd_T86 t132 x10_3).f1.f4)] 84 (0, 0))) := ⟨q107_⟩
             have n4_ : Aside0 (Below w.heap.size w (((((w16.setCell ⟨gb141, 0, none⟩ (.int .i64 ((rd_T86 t132 x10_3).f1.f0))).setCell ⟨gb141, 1, none⟩ (.bool true)).setCell ⟨gb141, 2, none⟩ (.int .i64 ((rd_T86 t132 x10_3).f1.f2))).setCell ⟨gb141, 3, none⟩ (.int .i64 ((rd_T86 t132 x10_3).f1.f3))).setCell ⟨gb141, 4, none⟩ (.int .i64 ((rd_T86 t132 x10_3).f1.f4)))) := ⟨q35_⟩
             (try clear HO_5)
             (try clear HO_6)
             (try clear HO_9)
             (try clear BK141)
             (try clear HB)
             generalize (((((w16.setCell ⟨gb141, 0, none⟩ (.int .i64 ((rd_T86 t132 x10_3).f1.f0))).setCell ⟨gb141, 1, none⟩ (.bool true)).setCell ⟨gb141, 2, none⟩ (.int .i64 ((rd_T86 t132 x10_3).f1.f2))).setCell ⟨gb141, 3, none⟩ (.int .i64 ((rd_T86 t132 x10_3).f1.f3))).setCell ⟨gb141, 4, none⟩ (.int .i64 ((rd_T86 t132 x10_3).f1.f4))) = w18 at n0_ n1_ n2_ n3_ n4_ ⊢
             have HO_5 := n0_
             have HO_6 := n1_
             have HO_9 := n2_
             have BK141 := n3_
             have HB := n4_
             clear n0_ n1_ n2_ n3_ n4_
             have n0_ := Aside0.mk (Kd.R_drew HO_5.out)
             have n1_ := Aside0.mk (Kd.R_drew HO_6.out)
             have n2_ := Aside0.mk (Kd.R_drew HO_9.out)
             have n3_ := Aside0.mk (blk_drew BK141.out)
             have n4_ := Aside0.mk (below_drew1 HB.out)
             clear HO_5
             clear HO_6
             clear HO_9
             clear BK141
             clear HB
             have HO_5 := n0_
             have HO_6 := n1_
             have HO_9 := n2_
             have BK141 := n3_
             have HB := n4_
             clear n0_ n1_ n2_ n3_ n4_
             obtain ⟨Ao20, co20, eo20⟩ := Kd.R_slice HO_6.out
             (first | subst eo20 | (injection eo20 with f1_ f2_ f3_; have f4_ := f1_.symm; have f5_ := f3_.symm; clear f1_ f2_ f3_; subst f4_; subst f5_))
             have p142 : 0 ≤ (x10_3 : Int) := of_decide_eq_true q6_
             have q142 : x10_3 < (t133.length : Int) := of_decide_eq_true q6_
             obtain ⟨ad142, e142, hx142_0⟩ := Kd.at_int (Kd.R_reads' HO_6.out).2.2 x10_3 p142 q142
             cases e142
             replace p142 := eq_true p142
             replace q142 := eq_true q142
             refine start_ (n := 13) (S := fun w' => w'.cell? ⟨gb141, 0, none⟩ = some (.int .i64 ((rd_T86 t132 x10_3).f1.f0)) ∧ w'.cell? ⟨gb141, 1, none⟩ = some (.bool true) ∧ w'.cell? ⟨gb141, 2, none⟩ = some (.int .i64 ((rd_T86 t132 x10_3).f1.f2)) ∧ w'.cell? ⟨gb141, 3, none⟩ = some (.int .i64 ((rd_T86 t132 x10_3).f1.f3)) ∧ w'.cell? ⟨gb141, 4, none⟩ = some (.int .i64 ((rd_T86 t132 x10_3).f1.f4)) ∧ w'.cell? (ad142.add (x10_3).toNat) = some (.int .i64 (rd t133 x10_3))) (ds := []) #[false, false, false, false, false, false, false, false, false, false, false, false, false] q9_ rfl rfl ⟨(blk_cell BK141.out 0).trans rfl, (blk_cell BK141.out 1).trans rfl, (blk_cell BK141.out 2).trans rfl, (blk_cell BK141.out 3).trans rfl, (blk_cell BK141.out 4).trans rfl, hx142_0⟩ (fun hHeld => ?_); refine with_tabW rosterref02_Tree.tab11 rosterref02_Tree.bits11 (fun HT_ HW_ => ?_)
             generalize w18.drew = w19 at HO_5 HO_6 HO_9 BK141 HB hx142_0 hHeld ⊢
             refine pure_ (i := 0) (N := some 44) (v := ?_) (a' := ?_) #[true, false, false, false, false, false, false, false, false, false, false, false, false] rfl rfl (any_of HT_.out q9_) (fun _ _ _ h => h) (Or.inl ⟨q43_, ?_⟩) ?_ ?_
             rotate_left
             ·intro w'
              go_simp
              with_reducible rfl
             rotate_left
             ·simp only [Act.put, List.setIfInBounds_toArray, List.set_cons_zero, List.set_cons_succ, i64_w, i32_w]
              rfl
             refine pure_ (i := 1) (N := some 45) (v := ?_) (a' := ?_) #[true, true, false, false, false, false, false, false, false, false, false, false, false] rfl rfl (any_of HT_.out q9_) (fun _ _ _ h => h) (Or.inl ⟨q43_, ?_⟩) ?_ ?_
             rotate_left
             ·intro w'
              go_simp
              with_reducible rfl
             rotate_left
             ·simp only [Act.put, List.setIfInBounds_toArray, List.set_cons_zero, List.set_cons_succ, i64_w, i32_w]
              rfl
             refine pure_ (i := 2) (N := some 46) (v := ?_) (a' := ?_) #[true, true, true, false, false, false, false, false, false, false, false, false, false] rfl rfl (any_of HT_.out q9_) (fun _ _ _ h => h) (Or.inl ⟨q43_, ?_⟩) ?_ ?_
             rotate_left
             ·intro w'
              go_simp
              with_reducible rfl
             rotate_left
             ·simp only [Act.put, List.setIfInBounds_toArray, List.set_cons_zero, List.set_cons_succ, i64_w, i32_w]
              rfl
             refine pure_ (i := 4) (N := some 48) (v := ?_) (a' := ?_) #[true, true, true, false, true, false, false, false, false, false, false, false, false] rfl rfl (any_of HT_.out q9_) (fun _ _ _ h => h) (Or.inl ⟨q43_, ?_⟩) ?_ ?_
             rotate_left
             ·intro w'
              go_simp
              with_reducible rfl
             rotate_left
             ·simp only [Act.put, List.setIfInBounds_toArray, List.set_cons_zero, List.set_cons_succ, i64_w, i32_w]
              rfl
             refine pure_ (i := 6) (N := some 50) (v := ?_) (a' := ?_) #[true, true, true, false, true, false, true, false, false, false, false, false, false] rfl rfl (any_of HT_.out q9_) (fun _ _ _ h => h) (Or.inl ⟨q43_, ?_⟩) ?_ ?_
             rotate_left
             ·intro w'
              go_simp
              with_reducible rfl
             rotate_left
             ·simp only [Act.put, List.setIfInBounds_toArray, List.set_cons_zero, List.set_cons_succ, i64_w, i32_w]
              rfl
             refine pure_ (i := 8) (N := some 52) (v := ?_) (a' := ?_) #[true, true, true, false, true, false, true, false, true, false, false, false, false] rfl rfl (any_of HT_.out q9_) (fun _ _ _ h => h) (Or.inl ⟨q43_, ?_⟩) ?_ ?_
             rotate_left
             ·intro w'
              go_simp
              with_reducible rfl
             rotate_left
             ·simp only [Act.put, List.setIfInBounds_toArray, List.set_cons_zero, List.set_cons_succ, i64_w, i32_w]
              rfl
             refine take_ (i := 3) (N := some 47) (v := ?_) (a' := ?_) #[true, true, true, true, true, false, true, false, true, false, false, false, false] rfl rfl (take_ofW HT_.out HW_.out q9_) (fun _ _ _ h => h) (Or.inl ⟨q43_, ?_⟩) hHeld ?_ ?_
             rotate_left
             ·rintro w' ⟨s0, s1, s2, s3, s4, s5⟩
              go_simp
              with_reducible rfl
             rotate_left
             ·simp only [Act.put, List.setIfInBounds_toArray, List.set_cons_zero, List.set_cons_succ, i64_w, i32_w]
              rfl
             refine take_ (i := 5) (N := some 49) (v := ?_) (a' := ?_) #[true, true, true, true, true, true, true, false, true, false, false, false, false] rfl rfl (take_ofW HT_.out HW_.out q9_) (fun _ _ _ h => h) (Or.inl ⟨q43_, ?_⟩) hHeld ?_ ?_
             rotate_left
             ·rintro w' ⟨s0, s1, s2, s3, s4, s5⟩
              go_simp
              with_reducible rfl
             rotate_left
             ·simp only [Act.put, List.setIfInBounds_toArray, List.set_cons_zero, List.set_cons_succ, i64_w, i32_w]
              rfl
             refine take_ (i := 7) (N := some 51) (v := ?_) (a' := ?_) #[true, true, true, true, true, true, true, true, true, false, false, false, false] rfl rfl (take_ofW HT_.out HW_.out q9_) (fun _ _ _ h => h) (Or.inl ⟨q43_, ?_⟩) hHeld ?_ ?_
             rotate_left
             ·rintro w' ⟨s0, s1, s2, s3, s4, s5⟩
              go_simp
              with_reducible rfl
             rotate_left
             ·simp only [Act.put, List.setIfInBounds_toArray, List.set_cons_zero, List.set_cons_succ, i64_w, i32_w]
              rfl
             refine take_ (i := 9) (N := some 53) (v := ?_) (a' := ?_) #[true, true, true, true, true, true, true, true, true, true, false, false, false] rfl rfl (take_ofW HT_.out HW_.out q9_) (fun _ _ _ h => h) (Or.inl ⟨q43_, ?_⟩) hHeld ?_ ?_
             rotate_left
             ·rintro w' ⟨s0, s1, s2, s3, s4, s5⟩
              go_simp
              with_reducible rfl
             rotate_left
             ·simp only [Act.put, List.setIfInBounds_toArray, List.set_cons_zero, List.set_cons_succ, i64_w, i32_w]
              rfl
             refine pure_ (i := 10) (N := some 54) (v := ?_) (a' := ?_) #[true, true, true, true, true, true, true, true, true, true, true, false, false] rfl rfl (any_of HT_.out q9_) (fun _ _ _ h => h) (Or.inl ⟨q43_, ?_⟩) ?_ ?_
             rotate_left
             ·intro w'
              go_simp
              with_reducible rfl
             rotate_left
             ·simp only [Act.put, List.setIfInBounds_toArray, List.set_cons_zero, List.set_cons_succ, i64_w, i32_w]
              rfl
             refine one_ (i := 11) (N := some 12) #[true, true, true, true, true, true, true, true, true, true, true, true, false] rfl rfl (one_of HT_.out q9_) q19_ (fun K hK => ?_)
             refine box_step ?hg (N := 12) ?hd (cs := #[.int .i64 0, .int .i64 0, .bool false, .int .i64 0, .string (⟨#[]⟩ : ByteArray)]) (t := 43) ?hr ?_; (case hd => rfl); (case hg => rfl); (case hr => first | (go_simp; done) | (go_simp; rfl))
             intro gb143 hg w21 hbox hb
             have HS5_ := (hb.cell (World.block_lt_of_cell? _ _ (hHeld.2.2.2.2.2))).trans (hHeld.2.2.2.2.2)
             have n0_ := Aside0.mk (Kd.R_below q33_ hb)
             have n1_ := Aside0.mk (Kd.R_below q17_ hb)
             have n2_ := Aside0.mk (Kd.R_below (Kd.R_elderB q62_ gb143 (Nat.le_of_eq hg.symm)) hb)
             have n3_ := Aside0.mk (blk_below (g := gb141) (o := .cells #[.int .i64 ((rd_T86 t132 x10_3).f1.f0), .bool true, .int .i64 ((rd_T86 t132 x10_3).f1.f2), .int .i64 ((rd_T86 t132 x10_3).f1.f3), .int .i64 ((rd_T86 t132 x10_3).f1.f4)] 84 (0, 0)) q45_ hb)
             have n4_ := Aside0.mk (below_step q35_ hb)
             have n5_ := Aside0.mk (hbox)
             have n6_ := Aside0.mk ((by rw [hg]; exact (below_size q35_) : w.heap.size ≤ gb143))
             have n7_ := Aside0.mk ((by rw [hg]; exact (below_size q35_) : w.heap.size ≤ gb143))
             have n8_ := Aside0.mk ((by rw [hg]; exact Nat.ne_of_lt (blk_lt (g := gb141) (o := .cells #[.int .i64 ((rd_T86 t132 x10_3).f1.f0), .bool true, .int .i64 ((rd_T86 t132 x10_3).f1.f2), .int .i64 ((rd_T86 t132 x10_3).f1.f3), .int .i64 ((rd_T86 t132 x10_3).f1.f4)] 84 (0, 0)) q45_) : gb141 ≠ gb143))
             have n9_ := Aside0.mk ((by rw [hg]; exact Nat.ne_of_gt (blk_lt (g := gb141) (o := .cells #[.int .i64 ((rd_T86 t132 x10_3).f1.f0), .bool true, .int .i64 ((rd_T86 t132 x10_3).f1.f2), .int .i64 ((rd_T86 t132 x10_3).f1.f3), .int .i64 ((rd_T86 t132 x10_3).f1.f4)] 84 (0, 0)) q45_) : gb143 ≠ gb141))
             clear HO_5
             clear HO_6
             clear HO_9
             clear BK141
             clear HB
             have HO_5 := n0_
             have HO_6 := n1_
             have HO_9 := n2_
             have BK141 := n3_
             have HB := n4_
             have BK143 := n5_
             have GW143 := n6_
             have GE143 := n7_
             have NB141_143 := n8_
             have NB143_141 := n9_
             clear n0_ n1_ n2_ n3_ n4_ n5_ n6_ n7_ n8_ n9_
             clear hb hbox hg
             refine hK.out _ _ ⟨(blk_cell BK141.out 0).trans rfl, (blk_cell BK141.out 1).trans rfl, (blk_cell BK141.out 2).trans rfl, (blk_cell BK141.out 3).trans rfl, (blk_cell BK141.out 4).trans rfl, HS5_⟩ (fun hHeld => ?_)
             clear hK K
             refine norm_ (a' := ?_) ?_ ?_
             rotate_left
             ·show Act.put _ (some 12) _ = _
              simp only [Act.put, List.setIfInBounds_toArray, List.set_cons_zero, List.set_cons_succ, i64_w, i32_w]
              rfl
             refine one_ (i := 12) (N := none) #[true, true, true, true, true, true, true, true, true, true, true, true, true] rfl rfl (one_of HT_.out q9_) q19_ (fun K hK => ?_)
             have hs22 : w21.cell? ⟨gb143, 0, none⟩ = some (.int .i64 0) := (blk_cell BK143.out 0).trans rfl
             have hfs22 := blk_frozen BK143.out 0
             have hns22_0 := NB141_143.out
             have hms22_0 := NB143_141.out
             have hs23 : w21.cell? ⟨gb143, 1, none⟩ = some (.int .i64 0) := (blk_cell BK143.out 1).trans rfl
             have hfs23 := blk_frozen BK143.out 1
             have hns23_0 := NB141_143.out
             have hms23_0 := NB143_141.out
             have hs24 : w21.cell? ⟨gb143, 2, none⟩ = some (.bool false) := (blk_cell BK143.out 2).trans rfl
             have hfs24 := blk_frozen BK143.out 2
             have hns24_0 := NB141_143.out
             have hms24_0 := NB143_141.out
             have hs25 : w21.cell? ⟨gb143, 3, none⟩ = some (.int .i64 0) := (blk_cell BK143.out 3).trans rfl
             have hfs25 := blk_frozen BK143.out 3
             have hns25_0 := NB141_143.out
             have hms25_0 := NB143_141.out
             have hs26 : w21.cell? ⟨gb143, 4, none⟩ = some (.string (⟨#[]⟩ : ByteArray)) := (blk_cell BK143.out 4).trans rfl
             have hfs26 := blk_frozen BK143.out 4
             have hns26_0 := NB141_143.out
             have hms26_0 := NB143_141.out
             refine skip_ (w1 := ?_) q43_ rfl ?_ ?_
             rotate_left
             ·go_simp
              rfl
             refine hK.out _ _ ⟨((cell_far (p := ⟨gb143, _, none⟩) NB141_143.out _).trans (((cell_far (p := ⟨gb143, _, none⟩) NB141_143.out _).trans (((cell_far (p := ⟨gb143, _, none⟩) NB141_143.out _).trans (((cell_far (p := ⟨gb143, _, none⟩) NB141_143.out _).trans (((cell_far (p := ⟨gb143, _, none⟩) NB141_143.out _).trans (hHeld.1)))))))))), ((cell_far (p := ⟨gb143, _, none⟩) NB141_143.out _).trans (((cell_far (p := ⟨gb143, _, none⟩) NB141_143.out _).trans (((cell_far (p := ⟨gb143, _, none⟩) NB141_143.out _).trans (((cell_far (p := ⟨gb143, _, none⟩) NB141_143.out _).trans (((cell_far (p := ⟨gb143, _, none⟩) NB141_143.out _).trans (hHeld.2.1)))))))))), ((cell_far (p := ⟨gb143, _, none⟩) NB141_143.out _).trans (((cell_far (p := ⟨gb143, _, none⟩) NB141_143.out _).trans (((cell_far (p := ⟨gb143, _, none⟩) NB141_143.out _).trans (((cell_far (p := ⟨gb143, _, none⟩) NB141_143.out _).trans (((cell_far (p := ⟨gb143, _, none⟩) NB141_143.out _).trans (hHeld.2.2.1)))))))))), ((cell_far (p := ⟨gb143, _, none⟩) NB141_143.out _).trans (((cell_far (p := ⟨gb143, _, none⟩) NB141_143.out _).trans (((cell_far (p := ⟨gb143, _, none⟩) NB141_143.out _).trans (((cell_far (p := ⟨gb143, _, none⟩) NB141_143.out _).trans (((cell_far (p := ⟨gb143, _, none⟩) NB141_143.out _).trans (hHeld.2.2.2.1)))))))))), ((cell_far (p := ⟨gb143, _, none⟩) NB141_143.out _).trans (((cell_far (p := ⟨gb143, _, none⟩) NB141_143.out _).trans (((cell_far (p := ⟨gb143, _, none⟩) NB141_143.out _).trans (((cell_far (p := ⟨gb143, _, none⟩) NB141_143.out _).trans (((cell_far (p := ⟨gb143, _, none⟩) NB141_143.out _).trans (hHeld.2.2.2.2.1)))))))))), ((cell_far (p := ⟨gb143, _, none⟩) q85_ _).trans (((cell_far (p := ⟨gb143, _, none⟩) q85_ _).trans (((cell_far (p := ⟨gb143, _, none⟩) q85_ _).trans (((cell_far (p := ⟨gb143, _, none⟩) q85_ _).trans (((cell_far (p := ⟨gb143, _, none⟩) q85_ _).trans (hHeld.2.2.2.2.2))))))))))⟩ (fun hHeld => ?_)
             clear hK K
             refine done_ (done_of HT_.out q9_) ?_
             have hnb27 := NB141_143.out
             have hnc27 := NB143_141.out
             obtain ⟨hcz28_0, hcz28_1, hcz28_2, hcz28_3, hcz28_4⟩ := cells5_ BK141.out
             obtain ⟨hfz28_0, hfz28_1, hfz28_2, hfz28_3, hfz28_4⟩ := frz5_ BK141.out
             obtain ⟨hcz29_0, hcz29_1, hcz29_2, hcz29_3, hcz29_4⟩ := cells5_ BK143.out
             obtain ⟨hfz29_0, hfz29_1, hfz29_2, hfz29_3, hfz29_4⟩ := frz5_ BK143.out
             try go_wp2_with (first | ((with_reducible refine gate_builtin (b := .append) (xs := #[.tmp 74, .tmp 76]) rfl ?_); (try (refine gate_guard q43_ ?_; dsimp only)); at_builtin; refine Kd.R_append k43 (w0 := w) w.heap.size rfl (.tmp 74) (.tmp 76) 45 43 (.agg #[(.int .i64 0), (.int .i64 0), (.bool false), (.int .i64 0), (.string ⟨#[]⟩)]) 48 rfl Tryd.underlying45 info43 rfl q19_ q2_ u9 x9_3 (⟨rd t133 x10_3, (rd_T86 t132 x10_3).f1.f0, true, (rd_T86 t132 x10_3).f1.f2, (⟨#[]⟩ : ByteArray)⟩ : S43) [.int .i64 (rd t133 x10_3), .int .i64 ((rd_T86 t132 x10_3).f1.f0), .bool true, .int .i64 ((rd_T86 t132 x10_3).f1.f2), .string (⟨#[]⟩ : ByteArray)] (fun k_ => k_ ≠ gb143) (fun _ => False) rfl q81_ ?aP (fun _ hk => hk.elim) ?aF ?aO ?aB ?aS ?aL ?_; (case aP => exact k43_mkM _ _ _ (⟨rd t133 x10_3, (rd_T86 t132 x10_3).f1.f0, true, (rd_T86 t132 x10_3).f1.f2, (⟨#[]⟩ : ByteArray)⟩ : S43)); (case aB => exact q32_); (case aF => exact (fun k_ hk => Kd.freshB (g := gb143) (o := .cells #[.int .i64 (rd t133 x10_3), .int .i64 ((rd_T86 t132 x10_3).f1.f0), .bool true, .int .i64 ((rd_T86 t132 x10_3).f1.f2), .string (⟨#[]⟩ : ByteArray)] 43 (0, 0)) q98_ k_ hk)); (case aO => exact q64_); (case aS => exact (below_size q32_)); (case aL => have := LMc14.out; omega); intro v145 w30 ho hb hg hat; rw [← Ny144.out] at ho; have n0_ := Aside0.mk (Kd.R_over' (by (with_reducible repeat (first | apply Kd.R_alloc | apply Kd.R_drewN | apply Kd.R_drew)); exact (Kd.R_mono (Rfar5_ (g := gb143) (Kd.R_types HO_5.out BK143.out q19_) (fun _ hk => hk.2)) (fun _ h_ => h_.1))) (Kd.R_typed q65_) q19_ hg); have n1_ := Aside0.mk (Kd.R_over' (by (with_reducible repeat (first | apply Kd.R_alloc | apply Kd.R_drewN | apply Kd.R_drew)); exact (Kd.R_mono (Rfar5_ (g := gb143) (Kd.R_types HO_6.out BK143.out q19_) (fun _ hk => hk.2)) (fun _ h_ => h_.1))) (Kd.R_typed q65_) q19_ hg); have n2_ := Aside0.mk (blk_grown (g := gb141) (o := .cells #[.int .i64 ((rd_T86 t132 x10_3).f1.f0), .bool true, .int .i64 ((rd_T86 t132 x10_3).f1.f2), .int .i64 ((rd_T86 t132 x10_3).f1.f3), .int .i64 ((rd_T86 t132 x10_3).f1.f4)] 84 (0, 0)) q29_ hg (Kd.R_ne HO_9.out BK141.out q19_)); have n3_ := Aside0.mk (blk_grown (g := gb143) (o := .cells #[.int .i64 (rd t133 x10_3), .int .i64 ((rd_T86 t132 x10_3).f1.f0), .bool true, .int .i64 ((rd_T86 t132 x10_3).f1.f2), .string (⟨#[]⟩ : ByteArray)] 43 (0, 0)) q98_ hg (Kd.R_away HO_9.out (fun _ hk => hk.2))); have n4_ := Aside0.mk (hb); have n5_ := Aside0.mk (ho); clear HO_5; clear HO_6; clear BK141; clear BK143; clear HB; clear HO_9; have HO_5 := n0_; have HO_6 := n1_; have BK141 := n2_; have BK143 := n3_; have HB := n4_; have HO146 := n5_; clear n0_ n1_ n2_ n3_ n4_ n5_; clear ho hb hg hat))
             go_roundg k3
             case measure => have := HJ2.out; have := HJ5.out; have := HK3.out; omega
             case rel => (try rw [← Nbq12.out]); exact ⟨(y144), (wrap64 (x10_3 + 1)), q3_, H', ⟨by have := HJ2.out; have := HJ5.out; have := HK3.out; omega⟩, ⟨q33_⟩, ⟨q17_⟩, ⟨q74_⟩, ⟨q32_⟩⟩
            ·rw [if_neg c14] at H
             exact absurd H q28_
           ·replace c13 := Bool.eq_false_iff.mpr c13
            subst c13
            have H1 : (if 0 ≤ (wrap64 (((rd_T86 t132 x10_3).f0) + ((rd_T86 t132 x10_3).f1.f4))) then (if (wrap64 (((rd_T86 t132 x10_3).f0) + ((rd_T86 t132 x10_3).f1.f4))) ≤ (wrap64 ((wrap64 (((rd_T86 t132 x10_3).f0) + ((rd_T86 t132 x10_3).f1.f4))) + ((rd_T86 t132 x10_3).f1.f3))) then (if (wrap64 ((wrap64 (((rd_T86 t132 x10_3).f0) + ((rd_T86 t132 x10_3).f1.f4))) + ((rd_T86 t132 x10_3).f1.f3))) ≤ (a0.size : Int) then (if x9_3.length < 2932031007402 then (rosterref02_Tree.l0 k3 a0 t132 t133 (x9_3 ++ [(⟨rd t133 x10_3, (rd_T86 t132 x10_3).f1.f0, false, (rd_T86 t132 x10_3).f1.f2, a0.extract ((wrap64 (((rd_T86 t132 x10_3).f0) + ((rd_T86 t132 x10_3).f1.f4))) : Int).toNat ((wrap64 ((wrap64 (((rd_T86 t132 x10_3).f0) + ((rd_T86 t132 x10_3).f1.f4))) + ((rd_T86 t132 x10_3).f1.f3))) : Int).toNat⟩ : S43)]) (wrap64 (x10_3 + 1))) else (none)) else (none)) else (none)) else (none)) = some (r1, r2, r3) := by rw [if_neg (show ¬ (false = true) by decide)] at H; exact H
            clear H
            have H := H1
            clear H1
            obtain ⟨ji31, hji31⟩ : ∃ j_ : Int, (wrap64 (((rd_T86 t132 x10_3).f0) + ((rd_T86 t132 x10_3).f1.f4))) = j_ := ⟨_, rfl⟩
            replace H : (if 0 ≤ (ji31) then (if (ji31) ≤ (wrap64 ((ji31) + ((rd_T86 t132 x10_3).f1.f3))) then (if (wrap64 ((ji31) + ((rd_T86 t132 x10_3).f1.f3))) ≤ (a0.size : Int) then (if x9_3.length < 2932031007402 then (rosterref02_Tree.l0 k3 a0 t132 t133 (x9_3 ++ [(⟨rd t133 x10_3, (rd_T86 t132 x10_3).f1.f0, false, (rd_T86 t132 x10_3).f1.f2, a0.extract ((ji31) : Int).toNat ((wrap64 ((ji31) + ((rd_T86 t132 x10_3).f1.f3))) : Int).toNat⟩ : S43)]) (wrap64 (x10_3 + 1))) else (none)) else (none)) else (none)) else (none)) = some (r1, r2, r3) := by first | (rw [hji31] at H; exact H) | (simp only [hji31] at H ⊢; exact H)
            have hji31w : (IntKind.i64.wrap (((rd_T86 t132 x10_3).f0) + ((rd_T86 t132 x10_3).f1.f4))) = ji31 := (i64_w _).trans hji31
            by_cases c32 : 0 ≤ (ji31)
            ·rw [if_pos c32] at H
             have c32b0 := eq_true c32
             have c32b1 : decide (0 ≤ (ji31)) = true := decide_eq_true c32
             clear c32
             by_cases c33 : (ji31) ≤ (wrap64 ((ji31) + ((rd_T86 t132 x10_3).f1.f3)))
             ·rw [if_pos c33] at H
              have c33b0 := eq_true c33
              have c33b1 : decide ((ji31) ≤ (wrap64 ((ji31) + ((rd_T86 t132 x10_3).f1.f3)))) = true := decide_eq_true c33
              by_cases c34 : (wrap64 ((ji31) + ((rd_T86 t132 x10_3).f1.f3))) ≤ (a0.size : Int)
              ·rw [if_pos c34] at H
               have c34b0 := eq_true c34
               have c34b1 : decide ((wrap64 ((ji31) + ((rd_T86 t132 x10_3).f1.f3))) ≤ (a0.size : Int)) = true := decide_eq_true c34
               by_cases c35 : x9_3.length < 2932031007402
               ·rw [if_pos c35] at H
                have LMc35 := Aside0.mk c35
                clear c35
                obtain ⟨y148, hy148⟩ : ∃ y_ : List (S43), y_ = (x9_3 ++ [(⟨rd t133 x10_3, (rd_T86 t132 x10_3).f1.f0, false, (rd_T86 t132 x10_3).f1.f2, a0.extract ((ji31) : Int).toNat ((wrap64 ((ji31) + ((rd_T86 t132 x10_3).f1.f3))) : Int).toNat⟩ : S43)]) := ⟨_, rfl⟩
                replace H : (rosterref02_Tree.l0 k3 a0 t132 t133 y148 (wrap64 (x10_3 + 1))) = some (r1, r2, r3) := by first | (rw [hy148]; with_reducible exact H) | (have H2_ := (Option.bind_some _ _).symm.trans H; rw [hy148]; with_reducible exact H2_) | (have H2_ := (Option.bind_some _ _).symm.trans H; with_reducible exact H2_) | with_reducible exact H | (rw [hy148]; exact H) | exact H
                have Ny148 := Aside0.mk hy148
                clear hy148
                have H' := Aside0.mk H
                clear H
                obtain ⟨Ao36, co36, eo36⟩ := Kd.R_slice HO_5.out
                subst eo36
                have p140 : 0 ≤ (x10_3 : Int) := of_decide_eq_true q6_
                have q140 : x10_3 < (t132.length : Int) := of_decide_eq_true q6_
                obtain ⟨ad140, e140, hx140_0, hx140_1, hx140_2, hx140_3, hx140_4, hx140_5⟩ := at_T86 (Kd.R_reads' HO_5.out).2.2 x10_3 p140 q140
                (try rw [← Nbq12.out] at hx140_2)
                cases e140
                replace p140 := eq_true p140
                replace q140 := eq_true q140
                try go_wp2_with (first | ((with_reducible refine gate_dst (N := 11) rfl ?_); (try (refine gate_guard q43_ ?_; dsimp only)); refine box_event ?hg (N := 11) ?hd (cs := #[.int .i64 0, .bool false, .int .i64 0, .int .i64 0, .int .i64 0]) (t := 84) ?hr ?_; (case hd => rfl); (case hg => rfl); (case hr => first | (go_simp; done) | (go_simp; rfl)); intro gb141 hg w37 hbox hb; have n0_ := Aside0.mk (Kd.R_below q33_ hb); have n1_ := Aside0.mk (Kd.R_below q17_ hb); have n2_ := Aside0.mk (Kd.R_below q62_ hb); have n3_ := Aside0.mk (below_step q1_ hb); have n4_ := Aside0.mk (hbox); have n5_ := Aside0.mk ((by rw [hg]; exact (below_size q1_) : w.heap.size ≤ gb141)); have n6_ := Aside0.mk ((by rw [hg]; exact (below_size q1_) : w.heap.size ≤ gb141)); clear HO_5; clear HO_6; clear HO_9; clear HB; have HO_5 := n0_; have HO_6 := n1_; have HO_9 := n2_; have HB := n3_; have BK141 := n4_; have GW141 := n5_; have GE141 := n6_; clear n0_ n1_ n2_ n3_ n4_ n5_ n6_; clear hb hbox hg; obtain ⟨hcz38_0, hcz38_1, hcz38_2, hcz38_3, hcz38_4⟩ := cells5_ BK141.out; obtain ⟨hfz38_0, hfz38_1, hfz38_2, hfz38_3, hfz38_4⟩ := frz5_ BK141.out))
                have n0_ : Aside0 (Kd.R k86 86 (((((w37.setCell ⟨gb141, 0, none⟩ (.int .i64 ((rd_T86 t132 x10_3).f1.f0))).setCell ⟨gb141, 1, none⟩ (.bool false)).setCell ⟨gb141, 2, none⟩ (.int .i64 ((rd_T86 t132 x10_3).f1.f2))).setCell ⟨gb141, 3, none⟩ (.int .i64 ((rd_T86 t132 x10_3).f1.f3))).setCell ⟨gb141, 4, none⟩ (.int .i64 ((rd_T86 t132 x10_3).f1.f4))) w.heap.size (fun _ => True) (.slice (some ad140) t132.length co36) t132) := ⟨q92_⟩
                have n1_ : Aside0 (Kd.R (Kd.int .i64) 3 (((((w37.setCell ⟨gb141, 0, none⟩ (.int .i64 ((rd_T86 t132 x10_3).f1.f0))).setCell ⟨gb141, 1, none⟩ (.bool false)).setCell ⟨gb141, 2, none⟩ (.int .i64 ((rd_T86 t132 x10_3).f1.f2))).setCell ⟨gb141, 3, none⟩ (.int .i64 ((rd_T86 t132 x10_3).f1.f3))).setCell ⟨gb141, 4, none⟩ (.int .i64 ((rd_T86 t132 x10_3).f1.f4))) w.heap.size (fun _ => True) v138 t133) := ⟨q93_⟩
                have n2_ : Aside0 (Kd.R k43 43 (((((w37.setCell ⟨gb141, 0, none⟩ (.int .i64 ((rd_T86 t132 x10_3).f1.f0))).setCell ⟨gb141, 1, none⟩ (.bool false)).setCell ⟨gb141, 2, none⟩ (.int .i64 ((rd_T86 t132 x10_3).f1.f2))).setCell ⟨gb141, 3, none⟩ (.int .i64 ((rd_T86 t132 x10_3).f1.f3))).setCell ⟨gb141, 4, none⟩ (.int .i64 ((rd_T86 t132 x10_3).f1.f4))) w.heap.size (fun _ => True) u9 x9_3) := ⟨q94_⟩
                have n3_ : Aside0 ((((((w37.setCell ⟨gb141, 0, none⟩ (.int .i64 ((rd_T86 t132 x10_3).f1.f0))).setCell ⟨gb141, 1, none⟩ (.bool false)).setCell ⟨gb141, 2, none⟩ (.int .i64 ((rd_T86 t132 x10_3).f1.f2))).setCell ⟨gb141, 3, none⟩ (.int .i64 ((rd_T86 t132 x10_3).f1.f3))).setCell ⟨gb141, 4, none⟩ (.int .i64 ((rd_T86 t132 x10_3).f1.f4))).heap[gb141]? = some (.cells #[.int .i64 ((rd_T86 t132 x10_3).f1.f0), .bool false, .int .i64 ((rd_T86 t132 x10_3).f1.f2), .int .i64 ((rd_T86 t132 x10_3).f1.f3), .int .i64 ((rd_T86 t132 x10_3).f1.f4)] 84 (0, 0))) := ⟨q107_⟩
                have n4_ : Aside0 (Below w.heap.size w (((((w37.setCell ⟨gb141, 0, none⟩ (.int .i64 ((rd_T86 t132 x10_3).f1.f0))).setCell ⟨gb141, 1, none⟩ (.bool false)).setCell ⟨gb141, 2, none⟩ (.int .i64 ((rd_T86 t132 x10_3).f1.f2))).setCell ⟨gb141, 3, none⟩ (.int .i64 ((rd_T86 t132 x10_3).f1.f3))).setCell ⟨gb141, 4, none⟩ (.int .i64 ((rd_T86 t132 x10_3).f1.f4)))) := ⟨q35_⟩
                (try clear HO_5)
                (try clear HO_6)
                (try clear HO_9)
                (try clear BK141)
                (try clear HB)
                generalize (((((w37.setCell ⟨gb141, 0, none⟩ (.int .i64 ((rd_T86 t132 x10_3).f1.f0))).setCell ⟨gb141, 1, none⟩ (.bool false)).setCell ⟨gb141, 2, none⟩ (.int .i64 ((rd_T86 t132 x10_3).f1.f2))).setCell ⟨gb141, 3, none⟩ (.int .i64 ((rd_T86 t132 x10_3).f1.f3))).setCell ⟨gb141, 4, none⟩ (.int .i64 ((rd_T86 t132 x10_3).f1.f4))) = w39 at n0_ n1_ n2_ n3_ n4_ ⊢
                have HO_5 := n0_
                have HO_6 := n1_
                have HO_9 := n2_
                have BK141 := n3_
                have HB := n4_
                clear n0_ n1_ n2_ n3_ n4_
                have n0_ := Aside0.mk (Kd.R_drew HO_5.out)
                have n1_ := Aside0.mk (Kd.R_drew HO_6.out)
                have n2_ := Aside0.mk (Kd.R_drew HO_9.out)
                have n3_ := Aside0.mk (blk_drew BK141.out)
                have n4_ := Aside0.mk (below_drew1 HB.out)
                clear HO_5
                clear HO_6
                clear HO_9
                clear BK141
                clear HB
                have HO_5 := n0_
                have HO_6 := n1_
                have HO_9 := n2_
                have BK141 := n3_
                have HB := n4_
                clear n0_ n1_ n2_ n3_ n4_
                obtain ⟨Ao41, co41, eo41⟩ := Kd.R_slice HO_6.out
                (first | subst eo41 | (injection eo41 with f1_ f2_ f3_; have f4_ := f1_.symm; have f5_ := f3_.symm; clear f1_ f2_ f3_; subst f4_; subst f5_))
                have p142 : 0 ≤ (x10_3 : Int) := of_decide_eq_true q6_
                have q142 : x10_3 < (t133.length : Int) := of_decide_eq_true q6_
                obtain ⟨ad142, e142, hx142_0⟩ := Kd.at_int (Kd.R_reads' HO_6.out).2.2 x10_3 p142 q142
                cases e142
                replace p142 := eq_true p142
                replace q142 := eq_true q142
                refine start_ (n := 13) (S := fun w' => w'.cell? ⟨gb141, 0, none⟩ = some (.int .i64 ((rd_T86 t132 x10_3).f1.f0)) ∧ w'.cell? ⟨gb141, 1, none⟩ = some (.bool false) ∧ w'.cell? ⟨gb141, 2, none⟩ = some (.int .i64 ((rd_T86 t132 x10_3).f1.f2)) ∧ w'.cell? ⟨gb141, 3, none⟩ = some (.int .i64 ((rd_T86 t132 x10_3).f1.f3)) ∧ w'.cell? ⟨gb141, 4, none⟩ = some (.int .i64 ((rd_T86 t132 x10_3).f1.f4)) ∧ w'.cell? (ad142.add (x10_3).toNat) = some (.int .i64 (rd t133 x10_3))) (ds := []) #[false, false, false, false, false, false, false, false, false, false, false, false, false] q9_ rfl rfl ⟨(blk_cell BK141.out 0).trans rfl, (blk_cell BK141.out 1).trans rfl, (blk_cell BK141.out 2).trans rfl, (blk_cell BK141.out 3).trans rfl, (blk_cell BK141.out 4).trans rfl, hx142_0⟩ (fun hHeld => ?_); refine with_tabW rosterref02_Tree.tab11 rosterref02_Tree.bits11 (fun HT_ HW_ => ?_)
                generalize w39.drew = w40 at HO_5 HO_6 HO_9 BK141 HB hx142_0 hHeld ⊢
                refine pure_ (i := 0) (N := some 44) (v := ?_) (a' := ?_) #[true, false, false, false, false, false, false, false, false, false, false, false, false] rfl rfl (any_of HT_.out q9_) (fun _ _ _ h => h) (Or.inl ⟨q43_, ?_⟩) ?_ ?_
                rotate_left
                ·intro w'
                 go_simp
                 with_reducible rfl
                rotate_left
                ·simp only [Act.put, List.setIfInBounds_toArray, List.set_cons_zero, List.set_cons_succ, i64_w, i32_w]
                 rfl
                refine pure_ (i := 1) (N := some 45) (v := ?_) (a' := ?_) #[true, true, false, false, false, false, false, false, false, false, false, false, false] rfl rfl (any_of HT_.out q9_) (fun _ _ _ h => h) (Or.inl ⟨q43_, ?_⟩) ?_ ?_
                rotate_left
                ·intro w'
                 go_simp
                 with_reducible rfl
                rotate_left
                ·simp only [Act.put, List.setIfInBounds_toArray, List.set_cons_zero, List.set_cons_succ, i64_w, i32_w]
                 rfl
                refine pure_ (i := 2) (N := some 46) (v := ?_) (a' := ?_) #[true, true, true, false, false, false, false, false, false, false, false, false, false] rfl rfl (any_of HT_.out q9_) (fun _ _ _ h => h) (Or.inl ⟨q43_, ?_⟩) ?_ ?_
                rotate_left
                ·intro w'
                 go_simp
                 with_reducible rfl
                rotate_left
                ·simp only [Act.put, List.setIfInBounds_toArray, List.set_cons_zero, List.set_cons_succ, i64_w, i32_w]
                 rfl
                refine pure_ (i := 4) (N := some 48) (v := ?_) (a' := ?_) #[true, true, true, false, true, false, false, false, false, false, false, false, false] rfl rfl (any_of HT_.out q9_) (fun _ _ _ h => h) (Or.inl ⟨q43_, ?_⟩) ?_ ?_
                rotate_left
                ·intro w'
                 go_simp
                 with_reducible rfl
                rotate_left
                ·simp only [Act.put, List.setIfInBounds_toArray, List.set_cons_zero, List.set_cons_succ, i64_w, i32_w]
                 rfl
                refine pure_ (i := 6) (N := some 50) (v := ?_) (a' := ?_) #[true, true, true, false, true, false, true, false, false, false, false, false, false] rfl rfl (any_of HT_.out q9_) (fun _ _ _ h => h) (Or.inl ⟨q43_, ?_⟩) ?_ ?_
                rotate_left
                ·intro w'
                 go_simp
                 with_reducible rfl
                rotate_left
                ·simp only [Act.put, List.setIfInBounds_toArray, List.set_cons_zero, List.set_cons_succ, i64_w, i32_w]
                 rfl
                refine pure_ (i := 8) (N := some 52) (v := ?_) (a' := ?_) #[true, true, true, false, true, false, true, false, true, false, false, false, false] rfl rfl (any_of HT_.out q9_) (fun _ _ _ h => h) (Or.inl ⟨q43_, ?_⟩) ?_ ?_
                rotate_left
                ·intro w'
                 go_simp
                 with_reducible rfl
                rotate_left
                ·simp only [Act.put, List.setIfInBounds_toArray, List.set_cons_zero, List.set_cons_succ, i64_w, i32_w]
                 rfl
                refine take_ (i := 3) (N := some 47) (v := ?_) (a' := ?_) #[true, true, true, true, true, false, true, false, true, false, false, false, false] rfl rfl (take_ofW HT_.out HW_.out q9_) (fun _ _ _ h => h) (Or.inl ⟨q43_, ?_⟩) hHeld ?_ ?_
                rotate_left
                ·rintro w' ⟨s0, s1, s2, s3, s4, s5⟩
                 go_simp
                 with_reducible rfl
                rotate_left
                ·simp only [Act.put, List.setIfInBounds_toArray, List.set_cons_zero, List.set_cons_succ, i64_w, i32_w]
                 rfl
                refine take_ (i := 5) (N := some 49) (v := ?_) (a' := ?_) #[true, true, true, true, true, true, true, false, true, false, false, false, false] rfl rfl (take_ofW HT_.out HW_.out q9_) (fun _ _ _ h => h) (Or.inl ⟨q43_, ?_⟩) hHeld ?_ ?_
                rotate_left
                ·rintro w' ⟨s0, s1, s2, s3, s4, s5⟩
                 go_simp
                 with_reducible rfl
                rotate_left
                ·simp only [Act.put, List.setIfInBounds_toArray, List.set_cons_zero, List.set_cons_succ, i64_w, i32_w]
                 rfl
                refine take_ (i := 7) (N := some 51) (v := ?_) (a' := ?_) #[true, true, true, true, true, true, true, true, true, false, false, false, false] rfl rfl (take_ofW HT_.out HW_.out q9_) (fun _ _ _ h => h) (Or.inl ⟨q43_, ?_⟩) hHeld ?_ ?_
                rotate_left
                ·rintro w' ⟨s0, s1, s2, s3, s4, s5⟩
                 go_simp
                 with_reducible rfl
                rotate_left
                ·simp only [Act.put, List.setIfInBounds_toArray, List.set_cons_zero, List.set_cons_succ, i64_w, i32_w]
                 rfl
                refine take_ (i := 9) (N := some 53) (v := ?_) (a' := ?_) #[true, true, true, true, true, true, true, true, true, true, false, false, false] rfl rfl (take_ofW HT_.out HW_.out q9_) (fun _ _ _ h => h) (Or.inl ⟨q43_, ?_⟩) hHeld ?_ ?_
                rotate_left
                ·rintro w' ⟨s0, s1, s2, s3, s4, s5⟩
                 go_simp
                 with_reducible rfl
                rotate_left
                ·simp only [Act.put, List.setIfInBounds_toArray, List.set_cons_zero, List.set_cons_succ, i64_w, i32_w]
                 rfl
                refine pure_ (i := 10) (N := some 54) (v := ?_) (a' := ?_) #[true, true, true, true, true, true, true, true, true, true, true, false, false] rfl rfl (any_of HT_.out q9_) (fun _ _ _ h => h) (Or.inl ⟨q43_, ?_⟩) ?_ ?_
                rotate_left
                ·intro w'
                 go_simp
                 with_reducible rfl
                rotate_left
                ·simp only [Act.put, List.setIfInBounds_toArray, List.set_cons_zero, List.set_cons_succ, i64_w, i32_w]
                 rfl
                refine one_ (i := 11) (N := some 12) #[true, true, true, true, true, true, true, true, true, true, true, true, false] rfl rfl (one_of HT_.out q9_) q19_ (fun K hK => ?_)
                refine box_step ?hg (N := 12) ?hd (cs := #[.int .i64 0, .int .i64 0, .bool false, .int .i64 0, .string (⟨#[]⟩ : ByteArray)]) (t := 43) ?hr ?_; (case hd => rfl); (case hg => rfl); (case hr => first | (go_simp; done) | (go_simp; rfl))
                intro gb143 hg w42 hbox hb
                have HS5_ := (hb.cell (World.block_lt_of_cell? _ _ (hHeld.2.2.2.2.2))).trans (hHeld.2.2.2.2.2)
                have n0_ := Aside0.mk (Kd.R_below q33_ hb)
                have n1_ := Aside0.mk (Kd.R_below q17_ hb)
                have n2_ := Aside0.mk (Kd.R_below (Kd.R_elderB q62_ gb143 (Nat.le_of_eq hg.symm)) hb)
                have n3_ := Aside0.mk (blk_below (g := gb141) (o := .cells #[.int .i64 ((rd_T86 t132 x10_3).f1.f0), .bool false, .int .i64 ((rd_T86 t132 x10_3).f1.f2), .int .i64 ((rd_T86 t132 x10_3).f1.f3), .int .i64 ((rd_T86 t132 x10_3).f1.f4)] 84 (0, 0)) q45_ hb)
                have n4_ := Aside0.mk (below_step q35_ hb)
                have n5_ := Aside0.mk (hbox)
                have n6_ := Aside0.mk ((by rw [hg]; exact (below_size q35_) : w.heap.size ≤ gb143))
                have n7_ := Aside0.mk ((by rw [hg]; exact (below_size q35_) : w.heap.size ≤ gb143))
                have n8_ := Aside0.mk ((by rw [hg]; exact Nat.ne_of_lt (blk_lt (g := gb141) (o := .cells #[.int .i64 ((rd_T86 t132 x10_3).f1.f0), .bool false, .int .i64 ((rd_T86 t132 x10_3).f1.f2), .int .i64 ((rd_T86 t132 x10_3).f1.f3), .int .i64 ((rd_T86 t132 x10_3).f1.f4)] 84 (0, 0)) q45_) : gb141 ≠ gb143))
                have n9_ := Aside0.mk ((by rw [hg]; exact Nat.ne_of_gt (blk_lt (g := gb141) (o := .cells #[.int .i64 ((rd_T86 t132 x10_3).f1.f0), .bool false, .int .i64 ((rd_T86 t132 x10_3).f1.f2), .int .i64 ((rd_T86 t132 x10_3).f1.f3), .int .i64 ((rd_T86 t132 x10_3).f1.f4)] 84 (0, 0)) q45_) : gb143 ≠ gb141))
                clear HO_5
                clear HO_6
                clear HO_9
                clear BK141
                clear HB
                have HO_5 := n0_
                have HO_6 := n1_
                have HO_9 := n2_
                have BK141 := n3_
                have HB := n4_
                have BK143 := n5_
                have GW143 := n6_
                have GE143 := n7_
                have NB141_143 := n8_
                have NB143_141 := n9_
                clear n0_ n1_ n2_ n3_ n4_ n5_ n6_ n7_ n8_ n9_
                clear hb hbox hg
                refine hK.out _ _ ⟨(blk_cell BK141.out 0).trans rfl, (blk_cell BK141.out 1).trans rfl, (blk_cell BK141.out 2).trans rfl, (blk_cell BK141.out 3).trans rfl, (blk_cell BK141.out 4).trans rfl, HS5_⟩ (fun hHeld => ?_)
                clear hK K
                refine norm_ (a' := ?_) ?_ ?_
                rotate_left
                ·show Act.put _ (some 12) _ = _
                 simp only [Act.put, List.setIfInBounds_toArray, List.set_cons_zero, List.set_cons_succ, i64_w, i32_w]
                 rfl
                refine one_ (i := 12) (N := none) #[true, true, true, true, true, true, true, true, true, true, true, true, true] rfl rfl (one_of HT_.out q9_) q19_ (fun K hK => ?_)
                have hs43 : w42.cell? ⟨gb143, 0, none⟩ = some (.int .i64 0) := (blk_cell BK143.out 0).trans rfl
                have hfs43 := blk_frozen BK143.out 0
                have hns43_0 := NB141_143.out
                have hms43_0 := NB143_141.out
                have hs44 : w42.cell? ⟨gb143, 1, none⟩ = some (.int .i64 0) := (blk_cell BK143.out 1).trans rfl
                have hfs44 := blk_frozen BK143.out 1
                have hns44_0 := NB141_143.out
                have hms44_0 := NB143_141.out
                have hs45 : w42.cell? ⟨gb143, 2, none⟩ = some (.bool false) := (blk_cell BK143.out 2).trans rfl
                have hfs45 := blk_frozen BK143.out 2
                have hns45_0 := NB141_143.out
                have hms45_0 := NB143_141.out
                have hs46 : w42.cell? ⟨gb143, 3, none⟩ = some (.int .i64 0) := (blk_cell BK143.out 3).trans rfl
                have hfs46 := blk_frozen BK143.out 3
                have hns46_0 := NB141_143.out
                have hms46_0 := NB143_141.out
                have hs47 : w42.cell? ⟨gb143, 4, none⟩ = some (.string (⟨#[]⟩ : ByteArray)) := (blk_cell BK143.out 4).trans rfl
                have hfs47 := blk_frozen BK143.out 4
                have hns47_0 := NB141_143.out
                have hms47_0 := NB143_141.out
                refine skip_ (w1 := ?_) q43_ rfl ?_ ?_
                rotate_left
                ·go_simp
                 rfl
                refine hK.out _ _ ⟨((cell_far (p := ⟨gb143, _, none⟩) NB141_143.out _).trans (((cell_far (p := ⟨gb143, _, none⟩) NB141_143.out _).trans (((cell_far (p := ⟨gb143, _, none⟩) NB141_143.out _).trans (((cell_far (p := ⟨gb143, _, none⟩) NB141_143.out _).trans (((cell_far (p := ⟨gb143, _, none⟩) NB141_143.out _).trans (hHeld.1)))))))))), ((cell_far (p := ⟨gb143, _, none⟩) NB141_143.out _).trans (((cell_far (p := ⟨gb143, _, none⟩) NB141_143.out _).trans (((cell_far (p := ⟨gb143, _, none⟩) NB141_143.out _).trans (((cell_far (p := ⟨gb143, _, none⟩) NB141_143.out _).trans (((cell_far (p := ⟨gb143, _, none⟩) NB141_143.out _).trans (hHeld.2.1)))))))))), ((cell_far (p := ⟨gb143, _, none⟩) NB141_143.out _).trans (((cell_far (p := ⟨gb143, _, none⟩) NB141_143.out _).trans (((cell_far (p := ⟨gb143, _, none⟩) NB141_143.out _).trans (((cell_far (p := ⟨gb143, _, none⟩) NB141_143.out _).trans (((cell_far (p := ⟨gb143, _, none⟩) NB141_143.out _).trans (hHeld.2.2.1)))))))))), ((cell_far (p := ⟨gb143, _, none⟩) NB141_143.out _).trans (((cell_far (p := ⟨gb143, _, none⟩) NB141_143.out _).trans (((cell_far (p := ⟨gb143, _, none⟩) NB141_143.out _).trans (((cell_far (p := ⟨gb143, _, none⟩) NB141_143.out _).trans (((cell_far (p := ⟨gb143, _, none⟩) NB141_143.out _).trans (hHeld.2.2.2.1)))))))))), ((cell_far (p := ⟨gb143, _, none⟩) NB141_143.out _).trans (((cell_far (p := ⟨gb143, _, none⟩) NB141_143.out _).trans (((cell_far (p := ⟨gb143, _, none⟩) NB141_143.out _).trans (((cell_far (p := ⟨gb143, _, none⟩) NB141_143.out _).trans (((cell_far (p := ⟨gb143, _, none⟩) NB141_143.out _).trans (hHeld.2.2.2.2.1)))))))))), ((cell_far (p := ⟨gb143, _, none⟩) q85_ _).trans (((cell_far (p := ⟨gb143, _, none⟩) q85_ _).trans (((cell_far (p := ⟨gb143, _, none⟩) q85_ _).trans (((cell_far (p := ⟨gb143, _, none⟩) q85_ _).trans (((cell_far (p := ⟨gb143, _, none⟩) q85_ _).trans (hHeld.2.2.2.2.2))))))))))⟩ (fun hHeld => ?_)
                clear hK K
                refine done_ (done_of HT_.out q9_) ?_
                have hnb48 := NB141_143.out
                have hnc48 := NB143_141.out
                obtain ⟨hcz49_0, hcz49_1, hcz49_2, hcz49_3, hcz49_4⟩ := cells5_ BK141.out
                obtain ⟨hfz49_0, hfz49_1, hfz49_2, hfz49_3, hfz49_4⟩ := frz5_ BK141.out
                try go_wp2
                have n0_ : Aside0 (Kd.R k86 86 (((((w42.setCell ⟨gb143, 0, none⟩ (.int .i64 (rd t133 x10_3))).setCell ⟨gb143, 1, none⟩ (.int .i64 ((rd_T86 t132 x10_3).f1.f0))).setCell ⟨gb143, 2, none⟩ (.bool false)).setCell ⟨gb143, 3, none⟩ (.int .i64 ((rd_T86 t132 x10_3).f1.f2))).setCell ⟨gb143, 4, none⟩ (.string (⟨#[]⟩ : ByteArray))) w.heap.size (fun _ => True) (.slice (some ad140) t132.length co36) t132) := ⟨by (with_reducible repeat (first | apply Kd.R_alloc | apply Kd.R_drewN | apply Kd.R_drew)); exact Kd.R_mono (Rfar5_ (g := gb143) (Kd.R_types HO_5.out BK143.out q19_) (fun _ hk => hk.2)) (fun _ hk => trivial)⟩
                have n1_ : Aside0 (Kd.R (Kd.int .i64) 3 (((((w42.setCell ⟨gb143, 0, none⟩ (.int .i64 (rd t133 x10_3))).setCell ⟨gb143, 1, none⟩ (.int .i64 ((rd_T86 t132 x10_3).f1.f0))).setCell ⟨gb143, 2, none⟩ (.bool false)).setCell ⟨gb143, 3, none⟩ (.int .i64 ((rd_T86 t132 x10_3).f1.f2))).setCell ⟨gb143, 4, none⟩ (.string (⟨#[]⟩ : ByteArray))) w.heap.size (fun _ => True) (.slice (some ad142) t133.length co41) t133) := ⟨by (with_reducible repeat (first | apply Kd.R_alloc | apply Kd.R_drewN | apply Kd.R_drew)); exact Kd.R_mono (Rfar5_ (g := gb143) (Kd.R_types HO_6.out BK143.out q19_) (fun _ hk => hk.2)) (fun _ hk => trivial)⟩
                have n2_ : Aside0 (Kd.R k43 43 (((((w42.setCell ⟨gb143, 0, none⟩ (.int .i64 (rd t133 x10_3))).setCell ⟨gb143, 1, none⟩ (.int .i64 ((rd_T86 t132 x10_3).f1.f0))).setCell ⟨gb143, 2, none⟩ (.bool false)).setCell ⟨gb143, 3, none⟩ (.int .i64 ((rd_T86 t132 x10_3).f1.f2))).setCell ⟨gb143, 4, none⟩ (.string (⟨#[]⟩ : ByteArray))) w.heap.size (fun k_ => k_ ≠ gb143) u9 x9_3) := ⟨q64_⟩
                have n3_ : Aside0 ((((((w42.setCell ⟨gb143, 0, none⟩ (.int .i64 (rd t133 x10_3))).setCell ⟨gb143, 1, none⟩ (.int .i64 ((rd_T86 t132 x10_3).f1.f0))).setCell ⟨gb143, 2, none⟩ (.bool false)).setCell ⟨gb143, 3, none⟩ (.int .i64 ((rd_T86 t132 x10_3).f1.f2))).setCell ⟨gb143, 4, none⟩ (.string (⟨#[]⟩ : ByteArray))).heap[gb141]? = some (.cells #[.int .i64 ((rd_T86 t132 x10_3).f1.f0), .bool false, .int .i64 ((rd_T86 t132 x10_3).f1.f2), .int .i64 ((rd_T86 t132 x10_3).f1.f3), .int .i64 ((rd_T86 t132 x10_3).f1.f4)] 84 (0, 0))) := ⟨q29_⟩
                have n4_ : Aside0 ((((((w42.setCell ⟨gb143, 0, none⟩ (.int .i64 (rd t133 x10_3))).setCell ⟨gb143, 1, none⟩ (.int .i64 ((rd_T86 t132 x10_3).f1.f0))).setCell ⟨gb143, 2, none⟩ (.bool false)).setCell ⟨gb143, 3, none⟩ (.int .i64 ((rd_T86 t132 x10_3).f1.f2))).setCell ⟨gb143, 4, none⟩ (.string (⟨#[]⟩ : ByteArray))).heap[gb143]? = some (.cells #[.int .i64 (rd t133 x10_3), .int .i64 ((rd_T86 t132 x10_3).f1.f0), .bool false, .int .i64 ((rd_T86 t132 x10_3).f1.f2), .string (⟨#[]⟩ : ByteArray)] 43 (0, 0))) := ⟨q98_⟩
                have n5_ : Aside0 (Below w.heap.size w (((((w42.setCell ⟨gb143, 0, none⟩ (.int .i64 (rd t133 x10_3))).setCell ⟨gb143, 1, none⟩ (.int .i64 ((rd_T86 t132 x10_3).f1.f0))).setCell ⟨gb143, 2, none⟩ (.bool false)).setCell ⟨gb143, 3, none⟩ (.int .i64 ((rd_T86 t132 x10_3).f1.f2))).setCell ⟨gb143, 4, none⟩ (.string (⟨#[]⟩ : ByteArray)))) := ⟨q32_⟩
                (try clear HO_5)
                (try clear HO_6)
                (try clear HO_9)
                (try clear BK141)
                (try clear BK143)
                (try clear HB)
                generalize (((((w42.setCell ⟨gb143, 0, none⟩ (.int .i64 (rd t133 x10_3))).setCell ⟨gb143, 1, none⟩ (.int .i64 ((rd_T86 t132 x10_3).f1.f0))).setCell ⟨gb143, 2, none⟩ (.bool false)).setCell ⟨gb143, 3, none⟩ (.int .i64 ((rd_T86 t132 x10_3).f1.f2))).setCell ⟨gb143, 4, none⟩ (.string (⟨#[]⟩ : ByteArray))) = w50 at n0_ n1_ n2_ n3_ n4_ n5_ ⊢
                have HO_5 := n0_
                have HO_6 := n1_
                have HO_9 := n2_
                have BK141 := n3_
                have BK143 := n4_
                have HB := n5_
                clear n0_ n1_ n2_ n3_ n4_ n5_
                have n0_ := Aside0.mk (Kd.R_drew HO_5.out)
                have n1_ := Aside0.mk (Kd.R_drew HO_6.out)
                have n2_ := Aside0.mk (Kd.R_drew HO_9.out)
                have n3_ := Aside0.mk (blk_drew BK141.out)
                have n4_ := Aside0.mk (blk_drew BK143.out)
                have n5_ := Aside0.mk (below_drew1 HB.out)
                clear HO_5
                clear HO_6
                clear HO_9
                clear BK141
                clear BK143
                clear HB
                have HO_5 := n0_
                have HO_6 := n1_
                have HO_9 := n2_
                have BK141 := n3_
                have BK143 := n4_
                have HB := n5_
                clear n0_ n1_ n2_ n3_ n4_ n5_
                have p147 : 0 ≤ (x10_3 : Int) := of_decide_eq_true q6_
                have q147 : x10_3 < (t132.length : Int) := of_decide_eq_true q6_
                obtain ⟨ad147, e147, hx147_0, hx147_1, hx147_2, hx147_3, hx147_4, hx147_5⟩ := at_T86 (Kd.R_reads' HO_5.out).2.2 x10_3 p147 q147
                (try rw [← Nbq12.out] at hx147_2)
                obtain rfl : ad140 = ad147 := (by injection e147)
                replace p147 := eq_true p147
                replace q147 := eq_true q147
                refine start_ (n := 9) (S := fun w' => w'.cell? ⟨gb141, 0, none⟩ = some (.int .i64 ((rd_T86 t132 x10_3).f1.f0)) ∧ w'.cell? ⟨gb141, 1, none⟩ = some (.bool false) ∧ w'.cell? ⟨gb141, 2, none⟩ = some (.int .i64 ((rd_T86 t132 x10_3).f1.f2)) ∧ w'.cell? ⟨gb141, 3, none⟩ = some (.int .i64 ((rd_T86 t132 x10_3).f1.f3)) ∧ w'.cell? ⟨gb141, 4, none⟩ = some (.int .i64 ((rd_T86 t132 x10_3).f1.f4)) ∧ w'.cell? (ad140.add ((x10_3).toNat * 6)) = some (.int .i64 ((rd_T86 t132 x10_3).f0)) ∧ w'.cell? ⟨(ad140.add ((x10_3).toNat * 6)).block, (ad140.add ((x10_3).toNat * 6)).off + 1, none⟩ = some (.int .i64 ((rd_T86 t132 x10_3).f1.f0)) ∧ w'.cell? ⟨(ad140.add ((x10_3).toNat * 6)).block, (ad140.add ((x10_3).toNat * 6)).off + 2, none⟩ = some (.bool (false)) ∧ w'.cell? ⟨(ad140.add ((x10_3).toNat * 6)).block, (ad140.add ((x10_3).toNat * 6)).off + 3, none⟩ = some (.int .i64 ((rd_T86 t132 x10_3).f1.f2)) ∧ w'.cell? ⟨(ad140.add ((x10_3).toNat * 6)).block, (ad140.add ((x10_3).toNat * 6)).off + 4, none⟩ = some (.int .i64 ((rd_T86 t132 x10_3).f1.f3)) ∧ w'.cell? ⟨(ad140.add ((x10_3).toNat * 6)).block, (ad140.add ((x10_3).toNat * 6)).off + 5, none⟩ = some (.int .i64 ((rd_T86 t132 x10_3).f1.f4))) (ds := []) #[false, false, false, false, false, false, false, false, false] q9_ rfl rfl ⟨(blk_cell BK141.out 0).trans rfl, (blk_cell BK141.out 1).trans rfl, (blk_cell BK141.out 2).trans rfl, (blk_cell BK141.out 3).trans rfl, (blk_cell BK141.out 4).trans rfl, hx147_0, hx147_1, hx147_2, hx147_3, hx147_4, hx147_5⟩ (fun hHeld => ?_); refine with_tabW rosterref02_Tree.tab13 rosterref02_Tree.bits13 (fun HT_ HW_ => ?_)
                generalize w50.drew = w51 at HO_5 HO_6 HO_9 BK141 BK143 HB hx147_0 hx147_1 hx147_2 hx147_3 hx147_4 hx147_5 hHeld ⊢
                refine pure_ (i := 0) (N := some 58) (v := ?_) (a' := ?_) #[true, false, false, false, false, false, false, false, false] rfl rfl (any_of HT_.out q9_) (fun _ _ _ h => h) (Or.inl ⟨q43_, ?_⟩) ?_ ?_
                rotate_left
                ·intro w'
                 go_simp
                 with_reducible rfl
                rotate_left
                ·simp only [Act.put, List.setIfInBounds_toArray, List.set_cons_zero, List.set_cons_succ, i64_w, i32_w]
                 rfl
                refine pure_ (i := 1) (N := some 59) (v := ?_) (a' := ?_) #[true, true, false, false, false, false, false, false, false] rfl rfl (any_of HT_.out q9_) (fun _ _ _ h => h) (Or.inl ⟨q43_, ?_⟩) ?_ ?_
                rotate_left
                ·intro w'
                 go_simp
                 with_reducible rfl
                rotate_left
                ·simp only [Act.put, List.setIfInBounds_toArray, List.set_cons_zero, List.set_cons_succ, i64_w, i32_w]
                 rfl
                refine pure_ (i := 2) (N := some 60) (v := ?_) (a' := ?_) #[true, true, true, false, false, false, false, false, false] rfl rfl (any_of HT_.out q9_) (fun _ _ _ h => h) (Or.inl ⟨q43_, ?_⟩) ?_ ?_
                rotate_left
                ·intro w'
                 go_simp
                 with_reducible rfl
                rotate_left
                ·simp only [Act.put, List.setIfInBounds_toArray, List.set_cons_zero, List.set_cons_succ, i64_w, i32_w]
                 rfl
                refine pure_ (i := 3) (N := some 61) (v := ?_) (a' := ?_) #[true, true, true, true, false, false, false, false, false] rfl rfl (any_of HT_.out q9_) (fun _ _ _ h => h) (Or.inl ⟨q43_, ?_⟩) ?_ ?_
                rotate_left
                ·intro w'
                 go_simp
                 with_reducible rfl
                rotate_left
                ·simp only [Act.put, List.setIfInBounds_toArray, List.set_cons_zero, List.set_cons_succ, i64_w, i32_w]
                 rfl
                refine pure_ (i := 5) (N := some 63) (v := ?_) (a' := ?_) #[true, true, true, true, false, true, false, false, false] rfl rfl (any_of HT_.out q9_) (fun _ _ _ h => h) (Or.inl ⟨q43_, ?_⟩) ?_ ?_
                rotate_left
                ·intro w'
                 go_simp
                 with_reducible rfl
                rotate_left
                ·simp only [Act.put, List.setIfInBounds_toArray, List.set_cons_zero, List.set_cons_succ, i64_w, i32_w]
                 rfl
                refine take_ (i := 4) (N := some 62) (v := ?_) (a' := ?_) #[true, true, true, true, true, true, false, false, false] rfl rfl (take_ofW HT_.out HW_.out q9_) (fun _ _ _ h => h) (Or.inl ⟨q43_, ?_⟩) hHeld ?_ ?_
                rotate_left
                ·rintro w' ⟨s0, s1, s2, s3, s4, s5, s6, s7, s8, s9, s10⟩
                 go_simp
                 with_reducible rfl
                rotate_left
                ·simp only [Act.put, List.setIfInBounds_toArray, List.set_cons_zero, List.set_cons_succ, i64_w, i32_w]
                 rfl
                refine take_ (i := 6) (N := some 64) (v := ?_) (a' := ?_) #[true, true, true, true, true, true, true, false, false] rfl rfl (take_ofW HT_.out HW_.out q9_) (fun _ _ _ h => h) (Or.inl ⟨q43_, ?_⟩) hHeld ?_ ?_
                rotate_left
                ·rintro w' ⟨s0, s1, s2, s3, s4, s5, s6, s7, s8, s9, s10⟩
                 go_simp
                 with_reducible rfl
                rotate_left
                ·simp only [Act.put, List.setIfInBounds_toArray, List.set_cons_zero, List.set_cons_succ, i64_w, i32_w]
                 rfl
                refine pure_ (i := 7) (N := some 65) (v := ?_) (a' := ?_) #[true, true, true, true, true, true, true, true, false] rfl rfl (any_of HT_.out q9_) (fun _ _ _ h => h) (Or.inl ⟨q43_, ?_⟩) ?_ ?_
                rotate_left
                ·intro w'
                 go_simp
                 with_reducible rfl
                rotate_left
                ·simp only [Act.put, List.setIfInBounds_toArray, List.set_cons_zero, List.set_cons_succ, i64_w, i32_w]
                 rfl
                refine pure_ (i := 8) (N := some 13) (v := ?_) (a' := ?_) #[true, true, true, true, true, true, true, true, true] rfl rfl (any_of HT_.out q9_) (fun _ _ _ h => h) (Or.inl ⟨q43_, ?_⟩) ?_ ?_
                rotate_left
                ·intro w'
                 go_simp
                 with_reducible rfl
                rotate_left
                ·simp only [Act.put, List.setIfInBounds_toArray, List.set_cons_zero, List.set_cons_succ, i64_w, i32_w]
                 rfl
                refine done_ (done_of HT_.out q9_) ?_
                obtain ⟨hcz52_0, hcz52_1, hcz52_2, hcz52_3, hcz52_4⟩ := cells5_ BK141.out
                obtain ⟨hfz52_0, hfz52_1, hfz52_2, hfz52_3, hfz52_4⟩ := frz5_ BK141.out
                obtain ⟨hcz53_0, hcz53_1, hcz53_2, hcz53_3, hcz53_4⟩ := cells5_ BK143.out
                obtain ⟨hfz53_0, hfz53_1, hfz53_2, hfz53_3, hfz53_4⟩ := frz5_ BK143.out
                try go_wp2_with (first | ((with_reducible refine gate_builtin (b := .append) (xs := #[.tmp 74, .tmp 76]) rfl ?_); (try (refine gate_guard q43_ ?_; dsimp only)); at_builtin; refine Kd.R_append k43 (w0 := w) w.heap.size rfl (.tmp 74) (.tmp 76) 45 43 (.agg #[(.int .i64 0), (.int .i64 0), (.bool false), (.int .i64 0), (.string ⟨#[]⟩)]) 48 rfl Tryd.underlying45 info43 rfl q19_ q2_ u9 x9_3 (⟨rd t133 x10_3, (rd_T86 t132 x10_3).f1.f0, false, (rd_T86 t132 x10_3).f1.f2, a0.extract ((ji31) : Int).toNat ((wrap64 ((ji31) + ((rd_T86 t132 x10_3).f1.f3))) : Int).toNat⟩ : S43) [.int .i64 (rd t133 x10_3), .int .i64 ((rd_T86 t132 x10_3).f1.f0), .bool false, .int .i64 ((rd_T86 t132 x10_3).f1.f2), .string (a0.extract ((ji31) : Int).toNat ((wrap64 ((ji31) + ((rd_T86 t132 x10_3).f1.f3))) : Int).toNat)] (fun k_ => k_ ≠ gb143) (fun _ => False) rfl q81_ ?aP (fun _ hk => hk.elim) ?aF ?aO ?aB ?aS ?aL ?_; (case aP => exact k43_mkM _ _ _ (⟨rd t133 x10_3, (rd_T86 t132 x10_3).f1.f0, false, (rd_T86 t132 x10_3).f1.f2, a0.extract ((ji31) : Int).toNat ((wrap64 ((ji31) + ((rd_T86 t132 x10_3).f1.f3))) : Int).toNat⟩ : S43)); (case aB => exact q32_); (case aF => exact (fun k_ hk => Kd.freshB (g := gb143) (o := .cells #[.int .i64 (rd t133 x10_3), .int .i64 ((rd_T86 t132 x10_3).f1.f0), .bool false, .int .i64 ((rd_T86 t132 x10_3).f1.f2), .string (a0.extract ((ji31) : Int).toNat ((wrap64 ((ji31) + ((rd_T86 t132 x10_3).f1.f3))) : Int).toNat)] 43 (0, 0)) q48_ k_ hk)); (case aO => exact (by (with_reducible repeat (first | apply Kd.R_alloc | apply Kd.R_drewN | apply Kd.R_drew)); exact Kd.R_mono (Kd.R_far (p := ⟨gb143, 4, none⟩) (Kd.R_mono HO_9.out (fun k_ hk => (⟨hk, hk⟩ : _ ∧ k_ ≠ gb143))) (fun _ hk => hk.2) (.string (a0.extract ((ji31) : Int).toNat ((wrap64 ((ji31) + ((rd_T86 t132 x10_3).f1.f3))) : Int).toNat))) (fun _ hk => hk.1))); (case aS => exact (below_size q32_)); (case aL => have := LMc35.out; omega); intro v149 w54 ho hb hg hat; rw [← Ny148.out] at ho; have n0_ := Aside0.mk (Kd.R_over' (by (with_reducible repeat (first | apply Kd.R_alloc | apply Kd.R_drewN | apply Kd.R_drew)); exact (Kd.R_mono (Kd.R_far (p := ⟨gb143, 4, none⟩) (Kd.R_types HO_5.out BK143.out q19_) (fun _ hk => hk.2) (.string (a0.extract ((ji31) : Int).toNat ((wrap64 ((ji31) + ((rd_T86 t132 x10_3).f1.f3))) : Int).toNat))) (fun _ h_ => h_.1))) (Kd.R_typed q51_) q19_ hg); have n1_ := Aside0.mk (Kd.R_over' (by (with_reducible repeat (first | apply Kd.R_alloc | apply Kd.R_drewN | apply Kd.R_drew)); exact (Kd.R_mono (Kd.R_far (p := ⟨gb143, 4, none⟩) (Kd.R_types HO_6.out BK143.out q19_) (fun _ hk => hk.2) (.string (a0.extract ((ji31) : Int).toNat ((wrap64 ((ji31) + ((rd_T86 t132 x10_3).f1.f3))) : Int).toNat))) (fun _ h_ => h_.1))) (Kd.R_typed q51_) q19_ hg); have n2_ := Aside0.mk (blk_grown (g := gb141) (o := .cells #[.int .i64 ((rd_T86 t132 x10_3).f1.f0), .bool false, .int .i64 ((rd_T86 t132 x10_3).f1.f2), .int .i64 ((rd_T86 t132 x10_3).f1.f3), .int .i64 ((rd_T86 t132 x10_3).f1.f4)] 84 (0, 0)) (by (with_reducible repeat (first | refine blk_drewN ?_ _ | refine blk_drew ?_ | refine blk_alloc ?_ _)); refine blk_far ?_ NB141_143.out _; (with_reducible repeat (first | refine blk_drewN ?_ _ | refine blk_drew ?_ | refine blk_alloc ?_ _)); exact BK141.out) hg (Kd.R_ne HO_9.out BK141.out q19_)); have n3_ := Aside0.mk (blk_grown (g := gb143) (o := .cells #[.int .i64 (rd t133 x10_3), .int .i64 ((rd_T86 t132 x10_3).f1.f0), .bool false, .int .i64 ((rd_T86 t132 x10_3).f1.f2), .string (a0.extract ((ji31) : Int).toNat ((wrap64 ((ji31) + ((rd_T86 t132 x10_3).f1.f3))) : Int).toNat)] 43 (0, 0)) q48_ hg (Kd.R_away HO_9.out (fun _ hk => hk))); have n4_ := Aside0.mk (hb); have n5_ := Aside0.mk (ho); clear HO_5; clear HO_6; clear BK141; clear BK143; clear HB; clear HO_9; have HO_5 := n0_; have HO_6 := n1_; have BK141 := n2_; have BK143 := n3_; have HB := n4_; have HO150 := n5_; clear n0_ n1_ n2_ n3_ n4_ n5_; clear ho hb hg hat))
                go_roundg k3
                case measure => have := HJ2.out; have := HJ5.out; have := HK3.out; omega
                case rel => (try rw [← Nbq12.out]); exact ⟨(y148), (wrap64 (x10_3 + 1)), q3_, H', ⟨by have := HJ2.out; have := HJ5.out; have := HK3.out; omega⟩, ⟨q33_⟩, ⟨q17_⟩, ⟨by (with_reducible repeat (first | apply Kd.R_alloc | apply Kd.R_drewN | apply Kd.R_drew)); exact Kd.R_mono HO150.out (fun _ hk => trivial)⟩, ⟨q32_⟩⟩
               ·rw [if_neg c35] at H
                exact absurd H q28_
              ·rw [if_neg c34] at H
               exact absurd H q28_
             ·rw [if_neg c33] at H
              exact absurd H q28_
            ·rw [if_neg c32] at H
             exact absurd H q28_
          ·rw [if_neg c11] at H
           exact absurd H q28_
         ·rw [if_neg c10] at H
          exact absurd H q28_
        ·rw [if_neg c9] at H
         have c9b0 : decide (x10_3 < (t132.length : Int)) = false := decide_eq_false c9
         clear c9
         simp only [Option.some.injEq, Prod.mk.injEq] at H
         obtain ⟨rfl, rfl, rfl⟩ := H
         obtain ⟨Ao55, co55, eo55⟩ := Kd.R_slice HO_5.out
         subst eo55
         go_wp2
         go_ret3
         exact ⟨_, q4_, q62_, q1_⟩
     ·rw [if_neg c8] at H
      have c8b0 : (x7_5 == 0) = false := beq_eq_false_iff_ne.mpr c8
      have c8b1 : (x7_5 != 0) = true := bne_iff_ne.mpr c8
      simp only [Option.some.injEq, Prod.mk.injEq] at H
      obtain ⟨rfl, rfl, rfl⟩ := H
      go_wp2
      go_ret3
      exact ⟨_, q4_, q27_, q1_⟩
end Go.Proofs.YtogjljpncdmlkaaDoor.GR
end
