/- Texts of this claim in one: GVx6 -/
import Derived.Test.YtogjljpncdmlkaaDoorB3
import Derived.Test.YtogjljpncdmlkaaDoorB12
import Derived.Test.YtogjljpncdmlkaaDoorB20
import Derived.Test.YtogjljpncdmlkaaDoorB21
section
namespace Go.Proofs.YtogjljpncdmlkaaDoor.GV
open Go.RowKit Go.Proofs.YtogjljpncdmlkaaDoorW.PrintWords Go.Proofs.YtogjljpncdmlkaaDoorW.PrintLast Go.Proofs.YtogjljpncdmlkaaDoorW.PrintMore
attribute [local go_sem] max2_int min2_int max_two min_two max_three min_three max_four min_four   -- for this text's walks alone
set_option linter.unusedVariables false
set_option linter.unusedSimpArgs false
mutual
def rosterref22_DecodeKeys.j0 : Nat → List (S43) → Bool → Option ((List (S25)) × Int)
 | 0, _, _ => none
 | k + 1, x4, x24 => if x24 = true then (some (([] : List (S25)), 224)) else (rosterref22_DecodeKeys.l0 k x4 ([] : List (S25)) 1)
def rosterref22_DecodeKeys.l0 : Nat → List (S43) → List (S25) → Int → Option ((List (S25)) × Int)
 | 0, _, _, _ => none
 | k + 1, x4, x7, x8 => if x8 < (x4.length : Int) then ((rosterref22_is.f x4 x8 2 0 16 true).bind fun t228 => (if t228 = true then ((rosterref22_is.f x4 (wrap64 (x8 + 1)) 3 0 4 false).bind fun t229 => (rosterref22_DecodeKeys.j2 k x4 x7 x8 (!t229))) else (rosterref22_DecodeKeys.j2 k x4 x7 x8 true))) else (some (x7, 0))
def rosterref22_DecodeKeys.j2 : Nat → List (S43) → List (S25) → Int → Bool → Option ((List (S25)) × Int)
 | 0, _, _, _, _ => none
 | k + 1, x4, x7, x8, x39 => if x39 = true then (some (([] : List (S25)), 224)) else (if 0 ≤ (wrap64 (x8 + 1)) then (if (wrap64 (x8 + 1)) < (x4.length : Int) then ((rosterref22_is.f x4 (wrap64 (x8 + 2)) 3 2 0 false).bind fun t232 => (if t232 = true then (if 0 ≤ (wrap64 (x8 + 2)) then (if (wrap64 (x8 + 2)) < (x4.length : Int) then (if ((rd_T43 x4 (wrap64 (x8 + 2))).f4).toList = ([] : List UInt8) then (some (([] : List (S25)), 224)) else (rosterref22_DecodeKeys.j3 k x4 x7 (wrap64 ((wrap64 (x8 + 2)) + 1)) ((rd_T43 x4 (wrap64 (x8 + 1))).f4) ((rd_T43 x4 (wrap64 (x8 + 2))).f4) false)) else (none)) else (none)) else (rosterref22_DecodeKeys.j3 k x4 x7 (wrap64 (x8 + 2)) ((rd_T43 x4 (wrap64 (x8 + 1))).f4) (⟨#[]⟩ : ByteArray) false))) else (none)) else (none))
def rosterref22_DecodeKeys.j3 : Nat → List (S43) → List (S25) → Int → ByteArray → ByteArray → Bool → Option ((List (S25)) × Int)
 | 0, _, _, _, _, _, _ => none
 | k + 1, x4, x7, x8, x232000, x232001, x232002 => (rosterref22_is.f x4 x8 3 2 1 false).bind fun t234 => (if t234 = true then (if 0 ≤ x8 then (if x8 < (x4.length : Int) then ((rosterref02_Bool.f ((rd_T43 x4 x8).f4)).bind fun bt236 => (if bt236.2 = 0 then (rosterref22_DecodeKeys.j4 k x4 x7 (wrap64 (x8 + 1)) x232000 x232001 bt236.1) else (some (([] : List (S25)), 224)))) else (none)) else (none)) else (rosterref22_DecodeKeys.j4 k x4 x7 x8 x232000 x232001 x232002))
def rosterref22_DecodeKeys.j4 : Nat → List (S43) → List (S25) → Int → ByteArray → ByteArray → Bool → Option ((List (S25)) × Int)
 | 0, _, _, _, _, _, _ => none
 | k + 1, x4, x7, x8, x232000, x232001, x232002 => (rosterref22_isUTF8.f x232000).bind fun t238 => (if t238 = true then ((rosterref22_isUTF8.f x232001).bind fun t239 => (if t239 = true then (if x7.length < 3518437208883 then (rosterref22_DecodeKeys.l0 k x4 (x7 ++ [(⟨x232000, x232001, x232002⟩ : S25)]) x8) else (none)) else (some (([] : List (S25)), 224)))) else (some (([] : List (S25)), 224)))
end
def rosterref22_DecodeKeys.f (k : Nat) (a0 : ByteArray) : Option ((List (S25)) × Int) := (rosterref02_Tree.f a0).bind fun bt222 => (if bt222.2.1 = 0 then ((rosterref22_is.f bt222.1 0 1 0 16 true).bind fun t227 => (rosterref22_DecodeKeys.j0 k bt222.1 (!t227))) else (rosterref22_DecodeKeys.j0 k bt222.1 true))
set_option maxHeartbeats 8000000 in
set_option maxRecDepth 100000 in
theorem rosterref22_DecodeKeys.calls (k : Nat) (a0 : ByteArray) (r1 : List (S25)) (r2 : Int) (w : World) (h : rosterref22_DecodeKeys.f k a0 = some (r1, r2)) (hT : W.TabW w) :
  Calls Tryd.prog 9 #[.string a0] w fun e w' => ∃ v0_ : Value, e = .returned (.tuple #[v0_, .int .i64 r2]) ∧ Kd.R k25 25 w' w.heap.size (fun _ => True) v0_ r1 ∧ Below w.heap.size w w' := by
 have HTB := Aside0.mk hT
 clear hT
 have hu25 := Tryd.underlying25
 have HB := Aside0.mk (Below.refl w.heap.size w)
 have H : ((rosterref02_Tree.f a0).bind fun bt222 => (if bt222.2.1 = 0 then ((rosterref22_is.f bt222.1 0 1 0 16 true).bind fun t227 => (rosterref22_DecodeKeys.j0 k bt222.1 (!t227))) else (rosterref22_DecodeKeys.j0 k bt222.1 true))) = some (r1, r2) := h
 clear h
 replace H := Option.bind_eq_some_iff.mp H
 obtain ⟨⟨t222, t223, t224⟩, A20, H⟩ := H
 replace H : (if t223 = 0 then ((rosterref22_is.f t222 0 1 0 16 true).bind fun t227 => (rosterref22_DecodeKeys.j0 k t222 (!t227))) else (rosterref22_DecodeKeys.j0 k t222 true)) = some (r1, r2) := H
 have A2 := Aside0.mk A20
 clear A20
 have HC3 := Aside0.mk H
 clear H
 go_enter Tryd.func9, Tryd.ntmps9
 go_upto_region 2 with (first | ((with_reducible refine gate_callee (f := 27) rfl ?_); refine goesL_ (some 14) rfl rfl Tryd.func27 q9_ rfl #[.string a0] rfl q84_ ?_; (with_reducible refine (rosterref02_Tree.calls a0 t222 t223 t224 _ A2.out).mono ?_); rintro e w4 ⟨v225, rfl, ho0, hb⟩; refine ⟨_, rfl, ?_⟩; have n0_ := Aside0.mk (Kd.R_lower ho0 (below_size q1_)); have n1_ := Aside0.mk (below_step q1_ hb); clear HB; have HO226 := n0_; have HB := n1_; clear n0_ n1_; (try clear hb); (try clear hb2); (try clear hk); (try clear hi); (try clear ho0)))
 (try simp only [Act.put, List.setIfInBounds_toArray, List.set_cons_zero, List.set_cons_succ])
 go_cut [24] (fun v24 wc => ∃ (kq : Nat) (x24_2 : Bool), v24 = .bool x24_2 ∧ Aside0 (rosterref22_DecodeKeys.j0 kq t222 x24_2 = some (r1, r2)) ∧ Aside0 (kq ≤ k) ∧ Aside0 (Kd.R k43 43 wc w.heap.size (fun _ => True) v225 t222) ∧ Aside0 (Below w.heap.size w wc))
 case first =>
  have H := HC3.out
  clear HC3
  by_cases c5 : t223 = 0
  ·rw [if_pos c5] at H
   have c5b0 : (t223 == 0) = true := beq_iff_eq.mpr c5
   have c5b1 : (t223 != 0) = false := bne_eq_false_iff_eq.mpr c5
   clear c5
   (first | rw [c5b0] | rw [c5be] | (simp only [i64_w, i32_w]; rw [c5b0]) | skip)
   replace H := Option.bind_eq_some_iff.mp H
   obtain ⟨t227, A60, H⟩ := H
   replace H : (rosterref22_DecodeKeys.j0 k t222 (!t227)) = some (r1, r2) := H
   have A6 := Aside0.mk A60
   clear A60
   have H' := Aside0.mk H
   clear H
   obtain ⟨Ao7, co7, eo7⟩ := Kd.R_slice HO226.out
   subst eo7
   go_wp2_with (first | (go_at_call 28; (with_reducible refine (rosterref22_is.calls _ _ t222 0 1 0 16 true t227 _ ?side1 ?side2 A6.out).mono ?_); (case side1 => repeat (first | exact (Kd.R_reads' HO226.out).2.2 | (with_reducible refine Kd.C_alloc ?_ _) | (with_reducible refine Kd.C_drewN ?_ _) | (with_reducible refine Kd.C_drew ?_))); (case side2 => exact (Kd.R_reads' HO226.out).2.1); rintro e w' ⟨rfl, ⟨nd, rfl⟩⟩))
   go_meet
   case rel => exact ⟨_, (!t227), q3_, H', ⟨q42_⟩, ⟨by (with_reducible repeat (first | apply Kd.R_alloc | apply Kd.R_drewN | apply Kd.R_drew)); exact HO226.out⟩, ⟨q1_⟩⟩
  ·rw [if_neg c5] at H
   have c5b0 : (t223 == 0) = false := beq_eq_false_iff_ne.mpr c5
   have c5b1 : (t223 != 0) = true := bne_iff_ne.mpr c5
   (first | rw [c5b0] | rw [c5be] | (simp only [i64_w, i32_w]; rw [c5b0]) | skip)
   have H' := Aside0.mk H
   clear H
   go_wp2
   go_meet
   case rel => exact ⟨_, (true), q3_, H', ⟨q42_⟩, ⟨by (with_reducible repeat (first | apply Kd.R_alloc | apply Kd.R_drewN | apply Kd.R_drew)); exact HO226.out⟩, ⟨q1_⟩⟩
 case rest =>
  clear HC3
  try clear c2
  try clear p2
  try clear c5
  try clear c5b0
  try clear c5b1
  obtain ⟨kq, x24_2, rfl, HA, HJ2, HO_4, HB⟩ := hcut
  cases kq with
  | zero => exact absurd HA.out (by simp [rosterref22_DecodeKeys.j0])
  | succ kj2 =>
   have H := HA.out
   clear HA
   simp only [rosterref22_DecodeKeys.j0] at H
   by_cases c8 : x24_2 = true
   ·subst c8
    have H1 : (some (([] : List (S25)), 224)) = some (r1, r2) := by rw [if_pos rfl] at H; exact H
    clear H
    have H := H1
    clear H1
    simp only [Option.some.injEq, Prod.mk.injEq] at H
    obtain ⟨rfl, rfl⟩ := H
    go_wp2
    go_ret2
    exact ⟨_, q4_, q27_, q1_⟩
   ·replace c8 := Bool.eq_false_iff.mpr c8
    subst c8
    have H1 : (rosterref22_DecodeKeys.l0 kj2 t222 ([] : List (S25)) 1) = some (r1, r2) := by rw [if_neg (show ¬ (false = true) by decide)] at H; exact H
    clear H
    have H := H1
    clear H1
    have H' := Aside0.mk H
    clear H
    go_wp2
    go_loopg [7, 8] kj2 (fun kq v7 v8 w' => ∃ (x7_2 : List (S25)) (x8_2 : Int), v8 = .int .i64 x8_2 ∧ Aside0 (rosterref22_DecodeKeys.l0 kq t222 x7_2 x8_2 = some (r1, r2)) ∧ Aside0 (kq ≤ kj2) ∧ Aside0 (Kd.R k43 43 w' w.heap.size (fun _ => True) v225 t222) ∧ Aside0 (Kd.R k25 25 w' w.heap.size (fun _ => True) v7 x7_2) ∧ Aside0 (Below w.heap.size w w'))
    case atStart => exact ⟨(([] : List (S25))), (1), q3_, H', ⟨Nat.le_refl _⟩, ⟨q8_⟩, ⟨q27_⟩, ⟨q1_⟩⟩
    case round =>
     clear H'
     try clear c2
     try clear p2
     try clear c5
     try clear c5b0
     try clear c5b1
     try clear c8
     try clear p2
     obtain ⟨x7_2, x8_2, rfl, HA, HK2, HO_4, HO_7, HB⟩ := hrel
     cases gk with
     | zero => exact absurd HA.out (by simp [rosterref22_DecodeKeys.l0])
     | succ k2 =>
      have H := HA.out
      clear HA
      simp only [rosterref22_DecodeKeys.l0] at H
      by_cases c9 : x8_2 < (t222.length : Int)
      ·rw [if_pos c9] at H
       have c9b0 : decide (x8_2 < (t222.length : Int)) = true := decide_eq_true c9
       clear c9
       have HC10 := Aside0.mk H
       clear H
       obtain ⟨Ao11, co11, eo11⟩ := Kd.R_slice HO_4.out
       subst eo11
       go_upto_region 7 with (fail)
       go_cut [39] (fun v39 wc => ∃ (kq : Nat) (x39_9 : Bool), v39 = .bool x39_9 ∧ Aside0 (rosterref22_DecodeKeys.j2 kq t222 x7_2 x8_2 x39_9 = some (r1, r2)) ∧ Aside0 (kq ≤ k2) ∧ Aside0 (Kd.R k43 43 wc w.heap.size (fun _ => True) (.slice Ao11 t222.length co11) t222) ∧ Aside0 (Kd.R k25 25 wc w.heap.size (fun _ => True) u7 x7_2) ∧ Aside0 (Below w.heap.size w wc))
       case first =>
        have H := HC10.out
        clear HC10
        replace H := Option.bind_eq_some_iff.mp H
        obtain ⟨t228, A120, H⟩ := H
        replace H : (if t228 = true then ((rosterref22_is.f t222 (wrap64 (x8_2 + 1)) 3 0 4 false).bind fun t229 => (rosterref22_DecodeKeys.j2 k2 t222 x7_2 x8_2 (!t229))) else (rosterref22_DecodeKeys.j2 k2 t222 x7_2 x8_2 true)) = some (r1, r2) := H
        have A12 := Aside0.mk A120
        clear A120
        by_cases c13 : t228 = true
        ·subst c13
         have H1 : ((rosterref22_is.f t222 (wrap64 (x8_2 + 1)) 3 0 4 false).bind fun t229 => (rosterref22_DecodeKeys.j2 k2 t222 x7_2 x8_2 (!t229))) = some (r1, r2) := by rw [if_pos rfl] at H; exact H
         clear H
         have H := H1
         clear H1
         replace H := Option.bind_eq_some_iff.mp H
         obtain ⟨t229, A140, H⟩ := H
         replace H : (rosterref22_DecodeKeys.j2 k2 t222 x7_2 x8_2 (!t229)) = some (r1, r2) := H
         have A14 := Aside0.mk A140
         clear A140
         have H' := Aside0.mk H
         clear H
         go_wp2_with (first | ((with_reducible refine gate_callee (f := 28) rfl ?_); refine goesL_ (some 31) rfl rfl Tryd.func28 q9_ rfl #[.slice Ao11 t222.length co11, .int .i64 x8_2, .int .i64 2, .int .i64 0, .int .i64 16, .bool true] rfl q84_ ?_; (with_reducible refine (rosterref22_is.calls _ _ t222 x8_2 2 0 16 true true _ ?side1 ?side2 A12.out).mono ?_); (case side1 => repeat (first | exact (Kd.R_reads' HO_4.out).2.2 | (with_reducible refine Kd.C_alloc ?_ _) | (with_reducible refine Kd.C_drewN ?_ _) | (with_reducible refine Kd.C_drew ?_))); (case side2 => exact (Kd.R_reads' HO_4.out).2.1); rintro e w' ⟨rfl, ⟨nd, rfl⟩⟩; refine ⟨_, rfl, ?_⟩) | (go_at_call 28; (with_reducible refine (rosterref22_is.calls _ _ t222 (wrap64 (x8_2 + 1)) 3 0 4 false t229 _ ?side1 ?side2 A14.out).mono ?_); (case side1 => repeat (first | exact (Kd.R_reads' HO_4.out).2.2 | (with_reducible refine Kd.C_alloc ?_ _) | (with_reducible refine Kd.C_drewN ?_ _) | (with_reducible refine Kd.C_drew ?_))); (case side2 => exact (Kd.R_reads' HO_4.out).2.1); rintro e w' ⟨rfl, ⟨nd, rfl⟩⟩))
         go_meet
         case rel => exact ⟨_, (!t229), q3_, H', ⟨by have := HJ2.out; have := HK2.out; first | omega | exact Nat.le_refl _⟩, ⟨q8_⟩, ⟨q21_⟩, ⟨q1_⟩⟩
        ·replace c13 := Bool.eq_false_iff.mpr c13
         subst c13
         have H1 : (rosterref22_DecodeKeys.j2 k2 t222 x7_2 x8_2 true) = some (r1, r2) := by rw [if_neg (show ¬ (false = true) by decide)] at H; exact H
         clear H
         have H := H1
         clear H1
         have H' := Aside0.mk H
         clear H
         go_wp2_with (first | ((with_reducible refine gate_callee (f := 28) rfl ?_); refine goesL_ (some 31) rfl rfl Tryd.func28 q9_ rfl #[.slice Ao11 t222.length co11, .int .i64 x8_2, .int .i64 2, .int .i64 0, .int .i64 16, .bool true] rfl q84_ ?_; (with_reducible refine (rosterref22_is.calls _ _ t222 x8_2 2 0 16 true false _ ?side1 ?side2 A12.out).mono ?_); (case side1 => repeat (first | exact (Kd.R_reads' HO_4.out).2.2 | (with_reducible refine Kd.C_alloc ?_ _) | (with_reducible refine Kd.C_drewN ?_ _) | (with_reducible refine Kd.C_drew ?_))); (case side2 => exact (Kd.R_reads' HO_4.out).2.1); rintro e w' ⟨rfl, ⟨nd, rfl⟩⟩; refine ⟨_, rfl, ?_⟩))
         go_meet
         case rel => exact ⟨_, (true), q3_, H', ⟨by have := HJ2.out; have := HK2.out; first | omega | exact Nat.le_refl _⟩, ⟨q8_⟩, ⟨q21_⟩, ⟨q1_⟩⟩
       case rest =>
        clear HC10
        try clear c1
        try clear c2
        try clear p2
        try clear c5
        try clear c5b0
        try clear c5b1
        try clear p6
        try clear c8
        try clear c9
        try clear c9b0
        try clear c13
        try clear p2
        obtain ⟨kq, x39_9, rfl, HA, HJ9, HO_4, HO_7, HB⟩ := hcut
        cases kq with
        | zero => exact absurd HA.out (by simp [rosterref22_DecodeKeys.j2])
        | succ kj9 =>
         have H := HA.out
         clear HA
         simp only [rosterref22_DecodeKeys.j2] at H
         by_cases c15 : x39_9 = true
         ·subst c15
          have H1 : (some (([] : List (S25)), 224)) = some (r1, r2) := by rw [if_pos rfl] at H; exact H
          clear H
          have H := H1
          clear H1
          simp only [Option.some.injEq, Prod.mk.injEq] at H
          obtain ⟨rfl, rfl⟩ := H
          go_wp2
          go_ret2
          exact ⟨_, q4_, q27_, q1_⟩
         ·replace c15 := Bool.eq_false_iff.mpr c15
          subst c15
          have H1 : (if 0 ≤ (wrap64 (x8_2 + 1)) then (if (wrap64 (x8_2 + 1)) < (t222.length : Int) then ((rosterref22_is.f t222 (wrap64 (x8_2 + 2)) 3 2 0 false).bind fun t232 => (if t232 = true then (if 0 ≤ (wrap64 (x8_2 + 2)) then (if (wrap64 (x8_2 + 2)) < (t222.length : Int) then (if ((rd_T43 t222 (wrap64 (x8_2 + 2))).f4).toList = ([] : List UInt8) then (some (([] : List (S25)), 224)) else (rosterref22_DecodeKeys.j3 kj9 t222 x7_2 (wrap64 ((wrap64 (x8_2 + 2)) + 1)) ((rd_T43 t222 (wrap64 (x8_2 + 1))).f4) ((rd_T43 t222 (wrap64 (x8_2 + 2))).f4) false)) else (none)) else (none)) else (rosterref22_DecodeKeys.j3 kj9 t222 x7_2 (wrap64 (x8_2 + 2)) ((rd_T43 t222 (wrap64 (x8_2 + 1))).f4) (⟨#[]⟩ : ByteArray) false))) else (none)) else (none)) = some (r1, r2) := by rw [if_neg (show ¬ (false = true) by decide)] at H; exact H
          clear H
          have H := H1
          clear H1
          obtain ⟨ji16, hji16⟩ : ∃ j_ : Int, (wrap64 (x8_2 + 1)) = j_ := ⟨_, rfl⟩
          replace H : (if 0 ≤ (ji16) then (if (ji16) < (t222.length : Int) then ((rosterref22_is.f t222 (wrap64 (x8_2 + 2)) 3 2 0 false).bind fun t232 => (if t232 = true then (if 0 ≤ (wrap64 (x8_2 + 2)) then (if (wrap64 (x8_2 + 2)) < (t222.length : Int) then (if ((rd_T43 t222 (wrap64 (x8_2 + 2))).f4).toList = ([] : List UInt8) then (some (([] : List (S25)), 224)) else (rosterref22_DecodeKeys.j3 kj9 t222 x7_2 (wrap64 ((wrap64 (x8_2 + 2)) + 1)) ((rd_T43 t222 (ji16)).f4) ((rd_T43 t222 (wrap64 (x8_2 + 2))).f4) false)) else (none)) else (none)) else (rosterref22_DecodeKeys.j3 kj9 t222 x7_2 (wrap64 (x8_2 + 2)) ((rd_T43 t222 (ji16)).f4) (⟨#[]⟩ : ByteArray) false))) else (none)) else (none)) = some (r1, r2) := by first | (rw [hji16] at H; exact H) | (simp only [hji16] at H ⊢; exact H)
          have hji16w : (IntKind.i64.wrap (x8_2 + 1)) = ji16 := (i64_w _).trans hji16
          by_cases c17 : 0 ≤ (ji16)
          ·rw [if_pos c17] at H
           have c17b0 : decide (0 ≤ (ji16)) = true := decide_eq_true c17
           clear c17
           by_cases c18 : (ji16) < (t222.length : Int)
           ·rw [if_pos c18] at H
            have c18b0 : decide ((ji16) < (t222.length : Int)) = true := decide_eq_true c18
            clear c18
            replace H := Option.bind_eq_some_iff.mp H
            obtain ⟨t232, A190, H⟩ := H
            replace H : (if t232 = true then (if 0 ≤ (wrap64 (x8_2 + 2)) then (if (wrap64 (x8_2 + 2)) < (t222.length : Int) then (if ((rd_T43 t222 (wrap64 (x8_2 + 2))).f4).toList = ([] : List UInt8) then (some (([] : List (S25)), 224)) else (rosterref22_DecodeKeys.j3 kj9 t222 x7_2 (wrap64 ((wrap64 (x8_2 + 2)) + 1)) ((rd_T43 t222 (ji16)).f4) ((rd_T43 t222 (wrap64 (x8_2 + 2))).f4) false)) else (none)) else (none)) else (rosterref22_DecodeKeys.j3 kj9 t222 x7_2 (wrap64 (x8_2 + 2)) ((rd_T43 t222 (ji16)).f4) (⟨#[]⟩ : ByteArray) false)) = some (r1, r2) := H
            have A19 := Aside0.mk A190
            clear A190
            have HC20 := Aside0.mk H
            clear H
            have p230 : 0 ≤ ((ji16) : Int) := of_decide_eq_true q6_
            have q230 : (ji16) < (t222.length : Int) := of_decide_eq_true q6_
            obtain ⟨ad230, e230, hx230_0, hx230_1, hx230_2, hx230_3, hx230_4⟩ := at_T43 (Kd.R_reads' HO_4.out).2.2 (ji16) p230 q230
            cases e230
            replace p230 := eq_true p230
            replace q230 := eq_true q230
            go_upto_if 51 with (first | ((with_reducible refine gate_dst (N := 9) rfl ?_); refine box_event ?hg (N := 9) ?hd (cs := #[.string (⟨#[]⟩ : ByteArray), .string (⟨#[]⟩ : ByteArray), .bool false]) (t := 25) ?hr ?_; (case hd => rfl); (case hg => rfl); (case hr => first | (go_simp; done) | (go_simp; rfl)); intro gb231 hg w21 hbox hb; have n0_ := Aside0.mk (Kd.R_below q8_ hb); have n1_ := Aside0.mk (Kd.R_below (Kd.R_elderB q21_ gb231 (Nat.le_of_eq hg.symm)) hb); have n2_ := Aside0.mk (below_step q1_ hb); have n3_ := Aside0.mk (hbox); have n4_ := Aside0.mk ((by rw [hg]; exact (below_size q1_) : w.heap.size ≤ gb231)); have n5_ := Aside0.mk ((by rw [hg]; exact (below_size q1_) : w.heap.size ≤ gb231)); clear HO_4; clear HO_7; clear HB; have HO_4 := n0_; have HO_7 := n1_; have HB := n2_; have BK231 := n3_; have GW231 := n4_; have GE231 := n5_; clear n0_ n1_ n2_ n3_ n4_ n5_; clear hb hbox hg; obtain ⟨hcz22_0, hcz22_1, hcz22_2⟩ := cells3_ BK231.out; obtain ⟨hfz22_0, hfz22_1, hfz22_2⟩ := frz3_ BK231.out) | ((with_reducible refine gate_callee (f := 28) rfl ?_); refine goesL_ (some 51) rfl rfl Tryd.func28 q9_ rfl #[.slice (some ad230) t222.length co11, .int .i64 (wrap64 (x8_2 + 2)), .int .i64 3, .int .i64 2, .int .i64 0, .bool false] rfl q84_ ?_; (with_reducible refine (rosterref22_is.calls _ _ t222 (wrap64 (x8_2 + 2)) 3 2 0 false t232 _ ?side1 ?side2 A19.out).mono ?_); (case side1 => refine (Kd.R_reads' (e := 43) (base := w.heap.size) (ok := fun k_ => True) (n := t222.length) (c := co11) ?_).2.2; exact (by (with_reducible repeat (first | apply Kd.R_alloc | apply Kd.R_drewN | apply Kd.R_drew)); exact (Kd.R_mono (Rfar3_ (g := gb231) (Kd.R_types HO_4.out BK231.out q19_) (fun _ hk => hk.2)) (fun _ h_ => h_.1)))); (case side2 => exact (Kd.R_reads' HO_4.out).2.1); rintro e w' ⟨rfl, ⟨nd, rfl⟩⟩; refine ⟨_, rfl, ?_⟩))
            (try simp only [Act.put, List.setIfInBounds_toArray, List.set_cons_zero, List.set_cons_succ])
            go_cut [8] (fun v8 wc => ∃ (kq : Nat) (x8_19 : Int) (x232001_19 : ByteArray), v8 = .int .i64 x8_19 ∧ Aside0 (rosterref22_DecodeKeys.j3 kq t222 x7_2 x8_19 ((rd_T43 t222 (ji16)).f4) x232001_19 false = some (r1, r2)) ∧ Aside0 (kq ≤ kj9) ∧ Aside0 (Kd.R k43 43 wc w.heap.size (fun _ => True) (.slice (some ad230) t222.length co11) t222) ∧ Aside0 (Kd.R k25 25 wc w.heap.size (fun k_ => k_ ≠ gb231) u7 x7_2) ∧ Aside0 (wc.heap[gb231]? = some (.cells #[.string ((rd_T43 t222 (ji16)).f4), .string x232001_19, .bool false] 25 (0, 0))) ∧ Aside0 (Below w.heap.size w wc))
            case first =>
             have H := HC20.out
             clear HC20
             by_cases c23 : t232 = true
             ·subst c23
              have H1 : (if 0 ≤ (wrap64 (x8_2 + 2)) then (if (wrap64 (x8_2 + 2)) < (t222.length : Int) then (if ((rd_T43 t222 (wrap64 (x8_2 + 2))).f4).toList = ([] : List UInt8) then (some (([] : List (S25)), 224)) else (rosterref22_DecodeKeys.j3 kj9 t222 x7_2 (wrap64 ((wrap64 (x8_2 + 2)) + 1)) ((rd_T43 t222 (ji16)).f4) ((rd_T43 t222 (wrap64 (x8_2 + 2))).f4) false)) else (none)) else (none)) = some (r1, r2) := by rw [if_pos rfl] at H; exact H
              clear H
              have H := H1
              clear H1
              obtain ⟨ji24, hji24⟩ : ∃ j_ : Int, (wrap64 (x8_2 + 2)) = j_ := ⟨_, rfl⟩
              replace H : (if 0 ≤ (ji24) then (if (ji24) < (t222.length : Int) then (if ((rd_T43 t222 (ji24)).f4).toList = ([] : List UInt8) then (some (([] : List (S25)), 224)) else (rosterref22_DecodeKeys.j3 kj9 t222 x7_2 (wrap64 ((ji24) + 1)) ((rd_T43 t222 (ji16)).f4) ((rd_T43 t222 (ji24)).f4) false)) else (none)) else (none)) = some (r1, r2) := by first | (rw [hji24] at H; exact H) | (simp only [hji24] at H ⊢; exact H)
              have hji24w : (IntKind.i64.wrap (x8_2 + 2)) = ji24 := (i64_w _).trans hji24
              by_cases c25 : 0 ≤ (ji24)
              ·rw [if_pos c25] at H
               have c25b0 : decide (0 ≤ (ji24)) = true := decide_eq_true c25
               clear c25
               (first | rw [c25b0] | rw [c25be] | (simp only [i64_w, i32_w]; rw [c25b0]) | skip)
               by_cases c26 : (ji24) < (t222.length : Int)
               ·rw [if_pos c26] at H
                have c26b0 : decide ((ji24) < (t222.length : Int)) = true := decide_eq_true c26
                clear c26
                by_cases c27 : ((rd_T43 t222 (ji24)).f4).toList = ([] : List UInt8)
                ·rw [if_pos c27] at H
                 have c27b0 : (((rd_T43 t222 (ji24)).f4).toList == ([] : List UInt8)) = true := beq_iff_eq.mpr c27
                 try have c27be := (show ∀ (l_ : List UInt8) b_, (l_ == ([] : List UInt8)) = b_ → l_.isEmpty = b_ from fun l_ b_ h_ => by subst h_; cases l_ <;> rfl) _ _ c27b0
                 have c27b1 : (((rd_T43 t222 (ji24)).f4).toList != ([] : List UInt8)) = false := bne_eq_false_iff_eq.mpr c27
                 clear c27
                 simp only [Option.some.injEq, Prod.mk.injEq] at H
                 obtain ⟨rfl, rfl⟩ := H
                 have p233 : 0 ≤ ((ji24) : Int) := of_decide_eq_true q6_
                 have q233 : (ji24) < (t222.length : Int) := of_decide_eq_true q6_
                 obtain ⟨ad233, e233, hx233_0, hx233_1, hx233_2, hx233_3, hx233_4⟩ := at_T43 (Kd.R_reads' HO_4.out).2.2 (ji24) p233 q233
                 obtain rfl : ad230 = ad233 := (by injection e233)
                 have hn233_0 : ad230.block ≠ gb231 := Kd.own_blk (Kd.R_ne HO_4.out BK231.out q19_)
                 have hn233_1 : ad230.block ≠ gb231 := Kd.own_blk (Kd.R_ne HO_4.out BK231.out q19_)
                 have hn233_2 : ad230.block ≠ gb231 := Kd.own_blk (Kd.R_ne HO_4.out BK231.out q19_)
                 replace hx233_0 := (cell_far (p := ⟨gb231, 0, none⟩) q36_ (.string ((rd_T43 t222 (ji16)).f4))).trans hx233_0
                 replace hx233_1 := (cell_far (p := ⟨gb231, 0, none⟩) q36_ (.string ((rd_T43 t222 (ji16)).f4))).trans hx233_1
                 replace hx233_2 := (cell_far (p := ⟨gb231, 0, none⟩) q36_ (.string ((rd_T43 t222 (ji16)).f4))).trans hx233_2
                 replace hx233_3 := (cell_far (p := ⟨gb231, 0, none⟩) q36_ (.string ((rd_T43 t222 (ji16)).f4))).trans hx233_3
                 replace hx233_4 := (cell_far (p := ⟨gb231, 0, none⟩) q36_ (.string ((rd_T43 t222 (ji16)).f4))).trans hx233_4
                 replace hx233_0 := (cell_far (p := ⟨gb231, 1, none⟩) q37_ (.string (⟨#[]⟩ : ByteArray))).trans hx233_0
                 replace hx233_1 := (cell_far (p := ⟨gb231, 1, none⟩) q37_ (.string (⟨#[]⟩ : ByteArray))).trans hx233_1
                 replace hx233_2 := (cell_far (p := ⟨gb231, 1, none⟩) q37_ (.string (⟨#[]⟩ : ByteArray))).trans hx233_2
                 replace hx233_3 := (cell_far (p := ⟨gb231, 1, none⟩) q37_ (.string (⟨#[]⟩ : ByteArray))).trans hx233_3
                 replace hx233_4 := (cell_far (p := ⟨gb231, 1, none⟩) q37_ (.string (⟨#[]⟩ : ByteArray))).trans hx233_4
                 replace hx233_0 := (cell_far (p := ⟨gb231, 2, none⟩) q38_ (.bool false)).trans hx233_0
                 replace hx233_1 := (cell_far (p := ⟨gb231, 2, none⟩) q38_ (.bool false)).trans hx233_1
                 replace hx233_2 := (cell_far (p := ⟨gb231, 2, none⟩) q38_ (.bool false)).trans hx233_2
                 replace hx233_3 := (cell_far (p := ⟨gb231, 2, none⟩) q38_ (.bool false)).trans hx233_3
                 replace hx233_4 := (cell_far (p := ⟨gb231, 2, none⟩) q38_ (.bool false)).trans hx233_4
                 clear hn233_0
                 clear hn233_1
                 clear hn233_2
                 replace p233 := eq_true p233
                 replace q233 := eq_true q233
                 obtain ⟨hcz28_0, hcz28_1, hcz28_2⟩ := cells3_ BK231.out
                 obtain ⟨hfz28_0, hfz28_1, hfz28_2⟩ := frz3_ BK231.out
                 obtain ⟨hqz28_0, hqz28_1, hqz28_2⟩ := cells3_ (blk_put (blk_put (blk_put BK231.out 0 (.string ((rd_T43 t222 (ji16)).f4)) rfl) 1 (.string (⟨#[]⟩ : ByteArray)) rfl) 2 (.bool false) rfl)
                 go_wp2
                 go_ret2
                 exact ⟨_, by first | rfl | (simp [isEmpty_ne_]; done) | (simp [errW_none, errW_some] <;> rfl) | (simp only [← hji16, ← hji24]; first | rfl | (simp [errW_none, errW_some] <;> rfl)) | (simp [*, errW_none, errW_some] <;> rfl), q27_, q25_⟩
                ·rw [if_neg c27] at H
                 have c27b0 : (((rd_T43 t222 (ji24)).f4).toList == ([] : List UInt8)) = false := beq_eq_false_iff_ne.mpr c27
                 try have c27be := (show ∀ (l_ : List UInt8) b_, (l_ == ([] : List UInt8)) = b_ → l_.isEmpty = b_ from fun l_ b_ h_ => by subst h_; cases l_ <;> rfl) _ _ c27b0
                 have c27b1 : (((rd_T43 t222 (ji24)).f4).toList != ([] : List UInt8)) = true := bne_iff_ne.mpr c27
                 have H' := Aside0.mk H
                 clear H
                 have p233 : 0 ≤ ((ji24) : Int) := of_decide_eq_true q6_
                 have q233 : (ji24) < (t222.length : Int) := of_decide_eq_true q6_
                 obtain ⟨ad233, e233, hx233_0, hx233_1, hx233_2, hx233_3, hx233_4⟩ := at_T43 (Kd.R_reads' HO_4.out).2.2 (ji24) p233 q233
                 obtain rfl : ad230 = ad233 := (by injection e233)
                 have hn233_0 : ad230.block ≠ gb231 := Kd.own_blk (Kd.R_ne HO_4.out BK231.out q19_)
                 have hn233_1 : ad230.block ≠ gb231 := Kd.own_blk (Kd.R_ne HO_4.out BK231.out q19_)
                 have hn233_2 : ad230.block ≠ gb231 := Kd.own_blk (Kd.R_ne HO_4.out BK231.out q19_)
                 replace hx233_0 := (cell_far (p := ⟨gb231, 0, none⟩) q36_ (.string ((rd_T43 t222 (ji16)).f4))).trans hx233_0
                 replace hx233_1 := (cell_far (p := ⟨gb231, 0, none⟩) q36_ (.string ((rd_T43 t222 (ji16)).f4))).trans hx233_1
                 replace hx233_2 := (cell_far (p := ⟨gb231, 0, none⟩) q36_ (.string ((rd_T43 t222 (ji16)).f4))).trans hx233_2
                 replace hx233_3 := (cell_far (p := ⟨gb231, 0, none⟩) q36_ (.string ((rd_T43 t222 (ji16)).f4))).trans hx233_3
                 replace hx233_4 := (cell_far (p := ⟨gb231, 0, none⟩) q36_ (.string ((rd_T43 t222 (ji16)).f4))).trans hx233_4
                 replace hx233_0 := (cell_far (p := ⟨gb231, 1, none⟩) q37_ (.string (⟨#[]⟩ : ByteArray))).trans hx233_0
                 replace hx233_1 := (cell_far (p := ⟨gb231, 1, none⟩) q37_ (.string (⟨#[]⟩ : ByteArray))).trans hx233_1
                 replace hx233_2 := (cell_far (p := ⟨gb231, 1, none⟩) q37_ (.string (⟨#[]⟩ : ByteArray))).trans hx233_2
                 replace hx233_3 := (cell_far (p := ⟨gb231, 1, none⟩) q37_ (.string (⟨#[]⟩ : ByteArray))).trans hx233_3
                 replace hx233_4 := (cell_far (p := ⟨gb231, 1, none⟩) q37_ (.string (⟨#[]⟩ : ByteArray))).trans hx233_4
                 replace hx233_0 := (cell_far (p := ⟨gb231, 2, none⟩) q38_ (.bool false)).trans hx233_0
                 replace hx233_1 := (cell_far (p := ⟨gb231, 2, none⟩) q38_ (.bool false)).trans hx233_1
                 replace hx233_2 := (cell_far (p := ⟨gb231, 2, none⟩) q38_ (.bool false)).trans hx233_2
                 replace hx233_3 := (cell_far (p := ⟨gb231, 2, none⟩) q38_ (.bool false)).trans hx233_3
                 replace hx233_4 := (cell_far (p := ⟨gb231, 2, none⟩) q38_ (.bool false)).trans hx233_4
                 clear hn233_0
                 clear hn233_1
                 clear hn233_2
                 replace p233 := eq_true p233
                 replace q233 := eq_true q233
                 obtain ⟨hcz29_0, hcz29_1, hcz29_2⟩ := cells3_ BK231.out
                 obtain ⟨hfz29_0, hfz29_1, hfz29_2⟩ := frz3_ BK231.out
                 obtain ⟨hqz29_0, hqz29_1, hqz29_2⟩ := cells3_ (blk_put (blk_put (blk_put BK231.out 0 (.string ((rd_T43 t222 (ji16)).f4)) rfl) 1 (.string (⟨#[]⟩ : ByteArray)) rfl) 2 (.bool false) rfl)
                 go_wp2
                 go_meet
                 case rel => exact ⟨_, (wrap64 ((ji24) + 1)), ((rd_T43 t222 (ji24)).f4), (by first | rfl | (simp; done) | (simp only [← hji24] <;> (first | rfl | simp)) | (simp [*]; done) | (simp [isEmpty_ne_]; done)), H', ⟨by have := HJ2.out; have := HK2.out; have := HJ9.out; first | omega | exact Nat.le_refl _⟩, ⟨by (with_reducible repeat (first | apply Kd.R_alloc | apply Kd.R_drewN | apply Kd.R_drew)); exact Kd.R_mono (Kd.R_far (p := ⟨gb231, 1, none⟩) (Rfar3_ (g := gb231) (Kd.R_types HO_4.out BK231.out q19_) (fun _ hk => hk.2)) (fun _ hk => hk.2) (.string ((rd_T43 t222 (ji24)).f4))) (fun _ hk => trivial)⟩, ⟨by (with_reducible repeat (first | apply Kd.R_alloc | apply Kd.R_drewN | apply Kd.R_drew)); exact Kd.R_mono (Kd.R_far (p := ⟨gb231, 1, none⟩) (Rfar3_ (g := gb231) (Kd.R_mono HO_7.out (fun k_ hk => (⟨hk, hk.2⟩ : _ ∧ k_ ≠ gb231))) (fun _ hk => hk.2)) (fun _ hk => hk.2) (.string ((rd_T43 t222 (ji24)).f4))) (fun _ hk => hk.1.2)⟩, ⟨by (with_reducible repeat (first | refine blk_drewN ?_ _ | refine blk_drew ?_ | refine blk_alloc ?_ _)); refine blk_put (cs := #[.string ((rd_T43 t222 (ji16)).f4), .string (⟨#[]⟩ : ByteArray), .bool false]) ?_ 1 _ rfl; (with_reducible repeat (first | refine blk_drewN ?_ _ | refine blk_drew ?_ | refine blk_alloc ?_ _)); exact put3_ q50_⟩, ⟨q25_⟩⟩
               ·rw [if_neg c26] at H
                exact absurd H q28_
              ·rw [if_neg c25] at H
               exact absurd H q28_
             ·replace c23 := Bool.eq_false_iff.mpr c23
              subst c23
              have H1 : (rosterref22_DecodeKeys.j3 kj9 t222 x7_2 (wrap64 (x8_2 + 2)) ((rd_T43 t222 (ji16)).f4) (⟨#[]⟩ : ByteArray) false) = some (r1, r2) := by rw [if_neg (show ¬ (false = true) by decide)] at H; exact H
              clear H
              have H := H1
              clear H1
              have H' := Aside0.mk H
              clear H
              go_wp2
              go_meet
              case rel => exact ⟨_, (wrap64 (x8_2 + 2)), ((⟨#[]⟩ : ByteArray)), q3_, H', ⟨by have := HJ2.out; have := HK2.out; have := HJ9.out; first | omega | exact Nat.le_refl _⟩, ⟨by (with_reducible repeat (first | apply Kd.R_alloc | apply Kd.R_drewN | apply Kd.R_drew)); exact Kd.R_mono (Rfar3_ (g := gb231) (Kd.R_types HO_4.out BK231.out q19_) (fun _ hk => hk.2)) (fun _ hk => trivial)⟩, ⟨by (with_reducible repeat (first | apply Kd.R_alloc | apply Kd.R_drewN | apply Kd.R_drew)); exact Kd.R_mono (Rfar3_ (g := gb231) (Kd.R_mono HO_7.out (fun k_ hk => (⟨hk, hk.2⟩ : _ ∧ k_ ≠ gb231))) (fun _ hk => hk.2)) (fun _ hk => hk.1.2)⟩, ⟨by (with_reducible repeat (first | refine blk_drewN ?_ _ | refine blk_drew ?_ | refine blk_alloc ?_ _)); exact put3_ q50_⟩, ⟨q25_⟩⟩
            case rest =>
             clear HC20
             try clear c1
             try clear c2
             try clear p2
             try clear q2
             try clear hx2
             try clear c5
             try clear c5b0
             try clear c5b1
             try clear p6
             try clear c8
             try clear c9
             try clear c9b0
             try clear c13
             try clear c15
             try clear c17
             try clear c17b0
             try clear c18
             try clear c18b0
             try clear c23
             try clear p23
             try clear q23
             try clear hx23
             try clear c25
             try clear c25b0
             try clear c26
             try clear c26b0
             try clear c27
             try clear c27b0
             try clear c27b1
             try clear c28
             try clear hcz22_0 hcz22_1 hcz22_2
             try clear hcz28_0 hcz28_1 hcz28_2
             try clear hcz29_0 hcz29_1 hcz29_2
             try clear hfz22_0 hfz22_1 hfz22_2
             try clear hfz28_0 hfz28_1 hfz28_2
             try clear hfz29_0 hfz29_1 hfz29_2
             try clear hx230_0
             try clear hx230_1
             try clear hx230_2
             try clear hx230_3
             try clear hx230_4
             try clear hx233_0
             try clear hx233_1
             try clear hx233_2
             try clear hx233_3
             try clear hx233_4
             try clear p2
             try clear p230
             try clear p233
             try clear p6
             try clear q230
             try clear q233
             obtain ⟨kq, x8_19, x232001_19, rfl, HA, HJ19, HO_4, HO_7, BK231, HB⟩ := hcut
             cases kq with
             | zero => exact absurd HA.out (by simp [rosterref22_DecodeKeys.j3])
             | succ kj19 =>
              have H := HA.out
              clear HA
              simp only [rosterref22_DecodeKeys.j3] at H
              replace H := Option.bind_eq_some_iff.mp H
              obtain ⟨t234, A300, H⟩ := H
              replace H : (if t234 = true then (if 0 ≤ x8_19 then (if x8_19 < (t222.length : Int) then ((rosterref02_Bool.f ((rd_T43 t222 x8_19).f4)).bind fun bt236 => (if bt236.2 = 0 then (rosterref22_DecodeKeys.j4 kj19 t222 x7_2 (wrap64 (x8_19 + 1)) ((rd_T43 t222 (ji16)).f4) x232001_19 bt236.1) else (some (([] : List (S25)), 224)))) else (none)) else (none)) else (rosterref22_DecodeKeys.j4 kj19 t222 x7_2 x8_19 ((rd_T43 t222 (ji16)).f4) x232001_19 false)) = some (r1, r2) := H
              have A30 := Aside0.mk A300
              clear A300
              have HC31 := Aside0.mk H
              clear H
              go_upto_if 65 with (first | ((with_reducible refine gate_callee (f := 28) rfl ?_); refine goesL_ (some 65) rfl rfl Tryd.func28 q9_ rfl #[.slice (some ad230) t222.length co11, .int .i64 x8_19, .int .i64 3, .int .i64 2, .int .i64 1, .bool false] rfl q84_ ?_; (with_reducible refine (rosterref22_is.calls _ _ t222 x8_19 3 2 1 false t234 _ ?side1 ?side2 A30.out).mono ?_); (case side1 => repeat (first | exact (Kd.R_reads' HO_4.out).2.2 | (with_reducible refine Kd.C_alloc ?_ _) | (with_reducible refine Kd.C_drewN ?_ _) | (with_reducible refine Kd.C_drew ?_))); (case side2 => exact (Kd.R_reads' HO_4.out).2.1); rintro e w' ⟨rfl, ⟨nd, rfl⟩⟩; refine ⟨_, rfl, ?_⟩))
              (try simp only [Act.put, List.setIfInBounds_toArray, List.set_cons_zero, List.set_cons_succ])
              go_cut [8] (fun v8 wc => ∃ (kq : Nat) (x8_30 : Int) (x232002_30 : Bool), v8 = .int .i64 x8_30 ∧ Aside0 (rosterref22_DecodeKeys.j4 kq t222 x7_2 x8_30 ((rd_T43 t222 (ji16)).f4) x232001_19 x232002_30 = some (r1, r2)) ∧ Aside0 (kq ≤ kj19) ∧ Aside0 (Kd.R k43 43 wc w.heap.size (fun _ => True) (.slice (some ad230) t222.length co11) t222) ∧ Aside0 (Kd.R k25 25 wc w.heap.size (fun k_ => k_ ≠ gb231) u7 x7_2) ∧ Aside0 (wc.heap[gb231]? = some (.cells #[.string ((rd_T43 t222 (ji16)).f4), .string x232001_19, .bool x232002_30] 25 (0, 0))) ∧ Aside0 (Below w.heap.size w wc))
              case first =>
               have H := HC31.out
               clear HC31
               by_cases c32 : t234 = true
               ·subst c32
                have H1 : (if 0 ≤ x8_19 then (if x8_19 < (t222.length : Int) then ((rosterref02_Bool.f ((rd_T43 t222 x8_19).f4)).bind fun bt236 => (if bt236.2 = 0 then (rosterref22_DecodeKeys.j4 kj19 t222 x7_2 (wrap64 (x8_19 + 1)) ((rd_T43 t222 (ji16)).f4) x232001_19 bt236.1) else (some (([] : List (S25)), 224)))) else (none)) else (none)) = some (r1, r2) := by rw [if_pos rfl] at H; exact H
                clear H
                have H := H1
                clear H1
                by_cases c33 : 0 ≤ x8_19
                ·rw [if_pos c33] at H
                 have c33b0 : decide (0 ≤ x8_19) = true := decide_eq_true c33
                 clear c33
                 (first | rw [c33b0] | rw [c33be] | (simp only [i64_w, i32_w]; rw [c33b0]) | skip)
                 by_cases c34 : x8_19 < (t222.length : Int)
                 ·rw [if_pos c34] at H
                  have c34b0 : decide (x8_19 < (t222.length : Int)) = true := decide_eq_true c34
                  clear c34
                  replace H := Option.bind_eq_some_iff.mp H
                  obtain ⟨⟨t236, t237⟩, A350, H⟩ := H
                  replace H : (if t237 = 0 then (rosterref22_DecodeKeys.j4 kj19 t222 x7_2 (wrap64 (x8_19 + 1)) ((rd_T43 t222 (ji16)).f4) x232001_19 t236) else (some (([] : List (S25)), 224))) = some (r1, r2) := H
                  have A35 := Aside0.mk A350
                  clear A350
                  by_cases c36 : t237 = 0
                  ·rw [if_pos c36] at H
                   have c36b0 : (t237 == 0) = true := beq_iff_eq.mpr c36
                   have c36b1 : (t237 != 0) = false := bne_eq_false_iff_eq.mpr c36
                   clear c36
                   have H' := Aside0.mk H
                   clear H
                   have p235 : 0 ≤ (x8_19 : Int) := of_decide_eq_true q6_
                   have q235 : x8_19 < (t222.length : Int) := of_decide_eq_true q6_
                   obtain ⟨ad235, e235, hx235_0, hx235_1, hx235_2, hx235_3, hx235_4⟩ := at_T43 (Kd.R_reads' HO_4.out).2.2 x8_19 p235 q235
                   obtain rfl : ad230 = ad235 := (by injection e235)
                   replace p235 := eq_true p235
                   replace q235 := eq_true q235
                   go_wp2_with (first | ((with_reducible refine gate_callee (f := 29) rfl ?_); refine goesL_ (some 72) rfl rfl Tryd.func29 q9_ rfl #[.string ((rd_T43 t222 x8_19).f4)] rfl q84_ ?_; (with_reducible refine (rosterref02_Bool.calls ((rd_T43 t222 x8_19).f4) t236 t237 _ A35.out).mono ?_); rintro e w' ⟨rfl, ⟨nd, rfl⟩⟩; refine ⟨_, rfl, ?_⟩; (try (rw [drewN_self wc]; generalize hq_ : World.drewN wc _ = wc; have n0_ : Aside0 (Kd.R k43 43 wc w.heap.size (fun _ => True) (.slice (some ad230) t222.length co11) t222) := ⟨by rw [← hq_]; exact q8_⟩; have n1_ : Aside0 (Kd.R k25 25 wc w.heap.size (fun k_ => k_ ≠ gb231) u7 x7_2) := ⟨by rw [← hq_]; exact q21_⟩; have n2_ : Aside0 (wc.heap[gb231]? = some (.cells #[.string ((rd_T43 t222 (ji16)).f4), .string x232001_19, .bool false] 25 (0, 0))) := ⟨by rw [← hq_]; exact q50_⟩; have n3_ : Aside0 (Below w.heap.size w wc) := ⟨by rw [← hq_]; exact q25_⟩; clear HO_4 HO_7 BK231 HB hq_; have HO_4 := n0_; have HO_7 := n1_; have BK231 := n2_; have HB := n3_; clear n0_ n1_ n2_ n3_)); obtain ⟨hcz37_0, hcz37_1, hcz37_2⟩ := cells3_ BK231.out; obtain ⟨hfz37_0, hfz37_1, hfz37_2⟩ := frz3_ BK231.out))
                   go_meet
                   case rel => exact ⟨_, (wrap64 (x8_19 + 1)), (t236), q3_, H', ⟨by have := HJ2.out; have := HK2.out; have := HJ9.out; have := HJ19.out; first | omega | exact Nat.le_refl _⟩, ⟨by (with_reducible repeat (first | apply Kd.R_alloc | apply Kd.R_drewN | apply Kd.R_drew)); exact Kd.R_mono (Kd.R_far (p := ⟨gb231, 2, none⟩) (Kd.R_types HO_4.out BK231.out q19_) (fun _ hk => hk.2) (.bool t236)) (fun _ hk => trivial)⟩, ⟨by (with_reducible repeat (first | apply Kd.R_alloc | apply Kd.R_drewN | apply Kd.R_drew)); exact Kd.R_mono (Kd.R_far (p := ⟨gb231, 2, none⟩) (Kd.R_mono HO_7.out (fun k_ hk => (⟨hk, hk⟩ : _ ∧ k_ ≠ gb231))) (fun _ hk => hk.2) (.bool t236)) (fun _ hk => hk.1)⟩, ⟨by (with_reducible repeat (first | refine blk_drewN ?_ _ | refine blk_drew ?_ | refine blk_alloc ?_ _)); refine blk_put (cs := #[.string ((rd_T43 t222 (ji16)).f4), .string x232001_19, .bool false]) ?_ 2 _ rfl; (with_reducible repeat (first | refine blk_drewN ?_ _ | refine blk_drew ?_ | refine blk_alloc ?_ _)); exact BK231.out⟩, ⟨q25_⟩⟩
                  ·rw [if_neg c36] at H
                   have c36b0 : (t237 == 0) = false := beq_eq_false_iff_ne.mpr c36
                   have c36b1 : (t237 != 0) = true := bne_iff_ne.mpr c36
                   simp only [Option.some.injEq, Prod.mk.injEq] at H
                   obtain ⟨rfl, rfl⟩ := H
                   have p235 : 0 ≤ (x8_19 : Int) := of_decide_eq_true q6_
                   have q235 : x8_19 < (t222.length : Int) := of_decide_eq_true q6_
                   obtain ⟨ad235, e235, hx235_0, hx235_1, hx235_2, hx235_3, hx235_4⟩ := at_T43 (Kd.R_reads' HO_4.out).2.2 x8_19 p235 q235
                   obtain rfl : ad230 = ad235 := (by injection e235)
                   replace p235 := eq_true p235
                   replace q235 := eq_true q235
                   go_wp2_with (first | ((with_reducible refine gate_callee (f := 29) rfl ?_); refine goesL_ (some 72) rfl rfl Tryd.func29 q9_ rfl #[.string ((rd_T43 t222 x8_19).f4)] rfl q84_ ?_; (with_reducible refine (rosterref02_Bool.calls ((rd_T43 t222 x8_19).f4) t236 t237 _ A35.out).mono ?_); rintro e w' ⟨rfl, ⟨nd, rfl⟩⟩; refine ⟨_, rfl, ?_⟩))
                   go_ret2
                   exact ⟨_, q58_, q27_, q25_⟩
                 ·rw [if_neg c34] at H
                  exact absurd H q28_
                ·rw [if_neg c33] at H
                 exact absurd H q28_
               ·replace c32 := Bool.eq_false_iff.mpr c32
                subst c32
                have H1 : (rosterref22_DecodeKeys.j4 kj19 t222 x7_2 x8_19 ((rd_T43 t222 (ji16)).f4) x232001_19 false) = some (r1, r2) := by rw [if_neg (show ¬ (false = true) by decide)] at H; exact H
                clear H
                have H := H1
                clear H1
                have H' := Aside0.mk H
                clear H
                go_wp2
                go_meet
                case rel => exact ⟨_, (x8_19), (false), q3_, H', ⟨by have := HJ2.out; have := HK2.out; have := HJ9.out; have := HJ19.out; first | omega | exact Nat.le_refl _⟩, ⟨q8_⟩, ⟨q21_⟩, ⟨q50_⟩, ⟨q25_⟩⟩
              case rest =>
               clear HC31
               try clear c1
               try clear c2
               try clear p2
               try clear q2
               try clear hx2
               try clear c3
               try clear c5
               try clear c5b0
               try clear c5b1
               try clear p6
               try clear c8
               try clear c9
               try clear c9b0
               try clear c13
               try clear c15
               try clear c17
               try clear c17b0
               try clear c18
               try clear c18b0
               try clear c23
               try clear p23
               try clear q23
               try clear hx23
               try clear c25
               try clear c25b0
               try clear c26
               try clear c26b0
               try clear c27
               try clear c27b0
               try clear c27b1
               try clear c28
               try clear c29
               try clear c32
               try clear c33
               try clear c33b0
               try clear c34
               try clear c34b0
               try clear c36
               try clear c36b0
               try clear c36b1
               try clear hcz22_0 hcz22_1 hcz22_2
               try clear hcz28_0 hcz28_1 hcz28_2
               try clear hcz29_0 hcz29_1 hcz29_2
               try clear hcz37_0 hcz37_1 hcz37_2
               try clear hfz22_0 hfz22_1 hfz22_2
               try clear hfz28_0 hfz28_1 hfz28_2
               try clear hfz29_0 hfz29_1 hfz29_2
               try clear hfz37_0 hfz37_1 hfz37_2
               try clear hx230_0
               try clear hx230_1
               try clear hx230_2
               try clear hx230_3
               try clear hx230_4
               try clear hx233_0
               try clear hx233_1
               try clear hx233_2
               try clear hx233_3
               try clear hx233_4
               try clear hx235_0
               try clear hx235_1
               try clear hx235_2
               try clear hx235_3
               try clear hx235_4
               try clear p2
               try clear p23
               try clear p230
               try clear p233
               try clear p235
               try clear p6
               try clear q2
               try clear q23
               try clear q230
               try clear q233
               try clear q235
               obtain ⟨kq, x8_30, x232002_30, rfl, HA, HJ30, HO_4, HO_7, BK231, HB⟩ := hcut
               cases kq with
               | zero => exact absurd HA.out (by simp [rosterref22_DecodeKeys.j4])
               | succ kj30 =>
                have H := HA.out
                clear HA
                simp only [rosterref22_DecodeKeys.j4] at H
                replace H := Option.bind_eq_some_iff.mp H
                obtain ⟨t238, A380, H⟩ := H
                replace H : (if t238 = true then ((rosterref22_isUTF8.f x232001_19).bind fun t239 => (if t239 = true then (if x7_2.length < 3518437208883 then (rosterref22_DecodeKeys.l0 kj30 t222 (x7_2 ++ [(⟨((rd_T43 t222 (ji16)).f4), x232001_19, x232002_30⟩ : S25)]) x8_30) else (none)) else (some (([] : List (S25)), 224)))) else (some (([] : List (S25)), 224))) = some (r1, r2) := H
                have A38 := Aside0.mk A380
                clear A380
                by_cases c39 : t238 = true
                ·subst c39
                 have H1 : ((rosterref22_isUTF8.f x232001_19).bind fun t239 => (if t239 = true then (if x7_2.length < 3518437208883 then (rosterref22_DecodeKeys.l0 kj30 t222 (x7_2 ++ [(⟨((rd_T43 t222 (ji16)).f4), x232001_19, x232002_30⟩ : S25)]) x8_30) else (none)) else (some (([] : List (S25)), 224)))) = some (r1, r2) := by rw [if_pos rfl] at H; exact H
                 clear H
                 have H := H1
                 clear H1
                 replace H := Option.bind_eq_some_iff.mp H
                 obtain ⟨t239, A400, H⟩ := H
                 replace H : (if t239 = true then (if x7_2.length < 3518437208883 then (rosterref22_DecodeKeys.l0 kj30 t222 (x7_2 ++ [(⟨((rd_T43 t222 (ji16)).f4), x232001_19, x232002_30⟩ : S25)]) x8_30) else (none)) else (some (([] : List (S25)), 224))) = some (r1, r2) := H
                 have A40 := Aside0.mk A400
                 clear A400
                 by_cases c41 : t239 = true
                 ·subst c41
                  have H1 : (if x7_2.length < 3518437208883 then (rosterref22_DecodeKeys.l0 kj30 t222 (x7_2 ++ [(⟨((rd_T43 t222 (ji16)).f4), x232001_19, x232002_30⟩ : S25)]) x8_30) else (none)) = some (r1, r2) := by rw [if_pos rfl] at H; exact H
                  clear H
                  have H := H1
                  clear H1
                  by_cases c42 : x7_2.length < 3518437208883
                  ·rw [if_pos c42] at H
                   have LMc42 := Aside0.mk c42
                   clear c42
                   obtain ⟨y240, hy240⟩ : ∃ y_ : List (S25), y_ = (x7_2 ++ [(⟨((rd_T43 t222 (ji16)).f4), x232001_19, x232002_30⟩ : S25)]) := ⟨_, rfl⟩
                   replace H : (rosterref22_DecodeKeys.l0 kj30 t222 y240 x8_30) = some (r1, r2) := by first | (rw [hy240]; with_reducible exact H) | (have H2_ := (Option.bind_some _ _).symm.trans H; rw [hy240]; with_reducible exact H2_) | (have H2_ := (Option.bind_some _ _).symm.trans H; with_reducible exact H2_) | with_reducible exact H | (rw [hy240]; exact H) | exact H
                   have Ny240 := Aside0.mk hy240
                   clear hy240
                   have H' := Aside0.mk H
                   clear H
                   obtain ⟨hcz43_0, hcz43_1, hcz43_2⟩ := cells3_ BK231.out
                   obtain ⟨hfz43_0, hfz43_1, hfz43_2⟩ := frz3_ BK231.out
                   go_wp2_with (first | ((with_reducible refine gate_callee (f := 18) rfl ?_); refine goesL_ (some 83) rfl rfl Tryd.func18 q9_ rfl #[.string ((rd_T43 t222 (ji16)).f4)] rfl q63_ ?_; (with_reducible refine (rosterref22_isUTF8.calls ((rd_T43 t222 (ji16)).f4) true _ A38.out ?sideT).mono ?_); (case sideT => exact HTB.out.at q86_); rintro e w' ⟨rfl, ⟨nd, rfl⟩⟩; refine ⟨_, rfl, ?_⟩) | (go_at_call 18; (with_reducible refine (rosterref22_isUTF8.calls x232001_19 true _ A40.out ?sideT).mono ?_); (case sideT => exact HTB.out.at q86_); rintro e w' ⟨rfl, ⟨nd, rfl⟩⟩) | ((with_reducible refine gate_builtin (b := .append) (xs := #[.tmp 91, .tmp 93]) rfl ?_); at_builtin; refine Kd.R_append k25 (w0 := w) w.heap.size rfl (.tmp 91) (.tmp 93) 22 25 (.agg #[(.string ⟨#[]⟩), (.string ⟨#[]⟩), (.bool false)]) 40 rfl Tryd.underlying22 info25 rfl q19_ q2_ u7 x7_2 (⟨((rd_T43 t222 (ji16)).f4), x232001_19, x232002_30⟩ : S25) [.string ((rd_T43 t222 (ji16)).f4), .string x232001_19, .bool x232002_30] (fun k_ => k_ ≠ gb231) (fun _ => False) rfl rfl ?aP (fun _ hk => hk.elim) ?aF ?aO ?aB ?aS ?aL ?_; (case aP => exact k25_mkM _ _ _ (⟨((rd_T43 t222 (ji16)).f4), x232001_19, x232002_30⟩ : S25)); (case aB => exact q25_); (case aF => exact (fun k_ hk => Kd.freshB (g := gb231) (o := .cells #[.string ((rd_T43 t222 (ji16)).f4), .string x232001_19, .bool x232002_30] 25 (0, 0)) q50_ k_ hk)); (case aO => exact q21_); (case aS => exact (below_size q25_)); (case aL => have := LMc42.out; omega); intro v241 w44 ho hb hg hat; rw [← Ny240.out] at ho; have n0_ := Aside0.mk (Kd.R_over' q8_ (Kd.R_typed q21_) q19_ hg); have n1_ := Aside0.mk (blk_grown (g := gb231) (o := .cells #[.string ((rd_T43 t222 (ji16)).f4), .string x232001_19, .bool x232002_30] 25 (0, 0)) q50_ hg (Kd.R_away HO_7.out (fun _ hk => hk))); have n2_ := Aside0.mk (hb); have n3_ := Aside0.mk (ho); clear HO_4; clear BK231; clear HB; clear HO_7; have HO_4 := n0_; have BK231 := n1_; have HB := n2_; have HO242 := n3_; clear n0_ n1_ n2_ n3_; clear ho hb hg hat))
                   go_roundg kj30
                   case measure => have := HJ2.out; have := HK2.out; have := HJ9.out; have := HJ19.out; have := HJ30.out; omega
                   case rel => exact ⟨(y240), (x8_30), q3_, H', ⟨by have := HJ2.out; have := HK2.out; have := HJ9.out; have := HJ19.out; have := HJ30.out; omega⟩, ⟨q8_⟩, ⟨by (with_reducible repeat (first | apply Kd.R_alloc | apply Kd.R_drewN | apply Kd.R_drew)); exact Kd.R_mono HO242.out (fun _ hk => trivial)⟩, ⟨q25_⟩⟩
                  ·rw [if_neg c42] at H
                   exact absurd H q28_
                 ·replace c41 := Bool.eq_false_iff.mpr c41
                  subst c41
                  have H1 : (some (([] : List (S25)), 224)) = some (r1, r2) := by rw [if_neg (show ¬ (false = true) by decide)] at H; exact H
                  clear H
                  have H := H1
                  clear H1
                  simp only [Option.some.injEq, Prod.mk.injEq] at H
                  obtain ⟨rfl, rfl⟩ := H
                  obtain ⟨hcz45_0, hcz45_1, hcz45_2⟩ := cells3_ BK231.out
                  obtain ⟨hfz45_0, hfz45_1, hfz45_2⟩ := frz3_ BK231.out
                  go_wp2_with (first | ((with_reducible refine gate_callee (f := 18) rfl ?_); refine goesL_ (some 83) rfl rfl Tryd.func18 q9_ rfl #[.string ((rd_T43 t222 (ji16)).f4)] rfl q63_ ?_; (with_reducible refine (rosterref22_isUTF8.calls ((rd_T43 t222 (ji16)).f4) true _ A38.out ?sideT).mono ?_); (case sideT => exact HTB.out.at q86_); rintro e w' ⟨rfl, ⟨nd, rfl⟩⟩; refine ⟨_, rfl, ?_⟩) | (go_at_call 18; (with_reducible refine (rosterref22_isUTF8.calls x232001_19 false _ A40.out ?sideT).mono ?_); (case sideT => exact HTB.out.at q86_); rintro e w' ⟨rfl, ⟨nd, rfl⟩⟩))
                  go_ret2
                  exact ⟨_, q58_, q27_, q25_⟩
                ·replace c39 := Bool.eq_false_iff.mpr c39
                 subst c39
                 have H1 : (some (([] : List (S25)), 224)) = some (r1, r2) := by rw [if_neg (show ¬ (false = true) by decide)] at H; exact H
                 clear H
                 have H := H1
                 clear H1
                 simp only [Option.some.injEq, Prod.mk.injEq] at H
                 obtain ⟨rfl, rfl⟩ := H
                 obtain ⟨hcz46_0, hcz46_1, hcz46_2⟩ := cells3_ BK231.out
                 obtain ⟨hfz46_0, hfz46_1, hfz46_2⟩ := frz3_ BK231.out
                 go_wp2_with (first | ((with_reducible refine gate_callee (f := 18) rfl ?_); refine goesL_ (some 83) rfl rfl Tryd.func18 q9_ rfl #[.string ((rd_T43 t222 (ji16)).f4)] rfl q63_ ?_; (with_reducible refine (rosterref22_isUTF8.calls ((rd_T43 t222 (ji16)).f4) false _ A38.out ?sideT).mono ?_); (case sideT => exact HTB.out.at q86_); rintro e w' ⟨rfl, ⟨nd, rfl⟩⟩; refine ⟨_, rfl, ?_⟩))
                 go_ret2
                 exact ⟨_, q58_, q27_, q25_⟩
           ·rw [if_neg c18] at H
            exact absurd H q28_
          ·rw [if_neg c17] at H
           exact absurd H q28_
      ·rw [if_neg c9] at H
       have c9b0 : decide (x8_2 < (t222.length : Int)) = false := decide_eq_false c9
       clear c9
       simp only [Option.some.injEq, Prod.mk.injEq] at H
       obtain ⟨rfl, rfl⟩ := H
       obtain ⟨Ao47, co47, eo47⟩ := Kd.R_slice HO_4.out
       subst eo47
       go_wp2
       go_ret2
       exact ⟨_, q4_, q21_, q1_⟩
def view_DecodeKeys.up (x : W.KeyT) : S25 := ⟨x.1, x.2.1, x.2.2⟩
def view_DecodeKeys.f (a0 : ByteArray) : Option (List S25 × Int) :=
 if a0.size ≤ 2097152 then some ((W.decKeys a0).1.map view_DecodeKeys.up, (W.decKeys a0).2) else none
theorem view_DecodeKeys.calls (a0 : ByteArray) (r1 : List S25) (r2 : Int) (w : World) (h : view_DecodeKeys.f a0 = some (r1, r2)) :
  Calls Tryd.prog 10 #[.string a0] w fun e w' => ∃ v0_ : Value, e = .returned (.tuple #[v0_, .int .i64 r2]) ∧ Kd.R k25 25 w' w.heap.size (fun _ => True) v0_ r1 ∧ Below w.heap.size w w' := by
 unfold view_DecodeKeys.f at h
 by_cases c : a0.size ≤ 2097152
 ·rw [if_pos c] at h
  simp only [Option.some.injEq, Prod.mk.injEq] at h
  obtain ⟨rfl, rfl⟩ := h
  refine (W.decKeys_any a0 w c).mono ?_
  rintro e w' ⟨v, h1, h2, h3⟩
  exact ⟨v, h1, W.R_of_map (d := W.kSK) view_DecodeKeys.up (fun _ => rfl) h2, h3⟩
 ·rw [if_neg c] at h
  cases h
end Go.Proofs.YtogjljpncdmlkaaDoor.GV
end
