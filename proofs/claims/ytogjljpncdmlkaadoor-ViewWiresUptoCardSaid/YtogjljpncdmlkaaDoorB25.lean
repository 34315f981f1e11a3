/- Texts of this claim in one: GVx8 -/
import Derived.Test.YtogjljpncdmlkaaDoorB3
import Derived.Test.YtogjljpncdmlkaaDoorB20
import Derived.Test.YtogjljpncdmlkaaDoorB24
import Derived.Test.YtogjljpncdmlkaaDoorB21
section
namespace Go.Proofs.YtogjljpncdmlkaaDoor.GV
open Go.RowKit Go.Proofs.YtogjljpncdmlkaaDoorW.PrintWords Go.Proofs.YtogjljpncdmlkaaDoorW.PrintLast Go.Proofs.YtogjljpncdmlkaaDoorW.PrintMore
attribute [local go_sem] max2_int min2_int max_two min_two max_three min_three max_four min_four   -- for this text's walks alone
set_option linter.unusedVariables false
set_option linter.unusedSimpArgs false
def rosterref22_DecodePage.j0 : Nat → List (S43) → Bool → Option (Int × ByteArray × Int)
 | 0, _, _ => none
 | k + 1, x5, x36 => if x36 = true then (some (0, (⟨#[]⟩ : ByteArray), 224)) else (if 1 < (x5.length : Int) then ((rosterref02_Int.f k ((rd_T43 x5 1).f4)).bind fun bt298 => (if bt298.2 = 0 then (if bt298.1 < 0 then (some (0, (⟨#[]⟩ : ByteArray), 224)) else (if bt298.1 > 2147483647 then (some (0, (⟨#[]⟩ : ByteArray), 224)) else (if 2 < (x5.length : Int) then (some (bt298.1, (rd_T43 x5 2).f4, 0)) else (none)))) else (some (0, (⟨#[]⟩ : ByteArray), 224)))) else (none))
def rosterref22_DecodePage.f (k : Nat) (a0 : ByteArray) : Option (Int × ByteArray × Int) := (rosterref02_Tree.f a0).bind fun bt289 => (if bt289.2.1 = 0 then (if (bt289.1.length : Int) = 3 then ((rosterref22_is.f bt289.1 0 1 0 16 true).bind fun t294 => (if t294 = true then ((rosterref22_is.f bt289.1 1 2 0 2 false).bind fun t295 => (if t295 = true then ((rosterref22_is.f bt289.1 2 2 0 4 false).bind fun t296 => (rosterref22_DecodePage.j0 k bt289.1 (!t296))) else (rosterref22_DecodePage.j0 k bt289.1 true))) else (rosterref22_DecodePage.j0 k bt289.1 true))) else (rosterref22_DecodePage.j0 k bt289.1 true)) else (rosterref22_DecodePage.j0 k bt289.1 true))
set_option maxHeartbeats 8000000 in
set_option maxRecDepth 100000 in
theorem rosterref22_DecodePage.calls (k : Nat) (a0 : ByteArray) (r1 : Int) (r2 : ByteArray) (r3 : Int) (w : World) (h : rosterref22_DecodePage.f k a0 = some (r1, r2, r3)) :
  Calls Tryd.prog 13 #[.string a0] w fun e w' => e = .returned (.tuple #[.int .i64 r1, .string r2, .int .i64 r3]) ∧ Below w.heap.size w w' := by
 have HB := Aside0.mk (Below.refl w.heap.size w)
 have H : ((rosterref02_Tree.f a0).bind fun bt289 => (if bt289.2.1 = 0 then (if (bt289.1.length : Int) = 3 then ((rosterref22_is.f bt289.1 0 1 0 16 true).bind fun t294 => (if t294 = true then ((rosterref22_is.f bt289.1 1 2 0 2 false).bind fun t295 => (if t295 = true then ((rosterref22_is.f bt289.1 2 2 0 4 false).bind fun t296 => (rosterref22_DecodePage.j0 k bt289.1 (!t296))) else (rosterref22_DecodePage.j0 k bt289.1 true))) else (rosterref22_DecodePage.j0 k bt289.1 true))) else (rosterref22_DecodePage.j0 k bt289.1 true)) else (rosterref22_DecodePage.j0 k bt289.1 true))) = some (r1, r2, r3) := h
 clear h
 replace H := Option.bind_eq_some_iff.mp H
 obtain ⟨⟨t289, t290, t291⟩, A20, H⟩ := H
 replace H : (if t290 = 0 then (if (t289.length : Int) = 3 then ((rosterref22_is.f t289 0 1 0 16 true).bind fun t294 => (if t294 = true then ((rosterref22_is.f t289 1 2 0 2 false).bind fun t295 => (if t295 = true then ((rosterref22_is.f t289 2 2 0 4 false).bind fun t296 => (rosterref22_DecodePage.j0 k t289 (!t296))) else (rosterref22_DecodePage.j0 k t289 true))) else (rosterref22_DecodePage.j0 k t289 true))) else (rosterref22_DecodePage.j0 k t289 true)) else (rosterref22_DecodePage.j0 k t289 true)) = some (r1, r2, r3) := H
 have A2 := Aside0.mk A20
 clear A20
 have HC3 := Aside0.mk H
 clear H
 go_enter Tryd.func13, Tryd.ntmps13
 go_upto_region 2 with (first | (go_at_call 27; (with_reducible refine (rosterref02_Tree.calls a0 t289 t290 t291 _ A2.out).mono ?_); rintro e w4 ⟨v292, rfl, ho0, hb⟩; have n0_ := Aside0.mk (Kd.R_lower ho0 (below_size q1_)); have n1_ := Aside0.mk (below_step q1_ hb); clear HB; have HO293 := n0_; have HB := n1_; clear n0_ n1_; (try clear hb); (try clear hb2); (try clear hk); (try clear hi); (try clear ho0)))
 repeat (go_quiet (fail); go_upto_region 2 with (first | (go_at_call 27; (with_reducible refine (rosterref02_Tree.calls a0 t289 t290 t291 _ A2.out).mono ?_); rintro e w4 ⟨v292, rfl, ho0, hb⟩; have n0_ := Aside0.mk (Kd.R_lower ho0 (below_size q1_)); have n1_ := Aside0.mk (below_step q1_ hb); clear HB; have HO293 := n0_; have HB := n1_; clear n0_ n1_; (try clear hb); (try clear hb2); (try clear hk); (try clear hi); (try clear ho0))))
 (try simp only [Act.put, List.setIfInBounds_toArray, List.set_cons_zero, List.set_cons_succ])
 go_cut [36] (fun v36 wc => ∃ (kq : Nat) (x36_2 : Bool), v36 = .bool x36_2 ∧ Aside0 (rosterref22_DecodePage.j0 kq t289 x36_2 = some (r1, r2, r3)) ∧ Aside0 (kq ≤ k) ∧ Aside0 (Kd.R k43 43 wc w.heap.size (fun _ => True) v292 t289) ∧ Aside0 (Below w.heap.size w wc))
 case first =>
  have H := HC3.out
  clear HC3
  by_cases c5 : t290 = 0
  ·rw [if_pos c5] at H
   have c5b0 : (t290 == 0) = true := beq_iff_eq.mpr c5
   have c5b1 : (t290 != 0) = false := bne_eq_false_iff_eq.mpr c5
   clear c5
   (first | rw [c5b0] | rw [c5be] | (simp only [i64_w, i32_w]; rw [c5b0]) | skip)
   by_cases c6 : (t289.length : Int) = 3
   ·rw [if_pos c6] at H
    have c6b0 : ((t289.length : Int) == 3) = true := beq_iff_eq.mpr c6
    have c6b1 : ((t289.length : Int) != 3) = false := bne_eq_false_iff_eq.mpr c6
    clear c6
    replace H := Option.bind_eq_some_iff.mp H
    obtain ⟨t294, A70, H⟩ := H
    replace H : (if t294 = true then ((rosterref22_is.f t289 1 2 0 2 false).bind fun t295 => (if t295 = true then ((rosterref22_is.f t289 2 2 0 4 false).bind fun t296 => (rosterref22_DecodePage.j0 k t289 (!t296))) else (rosterref22_DecodePage.j0 k t289 true))) else (rosterref22_DecodePage.j0 k t289 true)) = some (r1, r2, r3) := H
    have A7 := Aside0.mk A70
    clear A70
    by_cases c8 : t294 = true
    ·subst c8
     have H1 : ((rosterref22_is.f t289 1 2 0 2 false).bind fun t295 => (if t295 = true then ((rosterref22_is.f t289 2 2 0 4 false).bind fun t296 => (rosterref22_DecodePage.j0 k t289 (!t296))) else (rosterref22_DecodePage.j0 k t289 true))) = some (r1, r2, r3) := by rw [if_pos rfl] at H; exact H
     clear H
     have H := H1
     clear H1
     replace H := Option.bind_eq_some_iff.mp H
     obtain ⟨t295, A90, H⟩ := H
     replace H : (if t295 = true then ((rosterref22_is.f t289 2 2 0 4 false).bind fun t296 => (rosterref22_DecodePage.j0 k t289 (!t296))) else (rosterref22_DecodePage.j0 k t289 true)) = some (r1, r2, r3) := H
     have A9 := Aside0.mk A90
     clear A90
     by_cases c10 : t295 = true
     ·subst c10
      have H1 : ((rosterref22_is.f t289 2 2 0 4 false).bind fun t296 => (rosterref22_DecodePage.j0 k t289 (!t296))) = some (r1, r2, r3) := by rw [if_pos rfl] at H; exact H
      clear H
      have H := H1
      clear H1
      replace H := Option.bind_eq_some_iff.mp H
      obtain ⟨t296, A110, H⟩ := H
      replace H : (rosterref22_DecodePage.j0 k t289 (!t296)) = some (r1, r2, r3) := H
      have A11 := Aside0.mk A110
      clear A110
      have H' := Aside0.mk H
      clear H
      obtain ⟨Ao12, co12, eo12⟩ := Kd.R_slice HO293.out
      subst eo12
      iterate 9 (try (first | go_quiet (first | (go_at_call 28; (with_reducible refine (rosterref22_is.calls _ _ t289 0 1 0 16 true true _ ?side1 ?side2 A7.out).mono ?_); (case side1 => repeat (first | exact (Kd.R_reads' HO293.out).2.2 | (with_reducible refine Kd.C_alloc ?_ _) | (with_reducible refine Kd.C_drewN ?_ _) | (with_reducible refine Kd.C_drew ?_))); (case side2 => exact (Kd.R_reads' HO293.out).2.1); rintro e w' ⟨rfl, ⟨nd, rfl⟩⟩; (try first | exact ⟨rfl, _, World.drewN_drewN _ _ _⟩ | exact ⟨rfl, _, Eq.trans (World.drewN_drewN _ _ _) (congrArg (World.drewN _) (Nat.add_assoc _ _ _))⟩)) | (go_at_call 28; (with_reducible refine (rosterref22_is.calls _ _ t289 1 2 0 2 false true _ ?side1 ?side2 A9.out).mono ?_); (case side1 => repeat (first | exact (Kd.R_reads' HO293.out).2.2 | (with_reducible refine Kd.C_alloc ?_ _) | (with_reducible refine Kd.C_drewN ?_ _) | (with_reducible refine Kd.C_drew ?_))); (case side2 => exact (Kd.R_reads' HO293.out).2.1); rintro e w' ⟨rfl, ⟨nd, rfl⟩⟩; (try first | exact ⟨rfl, _, World.drewN_drewN _ _ _⟩ | exact ⟨rfl, _, Eq.trans (World.drewN_drewN _ _ _) (congrArg (World.drewN _) (Nat.add_assoc _ _ _))⟩)) | (go_at_call 28; (with_reducible refine (rosterref22_is.calls _ _ t289 2 2 0 4 false t296 _ ?side1 ?side2 A11.out).mono ?_); (case side1 => repeat (first | exact (Kd.R_reads' HO293.out).2.2 | (with_reducible refine Kd.C_alloc ?_ _) | (with_reducible refine Kd.C_drewN ?_ _) | (with_reducible refine Kd.C_drew ?_))); (case side2 => exact (Kd.R_reads' HO293.out).2.1); rintro e w' ⟨rfl, ⟨nd, rfl⟩⟩; (try first | exact ⟨rfl, _, World.drewN_drewN _ _ _⟩ | exact ⟨rfl, _, Eq.trans (World.drewN_drewN _ _ _) (congrArg (World.drewN _) (Nat.add_assoc _ _ _))⟩))) | go_wp2_with (first | (go_at_call 28; (with_reducible refine (rosterref22_is.calls _ _ t289 0 1 0 16 true true _ ?side1 ?side2 A7.out).mono ?_); (case side1 => repeat (first | exact (Kd.R_reads' HO293.out).2.2 | (with_reducible refine Kd.C_alloc ?_ _) | (with_reducible refine Kd.C_drewN ?_ _) | (with_reducible refine Kd.C_drew ?_))); (case side2 => exact (Kd.R_reads' HO293.out).2.1); rintro e w' ⟨rfl, ⟨nd, rfl⟩⟩; (try first | exact ⟨rfl, _, World.drewN_drewN _ _ _⟩ | exact ⟨rfl, _, Eq.trans (World.drewN_drewN _ _ _) (congrArg (World.drewN _) (Nat.add_assoc _ _ _))⟩)) | (go_at_call 28; (with_reducible refine (rosterref22_is.calls _ _ t289 1 2 0 2 false true _ ?side1 ?side2 A9.out).mono ?_); (case side1 => repeat (first | exact (Kd.R_reads' HO293.out).2.2 | (with_reducible refine Kd.C_alloc ?_ _) | (with_reducible refine Kd.C_drewN ?_ _) | (with_reducible refine Kd.C_drew ?_))); (case side2 => exact (Kd.R_reads' HO293.out).2.1); rintro e w' ⟨rfl, ⟨nd, rfl⟩⟩; (try first | exact ⟨rfl, _, World.drewN_drewN _ _ _⟩ | exact ⟨rfl, _, Eq.trans (World.drewN_drewN _ _ _) (congrArg (World.drewN _) (Nat.add_assoc _ _ _))⟩)) | (go_at_call 28; (with_reducible refine (rosterref22_is.calls _ _ t289 2 2 0 4 false t296 _ ?side1 ?side2 A11.out).mono ?_); (case side1 => repeat (first | exact (Kd.R_reads' HO293.out).2.2 | (with_reducible refine Kd.C_alloc ?_ _) | (with_reducible refine Kd.C_drewN ?_ _) | (with_reducible refine Kd.C_drew ?_))); (case side2 => exact (Kd.R_reads' HO293.out).2.1); rintro e w' ⟨rfl, ⟨nd, rfl⟩⟩; (try first | exact ⟨rfl, _, World.drewN_drewN _ _ _⟩ | exact ⟨rfl, _, Eq.trans (World.drewN_drewN _ _ _) (congrArg (World.drewN _) (Nat.add_assoc _ _ _))⟩)))))
      go_meet
      case rel => exact ⟨_, (!t296), q3_, H', ⟨q42_⟩, ⟨q61_⟩, ⟨q1_⟩⟩
     ·replace c10 := Bool.eq_false_iff.mpr c10
      subst c10
      have H1 : (rosterref22_DecodePage.j0 k t289 true) = some (r1, r2, r3) := by rw [if_neg (show ¬ (false = true) by decide)] at H; exact H
      clear H
      have H := H1
      clear H1
      have H' := Aside0.mk H
      clear H
      obtain ⟨Ao13, co13, eo13⟩ := Kd.R_slice HO293.out
      subst eo13
      iterate 9 (try (first | go_quiet (first | (go_at_call 28; (with_reducible refine (rosterref22_is.calls _ _ t289 0 1 0 16 true true _ ?side1 ?side2 A7.out).mono ?_); (case side1 => repeat (first | exact (Kd.R_reads' HO293.out).2.2 | (with_reducible refine Kd.C_alloc ?_ _) | (with_reducible refine Kd.C_drewN ?_ _) | (with_reducible refine Kd.C_drew ?_))); (case side2 => exact (Kd.R_reads' HO293.out).2.1); rintro e w' ⟨rfl, ⟨nd, rfl⟩⟩; (try first | exact ⟨rfl, _, World.drewN_drewN _ _ _⟩ | exact ⟨rfl, _, Eq.trans (World.drewN_drewN _ _ _) (congrArg (World.drewN _) (Nat.add_assoc _ _ _))⟩)) | (go_at_call 28; (with_reducible refine (rosterref22_is.calls _ _ t289 1 2 0 2 false false _ ?side1 ?side2 A9.out).mono ?_); (case side1 => repeat (first | exact (Kd.R_reads' HO293.out).2.2 | (with_reducible refine Kd.C_alloc ?_ _) | (with_reducible refine Kd.C_drewN ?_ _) | (with_reducible refine Kd.C_drew ?_))); (case side2 => exact (Kd.R_reads' HO293.out).2.1); rintro e w' ⟨rfl, ⟨nd, rfl⟩⟩; (try first | exact ⟨rfl, _, World.drewN_drewN _ _ _⟩ | exact ⟨rfl, _, Eq.trans (World.drewN_drewN _ _ _) (congrArg (World.drewN _) (Nat.add_assoc _ _ _))⟩))) | go_wp2_with (first | (go_at_call 28; (with_reducible refine (rosterref22_is.calls _ _ t289 0 1 0 16 true true _ ?side1 ?side2 A7.out).mono ?_); (case side1 => repeat (first | exact (Kd.R_reads' HO293.out).2.2 | (with_reducible refine Kd.C_alloc ?_ _) | (with_reducible refine Kd.C_drewN ?_ _) | (with_reducible refine Kd.C_drew ?_))); (case side2 => exact (Kd.R_reads' HO293.out).2.1); rintro e w' ⟨rfl, ⟨nd, rfl⟩⟩; (try first | exact ⟨rfl, _, World.drewN_drewN _ _ _⟩ | exact ⟨rfl, _, Eq.trans (World.drewN_drewN _ _ _) (congrArg (World.drewN _) (Nat.add_assoc _ _ _))⟩)) | (go_at_call 28; (with_reducible refine (rosterref22_is.calls _ _ t289 1 2 0 2 false false _ ?side1 ?side2 A9.out).mono ?_); (case side1 => repeat (first | exact (Kd.R_reads' HO293.out).2.2 | (with_reducible refine Kd.C_alloc ?_ _) | (with_reducible refine Kd.C_drewN ?_ _) | (with_reducible refine Kd.C_drew ?_))); (case side2 => exact (Kd.R_reads' HO293.out).2.1); rintro e w' ⟨rfl, ⟨nd, rfl⟩⟩; (try first | exact ⟨rfl, _, World.drewN_drewN _ _ _⟩ | exact ⟨rfl, _, Eq.trans (World.drewN_drewN _ _ _) (congrArg (World.drewN _) (Nat.add_assoc _ _ _))⟩)))))
      go_meet
      case rel => exact ⟨_, (true), q3_, H', ⟨q42_⟩, ⟨q61_⟩, ⟨q1_⟩⟩
    ·replace c8 := Bool.eq_false_iff.mpr c8
     subst c8
     have H1 : (rosterref22_DecodePage.j0 k t289 true) = some (r1, r2, r3) := by rw [if_neg (show ¬ (false = true) by decide)] at H; exact H
     clear H
     have H := H1
     clear H1
     have H' := Aside0.mk H
     clear H
     obtain ⟨Ao14, co14, eo14⟩ := Kd.R_slice HO293.out
     subst eo14
     iterate 9 (try (first | go_quiet ((go_at_call 28; (with_reducible refine (rosterref22_is.calls _ _ t289 0 1 0 16 true false _ ?side1 ?side2 A7.out).mono ?_); (case side1 => repeat (first | exact (Kd.R_reads' HO293.out).2.2 | (with_reducible refine Kd.C_alloc ?_ _) | (with_reducible refine Kd.C_drewN ?_ _) | (with_reducible refine Kd.C_drew ?_))); (case side2 => exact (Kd.R_reads' HO293.out).2.1); rintro e w' ⟨rfl, ⟨nd, rfl⟩⟩; (try first | exact ⟨rfl, _, World.drewN_drewN _ _ _⟩ | exact ⟨rfl, _, Eq.trans (World.drewN_drewN _ _ _) (congrArg (World.drewN _) (Nat.add_assoc _ _ _))⟩))) | go_wp2_with (first | (go_at_call 28; (with_reducible refine (rosterref22_is.calls _ _ t289 0 1 0 16 true false _ ?side1 ?side2 A7.out).mono ?_); (case side1 => repeat (first | exact (Kd.R_reads' HO293.out).2.2 | (with_reducible refine Kd.C_alloc ?_ _) | (with_reducible refine Kd.C_drewN ?_ _) | (with_reducible refine Kd.C_drew ?_))); (case side2 => exact (Kd.R_reads' HO293.out).2.1); rintro e w' ⟨rfl, ⟨nd, rfl⟩⟩; (try first | exact ⟨rfl, _, World.drewN_drewN _ _ _⟩ | exact ⟨rfl, _, Eq.trans (World.drewN_drewN _ _ _) (congrArg (World.drewN _) (Nat.add_assoc _ _ _))⟩)))))
     go_meet
     case rel => exact ⟨_, (true), q3_, H', ⟨q42_⟩, ⟨q61_⟩, ⟨q1_⟩⟩
   ·rw [if_neg c6] at H
    have c6b0 : ((t289.length : Int) == 3) = false := beq_eq_false_iff_ne.mpr c6
    have c6b1 : ((t289.length : Int) != 3) = true := bne_iff_ne.mpr c6
    have H' := Aside0.mk H
    clear H
    obtain ⟨Ao15, co15, eo15⟩ := Kd.R_slice HO293.out
    subst eo15
    go_wp2
    repeat (go_quiet (fail); try go_wp2)
    go_meet
    case rel => exact ⟨_, (true), q3_, H', ⟨q42_⟩, ⟨q61_⟩, ⟨q1_⟩⟩
  ·rw [if_neg c5] at H
   have c5b0 : (t290 == 0) = false := beq_eq_false_iff_ne.mpr c5
   have c5b1 : (t290 != 0) = true := bne_iff_ne.mpr c5
   (first | rw [c5b0] | rw [c5be] | (simp only [i64_w, i32_w]; rw [c5b0]) | skip)
   have H' := Aside0.mk H
   clear H
   go_wp2
   repeat (go_quiet (fail); try go_wp2)
   go_meet
   case rel => exact ⟨_, (true), q3_, H', ⟨q42_⟩, ⟨q61_⟩, ⟨q1_⟩⟩
 case rest =>
  clear HC3
  try clear c1
  try clear p2
  try clear c5
  try clear c5b0
  try clear c5b1
  try clear c6
  try clear c6b0
  try clear c6b1
  try clear c8
  try clear c10
  try clear c13
  obtain ⟨kq, x36_2, rfl, HA, HJ2, HO_5, HB⟩ := hcut
  cases kq with
  | zero => exact absurd HA.out (by simp [rosterref22_DecodePage.j0])
  | succ kj2 =>
   have H := HA.out
   clear HA
   simp only [rosterref22_DecodePage.j0] at H
   by_cases c16 : x36_2 = true
   ·subst c16
    have H1 : (some (0, (⟨#[]⟩ : ByteArray), 224)) = some (r1, r2, r3) := by rw [if_pos rfl] at H; exact H
    clear H
    have H := H1
    clear H1
    simp only [Option.some.injEq, Prod.mk.injEq] at H
    obtain ⟨rfl, rfl, rfl⟩ := H
    go_wp2
    repeat (go_quiet (fail); try go_wp2)
    go_ret3
    exact ⟨q4_, q1_⟩
   ·replace c16 := Bool.eq_false_iff.mpr c16
    subst c16
    have H1 : (if 1 < (t289.length : Int) then ((rosterref02_Int.f kj2 ((rd_T43 t289 1).f4)).bind fun bt298 => (if bt298.2 = 0 then (if bt298.1 < 0 then (some (0, (⟨#[]⟩ : ByteArray), 224)) else (if bt298.1 > 2147483647 then (some (0, (⟨#[]⟩ : ByteArray), 224)) else (if 2 < (t289.length : Int) then (some (bt298.1, (rd_T43 t289 2).f4, 0)) else (none)))) else (some (0, (⟨#[]⟩ : ByteArray), 224)))) else (none)) = some (r1, r2, r3) := by rw [if_neg (show ¬ (false = true) by decide)] at H; exact H
    clear H
    have H := H1
    clear H1
    by_cases c17 : 1 < (t289.length : Int)
    ·rw [if_pos c17] at H
     have c17b0 : decide (1 < (t289.length : Int)) = true := decide_eq_true c17
     have c17b1 : decide (1 < t289.length) = true := decide_eq_true q2_
     have c17b2 : 1 < t289.length := by omega
     clear c17
     replace H := Option.bind_eq_some_iff.mp H
     obtain ⟨⟨t298, t299⟩, A180, H⟩ := H
     replace H : (if t299 = 0 then (if t298 < 0 then (some (0, (⟨#[]⟩ : ByteArray), 224)) else (if t298 > 2147483647 then (some (0, (⟨#[]⟩ : ByteArray), 224)) else (if 2 < (t289.length : Int) then (some (t298, (rd_T43 t289 2).f4, 0)) else (none)))) else (some (0, (⟨#[]⟩ : ByteArray), 224))) = some (r1, r2, r3) := H
     have A18 := Aside0.mk A180
     clear A180
     by_cases c19 : t299 = 0
     ·rw [if_pos c19] at H
      have c19b0 : (t299 == 0) = true := beq_iff_eq.mpr c19
      have c19b1 : (t299 != 0) = false := bne_eq_false_iff_eq.mpr c19
      clear c19
      by_cases c20 : t298 < 0
      ·rw [if_pos c20] at H
       have c20b0 : decide (t298 < 0) = true := decide_eq_true c20
       clear c20
       simp only [Option.some.injEq, Prod.mk.injEq] at H
       obtain ⟨rfl, rfl, rfl⟩ := H
       obtain ⟨Ao21, co21, eo21⟩ := Kd.R_slice HO_5.out
       subst eo21
       have p297 : 0 ≤ (1 : Int) := q2_
       have q297 : 1 < (t289.length : Int) := of_decide_eq_true q6_
       obtain ⟨ad297, e297, hx297_0, hx297_1, hx297_2, hx297_3, hx297_4⟩ := at_T43 (Kd.R_reads' HO_5.out).2.2 1 p297 q297
       cases e297
       (try simp only [show (1 : Int).toNat = 1 from rfl, Nat.reduceMul, Nat.reduceEqDiff, Go.Addr.add, ↓reduceIte] at hx297_0)
       (try simp only [show (1 : Int).toNat = 1 from rfl, Nat.reduceMul, Nat.reduceEqDiff, Go.Addr.add, ↓reduceIte] at hx297_1)
       (try simp only [show (1 : Int).toNat = 1 from rfl, Nat.reduceMul, Nat.reduceEqDiff, Go.Addr.add, ↓reduceIte] at hx297_2)
       (try simp only [show (1 : Int).toNat = 1 from rfl, Nat.reduceMul, Nat.reduceEqDiff, Go.Addr.add, ↓reduceIte] at hx297_3)
       (try simp only [show (1 : Int).toNat = 1 from rfl, Nat.reduceMul, Nat.reduceEqDiff, Go.Addr.add, ↓reduceIte] at hx297_4)
       have qi297 : (1 < t289.length) = True := eq_true q2_
       (try rw [show ((1 : Int)).toNat = 1 from rfl] at hx297_0)
       (try rw [show 1 * 5 = 5 from rfl] at hx297_0)
       (try rw [show ((1 : Int)).toNat = 1 from rfl] at hx297_1)
       (try rw [show 1 * 5 = 5 from rfl] at hx297_1)
       (try rw [show ((1 : Int)).toNat = 1 from rfl] at hx297_2)
       (try rw [show 1 * 5 = 5 from rfl] at hx297_2)
       (try rw [show ((1 : Int)).toNat = 1 from rfl] at hx297_3)
       (try rw [show 1 * 5 = 5 from rfl] at hx297_3)
       (try rw [show ((1 : Int)).toNat = 1 from rfl] at hx297_4)
       (try rw [show 1 * 5 = 5 from rfl] at hx297_4)
       replace p297 := eq_true p297
       replace q297 := eq_true q297
       iterate 9 (try (first | go_quiet (fail) | go_wp2_with (first | (go_at_call 34; (with_reducible refine (rosterref02_Int.calls kj2 ((rd_T43 t289 1).f4) t298 t299 _ A18.out).mono ?_); rintro e w22 ⟨rfl, hb⟩; have n0_ := Aside0.mk (Kd.R_below q33_ hb); have n1_ := Aside0.mk (below_step q1_ hb); clear HO_5; clear HB; have HO_5 := n0_; have HB := n1_; clear n0_ n1_; (try clear hb); (try clear hb2); (try clear hk); (try clear hi)))))
       go_ret3
       exact ⟨q4_, q1_⟩
      ·rw [if_neg c20] at H
       have c20b0 : decide (t298 < 0) = false := decide_eq_false c20
       clear c20
       by_cases c23 : t298 > 2147483647
       ·rw [if_pos c23] at H
        have c23b0 : decide (2147483647 < t298) = true := decide_eq_true c23
        clear c23
        simp only [Option.some.injEq, Prod.mk.injEq] at H
        obtain ⟨rfl, rfl, rfl⟩ := H
        obtain ⟨Ao24, co24, eo24⟩ := Kd.R_slice HO_5.out
        subst eo24
        have p297 : 0 ≤ (1 : Int) := q2_
        have q297 : 1 < (t289.length : Int) := of_decide_eq_true q6_
        obtain ⟨ad297, e297, hx297_0, hx297_1, hx297_2, hx297_3, hx297_4⟩ := at_T43 (Kd.R_reads' HO_5.out).2.2 1 p297 q297
        cases e297
        (try simp only [show (1 : Int).toNat = 1 from rfl, Nat.reduceMul, Nat.reduceEqDiff, Go.Addr.add, ↓reduceIte] at hx297_0)
        (try simp only [show (1 : Int).toNat = 1 from rfl, Nat.reduceMul, Nat.reduceEqDiff, Go.Addr.add, ↓reduceIte] at hx297_1)
        (try simp only [show (1 : Int).toNat = 1 from rfl, Nat.reduceMul, Nat.reduceEqDiff, Go.Addr.add, ↓reduceIte] at hx297_2)
        (try simp only [show (1 : Int).toNat = 1 from rfl, Nat.reduceMul, Nat.reduceEqDiff, Go.Addr.add, ↓reduceIte] at hx297_3)
        (try simp only [show (1 : Int).toNat = 1 from rfl, Nat.reduceMul, Nat.reduceEqDiff, Go.Addr.add, ↓reduceIte] at hx297_4)
        have qi297 : (1 < t289.length) = True := eq_true q2_
        (try rw [show ((1 : Int)).toNat = 1 from rfl] at hx297_0)
        (try rw [show 1 * 5 = 5 from rfl] at hx297_0)
        (try rw [show ((1 : Int)).toNat = 1 from rfl] at hx297_1)
        (try rw [show 1 * 5 = 5 from rfl] at hx297_1)
        (try rw [show ((1 : Int)).toNat = 1 from rfl] at hx297_2)
        (try rw [show 1 * 5 = 5 from rfl] at hx297_2)
        (try rw [show ((1 : Int)).toNat = 1 from rfl] at hx297_3)
        (try rw [show 1 * 5 = 5 from rfl] at hx297_3)
        (try rw [show ((1 : Int)).toNat = 1 from rfl] at hx297_4)
        (try rw [show 1 * 5 = 5 from rfl] at hx297_4)
        replace p297 := eq_true p297
        replace q297 := eq_true q297
        iterate 9 (try (first | go_quiet (fail) | go_wp2_with (first | (go_at_call 34; (with_reducible refine (rosterref02_Int.calls kj2 ((rd_T43 t289 1).f4) t298 t299 _ A18.out).mono ?_); rintro e w25 ⟨rfl, hb⟩; have n0_ := Aside0.mk (Kd.R_below q33_ hb); have n1_ := Aside0.mk (below_step q1_ hb); clear HO_5; clear HB; have HO_5 := n0_; have HB := n1_; clear n0_ n1_; (try clear hb); (try clear hb2); (try clear hk); (try clear hi)))))
        go_ret3
        exact ⟨q4_, q1_⟩
       ·rw [if_neg c23] at H
        have c23b0 : decide (2147483647 < t298) = false := decide_eq_false c23
        clear c23
        by_cases c26 : 2 < (t289.length : Int)
        ·rw [if_pos c26] at H
         have c26b0 : decide (2 < (t289.length : Int)) = true := decide_eq_true c26
         have c26b1 : decide (2 < t289.length) = true := decide_eq_true q2_
         have c26b2 : 2 < t289.length := by omega
         clear c26
         simp only [Option.some.injEq, Prod.mk.injEq] at H
         obtain ⟨rfl, rfl, rfl⟩ := H
         obtain ⟨Ao27, co27, eo27⟩ := Kd.R_slice HO_5.out
         subst eo27
         have p297 : 0 ≤ (1 : Int) := q2_
         have q297 : 1 < (t289.length : Int) := of_decide_eq_true q6_
         obtain ⟨ad297, e297, hx297_0, hx297_1, hx297_2, hx297_3, hx297_4⟩ := at_T43 (Kd.R_reads' HO_5.out).2.2 1 p297 q297
         cases e297
         (try simp only [show (1 : Int).toNat = 1 from rfl, Nat.reduceMul, Nat.reduceEqDiff, Go.Addr.add, ↓reduceIte] at hx297_0)
         (try simp only [show (1 : Int).toNat = 1 from rfl, Nat.reduceMul, Nat.reduceEqDiff, Go.Addr.add, ↓reduceIte] at hx297_1)
         (try simp only [show (1 : Int).toNat = 1 from rfl, Nat.reduceMul, Nat.reduceEqDiff, Go.Addr.add, ↓reduceIte] at hx297_2)
         (try simp only [show (1 : Int).toNat = 1 from rfl, Nat.reduceMul, Nat.reduceEqDiff, Go.Addr.add, ↓reduceIte] at hx297_3)
         (try simp only [show (1 : Int).toNat = 1 from rfl, Nat.reduceMul, Nat.reduceEqDiff, Go.Addr.add, ↓reduceIte] at hx297_4)
         have qi297 : (1 < t289.length) = True := eq_true q2_
         (try rw [show ((1 : Int)).toNat = 1 from rfl] at hx297_0)
         (try rw [show 1 * 5 = 5 from rfl] at hx297_0)
         (try rw [show ((1 : Int)).toNat = 1 from rfl] at hx297_1)
         (try rw [show 1 * 5 = 5 from rfl] at hx297_1)
         (try rw [show ((1 : Int)).toNat = 1 from rfl] at hx297_2)
         (try rw [show 1 * 5 = 5 from rfl] at hx297_2)
         (try rw [show ((1 : Int)).toNat = 1 from rfl] at hx297_3)
         (try rw [show 1 * 5 = 5 from rfl] at hx297_3)
         (try rw [show ((1 : Int)).toNat = 1 from rfl] at hx297_4)
         (try rw [show 1 * 5 = 5 from rfl] at hx297_4)
         replace p297 := eq_true p297
         replace q297 := eq_true q297
         iterate 9 (try (first | go_quiet (fail) | go_wp2_with (first | (go_at_call 34; (with_reducible refine (rosterref02_Int.calls kj2 ((rd_T43 t289 1).f4) t298 t299 _ A18.out).mono ?_); rintro e w28 ⟨rfl, hb⟩; have n0_ := Aside0.mk (Kd.R_below q33_ hb); have n1_ := Aside0.mk (below_step q1_ hb); clear HO_5; clear HB; have HO_5 := n0_; have HB := n1_; clear n0_ n1_; (try clear hb); (try clear hb2); (try clear hk); (try clear hi); have p300 : 0 ≤ (2 : Int) := q2_; have q300 : 2 < (t289.length : Int) := of_decide_eq_true q6_; obtain ⟨ad300, e300, hx300_0, hx300_1, hx300_2, hx300_3, hx300_4⟩ := at_T43 (Kd.R_reads' HO_5.out).2.2 2 p300 q300; obtain rfl : ad297 = ad300 := (by injection e300); (try simp only [show (2 : Int).toNat = 2 from rfl, Nat.reduceMul, Nat.reduceEqDiff, Go.Addr.add, ↓reduceIte] at hx300_0); (try simp only [show (2 : Int).toNat = 2 from rfl, Nat.reduceMul, Nat.reduceEqDiff, Go.Addr.add, ↓reduceIte] at hx300_1); (try simp only [show (2 : Int).toNat = 2 from rfl, Nat.reduceMul, Nat.reduceEqDiff, Go.Addr.add, ↓reduceIte] at hx300_2); (try simp only [show (2 : Int).toNat = 2 from rfl, Nat.reduceMul, Nat.reduceEqDiff, Go.Addr.add, ↓reduceIte] at hx300_3); (try simp only [show (2 : Int).toNat = 2 from rfl, Nat.reduceMul, Nat.reduceEqDiff, Go.Addr.add, ↓reduceIte] at hx300_4); have qi300 : (2 < t289.length) = True := eq_true q2_; (try rw [show ((2 : Int)).toNat = 2 from rfl] at hx300_0); (try rw [show 2 * 5 = 10 from rfl] at hx300_0); (try rw [show ((2 : Int)).toNat = 2 from rfl] at hx300_1); (try rw [show 2 * 5 = 10 from rfl] at hx300_1); (try rw [show ((2 : Int)).toNat = 2 from rfl] at hx300_2); (try rw [show 2 * 5 = 10 from rfl] at hx300_2); (try rw [show ((2 : Int)).toNat = 2 from rfl] at hx300_3); (try rw [show 2 * 5 = 10 from rfl] at hx300_3); (try rw [show ((2 : Int)).toNat = 2 from rfl] at hx300_4); (try rw [show 2 * 5 = 10 from rfl] at hx300_4); replace p300 := eq_true p300; replace q300 := eq_true q300))))
         go_ret3
         exact ⟨q4_, q1_⟩
        ·rw [if_neg c26] at H
         exact absurd H q28_
     ·rw [if_neg c19] at H
      have c19b0 : (t299 == 0) = false := beq_eq_false_iff_ne.mpr c19
      have c19b1 : (t299 != 0) = true := bne_iff_ne.mpr c19
      simp only [Option.some.injEq, Prod.mk.injEq] at H
      obtain ⟨rfl, rfl, rfl⟩ := H
      obtain ⟨Ao29, co29, eo29⟩ := Kd.R_slice HO_5.out
      subst eo29
      have p297 : 0 ≤ (1 : Int) := q2_
      have q297 : 1 < (t289.length : Int) := of_decide_eq_true q6_
      obtain ⟨ad297, e297, hx297_0, hx297_1, hx297_2, hx297_3, hx297_4⟩ := at_T43 (Kd.R_reads' HO_5.out).2.2 1 p297 q297
      cases e297
      (try simp only [show (1 : Int).toNat = 1 from rfl, Nat.reduceMul, Nat.reduceEqDiff, Go.Addr.add, ↓reduceIte] at hx297_0)
      (try simp only [show (1 : Int).toNat = 1 from rfl, Nat.reduceMul, Nat.reduceEqDiff, Go.Addr.add, ↓reduceIte] at hx297_1)
      (try simp only [show (1 : Int).toNat = 1 from rfl, Nat.reduceMul, Nat.reduceEqDiff, Go.Addr.add, ↓reduceIte] at hx297_2)
      (try simp only [show (1 : Int).toNat = 1 from rfl, Nat.reduceMul, Nat.reduceEqDiff, Go.Addr.add, ↓reduceIte] at hx297_3)
      (try simp only [show (1 : Int).toNat = 1 from rfl, Nat.reduceMul, Nat.reduceEqDiff, Go.Addr.add, ↓reduceIte] at hx297_4)
      have qi297 : (1 < t289.length) = True := eq_true q2_
      (try rw [show ((1 : Int)).toNat = 1 from rfl] at hx297_0)
      (try rw [show 1 * 5 = 5 from rfl] at hx297_0)
      (try rw [show ((1 : Int)).toNat = 1 from rfl] at hx297_1)
      (try rw [show 1 * 5 = 5 from rfl] at hx297_1)
      (try rw [show ((1 : Int)).toNat = 1 from rfl] at hx297_2)
      (try rw [show 1 * 5 = 5 from rfl] at hx297_2)
      (try rw [show ((1 : Int)).toNat = 1 from rfl] at hx297_3)
      (try rw [show 1 * 5 = 5 from rfl] at hx297_3)
      (try rw [show ((1 : Int)).toNat = 1 from rfl] at hx297_4)
      (try rw [show 1 * 5 = 5 from rfl] at hx297_4)
      replace p297 := eq_true p297
      replace q297 := eq_true q297
      iterate 9 (try (first | go_quiet (fail) | go_wp2_with (first | (go_at_call 34; (with_reducible refine (rosterref02_Int.calls kj2 ((rd_T43 t289 1).f4) t298 t299 _ A18.out).mono ?_); rintro e w30 ⟨rfl, hb⟩; have n0_ := Aside0.mk (Kd.R_below q33_ hb); have n1_ := Aside0.mk (below_step q1_ hb); clear HO_5; clear HB; have HO_5 := n0_; have HB := n1_; clear n0_ n1_; (try clear hb); (try clear hb2); (try clear hk); (try clear hi)))))
      go_ret3
      exact ⟨q4_, q1_⟩
    ·rw [if_neg c17] at H
     exact absurd H q28_
def view_DecodePage.f (a0 : ByteArray) : Option (Int × ByteArray × Int) :=
 if a0.size ≤ 2097152 then some ((W.decPage a0).1, (W.decPage a0).2.1, (W.decPage a0).2.2) else none
theorem view_DecodePage.calls (a0 : ByteArray) (r1 : Int) (r2 : ByteArray) (r3 : Int) (w : World) (h : view_DecodePage.f a0 = some (r1, r2, r3)) :
  Calls Tryd.prog 14 #[.string a0] w fun e w' => e = .returned (.tuple #[.int .i64 r1, .string r2, .int .i64 r3]) ∧ Below w.heap.size w w' := by
 unfold view_DecodePage.f at h
 by_cases c : a0.size ≤ 2097152
 ·rw [if_pos c] at h
  simp only [Option.some.injEq, Prod.mk.injEq] at h
  obtain ⟨rfl, rfl, rfl⟩ := h
  exact W.decPage_any a0 w c
 ·rw [if_neg c] at h
  cases h
end Go.Proofs.YtogjljpncdmlkaaDoor.GV
end
