-- Written for this claim by a program of this session (wip/tools/p2.py).
import Derived.Test.YtbpediccbeoifaaDoorGNx0
import Derived.Test.YtbpediccbeoifaaDoorGNx4
namespace Go.Proofs.YtbpediccbeoifaaDoor.GN
open Go.RowKit Go.Proofs.YtbpediccbeoifaaDoorW.PrintWords Go.Proofs.YtbpediccbeoifaaDoorW.PrintLast Go.Proofs.YtbpediccbeoifaaDoorW.PrintMore
attribute [local go_sem] max2_int min2_int max_two min_two max_three min_three max_four min_four   -- for this text's walks alone
set_option linter.unusedVariables false
set_option linter.unusedSimpArgs false

/-! ### rosterref13_sameChanges: function 26 -/
def rosterref13_sameChanges.l0 : Nat → List (S73) → List (S73) → Int → Option (Bool)
 | 0, _, _, _ => none
 | k + 1, x0, x1, x5 => if x5 < (x0.length : Int) then (if 0 ≤ x5 then (if x5 < (x1.length : Int) then ((rosterref13_sameTexts.f k ((rd_T73 x0 x5).f2) ((rd_T73 x1 x5).f2)).bind fun t123 => (if t123 = true then (if ((rd_T73 x0 x5).f0) = ((rd_T73 x1 x5).f0) then (if ((rd_T73 x0 x5).f1).toList = ((rd_T73 x1 x5).f1).toList then (rosterref13_sameChanges.l0 k x0 x1 (wrap64 (x5 + 1))) else (some false)) else (some false)) else (some false))) else (none)) else (none)) else (some true)
def rosterref13_sameChanges.f (k : Nat) (l0 : List (S73)) (l1 : List (S73)) : Option (Bool) := if (l0.length : Int) = (l1.length : Int) then (rosterref13_sameChanges.l0 k l0 l1 0) else (some false)
theorem rosterref13_sameChanges.mono_l : ∀ k, (∀ y0 y1 y2, LeO (rosterref13_sameChanges.l0 k y0 y1 y2) (rosterref13_sameChanges.l0 (k + 1) y0 y1 y2))
 | 0 => fun _ _ _ r h => by simp [rosterref13_sameChanges.l0] at h
 | k + 1 => by
  have ih0 := rosterref13_sameChanges.mono_l k
  ·intro y0 y1 y2
   unfold rosterref13_sameChanges.l0
   repeat' first
   | (with_reducible exact ih0 _ _ _)
   | (with_reducible exact rosterref13_sameTexts.mono _ _ _)
   | (with_reducible exact LeO.refl _)
   | (with_reducible exact LeO.none _)
   | (with_reducible refine LeO.ite ?_ ?_)
   | (with_reducible refine LeO.bind ?_ (fun _ => ?_))
   | exact ih0 _ _ _
   | exact rosterref13_sameTexts.mono _ _ _
   | exact LeO.none _
   | refine LeO.ite ?_ ?_
   | refine LeO.bind ?_ (fun _ => ?_)
theorem rosterref13_sameChanges.mono : ∀ a0 a1 k, LeO (rosterref13_sameChanges.f k a0 a1) (rosterref13_sameChanges.f (k + 1) a0 a1) := by
 intro a0 a1 k
 have ih0 := rosterref13_sameChanges.mono_l k
 unfold rosterref13_sameChanges.f
 repeat' first
   | (with_reducible exact ih0 _ _ _)
   | (with_reducible exact rosterref13_sameTexts.mono _ _ _)
   | (with_reducible exact LeO.refl _)
   | (with_reducible exact LeO.none _)
   | (with_reducible refine LeO.ite ?_ ?_)
   | (with_reducible refine LeO.bind ?_ (fun _ => ?_))
   | exact ih0 _ _ _
   | exact rosterref13_sameTexts.mono _ _ _
   | exact LeO.none _
   | refine LeO.ite ?_ ?_
   | refine LeO.bind ?_ (fun _ => ?_)
set_option maxHeartbeats 8000000 in
set_option maxRecDepth 100000 in
theorem rosterref13_sameChanges.calls (k : Nat) (A0 : Option Addr) (c0 : Nat) (l0 : List (S73)) (A1 : Option Addr) (c1 : Nat) (l1 : List (S73)) (r : Bool) (w : World) (hr0 : Kd.C k73 w A0 l0.length l0) (hc0 : l0.length ≤ c0) (hr1 : Kd.C k73 w A1 l1.length l1) (hc1 : l1.length ≤ c1) (h : rosterref13_sameChanges.f k l0 l1 = some r) :
  Calls Tryd.prog 26 #[.slice A0 l0.length c0, .slice A1 l1.length c1] w fun e w' => e = .returned (.bool r) ∧ Drawn0 w w' := by
 have HR0 := Aside0.mk hr0
 have HC0 := Aside0.mk hc0
 clear hr0 hc0
 have HR1 := Aside0.mk hr1
 have HC1 := Aside0.mk hc1
 clear hr1 hc1
 have H : (if (l0.length : Int) = (l1.length : Int) then (rosterref13_sameChanges.l0 k l0 l1 0) else (some false)) = some r := h
 clear h
 by_cases c3 : (l0.length : Int) = (l1.length : Int)
 ·rw [if_pos c3] at H
  have c3b0 : ((l0.length : Int) == (l1.length : Int)) = true := beq_iff_eq.mpr c3
  have c3b1 : ((l0.length : Int) != (l1.length : Int)) = false := bne_eq_false_iff_eq.mpr c3
  have c3b2 : (l0.length == l1.length) = true := by first | simpa using c3 | (simp at c3 ⊢; omega)
  clear c3
  have H' := Aside0.mk H
  clear H
  go_enter Tryd.func26, Tryd.ntmps26
  go_wp2
  repeat (go_quiet (fail); try go_wp2)
  go_loopg [5] k (fun kq v5 w' => ∃ (x5_1 : Int), v5 = .int .i64 x5_1 ∧ Aside0 (rosterref13_sameChanges.l0 kq l0 l1 x5_1 = some r) ∧ Aside0 (kq ≤ k) ∧ Drawn0 w w')
  case atStart => exact ⟨(0), (by first | rfl | (simp; done) | (simp [*]; done) | (simp [isEmpty_ne_]; done)), H', ⟨Nat.le_refl _⟩, by repeat (first | exact Drawn0.refl _ | apply Drawn0.step)⟩
  case round =>
   clear H'
   try clear c1
   try clear c2
   try clear p2
   try clear c3
   try clear c3b0
   try clear c3b1
   try clear c3b2
   obtain ⟨x5_1, rfl, HA, HK1, ⟨m1, rfl⟩⟩ := hrel
   cases gk with
   | zero => exact absurd HA.out (by simp [rosterref13_sameChanges.l0])
   | succ k1 =>
    have H := HA.out
    clear HA
    simp only [rosterref13_sameChanges.l0] at H
    by_cases c4 : x5_1 < (l0.length : Int)
    ·rw [if_pos c4] at H
     have c4b0 : decide (x5_1 < (l0.length : Int)) = true := decide_eq_true c4
     clear c4
     by_cases c5 : 0 ≤ x5_1
     ·rw [if_pos c5] at H
      have c5b0 : decide (0 ≤ x5_1) = true := decide_eq_true c5
      clear c5
      by_cases c6 : x5_1 < (l1.length : Int)
      ·rw [if_pos c6] at H
       have c6b0 : decide (x5_1 < (l1.length : Int)) = true := decide_eq_true c6
       clear c6
       replace H := Option.bind_eq_some_iff.mp H
       obtain ⟨t123, A70, H⟩ := H
       replace H : (if t123 = true then (if ((rd_T73 l0 x5_1).f0) = ((rd_T73 l1 x5_1).f0) then (if ((rd_T73 l0 x5_1).f1).toList = ((rd_T73 l1 x5_1).f1).toList then (rosterref13_sameChanges.l0 k1 l0 l1 (wrap64 (x5_1 + 1))) else (some false)) else (some false)) else (some false)) = some r := H
       have A7 := Aside0.mk A70
       clear A70
       by_cases c8 : t123 = true
       ·subst c8
        have H1 : (if ((rd_T73 l0 x5_1).f0) = ((rd_T73 l1 x5_1).f0) then (if ((rd_T73 l0 x5_1).f1).toList = ((rd_T73 l1 x5_1).f1).toList then (rosterref13_sameChanges.l0 k1 l0 l1 (wrap64 (x5_1 + 1))) else (some false)) else (some false)) = some r := by rw [if_pos rfl] at H; exact H
        clear H
        have H := H1
        clear H1
        by_cases c9 : ((rd_T73 l0 x5_1).f0) = ((rd_T73 l1 x5_1).f0)
        ·rw [if_pos c9] at H
         have c9b0 : (((rd_T73 l0 x5_1).f0) == ((rd_T73 l1 x5_1).f0)) = true := beq_iff_eq.mpr c9
         have c9b1 : (((rd_T73 l0 x5_1).f0) != ((rd_T73 l1 x5_1).f0)) = false := bne_eq_false_iff_eq.mpr c9
         clear c9
         by_cases c10 : ((rd_T73 l0 x5_1).f1).toList = ((rd_T73 l1 x5_1).f1).toList
         ·rw [if_pos c10] at H
          have c10b0 : (((rd_T73 l0 x5_1).f1).toList == ((rd_T73 l1 x5_1).f1).toList) = true := beq_iff_eq.mpr c10
          have c10b1 : (((rd_T73 l0 x5_1).f1).toList != ((rd_T73 l1 x5_1).f1).toList) = false := bne_eq_false_iff_eq.mpr c10
          clear c10
          have H' := Aside0.mk H
          clear H
          have p121 : 0 ≤ (x5_1 : Int) := of_decide_eq_true (by first | (with_reducible assumption) | assumption)
          have q121 : x5_1 < (l0.length : Int) := of_decide_eq_true (by first | (with_reducible assumption) | assumption)
          obtain ⟨ad121, A121_2, c121_2, e121, hx121_0, hx121_1, hx121_2, hl121_2, hi121_2⟩ := at_T73 HR0.out x5_1 p121 q121
          cases e121
          have HR121_2 := Aside0.mk hi121_2
          have HC121_2 := Aside0.mk hl121_2
          clear hi121_2 hl121_2
          replace p121 := eq_true p121
          replace q121 := eq_true q121
          have p122 : 0 ≤ (x5_1 : Int) := of_decide_eq_true (by first | (with_reducible assumption) | assumption)
          have q122 : x5_1 < (l1.length : Int) := of_decide_eq_true (by first | (with_reducible assumption) | assumption)
          obtain ⟨ad122, A122_2, c122_2, e122, hx122_0, hx122_1, hx122_2, hl122_2, hi122_2⟩ := at_T73 HR1.out x5_1 p122 q122
          cases e122
          have HR122_2 := Aside0.mk hi122_2
          have HC122_2 := Aside0.mk hl122_2
          clear hi122_2 hl122_2
          replace p122 := eq_true p122
          replace q122 := eq_true q122
          iterate 9 (try (first | go_quiet ((go_at_call 24; (with_reducible refine (rosterref13_sameTexts.calls k1 _ _ ((rd_T73 l0 x5_1).f2) _ _ ((rd_T73 l1 x5_1).f2) true _ ?side1 ?side2 ?side3 ?side4 A7.out).mono ?_); (case side1 => repeat (first | exact HR121_2.out | (with_reducible refine Kd.C_alloc ?_ _) | (with_reducible refine Kd.C_drewN ?_ _) | (with_reducible refine Kd.C_drew ?_))); (case side2 => first | exact HC121_2.out | exact Aside0.out (by assumption)); (case side3 => repeat (first | exact HR122_2.out | (with_reducible refine Kd.C_alloc ?_ _) | (with_reducible refine Kd.C_drewN ?_ _) | (with_reducible refine Kd.C_drew ?_))); (case side4 => first | exact HC122_2.out | exact Aside0.out (by assumption)); rintro e w' ⟨rfl, ⟨nd, rfl⟩⟩; (try first | exact ⟨rfl, _, World.drewN_drewN _ _ _⟩ | exact ⟨rfl, _, Eq.trans (World.drewN_drewN _ _ _) (congrArg (World.drewN _) (Nat.add_assoc _ _ _))⟩); have p124 : 0 ≤ (x5_1 : Int) := of_decide_eq_true (by first | (with_reducible assumption) | assumption); have q124 : x5_1 < (l0.length : Int) := of_decide_eq_true (by first | (with_reducible assumption) | assumption); obtain ⟨ad124, A124_2, c124_2, e124, hx124_0, hx124_1, hx124_2, hl124_2, hi124_2⟩ := at_T73 HR0.out x5_1 p124 q124; obtain rfl : ad121 = ad124 := (by injection e124); have HR124_2 := Aside0.mk hi124_2; have HC124_2 := Aside0.mk hl124_2; clear hi124_2 hl124_2; replace p124 := eq_true p124; replace q124 := eq_true q124; have ea_ := Option.some.inj (hx121_2.symm.trans hx124_2); injection ea_ with ea_ en_ ec_; subst ea_; subst ec_; clear en_; have p125 : 0 ≤ (x5_1 : Int) := of_decide_eq_true (by first | (with_reducible assumption) | assumption); have q125 : x5_1 < (l1.length : Int) := of_decide_eq_true (by first | (with_reducible assumption) | assumption); obtain ⟨ad125, A125_2, c125_2, e125, hx125_0, hx125_1, hx125_2, hl125_2, hi125_2⟩ := at_T73 HR1.out x5_1 p125 q125; obtain rfl : ad122 = ad125 := (by injection e125); have HR125_2 := Aside0.mk hi125_2; have HC125_2 := Aside0.mk hl125_2; clear hi125_2 hl125_2; replace p125 := eq_true p125; replace q125 := eq_true q125; have ea_ := Option.some.inj (hx122_2.symm.trans hx125_2); injection ea_ with ea_ en_ ec_; subst ea_; subst ec_; clear en_; have p126 : 0 ≤ (x5_1 : Int) := of_decide_eq_true (by first | (with_reducible assumption) | assumption); have q126 : x5_1 < (l0.length : Int) := of_decide_eq_true (by first | (with_reducible assumption) | assumption); obtain ⟨ad126, A126_2, c126_2, e126, hx126_0, hx126_1, hx126_2, hl126_2, hi126_2⟩ := at_T73 HR0.out x5_1 p126 q126; obtain rfl : ad121 = ad126 := (by injection e126); have HR126_2 := Aside0.mk hi126_2; have HC126_2 := Aside0.mk hl126_2; clear hi126_2 hl126_2; replace p126 := eq_true p126; replace q126 := eq_true q126; have ea_ := Option.some.inj (hx121_2.symm.trans hx126_2); injection ea_ with ea_ en_ ec_; subst ea_; subst ec_; clear en_; have p127 : 0 ≤ (x5_1 : Int) := of_decide_eq_true (by first | (with_reducible assumption) | assumption); have q127 : x5_1 < (l1.length : Int) := of_decide_eq_true (by first | (with_reducible assumption) | assumption); obtain ⟨ad127, A127_2, c127_2, e127, hx127_0, hx127_1, hx127_2, hl127_2, hi127_2⟩ := at_T73 HR1.out x5_1 p127 q127; obtain rfl : ad122 = ad127 := (by injection e127); have HR127_2 := Aside0.mk hi127_2; have HC127_2 := Aside0.mk hl127_2; clear hi127_2 hl127_2; replace p127 := eq_true p127; replace q127 := eq_true q127; have ea_ := Option.some.inj (hx122_2.symm.trans hx127_2); injection ea_ with ea_ en_ ec_; subst ea_; subst ec_; clear en_)) | go_wp2_with (first | (go_at_call 24; (with_reducible refine (rosterref13_sameTexts.calls k1 _ _ ((rd_T73 l0 x5_1).f2) _ _ ((rd_T73 l1 x5_1).f2) true _ ?side1 ?side2 ?side3 ?side4 A7.out).mono ?_); (case side1 => repeat (first | exact HR121_2.out | (with_reducible refine Kd.C_alloc ?_ _) | (with_reducible refine Kd.C_drewN ?_ _) | (with_reducible refine Kd.C_drew ?_))); (case side2 => first | exact HC121_2.out | exact Aside0.out (by assumption)); (case side3 => repeat (first | exact HR122_2.out | (with_reducible refine Kd.C_alloc ?_ _) | (with_reducible refine Kd.C_drewN ?_ _) | (with_reducible refine Kd.C_drew ?_))); (case side4 => first | exact HC122_2.out | exact Aside0.out (by assumption)); rintro e w' ⟨rfl, ⟨nd, rfl⟩⟩; (try first | exact ⟨rfl, _, World.drewN_drewN _ _ _⟩ | exact ⟨rfl, _, Eq.trans (World.drewN_drewN _ _ _) (congrArg (World.drewN _) (Nat.add_assoc _ _ _))⟩); have p124 : 0 ≤ (x5_1 : Int) := of_decide_eq_true (by first | (with_reducible assumption) | assumption); have q124 : x5_1 < (l0.length : Int) := of_decide_eq_true (by first | (with_reducible assumption) | assumption); obtain ⟨ad124, A124_2, c124_2, e124, hx124_0, hx124_1, hx124_2, hl124_2, hi124_2⟩ := at_T73 HR0.out x5_1 p124 q124; obtain rfl : ad121 = ad124 := (by injection e124); have HR124_2 := Aside0.mk hi124_2; have HC124_2 := Aside0.mk hl124_2; clear hi124_2 hl124_2; replace p124 := eq_true p124; replace q124 := eq_true q124; have ea_ := Option.some.inj (hx121_2.symm.trans hx124_2); injection ea_ with ea_ en_ ec_; subst ea_; subst ec_; clear en_; have p125 : 0 ≤ (x5_1 : Int) := of_decide_eq_true (by first | (with_reducible assumption) | assumption); have q125 : x5_1 < (l1.length : Int) := of_decide_eq_true (by first | (with_reducible assumption) | assumption); obtain ⟨ad125, A125_2, c125_2, e125, hx125_0, hx125_1, hx125_2, hl125_2, hi125_2⟩ := at_T73 HR1.out x5_1 p125 q125; obtain rfl : ad122 = ad125 := (by injection e125); have HR125_2 := Aside0.mk hi125_2; have HC125_2 := Aside0.mk hl125_2; clear hi125_2 hl125_2; replace p125 := eq_true p125; replace q125 := eq_true q125; have ea_ := Option.some.inj (hx122_2.symm.trans hx125_2); injection ea_ with ea_ en_ ec_; subst ea_; subst ec_; clear en_; have p126 : 0 ≤ (x5_1 : Int) := of_decide_eq_true (by first | (with_reducible assumption) | assumption); have q126 : x5_1 < (l0.length : Int) := of_decide_eq_true (by first | (with_reducible assumption) | assumption); obtain ⟨ad126, A126_2, c126_2, e126, hx126_0, hx126_1, hx126_2, hl126_2, hi126_2⟩ := at_T73 HR0.out x5_1 p126 q126; obtain rfl : ad121 = ad126 := (by injection e126); have HR126_2 := Aside0.mk hi126_2; have HC126_2 := Aside0.mk hl126_2; clear hi126_2 hl126_2; replace p126 := eq_true p126; replace q126 := eq_true q126; have ea_ := Option.some.inj (hx121_2.symm.trans hx126_2); injection ea_ with ea_ en_ ec_; subst ea_; subst ec_; clear en_; have p127 : 0 ≤ (x5_1 : Int) := of_decide_eq_true (by first | (with_reducible assumption) | assumption); have q127 : x5_1 < (l1.length : Int) := of_decide_eq_true (by first | (with_reducible assumption) | assumption); obtain ⟨ad127, A127_2, c127_2, e127, hx127_0, hx127_1, hx127_2, hl127_2, hi127_2⟩ := at_T73 HR1.out x5_1 p127 q127; obtain rfl : ad122 = ad127 := (by injection e127); have HR127_2 := Aside0.mk hi127_2; have HC127_2 := Aside0.mk hl127_2; clear hi127_2 hl127_2; replace p127 := eq_true p127; replace q127 := eq_true q127; have ea_ := Option.some.inj (hx122_2.symm.trans hx127_2); injection ea_ with ea_ en_ ec_; subst ea_; subst ec_; clear en_))))
          go_roundg k1
          case measure => have := HK1.out; omega
          case rel => exact ⟨(wrap64 (x5_1 + 1)), (by first | rfl | (simp; done) | (simp [*]; done) | (simp [isEmpty_ne_]; done)), H', ⟨by have := HK1.out; omega⟩, by repeat (first | exact Drawn0.refl _ | apply Drawn0.step)⟩
         ·rw [if_neg c10] at H
          have c10b0 : (((rd_T73 l0 x5_1).f1).toList == ((rd_T73 l1 x5_1).f1).toList) = false := beq_eq_false_iff_ne.mpr c10
          have c10b1 : (((rd_T73 l0 x5_1).f1).toList != ((rd_T73 l1 x5_1).f1).toList) = true := bne_iff_ne.mpr c10
          obtain rfl := Option.some.inj H
          have p121 : 0 ≤ (x5_1 : Int) := of_decide_eq_true (by first | (with_reducible assumption) | assumption)
          have q121 : x5_1 < (l0.length : Int) := of_decide_eq_true (by first | (with_reducible assumption) | assumption)
          obtain ⟨ad121, A121_2, c121_2, e121, hx121_0, hx121_1, hx121_2, hl121_2, hi121_2⟩ := at_T73 HR0.out x5_1 p121 q121
          cases e121
          have HR121_2 := Aside0.mk hi121_2
          have HC121_2 := Aside0.mk hl121_2
          clear hi121_2 hl121_2
          replace p121 := eq_true p121
          replace q121 := eq_true q121
          have p122 : 0 ≤ (x5_1 : Int) := of_decide_eq_true (by first | (with_reducible assumption) | assumption)
          have q122 : x5_1 < (l1.length : Int) := of_decide_eq_true (by first | (with_reducible assumption) | assumption)
          obtain ⟨ad122, A122_2, c122_2, e122, hx122_0, hx122_1, hx122_2, hl122_2, hi122_2⟩ := at_T73 HR1.out x5_1 p122 q122
          cases e122
          have HR122_2 := Aside0.mk hi122_2
          have HC122_2 := Aside0.mk hl122_2
          clear hi122_2 hl122_2
          replace p122 := eq_true p122
          replace q122 := eq_true q122
          iterate 9 (try (first | go_quiet ((go_at_call 24; (with_reducible refine (rosterref13_sameTexts.calls k1 _ _ ((rd_T73 l0 x5_1).f2) _ _ ((rd_T73 l1 x5_1).f2) true _ ?side1 ?side2 ?side3 ?side4 A7.out).mono ?_); (case side1 => repeat (first | exact HR121_2.out | (with_reducible refine Kd.C_alloc ?_ _) | (with_reducible refine Kd.C_drewN ?_ _) | (with_reducible refine Kd.C_drew ?_))); (case side2 => first | exact HC121_2.out | exact Aside0.out (by assumption)); (case side3 => repeat (first | exact HR122_2.out | (with_reducible refine Kd.C_alloc ?_ _) | (with_reducible refine Kd.C_drewN ?_ _) | (with_reducible refine Kd.C_drew ?_))); (case side4 => first | exact HC122_2.out | exact Aside0.out (by assumption)); rintro e w' ⟨rfl, ⟨nd, rfl⟩⟩; (try first | exact ⟨rfl, _, World.drewN_drewN _ _ _⟩ | exact ⟨rfl, _, Eq.trans (World.drewN_drewN _ _ _) (congrArg (World.drewN _) (Nat.add_assoc _ _ _))⟩); have p124 : 0 ≤ (x5_1 : Int) := of_decide_eq_true (by first | (with_reducible assumption) | assumption); have q124 : x5_1 < (l0.length : Int) := of_decide_eq_true (by first | (with_reducible assumption) | assumption); obtain ⟨ad124, A124_2, c124_2, e124, hx124_0, hx124_1, hx124_2, hl124_2, hi124_2⟩ := at_T73 HR0.out x5_1 p124 q124; obtain rfl : ad121 = ad124 := (by injection e124); have HR124_2 := Aside0.mk hi124_2; have HC124_2 := Aside0.mk hl124_2; clear hi124_2 hl124_2; replace p124 := eq_true p124; replace q124 := eq_true q124; have ea_ := Option.some.inj (hx121_2.symm.trans hx124_2); injection ea_ with ea_ en_ ec_; subst ea_; subst ec_; clear en_; have p125 : 0 ≤ (x5_1 : Int) := of_decide_eq_true (by first | (with_reducible assumption) | assumption); have q125 : x5_1 < (l1.length : Int) := of_decide_eq_true (by first | (with_reducible assumption) | assumption); obtain ⟨ad125, A125_2, c125_2, e125, hx125_0, hx125_1, hx125_2, hl125_2, hi125_2⟩ := at_T73 HR1.out x5_1 p125 q125; obtain rfl : ad122 = ad125 := (by injection e125); have HR125_2 := Aside0.mk hi125_2; have HC125_2 := Aside0.mk hl125_2; clear hi125_2 hl125_2; replace p125 := eq_true p125; replace q125 := eq_true q125; have ea_ := Option.some.inj (hx122_2.symm.trans hx125_2); injection ea_ with ea_ en_ ec_; subst ea_; subst ec_; clear en_; have p126 : 0 ≤ (x5_1 : Int) := of_decide_eq_true (by first | (with_reducible assumption) | assumption); have q126 : x5_1 < (l0.length : Int) := of_decide_eq_true (by first | (with_reducible assumption) | assumption); obtain ⟨ad126, A126_2, c126_2, e126, hx126_0, hx126_1, hx126_2, hl126_2, hi126_2⟩ := at_T73 HR0.out x5_1 p126 q126; obtain rfl : ad121 = ad126 := (by injection e126); have HR126_2 := Aside0.mk hi126_2; have HC126_2 := Aside0.mk hl126_2; clear hi126_2 hl126_2; replace p126 := eq_true p126; replace q126 := eq_true q126; have ea_ := Option.some.inj (hx121_2.symm.trans hx126_2); injection ea_ with ea_ en_ ec_; subst ea_; subst ec_; clear en_; have p127 : 0 ≤ (x5_1 : Int) := of_decide_eq_true (by first | (with_reducible assumption) | assumption); have q127 : x5_1 < (l1.length : Int) := of_decide_eq_true (by first | (with_reducible assumption) | assumption); obtain ⟨ad127, A127_2, c127_2, e127, hx127_0, hx127_1, hx127_2, hl127_2, hi127_2⟩ := at_T73 HR1.out x5_1 p127 q127; obtain rfl : ad122 = ad127 := (by injection e127); have HR127_2 := Aside0.mk hi127_2; have HC127_2 := Aside0.mk hl127_2; clear hi127_2 hl127_2; replace p127 := eq_true p127; replace q127 := eq_true q127; have ea_ := Option.some.inj (hx122_2.symm.trans hx127_2); injection ea_ with ea_ en_ ec_; subst ea_; subst ec_; clear en_)) | go_wp2_with (first | (go_at_call 24; (with_reducible refine (rosterref13_sameTexts.calls k1 _ _ ((rd_T73 l0 x5_1).f2) _ _ ((rd_T73 l1 x5_1).f2) true _ ?side1 ?side2 ?side3 ?side4 A7.out).mono ?_); (case side1 => repeat (first | exact HR121_2.out | (with_reducible refine Kd.C_alloc ?_ _) | (with_reducible refine Kd.C_drewN ?_ _) | (with_reducible refine Kd.C_drew ?_))); (case side2 => first | exact HC121_2.out | exact Aside0.out (by assumption)); (case side3 => repeat (first | exact HR122_2.out | (with_reducible refine Kd.C_alloc ?_ _) | (with_reducible refine Kd.C_drewN ?_ _) | (with_reducible refine Kd.C_drew ?_))); (case side4 => first | exact HC122_2.out | exact Aside0.out (by assumption)); rintro e w' ⟨rfl, ⟨nd, rfl⟩⟩; (try first | exact ⟨rfl, _, World.drewN_drewN _ _ _⟩ | exact ⟨rfl, _, Eq.trans (World.drewN_drewN _ _ _) (congrArg (World.drewN _) (Nat.add_assoc _ _ _))⟩); have p124 : 0 ≤ (x5_1 : Int) := of_decide_eq_true (by first | (with_reducible assumption) | assumption); have q124 : x5_1 < (l0.length : Int) := of_decide_eq_true (by first | (with_reducible assumption) | assumption); obtain ⟨ad124, A124_2, c124_2, e124, hx124_0, hx124_1, hx124_2, hl124_2, hi124_2⟩ := at_T73 HR0.out x5_1 p124 q124; obtain rfl : ad121 = ad124 := (by injection e124); have HR124_2 := Aside0.mk hi124_2; have HC124_2 := Aside0.mk hl124_2; clear hi124_2 hl124_2; replace p124 := eq_true p124; replace q124 := eq_true q124; have ea_ := Option.some.inj (hx121_2.symm.trans hx124_2); injection ea_ with ea_ en_ ec_; subst ea_; subst ec_; clear en_; have p125 : 0 ≤ (x5_1 : Int) := of_decide_eq_true (by first | (with_reducible assumption) | assumption); have q125 : x5_1 < (l1.length : Int) := of_decide_eq_true (by first | (with_reducible assumption) | assumption); obtain ⟨ad125, A125_2, c125_2, e125, hx125_0, hx125_1, hx125_2, hl125_2, hi125_2⟩ := at_T73 HR1.out x5_1 p125 q125; obtain rfl : ad122 = ad125 := (by injection e125); have HR125_2 := Aside0.mk hi125_2; have HC125_2 := Aside0.mk hl125_2; clear hi125_2 hl125_2; replace p125 := eq_true p125; replace q125 := eq_true q125; have ea_ := Option.some.inj (hx122_2.symm.trans hx125_2); injection ea_ with ea_ en_ ec_; subst ea_; subst ec_; clear en_; have p126 : 0 ≤ (x5_1 : Int) := of_decide_eq_true (by first | (with_reducible assumption) | assumption); have q126 : x5_1 < (l0.length : Int) := of_decide_eq_true (by first | (with_reducible assumption) | assumption); obtain ⟨ad126, A126_2, c126_2, e126, hx126_0, hx126_1, hx126_2, hl126_2, hi126_2⟩ := at_T73 HR0.out x5_1 p126 q126; obtain rfl : ad121 = ad126 := (by injection e126); have HR126_2 := Aside0.mk hi126_2; have HC126_2 := Aside0.mk hl126_2; clear hi126_2 hl126_2; replace p126 := eq_true p126; replace q126 := eq_true q126; have ea_ := Option.some.inj (hx121_2.symm.trans hx126_2); injection ea_ with ea_ en_ ec_; subst ea_; subst ec_; clear en_; have p127 : 0 ≤ (x5_1 : Int) := of_decide_eq_true (by first | (with_reducible assumption) | assumption); have q127 : x5_1 < (l1.length : Int) := of_decide_eq_true (by first | (with_reducible assumption) | assumption); obtain ⟨ad127, A127_2, c127_2, e127, hx127_0, hx127_1, hx127_2, hl127_2, hi127_2⟩ := at_T73 HR1.out x5_1 p127 q127; obtain rfl : ad122 = ad127 := (by injection e127); have HR127_2 := Aside0.mk hi127_2; have HC127_2 := Aside0.mk hl127_2; clear hi127_2 hl127_2; replace p127 := eq_true p127; replace q127 := eq_true q127; have ea_ := Option.some.inj (hx122_2.symm.trans hx127_2); injection ea_ with ea_ en_ ec_; subst ea_; subst ec_; clear en_))))
          go_ret
          exact ⟨by first | rfl | (simp; done) | (simp [*]; done) | (simp [isEmpty_ne_]; done), by repeat (first | exact Drawn0.refl _ | apply Drawn0.step)⟩
        ·rw [if_neg c9] at H
         have c9b0 : (((rd_T73 l0 x5_1).f0) == ((rd_T73 l1 x5_1).f0)) = false := beq_eq_false_iff_ne.mpr c9
         have c9b1 : (((rd_T73 l0 x5_1).f0) != ((rd_T73 l1 x5_1).f0)) = true := bne_iff_ne.mpr c9
         obtain rfl := Option.some.inj H
         have p121 : 0 ≤ (x5_1 : Int) := of_decide_eq_true (by first | (with_reducible assumption) | assumption)
         have q121 : x5_1 < (l0.length : Int) := of_decide_eq_true (by first | (with_reducible assumption) | assumption)
         obtain ⟨ad121, A121_2, c121_2, e121, hx121_0, hx121_1, hx121_2, hl121_2, hi121_2⟩ := at_T73 HR0.out x5_1 p121 q121
         cases e121
         have HR121_2 := Aside0.mk hi121_2
         have HC121_2 := Aside0.mk hl121_2
         clear hi121_2 hl121_2
         replace p121 := eq_true p121
         replace q121 := eq_true q121
         have p122 : 0 ≤ (x5_1 : Int) := of_decide_eq_true (by first | (with_reducible assumption) | assumption)
         have q122 : x5_1 < (l1.length : Int) := of_decide_eq_true (by first | (with_reducible assumption) | assumption)
         obtain ⟨ad122, A122_2, c122_2, e122, hx122_0, hx122_1, hx122_2, hl122_2, hi122_2⟩ := at_T73 HR1.out x5_1 p122 q122
         cases e122
         have HR122_2 := Aside0.mk hi122_2
         have HC122_2 := Aside0.mk hl122_2
         clear hi122_2 hl122_2
         replace p122 := eq_true p122
         replace q122 := eq_true q122
         iterate 9 (try (first | go_quiet ((go_at_call 24; (with_reducible refine (rosterref13_sameTexts.calls k1 _ _ ((rd_T73 l0 x5_1).f2) _ _ ((rd_T73 l1 x5_1).f2) true _ ?side1 ?side2 ?side3 ?side4 A7.out).mono ?_); (case side1 => repeat (first | exact HR121_2.out | (with_reducible refine Kd.C_alloc ?_ _) | (with_reducible refine Kd.C_drewN ?_ _) | (with_reducible refine Kd.C_drew ?_))); (case side2 => first | exact HC121_2.out | exact Aside0.out (by assumption)); (case side3 => repeat (first | exact HR122_2.out | (with_reducible refine Kd.C_alloc ?_ _) | (with_reducible refine Kd.C_drewN ?_ _) | (with_reducible refine Kd.C_drew ?_))); (case side4 => first | exact HC122_2.out | exact Aside0.out (by assumption)); rintro e w' ⟨rfl, ⟨nd, rfl⟩⟩; (try first | exact ⟨rfl, _, World.drewN_drewN _ _ _⟩ | exact ⟨rfl, _, Eq.trans (World.drewN_drewN _ _ _) (congrArg (World.drewN _) (Nat.add_assoc _ _ _))⟩); have p124 : 0 ≤ (x5_1 : Int) := of_decide_eq_true (by first | (with_reducible assumption) | assumption); have q124 : x5_1 < (l0.length : Int) := of_decide_eq_true (by first | (with_reducible assumption) | assumption); obtain ⟨ad124, A124_2, c124_2, e124, hx124_0, hx124_1, hx124_2, hl124_2, hi124_2⟩ := at_T73 HR0.out x5_1 p124 q124; obtain rfl : ad121 = ad124 := (by injection e124); have HR124_2 := Aside0.mk hi124_2; have HC124_2 := Aside0.mk hl124_2; clear hi124_2 hl124_2; replace p124 := eq_true p124; replace q124 := eq_true q124; have ea_ := Option.some.inj (hx121_2.symm.trans hx124_2); injection ea_ with ea_ en_ ec_; subst ea_; subst ec_; clear en_; have p125 : 0 ≤ (x5_1 : Int) := of_decide_eq_true (by first | (with_reducible assumption) | assumption); have q125 : x5_1 < (l1.length : Int) := of_decide_eq_true (by first | (with_reducible assumption) | assumption); obtain ⟨ad125, A125_2, c125_2, e125, hx125_0, hx125_1, hx125_2, hl125_2, hi125_2⟩ := at_T73 HR1.out x5_1 p125 q125; obtain rfl : ad122 = ad125 := (by injection e125); have HR125_2 := Aside0.mk hi125_2; have HC125_2 := Aside0.mk hl125_2; clear hi125_2 hl125_2; replace p125 := eq_true p125; replace q125 := eq_true q125; have ea_ := Option.some.inj (hx122_2.symm.trans hx125_2); injection ea_ with ea_ en_ ec_; subst ea_; subst ec_; clear en_)) | go_wp2_with (first | (go_at_call 24; (with_reducible refine (rosterref13_sameTexts.calls k1 _ _ ((rd_T73 l0 x5_1).f2) _ _ ((rd_T73 l1 x5_1).f2) true _ ?side1 ?side2 ?side3 ?side4 A7.out).mono ?_); (case side1 => repeat (first | exact HR121_2.out | (with_reducible refine Kd.C_alloc ?_ _) | (with_reducible refine Kd.C_drewN ?_ _) | (with_reducible refine Kd.C_drew ?_))); (case side2 => first | exact HC121_2.out | exact Aside0.out (by assumption)); (case side3 => repeat (first | exact HR122_2.out | (with_reducible refine Kd.C_alloc ?_ _) | (with_reducible refine Kd.C_drewN ?_ _) | (with_reducible refine Kd.C_drew ?_))); (case side4 => first | exact HC122_2.out | exact Aside0.out (by assumption)); rintro e w' ⟨rfl, ⟨nd, rfl⟩⟩; (try first | exact ⟨rfl, _, World.drewN_drewN _ _ _⟩ | exact ⟨rfl, _, Eq.trans (World.drewN_drewN _ _ _) (congrArg (World.drewN _) (Nat.add_assoc _ _ _))⟩); have p124 : 0 ≤ (x5_1 : Int) := of_decide_eq_true (by first | (with_reducible assumption) | assumption); have q124 : x5_1 < (l0.length : Int) := of_decide_eq_true (by first | (with_reducible assumption) | assumption); obtain ⟨ad124, A124_2, c124_2, e124, hx124_0, hx124_1, hx124_2, hl124_2, hi124_2⟩ := at_T73 HR0.out x5_1 p124 q124; obtain rfl : ad121 = ad124 := (by injection e124); have HR124_2 := Aside0.mk hi124_2; have HC124_2 := Aside0.mk hl124_2; clear hi124_2 hl124_2; replace p124 := eq_true p124; replace q124 := eq_true q124; have ea_ := Option.some.inj (hx121_2.symm.trans hx124_2); injection ea_ with ea_ en_ ec_; subst ea_; subst ec_; clear en_; have p125 : 0 ≤ (x5_1 : Int) := of_decide_eq_true (by first | (with_reducible assumption) | assumption); have q125 : x5_1 < (l1.length : Int) := of_decide_eq_true (by first | (with_reducible assumption) | assumption); obtain ⟨ad125, A125_2, c125_2, e125, hx125_0, hx125_1, hx125_2, hl125_2, hi125_2⟩ := at_T73 HR1.out x5_1 p125 q125; obtain rfl : ad122 = ad125 := (by injection e125); have HR125_2 := Aside0.mk hi125_2; have HC125_2 := Aside0.mk hl125_2; clear hi125_2 hl125_2; replace p125 := eq_true p125; replace q125 := eq_true q125; have ea_ := Option.some.inj (hx122_2.symm.trans hx125_2); injection ea_ with ea_ en_ ec_; subst ea_; subst ec_; clear en_))))
         go_ret
         exact ⟨by first | rfl | (simp; done) | (simp [*]; done) | (simp [isEmpty_ne_]; done), by repeat (first | exact Drawn0.refl _ | apply Drawn0.step)⟩
       ·replace c8 := Bool.eq_false_iff.mpr c8
        subst c8
        have H1 : (some false) = some r := by rw [if_neg (show ¬ (false = true) by decide)] at H; exact H
        clear H
        have H := H1
        clear H1
        obtain rfl := Option.some.inj H
        have p121 : 0 ≤ (x5_1 : Int) := of_decide_eq_true (by first | (with_reducible assumption) | assumption)
        have q121 : x5_1 < (l0.length : Int) := of_decide_eq_true (by first | (with_reducible assumption) | assumption)
        obtain ⟨ad121, A121_2, c121_2, e121, hx121_0, hx121_1, hx121_2, hl121_2, hi121_2⟩ := at_T73 HR0.out x5_1 p121 q121
        cases e121
        have HR121_2 := Aside0.mk hi121_2
        have HC121_2 := Aside0.mk hl121_2
        clear hi121_2 hl121_2
        replace p121 := eq_true p121
        replace q121 := eq_true q121
        have p122 : 0 ≤ (x5_1 : Int) := of_decide_eq_true (by first | (with_reducible assumption) | assumption)
        have q122 : x5_1 < (l1.length : Int) := of_decide_eq_true (by first | (with_reducible assumption) | assumption)
        obtain ⟨ad122, A122_2, c122_2, e122, hx122_0, hx122_1, hx122_2, hl122_2, hi122_2⟩ := at_T73 HR1.out x5_1 p122 q122
        cases e122
        have HR122_2 := Aside0.mk hi122_2
        have HC122_2 := Aside0.mk hl122_2
        clear hi122_2 hl122_2
        replace p122 := eq_true p122
        replace q122 := eq_true q122
        iterate 9 (try (first | go_quiet ((go_at_call 24; (with_reducible refine (rosterref13_sameTexts.calls k1 _ _ ((rd_T73 l0 x5_1).f2) _ _ ((rd_T73 l1 x5_1).f2) false _ ?side1 ?side2 ?side3 ?side4 A7.out).mono ?_); (case side1 => repeat (first | exact HR121_2.out | (with_reducible refine Kd.C_alloc ?_ _) | (with_reducible refine Kd.C_drewN ?_ _) | (with_reducible refine Kd.C_drew ?_))); (case side2 => first | exact HC121_2.out | exact Aside0.out (by assumption)); (case side3 => repeat (first | exact HR122_2.out | (with_reducible refine Kd.C_alloc ?_ _) | (with_reducible refine Kd.C_drewN ?_ _) | (with_reducible refine Kd.C_drew ?_))); (case side4 => first | exact HC122_2.out | exact Aside0.out (by assumption)); rintro e w' ⟨rfl, ⟨nd, rfl⟩⟩; (try first | exact ⟨rfl, _, World.drewN_drewN _ _ _⟩ | exact ⟨rfl, _, Eq.trans (World.drewN_drewN _ _ _) (congrArg (World.drewN _) (Nat.add_assoc _ _ _))⟩))) | go_wp2_with (first | (go_at_call 24; (with_reducible refine (rosterref13_sameTexts.calls k1 _ _ ((rd_T73 l0 x5_1).f2) _ _ ((rd_T73 l1 x5_1).f2) false _ ?side1 ?side2 ?side3 ?side4 A7.out).mono ?_); (case side1 => repeat (first | exact HR121_2.out | (with_reducible refine Kd.C_alloc ?_ _) | (with_reducible refine Kd.C_drewN ?_ _) | (with_reducible refine Kd.C_drew ?_))); (case side2 => first | exact HC121_2.out | exact Aside0.out (by assumption)); (case side3 => repeat (first | exact HR122_2.out | (with_reducible refine Kd.C_alloc ?_ _) | (with_reducible refine Kd.C_drewN ?_ _) | (with_reducible refine Kd.C_drew ?_))); (case side4 => first | exact HC122_2.out | exact Aside0.out (by assumption)); rintro e w' ⟨rfl, ⟨nd, rfl⟩⟩; (try first | exact ⟨rfl, _, World.drewN_drewN _ _ _⟩ | exact ⟨rfl, _, Eq.trans (World.drewN_drewN _ _ _) (congrArg (World.drewN _) (Nat.add_assoc _ _ _))⟩)))))
        go_ret
        exact ⟨by first | rfl | (simp; done) | (simp [*]; done) | (simp [isEmpty_ne_]; done), by repeat (first | exact Drawn0.refl _ | apply Drawn0.step)⟩
      ·rw [if_neg c6] at H
       exact absurd H (by simp)
     ·rw [if_neg c5] at H
      exact absurd H (by simp)
    ·rw [if_neg c4] at H
     have c4b0 : decide (x5_1 < (l0.length : Int)) = false := decide_eq_false c4
     clear c4
     obtain rfl := Option.some.inj H
     go_wp2
     repeat (go_quiet (fail); try go_wp2)
     go_ret
     exact ⟨by first | rfl | (simp; done) | (simp [*]; done) | (simp [isEmpty_ne_]; done), by repeat (first | exact Drawn0.refl _ | apply Drawn0.step)⟩
 ·rw [if_neg c3] at H
  have c3b0 : ((l0.length : Int) == (l1.length : Int)) = false := beq_eq_false_iff_ne.mpr c3
  have c3b1 : ((l0.length : Int) != (l1.length : Int)) = true := bne_iff_ne.mpr c3
  have c3b2 : (l0.length == l1.length) = false := by first | simpa using c3 | (simp at c3 ⊢; omega)
  obtain rfl := Option.some.inj H
  go_enter Tryd.func26, Tryd.ntmps26
  go_wp2
  repeat (go_quiet (fail); try go_wp2)
  go_ret
  exact ⟨by first | rfl | (simp; done) | (simp [*]; done) | (simp [isEmpty_ne_]; done), by repeat (first | exact Drawn0.refl _ | apply Drawn0.step)⟩

end Go.Proofs.YtbpediccbeoifaaDoor.GN
