-- Written for this claim by a program of this session (wip/tools/p2.py).
import Derived.Test.YtlhffhhbnoikoaaDoorGCx0
namespace Go.Proofs.YtlhffhhbnoikoaaDoor.GC
open Go.RowKit Go.Proofs.YtlhffhhbnoikoaaDoorW.PrintWords Go.Proofs.YtlhffhhbnoikoaaDoorW.PrintLast Go.Proofs.YtlhffhhbnoikoaaDoorW.PrintMore
attribute [local go_sem] max2_int min2_int max_two min_two max_three min_three max_four min_four   -- for this text's walks alone
set_option linter.unusedVariables false
set_option linter.unusedSimpArgs false

/-! ### rosterref12_second: function 14 -/
def rosterref12_second.l0 : Nat → List (S34) → Int → Bool → Int → Option (Bool)
 | 0, _, _, _, _ => none
 | k + 1, x0, x1, x5, x6 => if x6 ≥ 0 then (if 0 ≤ x6 then (if x6 < (x0.length : Int) then (if 0 ≤ x1 then (if x1 < (x0.length : Int) then (if ((rd_T34 x0 x6).f0) = ((rd_T34 x0 x1).f0) then (if ((rd_T34 x0 x6).f0) < ((rd_T34 x0 x1).f0) then (some (((rd_T34 x0 x6).f1) == 2)) else (rosterref12_second.l0 k x0 x1 true (wrap64 (x6 - 1)))) else (if ((rd_T34 x0 x6).f0) < ((rd_T34 x0 x1).f0) then (if x5 = true then (some (((rd_T34 x0 x6).f1) == 2)) else (some false)) else (rosterref12_second.l0 k x0 x1 x5 (wrap64 (x6 - 1))))) else (none)) else (none)) else (none)) else (none)) else (some false)
def rosterref12_second.f (k : Nat) (l0 : List (S34)) (a1 : Int) : Option (Bool) := rosterref12_second.l0 k l0 a1 false (wrap64 (a1 - 1))
theorem rosterref12_second.mono_l : ∀ k, (∀ y0 y1 y2 y3, LeO (rosterref12_second.l0 k y0 y1 y2 y3) (rosterref12_second.l0 (k + 1) y0 y1 y2 y3))
 | 0 => fun _ _ _ _ r h => by simp [rosterref12_second.l0] at h
 | k + 1 => by
  have ih0 := rosterref12_second.mono_l k
  ·intro y0 y1 y2 y3
   unfold rosterref12_second.l0
   repeat' first
   | (with_reducible exact ih0 _ _ _ _)
   | (with_reducible exact LeO.refl _)
   | (with_reducible exact LeO.none _)
   | (with_reducible refine LeO.ite ?_ ?_)
   | (with_reducible refine LeO.bind ?_ (fun _ => ?_))
   | exact ih0 _ _ _ _
   | exact LeO.none _
   | refine LeO.ite ?_ ?_
   | refine LeO.bind ?_ (fun _ => ?_)
theorem rosterref12_second.mono : ∀ a0 a1 k, LeO (rosterref12_second.f k a0 a1) (rosterref12_second.f (k + 1) a0 a1) := by
 intro a0 a1 k
 have ih0 := rosterref12_second.mono_l k
 unfold rosterref12_second.f
 repeat' first
   | (with_reducible exact ih0 _ _ _ _)
   | (with_reducible exact LeO.refl _)
   | (with_reducible exact LeO.none _)
   | (with_reducible refine LeO.ite ?_ ?_)
   | (with_reducible refine LeO.bind ?_ (fun _ => ?_))
   | exact ih0 _ _ _ _
   | exact LeO.none _
   | refine LeO.ite ?_ ?_
   | refine LeO.bind ?_ (fun _ => ?_)
set_option maxHeartbeats 8000000 in
set_option maxRecDepth 100000 in
theorem rosterref12_second.calls (k : Nat) (A0 : Option Addr) (c0 : Nat) (l0 : List (S34)) (a1 : Int) (r : Bool) (w : World) (hr0 : Kd.C k34 w A0 l0.length l0) (hc0 : l0.length ≤ c0) (h : rosterref12_second.f k l0 a1 = some r) :
  Calls Tryd.prog 14 #[.slice A0 l0.length c0, .int .i64 a1] w fun e w' => e = .returned (.bool r) ∧ Drawn0 w w' := by
 have HR0 := Aside0.mk hr0
 have HC0 := Aside0.mk hc0
 clear hr0 hc0
 have H : (rosterref12_second.l0 k l0 a1 false (wrap64 (a1 - 1))) = some r := h
 clear h
 have H' := Aside0.mk H
 clear H
 go_enter Tryd.func14, Tryd.ntmps14
 go_wp2
 repeat (go_quiet (fail); try go_wp2)
 go_loopg [5, 6] k (fun kq v5 v6 w' => ∃ (x5_1 : Bool) (x6_1 : Int), v5 = .bool x5_1 ∧ v6 = .int .i64 x6_1 ∧ Aside0 (rosterref12_second.l0 kq l0 a1 x5_1 x6_1 = some r) ∧ Aside0 (kq ≤ k) ∧ Drawn0 w w')
 case atStart => exact ⟨(false), (wrap64 (a1 - 1)), (by first | rfl | (simp; done) | (simp [*]; done) | (simp [isEmpty_ne_]; done)), (by first | rfl | (simp; done) | (simp [*]; done) | (simp [isEmpty_ne_]; done)), H', ⟨Nat.le_refl _⟩, by repeat (first | exact Drawn0.refl _ | apply Drawn0.step)⟩
 case round =>
  clear H'
  try clear c1
  try clear p2
  obtain ⟨x5_1, x6_1, rfl, rfl, HA, HK1, ⟨m1, rfl⟩⟩ := hrel
  cases gk with
  | zero => exact absurd HA.out (by simp [rosterref12_second.l0])
  | succ k1 =>
   have H := HA.out
   clear HA
   simp only [rosterref12_second.l0] at H
   by_cases c3 : x6_1 ≥ 0
   ·rw [if_pos c3] at H
    have c3b0 : decide (0 ≤ x6_1) = true := decide_eq_true c3
    clear c3
    by_cases c4 : 0 ≤ x6_1
    ·rw [if_pos c4] at H
     have c4b0 : decide (0 ≤ x6_1) = true := decide_eq_true c4
     clear c4
     by_cases c5 : x6_1 < (l0.length : Int)
     ·rw [if_pos c5] at H
      have c5b0 : decide (x6_1 < (l0.length : Int)) = true := decide_eq_true c5
      clear c5
      by_cases c6 : 0 ≤ a1
      ·rw [if_pos c6] at H
       have c6b0 : decide (0 ≤ a1) = true := decide_eq_true c6
       clear c6
       by_cases c7 : a1 < (l0.length : Int)
       ·rw [if_pos c7] at H
        have c7b0 : decide (a1 < (l0.length : Int)) = true := decide_eq_true c7
        clear c7
        by_cases c8 : ((rd_T34 l0 x6_1).f0) = ((rd_T34 l0 a1).f0)
        ·rw [if_pos c8] at H
         have c8b0 : (((rd_T34 l0 x6_1).f0) == ((rd_T34 l0 a1).f0)) = true := beq_iff_eq.mpr c8
         have c8b1 : (((rd_T34 l0 x6_1).f0) != ((rd_T34 l0 a1).f0)) = false := bne_eq_false_iff_eq.mpr c8
         clear c8
         by_cases c9 : ((rd_T34 l0 x6_1).f0) < ((rd_T34 l0 a1).f0)
         ·rw [if_pos c9] at H
          have c9b0 : decide (((rd_T34 l0 x6_1).f0) < ((rd_T34 l0 a1).f0)) = true := decide_eq_true c9
          clear c9
          obtain rfl := Option.some.inj H
          have p170 : 0 ≤ (x6_1 : Int) := of_decide_eq_true (by first | (with_reducible assumption) | assumption)
          have q170 : x6_1 < (l0.length : Int) := of_decide_eq_true (by first | (with_reducible assumption) | assumption)
          obtain ⟨ad170, A170_5, c170_5, e170, hx170_0, hx170_1, hx170_2, hx170_3, hx170_4, hx170_5, hx170_6, hx170_7, hx170_8, hl170_5, hi170_5⟩ := at_T34 HR0.out x6_1 p170 q170
          cases e170
          have HR170_5 := Aside0.mk hi170_5
          have HC170_5 := Aside0.mk hl170_5
          clear hi170_5 hl170_5
          replace p170 := eq_true p170
          replace q170 := eq_true q170
          have p171 : 0 ≤ (a1 : Int) := of_decide_eq_true (by first | (with_reducible assumption) | assumption)
          have q171 : a1 < (l0.length : Int) := of_decide_eq_true (by first | (with_reducible assumption) | assumption)
          obtain ⟨ad171, A171_5, c171_5, e171, hx171_0, hx171_1, hx171_2, hx171_3, hx171_4, hx171_5, hx171_6, hx171_7, hx171_8, hl171_5, hi171_5⟩ := at_T34 HR0.out a1 p171 q171
          obtain rfl : ad170 = ad171 := (by injection e171)
          have HR171_5 := Aside0.mk hi171_5
          have HC171_5 := Aside0.mk hl171_5
          clear hi171_5 hl171_5
          replace p171 := eq_true p171
          replace q171 := eq_true q171
          have p172 : 0 ≤ (x6_1 : Int) := of_decide_eq_true (by first | (with_reducible assumption) | assumption)
          have q172 : x6_1 < (l0.length : Int) := of_decide_eq_true (by first | (with_reducible assumption) | assumption)
          obtain ⟨ad172, A172_5, c172_5, e172, hx172_0, hx172_1, hx172_2, hx172_3, hx172_4, hx172_5, hx172_6, hx172_7, hx172_8, hl172_5, hi172_5⟩ := at_T34 HR0.out x6_1 p172 q172
          obtain rfl : ad170 = ad172 := (by injection e172)
          have HR172_5 := Aside0.mk hi172_5
          have HC172_5 := Aside0.mk hl172_5
          clear hi172_5 hl172_5
          replace p172 := eq_true p172
          replace q172 := eq_true q172
          have ea_ := Option.some.inj (hx170_5.symm.trans hx172_5)
          injection ea_ with ea_ en_ ec_
          subst ea_
          subst ec_
          clear en_
          have p173 : 0 ≤ (a1 : Int) := of_decide_eq_true (by first | (with_reducible assumption) | assumption)
          have q173 : a1 < (l0.length : Int) := of_decide_eq_true (by first | (with_reducible assumption) | assumption)
          obtain ⟨ad173, A173_5, c173_5, e173, hx173_0, hx173_1, hx173_2, hx173_3, hx173_4, hx173_5, hx173_6, hx173_7, hx173_8, hl173_5, hi173_5⟩ := at_T34 HR0.out a1 p173 q173
          obtain rfl : ad170 = ad173 := (by injection e173)
          have HR173_5 := Aside0.mk hi173_5
          have HC173_5 := Aside0.mk hl173_5
          clear hi173_5 hl173_5
          replace p173 := eq_true p173
          replace q173 := eq_true q173
          have ea_ := Option.some.inj (hx171_5.symm.trans hx173_5)
          injection ea_ with ea_ en_ ec_
          subst ea_
          subst ec_
          clear en_
          have p174 : 0 ≤ (x6_1 : Int) := of_decide_eq_true (by first | (with_reducible assumption) | assumption)
          have q174 : x6_1 < (l0.length : Int) := of_decide_eq_true (by first | (with_reducible assumption) | assumption)
          obtain ⟨ad174, A174_5, c174_5, e174, hx174_0, hx174_1, hx174_2, hx174_3, hx174_4, hx174_5, hx174_6, hx174_7, hx174_8, hl174_5, hi174_5⟩ := at_T34 HR0.out x6_1 p174 q174
          obtain rfl : ad170 = ad174 := (by injection e174)
          have HR174_5 := Aside0.mk hi174_5
          have HC174_5 := Aside0.mk hl174_5
          clear hi174_5 hl174_5
          replace p174 := eq_true p174
          replace q174 := eq_true q174
          have ea_ := Option.some.inj (hx170_5.symm.trans hx174_5)
          injection ea_ with ea_ en_ ec_
          subst ea_
          subst ec_
          clear en_
          go_wp2
          repeat (go_quiet (fail); try go_wp2)
          go_ret
          exact ⟨by first | rfl | (simp; done) | (simp [*]; done) | (simp [isEmpty_ne_]; done), by repeat (first | exact Drawn0.refl _ | apply Drawn0.step)⟩
         ·rw [if_neg c9] at H
          have c9b0 : decide (((rd_T34 l0 x6_1).f0) < ((rd_T34 l0 a1).f0)) = false := decide_eq_false c9
          clear c9
          have H' := Aside0.mk H
          clear H
          have p170 : 0 ≤ (x6_1 : Int) := of_decide_eq_true (by first | (with_reducible assumption) | assumption)
          have q170 : x6_1 < (l0.length : Int) := of_decide_eq_true (by first | (with_reducible assumption) | assumption)
          obtain ⟨ad170, A170_5, c170_5, e170, hx170_0, hx170_1, hx170_2, hx170_3, hx170_4, hx170_5, hx170_6, hx170_7, hx170_8, hl170_5, hi170_5⟩ := at_T34 HR0.out x6_1 p170 q170
          cases e170
          have HR170_5 := Aside0.mk hi170_5
          have HC170_5 := Aside0.mk hl170_5
          clear hi170_5 hl170_5
          replace p170 := eq_true p170
          replace q170 := eq_true q170
          have p171 : 0 ≤ (a1 : Int) := of_decide_eq_true (by first | (with_reducible assumption) | assumption)
          have q171 : a1 < (l0.length : Int) := of_decide_eq_true (by first | (with_reducible assumption) | assumption)
          obtain ⟨ad171, A171_5, c171_5, e171, hx171_0, hx171_1, hx171_2, hx171_3, hx171_4, hx171_5, hx171_6, hx171_7, hx171_8, hl171_5, hi171_5⟩ := at_T34 HR0.out a1 p171 q171
          obtain rfl : ad170 = ad171 := (by injection e171)
          have HR171_5 := Aside0.mk hi171_5
          have HC171_5 := Aside0.mk hl171_5
          clear hi171_5 hl171_5
          replace p171 := eq_true p171
          replace q171 := eq_true q171
          have p172 : 0 ≤ (x6_1 : Int) := of_decide_eq_true (by first | (with_reducible assumption) | assumption)
          have q172 : x6_1 < (l0.length : Int) := of_decide_eq_true (by first | (with_reducible assumption) | assumption)
          obtain ⟨ad172, A172_5, c172_5, e172, hx172_0, hx172_1, hx172_2, hx172_3, hx172_4, hx172_5, hx172_6, hx172_7, hx172_8, hl172_5, hi172_5⟩ := at_T34 HR0.out x6_1 p172 q172
          obtain rfl : ad170 = ad172 := (by injection e172)
          have HR172_5 := Aside0.mk hi172_5
          have HC172_5 := Aside0.mk hl172_5
          clear hi172_5 hl172_5
          replace p172 := eq_true p172
          replace q172 := eq_true q172
          have ea_ := Option.some.inj (hx170_5.symm.trans hx172_5)
          injection ea_ with ea_ en_ ec_
          subst ea_
          subst ec_
          clear en_
          have p173 : 0 ≤ (a1 : Int) := of_decide_eq_true (by first | (with_reducible assumption) | assumption)
          have q173 : a1 < (l0.length : Int) := of_decide_eq_true (by first | (with_reducible assumption) | assumption)
          obtain ⟨ad173, A173_5, c173_5, e173, hx173_0, hx173_1, hx173_2, hx173_3, hx173_4, hx173_5, hx173_6, hx173_7, hx173_8, hl173_5, hi173_5⟩ := at_T34 HR0.out a1 p173 q173
          obtain rfl : ad170 = ad173 := (by injection e173)
          have HR173_5 := Aside0.mk hi173_5
          have HC173_5 := Aside0.mk hl173_5
          clear hi173_5 hl173_5
          replace p173 := eq_true p173
          replace q173 := eq_true q173
          have ea_ := Option.some.inj (hx171_5.symm.trans hx173_5)
          injection ea_ with ea_ en_ ec_
          subst ea_
          subst ec_
          clear en_
          go_wp2
          repeat (go_quiet (fail); try go_wp2)
          go_roundg k1
          case measure => have := HK1.out; omega
          case rel => exact ⟨(true), (wrap64 (x6_1 - 1)), (by first | rfl | (simp; done) | (simp [*]; done) | (simp [isEmpty_ne_]; done)), (by first | rfl | (simp; done) | (simp [*]; done) | (simp [isEmpty_ne_]; done)), H', ⟨by have := HK1.out; omega⟩, by repeat (first | exact Drawn0.refl _ | apply Drawn0.step)⟩
        ·rw [if_neg c8] at H
         have c8b0 : (((rd_T34 l0 x6_1).f0) == ((rd_T34 l0 a1).f0)) = false := beq_eq_false_iff_ne.mpr c8
         have c8b1 : (((rd_T34 l0 x6_1).f0) != ((rd_T34 l0 a1).f0)) = true := bne_iff_ne.mpr c8
         by_cases c10 : ((rd_T34 l0 x6_1).f0) < ((rd_T34 l0 a1).f0)
         ·rw [if_pos c10] at H
          have c10b0 : decide (((rd_T34 l0 x6_1).f0) < ((rd_T34 l0 a1).f0)) = true := decide_eq_true c10
          clear c10
          by_cases c11 : x5_1 = true
          ·subst c11
           have H1 : (some (((rd_T34 l0 x6_1).f1) == 2)) = some r := by rw [if_pos rfl] at H; exact H
           clear H
           have H := H1
           clear H1
           obtain rfl := Option.some.inj H
           have p170 : 0 ≤ (x6_1 : Int) := of_decide_eq_true (by first | (with_reducible assumption) | assumption)
           have q170 : x6_1 < (l0.length : Int) := of_decide_eq_true (by first | (with_reducible assumption) | assumption)
           obtain ⟨ad170, A170_5, c170_5, e170, hx170_0, hx170_1, hx170_2, hx170_3, hx170_4, hx170_5, hx170_6, hx170_7, hx170_8, hl170_5, hi170_5⟩ := at_T34 HR0.out x6_1 p170 q170
           cases e170
           have HR170_5 := Aside0.mk hi170_5
           have HC170_5 := Aside0.mk hl170_5
           clear hi170_5 hl170_5
           replace p170 := eq_true p170
           replace q170 := eq_true q170
           have p171 : 0 ≤ (a1 : Int) := of_decide_eq_true (by first | (with_reducible assumption) | assumption)
           have q171 : a1 < (l0.length : Int) := of_decide_eq_true (by first | (with_reducible assumption) | assumption)
           obtain ⟨ad171, A171_5, c171_5, e171, hx171_0, hx171_1, hx171_2, hx171_3, hx171_4, hx171_5, hx171_6, hx171_7, hx171_8, hl171_5, hi171_5⟩ := at_T34 HR0.out a1 p171 q171
           obtain rfl : ad170 = ad171 := (by injection e171)
           have HR171_5 := Aside0.mk hi171_5
           have HC171_5 := Aside0.mk hl171_5
           clear hi171_5 hl171_5
           replace p171 := eq_true p171
           replace q171 := eq_true q171
           have p175 : 0 ≤ (x6_1 : Int) := of_decide_eq_true (by first | (with_reducible assumption) | assumption)
           have q175 : x6_1 < (l0.length : Int) := of_decide_eq_true (by first | (with_reducible assumption) | assumption)
           obtain ⟨ad175, A175_5, c175_5, e175, hx175_0, hx175_1, hx175_2, hx175_3, hx175_4, hx175_5, hx175_6, hx175_7, hx175_8, hl175_5, hi175_5⟩ := at_T34 HR0.out x6_1 p175 q175
           obtain rfl : ad170 = ad175 := (by injection e175)
           have HR175_5 := Aside0.mk hi175_5
           have HC175_5 := Aside0.mk hl175_5
           clear hi175_5 hl175_5
           replace p175 := eq_true p175
           replace q175 := eq_true q175
           have ea_ := Option.some.inj (hx170_5.symm.trans hx175_5)
           injection ea_ with ea_ en_ ec_
           subst ea_
           subst ec_
           clear en_
           have p176 : 0 ≤ (a1 : Int) := of_decide_eq_true (by first | (with_reducible assumption) | assumption)
           have q176 : a1 < (l0.length : Int) := of_decide_eq_true (by first | (with_reducible assumption) | assumption)
           obtain ⟨ad176, A176_5, c176_5, e176, hx176_0, hx176_1, hx176_2, hx176_3, hx176_4, hx176_5, hx176_6, hx176_7, hx176_8, hl176_5, hi176_5⟩ := at_T34 HR0.out a1 p176 q176
           obtain rfl : ad170 = ad176 := (by injection e176)
           have HR176_5 := Aside0.mk hi176_5
           have HC176_5 := Aside0.mk hl176_5
           clear hi176_5 hl176_5
           replace p176 := eq_true p176
           replace q176 := eq_true q176
           have ea_ := Option.some.inj (hx171_5.symm.trans hx176_5)
           injection ea_ with ea_ en_ ec_
           subst ea_
           subst ec_
           clear en_
           have p177 : 0 ≤ (x6_1 : Int) := of_decide_eq_true (by first | (with_reducible assumption) | assumption)
           have q177 : x6_1 < (l0.length : Int) := of_decide_eq_true (by first | (with_reducible assumption) | assumption)
           obtain ⟨ad177, A177_5, c177_5, e177, hx177_0, hx177_1, hx177_2, hx177_3, hx177_4, hx177_5, hx177_6, hx177_7, hx177_8, hl177_5, hi177_5⟩ := at_T34 HR0.out x6_1 p177 q177
           obtain rfl : ad170 = ad177 := (by injection e177)
           have HR177_5 := Aside0.mk hi177_5
           have HC177_5 := Aside0.mk hl177_5
           clear hi177_5 hl177_5
           replace p177 := eq_true p177
           replace q177 := eq_true q177
           have ea_ := Option.some.inj (hx170_5.symm.trans hx177_5)
           injection ea_ with ea_ en_ ec_
           subst ea_
           subst ec_
           clear en_
           go_wp2
           repeat (go_quiet (fail); try go_wp2)
           go_ret
           exact ⟨by first | rfl | (simp; done) | (simp [*]; done) | (simp [isEmpty_ne_]; done), by repeat (first | exact Drawn0.refl _ | apply Drawn0.step)⟩
          ·replace c11 := Bool.eq_false_iff.mpr c11
           subst c11
           have H1 : (some false) = some r := by rw [if_neg (show ¬ (false = true) by decide)] at H; exact H
           clear H
           have H := H1
           clear H1
           obtain rfl := Option.some.inj H
           have p170 : 0 ≤ (x6_1 : Int) := of_decide_eq_true (by first | (with_reducible assumption) | assumption)
           have q170 : x6_1 < (l0.length : Int) := of_decide_eq_true (by first | (with_reducible assumption) | assumption)
           obtain ⟨ad170, A170_5, c170_5, e170, hx170_0, hx170_1, hx170_2, hx170_3, hx170_4, hx170_5, hx170_6, hx170_7, hx170_8, hl170_5, hi170_5⟩ := at_T34 HR0.out x6_1 p170 q170
           cases e170
           have HR170_5 := Aside0.mk hi170_5
           have HC170_5 := Aside0.mk hl170_5
           clear hi170_5 hl170_5
           replace p170 := eq_true p170
           replace q170 := eq_true q170
           have p171 : 0 ≤ (a1 : Int) := of_decide_eq_true (by first | (with_reducible assumption) | assumption)
           have q171 : a1 < (l0.length : Int) := of_decide_eq_true (by first | (with_reducible assumption) | assumption)
           obtain ⟨ad171, A171_5, c171_5, e171, hx171_0, hx171_1, hx171_2, hx171_3, hx171_4, hx171_5, hx171_6, hx171_7, hx171_8, hl171_5, hi171_5⟩ := at_T34 HR0.out a1 p171 q171
           obtain rfl : ad170 = ad171 := (by injection e171)
           have HR171_5 := Aside0.mk hi171_5
           have HC171_5 := Aside0.mk hl171_5
           clear hi171_5 hl171_5
           replace p171 := eq_true p171
           replace q171 := eq_true q171
           have p175 : 0 ≤ (x6_1 : Int) := of_decide_eq_true (by first | (with_reducible assumption) | assumption)
           have q175 : x6_1 < (l0.length : Int) := of_decide_eq_true (by first | (with_reducible assumption) | assumption)
           obtain ⟨ad175, A175_5, c175_5, e175, hx175_0, hx175_1, hx175_2, hx175_3, hx175_4, hx175_5, hx175_6, hx175_7, hx175_8, hl175_5, hi175_5⟩ := at_T34 HR0.out x6_1 p175 q175
           obtain rfl : ad170 = ad175 := (by injection e175)
           have HR175_5 := Aside0.mk hi175_5
           have HC175_5 := Aside0.mk hl175_5
           clear hi175_5 hl175_5
           replace p175 := eq_true p175
           replace q175 := eq_true q175
           have ea_ := Option.some.inj (hx170_5.symm.trans hx175_5)
           injection ea_ with ea_ en_ ec_
           subst ea_
           subst ec_
           clear en_
           have p176 : 0 ≤ (a1 : Int) := of_decide_eq_true (by first | (with_reducible assumption) | assumption)
           have q176 : a1 < (l0.length : Int) := of_decide_eq_true (by first | (with_reducible assumption) | assumption)
           obtain ⟨ad176, A176_5, c176_5, e176, hx176_0, hx176_1, hx176_2, hx176_3, hx176_4, hx176_5, hx176_6, hx176_7, hx176_8, hl176_5, hi176_5⟩ := at_T34 HR0.out a1 p176 q176
           obtain rfl : ad170 = ad176 := (by injection e176)
           have HR176_5 := Aside0.mk hi176_5
           have HC176_5 := Aside0.mk hl176_5
           clear hi176_5 hl176_5
           replace p176 := eq_true p176
           replace q176 := eq_true q176
           have ea_ := Option.some.inj (hx171_5.symm.trans hx176_5)
           injection ea_ with ea_ en_ ec_
           subst ea_
           subst ec_
           clear en_
           go_wp2
           repeat (go_quiet (fail); try go_wp2)
           go_ret
           exact ⟨by first | rfl | (simp; done) | (simp [*]; done) | (simp [isEmpty_ne_]; done), by repeat (first | exact Drawn0.refl _ | apply Drawn0.step)⟩
         ·rw [if_neg c10] at H
          have c10b0 : decide (((rd_T34 l0 x6_1).f0) < ((rd_T34 l0 a1).f0)) = false := decide_eq_false c10
          clear c10
          have H' := Aside0.mk H
          clear H
          have p170 : 0 ≤ (x6_1 : Int) := of_decide_eq_true (by first | (with_reducible assumption) | assumption)
          have q170 : x6_1 < (l0.length : Int) := of_decide_eq_true (by first | (with_reducible assumption) | assumption)
          obtain ⟨ad170, A170_5, c170_5, e170, hx170_0, hx170_1, hx170_2, hx170_3, hx170_4, hx170_5, hx170_6, hx170_7, hx170_8, hl170_5, hi170_5⟩ := at_T34 HR0.out x6_1 p170 q170
          cases e170
          have HR170_5 := Aside0.mk hi170_5
          have HC170_5 := Aside0.mk hl170_5
          clear hi170_5 hl170_5
          replace p170 := eq_true p170
          replace q170 := eq_true q170
          have p171 : 0 ≤ (a1 : Int) := of_decide_eq_true (by first | (with_reducible assumption) | assumption)
          have q171 : a1 < (l0.length : Int) := of_decide_eq_true (by first | (with_reducible assumption) | assumption)
          obtain ⟨ad171, A171_5, c171_5, e171, hx171_0, hx171_1, hx171_2, hx171_3, hx171_4, hx171_5, hx171_6, hx171_7, hx171_8, hl171_5, hi171_5⟩ := at_T34 HR0.out a1 p171 q171
          obtain rfl : ad170 = ad171 := (by injection e171)
          have HR171_5 := Aside0.mk hi171_5
          have HC171_5 := Aside0.mk hl171_5
          clear hi171_5 hl171_5
          replace p171 := eq_true p171
          replace q171 := eq_true q171
          have p175 : 0 ≤ (x6_1 : Int) := of_decide_eq_true (by first | (with_reducible assumption) | assumption)
          have q175 : x6_1 < (l0.length : Int) := of_decide_eq_true (by first | (with_reducible assumption) | assumption)
          obtain ⟨ad175, A175_5, c175_5, e175, hx175_0, hx175_1, hx175_2, hx175_3, hx175_4, hx175_5, hx175_6, hx175_7, hx175_8, hl175_5, hi175_5⟩ := at_T34 HR0.out x6_1 p175 q175
          obtain rfl : ad170 = ad175 := (by injection e175)
          have HR175_5 := Aside0.mk hi175_5
          have HC175_5 := Aside0.mk hl175_5
          clear hi175_5 hl175_5
          replace p175 := eq_true p175
          replace q175 := eq_true q175
          have ea_ := Option.some.inj (hx170_5.symm.trans hx175_5)
          injection ea_ with ea_ en_ ec_
          subst ea_
          subst ec_
          clear en_
          have p176 : 0 ≤ (a1 : Int) := of_decide_eq_true (by first | (with_reducible assumption) | assumption)
          have q176 : a1 < (l0.length : Int) := of_decide_eq_true (by first | (with_reducible assumption) | assumption)
          obtain ⟨ad176, A176_5, c176_5, e176, hx176_0, hx176_1, hx176_2, hx176_3, hx176_4, hx176_5, hx176_6, hx176_7, hx176_8, hl176_5, hi176_5⟩ := at_T34 HR0.out a1 p176 q176
          obtain rfl : ad170 = ad176 := (by injection e176)
          have HR176_5 := Aside0.mk hi176_5
          have HC176_5 := Aside0.mk hl176_5
          clear hi176_5 hl176_5
          replace p176 := eq_true p176
          replace q176 := eq_true q176
          have ea_ := Option.some.inj (hx171_5.symm.trans hx176_5)
          injection ea_ with ea_ en_ ec_
          subst ea_
          subst ec_
          clear en_
          go_wp2
          repeat (go_quiet (fail); try go_wp2)
          go_roundg k1
          case measure => have := HK1.out; omega
          case rel => exact ⟨(x5_1), (wrap64 (x6_1 - 1)), (by first | rfl | (simp; done) | (simp [*]; done) | (simp [isEmpty_ne_]; done)), (by first | rfl | (simp; done) | (simp [*]; done) | (simp [isEmpty_ne_]; done)), H', ⟨by have := HK1.out; omega⟩, by repeat (first | exact Drawn0.refl _ | apply Drawn0.step)⟩
       ·rw [if_neg c7] at H
        exact absurd H (by simp)
      ·rw [if_neg c6] at H
       exact absurd H (by simp)
     ·rw [if_neg c5] at H
      exact absurd H (by simp)
    ·rw [if_neg c4] at H
     exact absurd H (by simp)
   ·rw [if_neg c3] at H
    have c3b0 : decide (0 ≤ x6_1) = false := decide_eq_false c3
    clear c3
    obtain rfl := Option.some.inj H
    go_wp2
    repeat (go_quiet (fail); try go_wp2)
    go_ret
    exact ⟨by first | rfl | (simp; done) | (simp [*]; done) | (simp [isEmpty_ne_]; done), by repeat (first | exact Drawn0.refl _ | apply Drawn0.step)⟩

end Go.Proofs.YtlhffhhbnoikoaaDoor.GC
