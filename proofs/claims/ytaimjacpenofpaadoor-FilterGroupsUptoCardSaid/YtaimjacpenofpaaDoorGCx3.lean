-- Written for this claim by a program of this session (wip/tools/p2.py).
import Derived.Test.YtaimjacpenofpaaDoorGCx0
namespace Go.Proofs.YtaimjacpenofpaaDoor.GC
open Go.RowKit Go.Proofs.YtaimjacpenofpaaDoorW.PrintWords Go.Proofs.YtaimjacpenofpaaDoorW.PrintLast Go.Proofs.YtaimjacpenofpaaDoorW.PrintMore
attribute [local go_sem] max2_int min2_int max_two min_two max_three min_three max_four min_four   -- for this text's walks alone
set_option linter.unusedVariables false
set_option linter.unusedSimpArgs false

/-! ### rosterref12_second: function 22 -/
def rosterref12_second.l0 : Nat → List (S38) → Int → Bool → Int → Option (Bool)
 | 0, _, _, _, _ => none
 | k + 1, x0, x1, x5, x6 => if x6 ≥ 0 then (if 0 ≤ x6 then (if x6 < (x0.length : Int) then (if 0 ≤ x1 then (if x1 < (x0.length : Int) then (if ((rd_T38 x0 x6).f0) = ((rd_T38 x0 x1).f0) then (if ((rd_T38 x0 x6).f0) < ((rd_T38 x0 x1).f0) then (some (((rd_T38 x0 x6).f1) == 2)) else (rosterref12_second.l0 k x0 x1 true (wrap64 (x6 - 1)))) else (if ((rd_T38 x0 x6).f0) < ((rd_T38 x0 x1).f0) then (if x5 = true then (some (((rd_T38 x0 x6).f1) == 2)) else (some false)) else (rosterref12_second.l0 k x0 x1 x5 (wrap64 (x6 - 1))))) else (none)) else (none)) else (none)) else (none)) else (some false)
def rosterref12_second.f (k : Nat) (l0 : List (S38)) (a1 : Int) : Option (Bool) := rosterref12_second.l0 k l0 a1 false (wrap64 (a1 - 1))
theorem rosterref12_second.mono_l : ∀ k, (∀ y0 y1 y2 y3, LeO (rosterref12_second.l0 k y0 y1 y2 y3) (rosterref12_second.l0 (k + 1) y0 y1 y2 y3))
 | 0 => fun _ _ _ _ r h => by simp [rosterref12_second.l0] at h
 | k + 1 => by
  have ih0 := rosterref12_second.mono_l k
  ·intro y0 y1 y2 y3
   unfold rosterref12_second.l0
   repeat' first
   | (with_reducible exact ih0 _ _ _ _)
   | (with_reducible exact LeO.refl _)
   | (with_reducible exact LeO.none _)
   | (with_reducible refine LeO.ite ?_ ?_)
   | (with_reducible refine LeO.bind ?_ (fun _ => ?_))
   | exact ih0 _ _ _ _
   | exact LeO.none _
   | refine LeO.ite ?_ ?_
   | refine LeO.bind ?_ (fun _ => ?_)
theorem rosterref12_second.mono : ∀ a0 a1 k, LeO (rosterref12_second.f k a0 a1) (rosterref12_second.f (k + 1) a0 a1) := by
 intro a0 a1 k
 have ih0 := rosterref12_second.mono_l k
 unfold rosterref12_second.f
 repeat' first
   | (with_reducible exact ih0 _ _ _ _)
   | (with_reducible exact LeO.refl _)
   | (with_reducible exact LeO.none _)
   | (with_reducible refine LeO.ite ?_ ?_)
   | (with_reducible refine LeO.bind ?_ (fun _ => ?_))
   | exact ih0 _ _ _ _
   | exact LeO.none _
   | refine LeO.ite ?_ ?_
   | refine LeO.bind ?_ (fun _ => ?_)
set_option maxHeartbeats 8000000 in
set_option maxRecDepth 100000 in
theorem rosterref12_second.calls (k : Nat) (A0 : Option Addr) (c0 : Nat) (l0 : List (S38)) (a1 : Int) (r : Bool) (w : World) (hr0 : Kd.C k38 w A0 l0.length l0) (hc0 : l0.length ≤ c0) (h : rosterref12_second.f k l0 a1 = some r) :
  Calls Tryd.prog 22 #[.slice A0 l0.length c0, .int .i64 a1] w fun e w' => e = .returned (.bool r) ∧ Drawn0 w w' := by
 have HR0 := Aside0.mk hr0
 have HC0 := Aside0.mk hc0
 clear hr0 hc0
 have H : (rosterref12_second.l0 k l0 a1 false (wrap64 (a1 - 1))) = some r := h
 clear h
 have H' := Aside0.mk H
 clear H
 go_enter Tryd.func22, Tryd.ntmps22
 go_wp2
 repeat (go_quiet (fail); try go_wp2)
 go_loopg [5, 6] k (fun kq v5 v6 w' => ∃ (x5_1 : Bool) (x6_1 : Int), v5 = .bool x5_1 ∧ v6 = .int .i64 x6_1 ∧ Aside0 (rosterref12_second.l0 kq l0 a1 x5_1 x6_1 = some r) ∧ Aside0 (kq ≤ k) ∧ Drawn0 w w')
 case atStart => exact ⟨(false), (wrap64 (a1 - 1)), (by first | rfl | (simp; done) | (simp [*]; done) | (simp [isEmpty_ne_]; done)), (by first | rfl | (simp; done) | (simp [*]; done) | (simp [isEmpty_ne_]; done)), H', ⟨Nat.le_refl _⟩, by repeat (first | exact Drawn0.refl _ | apply Drawn0.step)⟩
 case round =>
  clear H'
  try clear c2
  try clear p2
  obtain ⟨x5_1, x6_1, rfl, rfl, HA, HK1, ⟨m1, rfl⟩⟩ := hrel
  cases gk with
  | zero => exact absurd HA.out (by simp [rosterref12_second.l0])
  | succ k1 =>
   have H := HA.out
   clear HA
   simp only [rosterref12_second.l0] at H
   by_cases c3 : x6_1 ≥ 0
   ·rw [if_pos c3] at H
    have c3b0 : decide (0 ≤ x6_1) = true := decide_eq_true c3
    clear c3
    by_cases c4 : 0 ≤ x6_1
    ·rw [if_pos c4] at H
     have c4b0 : decide (0 ≤ x6_1) = true := decide_eq_true c4
     clear c4
     by_cases c5 : x6_1 < (l0.length : Int)
     ·rw [if_pos c5] at H
      have c5b0 : decide (x6_1 < (l0.length : Int)) = true := decide_eq_true c5
      clear c5
      by_cases c6 : 0 ≤ a1
      ·rw [if_pos c6] at H
       have c6b0 : decide (0 ≤ a1) = true := decide_eq_true c6
       clear c6
       by_cases c7 : a1 < (l0.length : Int)
       ·rw [if_pos c7] at H
        have c7b0 : decide (a1 < (l0.length : Int)) = true := decide_eq_true c7
        clear c7
        by_cases c8 : ((rd_T38 l0 x6_1).f0) = ((rd_T38 l0 a1).f0)
        ·rw [if_pos c8] at H
         have c8b0 : (((rd_T38 l0 x6_1).f0) == ((rd_T38 l0 a1).f0)) = true := beq_iff_eq.mpr c8
         have c8b1 : (((rd_T38 l0 x6_1).f0) != ((rd_T38 l0 a1).f0)) = false := bne_eq_false_iff_eq.mpr c8
         clear c8
         by_cases c9 : ((rd_T38 l0 x6_1).f0) < ((rd_T38 l0 a1).f0)
         ·rw [if_pos c9] at H
          have c9b0 : decide (((rd_T38 l0 x6_1).f0) < ((rd_T38 l0 a1).f0)) = true := decide_eq_true c9
          clear c9
          obtain rfl := Option.some.inj H
          have p145 : 0 ≤ (x6_1 : Int) := of_decide_eq_true (by first | (with_reducible assumption) | assumption)
          have q145 : x6_1 < (l0.length : Int) := of_decide_eq_true (by first | (with_reducible assumption) | assumption)
          obtain ⟨ad145, A145_5, c145_5, e145, hx145_0, hx145_1, hx145_2, hx145_3, hx145_4, hx145_5, hx145_6, hx145_7, hx145_8, hl145_5, hi145_5⟩ := at_T38 HR0.out x6_1 p145 q145
          cases e145
          have HR145_5 := Aside0.mk hi145_5
          have HC145_5 := Aside0.mk hl145_5
          clear hi145_5 hl145_5
          replace p145 := eq_true p145
          replace q145 := eq_true q145
          have p146 : 0 ≤ (a1 : Int) := of_decide_eq_true (by first | (with_reducible assumption) | assumption)
          have q146 : a1 < (l0.length : Int) := of_decide_eq_true (by first | (with_reducible assumption) | assumption)
          obtain ⟨ad146, A146_5, c146_5, e146, hx146_0, hx146_1, hx146_2, hx146_3, hx146_4, hx146_5, hx146_6, hx146_7, hx146_8, hl146_5, hi146_5⟩ := at_T38 HR0.out a1 p146 q146
          obtain rfl : ad145 = ad146 := (by injection e146)
          have HR146_5 := Aside0.mk hi146_5
          have HC146_5 := Aside0.mk hl146_5
          clear hi146_5 hl146_5
          replace p146 := eq_true p146
          replace q146 := eq_true q146
          have p147 : 0 ≤ (x6_1 : Int) := of_decide_eq_true (by first | (with_reducible assumption) | assumption)
          have q147 : x6_1 < (l0.length : Int) := of_decide_eq_true (by first | (with_reducible assumption) | assumption)
          obtain ⟨ad147, A147_5, c147_5, e147, hx147_0, hx147_1, hx147_2, hx147_3, hx147_4, hx147_5, hx147_6, hx147_7, hx147_8, hl147_5, hi147_5⟩ := at_T38 HR0.out x6_1 p147 q147
          obtain rfl : ad145 = ad147 := (by injection e147)
          have HR147_5 := Aside0.mk hi147_5
          have HC147_5 := Aside0.mk hl147_5
          clear hi147_5 hl147_5
          replace p147 := eq_true p147
          replace q147 := eq_true q147
          have ea_ := Option.some.inj (hx145_5.symm.trans hx147_5)
          injection ea_ with ea_ en_ ec_
          subst ea_
          subst ec_
          clear en_
          have p148 : 0 ≤ (a1 : Int) := of_decide_eq_true (by first | (with_reducible assumption) | assumption)
          have q148 : a1 < (l0.length : Int) := of_decide_eq_true (by first | (with_reducible assumption) | assumption)
          obtain ⟨ad148, A148_5, c148_5, e148, hx148_0, hx148_1, hx148_2, hx148_3, hx148_4, hx148_5, hx148_6, hx148_7, hx148_8, hl148_5, hi148_5⟩ := at_T38 HR0.out a1 p148 q148
          obtain rfl : ad145 = ad148 := (by injection e148)
          have HR148_5 := Aside0.mk hi148_5
          have HC148_5 := Aside0.mk hl148_5
          clear hi148_5 hl148_5
          replace p148 := eq_true p148
          replace q148 := eq_true q148
          have ea_ := Option.some.inj (hx146_5.symm.trans hx148_5)
          injection ea_ with ea_ en_ ec_
          subst ea_
          subst ec_
          clear en_
          have p149 : 0 ≤ (x6_1 : Int) := of_decide_eq_true (by first | (with_reducible assumption) | assumption)
          have q149 : x6_1 < (l0.length : Int) := of_decide_eq_true (by first | (with_reducible assumption) | assumption)
          obtain ⟨ad149, A149_5, c149_5, e149, hx149_0, hx149_1, hx149_2, hx149_3, hx149_4, hx149_5, hx149_6, hx149_7, hx149_8, hl149_5, hi149_5⟩ := at_T38 HR0.out x6_1 p149 q149
          obtain rfl : ad145 = ad149 := (by injection e149)
          have HR149_5 := Aside0.mk hi149_5
          have HC149_5 := Aside0.mk hl149_5
          clear hi149_5 hl149_5
          replace p149 := eq_true p149
          replace q149 := eq_true q149
          have ea_ := Option.some.inj (hx145_5.symm.trans hx149_5)
          injection ea_ with ea_ en_ ec_
          subst ea_
          subst ec_
          clear en_
          go_wp2
          repeat (go_quiet (fail); try go_wp2)
          go_ret
          exact ⟨by first | rfl | (simp; done) | (simp [*]; done) | (simp [isEmpty_ne_]; done), by repeat (first | exact Drawn0.refl _ | apply Drawn0.step)⟩
         ·rw [if_neg c9] at H
          have c9b0 : decide (((rd_T38 l0 x6_1).f0) < ((rd_T38 l0 a1).f0)) = false := decide_eq_false c9
          clear c9
          have H' := Aside0.mk H
          clear H
          have p145 : 0 ≤ (x6_1 : Int) := of_decide_eq_true (by first | (with_reducible assumption) | assumption)
          have q145 : x6_1 < (l0.length : Int) := of_decide_eq_true (by first | (with_reducible assumption) | assumption)
          obtain ⟨ad145, A145_5, c145_5, e145, hx145_0, hx145_1, hx145_2, hx145_3, hx145_4, hx145_5, hx145_6, hx145_7, hx145_8, hl145_5, hi145_5⟩ := at_T38 HR0.out x6_1 p145 q145
          cases e145
          have HR145_5 := Aside0.mk hi145_5
          have HC145_5 := Aside0.mk hl145_5
          clear hi145_5 hl145_5
          replace p145 := eq_true p145
          replace q145 := eq_true q145
          have p146 : 0 ≤ (a1 : Int) := of_decide_eq_true (by first | (with_reducible assumption) | assumption)
          have q146 : a1 < (l0.length : Int) := of_decide_eq_true (by first | (with_reducible assumption) | assumption)
          obtain ⟨ad146, A146_5, c146_5, e146, hx146_0, hx146_1, hx146_2, hx146_3, hx146_4, hx146_5, hx146_6, hx146_7, hx146_8, hl146_5, hi146_5⟩ := at_T38 HR0.out a1 p146 q146
          obtain rfl : ad145 = ad146 := (by injection e146)
          have HR146_5 := Aside0.mk hi146_5
          have HC146_5 := Aside0.mk hl146_5
          clear hi146_5 hl146_5
          replace p146 := eq_true p146
          replace q146 := eq_true q146
          have p147 : 0 ≤ (x6_1 : Int) := of_decide_eq_true (by first | (with_reducible assumption) | assumption)
          have q147 : x6_1 < (l0.length : Int) := of_decide_eq_true (by first | (with_reducible assumption) | assumption)
          obtain ⟨ad147, A147_5, c147_5, e147, hx147_0, hx147_1, hx147_2, hx147_3, hx147_4, hx147_5, hx147_6, hx147_7, hx147_8, hl147_5, hi147_5⟩ := at_T38 HR0.out x6_1 p147 q147
          obtain rfl : ad145 = ad147 := (by injection e147)
          have HR147_5 := Aside0.mk hi147_5
          have HC147_5 := Aside0.mk hl147_5
          clear hi147_5 hl147_5
          replace p147 := eq_true p147
          replace q147 := eq_true q147
          have ea_ := Option.some.inj (hx145_5.symm.trans hx147_5)
          injection ea_ with ea_ en_ ec_
          subst ea_
          subst ec_
          clear en_
          have p148 : 0 ≤ (a1 : Int) := of_decide_eq_true (by first | (with_reducible assumption) | assumption)
          have q148 : a1 < (l0.length : Int) := of_decide_eq_true (by first | (with_reducible assumption) | assumption)
          obtain ⟨ad148, A148_5, c148_5, e148, hx148_0, hx148_1, hx148_2, hx148_3, hx148_4, hx148_5, hx148_6, hx148_7, hx148_8, hl148_5, hi148_5⟩ := at_T38 HR0.out a1 p148 q148
          obtain rfl : ad145 = ad148 := (by injection e148)
          have HR148_5 := Aside0.mk hi148_5
          have HC148_5 := Aside0.mk hl148_5
          clear hi148_5 hl148_5
          replace p148 := eq_true p148
          replace q148 := eq_true q148
          have ea_ := Option.some.inj (hx146_5.symm.trans hx148_5)
          injection ea_ with ea_ en_ ec_
          subst ea_
          subst ec_
          clear en_
          go_wp2
          repeat (go_quiet (fail); try go_wp2)
          go_roundg k1
          case measure => have := HK1.out; omega
          case rel => exact ⟨(true), (wrap64 (x6_1 - 1)), (by first | rfl | (simp; done) | (simp [*]; done) | (simp [isEmpty_ne_]; done)), (by first | rfl | (simp; done) | (simp [*]; done) | (simp [isEmpty_ne_]; done)), H', ⟨by have := HK1.out; omega⟩, by repeat (first | exact Drawn0.refl _ | apply Drawn0.step)⟩
        ·rw [if_neg c8] at H
         have c8b0 : (((rd_T38 l0 x6_1).f0) == ((rd_T38 l0 a1).f0)) = false := beq_eq_false_iff_ne.mpr c8
         have c8b1 : (((rd_T38 l0 x6_1).f0) != ((rd_T38 l0 a1).f0)) = true := bne_iff_ne.mpr c8
         by_cases c10 : ((rd_T38 l0 x6_1).f0) < ((rd_T38 l0 a1).f0)
         ·rw [if_pos c10] at H
          have c10b0 : decide (((rd_T38 l0 x6_1).f0) < ((rd_T38 l0 a1).f0)) = true := decide_eq_true c10
          clear c10
          by_cases c11 : x5_1 = true
          ·subst c11
           have H1 : (some (((rd_T38 l0 x6_1).f1) == 2)) = some r := by rw [if_pos rfl] at H; exact H
           clear H
           have H := H1
           clear H1
           obtain rfl := Option.some.inj H
           have p145 : 0 ≤ (x6_1 : Int) := of_decide_eq_true (by first | (with_reducible assumption) | assumption)
           have q145 : x6_1 < (l0.length : Int) := of_decide_eq_true (by first | (with_reducible assumption) | assumption)
           obtain ⟨ad145, A145_5, c145_5, e145, hx145_0, hx145_1, hx145_2, hx145_3, hx145_4, hx145_5, hx145_6, hx145_7, hx145_8, hl145_5, hi145_5⟩ := at_T38 HR0.out x6_1 p145 q145
           cases e145
           have HR145_5 := Aside0.mk hi145_5
           have HC145_5 := Aside0.mk hl145_5
           clear hi145_5 hl145_5
           replace p145 := eq_true p145
           replace q145 := eq_true q145
           have p146 : 0 ≤ (a1 : Int) := of_decide_eq_true (by first | (with_reducible assumption) | assumption)
           have q146 : a1 < (l0.length : Int) := of_decide_eq_true (by first | (with_reducible assumption) | assumption)
           obtain ⟨ad146, A146_5, c146_5, e146, hx146_0, hx146_1, hx146_2, hx146_3, hx146_4, hx146_5, hx146_6, hx146_7, hx146_8, hl146_5, hi146_5⟩ := at_T38 HR0.out a1 p146 q146
           obtain rfl : ad145 = ad146 := (by injection e146)
           have HR146_5 := Aside0.mk hi146_5
           have HC146_5 := Aside0.mk hl146_5
           clear hi146_5 hl146_5
           replace p146 := eq_true p146
           replace q146 := eq_true q146
           have p150 : 0 ≤ (x6_1 : Int) := of_decide_eq_true (by first | (with_reducible assumption) | assumption)
           have q150 : x6_1 < (l0.length : Int) := of_decide_eq_true (by first | (with_reducible assumption) | assumption)
           obtain ⟨ad150, A150_5, c150_5, e150, hx150_0, hx150_1, hx150_2, hx150_3, hx150_4, hx150_5, hx150_6, hx150_7, hx150_8, hl150_5, hi150_5⟩ := at_T38 HR0.out x6_1 p150 q150
           obtain rfl : ad145 = ad150 := (by injection e150)
           have HR150_5 := Aside0.mk hi150_5
           have HC150_5 := Aside0.mk hl150_5
           clear hi150_5 hl150_5
           replace p150 := eq_true p150
           replace q150 := eq_true q150
           have ea_ := Option.some.inj (hx145_5.symm.trans hx150_5)
           injection ea_ with ea_ en_ ec_
           subst ea_
           subst ec_
           clear en_
           have p151 : 0 ≤ (a1 : Int) := of_decide_eq_true (by first | (with_reducible assumption) | assumption)
           have q151 : a1 < (l0.length : Int) := of_decide_eq_true (by first | (with_reducible assumption) | assumption)
           obtain ⟨ad151, A151_5, c151_5, e151, hx151_0, hx151_1, hx151_2, hx151_3, hx151_4, hx151_5, hx151_6, hx151_7, hx151_8, hl151_5, hi151_5⟩ := at_T38 HR0.out a1 p151 q151
           obtain rfl : ad145 = ad151 := (by injection e151)
           have HR151_5 := Aside0.mk hi151_5
           have HC151_5 := Aside0.mk hl151_5
           clear hi151_5 hl151_5
           replace p151 := eq_true p151
           replace q151 := eq_true q151
           have ea_ := Option.some.inj (hx146_5.symm.trans hx151_5)
           injection ea_ with ea_ en_ ec_
           subst ea_
           subst ec_
           clear en_
           have p152 : 0 ≤ (x6_1 : Int) := of_decide_eq_true (by first | (with_reducible assumption) | assumption)
           have q152 : x6_1 < (l0.length : Int) := of_decide_eq_true (by first | (with_reducible assumption) | assumption)
           obtain ⟨ad152, A152_5, c152_5, e152, hx152_0, hx152_1, hx152_2, hx152_3, hx152_4, hx152_5, hx152_6, hx152_7, hx152_8, hl152_5, hi152_5⟩ := at_T38 HR0.out x6_1 p152 q152
           obtain rfl : ad145 = ad152 := (by injection e152)
           have HR152_5 := Aside0.mk hi152_5
           have HC152_5 := Aside0.mk hl152_5
           clear hi152_5 hl152_5
           replace p152 := eq_true p152
           replace q152 := eq_true q152
           have ea_ := Option.some.inj (hx145_5.symm.trans hx152_5)
           injection ea_ with ea_ en_ ec_
           subst ea_
           subst ec_
           clear en_
           go_wp2
           repeat (go_quiet (fail); try go_wp2)
           go_ret
           exact ⟨by first | rfl | (simp; done) | (simp [*]; done) | (simp [isEmpty_ne_]; done), by repeat (first | exact Drawn0.refl _ | apply Drawn0.step)⟩
          ·replace c11 := Bool.eq_false_iff.mpr c11
           subst c11
           have H1 : (some false) = some r := by rw [if_neg (show ¬ (false = true) by decide)] at H; exact H
           clear H
           have H := H1
           clear H1
           obtain rfl := Option.some.inj H
           have p145 : 0 ≤ (x6_1 : Int) := of_decide_eq_true (by first | (with_reducible assumption) | assumption)
           have q145 : x6_1 < (l0.length : Int) := of_decide_eq_true (by first | (with_reducible assumption) | assumption)
           obtain ⟨ad145, A145_5, c145_5, e145, hx145_0, hx145_1, hx145_2, hx145_3, hx145_4, hx145_5, hx145_6, hx145_7, hx145_8, hl145_5, hi145_5⟩ := at_T38 HR0.out x6_1 p145 q145
           cases e145
           have HR145_5 := Aside0.mk hi145_5
           have HC145_5 := Aside0.mk hl145_5
           clear hi145_5 hl145_5
           replace p145 := eq_true p145
           replace q145 := eq_true q145
           have p146 : 0 ≤ (a1 : Int) := of_decide_eq_true (by first | (with_reducible assumption) | assumption)
           have q146 : a1 < (l0.length : Int) := of_decide_eq_true (by first | (with_reducible assumption) | assumption)
           obtain ⟨ad146, A146_5, c146_5, e146, hx146_0, hx146_1, hx146_2, hx146_3, hx146_4, hx146_5, hx146_6, hx146_7, hx146_8, hl146_5, hi146_5⟩ := at_T38 HR0.out a1 p146 q146
           obtain rfl : ad145 = ad146 := (by injection e146)
           have HR146_5 := Aside0.mk hi146_5
           have HC146_5 := Aside0.mk hl146_5
           clear hi146_5 hl146_5
           replace p146 := eq_true p146
           replace q146 := eq_true q146
           have p150 : 0 ≤ (x6_1 : Int) := of_decide_eq_true (by first | (with_reducible assumption) | assumption)
           have q150 : x6_1 < (l0.length : Int) := of_decide_eq_true (by first | (with_reducible assumption) | assumption)
           obtain ⟨ad150, A150_5, c150_5, e150, hx150_0, hx150_1, hx150_2, hx150_3, hx150_4, hx150_5, hx150_6, hx150_7, hx150_8, hl150_5, hi150_5⟩ := at_T38 HR0.out x6_1 p150 q150
           obtain rfl : ad145 = ad150 := (by injection e150)
           have HR150_5 := Aside0.mk hi150_5
           have HC150_5 := Aside0.mk hl150_5
           clear hi150_5 hl150_5
           replace p150 := eq_true p150
           replace q150 := eq_true q150
           have ea_ := Option.some.inj (hx145_5.symm.trans hx150_5)
           injection ea_ with ea_ en_ ec_
           subst ea_
           subst ec_
           clear en_
           have p151 : 0 ≤ (a1 : Int) := of_decide_eq_true (by first | (with_reducible assumption) | assumption)
           have q151 : a1 < (l0.length : Int) := of_decide_eq_true (by first | (with_reducible assumption) | assumption)
           obtain ⟨ad151, A151_5, c151_5, e151, hx151_0, hx151_1, hx151_2, hx151_3, hx151_4, hx151_5, hx151_6, hx151_7, hx151_8, hl151_5, hi151_5⟩ := at_T38 HR0.out a1 p151 q151
           obtain rfl : ad145 = ad151 := (by injection e151)
           have HR151_5 := Aside0.mk hi151_5
           have HC151_5 := Aside0.mk hl151_5
           clear hi151_5 hl151_5
           replace p151 := eq_true p151
           replace q151 := eq_true q151
           have ea_ := Option.some.inj (hx146_5.symm.trans hx151_5)
           injection ea_ with ea_ en_ ec_
           subst ea_
           subst ec_
           clear en_
           go_wp2
           repeat (go_quiet (fail); try go_wp2)
           go_ret
           exact ⟨by first | rfl | (simp; done) | (simp [*]; done) | (simp [isEmpty_ne_]; done), by repeat (first | exact Drawn0.refl _ | apply Drawn0.step)⟩
         ·rw [if_neg c10] at H
          have c10b0 : decide (((rd_T38 l0 x6_1).f0) < ((rd_T38 l0 a1).f0)) = false := decide_eq_false c10
          clear c10
          have H' := Aside0.mk H
          clear H
          have p145 : 0 ≤ (x6_1 : Int) := of_decide_eq_true (by first | (with_reducible assumption) | assumption)
          have q145 : x6_1 < (l0.length : Int) := of_decide_eq_true (by first | (with_reducible assumption) | assumption)
          obtain ⟨ad145, A145_5, c145_5, e145, hx145_0, hx145_1, hx145_2, hx145_3, hx145_4, hx145_5, hx145_6, hx145_7, hx145_8, hl145_5, hi145_5⟩ := at_T38 HR0.out x6_1 p145 q145
          cases e145
          have HR145_5 := Aside0.mk hi145_5
          have HC145_5 := Aside0.mk hl145_5
          clear hi145_5 hl145_5
          replace p145 := eq_true p145
          replace q145 := eq_true q145
          have p146 : 0 ≤ (a1 : Int) := of_decide_eq_true (by first | (with_reducible assumption) | assumption)
          have q146 : a1 < (l0.length : Int) := of_decide_eq_true (by first | (with_reducible assumption) | assumption)
          obtain ⟨ad146, A146_5, c146_5, e146, hx146_0, hx146_1, hx146_2, hx146_3, hx146_4, hx146_5, hx146_6, hx146_7, hx146_8, hl146_5, hi146_5⟩ := at_T38 HR0.out a1 p146 q146
          obtain rfl : ad145 = ad146 := (by injection e146)
          have HR146_5 := Aside0.mk hi146_5
          have HC146_5 := Aside0.mk hl146_5
          clear hi146_5 hl146_5
          replace p146 := eq_true p146
          replace q146 := eq_true q146
          have p150 : 0 ≤ (x6_1 : Int) := of_decide_eq_true (by first | (with_reducible assumption) | assumption)
          have q150 : x6_1 < (l0.length : Int) := of_decide_eq_true (by first | (with_reducible assumption) | assumption)
          obtain ⟨ad150, A150_5, c150_5, e150, hx150_0, hx150_1, hx150_2, hx150_3, hx150_4, hx150_5, hx150_6, hx150_7, hx150_8, hl150_5, hi150_5⟩ := at_T38 HR0.out x6_1 p150 q150
          obtain rfl : ad145 = ad150 := (by injection e150)
          have HR150_5 := Aside0.mk hi150_5
          have HC150_5 := Aside0.mk hl150_5
          clear hi150_5 hl150_5
          replace p150 := eq_true p150
          replace q150 := eq_true q150
          have ea_ := Option.some.inj (hx145_5.symm.trans hx150_5)
          injection ea_ with ea_ en_ ec_
          subst ea_
          subst ec_
          clear en_
          have p151 : 0 ≤ (a1 : Int) := of_decide_eq_true (by first | (with_reducible assumption) | assumption)
          have q151 : a1 < (l0.length : Int) := of_decide_eq_true (by first | (with_reducible assumption) | assumption)
          obtain ⟨ad151, A151_5, c151_5, e151, hx151_0, hx151_1, hx151_2, hx151_3, hx151_4, hx151_5, hx151_6, hx151_7, hx151_8, hl151_5, hi151_5⟩ := at_T38 HR0.out a1 p151 q151
          obtain rfl : ad145 = ad151 := (by injection e151)
          have HR151_5 := Aside0.mk hi151_5
          have HC151_5 := Aside0.mk hl151_5
          clear hi151_5 hl151_5
          replace p151 := eq_true p151
          replace q151 := eq_true q151
          have ea_ := Option.some.inj (hx146_5.symm.trans hx151_5)
          injection ea_ with ea_ en_ ec_
          subst ea_
          subst ec_
          clear en_
          go_wp2
          repeat (go_quiet (fail); try go_wp2)
          go_roundg k1
          case measure => have := HK1.out; omega
          case rel => exact ⟨(x5_1), (wrap64 (x6_1 - 1)), (by first | rfl | (simp; done) | (simp [*]; done) | (simp [isEmpty_ne_]; done)), (by first | rfl | (simp; done) | (simp [*]; done) | (simp [isEmpty_ne_]; done)), H', ⟨by have := HK1.out; omega⟩, by repeat (first | exact Drawn0.refl _ | apply Drawn0.step)⟩
       ·rw [if_neg c7] at H
        exact absurd H (by simp)
      ·rw [if_neg c6] at H
       exact absurd H (by simp)
     ·rw [if_neg c5] at H
      exact absurd H (by simp)
    ·rw [if_neg c4] at H
     exact absurd H (by simp)
   ·rw [if_neg c3] at H
    have c3b0 : decide (0 ≤ x6_1) = false := decide_eq_false c3
    clear c3
    obtain rfl := Option.some.inj H
    go_wp2
    repeat (go_quiet (fail); try go_wp2)
    go_ret
    exact ⟨by first | rfl | (simp; done) | (simp [*]; done) | (simp [isEmpty_ne_]; done), by repeat (first | exact Drawn0.refl _ | apply Drawn0.step)⟩

end Go.Proofs.YtaimjacpenofpaaDoor.GC
