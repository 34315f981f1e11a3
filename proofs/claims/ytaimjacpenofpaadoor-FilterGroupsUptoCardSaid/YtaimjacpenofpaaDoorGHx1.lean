-- Written for this claim by a program of this session (wip/tools/p2.py).
import Derived.Test.YtaimjacpenofpaaDoorGHx0
namespace Go.Proofs.YtaimjacpenofpaaDoor.GH
open Go.RowKit Go.Proofs.YtaimjacpenofpaaDoorW.PrintWords Go.Proofs.YtaimjacpenofpaaDoorW.PrintLast Go.Proofs.YtaimjacpenofpaaDoorW.PrintMore
attribute [local go_sem] max2_int min2_int max_two min_two max_three min_three max_four min_four   -- for this text's walks alone
set_option linter.unusedVariables false
set_option linter.unusedSimpArgs false

/-! ### filter_holds: function 15 -/
def filter_holds.f (a0 : Int) : Option (Bool) := if a0 = 0 then (some true) else (if a0 = 1 then (some true) else (some (a0 == 2)))
set_option maxHeartbeats 8000000 in
set_option maxRecDepth 100000 in
theorem filter_holds.calls (a0 : Int) (r : Bool) (w : World) (h : filter_holds.f a0 = some r) :
  Calls Tryd.prog 15 #[.int .i64 a0] w fun e w' => e = .returned (.bool r) ∧ Drawn0 w w' := by
 have H : (if a0 = 0 then (some true) else (if a0 = 1 then (some true) else (some (a0 == 2)))) = some r := h
 clear h
 by_cases c2 : a0 = 0
 ·rw [if_pos c2] at H
  have c2b0 : (a0 == 0) = true := beq_iff_eq.mpr c2
  have c2b1 : (a0 != 0) = false := bne_eq_false_iff_eq.mpr c2
  clear c2
  obtain rfl := Option.some.inj H
  go_enter Tryd.func15, Tryd.ntmps15
  go_wp2
  go_ret
  exact ⟨by first | rfl | (simp; done) | (simp [*]; done) | (simp [isEmpty_ne_]; done), by repeat (first | exact Drawn0.refl _ | apply Drawn0.step)⟩
 ·rw [if_neg c2] at H
  have c2b0 : (a0 == 0) = false := beq_eq_false_iff_ne.mpr c2
  have c2b1 : (a0 != 0) = true := bne_iff_ne.mpr c2
  by_cases c3 : a0 = 1
  ·rw [if_pos c3] at H
   have c3b0 : (a0 == 1) = true := beq_iff_eq.mpr c3
   have c3b1 : (a0 != 1) = false := bne_eq_false_iff_eq.mpr c3
   clear c3
   obtain rfl := Option.some.inj H
   go_enter Tryd.func15, Tryd.ntmps15
   go_wp2
   go_ret
   exact ⟨by first | rfl | (simp; done) | (simp [*]; done) | (simp [isEmpty_ne_]; done), by repeat (first | exact Drawn0.refl _ | apply Drawn0.step)⟩
  ·rw [if_neg c3] at H
   have c3b0 : (a0 == 1) = false := beq_eq_false_iff_ne.mpr c3
   have c3b1 : (a0 != 1) = true := bne_iff_ne.mpr c3
   obtain rfl := Option.some.inj H
   go_enter Tryd.func15, Tryd.ntmps15
   go_wp2
   go_ret
   exact ⟨by first | rfl | (simp; done) | (simp [*]; done) | (simp [isEmpty_ne_]; done), by repeat (first | exact Drawn0.refl _ | apply Drawn0.step)⟩

/-- THE ONE PURE STATEMENT of filter_holds: yours. -/
def filter_holds.Pure : Prop := ∀ (a0 : Int), (Lit.int .i64 a0).wf = true → filter_holds.f a0 = some true
theorem filter_holds.walk (P : filter_holds.Pure) (a0 : Int) (w : World) (w0 : (Lit.int .i64 a0).wf = true) :
  Calls Tryd.prog 15 #[.int .i64 a0] w fun e w' => e = .returned (.bool true) ∧ Below w.heap.size w w' := by
 have h := P a0 w0
 refine (filter_holds.calls a0 true w h).mono ?_
 rintro e w' ⟨rfl, hd⟩
 exact ⟨rfl, hd.below⟩

/-! ### rosterref12_holds: function 11 -/
def rosterref12_holds.f (a0 : Int) : Option (Bool) := if a0 = 0 then (some true) else (if a0 = 1 then (some true) else (some (a0 == 2)))
set_option maxHeartbeats 8000000 in
set_option maxRecDepth 100000 in
theorem rosterref12_holds.calls (a0 : Int) (r : Bool) (w : World) (h : rosterref12_holds.f a0 = some r) :
  Calls Tryd.prog 11 #[.int .i64 a0] w fun e w' => e = .returned (.bool r) ∧ Drawn0 w w' := by
 have H : (if a0 = 0 then (some true) else (if a0 = 1 then (some true) else (some (a0 == 2)))) = some r := h
 clear h
 by_cases c2 : a0 = 0
 ·rw [if_pos c2] at H
  have c2b0 : (a0 == 0) = true := beq_iff_eq.mpr c2
  have c2b1 : (a0 != 0) = false := bne_eq_false_iff_eq.mpr c2
  clear c2
  obtain rfl := Option.some.inj H
  go_enter Tryd.func11, Tryd.ntmps11
  go_wp2
  go_ret
  exact ⟨by first | rfl | (simp; done) | (simp [*]; done) | (simp [isEmpty_ne_]; done), by repeat (first | exact Drawn0.refl _ | apply Drawn0.step)⟩
 ·rw [if_neg c2] at H
  have c2b0 : (a0 == 0) = false := beq_eq_false_iff_ne.mpr c2
  have c2b1 : (a0 != 0) = true := bne_iff_ne.mpr c2
  by_cases c3 : a0 = 1
  ·rw [if_pos c3] at H
   have c3b0 : (a0 == 1) = true := beq_iff_eq.mpr c3
   have c3b1 : (a0 != 1) = false := bne_eq_false_iff_eq.mpr c3
   clear c3
   obtain rfl := Option.some.inj H
   go_enter Tryd.func11, Tryd.ntmps11
   go_wp2
   go_ret
   exact ⟨by first | rfl | (simp; done) | (simp [*]; done) | (simp [isEmpty_ne_]; done), by repeat (first | exact Drawn0.refl _ | apply Drawn0.step)⟩
  ·rw [if_neg c3] at H
   have c3b0 : (a0 == 1) = false := beq_eq_false_iff_ne.mpr c3
   have c3b1 : (a0 != 1) = true := bne_iff_ne.mpr c3
   obtain rfl := Option.some.inj H
   go_enter Tryd.func11, Tryd.ntmps11
   go_wp2
   go_ret
   exact ⟨by first | rfl | (simp; done) | (simp [*]; done) | (simp [isEmpty_ne_]; done), by repeat (first | exact Drawn0.refl _ | apply Drawn0.step)⟩

/-- THE ONE PURE STATEMENT of rosterref12_holds: yours. -/
def rosterref12_holds.Pure : Prop := ∀ (a0 : Int), (Lit.int .i64 a0).wf = true → rosterref12_holds.f a0 = some true
theorem rosterref12_holds.walk (P : rosterref12_holds.Pure) (a0 : Int) (w : World) (w0 : (Lit.int .i64 a0).wf = true) :
  Calls Tryd.prog 11 #[.int .i64 a0] w fun e w' => e = .returned (.bool true) ∧ Below w.heap.size w w' := by
 have h := P a0 w0
 refine (rosterref12_holds.calls a0 true w h).mono ?_
 rintro e w' ⟨rfl, hd⟩
 exact ⟨rfl, hd.below⟩

/-! ### rosterref12_Depth: function 14 -/
def rosterref12_Depth.l0 : Nat → List (S38) → Int → Int → Option (Int)
 | 0, _, _, _ => none
 | k + 1, x0, x3, x4 => if x4 < (x0.length : Int) then (if 0 ≤ x4 then (if ((rd_T38 x0 x4).f0) > x3 then (rosterref12_Depth.l0 k x0 ((rd_T38 x0 x4).f0) (wrap64 (x4 + 1))) else (rosterref12_Depth.l0 k x0 x3 (wrap64 (x4 + 1)))) else (none)) else (some x3)
def rosterref12_Depth.f (k : Nat) (l0 : List (S38)) : Option (Int) := rosterref12_Depth.l0 k l0 0 0
theorem rosterref12_Depth.mono_l : ∀ k, (∀ y0 y1 y2, LeO (rosterref12_Depth.l0 k y0 y1 y2) (rosterref12_Depth.l0 (k + 1) y0 y1 y2))
 | 0 => fun _ _ _ r h => by simp [rosterref12_Depth.l0] at h
 | k + 1 => by
  have ih0 := rosterref12_Depth.mono_l k
  ·intro y0 y1 y2
   unfold rosterref12_Depth.l0
   repeat' first
   | (with_reducible exact ih0 _ _ _)
   | (with_reducible exact LeO.refl _)
   | (with_reducible exact LeO.none _)
   | (with_reducible refine LeO.ite ?_ ?_)
   | (with_reducible refine LeO.bind ?_ (fun _ => ?_))
   | exact ih0 _ _ _
   | exact LeO.none _
   | refine LeO.ite ?_ ?_
   | refine LeO.bind ?_ (fun _ => ?_)
theorem rosterref12_Depth.mono : ∀ a0 k, LeO (rosterref12_Depth.f k a0) (rosterref12_Depth.f (k + 1) a0) := by
 intro a0 k
 have ih0 := rosterref12_Depth.mono_l k
 unfold rosterref12_Depth.f
 repeat' first
   | (with_reducible exact ih0 _ _ _)
   | (with_reducible exact LeO.refl _)
   | (with_reducible exact LeO.none _)
   | (with_reducible refine LeO.ite ?_ ?_)
   | (with_reducible refine LeO.bind ?_ (fun _ => ?_))
   | exact ih0 _ _ _
   | exact LeO.none _
   | refine LeO.ite ?_ ?_
   | refine LeO.bind ?_ (fun _ => ?_)
set_option maxHeartbeats 8000000 in
set_option maxRecDepth 100000 in
theorem rosterref12_Depth.calls (k : Nat) (A0 : Option Addr) (c0 : Nat) (l0 : List (S38)) (r : Int) (w : World) (hr0 : Kd.C k38 w A0 l0.length l0) (hc0 : l0.length ≤ c0) (h : rosterref12_Depth.f k l0 = some r) :
  Calls Tryd.prog 14 #[.slice A0 l0.length c0] w fun e w' => e = .returned (.int .i64 r) ∧ Drawn0 w w' := by
 have HR0 := Aside0.mk hr0
 have HC0 := Aside0.mk hc0
 clear hr0 hc0
 have H : (rosterref12_Depth.l0 k l0 0 0) = some r := h
 clear h
 have H' := Aside0.mk H
 clear H
 go_enter Tryd.func14, Tryd.ntmps14
 go_wp2
 go_loopg [3, 4] k (fun kq v3 v4 w' => ∃ (x3_1 : Int) (x4_1 : Int), v3 = .int .i64 x3_1 ∧ v4 = .int .i64 x4_1 ∧ Aside0 (rosterref12_Depth.l0 kq l0 x3_1 x4_1 = some r) ∧ Aside0 (kq ≤ k) ∧ Drawn0 w w')
 case atStart => exact ⟨(0), (0), (by first | rfl | (simp; done) | (simp [*]; done) | (simp [isEmpty_ne_]; done)), (by first | rfl | (simp; done) | (simp [*]; done) | (simp [isEmpty_ne_]; done)), H', ⟨Nat.le_refl _⟩, by repeat (first | exact Drawn0.refl _ | apply Drawn0.step)⟩
 case round =>
  clear H'
  try clear c1
  obtain ⟨x3_1, x4_1, rfl, rfl, HA, HK1, ⟨m1, rfl⟩⟩ := hrel
  cases gk with
  | zero => exact absurd HA.out (by simp [rosterref12_Depth.l0])
  | succ k1 =>
   have H := HA.out
   clear HA
   simp only [rosterref12_Depth.l0] at H
   by_cases c2 : x4_1 < (l0.length : Int)
   ·rw [if_pos c2] at H
    have c2b0 : decide (x4_1 < (l0.length : Int)) = true := decide_eq_true c2
    clear c2
    by_cases c3 : 0 ≤ x4_1
    ·rw [if_pos c3] at H
     have c3b0 : decide (0 ≤ x4_1) = true := decide_eq_true c3
     clear c3
     by_cases c4 : ((rd_T38 l0 x4_1).f0) > x3_1
     ·rw [if_pos c4] at H
      have c4b0 : decide (x3_1 < ((rd_T38 l0 x4_1).f0)) = true := decide_eq_true c4
      clear c4
      have H' := Aside0.mk H
      clear H
      have p101 : 0 ≤ (x4_1 : Int) := of_decide_eq_true (by first | (with_reducible assumption) | assumption)
      have q101 : x4_1 < (l0.length : Int) := of_decide_eq_true (by first | (with_reducible assumption) | assumption)
      obtain ⟨ad101, A101_5, c101_5, e101, hx101_0, hx101_1, hx101_2, hx101_3, hx101_4, hx101_5, hx101_6, hx101_7, hx101_8, hl101_5, hi101_5⟩ := at_T38 HR0.out x4_1 p101 q101
      cases e101
      have HR101_5 := Aside0.mk hi101_5
      have HC101_5 := Aside0.mk hl101_5
      clear hi101_5 hl101_5
      replace p101 := eq_true p101
      replace q101 := eq_true q101
      have p102 : 0 ≤ (x4_1 : Int) := of_decide_eq_true (by first | (with_reducible assumption) | assumption)
      have q102 : x4_1 < (l0.length : Int) := of_decide_eq_true (by first | (with_reducible assumption) | assumption)
      obtain ⟨ad102, A102_5, c102_5, e102, hx102_0, hx102_1, hx102_2, hx102_3, hx102_4, hx102_5, hx102_6, hx102_7, hx102_8, hl102_5, hi102_5⟩ := at_T38 HR0.out x4_1 p102 q102
      obtain rfl : ad101 = ad102 := (by injection e102)
      have HR102_5 := Aside0.mk hi102_5
      have HC102_5 := Aside0.mk hl102_5
      clear hi102_5 hl102_5
      replace p102 := eq_true p102
      replace q102 := eq_true q102
      have ea_ := Option.some.inj (hx101_5.symm.trans hx102_5)
      injection ea_ with ea_ en_ ec_
      subst ea_
      subst ec_
      clear en_
      go_wp2
      go_roundg k1
      case measure => have := HK1.out; omega
      case rel => exact ⟨((rd_T38 l0 x4_1).f0), (wrap64 (x4_1 + 1)), (by first | rfl | (simp; done) | (simp [*]; done) | (simp [isEmpty_ne_]; done)), (by first | rfl | (simp; done) | (simp [*]; done) | (simp [isEmpty_ne_]; done)), H', ⟨by have := HK1.out; omega⟩, by repeat (first | exact Drawn0.refl _ | apply Drawn0.step)⟩
     ·rw [if_neg c4] at H
      have c4b0 : decide (x3_1 < ((rd_T38 l0 x4_1).f0)) = false := decide_eq_false c4
      clear c4
      have H' := Aside0.mk H
      clear H
      have p101 : 0 ≤ (x4_1 : Int) := of_decide_eq_true (by first | (with_reducible assumption) | assumption)
      have q101 : x4_1 < (l0.length : Int) := of_decide_eq_true (by first | (with_reducible assumption) | assumption)
      obtain ⟨ad101, A101_5, c101_5, e101, hx101_0, hx101_1, hx101_2, hx101_3, hx101_4, hx101_5, hx101_6, hx101_7, hx101_8, hl101_5, hi101_5⟩ := at_T38 HR0.out x4_1 p101 q101
      cases e101
      have HR101_5 := Aside0.mk hi101_5
      have HC101_5 := Aside0.mk hl101_5
      clear hi101_5 hl101_5
      replace p101 := eq_true p101
      replace q101 := eq_true q101
      go_wp2
      go_roundg k1
      case measure => have := HK1.out; omega
      case rel => exact ⟨(x3_1), (wrap64 (x4_1 + 1)), (by first | rfl | (simp; done) | (simp [*]; done) | (simp [isEmpty_ne_]; done)), (by first | rfl | (simp; done) | (simp [*]; done) | (simp [isEmpty_ne_]; done)), H', ⟨by have := HK1.out; omega⟩, by repeat (first | exact Drawn0.refl _ | apply Drawn0.step)⟩
    ·rw [if_neg c3] at H
     exact absurd H (by simp)
   ·rw [if_neg c2] at H
    have c2b0 : decide (x4_1 < (l0.length : Int)) = false := decide_eq_false c2
    clear c2
    obtain rfl := Option.some.inj H
    go_wp2
    go_ret
    exact ⟨by first | rfl | (simp; done) | (simp [*]; done) | (simp [isEmpty_ne_]; done), by repeat (first | exact Drawn0.refl _ | apply Drawn0.step)⟩

end Go.Proofs.YtaimjacpenofpaaDoor.GH
