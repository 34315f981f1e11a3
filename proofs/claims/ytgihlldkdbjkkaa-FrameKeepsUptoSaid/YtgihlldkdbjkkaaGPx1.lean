-- Written for this claim by a program of this session (wip/tools/p2.py).
import Derived.Test.YtgihlldkdbjkkaaGPx0
namespace Go.Proofs.Ytgihlldkdbjkkaa.GP
open Go.RowKit Go.Proofs.YtgihlldkdbjkkaaW.PrintWords Go.Proofs.YtgihlldkdbjkkaaW.PrintLast Go.Proofs.YtgihlldkdbjkkaaW.PrintMore
attribute [local go_sem] max2_int min2_int max_two min_two max_three min_three max_four min_four   -- for this text's walks alone
set_option linter.unusedVariables false
set_option linter.unusedSimpArgs false

/-! ### rosterlaw03_same: function 7 -/
def rosterlaw03_same.l0 : Nat → List ByteArray → List ByteArray → Int → Option (Bool)
 | 0, _, _, _ => none
 | k + 1, x0, x1, x5 => if x5 < (x0.length : Int) then (if 0 ≤ x5 then (if x5 < (x1.length : Int) then (if (rdOf ByteArray.empty x0 x5).toList = (rdOf ByteArray.empty x1 x5).toList then (rosterlaw03_same.l0 k x0 x1 (wrap64 (x5 + 1))) else (some false)) else (none)) else (none)) else (some true)
def rosterlaw03_same.f (k : Nat) (l0 : List ByteArray) (l1 : List ByteArray) : Option (Bool) := if (l0.length : Int) = (l1.length : Int) then (rosterlaw03_same.l0 k l0 l1 0) else (some false)
theorem rosterlaw03_same.mono_l : ∀ k, (∀ y0 y1 y2, LeO (rosterlaw03_same.l0 k y0 y1 y2) (rosterlaw03_same.l0 (k + 1) y0 y1 y2))
 | 0 => fun _ _ _ r h => by simp [rosterlaw03_same.l0] at h
 | k + 1 => by
  have ih0 := rosterlaw03_same.mono_l k
  ·intro y0 y1 y2
   unfold rosterlaw03_same.l0
   repeat' first
   | (with_reducible exact ih0 _ _ _)
   | (with_reducible exact LeO.refl _)
   | (with_reducible exact LeO.none _)
   | (with_reducible refine LeO.ite ?_ ?_)
   | (with_reducible refine LeO.bind ?_ (fun _ => ?_))
   | exact ih0 _ _ _
   | exact LeO.none _
   | refine LeO.ite ?_ ?_
   | refine LeO.bind ?_ (fun _ => ?_)
theorem rosterlaw03_same.mono : ∀ a0 a1 k, LeO (rosterlaw03_same.f k a0 a1) (rosterlaw03_same.f (k + 1) a0 a1) := by
 intro a0 a1 k
 have ih0 := rosterlaw03_same.mono_l k
 unfold rosterlaw03_same.f
 repeat' first
   | (with_reducible exact ih0 _ _ _)
   | (with_reducible exact LeO.refl _)
   | (with_reducible exact LeO.none _)
   | (with_reducible refine LeO.ite ?_ ?_)
   | (with_reducible refine LeO.bind ?_ (fun _ => ?_))
   | exact ih0 _ _ _
   | exact LeO.none _
   | refine LeO.ite ?_ ?_
   | refine LeO.bind ?_ (fun _ => ?_)
set_option maxHeartbeats 8000000 in
set_option maxRecDepth 100000 in
theorem rosterlaw03_same.calls (k : Nat) (A0 : Option Addr) (c0 : Nat) (l0 : List ByteArray) (A1 : Option Addr) (c1 : Nat) (l1 : List ByteArray) (r : Bool) (w : World) (hr0 : Kd.C Kd.string w A0 l0.length l0) (hc0 : l0.length ≤ c0) (hr1 : Kd.C Kd.string w A1 l1.length l1) (hc1 : l1.length ≤ c1) (h : rosterlaw03_same.f k l0 l1 = some r) :
  Calls Try.prog 7 #[.slice A0 l0.length c0, .slice A1 l1.length c1] w fun e w' => e = .returned (.bool r) ∧ Drawn0 w w' := by
 have HR0 := Aside0.mk hr0
 have HC0 := Aside0.mk hc0
 clear hr0 hc0
 have HR1 := Aside0.mk hr1
 have HC1 := Aside0.mk hc1
 clear hr1 hc1
 have H : (if (l0.length : Int) = (l1.length : Int) then (rosterlaw03_same.l0 k l0 l1 0) else (some false)) = some r := h
 clear h
 by_cases c3 : (l0.length : Int) = (l1.length : Int)
 ·rw [if_pos c3] at H
  have c3b0 : ((l0.length : Int) == (l1.length : Int)) = true := beq_iff_eq.mpr c3
  have c3b1 : ((l0.length : Int) != (l1.length : Int)) = false := bne_eq_false_iff_eq.mpr c3
  have c3b2 : (l0.length == l1.length) = true := by first | simpa using c3 | (simp at c3 ⊢; omega)
  clear c3
  have H' := Aside0.mk H
  clear H
  go_enter Try.func7, Try.ntmps7
  go_wp2
  repeat (go_quiet (fail); try go_wp2)
  go_loopg [5] k (fun kq v5 w' => ∃ (x5_1 : Int), v5 = .int .i64 x5_1 ∧ Aside0 (rosterlaw03_same.l0 kq l0 l1 x5_1 = some r) ∧ Aside0 (kq ≤ k) ∧ Drawn0 w w')
  case atStart => exact ⟨(0), (by first | rfl | (simp; done) | (simp [*]; done) | (simp [isEmpty_ne_]; done)), H', ⟨Nat.le_refl _⟩, by repeat (first | exact Drawn0.refl _ | apply Drawn0.step)⟩
  case round =>
   clear H'
   try clear c1
   try clear p2
   try clear c3
   try clear c3b0
   try clear c3b1
   try clear c3b2
   obtain ⟨x5_1, rfl, HA, HK1, ⟨m1, rfl⟩⟩ := hrel
   cases gk with
   | zero => exact absurd HA.out (by simp [rosterlaw03_same.l0])
   | succ k1 =>
    have H := HA.out
    clear HA
    simp only [rosterlaw03_same.l0] at H
    by_cases c4 : x5_1 < (l0.length : Int)
    ·rw [if_pos c4] at H
     have c4b0 : decide (x5_1 < (l0.length : Int)) = true := decide_eq_true c4
     clear c4
     by_cases c5 : 0 ≤ x5_1
     ·rw [if_pos c5] at H
      have c5b0 : decide (0 ≤ x5_1) = true := decide_eq_true c5
      clear c5
      by_cases c6 : x5_1 < (l1.length : Int)
      ·rw [if_pos c6] at H
       have c6b0 : decide (x5_1 < (l1.length : Int)) = true := decide_eq_true c6
       clear c6
       by_cases c7 : (rdOf ByteArray.empty l0 x5_1).toList = (rdOf ByteArray.empty l1 x5_1).toList
       ·rw [if_pos c7] at H
        have c7b0 : ((rdOf ByteArray.empty l0 x5_1).toList == (rdOf ByteArray.empty l1 x5_1).toList) = true := beq_iff_eq.mpr c7
        have c7b1 : ((rdOf ByteArray.empty l0 x5_1).toList != (rdOf ByteArray.empty l1 x5_1).toList) = false := bne_eq_false_iff_eq.mpr c7
        clear c7
        have H' := Aside0.mk H
        clear H
        have p101 : 0 ≤ (x5_1 : Int) := of_decide_eq_true (by first | (with_reducible assumption) | assumption)
        have q101 : x5_1 < (l0.length : Int) := of_decide_eq_true (by first | (with_reducible assumption) | assumption)
        obtain ⟨ad101, e101, hx101_0⟩ := Kd.at_string HR0.out x5_1 p101 q101
        cases e101
        replace p101 := eq_true p101
        replace q101 := eq_true q101
        have p102 : 0 ≤ (x5_1 : Int) := of_decide_eq_true (by first | (with_reducible assumption) | assumption)
        have q102 : x5_1 < (l1.length : Int) := of_decide_eq_true (by first | (with_reducible assumption) | assumption)
        obtain ⟨ad102, e102, hx102_0⟩ := Kd.at_string HR1.out x5_1 p102 q102
        cases e102
        replace p102 := eq_true p102
        replace q102 := eq_true q102
        go_wp2
        repeat (go_quiet (fail); try go_wp2)
        go_roundg k1
        case measure => have := HK1.out; omega
        case rel => exact ⟨(wrap64 (x5_1 + 1)), (by first | rfl | (simp; done) | (simp [*]; done) | (simp [isEmpty_ne_]; done)), H', ⟨by have := HK1.out; omega⟩, by repeat (first | exact Drawn0.refl _ | apply Drawn0.step)⟩
       ·rw [if_neg c7] at H
        have c7b0 : ((rdOf ByteArray.empty l0 x5_1).toList == (rdOf ByteArray.empty l1 x5_1).toList) = false := beq_eq_false_iff_ne.mpr c7
        have c7b1 : ((rdOf ByteArray.empty l0 x5_1).toList != (rdOf ByteArray.empty l1 x5_1).toList) = true := bne_iff_ne.mpr c7
        obtain rfl := Option.some.inj H
        have p101 : 0 ≤ (x5_1 : Int) := of_decide_eq_true (by first | (with_reducible assumption) | assumption)
        have q101 : x5_1 < (l0.length : Int) := of_decide_eq_true (by first | (with_reducible assumption) | assumption)
        obtain ⟨ad101, e101, hx101_0⟩ := Kd.at_string HR0.out x5_1 p101 q101
        cases e101
        replace p101 := eq_true p101
        replace q101 := eq_true q101
        have p102 : 0 ≤ (x5_1 : Int) := of_decide_eq_true (by first | (with_reducible assumption) | assumption)
        have q102 : x5_1 < (l1.length : Int) := of_decide_eq_true (by first | (with_reducible assumption) | assumption)
        obtain ⟨ad102, e102, hx102_0⟩ := Kd.at_string HR1.out x5_1 p102 q102
        cases e102
        replace p102 := eq_true p102
        replace q102 := eq_true q102
        go_wp2
        repeat (go_quiet (fail); try go_wp2)
        go_ret
        exact ⟨by first | rfl | (simp; done) | (simp [*]; done) | (simp [isEmpty_ne_]; done), by repeat (first | exact Drawn0.refl _ | apply Drawn0.step)⟩
      ·rw [if_neg c6] at H
       exact absurd H (by simp)
     ·rw [if_neg c5] at H
      exact absurd H (by simp)
    ·rw [if_neg c4] at H
     have c4b0 : decide (x5_1 < (l0.length : Int)) = false := decide_eq_false c4
     clear c4
     obtain rfl := Option.some.inj H
     go_wp2
     repeat (go_quiet (fail); try go_wp2)
     go_ret
     exact ⟨by first | rfl | (simp; done) | (simp [*]; done) | (simp [isEmpty_ne_]; done), by repeat (first | exact Drawn0.refl _ | apply Drawn0.step)⟩
 ·rw [if_neg c3] at H
  have c3b0 : ((l0.length : Int) == (l1.length : Int)) = false := beq_eq_false_iff_ne.mpr c3
  have c3b1 : ((l0.length : Int) != (l1.length : Int)) = true := bne_iff_ne.mpr c3
  have c3b2 : (l0.length == l1.length) = false := by first | simpa using c3 | (simp at c3 ⊢; omega)
  obtain rfl := Option.some.inj H
  go_enter Try.func7, Try.ntmps7
  go_wp2
  repeat (go_quiet (fail); try go_wp2)
  go_ret
  exact ⟨by first | rfl | (simp; done) | (simp [*]; done) | (simp [isEmpty_ne_]; done), by repeat (first | exact Drawn0.refl _ | apply Drawn0.step)⟩

/-! ### rosterlaw03_wrap: function 5 -/
mutual
def rosterlaw03_wrap.j0 : Nat → ByteArray → Int → Int → Bool → Option (ByteArray)
 | 0, _, _, _, _ => none
 | k + 1, x1, x5, x6, x17 => if x17 = true then (rosterlaw03_wrap.j1 k x1 x5 0) else (rosterlaw03_wrap.j1 k x1 x5 x6)
def rosterlaw03_wrap.j1 : Nat → ByteArray → Int → Int → Option (ByteArray)
 | 0, _, _, _ => none
 | k + 1, x1, x5, x6 => if x6 = 0 then (rosterlaw03_wrap.j2 k x1 x5 x6 (decide (x5 > 127))) else (rosterlaw03_wrap.j2 k x1 x5 x6 false)
def rosterlaw03_wrap.j2 : Nat → ByteArray → Int → Int → Bool → Option (ByteArray)
 | 0, _, _, _, _ => none
 | k + 1, x1, x5, x6, x23 => if x23 = true then (rosterlaw03_wrap.j3 k x1 x5 1) else (rosterlaw03_wrap.j3 k x1 x5 x6)
def rosterlaw03_wrap.j3 : Nat → ByteArray → Int → Int → Option (ByteArray)
 | 0, _, _, _ => none
 | k + 1, x1, x5, x6 => rosterlaw03_wrap.l0 k x1 x5 x6
def rosterlaw03_wrap.j5 : Nat → ByteArray → Int → Int → Option (ByteArray)
 | 0, _, _, _ => none
 | k + 1, x1, x5, x6 => if x6 = 0 then ((some (([48, (x5) % 256] : List Int) : List Int)).bind fun y103 => (if (strOfNums y103).size + x1.size ≤ 9223372036854775807 then (some ((strOfNums y103) ++ x1)) else (none))) else (rosterlaw03_wrap.l1 k x1 x5 (([48, (wrap64 (128 + x6)) % 256] : List Int)) (wrap64 (x6 - 1)))
def rosterlaw03_wrap.l1 : Nat → ByteArray → Int → List Int → Int → Option (ByteArray)
 | 0, _, _, _, _ => none
 | k + 1, x1, x5, x7, x8 => if x8 ≥ 0 then (if 0 ≤ (wrap64 (8 * x8)) then (if x7.length < 140737488355328 then (rosterlaw03_wrap.l1 k x1 x5 (x7 ++ [(shr .i64 x5 (wrap64 (8 * x8))) % 256]) (wrap64 (x8 - 1))) else (none)) else (none)) else (if (strOfNums x7).size + x1.size ≤ 9223372036854775807 then (some ((strOfNums x7) ++ x1)) else (none))
def rosterlaw03_wrap.l0 : Nat → ByteArray → Int → Int → Option (ByteArray)
 | 0, _, _, _ => none
 | k + 1, x1, x5, x6 => if x6 > 0 then (if x6 < 4 then (if 0 ≤ (wrap64 (8 * x6)) then (if (shr .i64 x5 (wrap64 (8 * x6))) > 0 then (rosterlaw03_wrap.l0 k x1 x5 (wrap64 (x6 + 1))) else (rosterlaw03_wrap.j5 k x1 x5 x6)) else (none)) else (rosterlaw03_wrap.j5 k x1 x5 x6)) else (rosterlaw03_wrap.j5 k x1 x5 x6)
end
def rosterlaw03_wrap.f (k : Nat) (a0 : Int) (a1 : ByteArray) : Option (ByteArray) := if a0 < 0 then (rosterlaw03_wrap.j0 k a1 (a1.size : Int) a0 true) else (rosterlaw03_wrap.j0 k a1 (a1.size : Int) a0 (decide (a0 > 4)))
theorem rosterlaw03_wrap.mono_l : ∀ k, (∀ y0 y1 y2 y3, LeO (rosterlaw03_wrap.j0 k y0 y1 y2 y3) (rosterlaw03_wrap.j0 (k + 1) y0 y1 y2 y3)) ∧ (∀ y0 y1 y2, LeO (rosterlaw03_wrap.j1 k y0 y1 y2) (rosterlaw03_wrap.j1 (k + 1) y0 y1 y2)) ∧ (∀ y0 y1 y2 y3, LeO (rosterlaw03_wrap.j2 k y0 y1 y2 y3) (rosterlaw03_wrap.j2 (k + 1) y0 y1 y2 y3)) ∧ (∀ y0 y1 y2, LeO (rosterlaw03_wrap.j3 k y0 y1 y2) (rosterlaw03_wrap.j3 (k + 1) y0 y1 y2)) ∧ (∀ y0 y1 y2, LeO (rosterlaw03_wrap.j5 k y0 y1 y2) (rosterlaw03_wrap.j5 (k + 1) y0 y1 y2)) ∧ (∀ y0 y1 y2 y3, LeO (rosterlaw03_wrap.l1 k y0 y1 y2 y3) (rosterlaw03_wrap.l1 (k + 1) y0 y1 y2 y3)) ∧ (∀ y0 y1 y2, LeO (rosterlaw03_wrap.l0 k y0 y1 y2) (rosterlaw03_wrap.l0 (k + 1) y0 y1 y2))
 | 0 => ⟨fun _ _ _ _ r h => by simp [rosterlaw03_wrap.j0] at h, fun _ _ _ r h => by simp [rosterlaw03_wrap.j1] at h, fun _ _ _ _ r h => by simp [rosterlaw03_wrap.j2] at h, fun _ _ _ r h => by simp [rosterlaw03_wrap.j3] at h, fun _ _ _ r h => by simp [rosterlaw03_wrap.j5] at h, fun _ _ _ _ r h => by simp [rosterlaw03_wrap.l1] at h, fun _ _ _ r h => by simp [rosterlaw03_wrap.l0] at h⟩
 | k + 1 => by
  obtain ⟨ih0, ih1, ih2, ih3, ih4, ih5, ih6⟩ := rosterlaw03_wrap.mono_l k
  refine ⟨?_, ?_, ?_, ?_, ?_, ?_, ?_⟩
  ·intro y0 y1 y2 y3
   unfold rosterlaw03_wrap.j0
   repeat' first
   | (with_reducible exact ih0 _ _ _ _)
   | (with_reducible exact ih1 _ _ _)
   | (with_reducible exact ih2 _ _ _ _)
   | (with_reducible exact ih3 _ _ _)
   | (with_reducible exact ih4 _ _ _)
   | (with_reducible exact ih5 _ _ _ _)
   | (with_reducible exact ih6 _ _ _)
   | (with_reducible exact LeO.refl _)
   | (with_reducible exact LeO.none _)
   | (with_reducible refine LeO.ite ?_ ?_)
   | (with_reducible refine LeO.bind ?_ (fun _ => ?_))
   | exact ih0 _ _ _ _
   | exact ih1 _ _ _
   | exact ih2 _ _ _ _
   | exact ih3 _ _ _
   | exact ih4 _ _ _
   | exact ih5 _ _ _ _
   | exact ih6 _ _ _
   | exact LeO.none _
   | refine LeO.ite ?_ ?_
   | refine LeO.bind ?_ (fun _ => ?_)
  ·intro y0 y1 y2
   unfold rosterlaw03_wrap.j1
   repeat' first
   | (with_reducible exact ih0 _ _ _ _)
   | (with_reducible exact ih1 _ _ _)
   | (with_reducible exact ih2 _ _ _ _)
   | (with_reducible exact ih3 _ _ _)
   | (with_reducible exact ih4 _ _ _)
   | (with_reducible exact ih5 _ _ _ _)
   | (with_reducible exact ih6 _ _ _)
   | (with_reducible exact LeO.refl _)
   | (with_reducible exact LeO.none _)
   | (with_reducible refine LeO.ite ?_ ?_)
   | (with_reducible refine LeO.bind ?_ (fun _ => ?_))
   | exact ih0 _ _ _ _
   | exact ih1 _ _ _
   | exact ih2 _ _ _ _
   | exact ih3 _ _ _
   | exact ih4 _ _ _
   | exact ih5 _ _ _ _
   | exact ih6 _ _ _
   | exact LeO.none _
   | refine LeO.ite ?_ ?_
   | refine LeO.bind ?_ (fun _ => ?_)
  ·intro y0 y1 y2 y3
   unfold rosterlaw03_wrap.j2
   repeat' first
   | (with_reducible exact ih0 _ _ _ _)
   | (with_reducible exact ih1 _ _ _)
   | (with_reducible exact ih2 _ _ _ _)
   | (with_reducible exact ih3 _ _ _)
   | (with_reducible exact ih4 _ _ _)
   | (with_reducible exact ih5 _ _ _ _)
   | (with_reducible exact ih6 _ _ _)
   | (with_reducible exact LeO.refl _)
   | (with_reducible exact LeO.none _)
   | (with_reducible refine LeO.ite ?_ ?_)
   | (with_reducible refine LeO.bind ?_ (fun _ => ?_))
   | exact ih0 _ _ _ _
   | exact ih1 _ _ _
   | exact ih2 _ _ _ _
   | exact ih3 _ _ _
   | exact ih4 _ _ _
   | exact ih5 _ _ _ _
   | exact ih6 _ _ _
   | exact LeO.none _
   | refine LeO.ite ?_ ?_
   | refine LeO.bind ?_ (fun _ => ?_)
  ·intro y0 y1 y2
   unfold rosterlaw03_wrap.j3
   repeat' first
   | (with_reducible exact ih0 _ _ _ _)
   | (with_reducible exact ih1 _ _ _)
   | (with_reducible exact ih2 _ _ _ _)
   | (with_reducible exact ih3 _ _ _)
   | (with_reducible exact ih4 _ _ _)
   | (with_reducible exact ih5 _ _ _ _)
   | (with_reducible exact ih6 _ _ _)
   | (with_reducible exact LeO.refl _)
   | (with_reducible exact LeO.none _)
   | (with_reducible refine LeO.ite ?_ ?_)
   | (with_reducible refine LeO.bind ?_ (fun _ => ?_))
   | exact ih0 _ _ _ _
   | exact ih1 _ _ _
   | exact ih2 _ _ _ _
   | exact ih3 _ _ _
   | exact ih4 _ _ _
   | exact ih5 _ _ _ _
   | exact ih6 _ _ _
   | exact LeO.none _
   | refine LeO.ite ?_ ?_
   | refine LeO.bind ?_ (fun _ => ?_)
  ·intro y0 y1 y2
   unfold rosterlaw03_wrap.j5
   repeat' first
   | (with_reducible exact ih0 _ _ _ _)
   | (with_reducible exact ih1 _ _ _)
   | (with_reducible exact ih2 _ _ _ _)
   | (with_reducible exact ih3 _ _ _)
   | (with_reducible exact ih4 _ _ _)
   | (with_reducible exact ih5 _ _ _ _)
   | (with_reducible exact ih6 _ _ _)
   | (with_reducible exact LeO.refl _)
   | (with_reducible exact LeO.none _)
   | (with_reducible refine LeO.ite ?_ ?_)
   | (with_reducible refine LeO.bind ?_ (fun _ => ?_))
   | exact ih0 _ _ _ _
   | exact ih1 _ _ _
   | exact ih2 _ _ _ _
   | exact ih3 _ _ _
   | exact ih4 _ _ _
   | exact ih5 _ _ _ _
   | exact ih6 _ _ _
   | exact LeO.none _
   | refine LeO.ite ?_ ?_
   | refine LeO.bind ?_ (fun _ => ?_)
  ·intro y0 y1 y2 y3
   unfold rosterlaw03_wrap.l1
   repeat' first
   | (with_reducible exact ih0 _ _ _ _)
   | (with_reducible exact ih1 _ _ _)
   | (with_reducible exact ih2 _ _ _ _)
   | (with_reducible exact ih3 _ _ _)
   | (with_reducible exact ih4 _ _ _)
   | (with_reducible exact ih5 _ _ _ _)
   | (with_reducible exact ih6 _ _ _)
   | (with_reducible exact LeO.refl _)
   | (with_reducible exact LeO.none _)
   | (with_reducible refine LeO.ite ?_ ?_)
   | (with_reducible refine LeO.bind ?_ (fun _ => ?_))
   | exact ih0 _ _ _ _
   | exact ih1 _ _ _
   | exact ih2 _ _ _ _
   | exact ih3 _ _ _
   | exact ih4 _ _ _
   | exact ih5 _ _ _ _
   | exact ih6 _ _ _
   | exact LeO.none _
   | refine LeO.ite ?_ ?_
   | refine LeO.bind ?_ (fun _ => ?_)
  ·intro y0 y1 y2
   unfold rosterlaw03_wrap.l0
   repeat' first
   | (with_reducible exact ih0 _ _ _ _)
   | (with_reducible exact ih1 _ _ _)
   | (with_reducible exact ih2 _ _ _ _)
   | (with_reducible exact ih3 _ _ _)
   | (with_reducible exact ih4 _ _ _)
   | (with_reducible exact ih5 _ _ _ _)
   | (with_reducible exact ih6 _ _ _)
   | (with_reducible exact LeO.refl _)
   | (with_reducible exact LeO.none _)
   | (with_reducible refine LeO.ite ?_ ?_)
   | (with_reducible refine LeO.bind ?_ (fun _ => ?_))
   | exact ih0 _ _ _ _
   | exact ih1 _ _ _
   | exact ih2 _ _ _ _
   | exact ih3 _ _ _
   | exact ih4 _ _ _
   | exact ih5 _ _ _ _
   | exact ih6 _ _ _
   | exact LeO.none _
   | refine LeO.ite ?_ ?_
   | refine LeO.bind ?_ (fun _ => ?_)
theorem rosterlaw03_wrap.mono : ∀ a0 a1 k, LeO (rosterlaw03_wrap.f k a0 a1) (rosterlaw03_wrap.f (k + 1) a0 a1) := by
 intro a0 a1 k
 obtain ⟨ih0, ih1, ih2, ih3, ih4, ih5, ih6⟩ := rosterlaw03_wrap.mono_l k
 unfold rosterlaw03_wrap.f
 repeat' first
   | (with_reducible exact ih0 _ _ _ _)
   | (with_reducible exact ih1 _ _ _)
   | (with_reducible exact ih2 _ _ _ _)
   | (with_reducible exact ih3 _ _ _)
   | (with_reducible exact ih4 _ _ _)
   | (with_reducible exact ih5 _ _ _ _)
   | (with_reducible exact ih6 _ _ _)
   | (with_reducible exact LeO.refl _)
   | (with_reducible exact LeO.none _)
   | (with_reducible refine LeO.ite ?_ ?_)
   | (with_reducible refine LeO.bind ?_ (fun _ => ?_))
   | exact ih0 _ _ _ _
   | exact ih1 _ _ _
   | exact ih2 _ _ _ _
   | exact ih3 _ _ _
   | exact ih4 _ _ _
   | exact ih5 _ _ _ _
   | exact ih6 _ _ _
   | exact LeO.none _
   | refine LeO.ite ?_ ?_
   | refine LeO.bind ?_ (fun _ => ?_)
set_option maxHeartbeats 8000000 in
set_option maxRecDepth 100000 in
theorem rosterlaw03_wrap.calls (k : Nat) (a0 : Int) (a1 : ByteArray) (r : ByteArray) (w : World) (h : rosterlaw03_wrap.f k a0 a1 = some r) :
  Calls Try.prog 5 #[.int .i64 a0, .string a1] w fun e w' => e = .returned (.string r) ∧ Below w.heap.size w w' := by
 have HB := Aside0.mk (Below.refl w.heap.size w)
 have H : (if a0 < 0 then (rosterlaw03_wrap.j0 k a1 (a1.size : Int) a0 true) else (rosterlaw03_wrap.j0 k a1 (a1.size : Int) a0 (decide (a0 > 4)))) = some r := h
 clear h
 have HC3 := Aside0.mk H
 clear H
 go_enter Try.func5, Try.ntmps5
 go_upto_region 3 with (fail)
 go_cut [17] (fun v17 wc => ∃ (kq : Nat) (x17_2 : Bool), v17 = .bool x17_2 ∧ Aside0 (rosterlaw03_wrap.j0 kq a1 (a1.size : Int) a0 x17_2 = some r) ∧ Aside0 (kq ≤ k) ∧ Aside0 (Below w.heap.size w wc))
 case first =>
  have H := HC3.out
  clear HC3
  by_cases c4 : a0 < 0
  ·rw [if_pos c4] at H
   have c4b0 : decide (a0 < 0) = true := decide_eq_true c4
   clear c4
   (first | rw [c4b0] | (simp only [i64_w, i32_w]; rw [c4b0]) | skip)
   have H' := Aside0.mk H
   clear H
   go_wp2
   go_meet
   case rel => exact ⟨_, (true), (by first | rfl | (simp; done) | (simp [*]; done) | (simp [isEmpty_ne_]; done)), H', ⟨by first | omega | exact Nat.le_refl _⟩, ⟨by repeat (first | (with_reducible first | exact HB.out | apply below_alloc | apply pw_below_drewN | apply below_drew1) | exact HB.out)⟩⟩
  ·rw [if_neg c4] at H
   have c4b0 : decide (a0 < 0) = false := decide_eq_false c4
   clear c4
   (first | rw [c4b0] | (simp only [i64_w, i32_w]; rw [c4b0]) | skip)
   have H' := Aside0.mk H
   clear H
   go_wp2
   go_meet
   case rel => exact ⟨_, (decide (a0 > 4)), (by first | rfl | (simp; done) | (simp [*]; done) | (simp [isEmpty_ne_]; done)), H', ⟨by first | omega | exact Nat.le_refl _⟩, ⟨by repeat (first | (with_reducible first | exact HB.out | apply below_alloc | apply pw_below_drewN | apply below_drew1) | exact HB.out)⟩⟩
 case rest =>
  clear HC3
  try clear p2
  try clear c4
  try clear c4b0
  obtain ⟨kq, x17_2, rfl, HA, HJ2, HB⟩ := hcut
  cases kq with
  | zero => exact absurd HA.out (by simp [rosterlaw03_wrap.j0])
  | succ kj2 =>
   have H := HA.out
   clear HA
   simp only [rosterlaw03_wrap.j0] at H
   have HC5 := Aside0.mk H
   clear H
   go_upto_if 17 with (fail)
   go_cut [6] (fun v6 wc => ∃ (kq : Nat) (x6_4 : Int), v6 = .int .i64 x6_4 ∧ Aside0 (rosterlaw03_wrap.j1 kq a1 (a1.size : Int) x6_4 = some r) ∧ Aside0 (kq ≤ kj2) ∧ Aside0 (Below w.heap.size w wc))
   case first =>
    have H := HC5.out
    clear HC5
    by_cases c6 : x17_2 = true
    ·subst c6
     have H1 : (rosterlaw03_wrap.j1 kj2 a1 (a1.size : Int) 0) = some r := by rw [if_pos rfl] at H; exact H
     clear H
     have H := H1
     clear H1
     have H' := Aside0.mk H
     clear H
     go_wp2
     go_meet
     case rel => exact ⟨_, (0), (by first | rfl | (simp; done) | (simp [*]; done) | (simp [isEmpty_ne_]; done)), H', ⟨by have := HJ2.out; first | omega | exact Nat.le_refl _⟩, ⟨by repeat (first | (with_reducible first | exact HB.out | apply below_alloc | apply pw_below_drewN | apply below_drew1) | exact HB.out)⟩⟩
    ·replace c6 := Bool.eq_false_iff.mpr c6
     subst c6
     have H1 : (rosterlaw03_wrap.j1 kj2 a1 (a1.size : Int) a0) = some r := by rw [if_neg (show ¬ (false = true) by decide)] at H; exact H
     clear H
     have H := H1
     clear H1
     have H' := Aside0.mk H
     clear H
     go_wp2
     go_meet
     case rel => exact ⟨_, (a0), (by first | rfl | (simp; done) | (simp [*]; done) | (simp [isEmpty_ne_]; done)), H', ⟨by have := HJ2.out; first | omega | exact Nat.le_refl _⟩, ⟨by repeat (first | (with_reducible first | exact HB.out | apply below_alloc | apply pw_below_drewN | apply below_drew1) | exact HB.out)⟩⟩
   case rest =>
    clear HC5
    try clear p2
    try clear c4
    try clear c4b0
    try clear c5
    try clear c6
    try clear p2
    obtain ⟨kq, x6_4, rfl, HA, HJ4, HB⟩ := hcut
    cases kq with
    | zero => exact absurd HA.out (by simp [rosterlaw03_wrap.j1])
    | succ kj4 =>
     have H := HA.out
     clear HA
     simp only [rosterlaw03_wrap.j1] at H
     have HC7 := Aside0.mk H
     clear H
     go_upto_region 5 with (fail)
     go_cut [23] (fun v23 wc => ∃ (kq : Nat) (x23_6 : Bool), v23 = .bool x23_6 ∧ Aside0 (rosterlaw03_wrap.j2 kq a1 (a1.size : Int) x6_4 x23_6 = some r) ∧ Aside0 (kq ≤ kj4) ∧ Aside0 (Below w.heap.size w wc))
     case first =>
      have H := HC7.out
      clear HC7
      by_cases c8 : x6_4 = 0
      ·rw [if_pos c8] at H
       have c8b0 : (x6_4 == 0) = true := beq_iff_eq.mpr c8
       have c8b1 : (x6_4 != 0) = false := bne_eq_false_iff_eq.mpr c8
       clear c8
       (first | rw [c8b0] | (simp only [i64_w, i32_w]; rw [c8b0]) | skip)
       have H' := Aside0.mk H
       clear H
       go_wp2
       go_meet
       case rel => exact ⟨_, (decide ((a1.size : Int) > 127)), (by first | rfl | (simp; done) | (simp [*]; done) | (simp [isEmpty_ne_]; done)), H', ⟨by have := HJ2.out; have := HJ4.out; first | omega | exact Nat.le_refl _⟩, ⟨by repeat (first | (with_reducible first | exact HB.out | apply below_alloc | apply pw_below_drewN | apply below_drew1) | exact HB.out)⟩⟩
      ·rw [if_neg c8] at H
       have c8b0 : (x6_4 == 0) = false := beq_eq_false_iff_ne.mpr c8
       have c8b1 : (x6_4 != 0) = true := bne_iff_ne.mpr c8
       (first | rw [c8b0] | (simp only [i64_w, i32_w]; rw [c8b0]) | skip)
       have H' := Aside0.mk H
       clear H
       go_wp2
       go_meet
       case rel => exact ⟨_, (false), (by first | rfl | (simp; done) | (simp [*]; done) | (simp [isEmpty_ne_]; done)), H', ⟨by have := HJ2.out; have := HJ4.out; first | omega | exact Nat.le_refl _⟩, ⟨by repeat (first | (with_reducible first | exact HB.out | apply below_alloc | apply pw_below_drewN | apply below_drew1) | exact HB.out)⟩⟩
     case rest =>
      clear HC7
      try clear p2
      try clear c4
      try clear c4b0
      try clear c5
      try clear c6
      try clear c8
      try clear c8b0
      try clear c8b1
      try clear p2
      obtain ⟨kq, x23_6, rfl, HA, HJ6, HB⟩ := hcut
      cases kq with
      | zero => exact absurd HA.out (by simp [rosterlaw03_wrap.j2])
      | succ kj6 =>
       have H := HA.out
       clear HA
       simp only [rosterlaw03_wrap.j2] at H
       have HC9 := Aside0.mk H
       clear H
       go_upto_if 23 with (fail)
       go_cut [6] (fun v6 wc => ∃ (kq : Nat) (x6_8 : Int), v6 = .int .i64 x6_8 ∧ Aside0 (rosterlaw03_wrap.j3 kq a1 (a1.size : Int) x6_8 = some r) ∧ Aside0 (kq ≤ kj6) ∧ Aside0 (Below w.heap.size w wc))
       case first =>
        have H := HC9.out
        clear HC9
        by_cases c10 : x23_6 = true
        ·subst c10
         have H1 : (rosterlaw03_wrap.j3 kj6 a1 (a1.size : Int) 1) = some r := by rw [if_pos rfl] at H; exact H
         clear H
         have H := H1
         clear H1
         have H' := Aside0.mk H
         clear H
         go_wp2
         go_meet
         case rel => exact ⟨_, (1), (by first | rfl | (simp; done) | (simp [*]; done) | (simp [isEmpty_ne_]; done)), H', ⟨by have := HJ2.out; have := HJ4.out; have := HJ6.out; first | omega | exact Nat.le_refl _⟩, ⟨by repeat (first | (with_reducible first | exact HB.out | apply below_alloc | apply pw_below_drewN | apply below_drew1) | exact HB.out)⟩⟩
        ·replace c10 := Bool.eq_false_iff.mpr c10
         subst c10
         have H1 : (rosterlaw03_wrap.j3 kj6 a1 (a1.size : Int) x6_4) = some r := by rw [if_neg (show ¬ (false = true) by decide)] at H; exact H
         clear H
         have H := H1
         clear H1
         have H' := Aside0.mk H
         clear H
         go_wp2
         go_meet
         case rel => exact ⟨_, (x6_4), (by first | rfl | (simp; done) | (simp [*]; done) | (simp [isEmpty_ne_]; done)), H', ⟨by have := HJ2.out; have := HJ4.out; have := HJ6.out; first | omega | exact Nat.le_refl _⟩, ⟨by repeat (first | (with_reducible first | exact HB.out | apply below_alloc | apply pw_below_drewN | apply below_drew1) | exact HB.out)⟩⟩
       case rest =>
        clear HC9
        try clear c1
        try clear p2
        try clear c4
        try clear c4b0
        try clear c5
        try clear c6
        try clear c8
        try clear c8b0
        try clear c8b1
        try clear c10
        try clear p2
        obtain ⟨kq, x6_8, rfl, HA, HJ8, HB⟩ := hcut
        cases kq with
        | zero => exact absurd HA.out (by simp [rosterlaw03_wrap.j3])
        | succ kj8 =>
         have H := HA.out
         clear HA
         simp only [rosterlaw03_wrap.j3] at H
         have HC11 := Aside0.mk H
         clear H
         go_upto_block 0 with (fail)
         go_cut [6] (fun v6 wc => ∃ (kq : Nat) (x6_10 : Int), v6 = .int .i64 x6_10 ∧ Aside0 (rosterlaw03_wrap.j5 kq a1 (a1.size : Int) x6_10 = some r) ∧ Aside0 (kq ≤ kj8) ∧ Aside0 (Below w.heap.size w wc))
         case first =>
          have H := HC11.out
          clear HC11
          have H' := Aside0.mk H
          clear H
          go_wp2
          go_loopg [6] kj8 (fun kq v6 w' => ∃ (x6_5 : Int), v6 = .int .i64 x6_5 ∧ Aside0 (rosterlaw03_wrap.l0 kq a1 (a1.size : Int) x6_5 = some r) ∧ Aside0 (kq ≤ kj8) ∧ Aside0 (Below w.heap.size w w'))
          case atStart => exact ⟨(x6_8), (by first | rfl | (simp; done) | (simp [*]; done) | (simp [isEmpty_ne_]; done)), H', ⟨Nat.le_refl _⟩, ⟨by repeat (first | (with_reducible first | exact HB.out | apply below_alloc | apply pw_below_drewN | apply below_drew1) | exact HB.out)⟩⟩
          case round =>
           clear H'
           try clear c1
           try clear p2
           try clear c4
           try clear c4b0
           try clear c5
           try clear c6
           try clear c8
           try clear c8b0
           try clear c8b1
           try clear c10
           try clear p2
           obtain ⟨x6_5, rfl, HA, HK5, HB⟩ := hrel
           cases gk with
           | zero => exact absurd HA.out (by simp [rosterlaw03_wrap.l0])
           | succ k5 =>
            have H := HA.out
            clear HA
            simp only [rosterlaw03_wrap.l0] at H
            by_cases c12 : x6_5 > 0
            ·rw [if_pos c12] at H
             have c12b0 : decide (0 < x6_5) = true := decide_eq_true c12
             clear c12
             (first | rw [c12b0] | (simp only [i64_w, i32_w]; rw [c12b0]) | skip)
             by_cases c13 : x6_5 < 4
             ·rw [if_pos c13] at H
              have c13b0 : decide (x6_5 < 4) = true := decide_eq_true c13
              clear c13
              obtain ⟨ji14, hji14⟩ : ∃ j_ : Int, (wrap64 (8 * x6_5)) = j_ := ⟨_, rfl⟩
              replace H : (if 0 ≤ (ji14) then (if (shr .i64 (a1.size : Int) (ji14)) > 0 then (rosterlaw03_wrap.l0 k5 a1 (a1.size : Int) (wrap64 (x6_5 + 1))) else (rosterlaw03_wrap.j5 k5 a1 (a1.size : Int) x6_5)) else (none)) = some r := by first | (rw [hji14] at H; exact H) | (simp only [hji14] at H ⊢; exact H)
              have hji14w : (IntKind.i64.wrap (8 * x6_5)) = ji14 := (i64_w _).trans hji14
              by_cases c15 : 0 ≤ (ji14)
              ·rw [if_pos c15] at H
               have c15b0 := eq_true c15
               have c15b1 : decide (0 ≤ (ji14)) = true := decide_eq_true c15
               clear c15
               obtain ⟨ji16, hji16⟩ : ∃ j_ : Int, (shr .i64 (a1.size : Int) (ji14)) = j_ := ⟨_, rfl⟩
               replace H : (if (ji16) > 0 then (rosterlaw03_wrap.l0 k5 a1 (a1.size : Int) (wrap64 (x6_5 + 1))) else (rosterlaw03_wrap.j5 k5 a1 (a1.size : Int) x6_5)) = some r := by first | (rw [hji16] at H; exact H) | (simp only [hji16] at H ⊢; exact H)
               have hji16_ : ((a1.size : Int) / 2 ^ min (ji14).toNat 64) = ji16 := hji16
               have hji16z : (ji14) ≤ 64 → ((a1.size : Int) / 2 ^ (ji14).toNat) = ji16 := shr_small hji16
               by_cases c17 : (ji16) > 0
               ·rw [if_pos c17] at H
                have c17b0 : decide (0 < (ji16)) = true := decide_eq_true c17
                clear c17
                have H' := Aside0.mk H
                clear H
                go_wp2
                go_roundg k5
                case measure => have := HJ2.out; have := HJ4.out; have := HJ6.out; have := HJ8.out; have := HK5.out; omega
                case rel => exact ⟨(wrap64 (x6_5 + 1)), (by first | rfl | (simp; done) | (simp [*]; done) | (simp [isEmpty_ne_]; done)), H', ⟨by have := HJ2.out; have := HJ4.out; have := HJ6.out; have := HJ8.out; have := HK5.out; omega⟩, ⟨by repeat (first | (with_reducible first | exact HB.out | apply below_alloc | apply pw_below_drewN | apply below_drew1) | exact HB.out)⟩⟩
               ·rw [if_neg c17] at H
                have c17b0 : decide (0 < (ji16)) = false := decide_eq_false c17
                clear c17
                have H' := Aside0.mk H
                clear H
                go_wp2
                go_meet
                case rel => exact ⟨_, (x6_5), (by first | rfl | (simp; done) | (simp [*]; done) | (simp [isEmpty_ne_]; done)), H', ⟨by have := HJ2.out; have := HJ4.out; have := HJ6.out; have := HJ8.out; have := HK5.out; first | omega | exact Nat.le_refl _⟩, ⟨by repeat (first | (with_reducible first | exact HB.out | apply below_alloc | apply pw_below_drewN | apply below_drew1) | exact HB.out)⟩⟩
              ·rw [if_neg c15] at H
               exact absurd H (by simp)
             ·rw [if_neg c13] at H
              have c13b0 : decide (x6_5 < 4) = false := decide_eq_false c13
              clear c13
              have H' := Aside0.mk H
              clear H
              go_wp2
              go_meet
              case rel => exact ⟨_, (x6_5), (by first | rfl | (simp; done) | (simp [*]; done) | (simp [isEmpty_ne_]; done)), H', ⟨by have := HJ2.out; have := HJ4.out; have := HJ6.out; have := HJ8.out; have := HK5.out; first | omega | exact Nat.le_refl _⟩, ⟨by repeat (first | (with_reducible first | exact HB.out | apply below_alloc | apply pw_below_drewN | apply below_drew1) | exact HB.out)⟩⟩
            ·rw [if_neg c12] at H
             have c12b0 : decide (0 < x6_5) = false := decide_eq_false c12
             clear c12
             (first | rw [c12b0] | (simp only [i64_w, i32_w]; rw [c12b0]) | skip)
             have H' := Aside0.mk H
             clear H
             go_wp2
             go_meet
             case rel => exact ⟨_, (x6_5), (by first | rfl | (simp; done) | (simp [*]; done) | (simp [isEmpty_ne_]; done)), H', ⟨by have := HJ2.out; have := HJ4.out; have := HJ6.out; have := HJ8.out; have := HK5.out; first | omega | exact Nat.le_refl _⟩, ⟨by repeat (first | (with_reducible first | exact HB.out | apply below_alloc | apply pw_below_drewN | apply below_drew1) | exact HB.out)⟩⟩
         case rest =>
          clear HC11
          try clear c1
          try clear p2
          try clear c4
          try clear c4b0
          try clear c5
          try clear c6
          try clear p6
          try clear c8
          try clear c8b0
          try clear c8b1
          try clear c10
          try clear c12
          try clear c12b0
          try clear c13
          try clear c13b0
          try clear c15
          try clear c15b0
          try clear c15b1
          try clear c17
          try clear c17b0
          try clear p2
          obtain ⟨kq, x6_10, rfl, HA, HJ10, HB⟩ := hcut
          cases kq with
          | zero => exact absurd HA.out (by simp [rosterlaw03_wrap.j5])
          | succ kj10 =>
           have H := HA.out
           clear HA
           simp only [rosterlaw03_wrap.j5] at H
           by_cases c18 : x6_10 = 0
           ·rw [if_pos c18] at H
            have c18b0 : (x6_10 == 0) = true := beq_iff_eq.mpr c18
            have c18b1 : (x6_10 != 0) = false := bne_eq_false_iff_eq.mpr c18
            clear c18
            obtain ⟨y103, hy103⟩ : ∃ y_ : List Int, y_ = (([48, ((a1.size : Int)) % 256] : List Int)) := ⟨_, rfl⟩
            replace H : (if (strOfNums y103).size + a1.size ≤ 9223372036854775807 then (some ((strOfNums y103) ++ a1)) else (none)) = some r := by first | (rw [hy103]; with_reducible exact H) | (have H2_ := (Option.bind_some _ _).symm.trans H; rw [hy103]; with_reducible exact H2_) | (have H2_ := (Option.bind_some _ _).symm.trans H; with_reducible exact H2_) | with_reducible exact H | (rw [hy103]; exact H) | exact H
            have Ny103 := Aside0.mk hy103
            clear hy103
            by_cases c19 : (strOfNums y103).size + a1.size ≤ 9223372036854775807
            ·rw [if_pos c19] at H
             have c19b0 := eq_true c19
             have c19b1 : decide ((strOfNums y103).size + a1.size ≤ 9223372036854775807) = true := decide_eq_true c19
             try have c19b2 : (9223372036854775807 < (strOfNums y103).size + a1.size) = False := eq_false (Nat.not_lt.2 c19)
             obtain rfl := Option.some.inj H
             go_wp2_with (first | ((with_reducible refine gate_dst (N := 43) rfl ?_); refine Kd.R_lit (Kd.int .u8) _ 5 ?hg (N := 43) ?hd (xs := ([48, ((a1.size : Int)) % 256] : List Int)) (inner := [.int .u8 48, .int .u8 (((a1.size : Int)) % 256)]) (ok := fun _ => True) (okp := fun _ => True) ?hr ?hp (fun _ hk => hk) trivial (Below.refl _ _) (Nat.le_refl _) (by simp) ?_; (case hd => rfl); (case hg => rfl); (case hr => first | (go_simp; done) | (go_simp; rfl)); (case hp => exact (Reps.one (show Kd.M (Kd.int .u8) _ _ _ 48 [.int .u8 48] from rfl) (Reps.one (show Kd.M (Kd.int .u8) _ _ _ (((a1.size : Int)) % 256) [.int .u8 (((a1.size : Int)) % 256)] from rfl) (Reps.none _ _)))); intro v104 w20 ho21 hb hg_ hnew_; clear hg_ hnew_; (first | rw [← Ny103.out] at ho21 | (simp only [Int.reduceToNat] at ho21; rw [← Ny103.out] at ho21)); have n0_ := Aside0.mk (Kd.R_lower ho21 (below_size (by repeat (first | (with_reducible first | exact HB.out | apply below_alloc | apply pw_below_drewN | apply below_drew1) | exact HB.out)))); have n1_ := Aside0.mk (below_step (by repeat (first | (with_reducible first | exact HB.out | apply below_alloc | apply pw_below_drewN | apply below_drew1) | exact HB.out)) hb); clear HB; have HO105 := n0_; have HB := n1_; clear n0_ n1_; clear hb ho21; have hcv22 := own_string (P := Try.prog) Try.underlying33 Try.underlying5 Try.underlying9 (Kd.own_of_R HO105.out)))
             go_ret
             exact ⟨by first | rfl | (simp [isEmpty_ne_]; done) | (simp [*, errW_none, errW_some] <;> rfl), by repeat (first | (with_reducible first | exact HB.out | apply below_alloc | apply pw_below_drewN | apply below_drew1) | exact HB.out)⟩
            ·rw [if_neg c19] at H
             exact absurd H (by simp)
           ·rw [if_neg c18] at H
            have c18b0 : (x6_10 == 0) = false := beq_eq_false_iff_ne.mpr c18
            have c18b1 : (x6_10 != 0) = true := bne_iff_ne.mpr c18
            obtain ⟨y106, hy106⟩ : ∃ y_ : List Int, y_ = (([48, (wrap64 (128 + x6_10)) % 256] : List Int)) := ⟨_, rfl⟩
            replace H : (rosterlaw03_wrap.l1 kj10 a1 (a1.size : Int) y106 (wrap64 (x6_10 - 1))) = some r := by first | (rw [hy106]; with_reducible exact H) | (have H2_ := (Option.bind_some _ _).symm.trans H; rw [hy106]; with_reducible exact H2_) | (have H2_ := (Option.bind_some _ _).symm.trans H; with_reducible exact H2_) | with_reducible exact H | (rw [hy106]; exact H) | exact H
            have Ny106 := Aside0.mk hy106
            clear hy106
            have H' := Aside0.mk H
            clear H
            go_wp2_with (first | ((with_reducible refine gate_dst (N := 50) rfl ?_); refine Kd.R_lit (Kd.int .u8) _ 5 ?hg (N := 50) ?hd (xs := ([48, (wrap64 (128 + x6_10)) % 256] : List Int)) (inner := [.int .u8 48, .int .u8 ((wrap64 (128 + x6_10)) % 256)]) (ok := fun _ => True) (okp := fun _ => True) ?hr ?hp (fun _ hk => hk) trivial (Below.refl _ _) (Nat.le_refl _) (by simp) ?_; (case hd => rfl); (case hg => rfl); (case hr => first | (go_simp; done) | (go_simp; rfl)); (case hp => exact (Reps.one (show Kd.M (Kd.int .u8) _ _ _ 48 [.int .u8 48] from rfl) (Reps.one (show Kd.M (Kd.int .u8) _ _ _ ((wrap64 (128 + x6_10)) % 256) [.int .u8 ((wrap64 (128 + x6_10)) % 256)] from rfl) (Reps.none _ _)))); intro v107 w23 ho24 hb hg_ hnew_; clear hg_ hnew_; (first | rw [← Ny106.out] at ho24 | (simp only [Int.reduceToNat] at ho24; rw [← Ny106.out] at ho24)); have n0_ := Aside0.mk (Kd.R_lower ho24 (below_size (by repeat (first | (with_reducible first | exact HB.out | apply below_alloc | apply pw_below_drewN | apply below_drew1) | exact HB.out)))); have n1_ := Aside0.mk (below_step (by repeat (first | (with_reducible first | exact HB.out | apply below_alloc | apply pw_below_drewN | apply below_drew1) | exact HB.out)) hb); clear HB; have HO108 := n0_; have HB := n1_; clear n0_ n1_; clear hb ho24))
            go_loopg [7, 8] kj10 (fun kq v7 v8 w' => ∃ (x7_6 : List Int) (x8_6 : Int), v8 = .int .i64 x8_6 ∧ Aside0 (rosterlaw03_wrap.l1 kq a1 (a1.size : Int) x7_6 x8_6 = some r) ∧ Aside0 (kq ≤ kj10) ∧ Aside0 (Kd.R (Kd.int .u8) 5 w' w.heap.size (fun _ => True) v7 x7_6) ∧ Aside0 (Below w.heap.size w w'))
            case atStart => exact ⟨(y106), (wrap64 (x6_10 - 1)), (by first | rfl | (simp; done) | (simp [*]; done) | (simp [isEmpty_ne_]; done)), H', ⟨Nat.le_refl _⟩, ⟨by (with_reducible repeat (first | apply Kd.R_alloc | apply Kd.R_drewN | apply Kd.R_drew)); exact HO108.out⟩, ⟨by repeat (first | (with_reducible first | exact HB.out | apply below_alloc | apply pw_below_drewN | apply below_drew1) | exact HB.out)⟩⟩
            case round =>
             clear H'
             try clear c1
             try clear p2
             try clear hcv2
             try clear c4
             try clear c4b0
             try clear c5
             try clear c6
             try clear p6
             try clear c8
             try clear c8b0
             try clear c8b1
             try clear c10
             try clear c12
             try clear c12b0
             try clear c13
             try clear c13b0
             try clear c15
             try clear c15b0
             try clear c15b1
             try clear c17
             try clear c17b0
             try clear c18
             try clear c18b0
             try clear c18b1
             try clear c19
             try clear c19b0
             try clear c19b1
             try clear c19b2
             try clear hcv22
             try clear p2
             try clear p6
             obtain ⟨x7_6, x8_6, rfl, HA, HK6, HO_7, HB⟩ := hrel
             cases gk with
             | zero => exact absurd HA.out (by simp [rosterlaw03_wrap.l1])
             | succ k6 =>
              have H := HA.out
              clear HA
              simp only [rosterlaw03_wrap.l1] at H
              by_cases c25 : x8_6 ≥ 0
              ·rw [if_pos c25] at H
               have c25b0 : decide (0 ≤ x8_6) = true := decide_eq_true c25
               clear c25
               obtain ⟨ji26, hji26⟩ : ∃ j_ : Int, (wrap64 (8 * x8_6)) = j_ := ⟨_, rfl⟩
               replace H : (if 0 ≤ (ji26) then (if x7_6.length < 140737488355328 then (rosterlaw03_wrap.l1 k6 a1 (a1.size : Int) (x7_6 ++ [(shr .i64 (a1.size : Int) (ji26)) % 256]) (wrap64 (x8_6 - 1))) else (none)) else (none)) = some r := by first | (rw [hji26] at H; exact H) | (simp only [hji26] at H ⊢; exact H)
               have hji26w : (IntKind.i64.wrap (8 * x8_6)) = ji26 := (i64_w _).trans hji26
               by_cases c27 : 0 ≤ (ji26)
               ·rw [if_pos c27] at H
                have c27b0 := eq_true c27
                have c27b1 : decide (0 ≤ (ji26)) = true := decide_eq_true c27
                clear c27
                obtain ⟨ji28, hji28⟩ : ∃ j_ : Int, (shr .i64 (a1.size : Int) (ji26)) = j_ := ⟨_, rfl⟩
                replace H : (if x7_6.length < 140737488355328 then (rosterlaw03_wrap.l1 k6 a1 (a1.size : Int) (x7_6 ++ [(ji28) % 256]) (wrap64 (x8_6 - 1))) else (none)) = some r := by first | (rw [hji28] at H; exact H) | (simp only [hji28] at H ⊢; exact H)
                have hji28_ : ((a1.size : Int) / 2 ^ min (ji26).toNat 64) = ji28 := hji28
                have hji28z : (ji26) ≤ 64 → ((a1.size : Int) / 2 ^ (ji26).toNat) = ji28 := shr_small hji28
                by_cases c29 : x7_6.length < 140737488355328
                ·rw [if_pos c29] at H
                 have LMc29 := Aside0.mk c29
                 clear c29
                 obtain ⟨y109, hy109⟩ : ∃ y_ : List Int, y_ = (x7_6 ++ [(ji28) % 256]) := ⟨_, rfl⟩
                 replace H : (rosterlaw03_wrap.l1 k6 a1 (a1.size : Int) y109 (wrap64 (x8_6 - 1))) = some r := by first | (rw [hy109]; with_reducible exact H) | (have H2_ := (Option.bind_some _ _).symm.trans H; rw [hy109]; with_reducible exact H2_) | (have H2_ := (Option.bind_some _ _).symm.trans H; with_reducible exact H2_) | with_reducible exact H | (rw [hy109]; exact H) | exact H
                 have Ny109 := Aside0.mk hy109
                 clear hy109
                 have H' := Aside0.mk H
                 clear H
                 go_wp2_with (first | ((with_reducible refine gate_builtin (b := .append) (xs := #[.tmp 57, .tmp 63]) rfl ?_); at_builtin; refine Kd.R_append (Kd.int .u8) (w0 := w) w.heap.size rfl (.tmp 57) (.tmp 63) 33 5 (.int .u8 0) 1 rfl Try.underlying33 info5 rfl (by decide) (by omega) u7 x7_6 ((ji28) % 256) [.int .u8 ((ji28) % 256)] (fun _ => True) (fun _ => False) rfl rfl ?aP (fun _ hk => hk.elim) ?aF ?aO ?aB ?aS ?aL ?_; (case aP => exact rfl); (case aB => exact (by repeat (first | (with_reducible first | exact HB.out | apply below_alloc | apply pw_below_drewN | apply below_drew1) | exact HB.out))); (case aF => exact (fun _ _ => trivial)); (case aO => exact (by (with_reducible repeat (first | apply Kd.R_alloc | apply Kd.R_drewN | apply Kd.R_drew)); exact HO_7.out)); (case aS => exact (below_size (by repeat (first | (with_reducible first | exact HB.out | apply below_alloc | apply pw_below_drewN | apply below_drew1) | exact HB.out)))); (case aL => have := LMc29.out; omega); intro v110 w30 ho hb hg hat; rw [← Ny109.out] at ho; have n0_ := Aside0.mk (hb); have n1_ := Aside0.mk (ho); clear HB; clear HO_7; have HB := n0_; have HO111 := n1_; clear n0_ n1_; clear ho hb hg hat))
                 go_roundg k6
                 case measure => have := HJ2.out; have := HJ4.out; have := HJ6.out; have := HJ8.out; have := HJ10.out; have := HK6.out; omega
                 case rel => exact ⟨(y109), (wrap64 (x8_6 - 1)), (by first | rfl | (simp; done) | (simp [*]; done) | (simp [isEmpty_ne_]; done)), H', ⟨by have := HJ2.out; have := HJ4.out; have := HJ6.out; have := HJ8.out; have := HJ10.out; have := HK6.out; omega⟩, ⟨by (with_reducible repeat (first | apply Kd.R_alloc | apply Kd.R_drewN | apply Kd.R_drew)); exact HO111.out⟩, ⟨by repeat (first | (with_reducible first | exact HB.out | apply below_alloc | apply pw_below_drewN | apply below_drew1) | exact HB.out)⟩⟩
                ·rw [if_neg c29] at H
                 exact absurd H (by simp)
               ·rw [if_neg c27] at H
                exact absurd H (by simp)
              ·rw [if_neg c25] at H
               have c25b0 : decide (0 ≤ x8_6) = false := decide_eq_false c25
               clear c25
               by_cases c31 : (strOfNums x7_6).size + a1.size ≤ 9223372036854775807
               ·rw [if_pos c31] at H
                have c31b0 := eq_true c31
                have c31b1 : decide ((strOfNums x7_6).size + a1.size ≤ 9223372036854775807) = true := decide_eq_true c31
                try have c31b2 : (9223372036854775807 < (strOfNums x7_6).size + a1.size) = False := eq_false (Nat.not_lt.2 c31)
                obtain rfl := Option.some.inj H
                have hcv32 := own_string (P := Try.prog) Try.underlying33 Try.underlying5 Try.underlying9 (Kd.own_of_R HO_7.out)
                go_wp2
                go_ret
                exact ⟨by first | rfl | (simp [isEmpty_ne_]; done) | (simp [*, errW_none, errW_some] <;> rfl), by repeat (first | (with_reducible first | exact HB.out | apply below_alloc | apply pw_below_drewN | apply below_drew1) | exact HB.out)⟩
               ·rw [if_neg c31] at H
                exact absurd H (by simp)

end Go.Proofs.Ytgihlldkdbjkkaa.GP
