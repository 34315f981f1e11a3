-- Written for this claim by a program of this session (wip/tools/p2.py).
import Derived.Test.YtbpediccbeoifaaDoorGNx0
import Derived.Test.YtbpediccbeoifaaDoorGNx4
namespace Go.Proofs.YtbpediccbeoifaaDoor.GN
open Go.RowKit Go.Proofs.YtbpediccbeoifaaDoorW.PrintWords Go.Proofs.YtbpediccbeoifaaDoorW.PrintLast Go.Proofs.YtbpediccbeoifaaDoorW.PrintMore
attribute [local go_sem] max2_int min2_int max_two min_two max_three min_three max_four min_four   -- for this text's walks alone
set_option linter.unusedVariables false
set_option linter.unusedSimpArgs false

/-! ### rosterref13_sameFilter: function 27 -/
mutual
def rosterref13_sameFilter.l0 : Nat → List (S71) → List (S71) → Int → Option (Bool)
 | 0, _, _, _ => none
 | k + 1, x0, x1, x5 => if x5 < (x0.length : Int) then (if 0 ≤ x5 then (if x5 < (x1.length : Int) then ((rosterref13_sameTexts.f k ((rd_T71 x0 x5).f4.f1) ((rd_T71 x1 x5).f4.f1)).bind fun t116 => (if t116 = true then (if ((rd_T71 x0 x5).f0) = ((rd_T71 x1 x5).f0) then (if ((rd_T71 x0 x5).f1) = ((rd_T71 x1 x5).f1) then (if ((rd_T71 x0 x5).f2).toList = ((rd_T71 x1 x5).f2).toList then (if ((rd_T71 x0 x5).f3).toList = ((rd_T71 x1 x5).f3).toList then (if ((rd_T71 x0 x5).f5).toList = ((rd_T71 x1 x5).f5).toList then (rosterref13_sameFilter.j1 k x0 x1 x5 (((rd_T71 x0 x5).f6) != ((rd_T71 x1 x5).f6)) ((rd_T71 x0 x5).f0) ((rd_T71 x0 x5).f1) ((rd_T71 x0 x5).f2) ((rd_T71 x0 x5).f3) ((rd_T71 x0 x5).f4.f0) ((rd_T71 x0 x5).f4.f1) ((rd_T71 x0 x5).f4.f2) ((rd_T71 x0 x5).f5) ((rd_T71 x0 x5).f6) ((rd_T71 x1 x5).f0) ((rd_T71 x1 x5).f1) ((rd_T71 x1 x5).f2) ((rd_T71 x1 x5).f3) ((rd_T71 x1 x5).f4.f0) ((rd_T71 x1 x5).f4.f1) ((rd_T71 x1 x5).f4.f2) ((rd_T71 x1 x5).f5) ((rd_T71 x1 x5).f6)) else (rosterref13_sameFilter.j1 k x0 x1 x5 true ((rd_T71 x0 x5).f0) ((rd_T71 x0 x5).f1) ((rd_T71 x0 x5).f2) ((rd_T71 x0 x5).f3) ((rd_T71 x0 x5).f4.f0) ((rd_T71 x0 x5).f4.f1) ((rd_T71 x0 x5).f4.f2) ((rd_T71 x0 x5).f5) ((rd_T71 x0 x5).f6) ((rd_T71 x1 x5).f0) ((rd_T71 x1 x5).f1) ((rd_T71 x1 x5).f2) ((rd_T71 x1 x5).f3) ((rd_T71 x1 x5).f4.f0) ((rd_T71 x1 x5).f4.f1) ((rd_T71 x1 x5).f4.f2) ((rd_T71 x1 x5).f5) ((rd_T71 x1 x5).f6))) else (rosterref13_sameFilter.j1 k x0 x1 x5 true ((rd_T71 x0 x5).f0) ((rd_T71 x0 x5).f1) ((rd_T71 x0 x5).f2) ((rd_T71 x0 x5).f3) ((rd_T71 x0 x5).f4.f0) ((rd_T71 x0 x5).f4.f1) ((rd_T71 x0 x5).f4.f2) ((rd_T71 x0 x5).f5) ((rd_T71 x0 x5).f6) ((rd_T71 x1 x5).f0) ((rd_T71 x1 x5).f1) ((rd_T71 x1 x5).f2) ((rd_T71 x1 x5).f3) ((rd_T71 x1 x5).f4.f0) ((rd_T71 x1 x5).f4.f1) ((rd_T71 x1 x5).f4.f2) ((rd_T71 x1 x5).f5) ((rd_T71 x1 x5).f6))) else (rosterref13_sameFilter.j1 k x0 x1 x5 true ((rd_T71 x0 x5).f0) ((rd_T71 x0 x5).f1) ((rd_T71 x0 x5).f2) ((rd_T71 x0 x5).f3) ((rd_T71 x0 x5).f4.f0) ((rd_T71 x0 x5).f4.f1) ((rd_T71 x0 x5).f4.f2) ((rd_T71 x0 x5).f5) ((rd_T71 x0 x5).f6) ((rd_T71 x1 x5).f0) ((rd_T71 x1 x5).f1) ((rd_T71 x1 x5).f2) ((rd_T71 x1 x5).f3) ((rd_T71 x1 x5).f4.f0) ((rd_T71 x1 x5).f4.f1) ((rd_T71 x1 x5).f4.f2) ((rd_T71 x1 x5).f5) ((rd_T71 x1 x5).f6))) else (rosterref13_sameFilter.j1 k x0 x1 x5 true ((rd_T71 x0 x5).f0) ((rd_T71 x0 x5).f1) ((rd_T71 x0 x5).f2) ((rd_T71 x0 x5).f3) ((rd_T71 x0 x5).f4.f0) ((rd_T71 x0 x5).f4.f1) ((rd_T71 x0 x5).f4.f2) ((rd_T71 x0 x5).f5) ((rd_T71 x0 x5).f6) ((rd_T71 x1 x5).f0) ((rd_T71 x1 x5).f1) ((rd_T71 x1 x5).f2) ((rd_T71 x1 x5).f3) ((rd_T71 x1 x5).f4.f0) ((rd_T71 x1 x5).f4.f1) ((rd_T71 x1 x5).f4.f2) ((rd_T71 x1 x5).f5) ((rd_T71 x1 x5).f6))) else (rosterref13_sameFilter.j1 k x0 x1 x5 true ((rd_T71 x0 x5).f0) ((rd_T71 x0 x5).f1) ((rd_T71 x0 x5).f2) ((rd_T71 x0 x5).f3) ((rd_T71 x0 x5).f4.f0) ((rd_T71 x0 x5).f4.f1) ((rd_T71 x0 x5).f4.f2) ((rd_T71 x0 x5).f5) ((rd_T71 x0 x5).f6) ((rd_T71 x1 x5).f0) ((rd_T71 x1 x5).f1) ((rd_T71 x1 x5).f2) ((rd_T71 x1 x5).f3) ((rd_T71 x1 x5).f4.f0) ((rd_T71 x1 x5).f4.f1) ((rd_T71 x1 x5).f4.f2) ((rd_T71 x1 x5).f5) ((rd_T71 x1 x5).f6))) else (rosterref13_sameFilter.j1 k x0 x1 x5 true ((rd_T71 x0 x5).f0) ((rd_T71 x0 x5).f1) ((rd_T71 x0 x5).f2) ((rd_T71 x0 x5).f3) ((rd_T71 x0 x5).f4.f0) ((rd_T71 x0 x5).f4.f1) ((rd_T71 x0 x5).f4.f2) ((rd_T71 x0 x5).f5) ((rd_T71 x0 x5).f6) ((rd_T71 x1 x5).f0) ((rd_T71 x1 x5).f1) ((rd_T71 x1 x5).f2) ((rd_T71 x1 x5).f3) ((rd_T71 x1 x5).f4.f0) ((rd_T71 x1 x5).f4.f1) ((rd_T71 x1 x5).f4.f2) ((rd_T71 x1 x5).f5) ((rd_T71 x1 x5).f6)))) else (none)) else (none)) else (some true)
def rosterref13_sameFilter.j1 : Nat → List (S71) → List (S71) → Int → Bool → Int → Int → ByteArray → ByteArray → ByteArray → List ByteArray → ByteArray → ByteArray → Bool → Int → Int → ByteArray → ByteArray → ByteArray → List ByteArray → ByteArray → ByteArray → Bool → Option (Bool)
 | 0, _, _, _, _, _, _, _, _, _, _, _, _, _, _, _, _, _, _, _, _, _, _ => none
 | k + 1, x0, x1, x5, x78, x114000, x114001, x114002, x114003, x114004, x114005, x114006, x114007, x114008, x116000, x116001, x116002, x116003, x116004, x116005, x116006, x116007, x116008 => if x78 = true then (some false) else (if x114004.toList = x116004.toList then (if x114006.toList = x116006.toList then (rosterref13_sameFilter.l0 k x0 x1 (wrap64 (x5 + 1))) else (some false)) else (some false))
end
def rosterref13_sameFilter.f (k : Nat) (l0 : List (S71)) (l1 : List (S71)) : Option (Bool) := if (l0.length : Int) = (l1.length : Int) then (rosterref13_sameFilter.l0 k l0 l1 0) else (some false)
theorem rosterref13_sameFilter.mono_l : ∀ k, (∀ y0 y1 y2, LeO (rosterref13_sameFilter.l0 k y0 y1 y2) (rosterref13_sameFilter.l0 (k + 1) y0 y1 y2)) ∧ (∀ y0 y1 y2 y3 y4 y5 y6 y7 y8 y9 y10 y11 y12 y13 y14 y15 y16 y17 y18 y19 y20 y21, LeO (rosterref13_sameFilter.j1 k y0 y1 y2 y3 y4 y5 y6 y7 y8 y9 y10 y11 y12 y13 y14 y15 y16 y17 y18 y19 y20 y21) (rosterref13_sameFilter.j1 (k + 1) y0 y1 y2 y3 y4 y5 y6 y7 y8 y9 y10 y11 y12 y13 y14 y15 y16 y17 y18 y19 y20 y21))
 | 0 => ⟨fun _ _ _ r h => by simp [rosterref13_sameFilter.l0] at h, fun _ _ _ _ _ _ _ _ _ _ _ _ _ _ _ _ _ _ _ _ _ _ r h => by simp [rosterref13_sameFilter.j1] at h⟩
 | k + 1 => by
  obtain ⟨ih0, ih1⟩ := rosterref13_sameFilter.mono_l k
  refine ⟨?_, ?_⟩
  ·intro y0 y1 y2
   unfold rosterref13_sameFilter.l0
   repeat' first
   | (with_reducible exact ih0 _ _ _)
   | (with_reducible exact ih1 _ _ _ _ _ _ _ _ _ _ _ _ _ _ _ _ _ _ _ _ _ _)
   | (with_reducible exact rosterref13_sameTexts.mono _ _ _)
   | (with_reducible exact LeO.refl _)
   | (with_reducible exact LeO.none _)
   | (with_reducible refine LeO.ite ?_ ?_)
   | (with_reducible refine LeO.bind ?_ (fun _ => ?_))
   | exact ih0 _ _ _
   | exact ih1 _ _ _ _ _ _ _ _ _ _ _ _ _ _ _ _ _ _ _ _ _ _
   | exact rosterref13_sameTexts.mono _ _ _
   | exact LeO.none _
   | refine LeO.ite ?_ ?_
   | refine LeO.bind ?_ (fun _ => ?_)
  ·intro y0 y1 y2 y3 y4 y5 y6 y7 y8 y9 y10 y11 y12 y13 y14 y15 y16 y17 y18 y19 y20 y21
   unfold rosterref13_sameFilter.j1
   repeat' first
   | (with_reducible exact ih0 _ _ _)
   | (with_reducible exact ih1 _ _ _ _ _ _ _ _ _ _ _ _ _ _ _ _ _ _ _ _ _ _)
   | (with_reducible exact rosterref13_sameTexts.mono _ _ _)
   | (with_reducible exact LeO.refl _)
   | (with_reducible exact LeO.none _)
   | (with_reducible refine LeO.ite ?_ ?_)
   | (with_reducible refine LeO.bind ?_ (fun _ => ?_))
   | exact ih0 _ _ _
   | exact ih1 _ _ _ _ _ _ _ _ _ _ _ _ _ _ _ _ _ _ _ _ _ _
   | exact rosterref13_sameTexts.mono _ _ _
   | exact LeO.none _
   | refine LeO.ite ?_ ?_
   | refine LeO.bind ?_ (fun _ => ?_)
theorem rosterref13_sameFilter.mono : ∀ a0 a1 k, LeO (rosterref13_sameFilter.f k a0 a1) (rosterref13_sameFilter.f (k + 1) a0 a1) := by
 intro a0 a1 k
 obtain ⟨ih0, ih1⟩ := rosterref13_sameFilter.mono_l k
 unfold rosterref13_sameFilter.f
 repeat' first
   | (with_reducible exact ih0 _ _ _)
   | (with_reducible exact ih1 _ _ _ _ _ _ _ _ _ _ _ _ _ _ _ _ _ _ _ _ _ _)
   | (with_reducible exact rosterref13_sameTexts.mono _ _ _)
   | (with_reducible exact LeO.refl _)
   | (with_reducible exact LeO.none _)
   | (with_reducible refine LeO.ite ?_ ?_)
   | (with_reducible refine LeO.bind ?_ (fun _ => ?_))
   | exact ih0 _ _ _
   | exact ih1 _ _ _ _ _ _ _ _ _ _ _ _ _ _ _ _ _ _ _ _ _ _
   | exact rosterref13_sameTexts.mono _ _ _
   | exact LeO.none _
   | refine LeO.ite ?_ ?_
   | refine LeO.bind ?_ (fun _ => ?_)
set_option maxHeartbeats 8000000 in
set_option maxRecDepth 100000 in
theorem rosterref13_sameFilter.calls (k : Nat) (A0 : Option Addr) (c0 : Nat) (l0 : List (S71)) (A1 : Option Addr) (c1 : Nat) (l1 : List (S71)) (r : Bool) (w : World) (hr0 : Kd.C k71 w A0 l0.length l0) (hc0 : l0.length ≤ c0) (hr1 : Kd.C k71 w A1 l1.length l1) (hc1 : l1.length ≤ c1) (h : rosterref13_sameFilter.f k l0 l1 = some r) :
  Calls Tryd.prog 27 #[.slice A0 l0.length c0, .slice A1 l1.length c1] w fun e w' => e = .returned (.bool r) ∧ Below w.heap.size w w' := by
 have hu71 := Tryd.underlying71
 have HR0 := Aside0.mk hr0
 have HC0 := Aside0.mk hc0
 clear hr0 hc0
 have HR1 := Aside0.mk hr1
 have HC1 := Aside0.mk hc1
 clear hr1 hc1
 have HB := Aside0.mk (Below.refl w.heap.size w)
 have H : (if (l0.length : Int) = (l1.length : Int) then (rosterref13_sameFilter.l0 k l0 l1 0) else (some false)) = some r := h
 clear h
 by_cases c3 : (l0.length : Int) = (l1.length : Int)
 ·rw [if_pos c3] at H
  have c3b0 : ((l0.length : Int) == (l1.length : Int)) = true := beq_iff_eq.mpr c3
  have c3b1 : ((l0.length : Int) != (l1.length : Int)) = false := bne_eq_false_iff_eq.mpr c3
  have c3b2 : (l0.length == l1.length) = true := by first | simpa using c3 | (simp at c3 ⊢; omega)
  clear c3
  have H' := Aside0.mk H
  clear H
  go_enter Tryd.func27, Tryd.ntmps27
  go_wp2
  go_loopg [5] k (fun kq v5 w' => ∃ (x5_1 : Int), v5 = .int .i64 x5_1 ∧ Aside0 (rosterref13_sameFilter.l0 kq l0 l1 x5_1 = some r) ∧ Aside0 (kq ≤ k) ∧ Aside0 (Below w.heap.size w w'))
  case atStart => exact ⟨(0), (by first | rfl | (simp; done) | (simp [*]; done) | (simp [isEmpty_ne_]; done)), H', ⟨Nat.le_refl _⟩, ⟨by repeat (first | (with_reducible first | exact HB.out | apply below_alloc | apply pw_below_drewN | apply below_drew1) | exact HB.out)⟩⟩
  case round =>
   clear H'
   try clear c1
   try clear c2
   try clear p2
   try clear c3
   try clear c3b0
   try clear c3b1
   try clear c3b2
   obtain ⟨x5_1, rfl, HA, HK1, HB⟩ := hrel
   cases gk with
   | zero => exact absurd HA.out (by simp [rosterref13_sameFilter.l0])
   | succ k1 =>
    have H := HA.out
    clear HA
    simp only [rosterref13_sameFilter.l0] at H
    by_cases c4 : x5_1 < (l0.length : Int)
    ·rw [if_pos c4] at H
     have c4b0 : decide (x5_1 < (l0.length : Int)) = true := decide_eq_true c4
     clear c4
     by_cases c5 : 0 ≤ x5_1
     ·rw [if_pos c5] at H
      have c5b0 : decide (0 ≤ x5_1) = true := decide_eq_true c5
      clear c5
      by_cases c6 : x5_1 < (l1.length : Int)
      ·rw [if_pos c6] at H
       have c6b0 : decide (x5_1 < (l1.length : Int)) = true := decide_eq_true c6
       clear c6
       replace H := Option.bind_eq_some_iff.mp H
       obtain ⟨t116, A70, H⟩ := H
       replace H : (if t116 = true then (if ((rd_T71 l0 x5_1).f0) = ((rd_T71 l1 x5_1).f0) then (if ((rd_T71 l0 x5_1).f1) = ((rd_T71 l1 x5_1).f1) then (if ((rd_T71 l0 x5_1).f2).toList = ((rd_T71 l1 x5_1).f2).toList then (if ((rd_T71 l0 x5_1).f3).toList = ((rd_T71 l1 x5_1).f3).toList then (if ((rd_T71 l0 x5_1).f5).toList = ((rd_T71 l1 x5_1).f5).toList then (rosterref13_sameFilter.j1 k1 l0 l1 x5_1 (((rd_T71 l0 x5_1).f6) != ((rd_T71 l1 x5_1).f6)) ((rd_T71 l0 x5_1).f0) ((rd_T71 l0 x5_1).f1) ((rd_T71 l0 x5_1).f2) ((rd_T71 l0 x5_1).f3) ((rd_T71 l0 x5_1).f4.f0) ((rd_T71 l0 x5_1).f4.f1) ((rd_T71 l0 x5_1).f4.f2) ((rd_T71 l0 x5_1).f5) ((rd_T71 l0 x5_1).f6) ((rd_T71 l1 x5_1).f0) ((rd_T71 l1 x5_1).f1) ((rd_T71 l1 x5_1).f2) ((rd_T71 l1 x5_1).f3) ((rd_T71 l1 x5_1).f4.f0) ((rd_T71 l1 x5_1).f4.f1) ((rd_T71 l1 x5_1).f4.f2) ((rd_T71 l1 x5_1).f5) ((rd_T71 l1 x5_1).f6)) else (rosterref13_sameFilter.j1 k1 l0 l1 x5_1 true ((rd_T71 l0 x5_1).f0) ((rd_T71 l0 x5_1).f1) ((rd_T71 l0 x5_1).f2) ((rd_T71 l0 x5_1).f3) ((rd_T71 l0 x5_1).f4.f0) ((rd_T71 l0 x5_1).f4.f1) ((rd_T71 l0 x5_1).f4.f2) ((rd_T71 l0 x5_1).f5) ((rd_T71 l0 x5_1).f6) ((rd_T71 l1 x5_1).f0) ((rd_T71 l1 x5_1).f1) ((rd_T71 l1 x5_1).f2) ((rd_T71 l1 x5_1).f3) ((rd_T71 l1 x5_1).f4.f0) ((rd_T71 l1 x5_1).f4.f1) ((rd_T71 l1 x5_1).f4.f2) ((rd_T71 l1 x5_1).f5) ((rd_T71 l1 x5_1).f6))) else (rosterref13_sameFilter.j1 k1 l0 l1 x5_1 true ((rd_T71 l0 x5_1).f0) ((rd_T71 l0 x5_1).f1) ((rd_T71 l0 x5_1).f2) ((rd_T71 l0 x5_1).f3) ((rd_T71 l0 x5_1).f4.f0) ((rd_T71 l0 x5_1).f4.f1) ((rd_T71 l0 x5_1).f4.f2) ((rd_T71 l0 x5_1).f5) ((rd_T71 l0 x5_1).f6) ((rd_T71 l1 x5_1).f0) ((rd_T71 l1 x5_1).f1) ((rd_T71 l1 x5_1).f2) ((rd_T71 l1 x5_1).f3) ((rd_T71 l1 x5_1).f4.f0) ((rd_T71 l1 x5_1).f4.f1) ((rd_T71 l1 x5_1).f4.f2) ((rd_T71 l1 x5_1).f5) ((rd_T71 l1 x5_1).f6))) else (rosterref13_sameFilter.j1 k1 l0 l1 x5_1 true ((rd_T71 l0 x5_1).f0) ((rd_T71 l0 x5_1).f1) ((rd_T71 l0 x5_1).f2) ((rd_T71 l0 x5_1).f3) ((rd_T71 l0 x5_1).f4.f0) ((rd_T71 l0 x5_1).f4.f1) ((rd_T71 l0 x5_1).f4.f2) ((rd_T71 l0 x5_1).f5) ((rd_T71 l0 x5_1).f6) ((rd_T71 l1 x5_1).f0) ((rd_T71 l1 x5_1).f1) ((rd_T71 l1 x5_1).f2) ((rd_T71 l1 x5_1).f3) ((rd_T71 l1 x5_1).f4.f0) ((rd_T71 l1 x5_1).f4.f1) ((rd_T71 l1 x5_1).f4.f2) ((rd_T71 l1 x5_1).f5) ((rd_T71 l1 x5_1).f6))) else (rosterref13_sameFilter.j1 k1 l0 l1 x5_1 true ((rd_T71 l0 x5_1).f0) ((rd_T71 l0 x5_1).f1) ((rd_T71 l0 x5_1).f2) ((rd_T71 l0 x5_1).f3) ((rd_T71 l0 x5_1).f4.f0) ((rd_T71 l0 x5_1).f4.f1) ((rd_T71 l0 x5_1).f4.f2) ((rd_T71 l0 x5_1).f5) ((rd_T71 l0 x5_1).f6) ((rd_T71 l1 x5_1).f0) ((rd_T71 l1 x5_1).f1) ((rd_T71 l1 x5_1).f2) ((rd_T71 l1 x5_1).f3) ((rd_T71 l1 x5_1).f4.f0) ((rd_T71 l1 x5_1).f4.f1) ((rd_T71 l1 x5_1).f4.f2) ((rd_T71 l1 x5_1).f5) ((rd_T71 l1 x5_1).f6))) else (rosterref13_sameFilter.j1 k1 l0 l1 x5_1 true ((rd_T71 l0 x5_1).f0) ((rd_T71 l0 x5_1).f1) ((rd_T71 l0 x5_1).f2) ((rd_T71 l0 x5_1).f3) ((rd_T71 l0 x5_1).f4.f0) ((rd_T71 l0 x5_1).f4.f1) ((rd_T71 l0 x5_1).f4.f2) ((rd_T71 l0 x5_1).f5) ((rd_T71 l0 x5_1).f6) ((rd_T71 l1 x5_1).f0) ((rd_T71 l1 x5_1).f1) ((rd_T71 l1 x5_1).f2) ((rd_T71 l1 x5_1).f3) ((rd_T71 l1 x5_1).f4.f0) ((rd_T71 l1 x5_1).f4.f1) ((rd_T71 l1 x5_1).f4.f2) ((rd_T71 l1 x5_1).f5) ((rd_T71 l1 x5_1).f6))) else (rosterref13_sameFilter.j1 k1 l0 l1 x5_1 true ((rd_T71 l0 x5_1).f0) ((rd_T71 l0 x5_1).f1) ((rd_T71 l0 x5_1).f2) ((rd_T71 l0 x5_1).f3) ((rd_T71 l0 x5_1).f4.f0) ((rd_T71 l0 x5_1).f4.f1) ((rd_T71 l0 x5_1).f4.f2) ((rd_T71 l0 x5_1).f5) ((rd_T71 l0 x5_1).f6) ((rd_T71 l1 x5_1).f0) ((rd_T71 l1 x5_1).f1) ((rd_T71 l1 x5_1).f2) ((rd_T71 l1 x5_1).f3) ((rd_T71 l1 x5_1).f4.f0) ((rd_T71 l1 x5_1).f4.f1) ((rd_T71 l1 x5_1).f4.f2) ((rd_T71 l1 x5_1).f5) ((rd_T71 l1 x5_1).f6))) = some r := H
       have A7 := Aside0.mk A70
       clear A70
       have HC8 := Aside0.mk H
       clear H
       have p112 : 0 ≤ (x5_1 : Int) := of_decide_eq_true (by first | (with_reducible assumption) | assumption)
       have q112 : x5_1 < (l0.length : Int) := of_decide_eq_true (by first | (with_reducible assumption) | assumption)
       obtain ⟨ad112, A112_5, c112_5, e112, hx112_0, hx112_1, hx112_2, hx112_3, hx112_4, hx112_5, hx112_6, hx112_7, hx112_8, hl112_5, hi112_5⟩ := at_T71 HR0.out x5_1 p112 q112
       cases e112
       replace hx112_0 := cellB_ HB.out hx112_0
       replace hx112_1 := cellB_ HB.out hx112_1
       replace hx112_2 := cellB_ HB.out hx112_2
       replace hx112_3 := cellB_ HB.out hx112_3
       replace hx112_4 := cellB_ HB.out hx112_4
       replace hx112_5 := cellB_ HB.out hx112_5
       replace hx112_6 := cellB_ HB.out hx112_6
       replace hx112_7 := cellB_ HB.out hx112_7
       replace hx112_8 := cellB_ HB.out hx112_8
       have HR112_5 := Aside0.mk hi112_5
       have HC112_5 := Aside0.mk hl112_5
       clear hi112_5 hl112_5
       replace p112 := eq_true p112
       replace q112 := eq_true q112
       go_upto_region 9 with (first | ((with_reducible refine gate_dst (N := 6) rfl ?_); refine box_event ?hg (N := 6) ?hd (cs := #[.int .i64 0, .int .i64 0, .string (⟨#[]⟩ : ByteArray), .string (⟨#[]⟩ : ByteArray), .string (⟨#[]⟩ : ByteArray), .slice none 0 0, .string (⟨#[]⟩ : ByteArray), .string (⟨#[]⟩ : ByteArray), .bool false]) (t := 71) ?hr ?_; (case hd => rfl); (case hg => rfl); (case hr => first | (go_simp; done) | (go_simp; rfl)); intro gb113 hg w9 hbox hb; have n0_ := Aside0.mk (below_step (by repeat (first | (with_reducible first | exact HB.out | apply below_alloc | apply pw_below_drewN | apply below_drew1) | exact HB.out)) hb); have n1_ := Aside0.mk (hbox); have n2_ := Aside0.mk ((by rw [hg]; exact (below_size (by repeat (first | (with_reducible first | exact HB.out | apply below_alloc | apply pw_below_drewN | apply below_drew1) | exact HB.out))) : w.heap.size ≤ gb113)); have n3_ := Aside0.mk ((by rw [hg]; exact (below_size (by repeat (first | (with_reducible first | exact HB.out | apply below_alloc | apply pw_below_drewN | apply below_drew1) | exact HB.out))) : w.heap.size ≤ gb113)); clear HB; have HB := n0_; have BK113 := n1_; have GW113 := n2_; have GE113 := n3_; clear n0_ n1_ n2_ n3_; clear hb hbox hg; obtain ⟨hcz10_0, hcz10_1, hcz10_2, hcz10_3, hcz10_4, hcz10_5, hcz10_6, hcz10_7, hcz10_8⟩ := cells9_ BK113.out; obtain ⟨hfz10_0, hfz10_1, hfz10_2, hfz10_3, hfz10_4, hfz10_5, hfz10_6, hfz10_7, hfz10_8⟩ := frz9_ BK113.out; have p114 : 0 ≤ (x5_1 : Int) := of_decide_eq_true (by first | (with_reducible assumption) | assumption); have q114 : x5_1 < (l1.length : Int) := of_decide_eq_true (by first | (with_reducible assumption) | assumption); obtain ⟨ad114, A114_5, c114_5, e114, hx114_0, hx114_1, hx114_2, hx114_3, hx114_4, hx114_5, hx114_6, hx114_7, hx114_8, hl114_5, hi114_5⟩ := at_T71 HR1.out x5_1 p114 q114; cases e114; have hn114_0 : ad114.block ≠ gb113 := Nat.ne_of_lt (Nat.lt_of_lt_of_le (by have := World.block_lt_of_cell? _ _ hx114_0; first | rwa [add_block] at this | exact this) GW113.out); have hn114_1 : ad114.block ≠ gb113 := Nat.ne_of_lt (Nat.lt_of_lt_of_le (by have := World.block_lt_of_cell? _ _ hx114_0; first | rwa [add_block] at this | exact this) GW113.out); have hn114_2 : ad114.block ≠ gb113 := Nat.ne_of_lt (Nat.lt_of_lt_of_le (by have := World.block_lt_of_cell? _ _ hx114_0; first | rwa [add_block] at this | exact this) GW113.out); have hn114_3 : ad114.block ≠ gb113 := Nat.ne_of_lt (Nat.lt_of_lt_of_le (by have := World.block_lt_of_cell? _ _ hx114_0; first | rwa [add_block] at this | exact this) GW113.out); have hn114_4 : ad114.block ≠ gb113 := Nat.ne_of_lt (Nat.lt_of_lt_of_le (by have := World.block_lt_of_cell? _ _ hx114_0; first | rwa [add_block] at this | exact this) GW113.out); have hn114_5 : ad114.block ≠ gb113 := Nat.ne_of_lt (Nat.lt_of_lt_of_le (by have := World.block_lt_of_cell? _ _ hx114_0; first | rwa [add_block] at this | exact this) GW113.out); have hn114_6 : ad114.block ≠ gb113 := Nat.ne_of_lt (Nat.lt_of_lt_of_le (by have := World.block_lt_of_cell? _ _ hx114_0; first | rwa [add_block] at this | exact this) GW113.out); have hn114_7 : ad114.block ≠ gb113 := Nat.ne_of_lt (Nat.lt_of_lt_of_le (by have := World.block_lt_of_cell? _ _ hx114_0; first | rwa [add_block] at this | exact this) GW113.out); have hn114_8 : ad114.block ≠ gb113 := Nat.ne_of_lt (Nat.lt_of_lt_of_le (by have := World.block_lt_of_cell? _ _ hx114_0; first | rwa [add_block] at this | exact this) GW113.out); replace hx114_0 := cellB_ HB.out hx114_0; replace hx114_1 := cellB_ HB.out hx114_1; replace hx114_2 := cellB_ HB.out hx114_2; replace hx114_3 := cellB_ HB.out hx114_3; replace hx114_4 := cellB_ HB.out hx114_4; replace hx114_5 := cellB_ HB.out hx114_5; replace hx114_6 := cellB_ HB.out hx114_6; replace hx114_7 := cellB_ HB.out hx114_7; replace hx114_8 := cellB_ HB.out hx114_8; have HR114_5 := Aside0.mk hi114_5; have HC114_5 := Aside0.mk hl114_5; clear hi114_5 hl114_5; replace hx114_0 := (cell_far (p := ⟨gb113, 0, none⟩) (by first | (rw [add_block]; exact hn114_0) | (show (Addr.add _ _).block ≠ _; rw [add_block]; exact hn114_0) | exact hn114_0) (.int .i64 ((rd_T71 l0 x5_1).f0))).trans hx114_0; replace hx114_1 := (cell_far (p := ⟨gb113, 0, none⟩) (by first | (rw [add_block]; exact hn114_0) | (show (Addr.add _ _).block ≠ _; rw [add_block]; exact hn114_0) | exact hn114_0) (.int .i64 ((rd_T71 l0 x5_1).f0))).trans hx114_1; replace hx114_2 := (cell_far (p := ⟨gb113, 0, none⟩) (by first | (rw [add_block]; exact hn114_0) | (show (Addr.add _ _).block ≠ _; rw [add_block]; exact hn114_0) | exact hn114_0) (.int .i64 ((rd_T71 l0 x5_1).f0))).trans hx114_2; replace hx114_3 := (cell_far (p := ⟨gb113, 0, none⟩) (by first | (rw [add_block]; exact hn114_0) | (show (Addr.add _ _).block ≠ _; rw [add_block]; exact hn114_0) | exact hn114_0) (.int .i64 ((rd_T71 l0 x5_1).f0))).trans hx114_3; replace hx114_4 := (cell_far (p := ⟨gb113, 0, none⟩) (by first | (rw [add_block]; exact hn114_0) | (show (Addr.add _ _).block ≠ _; rw [add_block]; exact hn114_0) | exact hn114_0) (.int .i64 ((rd_T71 l0 x5_1).f0))).trans hx114_4; replace hx114_5 := (cell_far (p := ⟨gb113, 0, none⟩) (by first | (rw [add_block]; exact hn114_0) | (show (Addr.add _ _).block ≠ _; rw [add_block]; exact hn114_0) | exact hn114_0) (.int .i64 ((rd_T71 l0 x5_1).f0))).trans hx114_5; replace hx114_6 := (cell_far (p := ⟨gb113, 0, none⟩) (by first | (rw [add_block]; exact hn114_0) | (show (Addr.add _ _).block ≠ _; rw [add_block]; exact hn114_0) | exact hn114_0) (.int .i64 ((rd_T71 l0 x5_1).f0))).trans hx114_6; replace hx114_7 := (cell_far (p := ⟨gb113, 0, none⟩) (by first | (rw [add_block]; exact hn114_0) | (show (Addr.add _ _).block ≠ _; rw [add_block]; exact hn114_0) | exact hn114_0) (.int .i64 ((rd_T71 l0 x5_1).f0))).trans hx114_7; replace hx114_8 := (cell_far (p := ⟨gb113, 0, none⟩) (by first | (rw [add_block]; exact hn114_0) | (show (Addr.add _ _).block ≠ _; rw [add_block]; exact hn114_0) | exact hn114_0) (.int .i64 ((rd_T71 l0 x5_1).f0))).trans hx114_8; replace hx114_0 := (cell_far (p := ⟨gb113, 1, none⟩) (by first | (rw [add_block]; exact hn114_1) | (show (Addr.add _ _).block ≠ _; rw [add_block]; exact hn114_1) | exact hn114_1) (.int .i64 ((rd_T71 l0 x5_1).f1))).trans hx114_0; replace hx114_1 := (cell_far (p := ⟨gb113, 1, none⟩) (by first | (rw [add_block]; exact hn114_1) | (show (Addr.add _ _).block ≠ _; rw [add_block]; exact hn114_1) | exact hn114_1) (.int .i64 ((rd_T71 l0 x5_1).f1))).trans hx114_1; replace hx114_2 := (cell_far (p := ⟨gb113, 1, none⟩) (by first | (rw [add_block]; exact hn114_1) | (show (Addr.add _ _).block ≠ _; rw [add_block]; exact hn114_1) | exact hn114_1) (.int .i64 ((rd_T71 l0 x5_1).f1))).trans hx114_2; replace hx114_3 := (cell_far (p := ⟨gb113, 1, none⟩) (by first | (rw [add_block]; exact hn114_1) | (show (Addr.add _ _).block ≠ _; rw [add_block]; exact hn114_1) | exact hn114_1) (.int .i64 ((rd_T71 l0 x5_1).f1))).trans hx114_3; replace hx114_4 := (cell_far (p := ⟨gb113, 1, none⟩) (by first | (rw [add_block]; exact hn114_1) | (show (Addr.add _ _).block ≠ _; rw [add_block]; exact hn114_1) | exact hn114_1) (.int .i64 ((rd_T71 l0 x5_1).f1))).trans hx114_4; replace hx114_5 := (cell_far (p := ⟨gb113, 1, none⟩) (by first | (rw [add_block]; exact hn114_1) | (show (Addr.add _ _).block ≠ _; rw [add_block]; exact hn114_1) | exact hn114_1) (.int .i64 ((rd_T71 l0 x5_1).f1))).trans hx114_5; replace hx114_6 := (cell_far (p := ⟨gb113, 1, none⟩) (by first | (rw [add_block]; exact hn114_1) | (show (Addr.add _ _).block ≠ _; rw [add_block]; exact hn114_1) | exact hn114_1) (.int .i64 ((rd_T71 l0 x5_1).f1))).trans hx114_6; replace hx114_7 := (cell_far (p := ⟨gb113, 1, none⟩) (by first | (rw [add_block]; exact hn114_1) | (show (Addr.add _ _).block ≠ _; rw [add_block]; exact hn114_1) | exact hn114_1) (.int .i64 ((rd_T71 l0 x5_1).f1))).trans hx114_7; replace hx114_8 := (cell_far (p := ⟨gb113, 1, none⟩) (by first | (rw [add_block]; exact hn114_1) | (show (Addr.add _ _).block ≠ _; rw [add_block]; exact hn114_1) | exact hn114_1) (.int .i64 ((rd_T71 l0 x5_1).f1))).trans hx114_8; replace hx114_0 := (cell_far (p := ⟨gb113, 2, none⟩) (by first | (rw [add_block]; exact hn114_2) | (show (Addr.add _ _).block ≠ _; rw [add_block]; exact hn114_2) | exact hn114_2) (.string ((rd_T71 l0 x5_1).f2))).trans hx114_0; replace hx114_1 := (cell_far (p := ⟨gb113, 2, none⟩) (by first | (rw [add_block]; exact hn114_2) | (show (Addr.add _ _).block ≠ _; rw [add_block]; exact hn114_2) | exact hn114_2) (.string ((rd_T71 l0 x5_1).f2))).trans hx114_1; replace hx114_2 := (cell_far (p := ⟨gb113, 2, none⟩) (by first | (rw [add_block]; exact hn114_2) | (show (Addr.add _ _).block ≠ _; rw [add_block]; exact hn114_2) | exact hn114_2) (.string ((rd_T71 l0 x5_1).f2))).trans hx114_2; replace hx114_3 := (cell_far (p := ⟨gb113, 2, none⟩) (by first | (rw [add_block]; exact hn114_2) | (show (Addr.add _ _).block ≠ _; rw [add_block]; exact hn114_2) | exact hn114_2) (.string ((rd_T71 l0 x5_1).f2))).trans hx114_3; replace hx114_4 := (cell_far (p := ⟨gb113, 2, none⟩) (by first | (rw [add_block]; exact hn114_2) | (show (Addr.add _ _).block ≠ _; rw [add_block]; exact hn114_2) | exact hn114_2) (.string ((rd_T71 l0 x5_1).f2))).trans hx114_4; replace hx114_5 := (cell_far (p := ⟨gb113, 2, none⟩) (by first | (rw [add_block]; exact hn114_2) | (show (Addr.add _ _).block ≠ _; rw [add_block]; exact hn114_2) | exact hn114_2) (.string ((rd_T71 l0 x5_1).f2))).trans hx114_5; replace hx114_6 := (cell_far (p := ⟨gb113, 2, none⟩) (by first | (rw [add_block]; exact hn114_2) | (show (Addr.add _ _).block ≠ _; rw [add_block]; exact hn114_2) | exact hn114_2) (.string ((rd_T71 l0 x5_1).f2))).trans hx114_6; replace hx114_7 := (cell_far (p := ⟨gb113, 2, none⟩) (by first | (rw [add_block]; exact hn114_2) | (show (Addr.add _ _).block ≠ _; rw [add_block]; exact hn114_2) | exact hn114_2) (.string ((rd_T71 l0 x5_1).f2))).trans hx114_7; replace hx114_8 := (cell_far (p := ⟨gb113, 2, none⟩) (by first | (rw [add_block]; exact hn114_2) | (show (Addr.add _ _).block ≠ _; rw [add_block]; exact hn114_2) | exact hn114_2) (.string ((rd_T71 l0 x5_1).f2))).trans hx114_8; replace hx114_0 := (cell_far (p := ⟨gb113, 3, none⟩) (by first | (rw [add_block]; exact hn114_3) | (show (Addr.add _ _).block ≠ _; rw [add_block]; exact hn114_3) | exact hn114_3) (.string ((rd_T71 l0 x5_1).f3))).trans hx114_0; replace hx114_1 := (cell_far (p := ⟨gb113, 3, none⟩) (by first | (rw [add_block]; exact hn114_3) | (show (Addr.add _ _).block ≠ _; rw [add_block]; exact hn114_3) | exact hn114_3) (.string ((rd_T71 l0 x5_1).f3))).trans hx114_1; replace hx114_2 := (cell_far (p := ⟨gb113, 3, none⟩) (by first | (rw [add_block]; exact hn114_3) | (show (Addr.add _ _).block ≠ _; rw [add_block]; exact hn114_3) | exact hn114_3) (.string ((rd_T71 l0 x5_1).f3))).trans hx114_2; replace hx114_3 := (cell_far (p := ⟨gb113, 3, none⟩) (by first | (rw [add_block]; exact hn114_3) | (show (Addr.add _ _).block ≠ _; rw [add_block]; exact hn114_3) | exact hn114_3) (.string ((rd_T71 l0 x5_1).f3))).trans hx114_3; replace hx114_4 := (cell_far (p := ⟨gb113, 3, none⟩) (by first | (rw [add_block]; exact hn114_3) | (show (Addr.add _ _).block ≠ _; rw [add_block]; exact hn114_3) | exact hn114_3) (.string ((rd_T71 l0 x5_1).f3))).trans hx114_4; replace hx114_5 := (cell_far (p := ⟨gb113, 3, none⟩) (by first | (rw [add_block]; exact hn114_3) | (show (Addr.add _ _).block ≠ _; rw [add_block]; exact hn114_3) | exact hn114_3) (.string ((rd_T71 l0 x5_1).f3))).trans hx114_5; replace hx114_6 := (cell_far (p := ⟨gb113, 3, none⟩) (by first | (rw [add_block]; exact hn114_3) | (show (Addr.add _ _).block ≠ _; rw [add_block]; exact hn114_3) | exact hn114_3) (.string ((rd_T71 l0 x5_1).f3))).trans hx114_6; replace hx114_7 := (cell_far (p := ⟨gb113, 3, none⟩) (by first | (rw [add_block]; exact hn114_3) | (show (Addr.add _ _).block ≠ _; rw [add_block]; exact hn114_3) | exact hn114_3) (.string ((rd_T71 l0 x5_1).f3))).trans hx114_7; replace hx114_8 := (cell_far (p := ⟨gb113, 3, none⟩) (by first | (rw [add_block]; exact hn114_3) | (show (Addr.add _ _).block ≠ _; rw [add_block]; exact hn114_3) | exact hn114_3) (.string ((rd_T71 l0 x5_1).f3))).trans hx114_8; replace hx114_0 := (cell_far (p := ⟨gb113, 4, none⟩) (by first | (rw [add_block]; exact hn114_4) | (show (Addr.add _ _).block ≠ _; rw [add_block]; exact hn114_4) | exact hn114_4) (.string ((rd_T71 l0 x5_1).f4.f0))).trans hx114_0; replace hx114_1 := (cell_far (p := ⟨gb113, 4, none⟩) (by first | (rw [add_block]; exact hn114_4) | (show (Addr.add _ _).block ≠ _; rw [add_block]; exact hn114_4) | exact hn114_4) (.string ((rd_T71 l0 x5_1).f4.f0))).trans hx114_1; replace hx114_2 := (cell_far (p := ⟨gb113, 4, none⟩) (by first | (rw [add_block]; exact hn114_4) | (show (Addr.add _ _).block ≠ _; rw [add_block]; exact hn114_4) | exact hn114_4) (.string ((rd_T71 l0 x5_1).f4.f0))).trans hx114_2; replace hx114_3 := (cell_far (p := ⟨gb113, 4, none⟩) (by first | (rw [add_block]; exact hn114_4) | (show (Addr.add _ _).block ≠ _; rw [add_block]; exact hn114_4) | exact hn114_4) (.string ((rd_T71 l0 x5_1).f4.f0))).trans hx114_3; replace hx114_4 := (cell_far (p := ⟨gb113, 4, none⟩) (by first | (rw [add_block]; exact hn114_4) | (show (Addr.add _ _).block ≠ _; rw [add_block]; exact hn114_4) | exact hn114_4) (.string ((rd_T71 l0 x5_1).f4.f0))).trans hx114_4; replace hx114_5 := (cell_far (p := ⟨gb113, 4, none⟩) (by first | (rw [add_block]; exact hn114_4) | (show (Addr.add _ _).block ≠ _; rw [add_block]; exact hn114_4) | exact hn114_4) (.string ((rd_T71 l0 x5_1).f4.f0))).trans hx114_5; replace hx114_6 := (cell_far (p := ⟨gb113, 4, none⟩) (by first | (rw [add_block]; exact hn114_4) | (show (Addr.add _ _).block ≠ _; rw [add_block]; exact hn114_4) | exact hn114_4) (.string ((rd_T71 l0 x5_1).f4.f0))).trans hx114_6; replace hx114_7 := (cell_far (p := ⟨gb113, 4, none⟩) (by first | (rw [add_block]; exact hn114_4) | (show (Addr.add _ _).block ≠ _; rw [add_block]; exact hn114_4) | exact hn114_4) (.string ((rd_T71 l0 x5_1).f4.f0))).trans hx114_7; replace hx114_8 := (cell_far (p := ⟨gb113, 4, none⟩) (by first | (rw [add_block]; exact hn114_4) | (show (Addr.add _ _).block ≠ _; rw [add_block]; exact hn114_4) | exact hn114_4) (.string ((rd_T71 l0 x5_1).f4.f0))).trans hx114_8; replace hx114_0 := (cell_far (p := ⟨gb113, 5, none⟩) (by first | (rw [add_block]; exact hn114_5) | (show (Addr.add _ _).block ≠ _; rw [add_block]; exact hn114_5) | exact hn114_5) (.slice A112_5 ((rd_T71 l0 x5_1).f4.f1).length c112_5)).trans hx114_0; replace hx114_1 := (cell_far (p := ⟨gb113, 5, none⟩) (by first | (rw [add_block]; exact hn114_5) | (show (Addr.add _ _).block ≠ _; rw [add_block]; exact hn114_5) | exact hn114_5) (.slice A112_5 ((rd_T71 l0 x5_1).f4.f1).length c112_5)).trans hx114_1; replace hx114_2 := (cell_far (p := ⟨gb113, 5, none⟩) (by first | (rw [add_block]; exact hn114_5) | (show (Addr.add _ _).block ≠ _; rw [add_block]; exact hn114_5) | exact hn114_5) (.slice A112_5 ((rd_T71 l0 x5_1).f4.f1).length c112_5)).trans hx114_2; replace hx114_3 := (cell_far (p := ⟨gb113, 5, none⟩) (by first | (rw [add_block]; exact hn114_5) | (show (Addr.add _ _).block ≠ _; rw [add_block]; exact hn114_5) | exact hn114_5) (.slice A112_5 ((rd_T71 l0 x5_1).f4.f1).length c112_5)).trans hx114_3; replace hx114_4 := (cell_far (p := ⟨gb113, 5, none⟩) (by first | (rw [add_block]; exact hn114_5) | (show (Addr.add _ _).block ≠ _; rw [add_block]; exact hn114_5) | exact hn114_5) (.slice A112_5 ((rd_T71 l0 x5_1).f4.f1).length c112_5)).trans hx114_4; replace hx114_5 := (cell_far (p := ⟨gb113, 5, none⟩) (by first | (rw [add_block]; exact hn114_5) | (show (Addr.add _ _).block ≠ _; rw [add_block]; exact hn114_5) | exact hn114_5) (.slice A112_5 ((rd_T71 l0 x5_1).f4.f1).length c112_5)).trans hx114_5; replace hx114_6 := (cell_far (p := ⟨gb113, 5, none⟩) (by first | (rw [add_block]; exact hn114_5) | (show (Addr.add _ _).block ≠ _; rw [add_block]; exact hn114_5) | exact hn114_5) (.slice A112_5 ((rd_T71 l0 x5_1).f4.f1).length c112_5)).trans hx114_6; replace hx114_7 := (cell_far (p := ⟨gb113, 5, none⟩) (by first | (rw [add_block]; exact hn114_5) | (show (Addr.add _ _).block ≠ _; rw [add_block]; exact hn114_5) | exact hn114_5) (.slice A112_5 ((rd_T71 l0 x5_1).f4.f1).length c112_5)).trans hx114_7; replace hx114_8 := (cell_far (p := ⟨gb113, 5, none⟩) (by first | (rw [add_block]; exact hn114_5) | (show (Addr.add _ _).block ≠ _; rw [add_block]; exact hn114_5) | exact hn114_5) (.slice A112_5 ((rd_T71 l0 x5_1).f4.f1).length c112_5)).trans hx114_8; replace hx114_0 := (cell_far (p := ⟨gb113, 6, none⟩) (by first | (rw [add_block]; exact hn114_6) | (show (Addr.add _ _).block ≠ _; rw [add_block]; exact hn114_6) | exact hn114_6) (.string ((rd_T71 l0 x5_1).f4.f2))).trans hx114_0; replace hx114_1 := (cell_far (p := ⟨gb113, 6, none⟩) (by first | (rw [add_block]; exact hn114_6) | (show (Addr.add _ _).block ≠ _; rw [add_block]; exact hn114_6) | exact hn114_6) (.string ((rd_T71 l0 x5_1).f4.f2))).trans hx114_1; replace hx114_2 := (cell_far (p := ⟨gb113, 6, none⟩) (by first | (rw [add_block]; exact hn114_6) | (show (Addr.add _ _).block ≠ _; rw [add_block]; exact hn114_6) | exact hn114_6) (.string ((rd_T71 l0 x5_1).f4.f2))).trans hx114_2; replace hx114_3 := (cell_far (p := ⟨gb113, 6, none⟩) (by first | (rw [add_block]; exact hn114_6) | (show (Addr.add _ _).block ≠ _; rw [add_block]; exact hn114_6) | exact hn114_6) (.string ((rd_T71 l0 x5_1).f4.f2))).trans hx114_3; replace hx114_4 := (cell_far (p := ⟨gb113, 6, none⟩) (by first | (rw [add_block]; exact hn114_6) | (show (Addr.add _ _).block ≠ _; rw [add_block]; exact hn114_6) | exact hn114_6) (.string ((rd_T71 l0 x5_1).f4.f2))).trans hx114_4; replace hx114_5 := (cell_far (p := ⟨gb113, 6, none⟩) (by first | (rw [add_block]; exact hn114_6) | (show (Addr.add _ _).block ≠ _; rw [add_block]; exact hn114_6) | exact hn114_6) (.string ((rd_T71 l0 x5_1).f4.f2))).trans hx114_5; replace hx114_6 := (cell_far (p := ⟨gb113, 6, none⟩) (by first | (rw [add_block]; exact hn114_6) | (show (Addr.add _ _).block ≠ _; rw [add_block]; exact hn114_6) | exact hn114_6) (.string ((rd_T71 l0 x5_1).f4.f2))).trans hx114_6; replace hx114_7 := (cell_far (p := ⟨gb113, 6, none⟩) (by first | (rw [add_block]; exact hn114_6) | (show (Addr.add _ _).block ≠ _; rw [add_block]; exact hn114_6) | exact hn114_6) (.string ((rd_T71 l0 x5_1).f4.f2))).trans hx114_7; replace hx114_8 := (cell_far (p := ⟨gb113, 6, none⟩) (by first | (rw [add_block]; exact hn114_6) | (show (Addr.add _ _).block ≠ _; rw [add_block]; exact hn114_6) | exact hn114_6) (.string ((rd_T71 l0 x5_1).f4.f2))).trans hx114_8; replace hx114_0 := (cell_far (p := ⟨gb113, 7, none⟩) (by first | (rw [add_block]; exact hn114_7) | (show (Addr.add _ _).block ≠ _; rw [add_block]; exact hn114_7) | exact hn114_7) (.string ((rd_T71 l0 x5_1).f5))).trans hx114_0; replace hx114_1 := (cell_far (p := ⟨gb113, 7, none⟩) (by first | (rw [add_block]; exact hn114_7) | (show (Addr.add _ _).block ≠ _; rw [add_block]; exact hn114_7) | exact hn114_7) (.string ((rd_T71 l0 x5_1).f5))).trans hx114_1; replace hx114_2 := (cell_far (p := ⟨gb113, 7, none⟩) (by first | (rw [add_block]; exact hn114_7) | (show (Addr.add _ _).block ≠ _; rw [add_block]; exact hn114_7) | exact hn114_7) (.string ((rd_T71 l0 x5_1).f5))).trans hx114_2; replace hx114_3 := (cell_far (p := ⟨gb113, 7, none⟩) (by first | (rw [add_block]; exact hn114_7) | (show (Addr.add _ _).block ≠ _; rw [add_block]; exact hn114_7) | exact hn114_7) (.string ((rd_T71 l0 x5_1).f5))).trans hx114_3; replace hx114_4 := (cell_far (p := ⟨gb113, 7, none⟩) (by first | (rw [add_block]; exact hn114_7) | (show (Addr.add _ _).block ≠ _; rw [add_block]; exact hn114_7) | exact hn114_7) (.string ((rd_T71 l0 x5_1).f5))).trans hx114_4; replace hx114_5 := (cell_far (p := ⟨gb113, 7, none⟩) (by first | (rw [add_block]; exact hn114_7) | (show (Addr.add _ _).block ≠ _; rw [add_block]; exact hn114_7) | exact hn114_7) (.string ((rd_T71 l0 x5_1).f5))).trans hx114_5; replace hx114_6 := (cell_far (p := ⟨gb113, 7, none⟩) (by first | (rw [add_block]; exact hn114_7) | (show (Addr.add _ _).block ≠ _; rw [add_block]; exact hn114_7) | exact hn114_7) (.string ((rd_T71 l0 x5_1).f5))).trans hx114_6; replace hx114_7 := (cell_far (p := ⟨gb113, 7, none⟩) (by first | (rw [add_block]; exact hn114_7) | (show (Addr.add _ _).block ≠ _; rw [add_block]; exact hn114_7) | exact hn114_7) (.string ((rd_T71 l0 x5_1).f5))).trans hx114_7; replace hx114_8 := (cell_far (p := ⟨gb113, 7, none⟩) (by first | (rw [add_block]; exact hn114_7) | (show (Addr.add _ _).block ≠ _; rw [add_block]; exact hn114_7) | exact hn114_7) (.string ((rd_T71 l0 x5_1).f5))).trans hx114_8; replace hx114_0 := (cell_far (p := ⟨gb113, 8, none⟩) (by first | (rw [add_block]; exact hn114_8) | (show (Addr.add _ _).block ≠ _; rw [add_block]; exact hn114_8) | exact hn114_8) (.bool ((rd_T71 l0 x5_1).f6))).trans hx114_0; replace hx114_1 := (cell_far (p := ⟨gb113, 8, none⟩) (by first | (rw [add_block]; exact hn114_8) | (show (Addr.add _ _).block ≠ _; rw [add_block]; exact hn114_8) | exact hn114_8) (.bool ((rd_T71 l0 x5_1).f6))).trans hx114_1; replace hx114_2 := (cell_far (p := ⟨gb113, 8, none⟩) (by first | (rw [add_block]; exact hn114_8) | (show (Addr.add _ _).block ≠ _; rw [add_block]; exact hn114_8) | exact hn114_8) (.bool ((rd_T71 l0 x5_1).f6))).trans hx114_2; replace hx114_3 := (cell_far (p := ⟨gb113, 8, none⟩) (by first | (rw [add_block]; exact hn114_8) | (show (Addr.add _ _).block ≠ _; rw [add_block]; exact hn114_8) | exact hn114_8) (.bool ((rd_T71 l0 x5_1).f6))).trans hx114_3; replace hx114_4 := (cell_far (p := ⟨gb113, 8, none⟩) (by first | (rw [add_block]; exact hn114_8) | (show (Addr.add _ _).block ≠ _; rw [add_block]; exact hn114_8) | exact hn114_8) (.bool ((rd_T71 l0 x5_1).f6))).trans hx114_4; replace hx114_5 := (cell_far (p := ⟨gb113, 8, none⟩) (by first | (rw [add_block]; exact hn114_8) | (show (Addr.add _ _).block ≠ _; rw [add_block]; exact hn114_8) | exact hn114_8) (.bool ((rd_T71 l0 x5_1).f6))).trans hx114_5; replace hx114_6 := (cell_far (p := ⟨gb113, 8, none⟩) (by first | (rw [add_block]; exact hn114_8) | (show (Addr.add _ _).block ≠ _; rw [add_block]; exact hn114_8) | exact hn114_8) (.bool ((rd_T71 l0 x5_1).f6))).trans hx114_6; replace hx114_7 := (cell_far (p := ⟨gb113, 8, none⟩) (by first | (rw [add_block]; exact hn114_8) | (show (Addr.add _ _).block ≠ _; rw [add_block]; exact hn114_8) | exact hn114_8) (.bool ((rd_T71 l0 x5_1).f6))).trans hx114_7; replace hx114_8 := (cell_far (p := ⟨gb113, 8, none⟩) (by first | (rw [add_block]; exact hn114_8) | (show (Addr.add _ _).block ≠ _; rw [add_block]; exact hn114_8) | exact hn114_8) (.bool ((rd_T71 l0 x5_1).f6))).trans hx114_8; clear hn114_0; clear hn114_1; clear hn114_2; clear hn114_3; clear hn114_4; clear hn114_5; clear hn114_6; clear hn114_7; clear hn114_8; replace p114 := eq_true p114; replace q114 := eq_true q114) | ((with_reducible refine gate_dst (N := 7) rfl ?_); refine box_event ?hg (N := 7) ?hd (cs := #[.int .i64 0, .int .i64 0, .string (⟨#[]⟩ : ByteArray), .string (⟨#[]⟩ : ByteArray), .string (⟨#[]⟩ : ByteArray), .slice none 0 0, .string (⟨#[]⟩ : ByteArray), .string (⟨#[]⟩ : ByteArray), .bool false]) (t := 71) ?hr ?_; (case hd => rfl); (case hg => rfl); (case hr => first | (go_simp; done) | (go_simp; rfl)); intro gb115 hg w11 hbox hb; have n0_ := Aside0.mk (blk_below (g := gb113) (o := .cells #[.int .i64 ((rd_T71 l0 x5_1).f0), .int .i64 ((rd_T71 l0 x5_1).f1), .string ((rd_T71 l0 x5_1).f2), .string ((rd_T71 l0 x5_1).f3), .string ((rd_T71 l0 x5_1).f4.f0), .slice A112_5 ((rd_T71 l0 x5_1).f4.f1).length c112_5, .string ((rd_T71 l0 x5_1).f4.f2), .string ((rd_T71 l0 x5_1).f5), .bool ((rd_T71 l0 x5_1).f6)] 71 (0, 0)) (by (with_reducible repeat (first | refine blk_drewN ?_ _ | refine blk_drew ?_ | refine blk_alloc ?_ _)); exact put9_ (by (with_reducible repeat (first | refine blk_drewN ?_ _ | refine blk_drew ?_ | refine blk_alloc ?_ _)); exact BK113.out)) hb); have n1_ := Aside0.mk (below_step (by repeat (first | (with_reducible first | exact HB.out | apply below_alloc | apply pw_below_drewN | apply below_drew1 | refine below_set ?_ GE113.out) | exact HB.out)) hb); have n2_ := Aside0.mk (hbox); have n3_ := Aside0.mk ((by rw [hg]; exact (below_size (by repeat (first | (with_reducible first | exact HB.out | apply below_alloc | apply pw_below_drewN | apply below_drew1 | refine below_set ?_ GE113.out) | exact HB.out))) : w.heap.size ≤ gb115)); have n4_ := Aside0.mk ((by rw [hg]; exact (below_size (by repeat (first | (with_reducible first | exact HB.out | apply below_alloc | apply pw_below_drewN | apply below_drew1 | refine below_set ?_ GE113.out) | exact HB.out))) : w.heap.size ≤ gb115)); have n5_ := Aside0.mk ((by rw [hg]; exact Nat.ne_of_lt (blk_lt (g := gb113) (o := .cells #[.int .i64 ((rd_T71 l0 x5_1).f0), .int .i64 ((rd_T71 l0 x5_1).f1), .string ((rd_T71 l0 x5_1).f2), .string ((rd_T71 l0 x5_1).f3), .string ((rd_T71 l0 x5_1).f4.f0), .slice A112_5 ((rd_T71 l0 x5_1).f4.f1).length c112_5, .string ((rd_T71 l0 x5_1).f4.f2), .string ((rd_T71 l0 x5_1).f5), .bool ((rd_T71 l0 x5_1).f6)] 71 (0, 0)) (by (with_reducible repeat (first | refine blk_drewN ?_ _ | refine blk_drew ?_ | refine blk_alloc ?_ _)); exact put9_ (by (with_reducible repeat (first | refine blk_drewN ?_ _ | refine blk_drew ?_ | refine blk_alloc ?_ _)); exact BK113.out))) : gb113 ≠ gb115)); have n6_ := Aside0.mk ((by rw [hg]; exact Nat.ne_of_gt (blk_lt (g := gb113) (o := .cells #[.int .i64 ((rd_T71 l0 x5_1).f0), .int .i64 ((rd_T71 l0 x5_1).f1), .string ((rd_T71 l0 x5_1).f2), .string ((rd_T71 l0 x5_1).f3), .string ((rd_T71 l0 x5_1).f4.f0), .slice A112_5 ((rd_T71 l0 x5_1).f4.f1).length c112_5, .string ((rd_T71 l0 x5_1).f4.f2), .string ((rd_T71 l0 x5_1).f5), .bool ((rd_T71 l0 x5_1).f6)] 71 (0, 0)) (by (with_reducible repeat (first | refine blk_drewN ?_ _ | refine blk_drew ?_ | refine blk_alloc ?_ _)); exact put9_ (by (with_reducible repeat (first | refine blk_drewN ?_ _ | refine blk_drew ?_ | refine blk_alloc ?_ _)); exact BK113.out))) : gb115 ≠ gb113)); clear BK113; clear HB; have BK113 := n0_; have HB := n1_; have BK115 := n2_; have GW115 := n3_; have GE115 := n4_; have NB113_115 := n5_; have NB115_113 := n6_; clear n0_ n1_ n2_ n3_ n4_ n5_ n6_; clear hb hbox hg; have hnb12 := NB115_113.out; have hnc12 := NB113_115.out; obtain ⟨hcz13_0, hcz13_1, hcz13_2, hcz13_3, hcz13_4, hcz13_5, hcz13_6, hcz13_7, hcz13_8⟩ := cells9_ BK115.out; obtain ⟨hfz13_0, hfz13_1, hfz13_2, hfz13_3, hfz13_4, hfz13_5, hfz13_6, hfz13_7, hfz13_8⟩ := frz9_ BK115.out; obtain ⟨hcz14_0, hcz14_1, hcz14_2, hcz14_3, hcz14_4, hcz14_5, hcz14_6, hcz14_7, hcz14_8⟩ := cells9_ BK113.out; obtain ⟨hfz14_0, hfz14_1, hfz14_2, hfz14_3, hfz14_4, hfz14_5, hfz14_6, hfz14_7, hfz14_8⟩ := frz9_ BK113.out) | ((with_reducible refine gate_callee (f := 24) rfl ?_); refine goesL_ (some 34) rfl rfl Tryd.func24 (by kernel_rfl) rfl #[.slice A112_5 ((rd_T71 l0 x5_1).f4.f1).length c112_5, .slice A114_5 ((rd_T71 l1 x5_1).f4.f1).length c114_5] rfl (by (try simp only [List.map_toArray, List.map_cons, List.map_nil]); first | done | rfl | (simp only [List.length_drop, List.length_take]; rfl) | exact congrArg (fun n_ : Nat => #[Value.slice _ n_ _]) (Eq.trans (Aside0.out (by assumption)) (Eq.symm (Aside0.out (by assumption)))) | exact congrArg (fun n_ : Nat => #[Value.slice _ n_ _, Value.slice _ _ _]) (Eq.trans (Aside0.out (by assumption)) (Eq.symm (Aside0.out (by assumption))))) ?_; (with_reducible refine (rosterref13_sameTexts.calls k1 _ _ ((rd_T71 l0 x5_1).f4.f1) _ _ ((rd_T71 l1 x5_1).f4.f1) t116 _ ?side1 ?side2 ?side3 ?side4 A7.out).mono ?_); (case side1 => exact Kd.C_below HR112_5.out (by repeat (first | (with_reducible first | exact HB.out | apply below_alloc | apply pw_below_drewN | apply below_drew1 | refine below_set ?_ GE113.out | refine below_set ?_ GE115.out) | exact HB.out))); (case side2 => first | exact HC112_5.out | exact Aside0.out (by assumption)); (case side3 => exact Kd.C_below HR114_5.out (by repeat (first | (with_reducible first | exact HB.out | apply below_alloc | apply pw_below_drewN | apply below_drew1 | refine below_set ?_ GE113.out | refine below_set ?_ GE115.out) | exact HB.out))); (case side4 => first | exact HC114_5.out | exact Aside0.out (by assumption)); rintro e w' ⟨rfl, ⟨nd, rfl⟩⟩; refine ⟨_, rfl, ?_⟩))
       (try simp only [Act.put, List.setIfInBounds_toArray, List.set_cons_zero, List.set_cons_succ])
       go_cut [78] (fun v78 wc => ∃ (kq : Nat) (x78_7 : Bool), v78 = .bool x78_7 ∧ Aside0 (rosterref13_sameFilter.j1 kq l0 l1 x5_1 x78_7 ((rd_T71 l0 x5_1).f0) ((rd_T71 l0 x5_1).f1) ((rd_T71 l0 x5_1).f2) ((rd_T71 l0 x5_1).f3) ((rd_T71 l0 x5_1).f4.f0) ((rd_T71 l0 x5_1).f4.f1) ((rd_T71 l0 x5_1).f4.f2) ((rd_T71 l0 x5_1).f5) ((rd_T71 l0 x5_1).f6) ((rd_T71 l1 x5_1).f0) ((rd_T71 l1 x5_1).f1) ((rd_T71 l1 x5_1).f2) ((rd_T71 l1 x5_1).f3) ((rd_T71 l1 x5_1).f4.f0) ((rd_T71 l1 x5_1).f4.f1) ((rd_T71 l1 x5_1).f4.f2) ((rd_T71 l1 x5_1).f5) ((rd_T71 l1 x5_1).f6) = some r) ∧ Aside0 (kq ≤ k1) ∧ Aside0 (wc.heap[gb113]? = some (.cells #[.int .i64 ((rd_T71 l0 x5_1).f0), .int .i64 ((rd_T71 l0 x5_1).f1), .string ((rd_T71 l0 x5_1).f2), .string ((rd_T71 l0 x5_1).f3), .string ((rd_T71 l0 x5_1).f4.f0), (.slice A112_5 ((rd_T71 l0 x5_1).f4.f1).length c112_5), .string ((rd_T71 l0 x5_1).f4.f2), .string ((rd_T71 l0 x5_1).f5), .bool ((rd_T71 l0 x5_1).f6)] 71 (0, 0))) ∧ Aside0 (wc.heap[gb115]? = some (.cells #[.int .i64 ((rd_T71 l1 x5_1).f0), .int .i64 ((rd_T71 l1 x5_1).f1), .string ((rd_T71 l1 x5_1).f2), .string ((rd_T71 l1 x5_1).f3), .string ((rd_T71 l1 x5_1).f4.f0), (.slice A114_5 ((rd_T71 l1 x5_1).f4.f1).length c114_5), .string ((rd_T71 l1 x5_1).f4.f2), .string ((rd_T71 l1 x5_1).f5), .bool ((rd_T71 l1 x5_1).f6)] 71 (0, 0))) ∧ Aside0 (Below w.heap.size w wc))
       case first =>
        have H := HC8.out
        clear HC8
        by_cases c15 : t116 = true
        ·subst c15
         have H1 : (if ((rd_T71 l0 x5_1).f0) = ((rd_T71 l1 x5_1).f0) then (if ((rd_T71 l0 x5_1).f1) = ((rd_T71 l1 x5_1).f1) then (if ((rd_T71 l0 x5_1).f2).toList = ((rd_T71 l1 x5_1).f2).toList then (if ((rd_T71 l0 x5_1).f3).toList = ((rd_T71 l1 x5_1).f3).toList then (if ((rd_T71 l0 x5_1).f5).toList = ((rd_T71 l1 x5_1).f5).toList then (rosterref13_sameFilter.j1 k1 l0 l1 x5_1 (((rd_T71 l0 x5_1).f6) != ((rd_T71 l1 x5_1).f6)) ((rd_T71 l0 x5_1).f0) ((rd_T71 l0 x5_1).f1) ((rd_T71 l0 x5_1).f2) ((rd_T71 l0 x5_1).f3) ((rd_T71 l0 x5_1).f4.f0) ((rd_T71 l0 x5_1).f4.f1) ((rd_T71 l0 x5_1).f4.f2) ((rd_T71 l0 x5_1).f5) ((rd_T71 l0 x5_1).f6) ((rd_T71 l1 x5_1).f0) ((rd_T71 l1 x5_1).f1) ((rd_T71 l1 x5_1).f2) ((rd_T71 l1 x5_1).f3) ((rd_T71 l1 x5_1).f4.f0) ((rd_T71 l1 x5_1).f4.f1) ((rd_T71 l1 x5_1).f4.f2) ((rd_T71 l1 x5_1).f5) ((rd_T71 l1 x5_1).f6)) else (rosterref13_sameFilter.j1 k1 l0 l1 x5_1 true ((rd_T71 l0 x5_1).f0) ((rd_T71 l0 x5_1).f1) ((rd_T71 l0 x5_1).f2) ((rd_T71 l0 x5_1).f3) ((rd_T71 l0 x5_1).f4.f0) ((rd_T71 l0 x5_1).f4.f1) ((rd_T71 l0 x5_1).f4.f2) ((rd_T71 l0 x5_1).f5) ((rd_T71 l0 x5_1).f6) ((rd_T71 l1 x5_1).f0) ((rd_T71 l1 x5_1).f1) ((rd_T71 l1 x5_1).f2) ((rd_T71 l1 x5_1).f3) ((rd_T71 l1 x5_1).f4.f0) ((rd_T71 l1 x5_1).f4.f1) ((rd_T71 l1 x5_1).f4.f2) ((rd_T71 l1 x5_1).f5) ((rd_T71 l1 x5_1).f6))) else (rosterref13_sameFilter.j1 k1 l0 l1 x5_1 true ((rd_T71 l0 x5_1).f0) ((rd_T71 l0 x5_1).f1) ((rd_T71 l0 x5_1).f2) ((rd_T71 l0 x5_1).f3) ((rd_T71 l0 x5_1).f4.f0) ((rd_T71 l0 x5_1).f4.f1) ((rd_T71 l0 x5_1).f4.f2) ((rd_T71 l0 x5_1).f5) ((rd_T71 l0 x5_1).f6) ((rd_T71 l1 x5_1).f0) ((rd_T71 l1 x5_1).f1) ((rd_T71 l1 x5_1).f2) ((rd_T71 l1 x5_1).f3) ((rd_T71 l1 x5_1).f4.f0) ((rd_T71 l1 x5_1).f4.f1) ((rd_T71 l1 x5_1).f4.f2) ((rd_T71 l1 x5_1).f5) ((rd_T71 l1 x5_1).f6))) else (rosterref13_sameFilter.j1 k1 l0 l1 x5_1 true ((rd_T71 l0 x5_1).f0) ((rd_T71 l0 x5_1).f1) ((rd_T71 l0 x5_1).f2) ((rd_T71 l0 x5_1).f3) ((rd_T71 l0 x5_1).f4.f0) ((rd_T71 l0 x5_1).f4.f1) ((rd_T71 l0 x5_1).f4.f2) ((rd_T71 l0 x5_1).f5) ((rd_T71 l0 x5_1).f6) ((rd_T71 l1 x5_1).f0) ((rd_T71 l1 x5_1).f1) ((rd_T71 l1 x5_1).f2) ((rd_T71 l1 x5_1).f3) ((rd_T71 l1 x5_1).f4.f0) ((rd_T71 l1 x5_1).f4.f1) ((rd_T71 l1 x5_1).f4.f2) ((rd_T71 l1 x5_1).f5) ((rd_T71 l1 x5_1).f6))) else (rosterref13_sameFilter.j1 k1 l0 l1 x5_1 true ((rd_T71 l0 x5_1).f0) ((rd_T71 l0 x5_1).f1) ((rd_T71 l0 x5_1).f2) ((rd_T71 l0 x5_1).f3) ((rd_T71 l0 x5_1).f4.f0) ((rd_T71 l0 x5_1).f4.f1) ((rd_T71 l0 x5_1).f4.f2) ((rd_T71 l0 x5_1).f5) ((rd_T71 l0 x5_1).f6) ((rd_T71 l1 x5_1).f0) ((rd_T71 l1 x5_1).f1) ((rd_T71 l1 x5_1).f2) ((rd_T71 l1 x5_1).f3) ((rd_T71 l1 x5_1).f4.f0) ((rd_T71 l1 x5_1).f4.f1) ((rd_T71 l1 x5_1).f4.f2) ((rd_T71 l1 x5_1).f5) ((rd_T71 l1 x5_1).f6))) else (rosterref13_sameFilter.j1 k1 l0 l1 x5_1 true ((rd_T71 l0 x5_1).f0) ((rd_T71 l0 x5_1).f1) ((rd_T71 l0 x5_1).f2) ((rd_T71 l0 x5_1).f3) ((rd_T71 l0 x5_1).f4.f0) ((rd_T71 l0 x5_1).f4.f1) ((rd_T71 l0 x5_1).f4.f2) ((rd_T71 l0 x5_1).f5) ((rd_T71 l0 x5_1).f6) ((rd_T71 l1 x5_1).f0) ((rd_T71 l1 x5_1).f1) ((rd_T71 l1 x5_1).f2) ((rd_T71 l1 x5_1).f3) ((rd_T71 l1 x5_1).f4.f0) ((rd_T71 l1 x5_1).f4.f1) ((rd_T71 l1 x5_1).f4.f2) ((rd_T71 l1 x5_1).f5) ((rd_T71 l1 x5_1).f6))) = some r := by rw [if_pos rfl] at H; exact H
         clear H
         have H := H1
         clear H1
         by_cases c16 : ((rd_T71 l0 x5_1).f0) = ((rd_T71 l1 x5_1).f0)
         ·rw [if_pos c16] at H
          have c16b0 : (((rd_T71 l0 x5_1).f0) == ((rd_T71 l1 x5_1).f0)) = true := beq_iff_eq.mpr c16
          have c16b1 : (((rd_T71 l0 x5_1).f0) != ((rd_T71 l1 x5_1).f0)) = false := bne_eq_false_iff_eq.mpr c16
          clear c16
          (first | rw [c16b0] | (simp only [i64_w, i32_w]; rw [c16b0]) | skip)
          by_cases c17 : ((rd_T71 l0 x5_1).f1) = ((rd_T71 l1 x5_1).f1)
          ·rw [if_pos c17] at H
           have c17b0 : (((rd_T71 l0 x5_1).f1) == ((rd_T71 l1 x5_1).f1)) = true := beq_iff_eq.mpr c17
           have c17b1 : (((rd_T71 l0 x5_1).f1) != ((rd_T71 l1 x5_1).f1)) = false := bne_eq_false_iff_eq.mpr c17
           clear c17
           by_cases c18 : ((rd_T71 l0 x5_1).f2).toList = ((rd_T71 l1 x5_1).f2).toList
           ·rw [if_pos c18] at H
            have c18b0 : (((rd_T71 l0 x5_1).f2).toList == ((rd_T71 l1 x5_1).f2).toList) = true := beq_iff_eq.mpr c18
            have c18b1 : (((rd_T71 l0 x5_1).f2).toList != ((rd_T71 l1 x5_1).f2).toList) = false := bne_eq_false_iff_eq.mpr c18
            clear c18
            by_cases c19 : ((rd_T71 l0 x5_1).f3).toList = ((rd_T71 l1 x5_1).f3).toList
            ·rw [if_pos c19] at H
             have c19b0 : (((rd_T71 l0 x5_1).f3).toList == ((rd_T71 l1 x5_1).f3).toList) = true := beq_iff_eq.mpr c19
             have c19b1 : (((rd_T71 l0 x5_1).f3).toList != ((rd_T71 l1 x5_1).f3).toList) = false := bne_eq_false_iff_eq.mpr c19
             clear c19
             by_cases c20 : ((rd_T71 l0 x5_1).f5).toList = ((rd_T71 l1 x5_1).f5).toList
             ·rw [if_pos c20] at H
              have c20b0 : (((rd_T71 l0 x5_1).f5).toList == ((rd_T71 l1 x5_1).f5).toList) = true := beq_iff_eq.mpr c20
              have c20b1 : (((rd_T71 l0 x5_1).f5).toList != ((rd_T71 l1 x5_1).f5).toList) = false := bne_eq_false_iff_eq.mpr c20
              clear c20
              have H' := Aside0.mk H
              clear H
              have hnb21 := NB113_115.out
              have hnc21 := NB115_113.out
              obtain ⟨hcz22_0, hcz22_1, hcz22_2, hcz22_3, hcz22_4, hcz22_5, hcz22_6, hcz22_7, hcz22_8⟩ := cells9_ BK113.out
              obtain ⟨hfz22_0, hfz22_1, hfz22_2, hfz22_3, hfz22_4, hfz22_5, hfz22_6, hfz22_7, hfz22_8⟩ := frz9_ BK113.out
              obtain ⟨hcz23_0, hcz23_1, hcz23_2, hcz23_3, hcz23_4, hcz23_5, hcz23_6, hcz23_7, hcz23_8⟩ := cells9_ BK115.out
              obtain ⟨hfz23_0, hfz23_1, hfz23_2, hfz23_3, hfz23_4, hfz23_5, hfz23_6, hfz23_7, hfz23_8⟩ := frz9_ BK115.out
              go_wp2
              go_meet
              case rel => exact ⟨_, ((((rd_T71 l0 x5_1).f6) != ((rd_T71 l1 x5_1).f6))), (by first | rfl | (simp; done) | (simp [*]; done) | (simp [isEmpty_ne_]; done)), H', ⟨by have := HK1.out; first | omega | exact Nat.le_refl _⟩, ⟨by (with_reducible repeat (first | refine blk_drewN ?_ _ | refine blk_drew ?_ | refine blk_alloc ?_ _)); refine blk_far ?_ NB113_115.out _; (with_reducible repeat (first | refine blk_drewN ?_ _ | refine blk_drew ?_ | refine blk_alloc ?_ _)); refine blk_far ?_ NB113_115.out _; (with_reducible repeat (first | refine blk_drewN ?_ _ | refine blk_drew ?_ | refine blk_alloc ?_ _)); refine blk_far ?_ NB113_115.out _; (with_reducible repeat (first | refine blk_drewN ?_ _ | refine blk_drew ?_ | refine blk_alloc ?_ _)); refine blk_far ?_ NB113_115.out _; (with_reducible repeat (first | refine blk_drewN ?_ _ | refine blk_drew ?_ | refine blk_alloc ?_ _)); refine blk_far ?_ NB113_115.out _; (with_reducible repeat (first | refine blk_drewN ?_ _ | refine blk_drew ?_ | refine blk_alloc ?_ _)); refine blk_far ?_ NB113_115.out _; (with_reducible repeat (first | refine blk_drewN ?_ _ | refine blk_drew ?_ | refine blk_alloc ?_ _)); refine blk_far ?_ NB113_115.out _; (with_reducible repeat (first | refine blk_drewN ?_ _ | refine blk_drew ?_ | refine blk_alloc ?_ _)); refine blk_far ?_ NB113_115.out _; (with_reducible repeat (first | refine blk_drewN ?_ _ | refine blk_drew ?_ | refine blk_alloc ?_ _)); refine blk_far ?_ NB113_115.out _; (with_reducible repeat (first | refine blk_drewN ?_ _ | refine blk_drew ?_ | refine blk_alloc ?_ _)); exact BK113.out⟩, ⟨by (with_reducible repeat (first | refine blk_drewN ?_ _ | refine blk_drew ?_ | refine blk_alloc ?_ _)); exact put9_ (by (with_reducible repeat (first | refine blk_drewN ?_ _ | refine blk_drew ?_ | refine blk_alloc ?_ _)); exact BK115.out)⟩, ⟨by repeat (first | (with_reducible first | exact HB.out | apply below_alloc | apply pw_below_drewN | apply below_drew1 | refine below_set ?_ GE113.out | refine below_set ?_ GE115.out) | exact HB.out)⟩⟩
             ·rw [if_neg c20] at H
              have c20b0 : (((rd_T71 l0 x5_1).f5).toList == ((rd_T71 l1 x5_1).f5).toList) = false := beq_eq_false_iff_ne.mpr c20
              have c20b1 : (((rd_T71 l0 x5_1).f5).toList != ((rd_T71 l1 x5_1).f5).toList) = true := bne_iff_ne.mpr c20
              have H' := Aside0.mk H
              clear H
              have hnb24 := NB113_115.out
              have hnc24 := NB115_113.out
              obtain ⟨hcz25_0, hcz25_1, hcz25_2, hcz25_3, hcz25_4, hcz25_5, hcz25_6, hcz25_7, hcz25_8⟩ := cells9_ BK113.out
              obtain ⟨hfz25_0, hfz25_1, hfz25_2, hfz25_3, hfz25_4, hfz25_5, hfz25_6, hfz25_7, hfz25_8⟩ := frz9_ BK113.out
              obtain ⟨hcz26_0, hcz26_1, hcz26_2, hcz26_3, hcz26_4, hcz26_5, hcz26_6, hcz26_7, hcz26_8⟩ := cells9_ BK115.out
              obtain ⟨hfz26_0, hfz26_1, hfz26_2, hfz26_3, hfz26_4, hfz26_5, hfz26_6, hfz26_7, hfz26_8⟩ := frz9_ BK115.out
              go_wp2
              go_meet
              case rel => exact ⟨_, (true), (by first | rfl | (simp; done) | (simp [*]; done) | (simp [isEmpty_ne_]; done)), H', ⟨by have := HK1.out; first | omega | exact Nat.le_refl _⟩, ⟨by (with_reducible repeat (first | refine blk_drewN ?_ _ | refine blk_drew ?_ | refine blk_alloc ?_ _)); refine blk_far ?_ NB113_115.out _; (with_reducible repeat (first | refine blk_drewN ?_ _ | refine blk_drew ?_ | refine blk_alloc ?_ _)); refine blk_far ?_ NB113_115.out _; (with_reducible repeat (first | refine blk_drewN ?_ _ | refine blk_drew ?_ | refine blk_alloc ?_ _)); refine blk_far ?_ NB113_115.out _; (with_reducible repeat (first | refine blk_drewN ?_ _ | refine blk_drew ?_ | refine blk_alloc ?_ _)); refine blk_far ?_ NB113_115.out _; (with_reducible repeat (first | refine blk_drewN ?_ _ | refine blk_drew ?_ | refine blk_alloc ?_ _)); refine blk_far ?_ NB113_115.out _; (with_reducible repeat (first | refine blk_drewN ?_ _ | refine blk_drew ?_ | refine blk_alloc ?_ _)); refine blk_far ?_ NB113_115.out _; (with_reducible repeat (first | refine blk_drewN ?_ _ | refine blk_drew ?_ | refine blk_alloc ?_ _)); refine blk_far ?_ NB113_115.out _; (with_reducible repeat (first | refine blk_drewN ?_ _ | refine blk_drew ?_ | refine blk_alloc ?_ _)); refine blk_far ?_ NB113_115.out _; (with_reducible repeat (first | refine blk_drewN ?_ _ | refine blk_drew ?_ | refine blk_alloc ?_ _)); refine blk_far ?_ NB113_115.out _; (with_reducible repeat (first | refine blk_drewN ?_ _ | refine blk_drew ?_ | refine blk_alloc ?_ _)); exact BK113.out⟩, ⟨by (with_reducible repeat (first | refine blk_drewN ?_ _ | refine blk_drew ?_ | refine blk_alloc ?_ _)); exact put9_ (by (with_reducible repeat (first | refine blk_drewN ?_ _ | refine blk_drew ?_ | refine blk_alloc ?_ _)); exact BK115.out)⟩, ⟨by repeat (first | (with_reducible first | exact HB.out | apply below_alloc | apply pw_below_drewN | apply below_drew1 | refine below_set ?_ GE113.out | refine below_set ?_ GE115.out) | exact HB.out)⟩⟩
            ·rw [if_neg c19] at H
             have c19b0 : (((rd_T71 l0 x5_1).f3).toList == ((rd_T71 l1 x5_1).f3).toList) = false := beq_eq_false_iff_ne.mpr c19
             have c19b1 : (((rd_T71 l0 x5_1).f3).toList != ((rd_T71 l1 x5_1).f3).toList) = true := bne_iff_ne.mpr c19
             have H' := Aside0.mk H
             clear H
             have hnb27 := NB113_115.out
             have hnc27 := NB115_113.out
             obtain ⟨hcz28_0, hcz28_1, hcz28_2, hcz28_3, hcz28_4, hcz28_5, hcz28_6, hcz28_7, hcz28_8⟩ := cells9_ BK113.out
             obtain ⟨hfz28_0, hfz28_1, hfz28_2, hfz28_3, hfz28_4, hfz28_5, hfz28_6, hfz28_7, hfz28_8⟩ := frz9_ BK113.out
             obtain ⟨hcz29_0, hcz29_1, hcz29_2, hcz29_3, hcz29_4, hcz29_5, hcz29_6, hcz29_7, hcz29_8⟩ := cells9_ BK115.out
             obtain ⟨hfz29_0, hfz29_1, hfz29_2, hfz29_3, hfz29_4, hfz29_5, hfz29_6, hfz29_7, hfz29_8⟩ := frz9_ BK115.out
             go_wp2
             go_meet
             case rel => exact ⟨_, (true), (by first | rfl | (simp; done) | (simp [*]; done) | (simp [isEmpty_ne_]; done)), H', ⟨by have := HK1.out; first | omega | exact Nat.le_refl _⟩, ⟨by (with_reducible repeat (first | refine blk_drewN ?_ _ | refine blk_drew ?_ | refine blk_alloc ?_ _)); refine blk_far ?_ NB113_115.out _; (with_reducible repeat (first | refine blk_drewN ?_ _ | refine blk_drew ?_ | refine blk_alloc ?_ _)); refine blk_far ?_ NB113_115.out _; (with_reducible repeat (first | refine blk_drewN ?_ _ | refine blk_drew ?_ | refine blk_alloc ?_ _)); refine blk_far ?_ NB113_115.out _; (with_reducible repeat (first | refine blk_drewN ?_ _ | refine blk_drew ?_ | refine blk_alloc ?_ _)); refine blk_far ?_ NB113_115.out _; (with_reducible repeat (first | refine blk_drewN ?_ _ | refine blk_drew ?_ | refine blk_alloc ?_ _)); refine blk_far ?_ NB113_115.out _; (with_reducible repeat (first | refine blk_drewN ?_ _ | refine blk_drew ?_ | refine blk_alloc ?_ _)); refine blk_far ?_ NB113_115.out _; (with_reducible repeat (first | refine blk_drewN ?_ _ | refine blk_drew ?_ | refine blk_alloc ?_ _)); refine blk_far ?_ NB113_115.out _; (with_reducible repeat (first | refine blk_drewN ?_ _ | refine blk_drew ?_ | refine blk_alloc ?_ _)); refine blk_far ?_ NB113_115.out _; (with_reducible repeat (first | refine blk_drewN ?_ _ | refine blk_drew ?_ | refine blk_alloc ?_ _)); refine blk_far ?_ NB113_115.out _; (with_reducible repeat (first | refine blk_drewN ?_ _ | refine blk_drew ?_ | refine blk_alloc ?_ _)); exact BK113.out⟩, ⟨by (with_reducible repeat (first | refine blk_drewN ?_ _ | refine blk_drew ?_ | refine blk_alloc ?_ _)); exact put9_ (by (with_reducible repeat (first | refine blk_drewN ?_ _ | refine blk_drew ?_ | refine blk_alloc ?_ _)); exact BK115.out)⟩, ⟨by repeat (first | (with_reducible first | exact HB.out | apply below_alloc | apply pw_below_drewN | apply below_drew1 | refine below_set ?_ GE113.out | refine below_set ?_ GE115.out) | exact HB.out)⟩⟩
           ·rw [if_neg c18] at H
            have c18b0 : (((rd_T71 l0 x5_1).f2).toList == ((rd_T71 l1 x5_1).f2).toList) = false := beq_eq_false_iff_ne.mpr c18
            have c18b1 : (((rd_T71 l0 x5_1).f2).toList != ((rd_T71 l1 x5_1).f2).toList) = true := bne_iff_ne.mpr c18
            have H' := Aside0.mk H
            clear H
            have hnb30 := NB113_115.out
            have hnc30 := NB115_113.out
            obtain ⟨hcz31_0, hcz31_1, hcz31_2, hcz31_3, hcz31_4, hcz31_5, hcz31_6, hcz31_7, hcz31_8⟩ := cells9_ BK113.out
            obtain ⟨hfz31_0, hfz31_1, hfz31_2, hfz31_3, hfz31_4, hfz31_5, hfz31_6, hfz31_7, hfz31_8⟩ := frz9_ BK113.out
            obtain ⟨hcz32_0, hcz32_1, hcz32_2, hcz32_3, hcz32_4, hcz32_5, hcz32_6, hcz32_7, hcz32_8⟩ := cells9_ BK115.out
            obtain ⟨hfz32_0, hfz32_1, hfz32_2, hfz32_3, hfz32_4, hfz32_5, hfz32_6, hfz32_7, hfz32_8⟩ := frz9_ BK115.out
            go_wp2
            go_meet
            case rel => exact ⟨_, (true), (by first | rfl | (simp; done) | (simp [*]; done) | (simp [isEmpty_ne_]; done)), H', ⟨by have := HK1.out; first | omega | exact Nat.le_refl _⟩, ⟨by (with_reducible repeat (first | refine blk_drewN ?_ _ | refine blk_drew ?_ | refine blk_alloc ?_ _)); refine blk_far ?_ NB113_115.out _; (with_reducible repeat (first | refine blk_drewN ?_ _ | refine blk_drew ?_ | refine blk_alloc ?_ _)); refine blk_far ?_ NB113_115.out _; (with_reducible repeat (first | refine blk_drewN ?_ _ | refine blk_drew ?_ | refine blk_alloc ?_ _)); refine blk_far ?_ NB113_115.out _; (with_reducible repeat (first | refine blk_drewN ?_ _ | refine blk_drew ?_ | refine blk_alloc ?_ _)); refine blk_far ?_ NB113_115.out _; (with_reducible repeat (first | refine blk_drewN ?_ _ | refine blk_drew ?_ | refine blk_alloc ?_ _)); refine blk_far ?_ NB113_115.out _; (with_reducible repeat (first | refine blk_drewN ?_ _ | refine blk_drew ?_ | refine blk_alloc ?_ _)); refine blk_far ?_ NB113_115.out _; (with_reducible repeat (first | refine blk_drewN ?_ _ | refine blk_drew ?_ | refine blk_alloc ?_ _)); refine blk_far ?_ NB113_115.out _; (with_reducible repeat (first | refine blk_drewN ?_ _ | refine blk_drew ?_ | refine blk_alloc ?_ _)); refine blk_far ?_ NB113_115.out _; (with_reducible repeat (first | refine blk_drewN ?_ _ | refine blk_drew ?_ | refine blk_alloc ?_ _)); refine blk_far ?_ NB113_115.out _; (with_reducible repeat (first | refine blk_drewN ?_ _ | refine blk_drew ?_ | refine blk_alloc ?_ _)); exact BK113.out⟩, ⟨by (with_reducible repeat (first | refine blk_drewN ?_ _ | refine blk_drew ?_ | refine blk_alloc ?_ _)); exact put9_ (by (with_reducible repeat (first | refine blk_drewN ?_ _ | refine blk_drew ?_ | refine blk_alloc ?_ _)); exact BK115.out)⟩, ⟨by repeat (first | (with_reducible first | exact HB.out | apply below_alloc | apply pw_below_drewN | apply below_drew1 | refine below_set ?_ GE113.out | refine below_set ?_ GE115.out) | exact HB.out)⟩⟩
          ·rw [if_neg c17] at H
           have c17b0 : (((rd_T71 l0 x5_1).f1) == ((rd_T71 l1 x5_1).f1)) = false := beq_eq_false_iff_ne.mpr c17
           have c17b1 : (((rd_T71 l0 x5_1).f1) != ((rd_T71 l1 x5_1).f1)) = true := bne_iff_ne.mpr c17
           have H' := Aside0.mk H
           clear H
           have hnb33 := NB113_115.out
           have hnc33 := NB115_113.out
           obtain ⟨hcz34_0, hcz34_1, hcz34_2, hcz34_3, hcz34_4, hcz34_5, hcz34_6, hcz34_7, hcz34_8⟩ := cells9_ BK113.out
           obtain ⟨hfz34_0, hfz34_1, hfz34_2, hfz34_3, hfz34_4, hfz34_5, hfz34_6, hfz34_7, hfz34_8⟩ := frz9_ BK113.out
           obtain ⟨hcz35_0, hcz35_1, hcz35_2, hcz35_3, hcz35_4, hcz35_5, hcz35_6, hcz35_7, hcz35_8⟩ := cells9_ BK115.out
           obtain ⟨hfz35_0, hfz35_1, hfz35_2, hfz35_3, hfz35_4, hfz35_5, hfz35_6, hfz35_7, hfz35_8⟩ := frz9_ BK115.out
           go_wp2
           go_meet
           case rel => exact ⟨_, (true), (by first | rfl | (simp; done) | (simp [*]; done) | (simp [isEmpty_ne_]; done)), H', ⟨by have := HK1.out; first | omega | exact Nat.le_refl _⟩, ⟨by (with_reducible repeat (first | refine blk_drewN ?_ _ | refine blk_drew ?_ | refine blk_alloc ?_ _)); refine blk_far ?_ NB113_115.out _; (with_reducible repeat (first | refine blk_drewN ?_ _ | refine blk_drew ?_ | refine blk_alloc ?_ _)); refine blk_far ?_ NB113_115.out _; (with_reducible repeat (first | refine blk_drewN ?_ _ | refine blk_drew ?_ | refine blk_alloc ?_ _)); refine blk_far ?_ NB113_115.out _; (with_reducible repeat (first | refine blk_drewN ?_ _ | refine blk_drew ?_ | refine blk_alloc ?_ _)); refine blk_far ?_ NB113_115.out _; (with_reducible repeat (first | refine blk_drewN ?_ _ | refine blk_drew ?_ | refine blk_alloc ?_ _)); refine blk_far ?_ NB113_115.out _; (with_reducible repeat (first | refine blk_drewN ?_ _ | refine blk_drew ?_ | refine blk_alloc ?_ _)); refine blk_far ?_ NB113_115.out _; (with_reducible repeat (first | refine blk_drewN ?_ _ | refine blk_drew ?_ | refine blk_alloc ?_ _)); refine blk_far ?_ NB113_115.out _; (with_reducible repeat (first | refine blk_drewN ?_ _ | refine blk_drew ?_ | refine blk_alloc ?_ _)); refine blk_far ?_ NB113_115.out _; (with_reducible repeat (first | refine blk_drewN ?_ _ | refine blk_drew ?_ | refine blk_alloc ?_ _)); refine blk_far ?_ NB113_115.out _; (with_reducible repeat (first | refine blk_drewN ?_ _ | refine blk_drew ?_ | refine blk_alloc ?_ _)); exact BK113.out⟩, ⟨by (with_reducible repeat (first | refine blk_drewN ?_ _ | refine blk_drew ?_ | refine blk_alloc ?_ _)); exact put9_ (by (with_reducible repeat (first | refine blk_drewN ?_ _ | refine blk_drew ?_ | refine blk_alloc ?_ _)); exact BK115.out)⟩, ⟨by repeat (first | (with_reducible first | exact HB.out | apply below_alloc | apply pw_below_drewN | apply below_drew1 | refine below_set ?_ GE113.out | refine below_set ?_ GE115.out) | exact HB.out)⟩⟩
         ·rw [if_neg c16] at H
          have c16b0 : (((rd_T71 l0 x5_1).f0) == ((rd_T71 l1 x5_1).f0)) = false := beq_eq_false_iff_ne.mpr c16
          have c16b1 : (((rd_T71 l0 x5_1).f0) != ((rd_T71 l1 x5_1).f0)) = true := bne_iff_ne.mpr c16
          (first | rw [c16b0] | (simp only [i64_w, i32_w]; rw [c16b0]) | skip)
          have H' := Aside0.mk H
          clear H
          have hnb36 := NB113_115.out
          have hnc36 := NB115_113.out
          obtain ⟨hcz37_0, hcz37_1, hcz37_2, hcz37_3, hcz37_4, hcz37_5, hcz37_6, hcz37_7, hcz37_8⟩ := cells9_ BK113.out
          obtain ⟨hfz37_0, hfz37_1, hfz37_2, hfz37_3, hfz37_4, hfz37_5, hfz37_6, hfz37_7, hfz37_8⟩ := frz9_ BK113.out
          obtain ⟨hcz38_0, hcz38_1, hcz38_2, hcz38_3, hcz38_4, hcz38_5, hcz38_6, hcz38_7, hcz38_8⟩ := cells9_ BK115.out
          obtain ⟨hfz38_0, hfz38_1, hfz38_2, hfz38_3, hfz38_4, hfz38_5, hfz38_6, hfz38_7, hfz38_8⟩ := frz9_ BK115.out
          go_wp2
          go_meet
          case rel => exact ⟨_, (true), (by first | rfl | (simp; done) | (simp [*]; done) | (simp [isEmpty_ne_]; done)), H', ⟨by have := HK1.out; first | omega | exact Nat.le_refl _⟩, ⟨by (with_reducible repeat (first | refine blk_drewN ?_ _ | refine blk_drew ?_ | refine blk_alloc ?_ _)); refine blk_far ?_ NB113_115.out _; (with_reducible repeat (first | refine blk_drewN ?_ _ | refine blk_drew ?_ | refine blk_alloc ?_ _)); refine blk_far ?_ NB113_115.out _; (with_reducible repeat (first | refine blk_drewN ?_ _ | refine blk_drew ?_ | refine blk_alloc ?_ _)); refine blk_far ?_ NB113_115.out _; (with_reducible repeat (first | refine blk_drewN ?_ _ | refine blk_drew ?_ | refine blk_alloc ?_ _)); refine blk_far ?_ NB113_115.out _; (with_reducible repeat (first | refine blk_drewN ?_ _ | refine blk_drew ?_ | refine blk_alloc ?_ _)); refine blk_far ?_ NB113_115.out _; (with_reducible repeat (first | refine blk_drewN ?_ _ | refine blk_drew ?_ | refine blk_alloc ?_ _)); refine blk_far ?_ NB113_115.out _; (with_reducible repeat (first | refine blk_drewN ?_ _ | refine blk_drew ?_ | refine blk_alloc ?_ _)); refine blk_far ?_ NB113_115.out _; (with_reducible repeat (first | refine blk_drewN ?_ _ | refine blk_drew ?_ | refine blk_alloc ?_ _)); refine blk_far ?_ NB113_115.out _; (with_reducible repeat (first | refine blk_drewN ?_ _ | refine blk_drew ?_ | refine blk_alloc ?_ _)); refine blk_far ?_ NB113_115.out _; (with_reducible repeat (first | refine blk_drewN ?_ _ | refine blk_drew ?_ | refine blk_alloc ?_ _)); exact BK113.out⟩, ⟨by (with_reducible repeat (first | refine blk_drewN ?_ _ | refine blk_drew ?_ | refine blk_alloc ?_ _)); exact put9_ (by (with_reducible repeat (first | refine blk_drewN ?_ _ | refine blk_drew ?_ | refine blk_alloc ?_ _)); exact BK115.out)⟩, ⟨by repeat (first | (with_reducible first | exact HB.out | apply below_alloc | apply pw_below_drewN | apply below_drew1 | refine below_set ?_ GE113.out | refine below_set ?_ GE115.out) | exact HB.out)⟩⟩
        ·replace c15 := Bool.eq_false_iff.mpr c15
         subst c15
         have H1 : (rosterref13_sameFilter.j1 k1 l0 l1 x5_1 true ((rd_T71 l0 x5_1).f0) ((rd_T71 l0 x5_1).f1) ((rd_T71 l0 x5_1).f2) ((rd_T71 l0 x5_1).f3) ((rd_T71 l0 x5_1).f4.f0) ((rd_T71 l0 x5_1).f4.f1) ((rd_T71 l0 x5_1).f4.f2) ((rd_T71 l0 x5_1).f5) ((rd_T71 l0 x5_1).f6) ((rd_T71 l1 x5_1).f0) ((rd_T71 l1 x5_1).f1) ((rd_T71 l1 x5_1).f2) ((rd_T71 l1 x5_1).f3) ((rd_T71 l1 x5_1).f4.f0) ((rd_T71 l1 x5_1).f4.f1) ((rd_T71 l1 x5_1).f4.f2) ((rd_T71 l1 x5_1).f5) ((rd_T71 l1 x5_1).f6)) = some r := by rw [if_neg (show ¬ (false = true) by decide)] at H; exact H
         clear H
         have H := H1
         clear H1
         have H' := Aside0.mk H
         clear H
         go_wp2
         go_meet
         case rel => exact ⟨_, (true), (by first | rfl | (simp; done) | (simp [*]; done) | (simp [isEmpty_ne_]; done)), H', ⟨by have := HK1.out; first | omega | exact Nat.le_refl _⟩, ⟨by (with_reducible repeat (first | refine blk_drewN ?_ _ | refine blk_drew ?_ | refine blk_alloc ?_ _)); refine blk_far ?_ NB113_115.out _; (with_reducible repeat (first | refine blk_drewN ?_ _ | refine blk_drew ?_ | refine blk_alloc ?_ _)); refine blk_far ?_ NB113_115.out _; (with_reducible repeat (first | refine blk_drewN ?_ _ | refine blk_drew ?_ | refine blk_alloc ?_ _)); refine blk_far ?_ NB113_115.out _; (with_reducible repeat (first | refine blk_drewN ?_ _ | refine blk_drew ?_ | refine blk_alloc ?_ _)); refine blk_far ?_ NB113_115.out _; (with_reducible repeat (first | refine blk_drewN ?_ _ | refine blk_drew ?_ | refine blk_alloc ?_ _)); refine blk_far ?_ NB113_115.out _; (with_reducible repeat (first | refine blk_drewN ?_ _ | refine blk_drew ?_ | refine blk_alloc ?_ _)); refine blk_far ?_ NB113_115.out _; (with_reducible repeat (first | refine blk_drewN ?_ _ | refine blk_drew ?_ | refine blk_alloc ?_ _)); refine blk_far ?_ NB113_115.out _; (with_reducible repeat (first | refine blk_drewN ?_ _ | refine blk_drew ?_ | refine blk_alloc ?_ _)); refine blk_far ?_ NB113_115.out _; (with_reducible repeat (first | refine blk_drewN ?_ _ | refine blk_drew ?_ | refine blk_alloc ?_ _)); refine blk_far ?_ NB113_115.out _; (with_reducible repeat (first | refine blk_drewN ?_ _ | refine blk_drew ?_ | refine blk_alloc ?_ _)); exact BK113.out⟩, ⟨by (with_reducible repeat (first | refine blk_drewN ?_ _ | refine blk_drew ?_ | refine blk_alloc ?_ _)); exact put9_ (by (with_reducible repeat (first | refine blk_drewN ?_ _ | refine blk_drew ?_ | refine blk_alloc ?_ _)); exact BK115.out)⟩, ⟨by repeat (first | (with_reducible first | exact HB.out | apply below_alloc | apply pw_below_drewN | apply below_drew1 | refine below_set ?_ GE113.out | refine below_set ?_ GE115.out) | exact HB.out)⟩⟩
       case rest =>
        clear HC8
        try clear c1
        try clear p1
        try clear q1
        try clear hx1
        try clear c2
        try clear p2
        try clear c3
        try clear c3b0
        try clear c3b1
        try clear c3b2
        try clear c4
        try clear c4b0
        try clear c5
        try clear c5b0
        try clear c6
        try clear c6b0
        try clear c11
        try clear p11
        try clear q11
        try clear hx11
        try clear c12
        try clear c15
        try clear c16
        try clear c16b0
        try clear c16b1
        try clear c17
        try clear c17b0
        try clear c17b1
        try clear c18
        try clear c18b0
        try clear c18b1
        try clear c19
        try clear c19b0
        try clear c19b1
        try clear c20
        try clear c20b0
        try clear c20b1
        try clear c21
        try clear c24
        try clear c27
        try clear c30
        try clear c33
        try clear c36
        try clear hcz10_0 hcz10_1 hcz10_2 hcz10_3 hcz10_4 hcz10_5 hcz10_6 hcz10_7 hcz10_8
        try clear hcz13_0 hcz13_1 hcz13_2 hcz13_3 hcz13_4 hcz13_5 hcz13_6 hcz13_7 hcz13_8
        try clear hcz14_0 hcz14_1 hcz14_2 hcz14_3 hcz14_4 hcz14_5 hcz14_6 hcz14_7 hcz14_8
        try clear hcz22_0 hcz22_1 hcz22_2 hcz22_3 hcz22_4 hcz22_5 hcz22_6 hcz22_7 hcz22_8
        try clear hcz23_0 hcz23_1 hcz23_2 hcz23_3 hcz23_4 hcz23_5 hcz23_6 hcz23_7 hcz23_8
        try clear hcz25_0 hcz25_1 hcz25_2 hcz25_3 hcz25_4 hcz25_5 hcz25_6 hcz25_7 hcz25_8
        try clear hcz26_0 hcz26_1 hcz26_2 hcz26_3 hcz26_4 hcz26_5 hcz26_6 hcz26_7 hcz26_8
        try clear hcz28_0 hcz28_1 hcz28_2 hcz28_3 hcz28_4 hcz28_5 hcz28_6 hcz28_7 hcz28_8
        try clear hcz29_0 hcz29_1 hcz29_2 hcz29_3 hcz29_4 hcz29_5 hcz29_6 hcz29_7 hcz29_8
        try clear hcz31_0 hcz31_1 hcz31_2 hcz31_3 hcz31_4 hcz31_5 hcz31_6 hcz31_7 hcz31_8
        try clear hcz32_0 hcz32_1 hcz32_2 hcz32_3 hcz32_4 hcz32_5 hcz32_6 hcz32_7 hcz32_8
        try clear hcz34_0 hcz34_1 hcz34_2 hcz34_3 hcz34_4 hcz34_5 hcz34_6 hcz34_7 hcz34_8
        try clear hcz35_0 hcz35_1 hcz35_2 hcz35_3 hcz35_4 hcz35_5 hcz35_6 hcz35_7 hcz35_8
        try clear hcz37_0 hcz37_1 hcz37_2 hcz37_3 hcz37_4 hcz37_5 hcz37_6 hcz37_7 hcz37_8
        try clear hcz38_0 hcz38_1 hcz38_2 hcz38_3 hcz38_4 hcz38_5 hcz38_6 hcz38_7 hcz38_8
        try clear hfz10_0 hfz10_1 hfz10_2 hfz10_3 hfz10_4 hfz10_5 hfz10_6 hfz10_7 hfz10_8
        try clear hfz13_0 hfz13_1 hfz13_2 hfz13_3 hfz13_4 hfz13_5 hfz13_6 hfz13_7 hfz13_8
        try clear hfz14_0 hfz14_1 hfz14_2 hfz14_3 hfz14_4 hfz14_5 hfz14_6 hfz14_7 hfz14_8
        try clear hfz22_0 hfz22_1 hfz22_2 hfz22_3 hfz22_4 hfz22_5 hfz22_6 hfz22_7 hfz22_8
        try clear hfz23_0 hfz23_1 hfz23_2 hfz23_3 hfz23_4 hfz23_5 hfz23_6 hfz23_7 hfz23_8
        try clear hfz25_0 hfz25_1 hfz25_2 hfz25_3 hfz25_4 hfz25_5 hfz25_6 hfz25_7 hfz25_8
        try clear hfz26_0 hfz26_1 hfz26_2 hfz26_3 hfz26_4 hfz26_5 hfz26_6 hfz26_7 hfz26_8
        try clear hfz28_0 hfz28_1 hfz28_2 hfz28_3 hfz28_4 hfz28_5 hfz28_6 hfz28_7 hfz28_8
        try clear hfz29_0 hfz29_1 hfz29_2 hfz29_3 hfz29_4 hfz29_5 hfz29_6 hfz29_7 hfz29_8
        try clear hfz31_0 hfz31_1 hfz31_2 hfz31_3 hfz31_4 hfz31_5 hfz31_6 hfz31_7 hfz31_8
        try clear hfz32_0 hfz32_1 hfz32_2 hfz32_3 hfz32_4 hfz32_5 hfz32_6 hfz32_7 hfz32_8
        try clear hfz34_0 hfz34_1 hfz34_2 hfz34_3 hfz34_4 hfz34_5 hfz34_6 hfz34_7 hfz34_8
        try clear hfz35_0 hfz35_1 hfz35_2 hfz35_3 hfz35_4 hfz35_5 hfz35_6 hfz35_7 hfz35_8
        try clear hfz37_0 hfz37_1 hfz37_2 hfz37_3 hfz37_4 hfz37_5 hfz37_6 hfz37_7 hfz37_8
        try clear hfz38_0 hfz38_1 hfz38_2 hfz38_3 hfz38_4 hfz38_5 hfz38_6 hfz38_7 hfz38_8
        try clear hx112_0
        try clear hx112_1
        try clear hx112_2
        try clear hx112_3
        try clear hx112_4
        try clear hx112_5
        try clear hx112_6
        try clear hx112_7
        try clear hx112_8
        try clear hx114_0
        try clear hx114_1
        try clear hx114_2
        try clear hx114_3
        try clear hx114_4
        try clear hx114_5
        try clear hx114_6
        try clear hx114_7
        try clear hx114_8
        try clear p112
        try clear p114
        try clear p2
        try clear q112
        try clear q114
        obtain ⟨kq, x78_7, rfl, HA, HJ7, BK113, BK115, HB⟩ := hcut
        cases kq with
        | zero => exact absurd HA.out (by simp [rosterref13_sameFilter.j1])
        | succ kj7 =>
         have H := HA.out
         clear HA
         simp only [rosterref13_sameFilter.j1] at H
         by_cases c39 : x78_7 = true
         ·subst c39
          have H1 : (some false) = some r := by rw [if_pos rfl] at H; exact H
          clear H
          have H := H1
          clear H1
          obtain rfl := Option.some.inj H
          go_wp2
          go_ret
          exact ⟨by first | rfl | (simp [isEmpty_ne_]; done) | (simp [*, errW_none, errW_some] <;> rfl), by repeat (first | (with_reducible first | exact HB.out | apply below_alloc | apply pw_below_drewN | apply below_drew1 | refine below_set ?_ GE113.out | refine below_set ?_ GE115.out) | exact HB.out)⟩
         ·replace c39 := Bool.eq_false_iff.mpr c39
          subst c39
          have H1 : (if ((rd_T71 l0 x5_1).f4.f0).toList = ((rd_T71 l1 x5_1).f4.f0).toList then (if ((rd_T71 l0 x5_1).f4.f2).toList = ((rd_T71 l1 x5_1).f4.f2).toList then (rosterref13_sameFilter.l0 kj7 l0 l1 (wrap64 (x5_1 + 1))) else (some false)) else (some false)) = some r := by rw [if_neg (show ¬ (false = true) by decide)] at H; exact H
          clear H
          have H := H1
          clear H1
          by_cases c40 : ((rd_T71 l0 x5_1).f4.f0).toList = ((rd_T71 l1 x5_1).f4.f0).toList
          ·rw [if_pos c40] at H
           have c40b0 : (((rd_T71 l0 x5_1).f4.f0).toList == ((rd_T71 l1 x5_1).f4.f0).toList) = true := beq_iff_eq.mpr c40
           have c40b1 : (((rd_T71 l0 x5_1).f4.f0).toList != ((rd_T71 l1 x5_1).f4.f0).toList) = false := bne_eq_false_iff_eq.mpr c40
           clear c40
           by_cases c41 : ((rd_T71 l0 x5_1).f4.f2).toList = ((rd_T71 l1 x5_1).f4.f2).toList
           ·rw [if_pos c41] at H
            have c41b0 : (((rd_T71 l0 x5_1).f4.f2).toList == ((rd_T71 l1 x5_1).f4.f2).toList) = true := beq_iff_eq.mpr c41
            have c41b1 : (((rd_T71 l0 x5_1).f4.f2).toList != ((rd_T71 l1 x5_1).f4.f2).toList) = false := bne_eq_false_iff_eq.mpr c41
            clear c41
            have H' := Aside0.mk H
            clear H
            have hnb42 := NB113_115.out
            have hnc42 := NB115_113.out
            obtain ⟨hcz43_0, hcz43_1, hcz43_2, hcz43_3, hcz43_4, hcz43_5, hcz43_6, hcz43_7, hcz43_8⟩ := cells9_ BK113.out
            obtain ⟨hfz43_0, hfz43_1, hfz43_2, hfz43_3, hfz43_4, hfz43_5, hfz43_6, hfz43_7, hfz43_8⟩ := frz9_ BK113.out
            obtain ⟨hcz44_0, hcz44_1, hcz44_2, hcz44_3, hcz44_4, hcz44_5, hcz44_6, hcz44_7, hcz44_8⟩ := cells9_ BK115.out
            obtain ⟨hfz44_0, hfz44_1, hfz44_2, hfz44_3, hfz44_4, hfz44_5, hfz44_6, hfz44_7, hfz44_8⟩ := frz9_ BK115.out
            go_wp2
            go_roundg kj7
            case measure => have := HK1.out; have := HJ7.out; omega
            case rel => exact ⟨(wrap64 (x5_1 + 1)), (by first | rfl | (simp; done) | (simp [*]; done) | (simp [isEmpty_ne_]; done)), H', ⟨by have := HK1.out; have := HJ7.out; omega⟩, ⟨by repeat (first | (with_reducible first | exact HB.out | apply below_alloc | apply pw_below_drewN | apply below_drew1 | refine below_set ?_ GE113.out | refine below_set ?_ GE115.out) | exact HB.out)⟩⟩
           ·rw [if_neg c41] at H
            have c41b0 : (((rd_T71 l0 x5_1).f4.f2).toList == ((rd_T71 l1 x5_1).f4.f2).toList) = false := beq_eq_false_iff_ne.mpr c41
            have c41b1 : (((rd_T71 l0 x5_1).f4.f2).toList != ((rd_T71 l1 x5_1).f4.f2).toList) = true := bne_iff_ne.mpr c41
            obtain rfl := Option.some.inj H
            have hnb45 := NB113_115.out
            have hnc45 := NB115_113.out
            obtain ⟨hcz46_0, hcz46_1, hcz46_2, hcz46_3, hcz46_4, hcz46_5, hcz46_6, hcz46_7, hcz46_8⟩ := cells9_ BK113.out
            obtain ⟨hfz46_0, hfz46_1, hfz46_2, hfz46_3, hfz46_4, hfz46_5, hfz46_6, hfz46_7, hfz46_8⟩ := frz9_ BK113.out
            obtain ⟨hcz47_0, hcz47_1, hcz47_2, hcz47_3, hcz47_4, hcz47_5, hcz47_6, hcz47_7, hcz47_8⟩ := cells9_ BK115.out
            obtain ⟨hfz47_0, hfz47_1, hfz47_2, hfz47_3, hfz47_4, hfz47_5, hfz47_6, hfz47_7, hfz47_8⟩ := frz9_ BK115.out
            go_wp2
            go_ret
            exact ⟨by first | rfl | (simp [isEmpty_ne_]; done) | (simp [*, errW_none, errW_some] <;> rfl), by repeat (first | (with_reducible first | exact HB.out | apply below_alloc | apply pw_below_drewN | apply below_drew1 | refine below_set ?_ GE113.out | refine below_set ?_ GE115.out) | exact HB.out)⟩
          ·rw [if_neg c40] at H
           have c40b0 : (((rd_T71 l0 x5_1).f4.f0).toList == ((rd_T71 l1 x5_1).f4.f0).toList) = false := beq_eq_false_iff_ne.mpr c40
           have c40b1 : (((rd_T71 l0 x5_1).f4.f0).toList != ((rd_T71 l1 x5_1).f4.f0).toList) = true := bne_iff_ne.mpr c40
           obtain rfl := Option.some.inj H
           have hnb48 := NB113_115.out
           have hnc48 := NB115_113.out
           obtain ⟨hcz49_0, hcz49_1, hcz49_2, hcz49_3, hcz49_4, hcz49_5, hcz49_6, hcz49_7, hcz49_8⟩ := cells9_ BK113.out
           obtain ⟨hfz49_0, hfz49_1, hfz49_2, hfz49_3, hfz49_4, hfz49_5, hfz49_6, hfz49_7, hfz49_8⟩ := frz9_ BK113.out
           obtain ⟨hcz50_0, hcz50_1, hcz50_2, hcz50_3, hcz50_4, hcz50_5, hcz50_6, hcz50_7, hcz50_8⟩ := cells9_ BK115.out
           obtain ⟨hfz50_0, hfz50_1, hfz50_2, hfz50_3, hfz50_4, hfz50_5, hfz50_6, hfz50_7, hfz50_8⟩ := frz9_ BK115.out
           go_wp2
           go_ret
           exact ⟨by first | rfl | (simp [isEmpty_ne_]; done) | (simp [*, errW_none, errW_some] <;> rfl), by repeat (first | (with_reducible first | exact HB.out | apply below_alloc | apply pw_below_drewN | apply below_drew1 | refine below_set ?_ GE113.out | refine below_set ?_ GE115.out) | exact HB.out)⟩
      ·rw [if_neg c6] at H
       exact absurd H (by simp)
     ·rw [if_neg c5] at H
      exact absurd H (by simp)
    ·rw [if_neg c4] at H
     have c4b0 : decide (x5_1 < (l0.length : Int)) = false := decide_eq_false c4
     clear c4
     obtain rfl := Option.some.inj H
     go_wp2
     go_ret
     exact ⟨by first | rfl | (simp [isEmpty_ne_]; done) | (simp [*, errW_none, errW_some] <;> rfl), by repeat (first | (with_reducible first | exact HB.out | apply below_alloc | apply pw_below_drewN | apply below_drew1) | exact HB.out)⟩
 ·rw [if_neg c3] at H
  have c3b0 : ((l0.length : Int) == (l1.length : Int)) = false := beq_eq_false_iff_ne.mpr c3
  have c3b1 : ((l0.length : Int) != (l1.length : Int)) = true := bne_iff_ne.mpr c3
  have c3b2 : (l0.length == l1.length) = false := by first | simpa using c3 | (simp at c3 ⊢; omega)
  obtain rfl := Option.some.inj H
  go_enter Tryd.func27, Tryd.ntmps27
  go_wp2
  go_ret
  exact ⟨by first | rfl | (simp [isEmpty_ne_]; done) | (simp [*, errW_none, errW_some] <;> rfl), by repeat (first | (with_reducible first | exact HB.out | apply below_alloc | apply pw_below_drewN | apply below_drew1) | exact HB.out)⟩

end Go.Proofs.YtbpediccbeoifaaDoor.GN
