-- Written for this claim by a program of this session (wip/tools/p2.py).
import Derived.Test.YtaimjacpenofpaaDoorGCx0
import Derived.Test.YtaimjacpenofpaaDoorGCx1
import Derived.Test.YtaimjacpenofpaaDoorGCx2
import Derived.Test.YtaimjacpenofpaaDoorGCx3
namespace Go.Proofs.YtaimjacpenofpaaDoor.GC
open Go.RowKit Go.Proofs.YtaimjacpenofpaaDoorW.PrintWords Go.Proofs.YtaimjacpenofpaaDoorW.PrintLast Go.Proofs.YtaimjacpenofpaaDoorW.PrintMore
attribute [local go_sem] max2_int min2_int max_two min_two max_three min_three max_four min_four   -- for this text's walks alone
set_option linter.unusedVariables false
set_option linter.unusedSimpArgs false

/-! ### rosterref12_Check: function 12 -/
mutual
def rosterref12_Check.l0 : Nat → List (S38) → Int → Option (Int × Int)
 | 0, _, _ => none
 | k + 1, x0, x4 => if x4 < (x0.length : Int) then ((rosterref12_follows.f x0 x4).bind fun t153 => (if t153 = true then (if 0 ≤ x4 then (if ((rd_T38 x0 x4).f0) > 64 then (some (121, x4)) else ((rosterref12_fields.f k ((rd_T38 x0 x4).f0) ((rd_T38 x0 x4).f1) ((rd_T38 x0 x4).f2) ((rd_T38 x0 x4).f3) ((rd_T38 x0 x4).f4.f0) ((rd_T38 x0 x4).f4.f1) ((rd_T38 x0 x4).f4.f2) ((rd_T38 x0 x4).f5) ((rd_T38 x0 x4).f6)).bind fun t156 => (if t156 = true then ((rosterref12_second.f k x0 x4).bind fun t157 => (rosterref12_Check.j1 k x0 x4 t157)) else (rosterref12_Check.j1 k x0 x4 true)))) else (none)) else (some (120, x4)))) else (some (0, 0))
def rosterref12_Check.j1 : Nat → List (S38) → Int → Bool → Option (Int × Int)
 | 0, _, _, _ => none
 | k + 1, x0, x4, x36 => if x36 = true then (some (120, x4)) else (if 0 ≤ x4 then (if x4 < (x0.length : Int) then (if ((rd_T38 x0 x4).f1) = 2 then (if (wrap64 (x4 + 1)) ≥ (x0.length : Int) then (some (120, x4)) else (if 0 ≤ (wrap64 (x4 + 1)) then (if (wrap64 (x4 + 1)) < (x0.length : Int) then (if ((rd_T38 x0 (wrap64 (x4 + 1))).f0) = (wrap64 (((rd_T38 x0 x4).f0) + 1)) then (rosterref12_Check.l0 k x0 (wrap64 (x4 + 1))) else (some (120, x4))) else (none)) else (none))) else (rosterref12_Check.l0 k x0 (wrap64 (x4 + 1)))) else (none)) else (none))
end
def rosterref12_Check.f (k : Nat) (l0 : List (S38)) : Option (Int × Int) := if (l0.length : Int) = 0 then (some (120, 0)) else (rosterref12_Check.l0 k l0 0)
theorem rosterref12_Check.mono_l : ∀ k, (∀ y0 y1, LeO (rosterref12_Check.l0 k y0 y1) (rosterref12_Check.l0 (k + 1) y0 y1)) ∧ (∀ y0 y1 y2, LeO (rosterref12_Check.j1 k y0 y1 y2) (rosterref12_Check.j1 (k + 1) y0 y1 y2))
 | 0 => ⟨fun _ _ r h => by simp [rosterref12_Check.l0] at h, fun _ _ _ r h => by simp [rosterref12_Check.j1] at h⟩
 | k + 1 => by
  obtain ⟨ih0, ih1⟩ := rosterref12_Check.mono_l k
  refine ⟨?_, ?_⟩
  ·intro y0 y1
   unfold rosterref12_Check.l0
   repeat' first
   | (with_reducible exact ih0 _ _)
   | (with_reducible exact ih1 _ _ _)
   | (with_reducible exact rosterref12_fields.mono _ _ _ _ _ _ _ _ _ _)
   | (with_reducible exact rosterref12_second.mono _ _ _)
   | (with_reducible exact LeO.refl _)
   | (with_reducible exact LeO.none _)
   | (with_reducible refine LeO.ite ?_ ?_)
   | (with_reducible refine LeO.bind ?_ (fun _ => ?_))
   | exact ih0 _ _
   | exact ih1 _ _ _
   | exact rosterref12_fields.mono _ _ _ _ _ _ _ _ _ _
   | exact rosterref12_second.mono _ _ _
   | exact LeO.none _
   | refine LeO.ite ?_ ?_
   | refine LeO.bind ?_ (fun _ => ?_)
  ·intro y0 y1 y2
   unfold rosterref12_Check.j1
   repeat' first
   | (with_reducible exact ih0 _ _)
   | (with_reducible exact ih1 _ _ _)
   | (with_reducible exact rosterref12_fields.mono _ _ _ _ _ _ _ _ _ _)
   | (with_reducible exact rosterref12_second.mono _ _ _)
   | (with_reducible exact LeO.refl _)
   | (with_reducible exact LeO.none _)
   | (with_reducible refine LeO.ite ?_ ?_)
   | (with_reducible refine LeO.bind ?_ (fun _ => ?_))
   | exact ih0 _ _
   | exact ih1 _ _ _
   | exact rosterref12_fields.mono _ _ _ _ _ _ _ _ _ _
   | exact rosterref12_second.mono _ _ _
   | exact LeO.none _
   | refine LeO.ite ?_ ?_
   | refine LeO.bind ?_ (fun _ => ?_)
theorem rosterref12_Check.mono : ∀ a0 k, LeO (rosterref12_Check.f k a0) (rosterref12_Check.f (k + 1) a0) := by
 intro a0 k
 obtain ⟨ih0, ih1⟩ := rosterref12_Check.mono_l k
 unfold rosterref12_Check.f
 repeat' first
   | (with_reducible exact ih0 _ _)
   | (with_reducible exact ih1 _ _ _)
   | (with_reducible exact rosterref12_fields.mono _ _ _ _ _ _ _ _ _ _)
   | (with_reducible exact rosterref12_second.mono _ _ _)
   | (with_reducible exact LeO.refl _)
   | (with_reducible exact LeO.none _)
   | (with_reducible refine LeO.ite ?_ ?_)
   | (with_reducible refine LeO.bind ?_ (fun _ => ?_))
   | exact ih0 _ _
   | exact ih1 _ _ _
   | exact rosterref12_fields.mono _ _ _ _ _ _ _ _ _ _
   | exact rosterref12_second.mono _ _ _
   | exact LeO.none _
   | refine LeO.ite ?_ ?_
   | refine LeO.bind ?_ (fun _ => ?_)
set_option maxHeartbeats 8000000 in
set_option maxRecDepth 100000 in
theorem rosterref12_Check.calls (k : Nat) (A0 : Option Addr) (c0 : Nat) (l0 : List (S38)) (r1 : Int) (r2 : Int) (w : World) (hr0 : Kd.C k38 w A0 l0.length l0) (hc0 : l0.length ≤ c0) (h : rosterref12_Check.f k l0 = some (r1, r2)) (hT : W.TabW w) :
  Calls Tryd.prog 12 #[.slice A0 l0.length c0] w fun e w' => e = .returned (.tuple #[.int .i64 r1, .int .i64 r2]) ∧ Below w.heap.size w w' := by
 have HTB := Aside0.mk hT
 clear hT
 have hu38 := Tryd.underlying38
 have HR0 := Aside0.mk hr0
 have HC0 := Aside0.mk hc0
 clear hr0 hc0
 have HB := Aside0.mk (Below.refl w.heap.size w)
 have H : (if (l0.length : Int) = 0 then (some (120, 0)) else (rosterref12_Check.l0 k l0 0)) = some (r1, r2) := h
 clear h
 by_cases c2 : (l0.length : Int) = 0
 ·rw [if_pos c2] at H
  have c2b0 : ((l0.length : Int) == 0) = true := beq_iff_eq.mpr c2
  have c2b1 : ((l0.length : Int) != 0) = false := bne_eq_false_iff_eq.mpr c2
  clear c2
  simp only [Option.some.injEq, Prod.mk.injEq] at H
  obtain ⟨rfl, rfl⟩ := H
  go_enter Tryd.func12, Tryd.ntmps12
  go_wp2
  repeat (go_quiet (fail); try go_wp2)
  go_ret2
  exact ⟨by first | rfl | (simp [isEmpty_ne_]; done) | (simp [*, errW_none, errW_some] <;> rfl), by repeat (first | (with_reducible first | exact HB.out | apply below_alloc | apply pw_below_drewN | apply below_drew1) | exact HB.out)⟩
 ·rw [if_neg c2] at H
  have c2b0 : ((l0.length : Int) == 0) = false := beq_eq_false_iff_ne.mpr c2
  have c2b1 : ((l0.length : Int) != 0) = true := bne_iff_ne.mpr c2
  have c2b2 : ¬ (l0 = []) := fun h_ => c2 (by rw [h_]; rfl)
  have H' := Aside0.mk H
  clear H
  go_enter Tryd.func12, Tryd.ntmps12
  go_wp2
  repeat (go_quiet (fail); try go_wp2)
  go_loopg [4] k (fun kq v4 w' => ∃ (x4_1 : Int), v4 = .int .i64 x4_1 ∧ Aside0 (rosterref12_Check.l0 kq l0 x4_1 = some (r1, r2)) ∧ Aside0 (kq ≤ k) ∧ Aside0 (Below w.heap.size w w'))
  case atStart => exact ⟨(0), (by first | rfl | (simp; done) | (simp [*]; done) | (simp [isEmpty_ne_]; done)), H', ⟨Nat.le_refl _⟩, ⟨by repeat (first | (with_reducible first | exact HB.out | apply below_alloc | apply pw_below_drewN | apply below_drew1) | exact HB.out)⟩⟩
  case round =>
   clear H'
   try clear c1
   try clear c2
   try clear c2b0
   try clear c2b1
   try clear c2b2
   try clear p2
   obtain ⟨x4_1, rfl, HA, HK1, HB⟩ := hrel
   cases gk with
   | zero => exact absurd HA.out (by simp [rosterref12_Check.l0])
   | succ k1 =>
    have H := HA.out
    clear HA
    simp only [rosterref12_Check.l0] at H
    by_cases c3 : x4_1 < (l0.length : Int)
    ·rw [if_pos c3] at H
     have c3b0 : decide (x4_1 < (l0.length : Int)) = true := decide_eq_true c3
     clear c3
     replace H := Option.bind_eq_some_iff.mp H
     obtain ⟨t153, A40, H⟩ := H
     replace H : (if t153 = true then (if 0 ≤ x4_1 then (if ((rd_T38 l0 x4_1).f0) > 64 then (some (121, x4_1)) else ((rosterref12_fields.f k1 ((rd_T38 l0 x4_1).f0) ((rd_T38 l0 x4_1).f1) ((rd_T38 l0 x4_1).f2) ((rd_T38 l0 x4_1).f3) ((rd_T38 l0 x4_1).f4.f0) ((rd_T38 l0 x4_1).f4.f1) ((rd_T38 l0 x4_1).f4.f2) ((rd_T38 l0 x4_1).f5) ((rd_T38 l0 x4_1).f6)).bind fun t156 => (if t156 = true then ((rosterref12_second.f k1 l0 x4_1).bind fun t157 => (rosterref12_Check.j1 k1 l0 x4_1 t157)) else (rosterref12_Check.j1 k1 l0 x4_1 true)))) else (none)) else (some (120, x4_1))) = some (r1, r2) := H
     have A4 := Aside0.mk A40
     clear A40
     by_cases c5 : t153 = true
     ·subst c5
      have H1 : (if 0 ≤ x4_1 then (if ((rd_T38 l0 x4_1).f0) > 64 then (some (121, x4_1)) else ((rosterref12_fields.f k1 ((rd_T38 l0 x4_1).f0) ((rd_T38 l0 x4_1).f1) ((rd_T38 l0 x4_1).f2) ((rd_T38 l0 x4_1).f3) ((rd_T38 l0 x4_1).f4.f0) ((rd_T38 l0 x4_1).f4.f1) ((rd_T38 l0 x4_1).f4.f2) ((rd_T38 l0 x4_1).f5) ((rd_T38 l0 x4_1).f6)).bind fun t156 => (if t156 = true then ((rosterref12_second.f k1 l0 x4_1).bind fun t157 => (rosterref12_Check.j1 k1 l0 x4_1 t157)) else (rosterref12_Check.j1 k1 l0 x4_1 true)))) else (none)) = some (r1, r2) := by rw [if_pos rfl] at H; exact H
      clear H
      have H := H1
      clear H1
      by_cases c6 : 0 ≤ x4_1
      ·rw [if_pos c6] at H
       have c6b0 : decide (0 ≤ x4_1) = true := decide_eq_true c6
       clear c6
       by_cases c7 : ((rd_T38 l0 x4_1).f0) > 64
       ·rw [if_pos c7] at H
        have c7b0 : decide (64 < ((rd_T38 l0 x4_1).f0)) = true := decide_eq_true c7
        clear c7
        simp only [Option.some.injEq, Prod.mk.injEq] at H
        obtain ⟨rfl, rfl⟩ := H
        iterate 9 (try (first | go_quiet (fail) | go_wp2_with (first | (go_at_call 20; (with_reducible refine (rosterref12_follows.calls _ _ l0 x4_1 true _ ?side1 ?side2 A4.out).mono ?_); (case side1 => repeat (first | exact (Kd.C_below HR0.out HB.out) | exact (Kd.C_below (Aside0.out (by assumption)) HB.out) | (with_reducible refine Kd.C_alloc ?_ _) | (with_reducible refine Kd.C_drewN ?_ _) | (with_reducible refine Kd.C_drew ?_))); (case side2 => exact HC0.out); rintro e w8 ⟨rfl, hb⟩; have n0_ := Aside0.mk (below_step (by repeat (first | (with_reducible first | exact HB.out | apply below_alloc | apply pw_below_drewN | apply below_drew1) | exact HB.out)) hb); clear HB; have HB := n0_; clear n0_; (try clear hb); (try clear hb2); (try clear hk); (try clear hi); have p154 : 0 ≤ (x4_1 : Int) := of_decide_eq_true (by first | (with_reducible assumption) | assumption); have q154 : x4_1 < (l0.length : Int) := of_decide_eq_true (by first | (with_reducible assumption) | assumption); obtain ⟨ad154, A154_5, c154_5, e154, hx154_0, hx154_1, hx154_2, hx154_3, hx154_4, hx154_5, hx154_6, hx154_7, hx154_8, hl154_5, hi154_5⟩ := at_T38 HR0.out x4_1 p154 q154; cases e154; replace hx154_0 := cellB_ HB.out hx154_0; replace hx154_1 := cellB_ HB.out hx154_1; replace hx154_2 := cellB_ HB.out hx154_2; replace hx154_3 := cellB_ HB.out hx154_3; replace hx154_4 := cellB_ HB.out hx154_4; replace hx154_5 := cellB_ HB.out hx154_5; replace hx154_6 := cellB_ HB.out hx154_6; replace hx154_7 := cellB_ HB.out hx154_7; replace hx154_8 := cellB_ HB.out hx154_8; have HR154_5 := Aside0.mk hi154_5; have HC154_5 := Aside0.mk hl154_5; clear hi154_5 hl154_5; replace p154 := eq_true p154; replace q154 := eq_true q154))))
        go_ret2
        exact ⟨by first | rfl | (simp [isEmpty_ne_]; done) | (simp [*, errW_none, errW_some] <;> rfl), by repeat (first | (with_reducible first | exact HB.out | apply below_alloc | apply pw_below_drewN | apply below_drew1) | exact HB.out)⟩
       ·rw [if_neg c7] at H
        have c7b0 : decide (64 < ((rd_T38 l0 x4_1).f0)) = false := decide_eq_false c7
        clear c7
        have HC9 := Aside0.mk H
        clear H
        go_upto_region 10 with (first | (go_at_call 20; (with_reducible refine (rosterref12_follows.calls _ _ l0 x4_1 true _ ?side1 ?side2 A4.out).mono ?_); (case side1 => repeat (first | exact (Kd.C_below HR0.out HB.out) | exact (Kd.C_below (Aside0.out (by assumption)) HB.out) | (with_reducible refine Kd.C_alloc ?_ _) | (with_reducible refine Kd.C_drewN ?_ _) | (with_reducible refine Kd.C_drew ?_))); (case side2 => exact HC0.out); rintro e w10 ⟨rfl, hb⟩; have n0_ := Aside0.mk (below_step (by repeat (first | (with_reducible first | exact HB.out | apply below_alloc | apply pw_below_drewN | apply below_drew1) | exact HB.out)) hb); clear HB; have HB := n0_; clear n0_; (try clear hb); (try clear hb2); (try clear hk); (try clear hi); have p154 : 0 ≤ (x4_1 : Int) := of_decide_eq_true (by first | (with_reducible assumption) | assumption); have q154 : x4_1 < (l0.length : Int) := of_decide_eq_true (by first | (with_reducible assumption) | assumption); obtain ⟨ad154, A154_5, c154_5, e154, hx154_0, hx154_1, hx154_2, hx154_3, hx154_4, hx154_5, hx154_6, hx154_7, hx154_8, hl154_5, hi154_5⟩ := at_T38 HR0.out x4_1 p154 q154; cases e154; replace hx154_0 := cellB_ HB.out hx154_0; replace hx154_1 := cellB_ HB.out hx154_1; replace hx154_2 := cellB_ HB.out hx154_2; replace hx154_3 := cellB_ HB.out hx154_3; replace hx154_4 := cellB_ HB.out hx154_4; replace hx154_5 := cellB_ HB.out hx154_5; replace hx154_6 := cellB_ HB.out hx154_6; replace hx154_7 := cellB_ HB.out hx154_7; replace hx154_8 := cellB_ HB.out hx154_8; have HR154_5 := Aside0.mk hi154_5; have HC154_5 := Aside0.mk hl154_5; clear hi154_5 hl154_5; replace p154 := eq_true p154; replace q154 := eq_true q154))
        repeat (go_quiet (fail); go_upto_region 10 with (first | (go_at_call 20; (with_reducible refine (rosterref12_follows.calls _ _ l0 x4_1 true _ ?side1 ?side2 A4.out).mono ?_); (case side1 => repeat (first | exact (Kd.C_below HR0.out HB.out) | exact (Kd.C_below (Aside0.out (by assumption)) HB.out) | (with_reducible refine Kd.C_alloc ?_ _) | (with_reducible refine Kd.C_drewN ?_ _) | (with_reducible refine Kd.C_drew ?_))); (case side2 => exact HC0.out); rintro e w10 ⟨rfl, hb⟩; have n0_ := Aside0.mk (below_step (by repeat (first | (with_reducible first | exact HB.out | apply below_alloc | apply pw_below_drewN | apply below_drew1) | exact HB.out)) hb); clear HB; have HB := n0_; clear n0_; (try clear hb); (try clear hb2); (try clear hk); (try clear hi); have p154 : 0 ≤ (x4_1 : Int) := of_decide_eq_true (by first | (with_reducible assumption) | assumption); have q154 : x4_1 < (l0.length : Int) := of_decide_eq_true (by first | (with_reducible assumption) | assumption); obtain ⟨ad154, A154_5, c154_5, e154, hx154_0, hx154_1, hx154_2, hx154_3, hx154_4, hx154_5, hx154_6, hx154_7, hx154_8, hl154_5, hi154_5⟩ := at_T38 HR0.out x4_1 p154 q154; cases e154; replace hx154_0 := cellB_ HB.out hx154_0; replace hx154_1 := cellB_ HB.out hx154_1; replace hx154_2 := cellB_ HB.out hx154_2; replace hx154_3 := cellB_ HB.out hx154_3; replace hx154_4 := cellB_ HB.out hx154_4; replace hx154_5 := cellB_ HB.out hx154_5; replace hx154_6 := cellB_ HB.out hx154_6; replace hx154_7 := cellB_ HB.out hx154_7; replace hx154_8 := cellB_ HB.out hx154_8; have HR154_5 := Aside0.mk hi154_5; have HC154_5 := Aside0.mk hl154_5; clear hi154_5 hl154_5; replace p154 := eq_true p154; replace q154 := eq_true q154)))
        (try simp only [Act.put, List.setIfInBounds_toArray, List.set_cons_zero, List.set_cons_succ])
        go_cut [36] (fun v36 wc => ∃ (kq : Nat) (x36_8 : Bool), v36 = .bool x36_8 ∧ Aside0 (rosterref12_Check.j1 kq l0 x4_1 x36_8 = some (r1, r2)) ∧ Aside0 (kq ≤ k1) ∧ Aside0 (Below w.heap.size w wc))
        case first =>
         have H := HC9.out
         clear HC9
         replace H := Option.bind_eq_some_iff.mp H
         obtain ⟨t156, A110, H⟩ := H
         replace H : (if t156 = true then ((rosterref12_second.f k1 l0 x4_1).bind fun t157 => (rosterref12_Check.j1 k1 l0 x4_1 t157)) else (rosterref12_Check.j1 k1 l0 x4_1 true)) = some (r1, r2) := H
         have A11 := Aside0.mk A110
         clear A110
         by_cases c12 : t156 = true
         ·subst c12
          have H1 : ((rosterref12_second.f k1 l0 x4_1).bind fun t157 => (rosterref12_Check.j1 k1 l0 x4_1 t157)) = some (r1, r2) := by rw [if_pos rfl] at H; exact H
          clear H
          have H := H1
          clear H1
          replace H := Option.bind_eq_some_iff.mp H
          obtain ⟨t157, A130, H⟩ := H
          replace H : (rosterref12_Check.j1 k1 l0 x4_1 t157) = some (r1, r2) := H
          have A13 := Aside0.mk A130
          clear A130
          have H' := Aside0.mk H
          clear H
          have p155 : 0 ≤ (x4_1 : Int) := of_decide_eq_true (by first | (with_reducible assumption) | assumption)
          have q155 : x4_1 < (l0.length : Int) := of_decide_eq_true (by first | (with_reducible assumption) | assumption)
          obtain ⟨ad155, A155_5, c155_5, e155, hx155_0, hx155_1, hx155_2, hx155_3, hx155_4, hx155_5, hx155_6, hx155_7, hx155_8, hl155_5, hi155_5⟩ := at_T38 HR0.out x4_1 p155 q155
          obtain rfl : ad154 = ad155 := (by injection e155)
          replace hx155_0 := cellB_ HB.out hx155_0
          replace hx155_1 := cellB_ HB.out hx155_1
          replace hx155_2 := cellB_ HB.out hx155_2
          replace hx155_3 := cellB_ HB.out hx155_3
          replace hx155_4 := cellB_ HB.out hx155_4
          replace hx155_5 := cellB_ HB.out hx155_5
          replace hx155_6 := cellB_ HB.out hx155_6
          replace hx155_7 := cellB_ HB.out hx155_7
          replace hx155_8 := cellB_ HB.out hx155_8
          have HR155_5 := Aside0.mk hi155_5
          have HC155_5 := Aside0.mk hl155_5
          clear hi155_5 hl155_5
          replace p155 := eq_true p155
          replace q155 := eq_true q155
          iterate 9 (try (first | go_quiet ((go_at_call 22; (with_reducible refine (rosterref12_second.calls k1 _ _ l0 x4_1 t157 _ ?side1 ?side2 A13.out).mono ?_); (case side1 => repeat (first | exact (Kd.C_below HR0.out HB.out) | exact (Kd.C_below (Aside0.out (by assumption)) HB.out) | (with_reducible refine Kd.C_alloc ?_ _) | (with_reducible refine Kd.C_drewN ?_ _) | (with_reducible refine Kd.C_drew ?_))); (case side2 => exact HC0.out); rintro e w' ⟨rfl, ⟨nd, rfl⟩⟩; (try first | exact ⟨rfl, _, World.drewN_drewN _ _ _⟩ | exact ⟨rfl, _, Eq.trans (World.drewN_drewN _ _ _) (congrArg (World.drewN _) (Nat.add_assoc _ _ _))⟩))) | go_wp2_with (first | (go_at_call 21; (with_reducible refine (rosterref12_fields.calls k1 ((rd_T38 l0 x4_1).f0) ((rd_T38 l0 x4_1).f1) ((rd_T38 l0 x4_1).f2) ((rd_T38 l0 x4_1).f3) ((rd_T38 l0 x4_1).f4.f0) _ _ ((rd_T38 l0 x4_1).f4.f1) ((rd_T38 l0 x4_1).f4.f2) ((rd_T38 l0 x4_1).f5) ((rd_T38 l0 x4_1).f6) true _ ?side1 ?side2 A11.out ?sideT).mono ?_); (case sideT => exact HTB.out.at (by repeat (first | (with_reducible first | exact HB.out | apply below_alloc | apply pw_below_drewN | apply below_drew1) | exact HB.out | refine below_set ?_ (Aside0.out (by assumption)) | exact Below.refl _ _))); (case side1 => repeat (first | exact (Kd.C_below HR155_5.out HB.out) | exact (Kd.C_below (Aside0.out (by assumption)) HB.out) | (with_reducible refine Kd.C_alloc ?_ _) | (with_reducible refine Kd.C_drewN ?_ _) | (with_reducible refine Kd.C_drew ?_))); (case side2 => first | exact HC155_5.out | exact Aside0.out (by assumption)); rintro e w14 ⟨rfl, hb⟩; have n0_ := Aside0.mk (below_step (by repeat (first | (with_reducible first | exact HB.out | apply below_alloc | apply pw_below_drewN | apply below_drew1) | exact HB.out)) hb); clear HB; have HB := n0_; clear n0_; (try clear hb); (try clear hb2); (try clear hk); (try clear hi)) | (go_at_call 22; (with_reducible refine (rosterref12_second.calls k1 _ _ l0 x4_1 t157 _ ?side1 ?side2 A13.out).mono ?_); (case side1 => repeat (first | exact (Kd.C_below HR0.out HB.out) | exact (Kd.C_below (Aside0.out (by assumption)) HB.out) | (with_reducible refine Kd.C_alloc ?_ _) | (with_reducible refine Kd.C_drewN ?_ _) | (with_reducible refine Kd.C_drew ?_))); (case side2 => exact HC0.out); rintro e w' ⟨rfl, ⟨nd, rfl⟩⟩; (try first | exact ⟨rfl, _, World.drewN_drewN _ _ _⟩ | exact ⟨rfl, _, Eq.trans (World.drewN_drewN _ _ _) (congrArg (World.drewN _) (Nat.add_assoc _ _ _))⟩)))))
          go_meet
          case rel => exact ⟨_, (t157), (by first | rfl | (simp; done) | (simp [*]; done) | (simp [isEmpty_ne_]; done)), H', ⟨by have := HK1.out; first | omega | exact Nat.le_refl _⟩, ⟨by repeat (first | (with_reducible first | exact HB.out | apply below_alloc | apply pw_below_drewN | apply below_drew1) | exact HB.out)⟩⟩
         ·replace c12 := Bool.eq_false_iff.mpr c12
          subst c12
          have H1 : (rosterref12_Check.j1 k1 l0 x4_1 true) = some (r1, r2) := by rw [if_neg (show ¬ (false = true) by decide)] at H; exact H
          clear H
          have H := H1
          clear H1
          have H' := Aside0.mk H
          clear H
          have p155 : 0 ≤ (x4_1 : Int) := of_decide_eq_true (by first | (with_reducible assumption) | assumption)
          have q155 : x4_1 < (l0.length : Int) := of_decide_eq_true (by first | (with_reducible assumption) | assumption)
          obtain ⟨ad155, A155_5, c155_5, e155, hx155_0, hx155_1, hx155_2, hx155_3, hx155_4, hx155_5, hx155_6, hx155_7, hx155_8, hl155_5, hi155_5⟩ := at_T38 HR0.out x4_1 p155 q155
          obtain rfl : ad154 = ad155 := (by injection e155)
          replace hx155_0 := cellB_ HB.out hx155_0
          replace hx155_1 := cellB_ HB.out hx155_1
          replace hx155_2 := cellB_ HB.out hx155_2
          replace hx155_3 := cellB_ HB.out hx155_3
          replace hx155_4 := cellB_ HB.out hx155_4
          replace hx155_5 := cellB_ HB.out hx155_5
          replace hx155_6 := cellB_ HB.out hx155_6
          replace hx155_7 := cellB_ HB.out hx155_7
          replace hx155_8 := cellB_ HB.out hx155_8
          have HR155_5 := Aside0.mk hi155_5
          have HC155_5 := Aside0.mk hl155_5
          clear hi155_5 hl155_5
          replace p155 := eq_true p155
          replace q155 := eq_true q155
          iterate 9 (try (first | go_quiet (fail) | go_wp2_with (first | (go_at_call 21; (with_reducible refine (rosterref12_fields.calls k1 ((rd_T38 l0 x4_1).f0) ((rd_T38 l0 x4_1).f1) ((rd_T38 l0 x4_1).f2) ((rd_T38 l0 x4_1).f3) ((rd_T38 l0 x4_1).f4.f0) _ _ ((rd_T38 l0 x4_1).f4.f1) ((rd_T38 l0 x4_1).f4.f2) ((rd_T38 l0 x4_1).f5) ((rd_T38 l0 x4_1).f6) false _ ?side1 ?side2 A11.out ?sideT).mono ?_); (case sideT => exact HTB.out.at (by repeat (first | (with_reducible first | exact HB.out | apply below_alloc | apply pw_below_drewN | apply below_drew1) | exact HB.out | refine below_set ?_ (Aside0.out (by assumption)) | exact Below.refl _ _))); (case side1 => repeat (first | exact (Kd.C_below HR155_5.out HB.out) | exact (Kd.C_below (Aside0.out (by assumption)) HB.out) | (with_reducible refine Kd.C_alloc ?_ _) | (with_reducible refine Kd.C_drewN ?_ _) | (with_reducible refine Kd.C_drew ?_))); (case side2 => first | exact HC155_5.out | exact Aside0.out (by assumption)); rintro e w15 ⟨rfl, hb⟩; have n0_ := Aside0.mk (below_step (by repeat (first | (with_reducible first | exact HB.out | apply below_alloc | apply pw_below_drewN | apply below_drew1) | exact HB.out)) hb); clear HB; have HB := n0_; clear n0_; (try clear hb); (try clear hb2); (try clear hk); (try clear hi)))))
          go_meet
          case rel => exact ⟨_, (true), (by first | rfl | (simp; done) | (simp [*]; done) | (simp [isEmpty_ne_]; done)), H', ⟨by have := HK1.out; first | omega | exact Nat.le_refl _⟩, ⟨by repeat (first | (with_reducible first | exact HB.out | apply below_alloc | apply pw_below_drewN | apply below_drew1) | exact HB.out)⟩⟩
        case rest =>
         clear HC9
         try clear c1
         try clear p1
         try clear q1
         try clear hx1
         try clear c2
         try clear c2b0
         try clear c2b1
         try clear c2b2
         try clear p2
         try clear c3
         try clear c3b0
         try clear c5
         try clear c6
         try clear c6b0
         try clear c7
         try clear c7b0
         try clear c12
         try clear c15
         try clear p15
         try clear q15
         try clear hx15
         try clear hx154_0
         try clear hx154_1
         try clear hx154_2
         try clear hx154_3
         try clear hx154_4
         try clear hx154_5
         try clear hx154_6
         try clear hx154_7
         try clear hx154_8
         try clear hx155_0
         try clear hx155_1
         try clear hx155_2
         try clear hx155_3
         try clear hx155_4
         try clear hx155_5
         try clear hx155_6
         try clear hx155_7
         try clear hx155_8
         try clear p154
         try clear p155
         try clear p2
         try clear q154
         try clear q155
         obtain ⟨kq, x36_8, rfl, HA, HJ8, HB⟩ := hcut
         cases kq with
         | zero => exact absurd HA.out (by simp [rosterref12_Check.j1])
         | succ kj8 =>
          have H := HA.out
          clear HA
          simp only [rosterref12_Check.j1] at H
          by_cases c16 : x36_8 = true
          ·subst c16
           have H1 : (some (120, x4_1)) = some (r1, r2) := by rw [if_pos rfl] at H; exact H
           clear H
           have H := H1
           clear H1
           simp only [Option.some.injEq, Prod.mk.injEq] at H
           obtain ⟨rfl, rfl⟩ := H
           go_wp2
           repeat (go_quiet (fail); try go_wp2)
           go_ret2
           exact ⟨by first | rfl | (simp [isEmpty_ne_]; done) | (simp [*, errW_none, errW_some] <;> rfl), by repeat (first | (with_reducible first | exact HB.out | apply below_alloc | apply pw_below_drewN | apply below_drew1) | exact HB.out)⟩
          ·replace c16 := Bool.eq_false_iff.mpr c16
           subst c16
           have H1 : (if 0 ≤ x4_1 then (if x4_1 < (l0.length : Int) then (if ((rd_T38 l0 x4_1).f1) = 2 then (if (wrap64 (x4_1 + 1)) ≥ (l0.length : Int) then (some (120, x4_1)) else (if 0 ≤ (wrap64 (x4_1 + 1)) then (if (wrap64 (x4_1 + 1)) < (l0.length : Int) then (if ((rd_T38 l0 (wrap64 (x4_1 + 1))).f0) = (wrap64 (((rd_T38 l0 x4_1).f0) + 1)) then (rosterref12_Check.l0 kj8 l0 (wrap64 (x4_1 + 1))) else (some (120, x4_1))) else (none)) else (none))) else (rosterref12_Check.l0 kj8 l0 (wrap64 (x4_1 + 1)))) else (none)) else (none)) = some (r1, r2) := by rw [if_neg (show ¬ (false = true) by decide)] at H; exact H
           clear H
           have H := H1
           clear H1
           by_cases c17 : 0 ≤ x4_1
           ·rw [if_pos c17] at H
            have c17b0 : decide (0 ≤ x4_1) = true := decide_eq_true c17
            clear c17
            by_cases c18 : x4_1 < (l0.length : Int)
            ·rw [if_pos c18] at H
             have c18b0 : decide (x4_1 < (l0.length : Int)) = true := decide_eq_true c18
             clear c18
             by_cases c19 : ((rd_T38 l0 x4_1).f1) = 2
             ·rw [if_pos c19] at H
              have c19b0 : (((rd_T38 l0 x4_1).f1) == 2) = true := beq_iff_eq.mpr c19
              have c19b1 : (((rd_T38 l0 x4_1).f1) != 2) = false := bne_eq_false_iff_eq.mpr c19
              clear c19
              by_cases c20 : (wrap64 (x4_1 + 1)) ≥ (l0.length : Int)
              ·rw [if_pos c20] at H
               have c20b0 : decide ((l0.length : Int) ≤ (wrap64 (x4_1 + 1))) = true := decide_eq_true c20
               clear c20
               simp only [Option.some.injEq, Prod.mk.injEq] at H
               obtain ⟨rfl, rfl⟩ := H
               have p158 : 0 ≤ (x4_1 : Int) := of_decide_eq_true (by first | (with_reducible assumption) | assumption)
               have q158 : x4_1 < (l0.length : Int) := of_decide_eq_true (by first | (with_reducible assumption) | assumption)
               obtain ⟨ad158, A158_5, c158_5, e158, hx158_0, hx158_1, hx158_2, hx158_3, hx158_4, hx158_5, hx158_6, hx158_7, hx158_8, hl158_5, hi158_5⟩ := at_T38 HR0.out x4_1 p158 q158
               obtain rfl : ad154 = ad158 := (by injection e158)
               replace hx158_0 := cellB_ HB.out hx158_0
               replace hx158_1 := cellB_ HB.out hx158_1
               replace hx158_2 := cellB_ HB.out hx158_2
               replace hx158_3 := cellB_ HB.out hx158_3
               replace hx158_4 := cellB_ HB.out hx158_4
               replace hx158_5 := cellB_ HB.out hx158_5
               replace hx158_6 := cellB_ HB.out hx158_6
               replace hx158_7 := cellB_ HB.out hx158_7
               replace hx158_8 := cellB_ HB.out hx158_8
               have HR158_5 := Aside0.mk hi158_5
               have HC158_5 := Aside0.mk hl158_5
               clear hi158_5 hl158_5
               replace p158 := eq_true p158
               replace q158 := eq_true q158
               go_wp2
               repeat (go_quiet (fail); try go_wp2)
               go_ret2
               exact ⟨by first | rfl | (simp [isEmpty_ne_]; done) | (simp [*, errW_none, errW_some] <;> rfl), by repeat (first | (with_reducible first | exact HB.out | apply below_alloc | apply pw_below_drewN | apply below_drew1) | exact HB.out)⟩
              ·rw [if_neg c20] at H
               have c20b0 : decide ((l0.length : Int) ≤ (wrap64 (x4_1 + 1))) = false := decide_eq_false c20
               clear c20
               obtain ⟨ji21, hji21⟩ : ∃ j_ : Int, (wrap64 (x4_1 + 1)) = j_ := ⟨_, rfl⟩
               replace H : (if 0 ≤ (ji21) then (if (ji21) < (l0.length : Int) then (if ((rd_T38 l0 (ji21)).f0) = (wrap64 (((rd_T38 l0 x4_1).f0) + 1)) then (rosterref12_Check.l0 kj8 l0 ji21) else (some (120, x4_1))) else (none)) else (none)) = some (r1, r2) := by first | (rw [hji21] at H; exact H) | (simp only [hji21] at H ⊢; exact H)
               (try rw [hji21] at c20b0)
               have hji21w : (IntKind.i64.wrap (x4_1 + 1)) = ji21 := (i64_w _).trans hji21
               by_cases c22 : 0 ≤ (ji21)
               ·rw [if_pos c22] at H
                have c22b0 : decide (0 ≤ (ji21)) = true := decide_eq_true c22
                clear c22
                by_cases c23 : (ji21) < (l0.length : Int)
                ·rw [if_pos c23] at H
                 have c23b0 : decide ((ji21) < (l0.length : Int)) = true := decide_eq_true c23
                 clear c23
                 by_cases c24 : ((rd_T38 l0 (ji21)).f0) = (wrap64 (((rd_T38 l0 x4_1).f0) + 1))
                 ·rw [if_pos c24] at H
                  have c24b0 : (((rd_T38 l0 (ji21)).f0) == (wrap64 (((rd_T38 l0 x4_1).f0) + 1))) = true := beq_iff_eq.mpr c24
                  have c24b1 : (((rd_T38 l0 (ji21)).f0) != (wrap64 (((rd_T38 l0 x4_1).f0) + 1))) = false := bne_eq_false_iff_eq.mpr c24
                  clear c24
                  have H' := Aside0.mk H
                  clear H
                  have p158 : 0 ≤ (x4_1 : Int) := of_decide_eq_true (by first | (with_reducible assumption) | assumption)
                  have q158 : x4_1 < (l0.length : Int) := of_decide_eq_true (by first | (with_reducible assumption) | assumption)
                  obtain ⟨ad158, A158_5, c158_5, e158, hx158_0, hx158_1, hx158_2, hx158_3, hx158_4, hx158_5, hx158_6, hx158_7, hx158_8, hl158_5, hi158_5⟩ := at_T38 HR0.out x4_1 p158 q158
                  obtain rfl : ad154 = ad158 := (by injection e158)
                  replace hx158_0 := cellB_ HB.out hx158_0
                  replace hx158_1 := cellB_ HB.out hx158_1
                  replace hx158_2 := cellB_ HB.out hx158_2
                  replace hx158_3 := cellB_ HB.out hx158_3
                  replace hx158_4 := cellB_ HB.out hx158_4
                  replace hx158_5 := cellB_ HB.out hx158_5
                  replace hx158_6 := cellB_ HB.out hx158_6
                  replace hx158_7 := cellB_ HB.out hx158_7
                  replace hx158_8 := cellB_ HB.out hx158_8
                  have HR158_5 := Aside0.mk hi158_5
                  have HC158_5 := Aside0.mk hl158_5
                  clear hi158_5 hl158_5
                  replace p158 := eq_true p158
                  replace q158 := eq_true q158
                  have p159 : 0 ≤ ((ji21) : Int) := of_decide_eq_true (by first | (with_reducible assumption) | assumption)
                  have q159 : (ji21) < (l0.length : Int) := of_decide_eq_true (by first | (with_reducible assumption) | assumption)
                  obtain ⟨ad159, A159_5, c159_5, e159, hx159_0, hx159_1, hx159_2, hx159_3, hx159_4, hx159_5, hx159_6, hx159_7, hx159_8, hl159_5, hi159_5⟩ := at_T38 HR0.out (ji21) p159 q159
                  obtain rfl : ad154 = ad159 := (by injection e159)
                  replace hx159_0 := cellB_ HB.out hx159_0
                  replace hx159_1 := cellB_ HB.out hx159_1
                  replace hx159_2 := cellB_ HB.out hx159_2
                  replace hx159_3 := cellB_ HB.out hx159_3
                  replace hx159_4 := cellB_ HB.out hx159_4
                  replace hx159_5 := cellB_ HB.out hx159_5
                  replace hx159_6 := cellB_ HB.out hx159_6
                  replace hx159_7 := cellB_ HB.out hx159_7
                  replace hx159_8 := cellB_ HB.out hx159_8
                  have HR159_5 := Aside0.mk hi159_5
                  have HC159_5 := Aside0.mk hl159_5
                  clear hi159_5 hl159_5
                  replace p159 := eq_true p159
                  replace q159 := eq_true q159
                  have p160 : 0 ≤ (x4_1 : Int) := of_decide_eq_true (by first | (with_reducible assumption) | assumption)
                  have q160 : x4_1 < (l0.length : Int) := of_decide_eq_true (by first | (with_reducible assumption) | assumption)
                  obtain ⟨ad160, A160_5, c160_5, e160, hx160_0, hx160_1, hx160_2, hx160_3, hx160_4, hx160_5, hx160_6, hx160_7, hx160_8, hl160_5, hi160_5⟩ := at_T38 HR0.out x4_1 p160 q160
                  obtain rfl : ad154 = ad160 := (by injection e160)
                  replace hx160_0 := cellB_ HB.out hx160_0
                  replace hx160_1 := cellB_ HB.out hx160_1
                  replace hx160_2 := cellB_ HB.out hx160_2
                  replace hx160_3 := cellB_ HB.out hx160_3
                  replace hx160_4 := cellB_ HB.out hx160_4
                  replace hx160_5 := cellB_ HB.out hx160_5
                  replace hx160_6 := cellB_ HB.out hx160_6
                  replace hx160_7 := cellB_ HB.out hx160_7
                  replace hx160_8 := cellB_ HB.out hx160_8
                  have HR160_5 := Aside0.mk hi160_5
                  have HC160_5 := Aside0.mk hl160_5
                  clear hi160_5 hl160_5
                  replace p160 := eq_true p160
                  replace q160 := eq_true q160
                  have ea_ := Option.some.inj (hx158_5.symm.trans hx160_5)
                  injection ea_ with ea_ en_ ec_
                  subst ea_
                  subst ec_
                  clear en_
                  go_wp2
                  repeat (go_quiet (fail); try go_wp2)
                  go_roundg kj8
                  case measure => have := HK1.out; have := HJ8.out; omega
                  case rel => exact ⟨(ji21), (by first | rfl | (simp; done) | (simp only [← hji21] <;> (first | rfl | simp)) | (simp [*]; done) | (simp [isEmpty_ne_]; done)), H', ⟨by have := HK1.out; have := HJ8.out; omega⟩, ⟨by repeat (first | (with_reducible first | exact HB.out | apply below_alloc | apply pw_below_drewN | apply below_drew1) | exact HB.out)⟩⟩
                 ·rw [if_neg c24] at H
                  have c24b0 : (((rd_T38 l0 (ji21)).f0) == (wrap64 (((rd_T38 l0 x4_1).f0) + 1))) = false := beq_eq_false_iff_ne.mpr c24
                  have c24b1 : (((rd_T38 l0 (ji21)).f0) != (wrap64 (((rd_T38 l0 x4_1).f0) + 1))) = true := bne_iff_ne.mpr c24
                  simp only [Option.some.injEq, Prod.mk.injEq] at H
                  obtain ⟨rfl, rfl⟩ := H
                  have p158 : 0 ≤ (x4_1 : Int) := of_decide_eq_true (by first | (with_reducible assumption) | assumption)
                  have q158 : x4_1 < (l0.length : Int) := of_decide_eq_true (by first | (with_reducible assumption) | assumption)
                  obtain ⟨ad158, A158_5, c158_5, e158, hx158_0, hx158_1, hx158_2, hx158_3, hx158_4, hx158_5, hx158_6, hx158_7, hx158_8, hl158_5, hi158_5⟩ := at_T38 HR0.out x4_1 p158 q158
                  obtain rfl : ad154 = ad158 := (by injection e158)
                  replace hx158_0 := cellB_ HB.out hx158_0
                  replace hx158_1 := cellB_ HB.out hx158_1
                  replace hx158_2 := cellB_ HB.out hx158_2
                  replace hx158_3 := cellB_ HB.out hx158_3
                  replace hx158_4 := cellB_ HB.out hx158_4
                  replace hx158_5 := cellB_ HB.out hx158_5
                  replace hx158_6 := cellB_ HB.out hx158_6
                  replace hx158_7 := cellB_ HB.out hx158_7
                  replace hx158_8 := cellB_ HB.out hx158_8
                  have HR158_5 := Aside0.mk hi158_5
                  have HC158_5 := Aside0.mk hl158_5
                  clear hi158_5 hl158_5
                  replace p158 := eq_true p158
                  replace q158 := eq_true q158
                  have p159 : 0 ≤ ((ji21) : Int) := of_decide_eq_true (by first | (with_reducible assumption) | assumption)
                  have q159 : (ji21) < (l0.length : Int) := of_decide_eq_true (by first | (with_reducible assumption) | assumption)
                  obtain ⟨ad159, A159_5, c159_5, e159, hx159_0, hx159_1, hx159_2, hx159_3, hx159_4, hx159_5, hx159_6, hx159_7, hx159_8, hl159_5, hi159_5⟩ := at_T38 HR0.out (ji21) p159 q159
                  obtain rfl : ad154 = ad159 := (by injection e159)
                  replace hx159_0 := cellB_ HB.out hx159_0
                  replace hx159_1 := cellB_ HB.out hx159_1
                  replace hx159_2 := cellB_ HB.out hx159_2
                  replace hx159_3 := cellB_ HB.out hx159_3
                  replace hx159_4 := cellB_ HB.out hx159_4
                  replace hx159_5 := cellB_ HB.out hx159_5
                  replace hx159_6 := cellB_ HB.out hx159_6
                  replace hx159_7 := cellB_ HB.out hx159_7
                  replace hx159_8 := cellB_ HB.out hx159_8
                  have HR159_5 := Aside0.mk hi159_5
                  have HC159_5 := Aside0.mk hl159_5
                  clear hi159_5 hl159_5
                  replace p159 := eq_true p159
                  replace q159 := eq_true q159
                  have p160 : 0 ≤ (x4_1 : Int) := of_decide_eq_true (by first | (with_reducible assumption) | assumption)
                  have q160 : x4_1 < (l0.length : Int) := of_decide_eq_true (by first | (with_reducible assumption) | assumption)
                  obtain ⟨ad160, A160_5, c160_5, e160, hx160_0, hx160_1, hx160_2, hx160_3, hx160_4, hx160_5, hx160_6, hx160_7, hx160_8, hl160_5, hi160_5⟩ := at_T38 HR0.out x4_1 p160 q160
                  obtain rfl : ad154 = ad160 := (by injection e160)
                  replace hx160_0 := cellB_ HB.out hx160_0
                  replace hx160_1 := cellB_ HB.out hx160_1
                  replace hx160_2 := cellB_ HB.out hx160_2
                  replace hx160_3 := cellB_ HB.out hx160_3
                  replace hx160_4 := cellB_ HB.out hx160_4
                  replace hx160_5 := cellB_ HB.out hx160_5
                  replace hx160_6 := cellB_ HB.out hx160_6
                  replace hx160_7 := cellB_ HB.out hx160_7
                  replace hx160_8 := cellB_ HB.out hx160_8
                  have HR160_5 := Aside0.mk hi160_5
                  have HC160_5 := Aside0.mk hl160_5
                  clear hi160_5 hl160_5
                  replace p160 := eq_true p160
                  replace q160 := eq_true q160
                  have ea_ := Option.some.inj (hx158_5.symm.trans hx160_5)
                  injection ea_ with ea_ en_ ec_
                  subst ea_
                  subst ec_
                  clear en_
                  go_wp2
                  repeat (go_quiet (fail); try go_wp2)
                  go_ret2
                  exact ⟨by first | rfl | (simp [isEmpty_ne_]; done) | (simp [errW_none, errW_some] <;> rfl) | (simp only [← hji21]; first | rfl | (simp [errW_none, errW_some] <;> rfl)) | (simp [*, errW_none, errW_some] <;> rfl), by repeat (first | (with_reducible first | exact HB.out | apply below_alloc | apply pw_below_drewN | apply below_drew1) | exact HB.out)⟩
                ·rw [if_neg c23] at H
                 exact absurd H (by simp)
               ·rw [if_neg c22] at H
                exact absurd H (by simp)
             ·rw [if_neg c19] at H
              have c19b0 : (((rd_T38 l0 x4_1).f1) == 2) = false := beq_eq_false_iff_ne.mpr c19
              have c19b1 : (((rd_T38 l0 x4_1).f1) != 2) = true := bne_iff_ne.mpr c19
              have H' := Aside0.mk H
              clear H
              have p158 : 0 ≤ (x4_1 : Int) := of_decide_eq_true (by first | (with_reducible assumption) | assumption)
              have q158 : x4_1 < (l0.length : Int) := of_decide_eq_true (by first | (with_reducible assumption) | assumption)
              obtain ⟨ad158, A158_5, c158_5, e158, hx158_0, hx158_1, hx158_2, hx158_3, hx158_4, hx158_5, hx158_6, hx158_7, hx158_8, hl158_5, hi158_5⟩ := at_T38 HR0.out x4_1 p158 q158
              obtain rfl : ad154 = ad158 := (by injection e158)
              replace hx158_0 := cellB_ HB.out hx158_0
              replace hx158_1 := cellB_ HB.out hx158_1
              replace hx158_2 := cellB_ HB.out hx158_2
              replace hx158_3 := cellB_ HB.out hx158_3
              replace hx158_4 := cellB_ HB.out hx158_4
              replace hx158_5 := cellB_ HB.out hx158_5
              replace hx158_6 := cellB_ HB.out hx158_6
              replace hx158_7 := cellB_ HB.out hx158_7
              replace hx158_8 := cellB_ HB.out hx158_8
              have HR158_5 := Aside0.mk hi158_5
              have HC158_5 := Aside0.mk hl158_5
              clear hi158_5 hl158_5
              replace p158 := eq_true p158
              replace q158 := eq_true q158
              go_wp2
              repeat (go_quiet (fail); try go_wp2)
              go_roundg kj8
              case measure => have := HK1.out; have := HJ8.out; omega
              case rel => exact ⟨(wrap64 (x4_1 + 1)), (by first | rfl | (simp; done) | (simp [*]; done) | (simp [isEmpty_ne_]; done)), H', ⟨by have := HK1.out; have := HJ8.out; omega⟩, ⟨by repeat (first | (with_reducible first | exact HB.out | apply below_alloc | apply pw_below_drewN | apply below_drew1) | exact HB.out)⟩⟩
            ·rw [if_neg c18] at H
             exact absurd H (by simp)
           ·rw [if_neg c17] at H
            exact absurd H (by simp)
      ·rw [if_neg c6] at H
       exact absurd H (by simp)
     ·replace c5 := Bool.eq_false_iff.mpr c5
      subst c5
      have H1 : (some (120, x4_1)) = some (r1, r2) := by rw [if_neg (show ¬ (false = true) by decide)] at H; exact H
      clear H
      have H := H1
      clear H1
      simp only [Option.some.injEq, Prod.mk.injEq] at H
      obtain ⟨rfl, rfl⟩ := H
      iterate 9 (try (first | go_quiet (fail) | go_wp2_with (first | (go_at_call 20; (with_reducible refine (rosterref12_follows.calls _ _ l0 x4_1 false _ ?side1 ?side2 A4.out).mono ?_); (case side1 => repeat (first | exact (Kd.C_below HR0.out HB.out) | exact (Kd.C_below (Aside0.out (by assumption)) HB.out) | (with_reducible refine Kd.C_alloc ?_ _) | (with_reducible refine Kd.C_drewN ?_ _) | (with_reducible refine Kd.C_drew ?_))); (case side2 => exact HC0.out); rintro e w25 ⟨rfl, hb⟩; have n0_ := Aside0.mk (below_step (by repeat (first | (with_reducible first | exact HB.out | apply below_alloc | apply pw_below_drewN | apply below_drew1) | exact HB.out)) hb); clear HB; have HB := n0_; clear n0_; (try clear hb); (try clear hb2); (try clear hk); (try clear hi)))))
      go_ret2
      exact ⟨by first | rfl | (simp [isEmpty_ne_]; done) | (simp [*, errW_none, errW_some] <;> rfl), by repeat (first | (with_reducible first | exact HB.out | apply below_alloc | apply pw_below_drewN | apply below_drew1) | exact HB.out)⟩
    ·rw [if_neg c3] at H
     have c3b0 : decide (x4_1 < (l0.length : Int)) = false := decide_eq_false c3
     clear c3
     simp only [Option.some.injEq, Prod.mk.injEq] at H
     obtain ⟨rfl, rfl⟩ := H
     go_wp2
     repeat (go_quiet (fail); try go_wp2)
     go_ret2
     exact ⟨by first | rfl | (simp [isEmpty_ne_]; done) | (simp [*, errW_none, errW_some] <;> rfl), by repeat (first | (with_reducible first | exact HB.out | apply below_alloc | apply pw_below_drewN | apply below_drew1) | exact HB.out)⟩

/-! ### rosterref12_moved: function 13 -/
def rosterref12_moved.l0 : Nat → List (S38) → Int → List (S38) → Int → Option ((List (S38)))
 | 0, _, _, _, _ => none
 | k + 1, x0, x1, x5, x6 => if x6 < (x0.length : Int) then (if 0 ≤ x6 then (if x5.length < 1099511627776 then (rosterref12_moved.l0 k x0 x1 (x5 ++ [(⟨wrap64 (((rd_T38 x0 x6).f0) + x1), (rd_T38 x0 x6).f1, (rd_T38 x0 x6).f2, (rd_T38 x0 x6).f3, (⟨(rd_T38 x0 x6).f4.f0, (rd_T38 x0 x6).f4.f1, (rd_T38 x0 x6).f4.f2⟩ : S36), (rd_T38 x0 x6).f5, (rd_T38 x0 x6).f6⟩ : S38)]) (wrap64 (x6 + 1))) else (none)) else (none)) else (some x5)
def rosterref12_moved.f (k : Nat) (l0 : List (S38)) (a1 : Int) : Option ((List (S38))) := rosterref12_moved.l0 k l0 a1 ([] : List (S38)) 0
theorem rosterref12_moved.mono_l : ∀ k, (∀ y0 y1 y2 y3, LeO (rosterref12_moved.l0 k y0 y1 y2 y3) (rosterref12_moved.l0 (k + 1) y0 y1 y2 y3))
 | 0 => fun _ _ _ _ r h => by simp [rosterref12_moved.l0] at h
 | k + 1 => by
  have ih0 := rosterref12_moved.mono_l k
  ·intro y0 y1 y2 y3
   unfold rosterref12_moved.l0
   repeat' first
   | (with_reducible exact ih0 _ _ _ _)
   | (with_reducible exact LeO.refl _)
   | (with_reducible exact LeO.none _)
   | (with_reducible refine LeO.ite ?_ ?_)
   | (with_reducible refine LeO.bind ?_ (fun _ => ?_))
   | exact ih0 _ _ _ _
   | exact LeO.none _
   | refine LeO.ite ?_ ?_
   | refine LeO.bind ?_ (fun _ => ?_)
theorem rosterref12_moved.mono : ∀ a0 a1 k, LeO (rosterref12_moved.f k a0 a1) (rosterref12_moved.f (k + 1) a0 a1) := by
 intro a0 a1 k
 have ih0 := rosterref12_moved.mono_l k
 unfold rosterref12_moved.f
 repeat' first
   | (with_reducible exact ih0 _ _ _ _)
   | (with_reducible exact LeO.refl _)
   | (with_reducible exact LeO.none _)
   | (with_reducible refine LeO.ite ?_ ?_)
   | (with_reducible refine LeO.bind ?_ (fun _ => ?_))
   | exact ih0 _ _ _ _
   | exact LeO.none _
   | refine LeO.ite ?_ ?_
   | refine LeO.bind ?_ (fun _ => ?_)
set_option maxHeartbeats 8000000 in
set_option maxRecDepth 100000 in
theorem rosterref12_moved.calls (k : Nat) (P0_ : Nat → Prop) (A0 : Option Addr) (c0 : Nat) (l0 : List (S38)) (a1 : Int) (r : List (S38)) (w : World) (hs0 : Kd.V k38 38 w w.heap.size (fun k_ => P0_ k_) (.slice A0 l0.length c0) l0) (h : rosterref12_moved.f k l0 a1 = some r) :
  Calls Tryd.prog 13 #[.slice A0 l0.length c0, .int .i64 a1] w fun e w' => ∃ v0_ : Value, e = .returned (v0_) ∧ Kd.N k38 38 w' w.heap.size (fun k_ => (P0_ k_ ∨ w.heap.size ≤ k_)) v0_ r ∧ Below w.heap.size w w' := by
 have hu38 := Tryd.underlying38
 have HO0 := Aside0.mk (show Kd.V k38 38 w w.heap.size (fun k_ => (P0_ k_ ∨ w.heap.size ≤ k_)) (.slice A0 l0.length c0) l0 from Kd.V_mono hs0 (fun k_ hk => .inl hk))
 have HB := Aside0.mk (Below.refl w.heap.size w)
 have H : (rosterref12_moved.l0 k l0 a1 ([] : List (S38)) 0) = some r := h
 clear h
 have H' := Aside0.mk H
 clear H
 go_enter Tryd.func13, Tryd.ntmps13
 go_wp2
 go_loopg [5, 6] k (fun kq v5 v6 w' => ∃ (x5_1 : List (S38)) (x6_1 : Int), v6 = .int .i64 x6_1 ∧ Aside0 (rosterref12_moved.l0 kq l0 a1 x5_1 x6_1 = some r) ∧ Aside0 (kq ≤ k) ∧ Aside0 (Kd.V k38 38 w' w.heap.size (fun k_ => (P0_ k_ ∨ w.heap.size ≤ k_) ∧ some k_ ≠ (v5 : Value).ownBlock) (.slice A0 l0.length c0) l0) ∧ Aside0 (Kd.N k38 38 w' w.heap.size (fun k_ => (P0_ k_ ∨ w.heap.size ≤ k_)) v5 x5_1) ∧ Aside0 (Below w.heap.size w w'))
 case atStart => exact ⟨(([] : List (S38))), (0), (by first | rfl | (simp; done) | (simp [*]; done) | (simp [isEmpty_ne_]; done)), H', ⟨Nat.le_refl _⟩, ⟨by (with_reducible repeat (first | apply Kd.V_alloc | apply Kd.V_drewN | apply Kd.V_drew)); exact Kd.V_mono HO0.out (fun _ hk => ⟨hk, (by simp [Value.ownBlock])⟩)⟩, ⟨by first | exact Kd.S_nil _ _ _ _ _ | exact Kd.N_nil _ _ _ _ _ | exact Kd.V_nil _ _ _ _ _ | exact Kd.Q_nil _ _ _ _ _ | exact Kd.R_nil _ _ _ _ _⟩, ⟨by repeat (first | (with_reducible first | exact HB.out | apply below_alloc | apply pw_below_drewN | apply below_drew1) | exact HB.out)⟩⟩
 case round =>
  clear H'
  try clear c1
  try clear p2
  obtain ⟨x5_1, x6_1, rfl, HA, HK1, HO_0, HO_5, HB⟩ := hrel
  cases gk with
  | zero => exact absurd HA.out (by simp [rosterref12_moved.l0])
  | succ k1 =>
   have H := HA.out
   clear HA
   simp only [rosterref12_moved.l0] at H
   by_cases c3 : x6_1 < (l0.length : Int)
   ·rw [if_pos c3] at H
    have c3b0 : decide (x6_1 < (l0.length : Int)) = true := decide_eq_true c3
    clear c3
    by_cases c4 : 0 ≤ x6_1
    ·rw [if_pos c4] at H
     have c4b0 : decide (0 ≤ x6_1) = true := decide_eq_true c4
     clear c4
     by_cases c5 : x5_1.length < 1099511627776
     ·rw [if_pos c5] at H
      have LMc5 := Aside0.mk c5
      clear c5
      obtain ⟨y163, hy163⟩ : ∃ y_ : List (S38), y_ = (x5_1 ++ [(⟨wrap64 (((rd_T38 l0 x6_1).f0) + a1), (rd_T38 l0 x6_1).f1, (rd_T38 l0 x6_1).f2, (rd_T38 l0 x6_1).f3, (⟨(rd_T38 l0 x6_1).f4.f0, (rd_T38 l0 x6_1).f4.f1, (rd_T38 l0 x6_1).f4.f2⟩ : S36), (rd_T38 l0 x6_1).f5, (rd_T38 l0 x6_1).f6⟩ : S38)]) := ⟨_, rfl⟩
      replace H : (rosterref12_moved.l0 k1 l0 a1 y163 (wrap64 (x6_1 + 1))) = some r := by first | (rw [hy163]; with_reducible exact H) | (have H2_ := (Option.bind_some _ _).symm.trans H; rw [hy163]; with_reducible exact H2_) | (have H2_ := (Option.bind_some _ _).symm.trans H; with_reducible exact H2_) | with_reducible exact H | (rw [hy163]; exact H) | exact H
      have Ny163 := Aside0.mk hy163
      clear hy163
      have H' := Aside0.mk H
      clear H
      have p161 : 0 ≤ (x6_1 : Int) := of_decide_eq_true (by first | (with_reducible assumption) | assumption)
      have q161 : x6_1 < (l0.length : Int) := of_decide_eq_true (by first | (with_reducible assumption) | assumption)
      obtain ⟨ad161, A161_5, c161_5, e161, hx161_0, hx161_1, hx161_2, hx161_3, hx161_4, hx161_5, hx161_6, hx161_7, hx161_8, hl161_5, hi161_5⟩ := at_T38 (Kd.V_reads' HO_0.out).2.2 x6_1 p161 q161
      cases e161
      obtain ⟨ce161, hce161, hMe161, hcc161⟩ := Kd.V_get HO_0.out z38 x6_1 p161 (by first | exact q161 | exact of_decide_eq_true (by first | (with_reducible assumption) | assumption) | (have e_ := (Kd.V_reads' HO_0.out).1; omega))
      obtain ⟨ua161_5, uc161_5, rfl, ul161_5, ge161_5⟩ := k38_openF hMe161
      have hv161_5 := hcc161 5 _ rfl
      rw [add_field _ _ 5 (by omega)] at hv161_5
      replace hv161_5 := Option.some.inj (hv161_5.symm.trans hx161_5)
      injection hv161_5 with hva_ hvn_ hvc_
      rw [hva_] at ge161_5
      rw [hvc_] at ul161_5
      have HL161_5 := Aside0.mk (show Kd.V Kd.string 9 _ w.heap.size _ _ ((rd_T38 l0 x6_1).f4.f1) from Kd.V_mk ul161_5 ge161_5)
      clear hva_ hvn_ hvc_ ge161_5 ul161_5
      clear hcc161 hce161
      have HR161_5 := Aside0.mk hi161_5
      have HC161_5 := Aside0.mk hl161_5
      clear hi161_5 hl161_5
      replace p161 := eq_true p161
      replace q161 := eq_true q161
      go_wp2_with (first | ((with_reducible refine gate_dst (N := 7) rfl ?_); refine box_event ?hg (N := 7) ?hd (cs := #[.int .i64 0, .int .i64 0, .string (⟨#[]⟩ : ByteArray), .string (⟨#[]⟩ : ByteArray), .string (⟨#[]⟩ : ByteArray), .slice none 0 0, .string (⟨#[]⟩ : ByteArray), .string (⟨#[]⟩ : ByteArray), .bool false]) (t := 38) ?hr ?_; (case hd => rfl); (case hg => rfl); (case hr => first | (go_simp; done) | (go_simp; rfl)); intro gb162 hg w6 hbox hb; have n0_ := Aside0.mk (Kd.V_below (Kd.V_elderB (by (with_reducible repeat (first | apply Kd.V_alloc | apply Kd.V_drewN | apply Kd.V_drew)); exact HO_0.out) gb162 (Nat.le_of_eq hg.symm)) hb); have n1_ := Aside0.mk (Kd.N_below (Kd.N_elderB (by (with_reducible repeat (first | apply Kd.N_alloc | apply Kd.N_drewN | apply Kd.N_drew)); exact HO_5.out) gb162 (Nat.le_of_eq hg.symm)) hb); have n2_ := Aside0.mk (Kd.V_below (Kd.V_elderB (by (with_reducible repeat (first | apply Kd.V_alloc | apply Kd.V_drewN | apply Kd.V_drew)); exact HL161_5.out) gb162 (Nat.le_of_eq hg.symm)) hb); have n3_ := Aside0.mk (Kd.C_below (by repeat (first | (with_reducible exact HR161_5.out) | (with_reducible refine Kd.C_alloc ?_ _) | (with_reducible refine Kd.C_drewN ?_ _) | (with_reducible refine Kd.C_drew ?_) | exact HR161_5.out)) hb); have n4_ := Aside0.mk (below_step (by repeat (first | (with_reducible first | exact HB.out | apply below_alloc | apply pw_below_drewN | apply below_drew1) | exact HB.out)) hb); have n5_ := Aside0.mk (hbox); have n6_ := Aside0.mk ((by rw [hg]; exact (below_size (by repeat (first | (with_reducible first | exact HB.out | apply below_alloc | apply pw_below_drewN | apply below_drew1) | exact HB.out))) : w.heap.size ≤ gb162)); have n7_ := Aside0.mk ((by rw [hg]; exact (below_size (by repeat (first | (with_reducible first | exact HB.out | apply below_alloc | apply pw_below_drewN | apply below_drew1) | exact HB.out))) : w.heap.size ≤ gb162)); clear HO_0; clear HO_5; clear HL161_5; clear HR161_5; clear HB; have HO_0 := n0_; have HO_5 := n1_; have HL161_5 := n2_; have HR161_5 := n3_; have HB := n4_; have BK162 := n5_; have GW162 := n6_; have GE162 := n7_; clear n0_ n1_ n2_ n3_ n4_ n5_ n6_ n7_; clear hb hbox hg; obtain ⟨hcz7_0, hcz7_1, hcz7_2, hcz7_3, hcz7_4, hcz7_5, hcz7_6, hcz7_7, hcz7_8⟩ := cells9_ BK162.out; obtain ⟨hfz7_0, hfz7_1, hfz7_2, hfz7_3, hfz7_4, hfz7_5, hfz7_6, hfz7_7, hfz7_8⟩ := frz9_ BK162.out) | ((with_reducible refine gate_store (t := 38) (p := 7) rfl ?_); refine store_event (t := 38) (p := 7) (v := ?vo_w8) (w1 := (((((((((w6.setCell ⟨gb162, 0, none⟩ (.int .i64 ((rd_T38 l0 x6_1).f0))).setCell ⟨gb162, 1, none⟩ (.int .i64 ((rd_T38 l0 x6_1).f1))).setCell ⟨gb162, 2, none⟩ (.string ((rd_T38 l0 x6_1).f2))).setCell ⟨gb162, 3, none⟩ (.string ((rd_T38 l0 x6_1).f3))).setCell ⟨gb162, 4, none⟩ (.string ((rd_T38 l0 x6_1).f4.f0))).setCell ⟨gb162, 5, none⟩ (.slice A161_5 ((rd_T38 l0 x6_1).f4.f1).length c161_5)).setCell ⟨gb162, 6, none⟩ (.string ((rd_T38 l0 x6_1).f4.f2))).setCell ⟨gb162, 7, none⟩ (.string ((rd_T38 l0 x6_1).f5))).setCell ⟨gb162, 8, none⟩ (.bool ((rd_T38 l0 x6_1).f6)))) ?hg ?ho ?hn ?hr ?_; (case ho => rfl); (case hg => rfl); (case hn => rfl); (case hr => first | (go_simp; done) | (go_simp; rfl)); intro w8 hw; have n0_ : Aside0 (Kd.V k38 38 w8 w.heap.size (fun k_ => (P0_ k_ ∨ w.heap.size ≤ k_) ∧ some k_ ≠ (u5 : Value).ownBlock ∧ k_ ≠ gb162) (.slice (some ad161) l0.length c0) l0) := ⟨(by rw [hw]; exact (by (with_reducible repeat (first | apply Kd.V_alloc | apply Kd.V_drewN | apply Kd.V_drew)); exact Kd.V_mono (Kd.V_far (p := ⟨gb162, 8, none⟩) (Kd.V_far (p := ⟨gb162, 7, none⟩) (Kd.V_far (p := ⟨gb162, 6, none⟩) (Kd.V_far (p := ⟨gb162, 5, none⟩) (Kd.V_far (p := ⟨gb162, 4, none⟩) (Kd.V_far (p := ⟨gb162, 3, none⟩) (Kd.V_far (p := ⟨gb162, 2, none⟩) (Kd.V_far (p := ⟨gb162, 1, none⟩) (Kd.V_far (p := ⟨gb162, 0, none⟩) (Kd.V_mono HO_0.out (fun k_ hk => (⟨hk, hk.2⟩ : _ ∧ k_ ≠ gb162))) (fun _ hk => hk.2) (.int .i64 ((rd_T38 l0 x6_1).f0))) (fun _ hk => hk.2) (.int .i64 ((rd_T38 l0 x6_1).f1))) (fun _ hk => hk.2) (.string ((rd_T38 l0 x6_1).f2))) (fun _ hk => hk.2) (.string ((rd_T38 l0 x6_1).f3))) (fun _ hk => hk.2) (.string ((rd_T38 l0 x6_1).f4.f0))) (fun _ hk => hk.2) (.slice A161_5 ((rd_T38 l0 x6_1).f4.f1).length c161_5)) (fun _ hk => hk.2) (.string ((rd_T38 l0 x6_1).f4.f2))) (fun _ hk => hk.2) (.string ((rd_T38 l0 x6_1).f5))) (fun _ hk => hk.2) (.bool ((rd_T38 l0 x6_1).f6))) (fun _ hk => ⟨hk.1.1.1, ⟨hk.1.1.2, hk.1.2⟩⟩)))⟩; have n1_ : Aside0 (Kd.N k38 38 w8 w.heap.size (fun k_ => (P0_ k_ ∨ w.heap.size ≤ k_) ∧ k_ ≠ gb162) u5 x5_1) := ⟨(by rw [hw]; exact (by (with_reducible repeat (first | apply Kd.N_alloc | apply Kd.N_drewN | apply Kd.N_drew)); exact Kd.N_mono (Kd.N_far (p := ⟨gb162, 8, none⟩) (Kd.N_far (p := ⟨gb162, 7, none⟩) (Kd.N_far (p := ⟨gb162, 6, none⟩) (Kd.N_far (p := ⟨gb162, 5, none⟩) (Kd.N_far (p := ⟨gb162, 4, none⟩) (Kd.N_far (p := ⟨gb162, 3, none⟩) (Kd.N_far (p := ⟨gb162, 2, none⟩) (Kd.N_far (p := ⟨gb162, 1, none⟩) (Kd.N_far (p := ⟨gb162, 0, none⟩) (Kd.N_mono HO_5.out (fun k_ hk => (⟨hk, hk.2⟩ : _ ∧ k_ ≠ gb162))) (fun _ hk => hk.2) (.int .i64 ((rd_T38 l0 x6_1).f0))) (fun _ hk => hk.2) (.int .i64 ((rd_T38 l0 x6_1).f1))) (fun _ hk => hk.2) (.string ((rd_T38 l0 x6_1).f2))) (fun _ hk => hk.2) (.string ((rd_T38 l0 x6_1).f3))) (fun _ hk => hk.2) (.string ((rd_T38 l0 x6_1).f4.f0))) (fun _ hk => hk.2) (.slice A161_5 ((rd_T38 l0 x6_1).f4.f1).length c161_5)) (fun _ hk => hk.2) (.string ((rd_T38 l0 x6_1).f4.f2))) (fun _ hk => hk.2) (.string ((rd_T38 l0 x6_1).f5))) (fun _ hk => hk.2) (.bool ((rd_T38 l0 x6_1).f6))) (fun _ hk => ⟨hk.1.1, hk.1.2⟩)))⟩; have n2_ : Aside0 (Kd.V Kd.string 9 w8 w.heap.size (fun k_ => (P0_ k_ ∨ w.heap.size ≤ k_) ∧ some k_ ≠ (u5 : Value).ownBlock ∧ k_ ≠ gb162) (.slice A161_5 ((rd_T38 l0 x6_1).f4.f1).length c161_5) ((rd_T38 l0 x6_1).f4.f1)) := ⟨(by rw [hw]; exact (by (with_reducible repeat (first | apply Kd.V_alloc | apply Kd.V_drewN | apply Kd.V_drew)); exact Kd.V_mono (Kd.V_far (p := ⟨gb162, 8, none⟩) (Kd.V_far (p := ⟨gb162, 7, none⟩) (Kd.V_far (p := ⟨gb162, 6, none⟩) (Kd.V_far (p := ⟨gb162, 5, none⟩) (Kd.V_far (p := ⟨gb162, 4, none⟩) (Kd.V_far (p := ⟨gb162, 3, none⟩) (Kd.V_far (p := ⟨gb162, 2, none⟩) (Kd.V_far (p := ⟨gb162, 1, none⟩) (Kd.V_far (p := ⟨gb162, 0, none⟩) (Kd.V_mono HL161_5.out (fun k_ hk => (⟨hk, hk.2⟩ : _ ∧ k_ ≠ gb162))) (fun _ hk => hk.2) (.int .i64 ((rd_T38 l0 x6_1).f0))) (fun _ hk => hk.2) (.int .i64 ((rd_T38 l0 x6_1).f1))) (fun _ hk => hk.2) (.string ((rd_T38 l0 x6_1).f2))) (fun _ hk => hk.2) (.string ((rd_T38 l0 x6_1).f3))) (fun _ hk => hk.2) (.string ((rd_T38 l0 x6_1).f4.f0))) (fun _ hk => hk.2) (.slice A161_5 ((rd_T38 l0 x6_1).f4.f1).length c161_5)) (fun _ hk => hk.2) (.string ((rd_T38 l0 x6_1).f4.f2))) (fun _ hk => hk.2) (.string ((rd_T38 l0 x6_1).f5))) (fun _ hk => hk.2) (.bool ((rd_T38 l0 x6_1).f6))) (fun _ hk => ⟨hk.1.1.1, ⟨hk.1.1.2, hk.1.2⟩⟩)))⟩; have n3_ : Aside0 (w8.heap[gb162]? = some (.cells #[.int .i64 ((rd_T38 l0 x6_1).f0), .int .i64 ((rd_T38 l0 x6_1).f1), .string ((rd_T38 l0 x6_1).f2), .string ((rd_T38 l0 x6_1).f3), .string ((rd_T38 l0 x6_1).f4.f0), .slice A161_5 ((rd_T38 l0 x6_1).f4.f1).length c161_5, .string ((rd_T38 l0 x6_1).f4.f2), .string ((rd_T38 l0 x6_1).f5), .bool ((rd_T38 l0 x6_1).f6)] 38 (0, 0))) := ⟨(by rw [hw]; exact (by (with_reducible repeat (first | refine blk_drewN ?_ _ | refine blk_drew ?_ | refine blk_alloc ?_ _)); exact put9_ (by (with_reducible repeat (first | refine blk_drewN ?_ _ | refine blk_drew ?_ | refine blk_alloc ?_ _)); exact BK162.out)))⟩; have n4_ : Aside0 (Below w.heap.size w w8) := ⟨(by rw [hw]; exact (by repeat (first | (with_reducible first | exact HB.out | apply below_alloc | apply pw_below_drewN | apply below_drew1 | refine below_set ?_ GE162.out) | exact HB.out)))⟩; clear hw; clear HO_0; clear HO_5; clear HL161_5; clear BK162; clear HB; have HO_0 := n0_; have HO_5 := n1_; have HL161_5 := n2_; have BK162 := n3_; have HB := n4_; clear n0_ n1_ n2_ n3_ n4_; obtain ⟨hcz9_0, hcz9_1, hcz9_2, hcz9_3, hcz9_4, hcz9_5, hcz9_6, hcz9_7, hcz9_8⟩ := cells9_ BK162.out; obtain ⟨hfz9_0, hfz9_1, hfz9_2, hfz9_3, hfz9_4, hfz9_5, hfz9_6, hfz9_7, hfz9_8⟩ := frz9_ BK162.out) | ((with_reducible refine gate_store (t := 3) (p := 22) rfl ?_); refine store_event (t := 3) (p := 22) (v := ?vo_w10) (w1 := (w8.setCell ⟨gb162, 0, none⟩ (.int .i64 (wrap64 (((rd_T38 l0 x6_1).f0) + a1))))) ?hg ?ho ?hn ?hr ?_; (case ho => rfl); (case hg => rfl); (case hn => rfl); (case hr => first | (go_simp; done) | (go_simp; rfl)); intro w10 hw; have n0_ : Aside0 (Kd.V k38 38 w10 w.heap.size (fun k_ => (P0_ k_ ∨ w.heap.size ≤ k_) ∧ some k_ ≠ (u5 : Value).ownBlock ∧ k_ ≠ gb162) (.slice (some ad161) l0.length c0) l0) := ⟨(by rw [hw]; exact (by (with_reducible repeat (first | apply Kd.V_alloc | apply Kd.V_drewN | apply Kd.V_drew)); exact Kd.V_mono (Kd.V_far (p := ⟨gb162, 0, none⟩) (Kd.V_mono HO_0.out (fun k_ hk => (⟨hk, hk.2.2⟩ : _ ∧ k_ ≠ gb162))) (fun _ hk => hk.2) (.int .i64 (wrap64 (((rd_T38 l0 x6_1).f0) + a1)))) (fun _ hk => ⟨hk.1.1, ⟨hk.1.2.1, hk.1.2.2⟩⟩)))⟩; have n1_ : Aside0 (Kd.N k38 38 w10 w.heap.size (fun k_ => (P0_ k_ ∨ w.heap.size ≤ k_) ∧ k_ ≠ gb162) u5 x5_1) := ⟨(by rw [hw]; exact (by (with_reducible repeat (first | apply Kd.N_alloc | apply Kd.N_drewN | apply Kd.N_drew)); exact Kd.N_mono (Kd.N_far (p := ⟨gb162, 0, none⟩) (Kd.N_mono HO_5.out (fun k_ hk => (⟨hk, hk.2⟩ : _ ∧ k_ ≠ gb162))) (fun _ hk => hk.2) (.int .i64 (wrap64 (((rd_T38 l0 x6_1).f0) + a1)))) (fun _ hk => ⟨hk.1.1, hk.1.2⟩)))⟩; have n2_ : Aside0 (Kd.V Kd.string 9 w10 w.heap.size (fun k_ => (P0_ k_ ∨ w.heap.size ≤ k_) ∧ some k_ ≠ (u5 : Value).ownBlock ∧ k_ ≠ gb162) (.slice A161_5 ((rd_T38 l0 x6_1).f4.f1).length c161_5) ((rd_T38 l0 x6_1).f4.f1)) := ⟨(by rw [hw]; exact (by (with_reducible repeat (first | apply Kd.V_alloc | apply Kd.V_drewN | apply Kd.V_drew)); exact Kd.V_mono (Kd.V_far (p := ⟨gb162, 0, none⟩) (Kd.V_mono HL161_5.out (fun k_ hk => (⟨hk, hk.2.2⟩ : _ ∧ k_ ≠ gb162))) (fun _ hk => hk.2) (.int .i64 (wrap64 (((rd_T38 l0 x6_1).f0) + a1)))) (fun _ hk => ⟨hk.1.1, ⟨hk.1.2.1, hk.1.2.2⟩⟩)))⟩; have n3_ : Aside0 (w10.heap[gb162]? = some (.cells #[.int .i64 (wrap64 (((rd_T38 l0 x6_1).f0) + a1)), .int .i64 ((rd_T38 l0 x6_1).f1), .string ((rd_T38 l0 x6_1).f2), .string ((rd_T38 l0 x6_1).f3), .string ((rd_T38 l0 x6_1).f4.f0), .slice A161_5 ((rd_T38 l0 x6_1).f4.f1).length c161_5, .string ((rd_T38 l0 x6_1).f4.f2), .string ((rd_T38 l0 x6_1).f5), .bool ((rd_T38 l0 x6_1).f6)] 38 (0, 0))) := ⟨(by rw [hw]; exact (by (with_reducible repeat (first | refine blk_drewN ?_ _ | refine blk_drew ?_ | refine blk_alloc ?_ _)); refine blk_put (cs := #[.int .i64 ((rd_T38 l0 x6_1).f0), .int .i64 ((rd_T38 l0 x6_1).f1), .string ((rd_T38 l0 x6_1).f2), .string ((rd_T38 l0 x6_1).f3), .string ((rd_T38 l0 x6_1).f4.f0), .slice A161_5 ((rd_T38 l0 x6_1).f4.f1).length c161_5, .string ((rd_T38 l0 x6_1).f4.f2), .string ((rd_T38 l0 x6_1).f5), .bool ((rd_T38 l0 x6_1).f6)]) ?_ 0 _ rfl; (with_reducible repeat (first | refine blk_drewN ?_ _ | refine blk_drew ?_ | refine blk_alloc ?_ _)); exact BK162.out))⟩; have n4_ : Aside0 (Below w.heap.size w w10) := ⟨(by rw [hw]; exact (by repeat (first | (with_reducible first | exact HB.out | apply below_alloc | apply pw_below_drewN | apply below_drew1 | refine below_set ?_ GE162.out) | exact HB.out)))⟩; clear hw; clear HO_0; clear HO_5; clear HL161_5; clear BK162; clear HB; have HO_0 := n0_; have HO_5 := n1_; have HL161_5 := n2_; have BK162 := n3_; have HB := n4_; clear n0_ n1_ n2_ n3_ n4_; obtain ⟨hcz11_0, hcz11_1, hcz11_2, hcz11_3, hcz11_4, hcz11_5, hcz11_6, hcz11_7, hcz11_8⟩ := cells9_ BK162.out; obtain ⟨hfz11_0, hfz11_1, hfz11_2, hfz11_3, hfz11_4, hfz11_5, hfz11_6, hfz11_7, hfz11_8⟩ := frz9_ BK162.out) | ((with_reducible refine gate_builtin (b := .append) (xs := #[.tmp 23, .tmp 25]) rfl ?_); at_builtin; refine Kd.N_append k38 (w0 := w) w.heap.size rfl (.tmp 23) (.tmp 25) 23 38 (.agg #[(.int .i64 0), (.int .i64 0), (.string ⟨#[]⟩), (.string ⟨#[]⟩), (.string ⟨#[]⟩), (.slice none 0 0), (.string ⟨#[]⟩), (.string ⟨#[]⟩), (.bool false)]) 128 rfl Tryd.underlying23 info38 rfl (by decide) (by omega) u5 x5_1 (⟨wrap64 (((rd_T38 l0 x6_1).f0) + a1), (rd_T38 l0 x6_1).f1, (rd_T38 l0 x6_1).f2, (rd_T38 l0 x6_1).f3, (⟨(rd_T38 l0 x6_1).f4.f0, (rd_T38 l0 x6_1).f4.f1, (rd_T38 l0 x6_1).f4.f2⟩ : S36), (rd_T38 l0 x6_1).f5, (rd_T38 l0 x6_1).f6⟩ : S38) [.int .i64 (wrap64 (((rd_T38 l0 x6_1).f0) + a1)), .int .i64 ((rd_T38 l0 x6_1).f1), .string ((rd_T38 l0 x6_1).f2), .string ((rd_T38 l0 x6_1).f3), .string ((rd_T38 l0 x6_1).f4.f0), .slice A161_5 ((rd_T38 l0 x6_1).f4.f1).length c161_5, .string ((rd_T38 l0 x6_1).f4.f2), .string ((rd_T38 l0 x6_1).f5), .bool ((rd_T38 l0 x6_1).f6)] (fun k_ => (P0_ k_ ∨ w.heap.size ≤ k_) ∧ k_ ≠ gb162) (fun k_ => ((fun k_ => (P0_ k_ ∨ w.heap.size ≤ k_) ∧ k_ ≠ gb162)) k_ ∧ some k_ ≠ (u5 : Value).ownBlock) rfl rfl ?aP (fun _ hk => hk) ?aF ?aO ?aB ?aS ?aL ?_; (case aP => exact (k38_mkF _ _ (⟨wrap64 (((rd_T38 l0 x6_1).f0) + a1), (rd_T38 l0 x6_1).f1, (rd_T38 l0 x6_1).f2, (rd_T38 l0 x6_1).f3, (⟨(rd_T38 l0 x6_1).f4.f0, (rd_T38 l0 x6_1).f4.f1, (rd_T38 l0 x6_1).f4.f2⟩ : S36), (rd_T38 l0 x6_1).f5, (rd_T38 l0 x6_1).f6⟩ : S38) (Kd.V_reads' (Kd.V_mono (ok' := (fun k_ => ((fun k_ => (P0_ k_ ∨ w.heap.size ≤ k_) ∧ k_ ≠ gb162)) k_ ∧ some k_ ≠ (u5 : Value).ownBlock)) (HL161_5.out) (fun k_ hk => ⟨⟨hk.1, hk.2.2⟩, hk.2.1⟩))).2.1 (Kd.V_F (Kd.V_mono (ok' := (fun k_ => ((fun k_ => (P0_ k_ ∨ w.heap.size ≤ k_) ∧ k_ ≠ gb162)) k_ ∧ some k_ ≠ (u5 : Value).ownBlock)) (HL161_5.out) (fun k_ hk => ⟨⟨hk.1, hk.2.2⟩, hk.2.1⟩))))); (case aB => exact (by repeat (first | (with_reducible first | exact HB.out | apply below_alloc | apply pw_below_drewN | apply below_drew1 | refine below_set ?_ GE162.out) | exact HB.out))); (case aF => exact (fun k_ hk => ⟨(.inr (Nat.le_trans (below_size (by repeat (first | (with_reducible first | exact HB.out | apply below_alloc | apply pw_below_drewN | apply below_drew1 | refine below_set ?_ GE162.out) | exact HB.out))) hk)), Kd.freshB (g := gb162) (o := .cells #[.int .i64 (wrap64 (((rd_T38 l0 x6_1).f0) + a1)), .int .i64 ((rd_T38 l0 x6_1).f1), .string ((rd_T38 l0 x6_1).f2), .string ((rd_T38 l0 x6_1).f3), .string ((rd_T38 l0 x6_1).f4.f0), .slice A161_5 ((rd_T38 l0 x6_1).f4.f1).length c161_5, .string ((rd_T38 l0 x6_1).f4.f2), .string ((rd_T38 l0 x6_1).f5), .bool ((rd_T38 l0 x6_1).f6)] 38 (0, 0)) (by (with_reducible repeat (first | refine blk_drewN ?_ _ | refine blk_drew ?_ | refine blk_alloc ?_ _)); exact BK162.out) k_ hk⟩)); (case aO => exact (by (with_reducible repeat (first | apply Kd.N_alloc | apply Kd.N_drewN | apply Kd.N_drew)); exact HO_5.out)); (case aS => exact (below_size (by repeat (first | (with_reducible first | exact HB.out | apply below_alloc | apply pw_below_drewN | apply below_drew1 | refine below_set ?_ GE162.out) | exact HB.out)))); (case aL => have := LMc5.out; omega); intro v164 w12 ho hb hg hat; rw [← Ny163.out] at ho; have n0_ := Aside0.mk (Kd.V_afterv (ok := (fun k_ => (P0_ k_ ∨ w.heap.size ≤ k_) ∧ k_ ≠ gb162)) (by (with_reducible repeat (first | apply Kd.V_alloc | apply Kd.V_drewN | apply Kd.V_drew)); exact Kd.V_mono HO_0.out (fun _ hk => ⟨⟨hk.1, hk.2.2⟩, hk.2.1⟩)) hg hat); have n1_ := Aside0.mk (Kd.V_afterv (ok := (fun k_ => (P0_ k_ ∨ w.heap.size ≤ k_) ∧ k_ ≠ gb162)) (by (with_reducible repeat (first | apply Kd.V_alloc | apply Kd.V_drewN | apply Kd.V_drew)); exact Kd.V_mono HL161_5.out (fun _ hk => ⟨⟨hk.1, hk.2.2⟩, hk.2.1⟩)) hg hat); have n2_ := Aside0.mk (blk_grown (g := gb162) (o := .cells #[.int .i64 (wrap64 (((rd_T38 l0 x6_1).f0) + a1)), .int .i64 ((rd_T38 l0 x6_1).f1), .string ((rd_T38 l0 x6_1).f2), .string ((rd_T38 l0 x6_1).f3), .string ((rd_T38 l0 x6_1).f4.f0), .slice A161_5 ((rd_T38 l0 x6_1).f4.f1).length c161_5, .string ((rd_T38 l0 x6_1).f4.f2), .string ((rd_T38 l0 x6_1).f5), .bool ((rd_T38 l0 x6_1).f6)] 38 (0, 0)) (by (with_reducible repeat (first | refine blk_drewN ?_ _ | refine blk_drew ?_ | refine blk_alloc ?_ _)); exact BK162.out) hg (Kd.N_away HO_5.out (fun _ hk => hk.2))); have n3_ := Aside0.mk (hb); have n4_ := Aside0.mk (ho); clear HO_0; clear HL161_5; clear BK162; clear HB; clear HO_5; have HO_0 := n0_; have HL161_5 := n1_; have BK162 := n2_; have HB := n3_; have HO165 := n4_; clear n0_ n1_ n2_ n3_ n4_; clear ho hb hg hat))
      go_roundg k1
      case measure => have := HK1.out; omega
      case rel => exact ⟨(y163), (wrap64 (x6_1 + 1)), (by first | rfl | (simp; done) | (simp [*]; done) | (simp [isEmpty_ne_]; done)), H', ⟨by have := HK1.out; omega⟩, ⟨by (with_reducible repeat (first | apply Kd.V_alloc | apply Kd.V_drewN | apply Kd.V_drew)); exact Kd.V_mono HO_0.out (fun _ hk => ⟨hk.1.1, hk.2⟩)⟩, ⟨by (with_reducible repeat (first | apply Kd.N_alloc | apply Kd.N_drewN | apply Kd.N_drew)); exact Kd.N_mono HO165.out (fun _ hk => hk.1)⟩, ⟨by repeat (first | (with_reducible first | exact HB.out | apply below_alloc | apply pw_below_drewN | apply below_drew1 | refine below_set ?_ GE162.out) | exact HB.out)⟩⟩
     ·rw [if_neg c5] at H
      exact absurd H (by simp)
    ·rw [if_neg c4] at H
     exact absurd H (by simp)
   ·rw [if_neg c3] at H
    have c3b0 : decide (x6_1 < (l0.length : Int)) = false := decide_eq_false c3
    clear c3
    obtain rfl := Option.some.inj H
    go_wp2
    go_ret
    exact ⟨_, by first | rfl | (simp [isEmpty_ne_]; done) | (simp [*, errW_none, errW_some] <;> rfl), by (with_reducible repeat (first | apply Kd.N_alloc | apply Kd.N_drewN | apply Kd.N_drew)); exact HO_5.out, by repeat (first | (with_reducible first | exact HB.out | apply below_alloc | apply pw_below_drewN | apply below_drew1) | exact HB.out)⟩

/-! ### rosterref12_Depth: function 14 -/
def rosterref12_Depth.l0 : Nat → List (S38) → Int → Int → Option (Int)
 | 0, _, _, _ => none
 | k + 1, x0, x3, x4 => if x4 < (x0.length : Int) then (if 0 ≤ x4 then (if ((rd_T38 x0 x4).f0) > x3 then (rosterref12_Depth.l0 k x0 ((rd_T38 x0 x4).f0) (wrap64 (x4 + 1))) else (rosterref12_Depth.l0 k x0 x3 (wrap64 (x4 + 1)))) else (none)) else (some x3)
def rosterref12_Depth.f (k : Nat) (l0 : List (S38)) : Option (Int) := rosterref12_Depth.l0 k l0 0 0
theorem rosterref12_Depth.mono_l : ∀ k, (∀ y0 y1 y2, LeO (rosterref12_Depth.l0 k y0 y1 y2) (rosterref12_Depth.l0 (k + 1) y0 y1 y2))
 | 0 => fun _ _ _ r h => by simp [rosterref12_Depth.l0] at h
 | k + 1 => by
  have ih0 := rosterref12_Depth.mono_l k
  ·intro y0 y1 y2
   unfold rosterref12_Depth.l0
   repeat' first
   | (with_reducible exact ih0 _ _ _)
   | (with_reducible exact LeO.refl _)
   | (with_reducible exact LeO.none _)
   | (with_reducible refine LeO.ite ?_ ?_)
   | (with_reducible refine LeO.bind ?_ (fun _ => ?_))
   | exact ih0 _ _ _
   | exact LeO.none _
   | refine LeO.ite ?_ ?_
   | refine LeO.bind ?_ (fun _ => ?_)
theorem rosterref12_Depth.mono : ∀ a0 k, LeO (rosterref12_Depth.f k a0) (rosterref12_Depth.f (k + 1) a0) := by
 intro a0 k
 have ih0 := rosterref12_Depth.mono_l k
 unfold rosterref12_Depth.f
 repeat' first
   | (with_reducible exact ih0 _ _ _)
   | (with_reducible exact LeO.refl _)
   | (with_reducible exact LeO.none _)
   | (with_reducible refine LeO.ite ?_ ?_)
   | (with_reducible refine LeO.bind ?_ (fun _ => ?_))
   | exact ih0 _ _ _
   | exact LeO.none _
   | refine LeO.ite ?_ ?_
   | refine LeO.bind ?_ (fun _ => ?_)
set_option maxHeartbeats 8000000 in
set_option maxRecDepth 100000 in
theorem rosterref12_Depth.calls (k : Nat) (A0 : Option Addr) (c0 : Nat) (l0 : List (S38)) (r : Int) (w : World) (hr0 : Kd.C k38 w A0 l0.length l0) (hc0 : l0.length ≤ c0) (h : rosterref12_Depth.f k l0 = some r) :
  Calls Tryd.prog 14 #[.slice A0 l0.length c0] w fun e w' => e = .returned (.int .i64 r) ∧ Drawn0 w w' := by
 have HR0 := Aside0.mk hr0
 have HC0 := Aside0.mk hc0
 clear hr0 hc0
 have H : (rosterref12_Depth.l0 k l0 0 0) = some r := h
 clear h
 have H' := Aside0.mk H
 clear H
 go_enter Tryd.func14, Tryd.ntmps14
 go_wp2
 go_loopg [3, 4] k (fun kq v3 v4 w' => ∃ (x3_1 : Int) (x4_1 : Int), v3 = .int .i64 x3_1 ∧ v4 = .int .i64 x4_1 ∧ Aside0 (rosterref12_Depth.l0 kq l0 x3_1 x4_1 = some r) ∧ Aside0 (kq ≤ k) ∧ Drawn0 w w')
 case atStart => exact ⟨(0), (0), (by first | rfl | (simp; done) | (simp [*]; done) | (simp [isEmpty_ne_]; done)), (by first | rfl | (simp; done) | (simp [*]; done) | (simp [isEmpty_ne_]; done)), H', ⟨Nat.le_refl _⟩, by repeat (first | exact Drawn0.refl _ | apply Drawn0.step)⟩
 case round =>
  clear H'
  try clear c1
  obtain ⟨x3_1, x4_1, rfl, rfl, HA, HK1, ⟨m1, rfl⟩⟩ := hrel
  cases gk with
  | zero => exact absurd HA.out (by simp [rosterref12_Depth.l0])
  | succ k1 =>
   have H := HA.out
   clear HA
   simp only [rosterref12_Depth.l0] at H
   by_cases c2 : x4_1 < (l0.length : Int)
   ·rw [if_pos c2] at H
    have c2b0 : decide (x4_1 < (l0.length : Int)) = true := decide_eq_true c2
    clear c2
    by_cases c3 : 0 ≤ x4_1
    ·rw [if_pos c3] at H
     have c3b0 : decide (0 ≤ x4_1) = true := decide_eq_true c3
     clear c3
     by_cases c4 : ((rd_T38 l0 x4_1).f0) > x3_1
     ·rw [if_pos c4] at H
      have c4b0 : decide (x3_1 < ((rd_T38 l0 x4_1).f0)) = true := decide_eq_true c4
      clear c4
      have H' := Aside0.mk H
      clear H
      have p166 : 0 ≤ (x4_1 : Int) := of_decide_eq_true (by first | (with_reducible assumption) | assumption)
      have q166 : x4_1 < (l0.length : Int) := of_decide_eq_true (by first | (with_reducible assumption) | assumption)
      obtain ⟨ad166, A166_5, c166_5, e166, hx166_0, hx166_1, hx166_2, hx166_3, hx166_4, hx166_5, hx166_6, hx166_7, hx166_8, hl166_5, hi166_5⟩ := at_T38 HR0.out x4_1 p166 q166
      cases e166
      have HR166_5 := Aside0.mk hi166_5
      have HC166_5 := Aside0.mk hl166_5
      clear hi166_5 hl166_5
      replace p166 := eq_true p166
      replace q166 := eq_true q166
      have p167 : 0 ≤ (x4_1 : Int) := of_decide_eq_true (by first | (with_reducible assumption) | assumption)
      have q167 : x4_1 < (l0.length : Int) := of_decide_eq_true (by first | (with_reducible assumption) | assumption)
      obtain ⟨ad167, A167_5, c167_5, e167, hx167_0, hx167_1, hx167_2, hx167_3, hx167_4, hx167_5, hx167_6, hx167_7, hx167_8, hl167_5, hi167_5⟩ := at_T38 HR0.out x4_1 p167 q167
      obtain rfl : ad166 = ad167 := (by injection e167)
      have HR167_5 := Aside0.mk hi167_5
      have HC167_5 := Aside0.mk hl167_5
      clear hi167_5 hl167_5
      replace p167 := eq_true p167
      replace q167 := eq_true q167
      have ea_ := Option.some.inj (hx166_5.symm.trans hx167_5)
      injection ea_ with ea_ en_ ec_
      subst ea_
      subst ec_
      clear en_
      go_wp2
      go_roundg k1
      case measure => have := HK1.out; omega
      case rel => exact ⟨((rd_T38 l0 x4_1).f0), (wrap64 (x4_1 + 1)), (by first | rfl | (simp; done) | (simp [*]; done) | (simp [isEmpty_ne_]; done)), (by first | rfl | (simp; done) | (simp [*]; done) | (simp [isEmpty_ne_]; done)), H', ⟨by have := HK1.out; omega⟩, by repeat (first | exact Drawn0.refl _ | apply Drawn0.step)⟩
     ·rw [if_neg c4] at H
      have c4b0 : decide (x3_1 < ((rd_T38 l0 x4_1).f0)) = false := decide_eq_false c4
      clear c4
      have H' := Aside0.mk H
      clear H
      have p166 : 0 ≤ (x4_1 : Int) := of_decide_eq_true (by first | (with_reducible assumption) | assumption)
      have q166 : x4_1 < (l0.length : Int) := of_decide_eq_true (by first | (with_reducible assumption) | assumption)
      obtain ⟨ad166, A166_5, c166_5, e166, hx166_0, hx166_1, hx166_2, hx166_3, hx166_4, hx166_5, hx166_6, hx166_7, hx166_8, hl166_5, hi166_5⟩ := at_T38 HR0.out x4_1 p166 q166
      cases e166
      have HR166_5 := Aside0.mk hi166_5
      have HC166_5 := Aside0.mk hl166_5
      clear hi166_5 hl166_5
      replace p166 := eq_true p166
      replace q166 := eq_true q166
      go_wp2
      go_roundg k1
      case measure => have := HK1.out; omega
      case rel => exact ⟨(x3_1), (wrap64 (x4_1 + 1)), (by first | rfl | (simp; done) | (simp [*]; done) | (simp [isEmpty_ne_]; done)), (by first | rfl | (simp; done) | (simp [*]; done) | (simp [isEmpty_ne_]; done)), H', ⟨by have := HK1.out; omega⟩, by repeat (first | exact Drawn0.refl _ | apply Drawn0.step)⟩
    ·rw [if_neg c3] at H
     exact absurd H (by simp)
   ·rw [if_neg c2] at H
    have c2b0 : decide (x4_1 < (l0.length : Int)) = false := decide_eq_false c2
    clear c2
    obtain rfl := Option.some.inj H
    go_wp2
    go_ret
    exact ⟨by first | rfl | (simp; done) | (simp [*]; done) | (simp [isEmpty_ne_]; done), by repeat (first | exact Drawn0.refl _ | apply Drawn0.step)⟩

end Go.Proofs.YtaimjacpenofpaaDoor.GC
