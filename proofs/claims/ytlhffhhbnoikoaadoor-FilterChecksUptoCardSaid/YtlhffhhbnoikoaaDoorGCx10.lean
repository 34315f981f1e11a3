-- Written for this claim by a program of this session (wip/tools/p2.py).
import Derived.Test.YtlhffhhbnoikoaaDoorGCx0
import Derived.Test.YtlhffhhbnoikoaaDoorGCx7
import Derived.Test.YtlhffhhbnoikoaaDoorGCx8
import Derived.Test.YtlhffhhbnoikoaaDoorGCx9
namespace Go.Proofs.YtlhffhhbnoikoaaDoor.GC
open Go.RowKit Go.Proofs.YtlhffhhbnoikoaaDoorW.PrintWords Go.Proofs.YtlhffhhbnoikoaaDoorW.PrintLast Go.Proofs.YtlhffhhbnoikoaaDoorW.PrintMore
attribute [local go_sem] max2_int min2_int max_two min_two max_three min_three max_four min_four   -- for this text's walks alone
set_option linter.unusedVariables false
set_option linter.unusedSimpArgs false

/-! ### rosterref12_Check: function 6 -/
mutual
def rosterref12_Check.l0 : Nat → List (S34) → Int → Option (Int × Int)
 | 0, _, _ => none
 | k + 1, x0, x4 => if x4 < (x0.length : Int) then ((rosterref12_follows.f x0 x4).bind fun t178 => (if t178 = true then (if 0 ≤ x4 then (if ((rd_T34 x0 x4).f0) > 64 then (some (121, x4)) else ((rosterref12_fields.f k ((rd_T34 x0 x4).f0) ((rd_T34 x0 x4).f1) ((rd_T34 x0 x4).f2) ((rd_T34 x0 x4).f3) ((rd_T34 x0 x4).f4.f0) ((rd_T34 x0 x4).f4.f1) ((rd_T34 x0 x4).f4.f2) ((rd_T34 x0 x4).f5) ((rd_T34 x0 x4).f6)).bind fun t181 => (if t181 = true then ((rosterref12_second.f k x0 x4).bind fun t182 => (rosterref12_Check.j1 k x0 x4 t182)) else (rosterref12_Check.j1 k x0 x4 true)))) else (none)) else (some (120, x4)))) else (some (0, 0))
def rosterref12_Check.j1 : Nat → List (S34) → Int → Bool → Option (Int × Int)
 | 0, _, _, _ => none
 | k + 1, x0, x4, x36 => if x36 = true then (some (120, x4)) else (if 0 ≤ x4 then (if x4 < (x0.length : Int) then (if ((rd_T34 x0 x4).f1) = 2 then (if (wrap64 (x4 + 1)) ≥ (x0.length : Int) then (some (120, x4)) else (if 0 ≤ (wrap64 (x4 + 1)) then (if (wrap64 (x4 + 1)) < (x0.length : Int) then (if ((rd_T34 x0 (wrap64 (x4 + 1))).f0) = (wrap64 (((rd_T34 x0 x4).f0) + 1)) then (rosterref12_Check.l0 k x0 (wrap64 (x4 + 1))) else (some (120, x4))) else (none)) else (none))) else (rosterref12_Check.l0 k x0 (wrap64 (x4 + 1)))) else (none)) else (none))
end
def rosterref12_Check.f (k : Nat) (l0 : List (S34)) : Option (Int × Int) := if (l0.length : Int) = 0 then (some (120, 0)) else (rosterref12_Check.l0 k l0 0)
theorem rosterref12_Check.mono_l : ∀ k, (∀ y0 y1, LeO (rosterref12_Check.l0 k y0 y1) (rosterref12_Check.l0 (k + 1) y0 y1)) ∧ (∀ y0 y1 y2, LeO (rosterref12_Check.j1 k y0 y1 y2) (rosterref12_Check.j1 (k + 1) y0 y1 y2))
 | 0 => ⟨fun _ _ r h => by simp [rosterref12_Check.l0] at h, fun _ _ _ r h => by simp [rosterref12_Check.j1] at h⟩
 | k + 1 => by
  obtain ⟨ih0, ih1⟩ := rosterref12_Check.mono_l k
  refine ⟨?_, ?_⟩
  ·intro y0 y1
   unfold rosterref12_Check.l0
   repeat' first
   | (with_reducible exact ih0 _ _)
   | (with_reducible exact ih1 _ _ _)
   | (with_reducible exact rosterref12_fields.mono _ _ _ _ _ _ _ _ _ _)
   | (with_reducible exact rosterref12_second.mono _ _ _)
   | (with_reducible exact LeO.refl _)
   | (with_reducible exact LeO.none _)
   | (with_reducible refine LeO.ite ?_ ?_)
   | (with_reducible refine LeO.bind ?_ (fun _ => ?_))
   | exact ih0 _ _
   | exact ih1 _ _ _
   | exact rosterref12_fields.mono _ _ _ _ _ _ _ _ _ _
   | exact rosterref12_second.mono _ _ _
   | exact LeO.none _
   | refine LeO.ite ?_ ?_
   | refine LeO.bind ?_ (fun _ => ?_)
  ·intro y0 y1 y2
   unfold rosterref12_Check.j1
   repeat' first
   | (with_reducible exact ih0 _ _)
   | (with_reducible exact ih1 _ _ _)
   | (with_reducible exact rosterref12_fields.mono _ _ _ _ _ _ _ _ _ _)
   | (with_reducible exact rosterref12_second.mono _ _ _)
   | (with_reducible exact LeO.refl _)
   | (with_reducible exact LeO.none _)
   | (with_reducible refine LeO.ite ?_ ?_)
   | (with_reducible refine LeO.bind ?_ (fun _ => ?_))
   | exact ih0 _ _
   | exact ih1 _ _ _
   | exact rosterref12_fields.mono _ _ _ _ _ _ _ _ _ _
   | exact rosterref12_second.mono _ _ _
   | exact LeO.none _
   | refine LeO.ite ?_ ?_
   | refine LeO.bind ?_ (fun _ => ?_)
theorem rosterref12_Check.mono : ∀ a0 k, LeO (rosterref12_Check.f k a0) (rosterref12_Check.f (k + 1) a0) := by
 intro a0 k
 obtain ⟨ih0, ih1⟩ := rosterref12_Check.mono_l k
 unfold rosterref12_Check.f
 repeat' first
   | (with_reducible exact ih0 _ _)
   | (with_reducible exact ih1 _ _ _)
   | (with_reducible exact rosterref12_fields.mono _ _ _ _ _ _ _ _ _ _)
   | (with_reducible exact rosterref12_second.mono _ _ _)
   | (with_reducible exact LeO.refl _)
   | (with_reducible exact LeO.none _)
   | (with_reducible refine LeO.ite ?_ ?_)
   | (with_reducible refine LeO.bind ?_ (fun _ => ?_))
   | exact ih0 _ _
   | exact ih1 _ _ _
   | exact rosterref12_fields.mono _ _ _ _ _ _ _ _ _ _
   | exact rosterref12_second.mono _ _ _
   | exact LeO.none _
   | refine LeO.ite ?_ ?_
   | refine LeO.bind ?_ (fun _ => ?_)
set_option maxHeartbeats 8000000 in
set_option maxRecDepth 100000 in
theorem rosterref12_Check.calls (k : Nat) (A0 : Option Addr) (c0 : Nat) (l0 : List (S34)) (r1 : Int) (r2 : Int) (w : World) (hr0 : Kd.C k34 w A0 l0.length l0) (hc0 : l0.length ≤ c0) (h : rosterref12_Check.f k l0 = some (r1, r2)) (hT : W.TabW w) :
  Calls Tryd.prog 6 #[.slice A0 l0.length c0] w fun e w' => e = .returned (.tuple #[.int .i64 r1, .int .i64 r2]) ∧ Below w.heap.size w w' := by
 have HTB := Aside0.mk hT
 clear hT
 have hu34 := Tryd.underlying34
 have HR0 := Aside0.mk hr0
 have HC0 := Aside0.mk hc0
 clear hr0 hc0
 have HB := Aside0.mk (Below.refl w.heap.size w)
 have H : (if (l0.length : Int) = 0 then (some (120, 0)) else (rosterref12_Check.l0 k l0 0)) = some (r1, r2) := h
 clear h
 by_cases c2 : (l0.length : Int) = 0
 ·rw [if_pos c2] at H
  have c2b0 : ((l0.length : Int) == 0) = true := beq_iff_eq.mpr c2
  have c2b1 : ((l0.length : Int) != 0) = false := bne_eq_false_iff_eq.mpr c2
  clear c2
  simp only [Option.some.injEq, Prod.mk.injEq] at H
  obtain ⟨rfl, rfl⟩ := H
  go_enter Tryd.func6, Tryd.ntmps6
  go_wp2
  repeat (go_quiet (fail); try go_wp2)
  go_ret2
  exact ⟨by first | rfl | (simp [isEmpty_ne_]; done) | (simp [*, errW_none, errW_some] <;> rfl), by repeat (first | (with_reducible first | exact HB.out | apply below_alloc | apply pw_below_drewN | apply below_drew1) | exact HB.out)⟩
 ·rw [if_neg c2] at H
  have c2b0 : ((l0.length : Int) == 0) = false := beq_eq_false_iff_ne.mpr c2
  have c2b1 : ((l0.length : Int) != 0) = true := bne_iff_ne.mpr c2
  have c2b2 : ¬ (l0 = []) := fun h_ => c2 (by rw [h_]; rfl)
  have H' := Aside0.mk H
  clear H
  go_enter Tryd.func6, Tryd.ntmps6
  go_wp2
  repeat (go_quiet (fail); try go_wp2)
  go_loopg [4] k (fun kq v4 w' => ∃ (x4_1 : Int), v4 = .int .i64 x4_1 ∧ Aside0 (rosterref12_Check.l0 kq l0 x4_1 = some (r1, r2)) ∧ Aside0 (kq ≤ k) ∧ Aside0 (Below w.heap.size w w'))
  case atStart => exact ⟨(0), (by first | rfl | (simp; done) | (simp [*]; done) | (simp [isEmpty_ne_]; done)), H', ⟨Nat.le_refl _⟩, ⟨by repeat (first | (with_reducible first | exact HB.out | apply below_alloc | apply pw_below_drewN | apply below_drew1) | exact HB.out)⟩⟩
  case round =>
   clear H'
   try clear c2
   try clear c2b0
   try clear c2b1
   try clear c2b2
   try clear p2
   obtain ⟨x4_1, rfl, HA, HK1, HB⟩ := hrel
   cases gk with
   | zero => exact absurd HA.out (by simp [rosterref12_Check.l0])
   | succ k1 =>
    have H := HA.out
    clear HA
    simp only [rosterref12_Check.l0] at H
    by_cases c3 : x4_1 < (l0.length : Int)
    ·rw [if_pos c3] at H
     have c3b0 : decide (x4_1 < (l0.length : Int)) = true := decide_eq_true c3
     clear c3
     replace H := Option.bind_eq_some_iff.mp H
     obtain ⟨t178, A40, H⟩ := H
     replace H : (if t178 = true then (if 0 ≤ x4_1 then (if ((rd_T34 l0 x4_1).f0) > 64 then (some (121, x4_1)) else ((rosterref12_fields.f k1 ((rd_T34 l0 x4_1).f0) ((rd_T34 l0 x4_1).f1) ((rd_T34 l0 x4_1).f2) ((rd_T34 l0 x4_1).f3) ((rd_T34 l0 x4_1).f4.f0) ((rd_T34 l0 x4_1).f4.f1) ((rd_T34 l0 x4_1).f4.f2) ((rd_T34 l0 x4_1).f5) ((rd_T34 l0 x4_1).f6)).bind fun t181 => (if t181 = true then ((rosterref12_second.f k1 l0 x4_1).bind fun t182 => (rosterref12_Check.j1 k1 l0 x4_1 t182)) else (rosterref12_Check.j1 k1 l0 x4_1 true)))) else (none)) else (some (120, x4_1))) = some (r1, r2) := H
     have A4 := Aside0.mk A40
     clear A40
     by_cases c5 : t178 = true
     ·subst c5
      have H1 : (if 0 ≤ x4_1 then (if ((rd_T34 l0 x4_1).f0) > 64 then (some (121, x4_1)) else ((rosterref12_fields.f k1 ((rd_T34 l0 x4_1).f0) ((rd_T34 l0 x4_1).f1) ((rd_T34 l0 x4_1).f2) ((rd_T34 l0 x4_1).f3) ((rd_T34 l0 x4_1).f4.f0) ((rd_T34 l0 x4_1).f4.f1) ((rd_T34 l0 x4_1).f4.f2) ((rd_T34 l0 x4_1).f5) ((rd_T34 l0 x4_1).f6)).bind fun t181 => (if t181 = true then ((rosterref12_second.f k1 l0 x4_1).bind fun t182 => (rosterref12_Check.j1 k1 l0 x4_1 t182)) else (rosterref12_Check.j1 k1 l0 x4_1 true)))) else (none)) = some (r1, r2) := by rw [if_pos rfl] at H; exact H
      clear H
      have H := H1
      clear H1
      by_cases c6 : 0 ≤ x4_1
      ·rw [if_pos c6] at H
       have c6b0 : decide (0 ≤ x4_1) = true := decide_eq_true c6
       clear c6
       by_cases c7 : ((rd_T34 l0 x4_1).f0) > 64
       ·rw [if_pos c7] at H
        have c7b0 : decide (64 < ((rd_T34 l0 x4_1).f0)) = true := decide_eq_true c7
        clear c7
        simp only [Option.some.injEq, Prod.mk.injEq] at H
        obtain ⟨rfl, rfl⟩ := H
        iterate 9 (try (first | go_quiet (fail) | go_wp2_with (first | (go_at_call 12; (with_reducible refine (rosterref12_follows.calls _ _ l0 x4_1 true _ ?side1 ?side2 A4.out).mono ?_); (case side1 => repeat (first | exact (Kd.C_below HR0.out HB.out) | exact (Kd.C_below (Aside0.out (by assumption)) HB.out) | (with_reducible refine Kd.C_alloc ?_ _) | (with_reducible refine Kd.C_drewN ?_ _) | (with_reducible refine Kd.C_drew ?_))); (case side2 => exact HC0.out); rintro e w8 ⟨rfl, hb⟩; have n0_ := Aside0.mk (below_step (by repeat (first | (with_reducible first | exact HB.out | apply below_alloc | apply pw_below_drewN | apply below_drew1) | exact HB.out)) hb); clear HB; have HB := n0_; clear n0_; (try clear hb); (try clear hb2); (try clear hk); (try clear hi); have p179 : 0 ≤ (x4_1 : Int) := of_decide_eq_true (by first | (with_reducible assumption) | assumption); have q179 : x4_1 < (l0.length : Int) := of_decide_eq_true (by first | (with_reducible assumption) | assumption); obtain ⟨ad179, A179_5, c179_5, e179, hx179_0, hx179_1, hx179_2, hx179_3, hx179_4, hx179_5, hx179_6, hx179_7, hx179_8, hl179_5, hi179_5⟩ := at_T34 HR0.out x4_1 p179 q179; cases e179; replace hx179_0 := cellB_ HB.out hx179_0; replace hx179_1 := cellB_ HB.out hx179_1; replace hx179_2 := cellB_ HB.out hx179_2; replace hx179_3 := cellB_ HB.out hx179_3; replace hx179_4 := cellB_ HB.out hx179_4; replace hx179_5 := cellB_ HB.out hx179_5; replace hx179_6 := cellB_ HB.out hx179_6; replace hx179_7 := cellB_ HB.out hx179_7; replace hx179_8 := cellB_ HB.out hx179_8; have HR179_5 := Aside0.mk hi179_5; have HC179_5 := Aside0.mk hl179_5; clear hi179_5 hl179_5; replace p179 := eq_true p179; replace q179 := eq_true q179))))
        go_ret2
        exact ⟨by first | rfl | (simp [isEmpty_ne_]; done) | (simp [*, errW_none, errW_some] <;> rfl), by repeat (first | (with_reducible first | exact HB.out | apply below_alloc | apply pw_below_drewN | apply below_drew1) | exact HB.out)⟩
       ·rw [if_neg c7] at H
        have c7b0 : decide (64 < ((rd_T34 l0 x4_1).f0)) = false := decide_eq_false c7
        clear c7
        have HC9 := Aside0.mk H
        clear H
        go_upto_region 10 with (first | (go_at_call 12; (with_reducible refine (rosterref12_follows.calls _ _ l0 x4_1 true _ ?side1 ?side2 A4.out).mono ?_); (case side1 => repeat (first | exact (Kd.C_below HR0.out HB.out) | exact (Kd.C_below (Aside0.out (by assumption)) HB.out) | (with_reducible refine Kd.C_alloc ?_ _) | (with_reducible refine Kd.C_drewN ?_ _) | (with_reducible refine Kd.C_drew ?_))); (case side2 => exact HC0.out); rintro e w10 ⟨rfl, hb⟩; have n0_ := Aside0.mk (below_step (by repeat (first | (with_reducible first | exact HB.out | apply below_alloc | apply pw_below_drewN | apply below_drew1) | exact HB.out)) hb); clear HB; have HB := n0_; clear n0_; (try clear hb); (try clear hb2); (try clear hk); (try clear hi); have p179 : 0 ≤ (x4_1 : Int) := of_decide_eq_true (by first | (with_reducible assumption) | assumption); have q179 : x4_1 < (l0.length : Int) := of_decide_eq_true (by first | (with_reducible assumption) | assumption); obtain ⟨ad179, A179_5, c179_5, e179, hx179_0, hx179_1, hx179_2, hx179_3, hx179_4, hx179_5, hx179_6, hx179_7, hx179_8, hl179_5, hi179_5⟩ := at_T34 HR0.out x4_1 p179 q179; cases e179; replace hx179_0 := cellB_ HB.out hx179_0; replace hx179_1 := cellB_ HB.out hx179_1; replace hx179_2 := cellB_ HB.out hx179_2; replace hx179_3 := cellB_ HB.out hx179_3; replace hx179_4 := cellB_ HB.out hx179_4; replace hx179_5 := cellB_ HB.out hx179_5; replace hx179_6 := cellB_ HB.out hx179_6; replace hx179_7 := cellB_ HB.out hx179_7; replace hx179_8 := cellB_ HB.out hx179_8; have HR179_5 := Aside0.mk hi179_5; have HC179_5 := Aside0.mk hl179_5; clear hi179_5 hl179_5; replace p179 := eq_true p179; replace q179 := eq_true q179))
        repeat (go_quiet (fail); go_upto_region 10 with (first | (go_at_call 12; (with_reducible refine (rosterref12_follows.calls _ _ l0 x4_1 true _ ?side1 ?side2 A4.out).mono ?_); (case side1 => repeat (first | exact (Kd.C_below HR0.out HB.out) | exact (Kd.C_below (Aside0.out (by assumption)) HB.out) | (with_reducible refine Kd.C_alloc ?_ _) | (with_reducible refine Kd.C_drewN ?_ _) | (with_reducible refine Kd.C_drew ?_))); (case side2 => exact HC0.out); rintro e w10 ⟨rfl, hb⟩; have n0_ := Aside0.mk (below_step (by repeat (first | (with_reducible first | exact HB.out | apply below_alloc | apply pw_below_drewN | apply below_drew1) | exact HB.out)) hb); clear HB; have HB := n0_; clear n0_; (try clear hb); (try clear hb2); (try clear hk); (try clear hi); have p179 : 0 ≤ (x4_1 : Int) := of_decide_eq_true (by first | (with_reducible assumption) | assumption); have q179 : x4_1 < (l0.length : Int) := of_decide_eq_true (by first | (with_reducible assumption) | assumption); obtain ⟨ad179, A179_5, c179_5, e179, hx179_0, hx179_1, hx179_2, hx179_3, hx179_4, hx179_5, hx179_6, hx179_7, hx179_8, hl179_5, hi179_5⟩ := at_T34 HR0.out x4_1 p179 q179; cases e179; replace hx179_0 := cellB_ HB.out hx179_0; replace hx179_1 := cellB_ HB.out hx179_1; replace hx179_2 := cellB_ HB.out hx179_2; replace hx179_3 := cellB_ HB.out hx179_3; replace hx179_4 := cellB_ HB.out hx179_4; replace hx179_5 := cellB_ HB.out hx179_5; replace hx179_6 := cellB_ HB.out hx179_6; replace hx179_7 := cellB_ HB.out hx179_7; replace hx179_8 := cellB_ HB.out hx179_8; have HR179_5 := Aside0.mk hi179_5; have HC179_5 := Aside0.mk hl179_5; clear hi179_5 hl179_5; replace p179 := eq_true p179; replace q179 := eq_true q179)))
        (try simp only [Act.put, List.setIfInBounds_toArray, List.set_cons_zero, List.set_cons_succ])
        go_cut [36] (fun v36 wc => ∃ (kq : Nat) (x36_8 : Bool), v36 = .bool x36_8 ∧ Aside0 (rosterref12_Check.j1 kq l0 x4_1 x36_8 = some (r1, r2)) ∧ Aside0 (kq ≤ k1) ∧ Aside0 (Below w.heap.size w wc))
        case first =>
         have H := HC9.out
         clear HC9
         replace H := Option.bind_eq_some_iff.mp H
         obtain ⟨t181, A110, H⟩ := H
         replace H : (if t181 = true then ((rosterref12_second.f k1 l0 x4_1).bind fun t182 => (rosterref12_Check.j1 k1 l0 x4_1 t182)) else (rosterref12_Check.j1 k1 l0 x4_1 true)) = some (r1, r2) := H
         have A11 := Aside0.mk A110
         clear A110
         by_cases c12 : t181 = true
         ·subst c12
          have H1 : ((rosterref12_second.f k1 l0 x4_1).bind fun t182 => (rosterref12_Check.j1 k1 l0 x4_1 t182)) = some (r1, r2) := by rw [if_pos rfl] at H; exact H
          clear H
          have H := H1
          clear H1
          replace H := Option.bind_eq_some_iff.mp H
          obtain ⟨t182, A130, H⟩ := H
          replace H : (rosterref12_Check.j1 k1 l0 x4_1 t182) = some (r1, r2) := H
          have A13 := Aside0.mk A130
          clear A130
          have H' := Aside0.mk H
          clear H
          have p180 : 0 ≤ (x4_1 : Int) := of_decide_eq_true (by first | (with_reducible assumption) | assumption)
          have q180 : x4_1 < (l0.length : Int) := of_decide_eq_true (by first | (with_reducible assumption) | assumption)
          obtain ⟨ad180, A180_5, c180_5, e180, hx180_0, hx180_1, hx180_2, hx180_3, hx180_4, hx180_5, hx180_6, hx180_7, hx180_8, hl180_5, hi180_5⟩ := at_T34 HR0.out x4_1 p180 q180
          obtain rfl : ad179 = ad180 := (by injection e180)
          replace hx180_0 := cellB_ HB.out hx180_0
          replace hx180_1 := cellB_ HB.out hx180_1
          replace hx180_2 := cellB_ HB.out hx180_2
          replace hx180_3 := cellB_ HB.out hx180_3
          replace hx180_4 := cellB_ HB.out hx180_4
          replace hx180_5 := cellB_ HB.out hx180_5
          replace hx180_6 := cellB_ HB.out hx180_6
          replace hx180_7 := cellB_ HB.out hx180_7
          replace hx180_8 := cellB_ HB.out hx180_8
          have HR180_5 := Aside0.mk hi180_5
          have HC180_5 := Aside0.mk hl180_5
          clear hi180_5 hl180_5
          replace p180 := eq_true p180
          replace q180 := eq_true q180
          iterate 9 (try (first | go_quiet ((go_at_call 14; (with_reducible refine (rosterref12_second.calls k1 _ _ l0 x4_1 t182 _ ?side1 ?side2 A13.out).mono ?_); (case side1 => repeat (first | exact (Kd.C_below HR0.out HB.out) | exact (Kd.C_below (Aside0.out (by assumption)) HB.out) | (with_reducible refine Kd.C_alloc ?_ _) | (with_reducible refine Kd.C_drewN ?_ _) | (with_reducible refine Kd.C_drew ?_))); (case side2 => exact HC0.out); rintro e w' ⟨rfl, ⟨nd, rfl⟩⟩; (try first | exact ⟨rfl, _, World.drewN_drewN _ _ _⟩ | exact ⟨rfl, _, Eq.trans (World.drewN_drewN _ _ _) (congrArg (World.drewN _) (Nat.add_assoc _ _ _))⟩))) | go_wp2_with (first | (go_at_call 13; (with_reducible refine (rosterref12_fields.calls k1 ((rd_T34 l0 x4_1).f0) ((rd_T34 l0 x4_1).f1) ((rd_T34 l0 x4_1).f2) ((rd_T34 l0 x4_1).f3) ((rd_T34 l0 x4_1).f4.f0) _ _ ((rd_T34 l0 x4_1).f4.f1) ((rd_T34 l0 x4_1).f4.f2) ((rd_T34 l0 x4_1).f5) ((rd_T34 l0 x4_1).f6) true _ ?side1 ?side2 A11.out ?sideT).mono ?_); (case sideT => exact HTB.out.at (by repeat (first | (with_reducible first | exact HB.out | apply below_alloc | apply pw_below_drewN | apply below_drew1) | exact HB.out | refine below_set ?_ (Aside0.out (by assumption)) | exact Below.refl _ _))); (case side1 => repeat (first | exact (Kd.C_below HR180_5.out HB.out) | exact (Kd.C_below (Aside0.out (by assumption)) HB.out) | (with_reducible refine Kd.C_alloc ?_ _) | (with_reducible refine Kd.C_drewN ?_ _) | (with_reducible refine Kd.C_drew ?_))); (case side2 => first | exact HC180_5.out | exact Aside0.out (by assumption)); rintro e w14 ⟨rfl, hb⟩; have n0_ := Aside0.mk (below_step (by repeat (first | (with_reducible first | exact HB.out | apply below_alloc | apply pw_below_drewN | apply below_drew1) | exact HB.out)) hb); clear HB; have HB := n0_; clear n0_; (try clear hb); (try clear hb2); (try clear hk); (try clear hi)) | (go_at_call 14; (with_reducible refine (rosterref12_second.calls k1 _ _ l0 x4_1 t182 _ ?side1 ?side2 A13.out).mono ?_); (case side1 => repeat (first | exact (Kd.C_below HR0.out HB.out) | exact (Kd.C_below (Aside0.out (by assumption)) HB.out) | (with_reducible refine Kd.C_alloc ?_ _) | (with_reducible refine Kd.C_drewN ?_ _) | (with_reducible refine Kd.C_drew ?_))); (case side2 => exact HC0.out); rintro e w' ⟨rfl, ⟨nd, rfl⟩⟩; (try first | exact ⟨rfl, _, World.drewN_drewN _ _ _⟩ | exact ⟨rfl, _, Eq.trans (World.drewN_drewN _ _ _) (congrArg (World.drewN _) (Nat.add_assoc _ _ _))⟩)))))
          go_meet
          case rel => exact ⟨_, (t182), (by first | rfl | (simp; done) | (simp [*]; done) | (simp [isEmpty_ne_]; done)), H', ⟨by have := HK1.out; first | omega | exact Nat.le_refl _⟩, ⟨by repeat (first | (with_reducible first | exact HB.out | apply below_alloc | apply pw_below_drewN | apply below_drew1) | exact HB.out)⟩⟩
         ·replace c12 := Bool.eq_false_iff.mpr c12
          subst c12
          have H1 : (rosterref12_Check.j1 k1 l0 x4_1 true) = some (r1, r2) := by rw [if_neg (show ¬ (false = true) by decide)] at H; exact H
          clear H
          have H := H1
          clear H1
          have H' := Aside0.mk H
          clear H
          have p180 : 0 ≤ (x4_1 : Int) := of_decide_eq_true (by first | (with_reducible assumption) | assumption)
          have q180 : x4_1 < (l0.length : Int) := of_decide_eq_true (by first | (with_reducible assumption) | assumption)
          obtain ⟨ad180, A180_5, c180_5, e180, hx180_0, hx180_1, hx180_2, hx180_3, hx180_4, hx180_5, hx180_6, hx180_7, hx180_8, hl180_5, hi180_5⟩ := at_T34 HR0.out x4_1 p180 q180
          obtain rfl : ad179 = ad180 := (by injection e180)
          replace hx180_0 := cellB_ HB.out hx180_0
          replace hx180_1 := cellB_ HB.out hx180_1
          replace hx180_2 := cellB_ HB.out hx180_2
          replace hx180_3 := cellB_ HB.out hx180_3
          replace hx180_4 := cellB_ HB.out hx180_4
          replace hx180_5 := cellB_ HB.out hx180_5
          replace hx180_6 := cellB_ HB.out hx180_6
          replace hx180_7 := cellB_ HB.out hx180_7
          replace hx180_8 := cellB_ HB.out hx180_8
          have HR180_5 := Aside0.mk hi180_5
          have HC180_5 := Aside0.mk hl180_5
          clear hi180_5 hl180_5
          replace p180 := eq_true p180
          replace q180 := eq_true q180
          iterate 9 (try (first | go_quiet (fail) | go_wp2_with (first | (go_at_call 13; (with_reducible refine (rosterref12_fields.calls k1 ((rd_T34 l0 x4_1).f0) ((rd_T34 l0 x4_1).f1) ((rd_T34 l0 x4_1).f2) ((rd_T34 l0 x4_1).f3) ((rd_T34 l0 x4_1).f4.f0) _ _ ((rd_T34 l0 x4_1).f4.f1) ((rd_T34 l0 x4_1).f4.f2) ((rd_T34 l0 x4_1).f5) ((rd_T34 l0 x4_1).f6) false _ ?side1 ?side2 A11.out ?sideT).mono ?_); (case sideT => exact HTB.out.at (by repeat (first | (with_reducible first | exact HB.out | apply below_alloc | apply pw_below_drewN | apply below_drew1) | exact HB.out | refine below_set ?_ (Aside0.out (by assumption)) | exact Below.refl _ _))); (case side1 => repeat (first | exact (Kd.C_below HR180_5.out HB.out) | exact (Kd.C_below (Aside0.out (by assumption)) HB.out) | (with_reducible refine Kd.C_alloc ?_ _) | (with_reducible refine Kd.C_drewN ?_ _) | (with_reducible refine Kd.C_drew ?_))); (case side2 => first | exact HC180_5.out | exact Aside0.out (by assumption)); rintro e w15 ⟨rfl, hb⟩; have n0_ := Aside0.mk (below_step (by repeat (first | (with_reducible first | exact HB.out | apply below_alloc | apply pw_below_drewN | apply below_drew1) | exact HB.out)) hb); clear HB; have HB := n0_; clear n0_; (try clear hb); (try clear hb2); (try clear hk); (try clear hi)))))
          go_meet
          case rel => exact ⟨_, (true), (by first | rfl | (simp; done) | (simp [*]; done) | (simp [isEmpty_ne_]; done)), H', ⟨by have := HK1.out; first | omega | exact Nat.le_refl _⟩, ⟨by repeat (first | (with_reducible first | exact HB.out | apply below_alloc | apply pw_below_drewN | apply below_drew1) | exact HB.out)⟩⟩
        case rest =>
         clear HC9
         try clear c1
         try clear p1
         try clear q1
         try clear hx1
         try clear c2
         try clear c2b0
         try clear c2b1
         try clear c2b2
         try clear p2
         try clear c3
         try clear c3b0
         try clear c5
         try clear c6
         try clear c6b0
         try clear c7
         try clear c7b0
         try clear c12
         try clear hx179_0
         try clear hx179_1
         try clear hx179_2
         try clear hx179_3
         try clear hx179_4
         try clear hx179_5
         try clear hx179_6
         try clear hx179_7
         try clear hx179_8
         try clear hx180_0
         try clear hx180_1
         try clear hx180_2
         try clear hx180_3
         try clear hx180_4
         try clear hx180_5
         try clear hx180_6
         try clear hx180_7
         try clear hx180_8
         try clear p179
         try clear p180
         try clear p2
         try clear q179
         try clear q180
         obtain ⟨kq, x36_8, rfl, HA, HJ8, HB⟩ := hcut
         cases kq with
         | zero => exact absurd HA.out (by simp [rosterref12_Check.j1])
         | succ kj8 =>
          have H := HA.out
          clear HA
          simp only [rosterref12_Check.j1] at H
          by_cases c16 : x36_8 = true
          ·subst c16
           have H1 : (some (120, x4_1)) = some (r1, r2) := by rw [if_pos rfl] at H; exact H
           clear H
           have H := H1
           clear H1
           simp only [Option.some.injEq, Prod.mk.injEq] at H
           obtain ⟨rfl, rfl⟩ := H
           go_wp2
           repeat (go_quiet (fail); try go_wp2)
           go_ret2
           exact ⟨by first | rfl | (simp [isEmpty_ne_]; done) | (simp [*, errW_none, errW_some] <;> rfl), by repeat (first | (with_reducible first | exact HB.out | apply below_alloc | apply pw_below_drewN | apply below_drew1) | exact HB.out)⟩
          ·replace c16 := Bool.eq_false_iff.mpr c16
           subst c16
           have H1 : (if 0 ≤ x4_1 then (if x4_1 < (l0.length : Int) then (if ((rd_T34 l0 x4_1).f1) = 2 then (if (wrap64 (x4_1 + 1)) ≥ (l0.length : Int) then (some (120, x4_1)) else (if 0 ≤ (wrap64 (x4_1 + 1)) then (if (wrap64 (x4_1 + 1)) < (l0.length : Int) then (if ((rd_T34 l0 (wrap64 (x4_1 + 1))).f0) = (wrap64 (((rd_T34 l0 x4_1).f0) + 1)) then (rosterref12_Check.l0 kj8 l0 (wrap64 (x4_1 + 1))) else (some (120, x4_1))) else (none)) else (none))) else (rosterref12_Check.l0 kj8 l0 (wrap64 (x4_1 + 1)))) else (none)) else (none)) = some (r1, r2) := by rw [if_neg (show ¬ (false = true) by decide)] at H; exact H
           clear H
           have H := H1
           clear H1
           by_cases c17 : 0 ≤ x4_1
           ·rw [if_pos c17] at H
            have c17b0 : decide (0 ≤ x4_1) = true := decide_eq_true c17
            clear c17
            by_cases c18 : x4_1 < (l0.length : Int)
            ·rw [if_pos c18] at H
             have c18b0 : decide (x4_1 < (l0.length : Int)) = true := decide_eq_true c18
             clear c18
             by_cases c19 : ((rd_T34 l0 x4_1).f1) = 2
             ·rw [if_pos c19] at H
              have c19b0 : (((rd_T34 l0 x4_1).f1) == 2) = true := beq_iff_eq.mpr c19
              have c19b1 : (((rd_T34 l0 x4_1).f1) != 2) = false := bne_eq_false_iff_eq.mpr c19
              clear c19
              by_cases c20 : (wrap64 (x4_1 + 1)) ≥ (l0.length : Int)
              ·rw [if_pos c20] at H
               have c20b0 : decide ((l0.length : Int) ≤ (wrap64 (x4_1 + 1))) = true := decide_eq_true c20
               clear c20
               simp only [Option.some.injEq, Prod.mk.injEq] at H
               obtain ⟨rfl, rfl⟩ := H
               have p183 : 0 ≤ (x4_1 : Int) := of_decide_eq_true (by first | (with_reducible assumption) | assumption)
               have q183 : x4_1 < (l0.length : Int) := of_decide_eq_true (by first | (with_reducible assumption) | assumption)
               obtain ⟨ad183, A183_5, c183_5, e183, hx183_0, hx183_1, hx183_2, hx183_3, hx183_4, hx183_5, hx183_6, hx183_7, hx183_8, hl183_5, hi183_5⟩ := at_T34 HR0.out x4_1 p183 q183
               obtain rfl : ad179 = ad183 := (by injection e183)
               replace hx183_0 := cellB_ HB.out hx183_0
               replace hx183_1 := cellB_ HB.out hx183_1
               replace hx183_2 := cellB_ HB.out hx183_2
               replace hx183_3 := cellB_ HB.out hx183_3
               replace hx183_4 := cellB_ HB.out hx183_4
               replace hx183_5 := cellB_ HB.out hx183_5
               replace hx183_6 := cellB_ HB.out hx183_6
               replace hx183_7 := cellB_ HB.out hx183_7
               replace hx183_8 := cellB_ HB.out hx183_8
               have HR183_5 := Aside0.mk hi183_5
               have HC183_5 := Aside0.mk hl183_5
               clear hi183_5 hl183_5
               replace p183 := eq_true p183
               replace q183 := eq_true q183
               go_wp2
               repeat (go_quiet (fail); try go_wp2)
               go_ret2
               exact ⟨by first | rfl | (simp [isEmpty_ne_]; done) | (simp [*, errW_none, errW_some] <;> rfl), by repeat (first | (with_reducible first | exact HB.out | apply below_alloc | apply pw_below_drewN | apply below_drew1) | exact HB.out)⟩
              ·rw [if_neg c20] at H
               have c20b0 : decide ((l0.length : Int) ≤ (wrap64 (x4_1 + 1))) = false := decide_eq_false c20
               clear c20
               obtain ⟨ji21, hji21⟩ : ∃ j_ : Int, (wrap64 (x4_1 + 1)) = j_ := ⟨_, rfl⟩
               replace H : (if 0 ≤ (ji21) then (if (ji21) < (l0.length : Int) then (if ((rd_T34 l0 (ji21)).f0) = (wrap64 (((rd_T34 l0 x4_1).f0) + 1)) then (rosterref12_Check.l0 kj8 l0 ji21) else (some (120, x4_1))) else (none)) else (none)) = some (r1, r2) := by first | (rw [hji21] at H; exact H) | (simp only [hji21] at H ⊢; exact H)
               (try rw [hji21] at c20b0)
               have hji21w : (IntKind.i64.wrap (x4_1 + 1)) = ji21 := (i64_w _).trans hji21
               by_cases c22 : 0 ≤ (ji21)
               ·rw [if_pos c22] at H
                have c22b0 : decide (0 ≤ (ji21)) = true := decide_eq_true c22
                clear c22
                by_cases c23 : (ji21) < (l0.length : Int)
                ·rw [if_pos c23] at H
                 have c23b0 : decide ((ji21) < (l0.length : Int)) = true := decide_eq_true c23
                 clear c23
                 by_cases c24 : ((rd_T34 l0 (ji21)).f0) = (wrap64 (((rd_T34 l0 x4_1).f0) + 1))
                 ·rw [if_pos c24] at H
                  have c24b0 : (((rd_T34 l0 (ji21)).f0) == (wrap64 (((rd_T34 l0 x4_1).f0) + 1))) = true := beq_iff_eq.mpr c24
                  have c24b1 : (((rd_T34 l0 (ji21)).f0) != (wrap64 (((rd_T34 l0 x4_1).f0) + 1))) = false := bne_eq_false_iff_eq.mpr c24
                  clear c24
                  have H' := Aside0.mk H
                  clear H
                  have p183 : 0 ≤ (x4_1 : Int) := of_decide_eq_true (by first | (with_reducible assumption) | assumption)
                  have q183 : x4_1 < (l0.length : Int) := of_decide_eq_true (by first | (with_reducible assumption) | assumption)
                  obtain ⟨ad183, A183_5, c183_5, e183, hx183_0, hx183_1, hx183_2, hx183_3, hx183_4, hx183_5, hx183_6, hx183_7, hx183_8, hl183_5, hi183_5⟩ := at_T34 HR0.out x4_1 p183 q183
                  obtain rfl : ad179 = ad183 := (by injection e183)
                  replace hx183_0 := cellB_ HB.out hx183_0
                  replace hx183_1 := cellB_ HB.out hx183_1
                  replace hx183_2 := cellB_ HB.out hx183_2
                  replace hx183_3 := cellB_ HB.out hx183_3
                  replace hx183_4 := cellB_ HB.out hx183_4
                  replace hx183_5 := cellB_ HB.out hx183_5
                  replace hx183_6 := cellB_ HB.out hx183_6
                  replace hx183_7 := cellB_ HB.out hx183_7
                  replace hx183_8 := cellB_ HB.out hx183_8
                  have HR183_5 := Aside0.mk hi183_5
                  have HC183_5 := Aside0.mk hl183_5
                  clear hi183_5 hl183_5
                  replace p183 := eq_true p183
                  replace q183 := eq_true q183
                  have p184 : 0 ≤ ((ji21) : Int) := of_decide_eq_true (by first | (with_reducible assumption) | assumption)
                  have q184 : (ji21) < (l0.length : Int) := of_decide_eq_true (by first | (with_reducible assumption) | assumption)
                  obtain ⟨ad184, A184_5, c184_5, e184, hx184_0, hx184_1, hx184_2, hx184_3, hx184_4, hx184_5, hx184_6, hx184_7, hx184_8, hl184_5, hi184_5⟩ := at_T34 HR0.out (ji21) p184 q184
                  obtain rfl : ad179 = ad184 := (by injection e184)
                  replace hx184_0 := cellB_ HB.out hx184_0
                  replace hx184_1 := cellB_ HB.out hx184_1
                  replace hx184_2 := cellB_ HB.out hx184_2
                  replace hx184_3 := cellB_ HB.out hx184_3
                  replace hx184_4 := cellB_ HB.out hx184_4
                  replace hx184_5 := cellB_ HB.out hx184_5
                  replace hx184_6 := cellB_ HB.out hx184_6
                  replace hx184_7 := cellB_ HB.out hx184_7
                  replace hx184_8 := cellB_ HB.out hx184_8
                  have HR184_5 := Aside0.mk hi184_5
                  have HC184_5 := Aside0.mk hl184_5
                  clear hi184_5 hl184_5
                  replace p184 := eq_true p184
                  replace q184 := eq_true q184
                  have p185 : 0 ≤ (x4_1 : Int) := of_decide_eq_true (by first | (with_reducible assumption) | assumption)
                  have q185 : x4_1 < (l0.length : Int) := of_decide_eq_true (by first | (with_reducible assumption) | assumption)
                  obtain ⟨ad185, A185_5, c185_5, e185, hx185_0, hx185_1, hx185_2, hx185_3, hx185_4, hx185_5, hx185_6, hx185_7, hx185_8, hl185_5, hi185_5⟩ := at_T34 HR0.out x4_1 p185 q185
                  obtain rfl : ad179 = ad185 := (by injection e185)
                  replace hx185_0 := cellB_ HB.out hx185_0
                  replace hx185_1 := cellB_ HB.out hx185_1
                  replace hx185_2 := cellB_ HB.out hx185_2
                  replace hx185_3 := cellB_ HB.out hx185_3
                  replace hx185_4 := cellB_ HB.out hx185_4
                  replace hx185_5 := cellB_ HB.out hx185_5
                  replace hx185_6 := cellB_ HB.out hx185_6
                  replace hx185_7 := cellB_ HB.out hx185_7
                  replace hx185_8 := cellB_ HB.out hx185_8
                  have HR185_5 := Aside0.mk hi185_5
                  have HC185_5 := Aside0.mk hl185_5
                  clear hi185_5 hl185_5
                  replace p185 := eq_true p185
                  replace q185 := eq_true q185
                  have ea_ := Option.some.inj (hx183_5.symm.trans hx185_5)
                  injection ea_ with ea_ en_ ec_
                  subst ea_
                  subst ec_
                  clear en_
                  go_wp2
                  repeat (go_quiet (fail); try go_wp2)
                  go_roundg kj8
                  case measure => have := HK1.out; have := HJ8.out; omega
                  case rel => exact ⟨(ji21), (by first | rfl | (simp; done) | (simp only [← hji21] <;> (first | rfl | simp)) | (simp [*]; done) | (simp [isEmpty_ne_]; done)), H', ⟨by have := HK1.out; have := HJ8.out; omega⟩, ⟨by repeat (first | (with_reducible first | exact HB.out | apply below_alloc | apply pw_below_drewN | apply below_drew1) | exact HB.out)⟩⟩
                 ·rw [if_neg c24] at H
                  have c24b0 : (((rd_T34 l0 (ji21)).f0) == (wrap64 (((rd_T34 l0 x4_1).f0) + 1))) = false := beq_eq_false_iff_ne.mpr c24
                  have c24b1 : (((rd_T34 l0 (ji21)).f0) != (wrap64 (((rd_T34 l0 x4_1).f0) + 1))) = true := bne_iff_ne.mpr c24
                  simp only [Option.some.injEq, Prod.mk.injEq] at H
                  obtain ⟨rfl, rfl⟩ := H
                  have p183 : 0 ≤ (x4_1 : Int) := of_decide_eq_true (by first | (with_reducible assumption) | assumption)
                  have q183 : x4_1 < (l0.length : Int) := of_decide_eq_true (by first | (with_reducible assumption) | assumption)
                  obtain ⟨ad183, A183_5, c183_5, e183, hx183_0, hx183_1, hx183_2, hx183_3, hx183_4, hx183_5, hx183_6, hx183_7, hx183_8, hl183_5, hi183_5⟩ := at_T34 HR0.out x4_1 p183 q183
                  obtain rfl : ad179 = ad183 := (by injection e183)
                  replace hx183_0 := cellB_ HB.out hx183_0
                  replace hx183_1 := cellB_ HB.out hx183_1
                  replace hx183_2 := cellB_ HB.out hx183_2
                  replace hx183_3 := cellB_ HB.out hx183_3
                  replace hx183_4 := cellB_ HB.out hx183_4
                  replace hx183_5 := cellB_ HB.out hx183_5
                  replace hx183_6 := cellB_ HB.out hx183_6
                  replace hx183_7 := cellB_ HB.out hx183_7
                  replace hx183_8 := cellB_ HB.out hx183_8
                  have HR183_5 := Aside0.mk hi183_5
                  have HC183_5 := Aside0.mk hl183_5
                  clear hi183_5 hl183_5
                  replace p183 := eq_true p183
                  replace q183 := eq_true q183
                  have p184 : 0 ≤ ((ji21) : Int) := of_decide_eq_true (by first | (with_reducible assumption) | assumption)
                  have q184 : (ji21) < (l0.length : Int) := of_decide_eq_true (by first | (with_reducible assumption) | assumption)
                  obtain ⟨ad184, A184_5, c184_5, e184, hx184_0, hx184_1, hx184_2, hx184_3, hx184_4, hx184_5, hx184_6, hx184_7, hx184_8, hl184_5, hi184_5⟩ := at_T34 HR0.out (ji21) p184 q184
                  obtain rfl : ad179 = ad184 := (by injection e184)
                  replace hx184_0 := cellB_ HB.out hx184_0
                  replace hx184_1 := cellB_ HB.out hx184_1
                  replace hx184_2 := cellB_ HB.out hx184_2
                  replace hx184_3 := cellB_ HB.out hx184_3
                  replace hx184_4 := cellB_ HB.out hx184_4
                  replace hx184_5 := cellB_ HB.out hx184_5
                  replace hx184_6 := cellB_ HB.out hx184_6
                  replace hx184_7 := cellB_ HB.out hx184_7
                  replace hx184_8 := cellB_ HB.out hx184_8
                  have HR184_5 := Aside0.mk hi184_5
                  have HC184_5 := Aside0.mk hl184_5
                  clear hi184_5 hl184_5
                  replace p184 := eq_true p184
                  replace q184 := eq_true q184
                  have p185 : 0 ≤ (x4_1 : Int) := of_decide_eq_true (by first | (with_reducible assumption) | assumption)
                  have q185 : x4_1 < (l0.length : Int) := of_decide_eq_true (by first | (with_reducible assumption) | assumption)
                  obtain ⟨ad185, A185_5, c185_5, e185, hx185_0, hx185_1, hx185_2, hx185_3, hx185_4, hx185_5, hx185_6, hx185_7, hx185_8, hl185_5, hi185_5⟩ := at_T34 HR0.out x4_1 p185 q185
                  obtain rfl : ad179 = ad185 := (by injection e185)
                  replace hx185_0 := cellB_ HB.out hx185_0
                  replace hx185_1 := cellB_ HB.out hx185_1
                  replace hx185_2 := cellB_ HB.out hx185_2
                  replace hx185_3 := cellB_ HB.out hx185_3
                  replace hx185_4 := cellB_ HB.out hx185_4
                  replace hx185_5 := cellB_ HB.out hx185_5
                  replace hx185_6 := cellB_ HB.out hx185_6
                  replace hx185_7 := cellB_ HB.out hx185_7
                  replace hx185_8 := cellB_ HB.out hx185_8
                  have HR185_5 := Aside0.mk hi185_5
                  have HC185_5 := Aside0.mk hl185_5
                  clear hi185_5 hl185_5
                  replace p185 := eq_true p185
                  replace q185 := eq_true q185
                  have ea_ := Option.some.inj (hx183_5.symm.trans hx185_5)
                  injection ea_ with ea_ en_ ec_
                  subst ea_
                  subst ec_
                  clear en_
                  go_wp2
                  repeat (go_quiet (fail); try go_wp2)
                  go_ret2
                  exact ⟨by first | rfl | (simp [isEmpty_ne_]; done) | (simp [errW_none, errW_some] <;> rfl) | (simp only [← hji21]; first | rfl | (simp [errW_none, errW_some] <;> rfl)) | (simp [*, errW_none, errW_some] <;> rfl), by repeat (first | (with_reducible first | exact HB.out | apply below_alloc | apply pw_below_drewN | apply below_drew1) | exact HB.out)⟩
                ·rw [if_neg c23] at H
                 exact absurd H (by simp)
               ·rw [if_neg c22] at H
                exact absurd H (by simp)
             ·rw [if_neg c19] at H
              have c19b0 : (((rd_T34 l0 x4_1).f1) == 2) = false := beq_eq_false_iff_ne.mpr c19
              have c19b1 : (((rd_T34 l0 x4_1).f1) != 2) = true := bne_iff_ne.mpr c19
              have H' := Aside0.mk H
              clear H
              have p183 : 0 ≤ (x4_1 : Int) := of_decide_eq_true (by first | (with_reducible assumption) | assumption)
              have q183 : x4_1 < (l0.length : Int) := of_decide_eq_true (by first | (with_reducible assumption) | assumption)
              obtain ⟨ad183, A183_5, c183_5, e183, hx183_0, hx183_1, hx183_2, hx183_3, hx183_4, hx183_5, hx183_6, hx183_7, hx183_8, hl183_5, hi183_5⟩ := at_T34 HR0.out x4_1 p183 q183
              obtain rfl : ad179 = ad183 := (by injection e183)
              replace hx183_0 := cellB_ HB.out hx183_0
              replace hx183_1 := cellB_ HB.out hx183_1
              replace hx183_2 := cellB_ HB.out hx183_2
              replace hx183_3 := cellB_ HB.out hx183_3
              replace hx183_4 := cellB_ HB.out hx183_4
              replace hx183_5 := cellB_ HB.out hx183_5
              replace hx183_6 := cellB_ HB.out hx183_6
              replace hx183_7 := cellB_ HB.out hx183_7
              replace hx183_8 := cellB_ HB.out hx183_8
              have HR183_5 := Aside0.mk hi183_5
              have HC183_5 := Aside0.mk hl183_5
              clear hi183_5 hl183_5
              replace p183 := eq_true p183
              replace q183 := eq_true q183
              go_wp2
              repeat (go_quiet (fail); try go_wp2)
              go_roundg kj8
              case measure => have := HK1.out; have := HJ8.out; omega
              case rel => exact ⟨(wrap64 (x4_1 + 1)), (by first | rfl | (simp; done) | (simp [*]; done) | (simp [isEmpty_ne_]; done)), H', ⟨by have := HK1.out; have := HJ8.out; omega⟩, ⟨by repeat (first | (with_reducible first | exact HB.out | apply below_alloc | apply pw_below_drewN | apply below_drew1) | exact HB.out)⟩⟩
            ·rw [if_neg c18] at H
             exact absurd H (by simp)
           ·rw [if_neg c17] at H
            exact absurd H (by simp)
      ·rw [if_neg c6] at H
       exact absurd H (by simp)
     ·replace c5 := Bool.eq_false_iff.mpr c5
      subst c5
      have H1 : (some (120, x4_1)) = some (r1, r2) := by rw [if_neg (show ¬ (false = true) by decide)] at H; exact H
      clear H
      have H := H1
      clear H1
      simp only [Option.some.injEq, Prod.mk.injEq] at H
      obtain ⟨rfl, rfl⟩ := H
      iterate 9 (try (first | go_quiet (fail) | go_wp2_with (first | (go_at_call 12; (with_reducible refine (rosterref12_follows.calls _ _ l0 x4_1 false _ ?side1 ?side2 A4.out).mono ?_); (case side1 => repeat (first | exact (Kd.C_below HR0.out HB.out) | exact (Kd.C_below (Aside0.out (by assumption)) HB.out) | (with_reducible refine Kd.C_alloc ?_ _) | (with_reducible refine Kd.C_drewN ?_ _) | (with_reducible refine Kd.C_drew ?_))); (case side2 => exact HC0.out); rintro e w25 ⟨rfl, hb⟩; have n0_ := Aside0.mk (below_step (by repeat (first | (with_reducible first | exact HB.out | apply below_alloc | apply pw_below_drewN | apply below_drew1) | exact HB.out)) hb); clear HB; have HB := n0_; clear n0_; (try clear hb); (try clear hb2); (try clear hk); (try clear hi)))))
      go_ret2
      exact ⟨by first | rfl | (simp [isEmpty_ne_]; done) | (simp [*, errW_none, errW_some] <;> rfl), by repeat (first | (with_reducible first | exact HB.out | apply below_alloc | apply pw_below_drewN | apply below_drew1) | exact HB.out)⟩
    ·rw [if_neg c3] at H
     have c3b0 : decide (x4_1 < (l0.length : Int)) = false := decide_eq_false c3
     clear c3
     simp only [Option.some.injEq, Prod.mk.injEq] at H
     obtain ⟨rfl, rfl⟩ := H
     go_wp2
     repeat (go_quiet (fail); try go_wp2)
     go_ret2
     exact ⟨by first | rfl | (simp [isEmpty_ne_]; done) | (simp [*, errW_none, errW_some] <;> rfl), by repeat (first | (with_reducible first | exact HB.out | apply below_alloc | apply pw_below_drewN | apply below_drew1) | exact HB.out)⟩

/-! ### filter_Depth: function 7 -/
def filter_Depth.l0 : Nat → Int → List (S34) → Int → Int → Option (Int)
 | 0, _, _, _, _ => none
 | k + 1, x3, x6, x7, x8 => if x8 < x7 then (if 0 ≤ x8 then (if x8 < (x6.length : Int) then (filter_Depth.l0 k (mx x3 ((rd_T34 x6 x8).f0)) x6 x7 (wrap64 (x8 + 1))) else (none)) else (none)) else (some x3)
def filter_Depth.f (k : Nat) (l0 : List (S34)) : Option (Int) := filter_Depth.l0 k 0 l0 (l0.length : Int) 0
theorem filter_Depth.mono_l : ∀ k, (∀ y0 y1 y2 y3, LeO (filter_Depth.l0 k y0 y1 y2 y3) (filter_Depth.l0 (k + 1) y0 y1 y2 y3))
 | 0 => fun _ _ _ _ r h => by simp [filter_Depth.l0] at h
 | k + 1 => by
  have ih0 := filter_Depth.mono_l k
  ·intro y0 y1 y2 y3
   unfold filter_Depth.l0
   repeat' first
   | (with_reducible exact ih0 _ _ _ _)
   | (with_reducible exact LeO.refl _)
   | (with_reducible exact LeO.none _)
   | (with_reducible refine LeO.ite ?_ ?_)
   | (with_reducible refine LeO.bind ?_ (fun _ => ?_))
   | exact ih0 _ _ _ _
   | exact LeO.none _
   | refine LeO.ite ?_ ?_
   | refine LeO.bind ?_ (fun _ => ?_)
theorem filter_Depth.mono : ∀ a0 k, LeO (filter_Depth.f k a0) (filter_Depth.f (k + 1) a0) := by
 intro a0 k
 have ih0 := filter_Depth.mono_l k
 unfold filter_Depth.f
 repeat' first
   | (with_reducible exact ih0 _ _ _ _)
   | (with_reducible exact LeO.refl _)
   | (with_reducible exact LeO.none _)
   | (with_reducible refine LeO.ite ?_ ?_)
   | (with_reducible refine LeO.bind ?_ (fun _ => ?_))
   | exact ih0 _ _ _ _
   | exact LeO.none _
   | refine LeO.ite ?_ ?_
   | refine LeO.bind ?_ (fun _ => ?_)
set_option maxHeartbeats 8000000 in
set_option maxRecDepth 100000 in
theorem filter_Depth.calls (k : Nat) (A0 : Option Addr) (c0 : Nat) (l0 : List (S34)) (r : Int) (w : World) (hr0 : Kd.C k34 w A0 l0.length l0) (hc0 : l0.length ≤ c0) (h : filter_Depth.f k l0 = some r) :
  Calls Tryd.prog 7 #[.slice A0 l0.length c0] w fun e w' => e = .returned (.int .i64 r) ∧ Below w.heap.size w w' := by
 have hu34 := Tryd.underlying34
 have HR0 := Aside0.mk hr0
 have HC0 := Aside0.mk hc0
 clear hr0 hc0
 have HB := Aside0.mk (Below.refl w.heap.size w)
 have H : (filter_Depth.l0 k 0 l0 (l0.length : Int) 0) = some r := h
 clear h
 have H' := Aside0.mk H
 clear H
 go_enter Tryd.func7, Tryd.ntmps7
 go_wp2
 go_loopg [3, 8] k (fun kq v3 v8 w' => ∃ (x3_1 : Int) (x8_1 : Int), v3 = .int .i64 x3_1 ∧ v8 = .int .i64 x8_1 ∧ Aside0 (filter_Depth.l0 kq x3_1 l0 (l0.length : Int) x8_1 = some r) ∧ Aside0 (kq ≤ k) ∧ Aside0 (Below w.heap.size w w'))
 case atStart => exact ⟨(0), (0), (by first | rfl | (simp; done) | (simp [*]; done) | (simp [isEmpty_ne_]; done)), (by first | rfl | (simp; done) | (simp [*]; done) | (simp [isEmpty_ne_]; done)), H', ⟨Nat.le_refl _⟩, ⟨by repeat (first | (with_reducible first | exact HB.out | apply below_alloc | apply pw_below_drewN | apply below_drew1) | exact HB.out)⟩⟩
 case round =>
  clear H'
  obtain ⟨x3_1, x8_1, rfl, rfl, HA, HK1, HB⟩ := hrel
  cases gk with
  | zero => exact absurd HA.out (by simp [filter_Depth.l0])
  | succ k1 =>
   have H := HA.out
   clear HA
   simp only [filter_Depth.l0] at H
   by_cases c2 : x8_1 < (l0.length : Int)
   ·rw [if_pos c2] at H
    have c2b0 : decide (x8_1 < (l0.length : Int)) = true := decide_eq_true c2
    clear c2
    by_cases c3 : 0 ≤ x8_1
    ·rw [if_pos c3] at H
     have c3b0 : decide (0 ≤ x8_1) = true := decide_eq_true c3
     clear c3
     by_cases c4 : x8_1 < (l0.length : Int)
     ·rw [if_pos c4] at H
      have c4b0 : decide (x8_1 < (l0.length : Int)) = true := decide_eq_true c4
      clear c4
      obtain ⟨ji5, hji5⟩ : ∃ j_ : Int, (mx x3_1 ((rd_T34 l0 x8_1).f0)) = j_ := ⟨_, rfl⟩
      replace H : (filter_Depth.l0 k1 ji5 l0 (l0.length : Int) (wrap64 (x8_1 + 1))) = some r := by first | (rw [hji5] at H; exact H) | (simp only [hji5] at H ⊢; exact H)
      have hji5_ : (if x3_1 < ((rd_T34 l0 x8_1).f0) then ((rd_T34 l0 x8_1).f0) else x3_1) = ji5 := hji5
      have H' := Aside0.mk H
      clear H
      have p186 : 0 ≤ (x8_1 : Int) := of_decide_eq_true (by first | (with_reducible assumption) | assumption)
      have q186 : x8_1 < (l0.length : Int) := of_decide_eq_true (by first | (with_reducible assumption) | assumption)
      obtain ⟨ad186, A186_5, c186_5, e186, hx186_0, hx186_1, hx186_2, hx186_3, hx186_4, hx186_5, hx186_6, hx186_7, hx186_8, hl186_5, hi186_5⟩ := at_T34 HR0.out x8_1 p186 q186
      cases e186
      replace hx186_0 := cellB_ HB.out hx186_0
      replace hx186_1 := cellB_ HB.out hx186_1
      replace hx186_2 := cellB_ HB.out hx186_2
      replace hx186_3 := cellB_ HB.out hx186_3
      replace hx186_4 := cellB_ HB.out hx186_4
      replace hx186_5 := cellB_ HB.out hx186_5
      replace hx186_6 := cellB_ HB.out hx186_6
      replace hx186_7 := cellB_ HB.out hx186_7
      replace hx186_8 := cellB_ HB.out hx186_8
      have HR186_5 := Aside0.mk hi186_5
      have HC186_5 := Aside0.mk hl186_5
      clear hi186_5 hl186_5
      replace p186 := eq_true p186
      replace q186 := eq_true q186
      go_wp2_with (first | ((with_reducible refine gate_dst (N := 5) rfl ?_); refine box_event ?hg (N := 5) ?hd (cs := #[.int .i64 0, .int .i64 0, .string (⟨#[]⟩ : ByteArray), .string (⟨#[]⟩ : ByteArray), .string (⟨#[]⟩ : ByteArray), .slice none 0 0, .string (⟨#[]⟩ : ByteArray), .string (⟨#[]⟩ : ByteArray), .bool false]) (t := 34) ?hr ?_; (case hd => rfl); (case hg => rfl); (case hr => first | (go_simp; done) | (go_simp; rfl)); intro gb187 hg w6 hbox hb; have n0_ := Aside0.mk (below_step (by repeat (first | (with_reducible first | exact HB.out | apply below_alloc | apply pw_below_drewN | apply below_drew1) | exact HB.out)) hb); have n1_ := Aside0.mk (hbox); have n2_ := Aside0.mk ((by rw [hg]; exact (below_size (by repeat (first | (with_reducible first | exact HB.out | apply below_alloc | apply pw_below_drewN | apply below_drew1) | exact HB.out))) : w.heap.size ≤ gb187)); have n3_ := Aside0.mk ((by rw [hg]; exact (below_size (by repeat (first | (with_reducible first | exact HB.out | apply below_alloc | apply pw_below_drewN | apply below_drew1) | exact HB.out))) : w.heap.size ≤ gb187)); clear HB; have HB := n0_; have BK187 := n1_; have GW187 := n2_; have GE187 := n3_; clear n0_ n1_ n2_ n3_; clear hb hbox hg; obtain ⟨hcz7_0, hcz7_1, hcz7_2, hcz7_3, hcz7_4, hcz7_5, hcz7_6, hcz7_7, hcz7_8⟩ := cells9_ BK187.out; obtain ⟨hfz7_0, hfz7_1, hfz7_2, hfz7_3, hfz7_4, hfz7_5, hfz7_6, hfz7_7, hfz7_8⟩ := frz9_ BK187.out))
      go_roundg k1
      case measure => have := HK1.out; omega
      case rel => exact ⟨(ji5), (wrap64 (x8_1 + 1)), (by first | rfl | (simp; done) | (simp only [← hji5] <;> (first | rfl | simp)) | (simp [*]; done) | (simp [isEmpty_ne_]; done)), (by first | rfl | (simp; done) | (simp [*]; done) | (simp [isEmpty_ne_]; done)), H', ⟨by have := HK1.out; omega⟩, ⟨by repeat (first | (with_reducible first | exact HB.out | apply below_alloc | apply pw_below_drewN | apply below_drew1 | refine below_set ?_ GE187.out) | exact HB.out)⟩⟩
     ·rw [if_neg c4] at H
      exact absurd H (by simp)
    ·rw [if_neg c3] at H
     exact absurd H (by simp)
   ·rw [if_neg c2] at H
    have c2b0 : decide (x8_1 < (l0.length : Int)) = false := decide_eq_false c2
    clear c2
    obtain rfl := Option.some.inj H
    go_wp2
    go_ret
    exact ⟨by first | rfl | (simp [isEmpty_ne_]; done) | (simp [*, errW_none, errW_some] <;> rfl), by repeat (first | (with_reducible first | exact HB.out | apply below_alloc | apply pw_below_drewN | apply below_drew1) | exact HB.out)⟩

/-! ### rosterref12_Depth: function 8 -/
def rosterref12_Depth.l0 : Nat → List (S34) → Int → Int → Option (Int)
 | 0, _, _, _ => none
 | k + 1, x0, x3, x4 => if x4 < (x0.length : Int) then (if 0 ≤ x4 then (if ((rd_T34 x0 x4).f0) > x3 then (rosterref12_Depth.l0 k x0 ((rd_T34 x0 x4).f0) (wrap64 (x4 + 1))) else (rosterref12_Depth.l0 k x0 x3 (wrap64 (x4 + 1)))) else (none)) else (some x3)
def rosterref12_Depth.f (k : Nat) (l0 : List (S34)) : Option (Int) := rosterref12_Depth.l0 k l0 0 0
theorem rosterref12_Depth.mono_l : ∀ k, (∀ y0 y1 y2, LeO (rosterref12_Depth.l0 k y0 y1 y2) (rosterref12_Depth.l0 (k + 1) y0 y1 y2))
 | 0 => fun _ _ _ r h => by simp [rosterref12_Depth.l0] at h
 | k + 1 => by
  have ih0 := rosterref12_Depth.mono_l k
  ·intro y0 y1 y2
   unfold rosterref12_Depth.l0
   repeat' first
   | (with_reducible exact ih0 _ _ _)
   | (with_reducible exact LeO.refl _)
   | (with_reducible exact LeO.none _)
   | (with_reducible refine LeO.ite ?_ ?_)
   | (with_reducible refine LeO.bind ?_ (fun _ => ?_))
   | exact ih0 _ _ _
   | exact LeO.none _
   | refine LeO.ite ?_ ?_
   | refine LeO.bind ?_ (fun _ => ?_)
theorem rosterref12_Depth.mono : ∀ a0 k, LeO (rosterref12_Depth.f k a0) (rosterref12_Depth.f (k + 1) a0) := by
 intro a0 k
 have ih0 := rosterref12_Depth.mono_l k
 unfold rosterref12_Depth.f
 repeat' first
   | (with_reducible exact ih0 _ _ _)
   | (with_reducible exact LeO.refl _)
   | (with_reducible exact LeO.none _)
   | (with_reducible refine LeO.ite ?_ ?_)
   | (with_reducible refine LeO.bind ?_ (fun _ => ?_))
   | exact ih0 _ _ _
   | exact LeO.none _
   | refine LeO.ite ?_ ?_
   | refine LeO.bind ?_ (fun _ => ?_)
set_option maxHeartbeats 8000000 in
set_option maxRecDepth 100000 in
theorem rosterref12_Depth.calls (k : Nat) (A0 : Option Addr) (c0 : Nat) (l0 : List (S34)) (r : Int) (w : World) (hr0 : Kd.C k34 w A0 l0.length l0) (hc0 : l0.length ≤ c0) (h : rosterref12_Depth.f k l0 = some r) :
  Calls Tryd.prog 8 #[.slice A0 l0.length c0] w fun e w' => e = .returned (.int .i64 r) ∧ Drawn0 w w' := by
 have HR0 := Aside0.mk hr0
 have HC0 := Aside0.mk hc0
 clear hr0 hc0
 have H : (rosterref12_Depth.l0 k l0 0 0) = some r := h
 clear h
 have H' := Aside0.mk H
 clear H
 go_enter Tryd.func8, Tryd.ntmps8
 go_wp2
 go_loopg [3, 4] k (fun kq v3 v4 w' => ∃ (x3_1 : Int) (x4_1 : Int), v3 = .int .i64 x3_1 ∧ v4 = .int .i64 x4_1 ∧ Aside0 (rosterref12_Depth.l0 kq l0 x3_1 x4_1 = some r) ∧ Aside0 (kq ≤ k) ∧ Drawn0 w w')
 case atStart => exact ⟨(0), (0), (by first | rfl | (simp; done) | (simp [*]; done) | (simp [isEmpty_ne_]; done)), (by first | rfl | (simp; done) | (simp [*]; done) | (simp [isEmpty_ne_]; done)), H', ⟨Nat.le_refl _⟩, by repeat (first | exact Drawn0.refl _ | apply Drawn0.step)⟩
 case round =>
  clear H'
  obtain ⟨x3_1, x4_1, rfl, rfl, HA, HK1, ⟨m1, rfl⟩⟩ := hrel
  cases gk with
  | zero => exact absurd HA.out (by simp [rosterref12_Depth.l0])
  | succ k1 =>
   have H := HA.out
   clear HA
   simp only [rosterref12_Depth.l0] at H
   by_cases c2 : x4_1 < (l0.length : Int)
   ·rw [if_pos c2] at H
    have c2b0 : decide (x4_1 < (l0.length : Int)) = true := decide_eq_true c2
    clear c2
    by_cases c3 : 0 ≤ x4_1
    ·rw [if_pos c3] at H
     have c3b0 : decide (0 ≤ x4_1) = true := decide_eq_true c3
     clear c3
     by_cases c4 : ((rd_T34 l0 x4_1).f0) > x3_1
     ·rw [if_pos c4] at H
      have c4b0 : decide (x3_1 < ((rd_T34 l0 x4_1).f0)) = true := decide_eq_true c4
      clear c4
      have H' := Aside0.mk H
      clear H
      have p188 : 0 ≤ (x4_1 : Int) := of_decide_eq_true (by first | (with_reducible assumption) | assumption)
      have q188 : x4_1 < (l0.length : Int) := of_decide_eq_true (by first | (with_reducible assumption) | assumption)
      obtain ⟨ad188, A188_5, c188_5, e188, hx188_0, hx188_1, hx188_2, hx188_3, hx188_4, hx188_5, hx188_6, hx188_7, hx188_8, hl188_5, hi188_5⟩ := at_T34 HR0.out x4_1 p188 q188
      cases e188
      have HR188_5 := Aside0.mk hi188_5
      have HC188_5 := Aside0.mk hl188_5
      clear hi188_5 hl188_5
      replace p188 := eq_true p188
      replace q188 := eq_true q188
      have p189 : 0 ≤ (x4_1 : Int) := of_decide_eq_true (by first | (with_reducible assumption) | assumption)
      have q189 : x4_1 < (l0.length : Int) := of_decide_eq_true (by first | (with_reducible assumption) | assumption)
      obtain ⟨ad189, A189_5, c189_5, e189, hx189_0, hx189_1, hx189_2, hx189_3, hx189_4, hx189_5, hx189_6, hx189_7, hx189_8, hl189_5, hi189_5⟩ := at_T34 HR0.out x4_1 p189 q189
      obtain rfl : ad188 = ad189 := (by injection e189)
      have HR189_5 := Aside0.mk hi189_5
      have HC189_5 := Aside0.mk hl189_5
      clear hi189_5 hl189_5
      replace p189 := eq_true p189
      replace q189 := eq_true q189
      have ea_ := Option.some.inj (hx188_5.symm.trans hx189_5)
      injection ea_ with ea_ en_ ec_
      subst ea_
      subst ec_
      clear en_
      go_wp2
      go_roundg k1
      case measure => have := HK1.out; omega
      case rel => exact ⟨((rd_T34 l0 x4_1).f0), (wrap64 (x4_1 + 1)), (by first | rfl | (simp; done) | (simp [*]; done) | (simp [isEmpty_ne_]; done)), (by first | rfl | (simp; done) | (simp [*]; done) | (simp [isEmpty_ne_]; done)), H', ⟨by have := HK1.out; omega⟩, by repeat (first | exact Drawn0.refl _ | apply Drawn0.step)⟩
     ·rw [if_neg c4] at H
      have c4b0 : decide (x3_1 < ((rd_T34 l0 x4_1).f0)) = false := decide_eq_false c4
      clear c4
      have H' := Aside0.mk H
      clear H
      have p188 : 0 ≤ (x4_1 : Int) := of_decide_eq_true (by first | (with_reducible assumption) | assumption)
      have q188 : x4_1 < (l0.length : Int) := of_decide_eq_true (by first | (with_reducible assumption) | assumption)
      obtain ⟨ad188, A188_5, c188_5, e188, hx188_0, hx188_1, hx188_2, hx188_3, hx188_4, hx188_5, hx188_6, hx188_7, hx188_8, hl188_5, hi188_5⟩ := at_T34 HR0.out x4_1 p188 q188
      cases e188
      have HR188_5 := Aside0.mk hi188_5
      have HC188_5 := Aside0.mk hl188_5
      clear hi188_5 hl188_5
      replace p188 := eq_true p188
      replace q188 := eq_true q188
      go_wp2
      go_roundg k1
      case measure => have := HK1.out; omega
      case rel => exact ⟨(x3_1), (wrap64 (x4_1 + 1)), (by first | rfl | (simp; done) | (simp [*]; done) | (simp [isEmpty_ne_]; done)), (by first | rfl | (simp; done) | (simp [*]; done) | (simp [isEmpty_ne_]; done)), H', ⟨by have := HK1.out; omega⟩, by repeat (first | exact Drawn0.refl _ | apply Drawn0.step)⟩
    ·rw [if_neg c3] at H
     exact absurd H (by simp)
   ·rw [if_neg c2] at H
    have c2b0 : decide (x4_1 < (l0.length : Int)) = false := decide_eq_false c2
    clear c2
    obtain rfl := Option.some.inj H
    go_wp2
    go_ret
    exact ⟨by first | rfl | (simp; done) | (simp [*]; done) | (simp [isEmpty_ne_]; done), by repeat (first | exact Drawn0.refl _ | apply Drawn0.step)⟩

end Go.Proofs.YtlhffhhbnoikoaaDoor.GC
