-- Written for this claim by a program of this session (wip/tools/p2.py).
import Derived.Test.YtaimjacpenofpaaDoorGCx0
import Derived.Test.YtaimjacpenofpaaDoorGCx6
import Derived.Test.YtaimjacpenofpaaDoorGCx9
namespace Go.Proofs.YtaimjacpenofpaaDoor.GC
open Go.RowKit Go.Proofs.YtaimjacpenofpaaDoorW.PrintWords Go.Proofs.YtaimjacpenofpaaDoorW.PrintLast Go.Proofs.YtaimjacpenofpaaDoorW.PrintMore
attribute [local go_sem] max2_int min2_int max_two min_two max_three min_three max_four min_four   -- for this text's walks alone
set_option linter.unusedVariables false
set_option linter.unusedSimpArgs false

/-! ### filter_Check: function 16 -/
mutual
def filter_Check.l0 : Nat → List (S38) → List Int → List Int → List (S38) → Int → Int → Option (Int × Int)
 | 0, _, _, _, _, _, _ => none
 | k + 1, x0, x4, x5, x15, x16, x17 => if x17 < x16 then (if 0 ≤ x17 then (if x17 < (x15.length : Int) then ((filter_follows.f x0 x17).bind fun t213 => (if t213 = true then (if ((rd_T38 x15 x17).f0) > 64 then (some (121, x17)) else ((filter_shaped.f k ((rd_T38 x15 x17).f0) ((rd_T38 x15 x17).f1) ((rd_T38 x15 x17).f2) ((rd_T38 x15 x17).f3) ((rd_T38 x15 x17).f4.f0) ((rd_T38 x15 x17).f4.f1) ((rd_T38 x15 x17).f4.f2) ((rd_T38 x15 x17).f5) ((rd_T38 x15 x17).f6)).bind fun t214 => (if t214 = true then (if 0 ≤ (wrap64 (((rd_T38 x15 x17).f0) - 1)) then (if (wrap64 (((rd_T38 x15 x17).f0) - 1)) ≤ (x4.length : Int) then ((some (x4.take ((wrap64 (((rd_T38 x15 x17).f0) - 1)) : Int).toNat : List Int)).bind fun y215 => (if y215.length < 17592186044416 then ((some (y215 ++ [x17] : List Int)).bind fun y218 => (if ((rd_T38 x15 x17).f0) > 1 then (if 0 ≤ (wrap64 (((rd_T38 x15 x17).f0) - 2)) then (if (wrap64 (((rd_T38 x15 x17).f0) - 2)) < (y218.length : Int) then (if 0 ≤ (rd y218 (wrap64 (((rd_T38 x15 x17).f0) - 2))) then (if (rd y218 (wrap64 (((rd_T38 x15 x17).f0) - 2))) < (x5.length : Int) then ((some (x5.set ((rd y218 (wrap64 (((rd_T38 x15 x17).f0) - 2))) : Int).toNat (wrap64 ((rd x5 (rd y218 (wrap64 (((rd_T38 x15 x17).f0) - 2)))) + 1)) : List Int)).bind fun y223 => (if (rd y218 (wrap64 (((rd_T38 x15 x17).f0) - 2))) < (x0.length : Int) then (if ((rd_T38 x0 (rd y218 (wrap64 (((rd_T38 x15 x17).f0) - 2)))).f1) = 2 then (filter_Check.j1 k x0 y218 y223 x17 x15 x16 x17 (decide ((rd y223 (rd y218 (wrap64 (((rd_T38 x15 x17).f0) - 2)))) > 1)) ((rd_T38 x15 x17).f0) ((rd_T38 x15 x17).f1) ((rd_T38 x15 x17).f2) ((rd_T38 x15 x17).f3) ((rd_T38 x15 x17).f4.f0) ((rd_T38 x15 x17).f4.f1) ((rd_T38 x15 x17).f4.f2) ((rd_T38 x15 x17).f5) ((rd_T38 x15 x17).f6)) else (filter_Check.j1 k x0 y218 y223 x17 x15 x16 x17 false ((rd_T38 x15 x17).f0) ((rd_T38 x15 x17).f1) ((rd_T38 x15 x17).f2) ((rd_T38 x15 x17).f3) ((rd_T38 x15 x17).f4.f0) ((rd_T38 x15 x17).f4.f1) ((rd_T38 x15 x17).f4.f2) ((rd_T38 x15 x17).f5) ((rd_T38 x15 x17).f6))) else (none))) else (none)) else (none)) else (none)) else (none)) else (if ((rd_T38 x15 x17).f1) = 2 then (if (wrap64 (x17 + 1)) = (x0.length : Int) then (some (120, x17)) else (if 0 ≤ (wrap64 (x17 + 1)) then (if (wrap64 (x17 + 1)) < (x0.length : Int) then (if ((rd_T38 x0 (wrap64 (x17 + 1))).f0) = (wrap64 (((rd_T38 x15 x17).f0) + 1)) then (filter_Check.l0 k x0 y218 x5 x15 x16 (wrap64 (x17 + 1))) else (some (120, x17))) else (none)) else (none))) else (filter_Check.l0 k x0 y218 x5 x15 x16 (wrap64 (x17 + 1)))))) else (none))) else (none)) else (none)) else (some (120, x17))))) else (some (120, x17)))) else (none)) else (none)) else (some (0, 0))
def filter_Check.j1 : Nat → List (S38) → List Int → List Int → Int → List (S38) → Int → Int → Bool → Int → Int → ByteArray → ByteArray → ByteArray → List ByteArray → ByteArray → ByteArray → Bool → Option (Int × Int)
 | 0, _, _, _, _, _, _, _, _, _, _, _, _, _, _, _, _, _ => none
 | k + 1, x0, x4, x5, x6, x15, x16, x17, x73, x213000, x213001, x213002, x213003, x213004, x213005, x213006, x213007, x213008 => if x73 = true then (some (120, x6)) else (if x213001 = 2 then (if (wrap64 (x6 + 1)) = (x0.length : Int) then (some (120, x6)) else (if 0 ≤ (wrap64 (x6 + 1)) then (if (wrap64 (x6 + 1)) < (x0.length : Int) then (if ((rd_T38 x0 (wrap64 (x6 + 1))).f0) = (wrap64 (x213000 + 1)) then (filter_Check.l0 k x0 x4 x5 x15 x16 (wrap64 (x17 + 1))) else (some (120, x6))) else (none)) else (none))) else (filter_Check.l0 k x0 x4 x5 x15 x16 (wrap64 (x17 + 1))))
end
def filter_Check.f (k : Nat) (l0 : List (S38)) : Option (Int × Int) := if (l0.length : Int) = 0 then (some (120, 0)) else (if 0 ≤ (l0.length : Int) then (if ((l0.length : Int) : Int).toNat ≤ 35184372088832 then (filter_Check.l0 k l0 ([] : List Int) (List.replicate ((l0.length : Int) : Int).toNat 0) l0 (l0.length : Int) 0) else (none)) else (none))
theorem filter_Check.mono_l : ∀ k, (∀ y0 y1 y2 y3 y4 y5, LeO (filter_Check.l0 k y0 y1 y2 y3 y4 y5) (filter_Check.l0 (k + 1) y0 y1 y2 y3 y4 y5)) ∧ (∀ y0 y1 y2 y3 y4 y5 y6 y7 y8 y9 y10 y11 y12 y13 y14 y15 y16, LeO (filter_Check.j1 k y0 y1 y2 y3 y4 y5 y6 y7 y8 y9 y10 y11 y12 y13 y14 y15 y16) (filter_Check.j1 (k + 1) y0 y1 y2 y3 y4 y5 y6 y7 y8 y9 y10 y11 y12 y13 y14 y15 y16))
 | 0 => ⟨fun _ _ _ _ _ _ r h => by simp [filter_Check.l0] at h, fun _ _ _ _ _ _ _ _ _ _ _ _ _ _ _ _ _ r h => by simp [filter_Check.j1] at h⟩
 | k + 1 => by
  obtain ⟨ih0, ih1⟩ := filter_Check.mono_l k
  refine ⟨?_, ?_⟩
  ·intro y0 y1 y2 y3 y4 y5
   unfold filter_Check.l0
   repeat' first
   | (with_reducible exact ih0 _ _ _ _ _ _)
   | (with_reducible exact ih1 _ _ _ _ _ _ _ _ _ _ _ _ _ _ _ _ _)
   | (with_reducible exact filter_shaped.mono _ _ _ _ _ _ _ _ _ _)
   | (with_reducible exact LeO.refl _)
   | (with_reducible exact LeO.none _)
   | (with_reducible refine LeO.ite ?_ ?_)
   | (with_reducible refine LeO.bind ?_ (fun _ => ?_))
   | exact ih0 _ _ _ _ _ _
   | exact ih1 _ _ _ _ _ _ _ _ _ _ _ _ _ _ _ _ _
   | exact filter_shaped.mono _ _ _ _ _ _ _ _ _ _
   | exact LeO.none _
   | refine LeO.ite ?_ ?_
   | refine LeO.bind ?_ (fun _ => ?_)
  ·intro y0 y1 y2 y3 y4 y5 y6 y7 y8 y9 y10 y11 y12 y13 y14 y15 y16
   unfold filter_Check.j1
   repeat' first
   | (with_reducible exact ih0 _ _ _ _ _ _)
   | (with_reducible exact ih1 _ _ _ _ _ _ _ _ _ _ _ _ _ _ _ _ _)
   | (with_reducible exact filter_shaped.mono _ _ _ _ _ _ _ _ _ _)
   | (with_reducible exact LeO.refl _)
   | (with_reducible exact LeO.none _)
   | (with_reducible refine LeO.ite ?_ ?_)
   | (with_reducible refine LeO.bind ?_ (fun _ => ?_))
   | exact ih0 _ _ _ _ _ _
   | exact ih1 _ _ _ _ _ _ _ _ _ _ _ _ _ _ _ _ _
   | exact filter_shaped.mono _ _ _ _ _ _ _ _ _ _
   | exact LeO.none _
   | refine LeO.ite ?_ ?_
   | refine LeO.bind ?_ (fun _ => ?_)
theorem filter_Check.mono : ∀ a0 k, LeO (filter_Check.f k a0) (filter_Check.f (k + 1) a0) := by
 intro a0 k
 obtain ⟨ih0, ih1⟩ := filter_Check.mono_l k
 unfold filter_Check.f
 repeat' first
   | (with_reducible exact ih0 _ _ _ _ _ _)
   | (with_reducible exact ih1 _ _ _ _ _ _ _ _ _ _ _ _ _ _ _ _ _)
   | (with_reducible exact filter_shaped.mono _ _ _ _ _ _ _ _ _ _)
   | (with_reducible exact LeO.refl _)
   | (with_reducible exact LeO.none _)
   | (with_reducible refine LeO.ite ?_ ?_)
   | (with_reducible refine LeO.bind ?_ (fun _ => ?_))
   | exact ih0 _ _ _ _ _ _
   | exact ih1 _ _ _ _ _ _ _ _ _ _ _ _ _ _ _ _ _
   | exact filter_shaped.mono _ _ _ _ _ _ _ _ _ _
   | exact LeO.none _
   | refine LeO.ite ?_ ?_
   | refine LeO.bind ?_ (fun _ => ?_)
set_option maxHeartbeats 8000000 in
set_option maxRecDepth 100000 in
theorem filter_Check.calls (k : Nat) (A0 : Option Addr) (c0 : Nat) (l0 : List (S38)) (r1 : Int) (r2 : Int) (w : World) (hr0 : Kd.C k38 w A0 l0.length l0) (hc0 : l0.length ≤ c0) (h : filter_Check.f k l0 = some (r1, r2)) :
  Calls Tryd.prog 16 #[.slice A0 l0.length c0] w fun e w' => e = .returned (.tuple #[.int .i64 r1, .int .i64 r2]) ∧ Below w.heap.size w w' := by
 have hu38 := Tryd.underlying38
 have HR0 := Aside0.mk hr0
 have HC0 := Aside0.mk hc0
 clear hr0 hc0
 have HB := Aside0.mk (Below.refl w.heap.size w)
 have H : (if (l0.length : Int) = 0 then (some (120, 0)) else (if 0 ≤ (l0.length : Int) then (if ((l0.length : Int) : Int).toNat ≤ 35184372088832 then (filter_Check.l0 k l0 ([] : List Int) (List.replicate ((l0.length : Int) : Int).toNat 0) l0 (l0.length : Int) 0) else (none)) else (none))) = some (r1, r2) := h
 clear h
 by_cases c2 : (l0.length : Int) = 0
 ·rw [if_pos c2] at H
  have c2b0 : ((l0.length : Int) == 0) = true := beq_iff_eq.mpr c2
  have c2b1 : ((l0.length : Int) != 0) = false := bne_eq_false_iff_eq.mpr c2
  clear c2
  simp only [Option.some.injEq, Prod.mk.injEq] at H
  obtain ⟨rfl, rfl⟩ := H
  go_enter Tryd.func16, Tryd.ntmps16
  go_wp2
  repeat (go_quiet (fail); try go_wp2)
  go_ret2
  exact ⟨by first | rfl | (simp [isEmpty_ne_]; done) | (simp [*, errW_none, errW_some] <;> rfl), by repeat (first | (with_reducible first | exact HB.out | apply below_alloc | apply pw_below_drewN | apply below_drew1) | exact HB.out)⟩
 ·rw [if_neg c2] at H
  have c2b0 : ((l0.length : Int) == 0) = false := beq_eq_false_iff_ne.mpr c2
  have c2b1 : ((l0.length : Int) != 0) = true := bne_iff_ne.mpr c2
  have c2b2 : ¬ (l0 = []) := fun h_ => c2 (by rw [h_]; rfl)
  by_cases c3 : 0 ≤ (l0.length : Int)
  ·rw [if_pos c3] at H
   have c3b0 := eq_true c3
   have c3b1 : decide (0 ≤ (l0.length : Int)) = true := decide_eq_true c3
   clear c3
   by_cases c4 : ((l0.length : Int) : Int).toNat ≤ 35184372088832
   ·rw [if_pos c4] at H
    have c4b0 := eq_true c4
    have c4b1 : decide (((l0.length : Int) : Int).toNat ≤ 35184372088832) = true := decide_eq_true c4
    clear c4
    obtain ⟨y208, hy208⟩ : ∃ y_ : List Int, y_ = (List.replicate ((l0.length : Int) : Int).toNat 0) := ⟨_, rfl⟩
    replace H : (filter_Check.l0 k l0 ([] : List Int) y208 l0 (l0.length : Int) 0) = some (r1, r2) := by first | (rw [hy208]; with_reducible exact H) | (have H2_ := (Option.bind_some _ _).symm.trans H; rw [hy208]; with_reducible exact H2_) | (have H2_ := (Option.bind_some _ _).symm.trans H; with_reducible exact H2_) | with_reducible exact H | (rw [hy208]; exact H) | exact H
    have Ny208 := Aside0.mk hy208
    clear hy208
    have H' := Aside0.mk H
    clear H
    go_enter Tryd.func16, Tryd.ntmps16
    iterate 9 (try (first | go_quiet (fail) | go_wp2_with (first | ((with_reducible refine gate_dst (N := 14) rfl ?_); (try (refine gate_guard (by rfl) ?_; dsimp only)); refine Kd.R_make (Kd.int .i64) _ 3 rfl (N := 14) rfl 48 _ _ rfl (l0.length : Int) rfl rfl Tryd.underlying48 (.int .i64 0) 8 info3 rfl (by decide) (by omega) 0 (ok := fun _ => True) (okp := fun _ => True) rfl (fun _ hk => hk) trivial (of_decide_eq_true (by first | (with_reducible assumption) | assumption)) (Nat.le_trans (Nat.mul_le_mul_right _ (of_decide_eq_true (by first | (with_reducible assumption) | assumption) : (l0.length : Int).toNat ≤ 35184372088832)) (by omega)) (Below.refl _ _) (Nat.le_refl _) ?_; intro v209 w5 ho6 hb hg_ hnew_; clear hg_ hnew_; (first | rw [← Ny208.out] at ho6 | (simp only [Int.reduceToNat] at ho6; rw [← Ny208.out] at ho6)); have n0_ := Aside0.mk (Kd.R_lower ho6 (below_size (by repeat (first | (with_reducible first | exact HB.out | apply below_alloc | apply pw_below_drewN | apply below_drew1) | exact HB.out)))); have n1_ := Aside0.mk (below_step (by repeat (first | (with_reducible first | exact HB.out | apply below_alloc | apply pw_below_drewN | apply below_drew1) | exact HB.out)) hb); clear HB; have HO210 := n0_; have HB := n1_; clear n0_ n1_; clear hb ho6))))
    go_loopg [4, 17] k (fun kq v4 v17 w' => ∃ (x4_1 : List Int) (x5_1 : List Int) (x17_1 : Int), v17 = .int .i64 x17_1 ∧ Aside0 (filter_Check.l0 kq l0 x4_1 x5_1 l0 (l0.length : Int) x17_1 = some (r1, r2)) ∧ Aside0 (kq ≤ k) ∧ Aside0 (Kd.R (Kd.int .i64) 3 w' w.heap.size (fun k_ => some k_ ≠ (v209 : Value).ownBlock) v4 x4_1) ∧ Aside0 (Kd.R (Kd.int .i64) 3 w' w.heap.size (fun k_ => some k_ ≠ (v4 : Value).ownBlock) v209 x5_1) ∧ Aside0 (Below w.heap.size w w'))
    case atStart => exact ⟨(([] : List Int)), (y208), (0), (by first | rfl | (simp; done) | (simp [*]; done) | (simp [isEmpty_ne_]; done)), H', ⟨Nat.le_refl _⟩, ⟨by first | exact Kd.R_nil _ _ _ _ _ | exact Kd.N_nil _ _ _ _ _ | exact Kd.V_nil _ _ _ _ _ | exact Kd.Q_nil _ _ _ _ _ | exact Kd.S_nil _ _ _ _ _⟩, ⟨by (with_reducible repeat (first | apply Kd.R_alloc | apply Kd.R_drewN | apply Kd.R_drew)); exact Kd.R_mono HO210.out (fun _ hk => (by simp [Value.ownBlock]))⟩, ⟨by repeat (first | (with_reducible first | exact HB.out | apply below_alloc | apply pw_below_drewN | apply below_drew1) | exact HB.out)⟩⟩
    case round =>
     clear H'
     try clear c1
     try clear c2
     try clear c2b0
     try clear c2b1
     try clear c2b2
     try clear p2
     try clear c3
     try clear c3b0
     try clear c3b1
     try clear c4
     try clear c4b0
     try clear c4b1
     obtain ⟨x4_1, x5_1, x17_1, rfl, HA, HK1, HO_4, HO_5, HB⟩ := hrel
     cases gk with
     | zero => exact absurd HA.out (by simp [filter_Check.l0])
     | succ k1 =>
      have H := HA.out
      clear HA
      simp only [filter_Check.l0] at H
      by_cases c7 : x17_1 < (l0.length : Int)
      ·rw [if_pos c7] at H
       have c7b0 : decide (x17_1 < (l0.length : Int)) = true := decide_eq_true c7
       clear c7
       by_cases c8 : 0 ≤ x17_1
       ·rw [if_pos c8] at H
        have c8b0 : decide (0 ≤ x17_1) = true := decide_eq_true c8
        clear c8
        by_cases c9 : x17_1 < (l0.length : Int)
        ·rw [if_pos c9] at H
         have c9b0 : decide (x17_1 < (l0.length : Int)) = true := decide_eq_true c9
         clear c9
         replace H := Option.bind_eq_some_iff.mp H
         obtain ⟨t213, A100, H⟩ := H
         replace H : (if t213 = true then (if ((rd_T38 l0 x17_1).f0) > 64 then (some (121, x17_1)) else ((filter_shaped.f k1 ((rd_T38 l0 x17_1).f0) ((rd_T38 l0 x17_1).f1) ((rd_T38 l0 x17_1).f2) ((rd_T38 l0 x17_1).f3) ((rd_T38 l0 x17_1).f4.f0) ((rd_T38 l0 x17_1).f4.f1) ((rd_T38 l0 x17_1).f4.f2) ((rd_T38 l0 x17_1).f5) ((rd_T38 l0 x17_1).f6)).bind fun t214 => (if t214 = true then (if 0 ≤ (wrap64 (((rd_T38 l0 x17_1).f0) - 1)) then (if (wrap64 (((rd_T38 l0 x17_1).f0) - 1)) ≤ (x4_1.length : Int) then ((some (x4_1.take ((wrap64 (((rd_T38 l0 x17_1).f0) - 1)) : Int).toNat : List Int)).bind fun y215 => (if y215.length < 17592186044416 then ((some (y215 ++ [x17_1] : List Int)).bind fun y218 => (if ((rd_T38 l0 x17_1).f0) > 1 then (if 0 ≤ (wrap64 (((rd_T38 l0 x17_1).f0) - 2)) then (if (wrap64 (((rd_T38 l0 x17_1).f0) - 2)) < (y218.length : Int) then (if 0 ≤ (rd y218 (wrap64 (((rd_T38 l0 x17_1).f0) - 2))) then (if (rd y218 (wrap64 (((rd_T38 l0 x17_1).f0) - 2))) < (x5_1.length : Int) then ((some (x5_1.set ((rd y218 (wrap64 (((rd_T38 l0 x17_1).f0) - 2))) : Int).toNat (wrap64 ((rd x5_1 (rd y218 (wrap64 (((rd_T38 l0 x17_1).f0) - 2)))) + 1)) : List Int)).bind fun y223 => (if (rd y218 (wrap64 (((rd_T38 l0 x17_1).f0) - 2))) < (l0.length : Int) then (if ((rd_T38 l0 (rd y218 (wrap64 (((rd_T38 l0 x17_1).f0) - 2)))).f1) = 2 then (filter_Check.j1 k1 l0 y218 y223 x17_1 l0 (l0.length : Int) x17_1 (decide ((rd y223 (rd y218 (wrap64 (((rd_T38 l0 x17_1).f0) - 2)))) > 1)) ((rd_T38 l0 x17_1).f0) ((rd_T38 l0 x17_1).f1) ((rd_T38 l0 x17_1).f2) ((rd_T38 l0 x17_1).f3) ((rd_T38 l0 x17_1).f4.f0) ((rd_T38 l0 x17_1).f4.f1) ((rd_T38 l0 x17_1).f4.f2) ((rd_T38 l0 x17_1).f5) ((rd_T38 l0 x17_1).f6)) else (filter_Check.j1 k1 l0 y218 y223 x17_1 l0 (l0.length : Int) x17_1 false ((rd_T38 l0 x17_1).f0) ((rd_T38 l0 x17_1).f1) ((rd_T38 l0 x17_1).f2) ((rd_T38 l0 x17_1).f3) ((rd_T38 l0 x17_1).f4.f0) ((rd_T38 l0 x17_1).f4.f1) ((rd_T38 l0 x17_1).f4.f2) ((rd_T38 l0 x17_1).f5) ((rd_T38 l0 x17_1).f6))) else (none))) else (none)) else (none)) else (none)) else (none)) else (if ((rd_T38 l0 x17_1).f1) = 2 then (if (wrap64 (x17_1 + 1)) = (l0.length : Int) then (some (120, x17_1)) else (if 0 ≤ (wrap64 (x17_1 + 1)) then (if (wrap64 (x17_1 + 1)) < (l0.length : Int) then (if ((rd_T38 l0 (wrap64 (x17_1 + 1))).f0) = (wrap64 (((rd_T38 l0 x17_1).f0) + 1)) then (filter_Check.l0 k1 l0 y218 x5_1 l0 (l0.length : Int) (wrap64 (x17_1 + 1))) else (some (120, x17_1))) else (none)) else (none))) else (filter_Check.l0 k1 l0 y218 x5_1 l0 (l0.length : Int) (wrap64 (x17_1 + 1)))))) else (none))) else (none)) else (none)) else (some (120, x17_1))))) else (some (120, x17_1))) = some (r1, r2) := H
         have A10 := Aside0.mk A100
         clear A100
         by_cases c11 : t213 = true
         ·subst c11
          have H1 : (if ((rd_T38 l0 x17_1).f0) > 64 then (some (121, x17_1)) else ((filter_shaped.f k1 ((rd_T38 l0 x17_1).f0) ((rd_T38 l0 x17_1).f1) ((rd_T38 l0 x17_1).f2) ((rd_T38 l0 x17_1).f3) ((rd_T38 l0 x17_1).f4.f0) ((rd_T38 l0 x17_1).f4.f1) ((rd_T38 l0 x17_1).f4.f2) ((rd_T38 l0 x17_1).f5) ((rd_T38 l0 x17_1).f6)).bind fun t214 => (if t214 = true then (if 0 ≤ (wrap64 (((rd_T38 l0 x17_1).f0) - 1)) then (if (wrap64 (((rd_T38 l0 x17_1).f0) - 1)) ≤ (x4_1.length : Int) then ((some (x4_1.take ((wrap64 (((rd_T38 l0 x17_1).f0) - 1)) : Int).toNat : List Int)).bind fun y215 => (if y215.length < 17592186044416 then ((some (y215 ++ [x17_1] : List Int)).bind fun y218 => (if ((rd_T38 l0 x17_1).f0) > 1 then (if 0 ≤ (wrap64 (((rd_T38 l0 x17_1).f0) - 2)) then (if (wrap64 (((rd_T38 l0 x17_1).f0) - 2)) < (y218.length : Int) then (if 0 ≤ (rd y218 (wrap64 (((rd_T38 l0 x17_1).f0) - 2))) then (if (rd y218 (wrap64 (((rd_T38 l0 x17_1).f0) - 2))) < (x5_1.length : Int) then ((some (x5_1.set ((rd y218 (wrap64 (((rd_T38 l0 x17_1).f0) - 2))) : Int).toNat (wrap64 ((rd x5_1 (rd y218 (wrap64 (((rd_T38 l0 x17_1).f0) - 2)))) + 1)) : List Int)).bind fun y223 => (if (rd y218 (wrap64 (((rd_T38 l0 x17_1).f0) - 2))) < (l0.length : Int) then (if ((rd_T38 l0 (rd y218 (wrap64 (((rd_T38 l0 x17_1).f0) - 2)))).f1) = 2 then (filter_Check.j1 k1 l0 y218 y223 x17_1 l0 (l0.length : Int) x17_1 (decide ((rd y223 (rd y218 (wrap64 (((rd_T38 l0 x17_1).f0) - 2)))) > 1)) ((rd_T38 l0 x17_1).f0) ((rd_T38 l0 x17_1).f1) ((rd_T38 l0 x17_1).f2) ((rd_T38 l0 x17_1).f3) ((rd_T38 l0 x17_1).f4.f0) ((rd_T38 l0 x17_1).f4.f1) ((rd_T38 l0 x17_1).f4.f2) ((rd_T38 l0 x17_1).f5) ((rd_T38 l0 x17_1).f6)) else (filter_Check.j1 k1 l0 y218 y223 x17_1 l0 (l0.length : Int) x17_1 false ((rd_T38 l0 x17_1).f0) ((rd_T38 l0 x17_1).f1) ((rd_T38 l0 x17_1).f2) ((rd_T38 l0 x17_1).f3) ((rd_T38 l0 x17_1).f4.f0) ((rd_T38 l0 x17_1).f4.f1) ((rd_T38 l0 x17_1).f4.f2) ((rd_T38 l0 x17_1).f5) ((rd_T38 l0 x17_1).f6))) else (none))) else (none)) else (none)) else (none)) else (none)) else (if ((rd_T38 l0 x17_1).f1) = 2 then (if (wrap64 (x17_1 + 1)) = (l0.length : Int) then (some (120, x17_1)) else (if 0 ≤ (wrap64 (x17_1 + 1)) then (if (wrap64 (x17_1 + 1)) < (l0.length : Int) then (if ((rd_T38 l0 (wrap64 (x17_1 + 1))).f0) = (wrap64 (((rd_T38 l0 x17_1).f0) + 1)) then (filter_Check.l0 k1 l0 y218 x5_1 l0 (l0.length : Int) (wrap64 (x17_1 + 1))) else (some (120, x17_1))) else (none)) else (none))) else (filter_Check.l0 k1 l0 y218 x5_1 l0 (l0.length : Int) (wrap64 (x17_1 + 1)))))) else (none))) else (none)) else (none)) else (some (120, x17_1))))) = some (r1, r2) := by rw [if_pos rfl] at H; exact H
          clear H
          have H := H1
          clear H1
          by_cases c12 : ((rd_T38 l0 x17_1).f0) > 64
          ·rw [if_pos c12] at H
           have c12b0 : decide (64 < ((rd_T38 l0 x17_1).f0)) = true := decide_eq_true c12
           clear c12
           simp only [Option.some.injEq, Prod.mk.injEq] at H
           obtain ⟨rfl, rfl⟩ := H
           have p211 : 0 ≤ (x17_1 : Int) := of_decide_eq_true (by first | (with_reducible assumption) | assumption)
           have q211 : x17_1 < (l0.length : Int) := of_decide_eq_true (by first | (with_reducible assumption) | assumption)
           obtain ⟨ad211, A211_5, c211_5, e211, hx211_0, hx211_1, hx211_2, hx211_3, hx211_4, hx211_5, hx211_6, hx211_7, hx211_8, hl211_5, hi211_5⟩ := at_T38 HR0.out x17_1 p211 q211
           cases e211
           replace hx211_0 := cellB_ HB.out hx211_0
           replace hx211_1 := cellB_ HB.out hx211_1
           replace hx211_2 := cellB_ HB.out hx211_2
           replace hx211_3 := cellB_ HB.out hx211_3
           replace hx211_4 := cellB_ HB.out hx211_4
           replace hx211_5 := cellB_ HB.out hx211_5
           replace hx211_6 := cellB_ HB.out hx211_6
           replace hx211_7 := cellB_ HB.out hx211_7
           replace hx211_8 := cellB_ HB.out hx211_8
           have HR211_5 := Aside0.mk hi211_5
           have HC211_5 := Aside0.mk hl211_5
           clear hi211_5 hl211_5
           replace p211 := eq_true p211
           replace q211 := eq_true q211
           iterate 9 (try (first | go_quiet (fail) | go_wp2_with (first | ((with_reducible refine gate_dst (N := 7) rfl ?_); (try (refine gate_guard (by rfl) ?_; dsimp only)); refine box_event ?hg (N := 7) ?hd (cs := #[.int .i64 0, .int .i64 0, .string (⟨#[]⟩ : ByteArray), .string (⟨#[]⟩ : ByteArray), .string (⟨#[]⟩ : ByteArray), .slice none 0 0, .string (⟨#[]⟩ : ByteArray), .string (⟨#[]⟩ : ByteArray), .bool false]) (t := 38) ?hr ?_; (case hd => rfl); (case hg => rfl); (case hr => first | (go_simp; done) | (go_simp; rfl)); intro gb212 hg w13 hbox hb; have n0_ := Aside0.mk (Kd.R_below (by (with_reducible repeat (first | apply Kd.R_alloc | apply Kd.R_drewN | apply Kd.R_drew)); exact HO_4.out) hb); have n1_ := Aside0.mk (Kd.R_below (by (with_reducible repeat (first | apply Kd.R_alloc | apply Kd.R_drewN | apply Kd.R_drew)); exact HO_5.out) hb); have n2_ := Aside0.mk (below_step (by repeat (first | (with_reducible first | exact HB.out | apply below_alloc | apply pw_below_drewN | apply below_drew1) | exact HB.out)) hb); have n3_ := Aside0.mk (hbox); have n4_ := Aside0.mk ((by rw [hg]; exact (below_size (by repeat (first | (with_reducible first | exact HB.out | apply below_alloc | apply pw_below_drewN | apply below_drew1) | exact HB.out))) : w.heap.size ≤ gb212)); have n5_ := Aside0.mk ((by rw [hg]; exact (below_size (by repeat (first | (with_reducible first | exact HB.out | apply below_alloc | apply pw_below_drewN | apply below_drew1) | exact HB.out))) : w.heap.size ≤ gb212)); clear HO_4; clear HO_5; clear HB; have HO_4 := n0_; have HO_5 := n1_; have HB := n2_; have BK212 := n3_; have GW212 := n4_; have GE212 := n5_; clear n0_ n1_ n2_ n3_ n4_ n5_; clear hb hbox hg; obtain ⟨hcz14_0, hcz14_1, hcz14_2, hcz14_3, hcz14_4, hcz14_5, hcz14_6, hcz14_7, hcz14_8⟩ := cells9_ BK212.out; obtain ⟨hfz14_0, hfz14_1, hfz14_2, hfz14_3, hfz14_4, hfz14_5, hfz14_6, hfz14_7, hfz14_8⟩ := frz9_ BK212.out) | (go_at_call 23; (with_reducible refine (filter_follows.calls _ _ l0 x17_1 true _ ?side1 ?side2 A10.out).mono ?_); (case side1 => exact Kd.C_below HR0.out (by repeat (first | (with_reducible first | exact HB.out | apply below_alloc | apply pw_below_drewN | apply below_drew1 | refine below_set ?_ GE212.out) | exact HB.out))); (case side2 => exact HC0.out); rintro e w15 ⟨rfl, hb⟩; have n0_ := Aside0.mk (Kd.R_below (by (with_reducible repeat (first | apply Kd.R_alloc | apply Kd.R_drewN | apply Kd.R_drew)); exact (Kd.R_mono (Rfar9_ (g := gb212) (Kd.R_types HO_4.out BK212.out (by decide)) (fun _ hk => hk.2)) (fun _ h_ => h_.1))) hb); have n1_ := Aside0.mk (Kd.R_below (by (with_reducible repeat (first | apply Kd.R_alloc | apply Kd.R_drewN | apply Kd.R_drew)); exact (Kd.R_mono (Rfar9_ (g := gb212) (Kd.R_types HO_5.out BK212.out (by decide)) (fun _ hk => hk.2)) (fun _ h_ => h_.1))) hb); have n2_ := Aside0.mk (blk_below (g := gb212) (o := .cells #[.int .i64 ((rd_T38 l0 x17_1).f0), .int .i64 ((rd_T38 l0 x17_1).f1), .string ((rd_T38 l0 x17_1).f2), .string ((rd_T38 l0 x17_1).f3), .string ((rd_T38 l0 x17_1).f4.f0), .slice A211_5 ((rd_T38 l0 x17_1).f4.f1).length c211_5, .string ((rd_T38 l0 x17_1).f4.f2), .string ((rd_T38 l0 x17_1).f5), .bool ((rd_T38 l0 x17_1).f6)] 38 (0, 0)) (by (with_reducible repeat (first | refine blk_drewN ?_ _ | refine blk_drew ?_ | refine blk_alloc ?_ _)); exact put9_ (by (with_reducible repeat (first | refine blk_drewN ?_ _ | refine blk_drew ?_ | refine blk_alloc ?_ _)); exact BK212.out)) hb); have n3_ := Aside0.mk (below_step (by repeat (first | (with_reducible first | exact HB.out | apply below_alloc | apply pw_below_drewN | apply below_drew1 | refine below_set ?_ GE212.out) | exact HB.out)) hb); clear HO_4; clear HO_5; clear BK212; clear HB; have HO_4 := n0_; have HO_5 := n1_; have BK212 := n2_; have HB := n3_; clear n0_ n1_ n2_ n3_; (try clear hb); (try clear hb2); (try clear hk); (try clear hi); obtain ⟨hcz16_0, hcz16_1, hcz16_2, hcz16_3, hcz16_4, hcz16_5, hcz16_6, hcz16_7, hcz16_8⟩ := cells9_ BK212.out; obtain ⟨hfz16_0, hfz16_1, hfz16_2, hfz16_3, hfz16_4, hfz16_5, hfz16_6, hfz16_7, hfz16_8⟩ := frz9_ BK212.out))))
           go_ret2
           exact ⟨by first | rfl | (simp [isEmpty_ne_]; done) | (simp [*, errW_none, errW_some] <;> rfl), by repeat (first | (with_reducible first | exact HB.out | apply below_alloc | apply pw_below_drewN | apply below_drew1 | refine below_set ?_ GE212.out) | exact HB.out)⟩
          ·rw [if_neg c12] at H
           have c12b0 : decide (64 < ((rd_T38 l0 x17_1).f0)) = false := decide_eq_false c12
           clear c12
           replace H := Option.bind_eq_some_iff.mp H
           obtain ⟨t214, A170, H⟩ := H
           replace H : (if t214 = true then (if 0 ≤ (wrap64 (((rd_T38 l0 x17_1).f0) - 1)) then (if (wrap64 (((rd_T38 l0 x17_1).f0) - 1)) ≤ (x4_1.length : Int) then ((some (x4_1.take ((wrap64 (((rd_T38 l0 x17_1).f0) - 1)) : Int).toNat : List Int)).bind fun y215 => (if y215.length < 17592186044416 then ((some (y215 ++ [x17_1] : List Int)).bind fun y218 => (if ((rd_T38 l0 x17_1).f0) > 1 then (if 0 ≤ (wrap64 (((rd_T38 l0 x17_1).f0) - 2)) then (if (wrap64 (((rd_T38 l0 x17_1).f0) - 2)) < (y218.length : Int) then (if 0 ≤ (rd y218 (wrap64 (((rd_T38 l0 x17_1).f0) - 2))) then (if (rd y218 (wrap64 (((rd_T38 l0 x17_1).f0) - 2))) < (x5_1.length : Int) then ((some (x5_1.set ((rd y218 (wrap64 (((rd_T38 l0 x17_1).f0) - 2))) : Int).toNat (wrap64 ((rd x5_1 (rd y218 (wrap64 (((rd_T38 l0 x17_1).f0) - 2)))) + 1)) : List Int)).bind fun y223 => (if (rd y218 (wrap64 (((rd_T38 l0 x17_1).f0) - 2))) < (l0.length : Int) then (if ((rd_T38 l0 (rd y218 (wrap64 (((rd_T38 l0 x17_1).f0) - 2)))).f1) = 2 then (filter_Check.j1 k1 l0 y218 y223 x17_1 l0 (l0.length : Int) x17_1 (decide ((rd y223 (rd y218 (wrap64 (((rd_T38 l0 x17_1).f0) - 2)))) > 1)) ((rd_T38 l0 x17_1).f0) ((rd_T38 l0 x17_1).f1) ((rd_T38 l0 x17_1).f2) ((rd_T38 l0 x17_1).f3) ((rd_T38 l0 x17_1).f4.f0) ((rd_T38 l0 x17_1).f4.f1) ((rd_T38 l0 x17_1).f4.f2) ((rd_T38 l0 x17_1).f5) ((rd_T38 l0 x17_1).f6)) else (filter_Check.j1 k1 l0 y218 y223 x17_1 l0 (l0.length : Int) x17_1 false ((rd_T38 l0 x17_1).f0) ((rd_T38 l0 x17_1).f1) ((rd_T38 l0 x17_1).f2) ((rd_T38 l0 x17_1).f3) ((rd_T38 l0 x17_1).f4.f0) ((rd_T38 l0 x17_1).f4.f1) ((rd_T38 l0 x17_1).f4.f2) ((rd_T38 l0 x17_1).f5) ((rd_T38 l0 x17_1).f6))) else (none))) else (none)) else (none)) else (none)) else (none)) else (if ((rd_T38 l0 x17_1).f1) = 2 then (if (wrap64 (x17_1 + 1)) = (l0.length : Int) then (some (120, x17_1)) else (if 0 ≤ (wrap64 (x17_1 + 1)) then (if (wrap64 (x17_1 + 1)) < (l0.length : Int) then (if ((rd_T38 l0 (wrap64 (x17_1 + 1))).f0) = (wrap64 (((rd_T38 l0 x17_1).f0) + 1)) then (filter_Check.l0 k1 l0 y218 x5_1 l0 (l0.length : Int) (wrap64 (x17_1 + 1))) else (some (120, x17_1))) else (none)) else (none))) else (filter_Check.l0 k1 l0 y218 x5_1 l0 (l0.length : Int) (wrap64 (x17_1 + 1)))))) else (none))) else (none)) else (none)) else (some (120, x17_1))) = some (r1, r2) := H
           have A17 := Aside0.mk A170
           clear A170
           by_cases c18 : t214 = true
           ·subst c18
            have H1 : (if 0 ≤ (wrap64 (((rd_T38 l0 x17_1).f0) - 1)) then (if (wrap64 (((rd_T38 l0 x17_1).f0) - 1)) ≤ (x4_1.length : Int) then ((some (x4_1.take ((wrap64 (((rd_T38 l0 x17_1).f0) - 1)) : Int).toNat : List Int)).bind fun y215 => (if y215.length < 17592186044416 then ((some (y215 ++ [x17_1] : List Int)).bind fun y218 => (if ((rd_T38 l0 x17_1).f0) > 1 then (if 0 ≤ (wrap64 (((rd_T38 l0 x17_1).f0) - 2)) then (if (wrap64 (((rd_T38 l0 x17_1).f0) - 2)) < (y218.length : Int) then (if 0 ≤ (rd y218 (wrap64 (((rd_T38 l0 x17_1).f0) - 2))) then (if (rd y218 (wrap64 (((rd_T38 l0 x17_1).f0) - 2))) < (x5_1.length : Int) then ((some (x5_1.set ((rd y218 (wrap64 (((rd_T38 l0 x17_1).f0) - 2))) : Int).toNat (wrap64 ((rd x5_1 (rd y218 (wrap64 (((rd_T38 l0 x17_1).f0) - 2)))) + 1)) : List Int)).bind fun y223 => (if (rd y218 (wrap64 (((rd_T38 l0 x17_1).f0) - 2))) < (l0.length : Int) then (if ((rd_T38 l0 (rd y218 (wrap64 (((rd_T38 l0 x17_1).f0) - 2)))).f1) = 2 then (filter_Check.j1 k1 l0 y218 y223 x17_1 l0 (l0.length : Int) x17_1 (decide ((rd y223 (rd y218 (wrap64 (((rd_T38 l0 x17_1).f0) - 2)))) > 1)) ((rd_T38 l0 x17_1).f0) ((rd_T38 l0 x17_1).f1) ((rd_T38 l0 x17_1).f2) ((rd_T38 l0 x17_1).f3) ((rd_T38 l0 x17_1).f4.f0) ((rd_T38 l0 x17_1).f4.f1) ((rd_T38 l0 x17_1).f4.f2) ((rd_T38 l0 x17_1).f5) ((rd_T38 l0 x17_1).f6)) else (filter_Check.j1 k1 l0 y218 y223 x17_1 l0 (l0.length : Int) x17_1 false ((rd_T38 l0 x17_1).f0) ((rd_T38 l0 x17_1).f1) ((rd_T38 l0 x17_1).f2) ((rd_T38 l0 x17_1).f3) ((rd_T38 l0 x17_1).f4.f0) ((rd_T38 l0 x17_1).f4.f1) ((rd_T38 l0 x17_1).f4.f2) ((rd_T38 l0 x17_1).f5) ((rd_T38 l0 x17_1).f6))) else (none))) else (none)) else (none)) else (none)) else (none)) else (if ((rd_T38 l0 x17_1).f1) = 2 then (if (wrap64 (x17_1 + 1)) = (l0.length : Int) then (some (120, x17_1)) else (if 0 ≤ (wrap64 (x17_1 + 1)) then (if (wrap64 (x17_1 + 1)) < (l0.length : Int) then (if ((rd_T38 l0 (wrap64 (x17_1 + 1))).f0) = (wrap64 (((rd_T38 l0 x17_1).f0) + 1)) then (filter_Check.l0 k1 l0 y218 x5_1 l0 (l0.length : Int) (wrap64 (x17_1 + 1))) else (some (120, x17_1))) else (none)) else (none))) else (filter_Check.l0 k1 l0 y218 x5_1 l0 (l0.length : Int) (wrap64 (x17_1 + 1)))))) else (none))) else (none)) else (none)) = some (r1, r2) := by rw [if_pos rfl] at H; exact H
            clear H
            have H := H1
            clear H1
            obtain ⟨ji19, hji19⟩ : ∃ j_ : Int, (wrap64 (((rd_T38 l0 x17_1).f0) - 1)) = j_ := ⟨_, rfl⟩
            replace H : (if 0 ≤ (ji19) then (if (ji19) ≤ (x4_1.length : Int) then ((some (x4_1.take ((ji19) : Int).toNat : List Int)).bind fun y215 => (if y215.length < 17592186044416 then ((some (y215 ++ [x17_1] : List Int)).bind fun y218 => (if ((rd_T38 l0 x17_1).f0) > 1 then (if 0 ≤ (wrap64 (((rd_T38 l0 x17_1).f0) - 2)) then (if (wrap64 (((rd_T38 l0 x17_1).f0) - 2)) < (y218.length : Int) then (if 0 ≤ (rd y218 (wrap64 (((rd_T38 l0 x17_1).f0) - 2))) then (if (rd y218 (wrap64 (((rd_T38 l0 x17_1).f0) - 2))) < (x5_1.length : Int) then ((some (x5_1.set ((rd y218 (wrap64 (((rd_T38 l0 x17_1).f0) - 2))) : Int).toNat (wrap64 ((rd x5_1 (rd y218 (wrap64 (((rd_T38 l0 x17_1).f0) - 2)))) + 1)) : List Int)).bind fun y223 => (if (rd y218 (wrap64 (((rd_T38 l0 x17_1).f0) - 2))) < (l0.length : Int) then (if ((rd_T38 l0 (rd y218 (wrap64 (((rd_T38 l0 x17_1).f0) - 2)))).f1) = 2 then (filter_Check.j1 k1 l0 y218 y223 x17_1 l0 (l0.length : Int) x17_1 (decide ((rd y223 (rd y218 (wrap64 (((rd_T38 l0 x17_1).f0) - 2)))) > 1)) ((rd_T38 l0 x17_1).f0) ((rd_T38 l0 x17_1).f1) ((rd_T38 l0 x17_1).f2) ((rd_T38 l0 x17_1).f3) ((rd_T38 l0 x17_1).f4.f0) ((rd_T38 l0 x17_1).f4.f1) ((rd_T38 l0 x17_1).f4.f2) ((rd_T38 l0 x17_1).f5) ((rd_T38 l0 x17_1).f6)) else (filter_Check.j1 k1 l0 y218 y223 x17_1 l0 (l0.length : Int) x17_1 false ((rd_T38 l0 x17_1).f0) ((rd_T38 l0 x17_1).f1) ((rd_T38 l0 x17_1).f2) ((rd_T38 l0 x17_1).f3) ((rd_T38 l0 x17_1).f4.f0) ((rd_T38 l0 x17_1).f4.f1) ((rd_T38 l0 x17_1).f4.f2) ((rd_T38 l0 x17_1).f5) ((rd_T38 l0 x17_1).f6))) else (none))) else (none)) else (none)) else (none)) else (none)) else (if ((rd_T38 l0 x17_1).f1) = 2 then (if (wrap64 (x17_1 + 1)) = (l0.length : Int) then (some (120, x17_1)) else (if 0 ≤ (wrap64 (x17_1 + 1)) then (if (wrap64 (x17_1 + 1)) < (l0.length : Int) then (if ((rd_T38 l0 (wrap64 (x17_1 + 1))).f0) = (wrap64 (((rd_T38 l0 x17_1).f0) + 1)) then (filter_Check.l0 k1 l0 y218 x5_1 l0 (l0.length : Int) (wrap64 (x17_1 + 1))) else (some (120, x17_1))) else (none)) else (none))) else (filter_Check.l0 k1 l0 y218 x5_1 l0 (l0.length : Int) (wrap64 (x17_1 + 1)))))) else (none))) else (none)) else (none)) = some (r1, r2) := by first | (rw [hji19] at H; exact H) | (simp only [hji19] at H ⊢; exact H)
            (try rw [hji19] at A10)
            (try rw [hji19] at A17)
            have hji19w : (IntKind.i64.wrap (((rd_T38 l0 x17_1).f0) - 1)) = ji19 := (i64_w _).trans hji19
            by_cases c20 : 0 ≤ (ji19)
            ·rw [if_pos c20] at H
             have c20b0 := eq_true c20
             have c20b1 : decide (0 ≤ (ji19)) = true := decide_eq_true c20
             clear c20
             by_cases c21 : (ji19) ≤ (x4_1.length : Int)
             ·rw [if_pos c21] at H
              have c21b0 := eq_true c21
              have c21b1 : decide ((ji19) ≤ (x4_1.length : Int)) = true := decide_eq_true c21
              clear c21
              obtain ⟨y215, hy215⟩ : ∃ y_ : List Int, y_ = (x4_1.take ((ji19) : Int).toNat) := ⟨_, rfl⟩
              replace H : (if y215.length < 17592186044416 then ((some (y215 ++ [x17_1] : List Int)).bind fun y218 => (if ((rd_T38 l0 x17_1).f0) > 1 then (if 0 ≤ (wrap64 (((rd_T38 l0 x17_1).f0) - 2)) then (if (wrap64 (((rd_T38 l0 x17_1).f0) - 2)) < (y218.length : Int) then (if 0 ≤ (rd y218 (wrap64 (((rd_T38 l0 x17_1).f0) - 2))) then (if (rd y218 (wrap64 (((rd_T38 l0 x17_1).f0) - 2))) < (x5_1.length : Int) then ((some (x5_1.set ((rd y218 (wrap64 (((rd_T38 l0 x17_1).f0) - 2))) : Int).toNat (wrap64 ((rd x5_1 (rd y218 (wrap64 (((rd_T38 l0 x17_1).f0) - 2)))) + 1)) : List Int)).bind fun y223 => (if (rd y218 (wrap64 (((rd_T38 l0 x17_1).f0) - 2))) < (l0.length : Int) then (if ((rd_T38 l0 (rd y218 (wrap64 (((rd_T38 l0 x17_1).f0) - 2)))).f1) = 2 then (filter_Check.j1 k1 l0 y218 y223 x17_1 l0 (l0.length : Int) x17_1 (decide ((rd y223 (rd y218 (wrap64 (((rd_T38 l0 x17_1).f0) - 2)))) > 1)) ((rd_T38 l0 x17_1).f0) ((rd_T38 l0 x17_1).f1) ((rd_T38 l0 x17_1).f2) ((rd_T38 l0 x17_1).f3) ((rd_T38 l0 x17_1).f4.f0) ((rd_T38 l0 x17_1).f4.f1) ((rd_T38 l0 x17_1).f4.f2) ((rd_T38 l0 x17_1).f5) ((rd_T38 l0 x17_1).f6)) else (filter_Check.j1 k1 l0 y218 y223 x17_1 l0 (l0.length : Int) x17_1 false ((rd_T38 l0 x17_1).f0) ((rd_T38 l0 x17_1).f1) ((rd_T38 l0 x17_1).f2) ((rd_T38 l0 x17_1).f3) ((rd_T38 l0 x17_1).f4.f0) ((rd_T38 l0 x17_1).f4.f1) ((rd_T38 l0 x17_1).f4.f2) ((rd_T38 l0 x17_1).f5) ((rd_T38 l0 x17_1).f6))) else (none))) else (none)) else (none)) else (none)) else (none)) else (if ((rd_T38 l0 x17_1).f1) = 2 then (if (wrap64 (x17_1 + 1)) = (l0.length : Int) then (some (120, x17_1)) else (if 0 ≤ (wrap64 (x17_1 + 1)) then (if (wrap64 (x17_1 + 1)) < (l0.length : Int) then (if ((rd_T38 l0 (wrap64 (x17_1 + 1))).f0) = (wrap64 (((rd_T38 l0 x17_1).f0) + 1)) then (filter_Check.l0 k1 l0 y218 x5_1 l0 (l0.length : Int) (wrap64 (x17_1 + 1))) else (some (120, x17_1))) else (none)) else (none))) else (filter_Check.l0 k1 l0 y218 x5_1 l0 (l0.length : Int) (wrap64 (x17_1 + 1)))))) else (none)) = some (r1, r2) := by first | (rw [hy215]; with_reducible exact H) | (have H2_ := (Option.bind_some _ _).symm.trans H; rw [hy215]; with_reducible exact H2_) | (have H2_ := (Option.bind_some _ _).symm.trans H; with_reducible exact H2_) | with_reducible exact H | (rw [hy215]; exact H) | exact H
              have Ny215 := Aside0.mk hy215
              clear hy215
              by_cases c22 : y215.length < 17592186044416
              ·rw [if_pos c22] at H
               have LMc22 := Aside0.mk c22
               clear c22
               obtain ⟨y218, hy218⟩ : ∃ y_ : List Int, y_ = (y215 ++ [x17_1]) := ⟨_, rfl⟩
               replace H : (if ((rd_T38 l0 x17_1).f0) > 1 then (if 0 ≤ (wrap64 (((rd_T38 l0 x17_1).f0) - 2)) then (if (wrap64 (((rd_T38 l0 x17_1).f0) - 2)) < (y218.length : Int) then (if 0 ≤ (rd y218 (wrap64 (((rd_T38 l0 x17_1).f0) - 2))) then (if (rd y218 (wrap64 (((rd_T38 l0 x17_1).f0) - 2))) < (x5_1.length : Int) then ((some (x5_1.set ((rd y218 (wrap64 (((rd_T38 l0 x17_1).f0) - 2))) : Int).toNat (wrap64 ((rd x5_1 (rd y218 (wrap64 (((rd_T38 l0 x17_1).f0) - 2)))) + 1)) : List Int)).bind fun y223 => (if (rd y218 (wrap64 (((rd_T38 l0 x17_1).f0) - 2))) < (l0.length : Int) then (if ((rd_T38 l0 (rd y218 (wrap64 (((rd_T38 l0 x17_1).f0) - 2)))).f1) = 2 then (filter_Check.j1 k1 l0 y218 y223 x17_1 l0 (l0.length : Int) x17_1 (decide ((rd y223 (rd y218 (wrap64 (((rd_T38 l0 x17_1).f0) - 2)))) > 1)) ((rd_T38 l0 x17_1).f0) ((rd_T38 l0 x17_1).f1) ((rd_T38 l0 x17_1).f2) ((rd_T38 l0 x17_1).f3) ((rd_T38 l0 x17_1).f4.f0) ((rd_T38 l0 x17_1).f4.f1) ((rd_T38 l0 x17_1).f4.f2) ((rd_T38 l0 x17_1).f5) ((rd_T38 l0 x17_1).f6)) else (filter_Check.j1 k1 l0 y218 y223 x17_1 l0 (l0.length : Int) x17_1 false ((rd_T38 l0 x17_1).f0) ((rd_T38 l0 x17_1).f1) ((rd_T38 l0 x17_1).f2) ((rd_T38 l0 x17_1).f3) ((rd_T38 l0 x17_1).f4.f0) ((rd_T38 l0 x17_1).f4.f1) ((rd_T38 l0 x17_1).f4.f2) ((rd_T38 l0 x17_1).f5) ((rd_T38 l0 x17_1).f6))) else (none))) else (none)) else (none)) else (none)) else (none)) else (if ((rd_T38 l0 x17_1).f1) = 2 then (if (wrap64 (x17_1 + 1)) = (l0.length : Int) then (some (120, x17_1)) else (if 0 ≤ (wrap64 (x17_1 + 1)) then (if (wrap64 (x17_1 + 1)) < (l0.length : Int) then (if ((rd_T38 l0 (wrap64 (x17_1 + 1))).f0) = (wrap64 (((rd_T38 l0 x17_1).f0) + 1)) then (filter_Check.l0 k1 l0 y218 x5_1 l0 (l0.length : Int) (wrap64 (x17_1 + 1))) else (some (120, x17_1))) else (none)) else (none))) else (filter_Check.l0 k1 l0 y218 x5_1 l0 (l0.length : Int) (wrap64 (x17_1 + 1))))) = some (r1, r2) := by first | (rw [hy218]; with_reducible exact H) | (have H2_ := (Option.bind_some _ _).symm.trans H; rw [hy218]; with_reducible exact H2_) | (have H2_ := (Option.bind_some _ _).symm.trans H; with_reducible exact H2_) | with_reducible exact H | (rw [hy218]; exact H) | exact H
               have Ny218 := Aside0.mk hy218
               clear hy218
               by_cases c23 : ((rd_T38 l0 x17_1).f0) > 1
               ·rw [if_pos c23] at H
                have c23b0 : decide (1 < ((rd_T38 l0 x17_1).f0)) = true := decide_eq_true c23
                clear c23
                obtain ⟨ji24, hji24⟩ : ∃ j_ : Int, (wrap64 (((rd_T38 l0 x17_1).f0) - 2)) = j_ := ⟨_, rfl⟩
                replace H : (if 0 ≤ (ji24) then (if (ji24) < (y218.length : Int) then (if 0 ≤ (rd y218 (ji24)) then (if (rd y218 (ji24)) < (x5_1.length : Int) then ((some (x5_1.set ((rd y218 (ji24)) : Int).toNat (wrap64 ((rd x5_1 (rd y218 (ji24))) + 1)) : List Int)).bind fun y223 => (if (rd y218 (ji24)) < (l0.length : Int) then (if ((rd_T38 l0 (rd y218 (ji24))).f1) = 2 then (filter_Check.j1 k1 l0 y218 y223 x17_1 l0 (l0.length : Int) x17_1 (decide ((rd y223 (rd y218 (ji24))) > 1)) ((rd_T38 l0 x17_1).f0) ((rd_T38 l0 x17_1).f1) ((rd_T38 l0 x17_1).f2) ((rd_T38 l0 x17_1).f3) ((rd_T38 l0 x17_1).f4.f0) ((rd_T38 l0 x17_1).f4.f1) ((rd_T38 l0 x17_1).f4.f2) ((rd_T38 l0 x17_1).f5) ((rd_T38 l0 x17_1).f6)) else (filter_Check.j1 k1 l0 y218 y223 x17_1 l0 (l0.length : Int) x17_1 false ((rd_T38 l0 x17_1).f0) ((rd_T38 l0 x17_1).f1) ((rd_T38 l0 x17_1).f2) ((rd_T38 l0 x17_1).f3) ((rd_T38 l0 x17_1).f4.f0) ((rd_T38 l0 x17_1).f4.f1) ((rd_T38 l0 x17_1).f4.f2) ((rd_T38 l0 x17_1).f5) ((rd_T38 l0 x17_1).f6))) else (none))) else (none)) else (none)) else (none)) else (none)) = some (r1, r2) := by first | (rw [hji24] at H; exact H) | (simp only [hji24] at H ⊢; exact H)
                (try rw [hji24] at A10)
                (try rw [hji24] at A17)
                have hji24w : (IntKind.i64.wrap (((rd_T38 l0 x17_1).f0) - 2)) = ji24 := (i64_w _).trans hji24
                by_cases c25 : 0 ≤ (ji24)
                ·rw [if_pos c25] at H
                 have c25b0 : decide (0 ≤ (ji24)) = true := decide_eq_true c25
                 clear c25
                 by_cases c26 : (ji24) < (y218.length : Int)
                 ·rw [if_pos c26] at H
                  have c26b0 : decide ((ji24) < (y218.length : Int)) = true := decide_eq_true c26
                  clear c26
                  by_cases c27 : 0 ≤ (rd y218 (ji24))
                  ·rw [if_pos c27] at H
                   have c27b0 : decide (0 ≤ (rd y218 (ji24))) = true := decide_eq_true c27
                   clear c27
                   by_cases c28 : (rd y218 (ji24)) < (x5_1.length : Int)
                   ·rw [if_pos c28] at H
                    have c28b0 : decide ((rd y218 (ji24)) < (x5_1.length : Int)) = true := decide_eq_true c28
                    clear c28
                    obtain ⟨y223, hy223⟩ : ∃ y_ : List Int, y_ = (x5_1.set ((rd y218 (ji24)) : Int).toNat (wrap64 ((rd x5_1 (rd y218 (ji24))) + 1))) := ⟨_, rfl⟩
                    replace H : (if (rd y218 (ji24)) < (l0.length : Int) then (if ((rd_T38 l0 (rd y218 (ji24))).f1) = 2 then (filter_Check.j1 k1 l0 y218 y223 x17_1 l0 (l0.length : Int) x17_1 (decide ((rd y223 (rd y218 (ji24))) > 1)) ((rd_T38 l0 x17_1).f0) ((rd_T38 l0 x17_1).f1) ((rd_T38 l0 x17_1).f2) ((rd_T38 l0 x17_1).f3) ((rd_T38 l0 x17_1).f4.f0) ((rd_T38 l0 x17_1).f4.f1) ((rd_T38 l0 x17_1).f4.f2) ((rd_T38 l0 x17_1).f5) ((rd_T38 l0 x17_1).f6)) else (filter_Check.j1 k1 l0 y218 y223 x17_1 l0 (l0.length : Int) x17_1 false ((rd_T38 l0 x17_1).f0) ((rd_T38 l0 x17_1).f1) ((rd_T38 l0 x17_1).f2) ((rd_T38 l0 x17_1).f3) ((rd_T38 l0 x17_1).f4.f0) ((rd_T38 l0 x17_1).f4.f1) ((rd_T38 l0 x17_1).f4.f2) ((rd_T38 l0 x17_1).f5) ((rd_T38 l0 x17_1).f6))) else (none)) = some (r1, r2) := by first | (rw [hy223]; with_reducible exact H) | (have H2_ := (Option.bind_some _ _).symm.trans H; rw [hy223]; with_reducible exact H2_) | (have H2_ := (Option.bind_some _ _).symm.trans H; with_reducible exact H2_) | with_reducible exact H | (rw [hy223]; exact H) | exact H
                    have Ny223 := Aside0.mk hy223
                    clear hy223
                    have HC30 := Aside0.mk H
                    clear H
                    have p211 : 0 ≤ (x17_1 : Int) := of_decide_eq_true (by first | (with_reducible assumption) | assumption)
                    have q211 : x17_1 < (l0.length : Int) := of_decide_eq_true (by first | (with_reducible assumption) | assumption)
                    obtain ⟨ad211, A211_5, c211_5, e211, hx211_0, hx211_1, hx211_2, hx211_3, hx211_4, hx211_5, hx211_6, hx211_7, hx211_8, hl211_5, hi211_5⟩ := at_T38 HR0.out x17_1 p211 q211
                    cases e211
                    replace hx211_0 := cellB_ HB.out hx211_0
                    replace hx211_1 := cellB_ HB.out hx211_1
                    replace hx211_2 := cellB_ HB.out hx211_2
                    replace hx211_3 := cellB_ HB.out hx211_3
                    replace hx211_4 := cellB_ HB.out hx211_4
                    replace hx211_5 := cellB_ HB.out hx211_5
                    replace hx211_6 := cellB_ HB.out hx211_6
                    replace hx211_7 := cellB_ HB.out hx211_7
                    replace hx211_8 := cellB_ HB.out hx211_8
                    have HR211_5 := Aside0.mk hi211_5
                    have HC211_5 := Aside0.mk hl211_5
                    clear hi211_5 hl211_5
                    replace p211 := eq_true p211
                    replace q211 := eq_true q211
                    go_upto_region 18 with (first | ((with_reducible refine gate_dst (N := 7) rfl ?_); (try (refine gate_guard (by rfl) ?_; dsimp only)); refine box_event ?hg (N := 7) ?hd (cs := #[.int .i64 0, .int .i64 0, .string (⟨#[]⟩ : ByteArray), .string (⟨#[]⟩ : ByteArray), .string (⟨#[]⟩ : ByteArray), .slice none 0 0, .string (⟨#[]⟩ : ByteArray), .string (⟨#[]⟩ : ByteArray), .bool false]) (t := 38) ?hr ?_; (case hd => rfl); (case hg => rfl); (case hr => first | (go_simp; done) | (go_simp; rfl)); intro gb212 hg w31 hbox hb; have n0_ := Aside0.mk (Kd.R_below (by (with_reducible repeat (first | apply Kd.R_alloc | apply Kd.R_drewN | apply Kd.R_drew)); exact HO_4.out) hb); have n1_ := Aside0.mk (Kd.R_below (by (with_reducible repeat (first | apply Kd.R_alloc | apply Kd.R_drewN | apply Kd.R_drew)); exact HO_5.out) hb); have n2_ := Aside0.mk (below_step (by repeat (first | (with_reducible first | exact HB.out | apply below_alloc | apply pw_below_drewN | apply below_drew1) | exact HB.out)) hb); have n3_ := Aside0.mk (hbox); have n4_ := Aside0.mk ((by rw [hg]; exact (below_size (by repeat (first | (with_reducible first | exact HB.out | apply below_alloc | apply pw_below_drewN | apply below_drew1) | exact HB.out))) : w.heap.size ≤ gb212)); have n5_ := Aside0.mk ((by rw [hg]; exact (below_size (by repeat (first | (with_reducible first | exact HB.out | apply below_alloc | apply pw_below_drewN | apply below_drew1) | exact HB.out))) : w.heap.size ≤ gb212)); clear HO_4; clear HO_5; clear HB; have HO_4 := n0_; have HO_5 := n1_; have HB := n2_; have BK212 := n3_; have GW212 := n4_; have GE212 := n5_; clear n0_ n1_ n2_ n3_ n4_ n5_; clear hb hbox hg; obtain ⟨hcz32_0, hcz32_1, hcz32_2, hcz32_3, hcz32_4, hcz32_5, hcz32_6, hcz32_7, hcz32_8⟩ := cells9_ BK212.out; obtain ⟨hfz32_0, hfz32_1, hfz32_2, hfz32_3, hfz32_4, hfz32_5, hfz32_6, hfz32_7, hfz32_8⟩ := frz9_ BK212.out) | (go_at_call 23; (with_reducible refine (filter_follows.calls _ _ l0 x17_1 true _ ?side1 ?side2 A10.out).mono ?_); (case side1 => exact Kd.C_below HR0.out (by repeat (first | (with_reducible first | exact HB.out | apply below_alloc | apply pw_below_drewN | apply below_drew1 | refine below_set ?_ GE212.out) | exact HB.out))); (case side2 => exact HC0.out); rintro e w33 ⟨rfl, hb⟩; have n0_ := Aside0.mk (Kd.R_below (by (with_reducible repeat (first | apply Kd.R_alloc | apply Kd.R_drewN | apply Kd.R_drew)); exact (Kd.R_mono (Rfar9_ (g := gb212) (Kd.R_types HO_4.out BK212.out (by decide)) (fun _ hk => hk.2)) (fun _ h_ => h_.1))) hb); have n1_ := Aside0.mk (Kd.R_below (by (with_reducible repeat (first | apply Kd.R_alloc | apply Kd.R_drewN | apply Kd.R_drew)); exact (Kd.R_mono (Rfar9_ (g := gb212) (Kd.R_types HO_5.out BK212.out (by decide)) (fun _ hk => hk.2)) (fun _ h_ => h_.1))) hb); have n2_ := Aside0.mk (blk_below (g := gb212) (o := .cells #[.int .i64 ((rd_T38 l0 x17_1).f0), .int .i64 ((rd_T38 l0 x17_1).f1), .string ((rd_T38 l0 x17_1).f2), .string ((rd_T38 l0 x17_1).f3), .string ((rd_T38 l0 x17_1).f4.f0), .slice A211_5 ((rd_T38 l0 x17_1).f4.f1).length c211_5, .string ((rd_T38 l0 x17_1).f4.f2), .string ((rd_T38 l0 x17_1).f5), .bool ((rd_T38 l0 x17_1).f6)] 38 (0, 0)) (by (with_reducible repeat (first | refine blk_drewN ?_ _ | refine blk_drew ?_ | refine blk_alloc ?_ _)); exact put9_ (by (with_reducible repeat (first | refine blk_drewN ?_ _ | refine blk_drew ?_ | refine blk_alloc ?_ _)); exact BK212.out)) hb); have n3_ := Aside0.mk (below_step (by repeat (first | (with_reducible first | exact HB.out | apply below_alloc | apply pw_below_drewN | apply below_drew1 | refine below_set ?_ GE212.out) | exact HB.out)) hb); clear HO_4; clear HO_5; clear BK212; clear HB; have HO_4 := n0_; have HO_5 := n1_; have BK212 := n2_; have HB := n3_; clear n0_ n1_ n2_ n3_; (try clear hb); (try clear hb2); (try clear hk); (try clear hi); obtain ⟨hcz34_0, hcz34_1, hcz34_2, hcz34_3, hcz34_4, hcz34_5, hcz34_6, hcz34_7, hcz34_8⟩ := cells9_ BK212.out; obtain ⟨hfz34_0, hfz34_1, hfz34_2, hfz34_3, hfz34_4, hfz34_5, hfz34_6, hfz34_7, hfz34_8⟩ := frz9_ BK212.out) | (go_at_call 24; (with_reducible refine (filter_shaped.calls k1 ((rd_T38 l0 x17_1).f0) ((rd_T38 l0 x17_1).f1) ((rd_T38 l0 x17_1).f2) ((rd_T38 l0 x17_1).f3) ((rd_T38 l0 x17_1).f4.f0) _ _ ((rd_T38 l0 x17_1).f4.f1) ((rd_T38 l0 x17_1).f4.f2) ((rd_T38 l0 x17_1).f5) ((rd_T38 l0 x17_1).f6) true _ ?side1 ?side2 A17.out).mono ?_); (case side1 => repeat (first | exact (Kd.C_below HR211_5.out HB.out) | exact (Kd.C_below (Aside0.out (by assumption)) HB.out) | (with_reducible refine Kd.C_alloc ?_ _) | (with_reducible refine Kd.C_drewN ?_ _) | (with_reducible refine Kd.C_drew ?_))); (case side2 => first | exact HC211_5.out | exact Aside0.out (by assumption)); rintro e w35 ⟨rfl, hb⟩; have n0_ := Aside0.mk (Kd.R_below (by (with_reducible repeat (first | apply Kd.R_alloc | apply Kd.R_drewN | apply Kd.R_drew)); exact HO_4.out) hb); have n1_ := Aside0.mk (Kd.R_below (by (with_reducible repeat (first | apply Kd.R_alloc | apply Kd.R_drewN | apply Kd.R_drew)); exact HO_5.out) hb); have n2_ := Aside0.mk (blk_below (g := gb212) (o := .cells #[.int .i64 ((rd_T38 l0 x17_1).f0), .int .i64 ((rd_T38 l0 x17_1).f1), .string ((rd_T38 l0 x17_1).f2), .string ((rd_T38 l0 x17_1).f3), .string ((rd_T38 l0 x17_1).f4.f0), .slice A211_5 ((rd_T38 l0 x17_1).f4.f1).length c211_5, .string ((rd_T38 l0 x17_1).f4.f2), .string ((rd_T38 l0 x17_1).f5), .bool ((rd_T38 l0 x17_1).f6)] 38 (0, 0)) (by (with_reducible repeat (first | refine blk_drewN ?_ _ | refine blk_drew ?_ | refine blk_alloc ?_ _)); exact BK212.out) hb); have n3_ := Aside0.mk (below_step (by repeat (first | (with_reducible first | exact HB.out | apply below_alloc | apply pw_below_drewN | apply below_drew1 | refine below_set ?_ GE212.out) | exact HB.out)) hb); clear HO_4; clear HO_5; clear BK212; clear HB; have HO_4 := n0_; have HO_5 := n1_; have BK212 := n2_; have HB := n3_; clear n0_ n1_ n2_ n3_; (try clear hb); (try clear hb2); (try clear hk); (try clear hi); obtain ⟨hcz36_0, hcz36_1, hcz36_2, hcz36_3, hcz36_4, hcz36_5, hcz36_6, hcz36_7, hcz36_8⟩ := cells9_ BK212.out; obtain ⟨hfz36_0, hfz36_1, hfz36_2, hfz36_3, hfz36_4, hfz36_5, hfz36_6, hfz36_7, hfz36_8⟩ := frz9_ BK212.out; obtain ⟨Ao37, co37, eo37⟩ := Kd.R_slice HO_4.out; subst eo37; have q38 : ((ji19) : Int) ≤ ((x4_1.length : Int) : Int) := of_decide_eq_true (by first | (with_reducible assumption) | assumption); obtain ⟨i038, hi038, _, hsz38, _⟩ := info_parts info3; have hcut38 := cut_to (P := Tryd.prog) 48 3 .i64 Tryd.underlying48 hi038 Ao37 x4_1.length co37 (ji19) (of_decide_eq_true (by first | (with_reducible assumption) | assumption)) q38 (Kd.R_reads' HO_4.out).2.1; have hr38 := Kd.R_take (m := ((ji19) : Int).toNat) HO_4.out (by omega); have hy38 : y215.length = ((ji19) : Int).toNat := (by rw [Ny215.out, List.length_take]; omega); rw [← Ny215.out] at hr38; rw [← hy38] at hr38 hcut38; clear hy38 hi038 hsz38 HO_4; have HO217 := Aside0.mk hr38; clear hr38; replace q38 := eq_true q38) | ((with_reducible refine gate_builtin (b := .append) (xs := #[.tmp 42, .tmp 44]) rfl ?_); (try (refine gate_guard (by rfl) ?_; dsimp only)); at_builtin; refine Kd.R_append (Kd.int .i64) (w0 := w) w.heap.size rfl (.tmp 42) (.tmp 44) 48 3 (.int .i64 0) 8 rfl Tryd.underlying48 info3 rfl (by decide) (by omega) (.slice Ao37 y215.length co37) y215 x17_1 [.int .i64 x17_1] (fun k_ => some k_ ≠ (v209 : Value).ownBlock) (fun _ => False) rfl rfl ?aP (fun _ hk => hk.elim) ?aF ?aO ?aB ?aS ?aL ?_; (case aP => exact rfl); (case aB => exact (by repeat (first | (with_reducible first | exact HB.out | apply below_alloc | apply pw_below_drewN | apply below_drew1 | refine below_set ?_ GE212.out) | exact HB.out))); (case aF => exact (fun k_ hk => Kd.fresh' (Kd.R_lt (by (with_reducible repeat (first | apply Kd.R_alloc | apply Kd.R_drewN | apply Kd.R_drew)); exact HO_5.out)) k_ hk)); (case aO => exact (by (with_reducible repeat (first | apply Kd.R_alloc | apply Kd.R_drewN | apply Kd.R_drew)); exact HO217.out)); (case aS => exact (below_size (by repeat (first | (with_reducible first | exact HB.out | apply below_alloc | apply pw_below_drewN | apply below_drew1 | refine below_set ?_ GE212.out) | exact HB.out)))); (case aL => have := LMc22.out; omega); intro v219 w39 ho hb hg hat; rw [← Ny218.out] at ho; have n0_ := Aside0.mk (Kd.R_after (ok := (fun _ => True)) (by (with_reducible repeat (first | apply Kd.R_alloc | apply Kd.R_drewN | apply Kd.R_drew)); exact Kd.R_mono HO_5.out (fun _ hk => ⟨trivial, by first | exact hk | exact own_any_ hk⟩)) hg hat); have n1_ := Aside0.mk (blk_grown (g := gb212) (o := .cells #[.int .i64 ((rd_T38 l0 x17_1).f0), .int .i64 ((rd_T38 l0 x17_1).f1), .string ((rd_T38 l0 x17_1).f2), .string ((rd_T38 l0 x17_1).f3), .string ((rd_T38 l0 x17_1).f4.f0), .slice A211_5 ((rd_T38 l0 x17_1).f4.f1).length c211_5, .string ((rd_T38 l0 x17_1).f4.f2), .string ((rd_T38 l0 x17_1).f5), .bool ((rd_T38 l0 x17_1).f6)] 38 (0, 0)) (by (with_reducible repeat (first | refine blk_drewN ?_ _ | refine blk_drew ?_ | refine blk_alloc ?_ _)); exact BK212.out) hg (Kd.R_ne HO217.out BK212.out (by decide))); have n2_ := Aside0.mk (hb); have n3_ := Aside0.mk (ho); clear HO_5; clear BK212; clear HB; clear HO217; have HO_5 := n0_; have BK212 := n1_; have HB := n2_; have HO220 := n3_; clear n0_ n1_ n2_ n3_; clear ho hb hg hat; obtain ⟨hcz40_0, hcz40_1, hcz40_2, hcz40_3, hcz40_4, hcz40_5, hcz40_6, hcz40_7, hcz40_8⟩ := cells9_ BK212.out; obtain ⟨hfz40_0, hfz40_1, hfz40_2, hfz40_3, hfz40_4, hfz40_5, hfz40_6, hfz40_7, hfz40_8⟩ := frz9_ BK212.out; obtain ⟨Ao41, co41, eo41⟩ := Kd.R_slice HO220.out; subst eo41; have p221 : 0 ≤ ((ji24) : Int) := of_decide_eq_true (by first | (with_reducible assumption) | assumption); have q221 : (ji24) < (y218.length : Int) := of_decide_eq_true (by first | (with_reducible assumption) | assumption); obtain ⟨ad221, e221, hx221_0⟩ := Kd.at_int (Kd.R_reads' HO220.out).2.2 (ji24) p221 q221; cases e221; replace p221 := eq_true p221; replace q221 := eq_true q221; obtain ⟨Ao42, co42, eo42⟩ := Kd.R_slice HO_5.out; subst eo42; have p222 : 0 ≤ ((rd y218 (ji24)) : Int) := of_decide_eq_true (by first | (with_reducible assumption) | assumption); have q222 : (rd y218 (ji24)) < (x5_1.length : Int) := of_decide_eq_true (by first | (with_reducible assumption) | assumption); obtain ⟨ad222, e222, hx222_0⟩ := Kd.at_int (Kd.R_reads' HO_5.out).2.2 (rd y218 (ji24)) p222 q222; cases e222; replace p222 := eq_true p222; replace q222 := eq_true q222; have p29 : 0 ≤ ((rd y218 (ji24)) : Int) := of_decide_eq_true (by first | (with_reducible assumption) | assumption); have q29 : ((rd y218 (ji24)) : Int) < ((x5_1.length : Int) : Int) := of_decide_eq_true (by first | (with_reducible assumption) | assumption); obtain ⟨go29, co29, eo29, gb29, gl29, cl29, HG29⟩ := Kd.R_form HO_5.out (by omega); (first | cases eo29 | (injection eo29 with ea_ en_ ec_; (first | subst ea_ | (injection ea_ with ea_; subst ea_)); subst ec_; clear en_)); have GB29 := Aside0.mk gb29; have GG29 := Aside0.mk HG29; clear gb29 gl29 HG29; (first | simp only [add_plain] at hx222_0 | skip); obtain ⟨hx29_0, hf29_0⟩ := Kd.R_celln 0 HO_5.out ((rd y218 (ji24)) : Int) p29 q29; replace p29 := eq_true p29; replace q29 := eq_true q29; have n_ := Aside0.mk (Kd.R_mono (ok' := (fun k_ => some k_ ≠ (.slice (some ad221) y218.length co41 : Value).ownBlock)) HO_5.out (fun k_ hk => hk.2)); clear HO_5; have HO_5 := n_; clear n_; obtain ⟨hy43_, hz43_⟩ := Kd.R_celln 0 HO_5.out ((rd y218 (ji24)) : Int) (of_decide_eq_true (by first | (with_reducible assumption) | assumption)) (of_decide_eq_true (by first | (with_reducible assumption) | assumption)); have HP43 := Kd.R_putg HO_5.out ((rd y218 (ji24)) : Int) (wrap64 ((rd x5_1 (rd y218 (ji24))) + 1))) | ((with_reducible refine gate_store (t := 3) (p := 60) rfl ?_); (try (rw [drewN_self w39]; generalize hq_ : World.drewN w39 _ = w39; have n0_ := Aside0.mk (Kd.R_at hq_ HO_5.out); have n1_ := Aside0.mk (Kd.R_at hq_ HO220.out); have n2_ := Aside0.mk (blk_at hq_ BK212.out); have n3_ := Aside0.mk (below_at hq_ HB.out); clear hq_ HO_5 HO220 BK212 HB; have HO_5 := n0_; have HO220 := n1_; have BK212 := n2_; have HB := n3_; clear n0_ n1_ n2_ n3_; (try (have n_ := Aside0.mk (Kd.R_mono (ok' := (fun k_ => some k_ ≠ (.slice (some ad221) y218.length co41 : Value).ownBlock)) HO_5.out (fun k_ hk => hk.2)); clear HO_5; have HO_5 := n_; clear n_)); (try (obtain ⟨hy43_, hz43_⟩ := Kd.R_celln 0 HO_5.out ((rd y218 (ji24)) : Int) (of_decide_eq_true (by first | (with_reducible assumption) | assumption)) (of_decide_eq_true (by first | (with_reducible assumption) | assumption)))); (try (have HP43 := Kd.R_putg HO_5.out ((rd y218 (ji24)) : Int) (wrap64 ((rd x5_1 (rd y218 (ji24))) + 1)))))); refine store_event (t := 3) (p := 60) (v := ?vo_w44) (w1 := (w39.setCell ⟨go29, ((rd y218 (ji24)) : Int).toNat, none⟩ (.int .i64 (wrap64 ((rd x5_1 (rd y218 (ji24))) + 1))))) ?hg ?ho ?hn ?hr ?_; (case ho => rfl); (case hg => rfl); (case hn => rfl); (case hr => first | (go_simp; done) | (go_simp; rfl)); intro w44 hw; have hg : w39.grownBy w44 (some go29) := (by rw [hw]; exact HP43.2); have hp_ : Kd.R (Kd.int .i64) 3 w44 w.heap.size (fun k_ => some k_ ≠ (.slice (some ad221) y218.length co41 : Value).ownBlock) (.slice (some ⟨go29, 0, none⟩) x5_1.length co42) y223 := (by rw [hw, Ny223.out]; exact HP43.1); clear HP43; have n0_ := Aside0.mk (hp_); have n1_ := Aside0.mk (blk_grown (g := gb212) (o := .cells #[.int .i64 ((rd_T38 l0 x17_1).f0), .int .i64 ((rd_T38 l0 x17_1).f1), .string ((rd_T38 l0 x17_1).f2), .string ((rd_T38 l0 x17_1).f3), .string ((rd_T38 l0 x17_1).f4.f0), .slice A211_5 ((rd_T38 l0 x17_1).f4.f1).length c211_5, .string ((rd_T38 l0 x17_1).f4.f2), .string ((rd_T38 l0 x17_1).f5), .bool ((rd_T38 l0 x17_1).f6)] 38 (0, 0)) (by (with_reducible repeat (first | refine blk_drewN ?_ _ | refine blk_drew ?_ | refine blk_alloc ?_ _)); exact BK212.out) hg (Kd.R_ne HO_5.out BK212.out (by decide))); have n2_ := Aside0.mk (Kd.R_after (v := (.slice (some ⟨go29, 0, none⟩) x5_1.length co42)) (v1 := (.slice (some ⟨go29, 0, none⟩) x5_1.length co42)) (ok := (fun _ => True)) (by (with_reducible repeat (first | apply Kd.R_alloc | apply Kd.R_drewN | apply Kd.R_drew)); exact Kd.R_mono HO220.out (fun _ hk => ⟨trivial, by first | exact hk | exact own_any_ hk⟩)) hg (.inl rfl)); have n3_ := Aside0.mk ((by rw [hw]; exact below_set (HB.out) GB29.out : Below w.heap.size w w44)); clear HO_5; clear BK212; clear HO220; clear HB; have HO_5 := n0_; have BK212 := n1_; have HO220 := n2_; have HB := n3_; clear n0_ n1_ n2_ n3_; clear hg hw hp_))
                    repeat (go_quiet (fail); go_upto_region 18 with (first | ((with_reducible refine gate_dst (N := 7) rfl ?_); (try (refine gate_guard (by rfl) ?_; dsimp only)); refine box_event ?hg (N := 7) ?hd (cs := #[.int .i64 0, .int .i64 0, .string (⟨#[]⟩ : ByteArray), .string (⟨#[]⟩ : ByteArray), .string (⟨#[]⟩ : ByteArray), .slice none 0 0, .string (⟨#[]⟩ : ByteArray), .string (⟨#[]⟩ : ByteArray), .bool false]) (t := 38) ?hr ?_; (case hd => rfl); (case hg => rfl); (case hr => first | (go_simp; done) | (go_simp; rfl)); intro gb212 hg w31 hbox hb; have n0_ := Aside0.mk (Kd.R_below (by (with_reducible repeat (first | apply Kd.R_alloc | apply Kd.R_drewN | apply Kd.R_drew)); exact HO_4.out) hb); have n1_ := Aside0.mk (Kd.R_below (by (with_reducible repeat (first | apply Kd.R_alloc | apply Kd.R_drewN | apply Kd.R_drew)); exact HO_5.out) hb); have n2_ := Aside0.mk (below_step (by repeat (first | (with_reducible first | exact HB.out | apply below_alloc | apply pw_below_drewN | apply below_drew1) | exact HB.out)) hb); have n3_ := Aside0.mk (hbox); have n4_ := Aside0.mk ((by rw [hg]; exact (below_size (by repeat (first | (with_reducible first | exact HB.out | apply below_alloc | apply pw_below_drewN | apply below_drew1) | exact HB.out))) : w.heap.size ≤ gb212)); have n5_ := Aside0.mk ((by rw [hg]; exact (below_size (by repeat (first | (with_reducible first | exact HB.out | apply below_alloc | apply pw_below_drewN | apply below_drew1) | exact HB.out))) : w.heap.size ≤ gb212)); clear HO_4; clear HO_5; clear HB; have HO_4 := n0_; have HO_5 := n1_; have HB := n2_; have BK212 := n3_; have GW212 := n4_; have GE212 := n5_; clear n0_ n1_ n2_ n3_ n4_ n5_; clear hb hbox hg; obtain ⟨hcz32_0, hcz32_1, hcz32_2, hcz32_3, hcz32_4, hcz32_5, hcz32_6, hcz32_7, hcz32_8⟩ := cells9_ BK212.out; obtain ⟨hfz32_0, hfz32_1, hfz32_2, hfz32_3, hfz32_4, hfz32_5, hfz32_6, hfz32_7, hfz32_8⟩ := frz9_ BK212.out) | (go_at_call 23; (with_reducible refine (filter_follows.calls _ _ l0 x17_1 true _ ?side1 ?side2 A10.out).mono ?_); (case side1 => exact Kd.C_below HR0.out (by repeat (first | (with_reducible first | exact HB.out | apply below_alloc | apply pw_below_drewN | apply below_drew1 | refine below_set ?_ GE212.out) | exact HB.out))); (case side2 => exact HC0.out); rintro e w33 ⟨rfl, hb⟩; have n0_ := Aside0.mk (Kd.R_below (by (with_reducible repeat (first | apply Kd.R_alloc | apply Kd.R_drewN | apply Kd.R_drew)); exact (Kd.R_mono (Rfar9_ (g := gb212) (Kd.R_types HO_4.out BK212.out (by decide)) (fun _ hk => hk.2)) (fun _ h_ => h_.1))) hb); have n1_ := Aside0.mk (Kd.R_below (by (with_reducible repeat (first | apply Kd.R_alloc | apply Kd.R_drewN | apply Kd.R_drew)); exact (Kd.R_mono (Rfar9_ (g := gb212) (Kd.R_types HO_5.out BK212.out (by decide)) (fun _ hk => hk.2)) (fun _ h_ => h_.1))) hb); have n2_ := Aside0.mk (blk_below (g := gb212) (o := .cells #[.int .i64 ((rd_T38 l0 x17_1).f0), .int .i64 ((rd_T38 l0 x17_1).f1), .string ((rd_T38 l0 x17_1).f2), .string ((rd_T38 l0 x17_1).f3), .string ((rd_T38 l0 x17_1).f4.f0), .slice A211_5 ((rd_T38 l0 x17_1).f4.f1).length c211_5, .string ((rd_T38 l0 x17_1).f4.f2), .string ((rd_T38 l0 x17_1).f5), .bool ((rd_T38 l0 x17_1).f6)] 38 (0, 0)) (by (with_reducible repeat (first | refine blk_drewN ?_ _ | refine blk_drew ?_ | refine blk_alloc ?_ _)); exact put9_ (by (with_reducible repeat (first | refine blk_drewN ?_ _ | refine blk_drew ?_ | refine blk_alloc ?_ _)); exact BK212.out)) hb); have n3_ := Aside0.mk (below_step (by repeat (first | (with_reducible first | exact HB.out | apply below_alloc | apply pw_below_drewN | apply below_drew1 | refine below_set ?_ GE212.out) | exact HB.out)) hb); clear HO_4; clear HO_5; clear BK212; clear HB; have HO_4 := n0_; have HO_5 := n1_; have BK212 := n2_; have HB := n3_; clear n0_ n1_ n2_ n3_; (try clear hb); (try clear hb2); (try clear hk); (try clear hi); obtain ⟨hcz34_0, hcz34_1, hcz34_2, hcz34_3, hcz34_4, hcz34_5, hcz34_6, hcz34_7, hcz34_8⟩ := cells9_ BK212.out; obtain ⟨hfz34_0, hfz34_1, hfz34_2, hfz34_3, hfz34_4, hfz34_5, hfz34_6, hfz34_7, hfz34_8⟩ := frz9_ BK212.out) | (go_at_call 24; (with_reducible refine (filter_shaped.calls k1 ((rd_T38 l0 x17_1).f0) ((rd_T38 l0 x17_1).f1) ((rd_T38 l0 x17_1).f2) ((rd_T38 l0 x17_1).f3) ((rd_T38 l0 x17_1).f4.f0) _ _ ((rd_T38 l0 x17_1).f4.f1) ((rd_T38 l0 x17_1).f4.f2) ((rd_T38 l0 x17_1).f5) ((rd_T38 l0 x17_1).f6) true _ ?side1 ?side2 A17.out).mono ?_); (case side1 => repeat (first | exact (Kd.C_below HR211_5.out HB.out) | exact (Kd.C_below (Aside0.out (by assumption)) HB.out) | (with_reducible refine Kd.C_alloc ?_ _) | (with_reducible refine Kd.C_drewN ?_ _) | (with_reducible refine Kd.C_drew ?_))); (case side2 => first | exact HC211_5.out | exact Aside0.out (by assumption)); rintro e w35 ⟨rfl, hb⟩; have n0_ := Aside0.mk (Kd.R_below (by (with_reducible repeat (first | apply Kd.R_alloc | apply Kd.R_drewN | apply Kd.R_drew)); exact HO_4.out) hb); have n1_ := Aside0.mk (Kd.R_below (by (with_reducible repeat (first | apply Kd.R_alloc | apply Kd.R_drewN | apply Kd.R_drew)); exact HO_5.out) hb); have n2_ := Aside0.mk (blk_below (g := gb212) (o := .cells #[.int .i64 ((rd_T38 l0 x17_1).f0), .int .i64 ((rd_T38 l0 x17_1).f1), .string ((rd_T38 l0 x17_1).f2), .string ((rd_T38 l0 x17_1).f3), .string ((rd_T38 l0 x17_1).f4.f0), .slice A211_5 ((rd_T38 l0 x17_1).f4.f1).length c211_5, .string ((rd_T38 l0 x17_1).f4.f2), .string ((rd_T38 l0 x17_1).f5), .bool ((rd_T38 l0 x17_1).f6)] 38 (0, 0)) (by (with_reducible repeat (first | refine blk_drewN ?_ _ | refine blk_drew ?_ | refine blk_alloc ?_ _)); exact BK212.out) hb); have n3_ := Aside0.mk (below_step (by repeat (first | (with_reducible first | exact HB.out | apply below_alloc | apply pw_below_drewN | apply below_drew1 | refine below_set ?_ GE212.out) | exact HB.out)) hb); clear HO_4; clear HO_5; clear BK212; clear HB; have HO_4 := n0_; have HO_5 := n1_; have BK212 := n2_; have HB := n3_; clear n0_ n1_ n2_ n3_; (try clear hb); (try clear hb2); (try clear hk); (try clear hi); obtain ⟨hcz36_0, hcz36_1, hcz36_2, hcz36_3, hcz36_4, hcz36_5, hcz36_6, hcz36_7, hcz36_8⟩ := cells9_ BK212.out; obtain ⟨hfz36_0, hfz36_1, hfz36_2, hfz36_3, hfz36_4, hfz36_5, hfz36_6, hfz36_7, hfz36_8⟩ := frz9_ BK212.out; obtain ⟨Ao37, co37, eo37⟩ := Kd.R_slice HO_4.out; subst eo37; have q38 : ((ji19) : Int) ≤ ((x4_1.length : Int) : Int) := of_decide_eq_true (by first | (with_reducible assumption) | assumption); obtain ⟨i038, hi038, _, hsz38, _⟩ := info_parts info3; have hcut38 := cut_to (P := Tryd.prog) 48 3 .i64 Tryd.underlying48 hi038 Ao37 x4_1.length co37 (ji19) (of_decide_eq_true (by first | (with_reducible assumption) | assumption)) q38 (Kd.R_reads' HO_4.out).2.1; have hr38 := Kd.R_take (m := ((ji19) : Int).toNat) HO_4.out (by omega); have hy38 : y215.length = ((ji19) : Int).toNat := (by rw [Ny215.out, List.length_take]; omega); rw [← Ny215.out] at hr38; rw [← hy38] at hr38 hcut38; clear hy38 hi038 hsz38 HO_4; have HO217 := Aside0.mk hr38; clear hr38; replace q38 := eq_true q38) | ((with_reducible refine gate_builtin (b := .append) (xs := #[.tmp 42, .tmp 44]) rfl ?_); (try (refine gate_guard (by rfl) ?_; dsimp only)); at_builtin; refine Kd.R_append (Kd.int .i64) (w0 := w) w.heap.size rfl (.tmp 42) (.tmp 44) 48 3 (.int .i64 0) 8 rfl Tryd.underlying48 info3 rfl (by decide) (by omega) (.slice Ao37 y215.length co37) y215 x17_1 [.int .i64 x17_1] (fun k_ => some k_ ≠ (v209 : Value).ownBlock) (fun _ => False) rfl rfl ?aP (fun _ hk => hk.elim) ?aF ?aO ?aB ?aS ?aL ?_; (case aP => exact rfl); (case aB => exact (by repeat (first | (with_reducible first | exact HB.out | apply below_alloc | apply pw_below_drewN | apply below_drew1 | refine below_set ?_ GE212.out) | exact HB.out))); (case aF => exact (fun k_ hk => Kd.fresh' (Kd.R_lt (by (with_reducible repeat (first | apply Kd.R_alloc | apply Kd.R_drewN | apply Kd.R_drew)); exact HO_5.out)) k_ hk)); (case aO => exact (by (with_reducible repeat (first | apply Kd.R_alloc | apply Kd.R_drewN | apply Kd.R_drew)); exact HO217.out)); (case aS => exact (below_size (by repeat (first | (with_reducible first | exact HB.out | apply below_alloc | apply pw_below_drewN | apply below_drew1 | refine below_set ?_ GE212.out) | exact HB.out)))); (case aL => have := LMc22.out; omega); intro v219 w39 ho hb hg hat; rw [← Ny218.out] at ho; have n0_ := Aside0.mk (Kd.R_after (ok := (fun _ => True)) (by (with_reducible repeat (first | apply Kd.R_alloc | apply Kd.R_drewN | apply Kd.R_drew)); exact Kd.R_mono HO_5.out (fun _ hk => ⟨trivial, by first | exact hk | exact own_any_ hk⟩)) hg hat); have n1_ := Aside0.mk (blk_grown (g := gb212) (o := .cells #[.int .i64 ((rd_T38 l0 x17_1).f0), .int .i64 ((rd_T38 l0 x17_1).f1), .string ((rd_T38 l0 x17_1).f2), .string ((rd_T38 l0 x17_1).f3), .string ((rd_T38 l0 x17_1).f4.f0), .slice A211_5 ((rd_T38 l0 x17_1).f4.f1).length c211_5, .string ((rd_T38 l0 x17_1).f4.f2), .string ((rd_T38 l0 x17_1).f5), .bool ((rd_T38 l0 x17_1).f6)] 38 (0, 0)) (by (with_reducible repeat (first | refine blk_drewN ?_ _ | refine blk_drew ?_ | refine blk_alloc ?_ _)); exact BK212.out) hg (Kd.R_ne HO217.out BK212.out (by decide))); have n2_ := Aside0.mk (hb); have n3_ := Aside0.mk (ho); clear HO_5; clear BK212; clear HB; clear HO217; have HO_5 := n0_; have BK212 := n1_; have HB := n2_; have HO220 := n3_; clear n0_ n1_ n2_ n3_; clear ho hb hg hat; obtain ⟨hcz40_0, hcz40_1, hcz40_2, hcz40_3, hcz40_4, hcz40_5, hcz40_6, hcz40_7, hcz40_8⟩ := cells9_ BK212.out; obtain ⟨hfz40_0, hfz40_1, hfz40_2, hfz40_3, hfz40_4, hfz40_5, hfz40_6, hfz40_7, hfz40_8⟩ := frz9_ BK212.out; obtain ⟨Ao41, co41, eo41⟩ := Kd.R_slice HO220.out; subst eo41; have p221 : 0 ≤ ((ji24) : Int) := of_decide_eq_true (by first | (with_reducible assumption) | assumption); have q221 : (ji24) < (y218.length : Int) := of_decide_eq_true (by first | (with_reducible assumption) | assumption); obtain ⟨ad221, e221, hx221_0⟩ := Kd.at_int (Kd.R_reads' HO220.out).2.2 (ji24) p221 q221; cases e221; replace p221 := eq_true p221; replace q221 := eq_true q221; obtain ⟨Ao42, co42, eo42⟩ := Kd.R_slice HO_5.out; subst eo42; have p222 : 0 ≤ ((rd y218 (ji24)) : Int) := of_decide_eq_true (by first | (with_reducible assumption) | assumption); have q222 : (rd y218 (ji24)) < (x5_1.length : Int) := of_decide_eq_true (by first | (with_reducible assumption) | assumption); obtain ⟨ad222, e222, hx222_0⟩ := Kd.at_int (Kd.R_reads' HO_5.out).2.2 (rd y218 (ji24)) p222 q222; cases e222; replace p222 := eq_true p222; replace q222 := eq_true q222; have p29 : 0 ≤ ((rd y218 (ji24)) : Int) := of_decide_eq_true (by first | (with_reducible assumption) | assumption); have q29 : ((rd y218 (ji24)) : Int) < ((x5_1.length : Int) : Int) := of_decide_eq_true (by first | (with_reducible assumption) | assumption); obtain ⟨go29, co29, eo29, gb29, gl29, cl29, HG29⟩ := Kd.R_form HO_5.out (by omega); (first | cases eo29 | (injection eo29 with ea_ en_ ec_; (first | subst ea_ | (injection ea_ with ea_; subst ea_)); subst ec_; clear en_)); have GB29 := Aside0.mk gb29; have GG29 := Aside0.mk HG29; clear gb29 gl29 HG29; (first | simp only [add_plain] at hx222_0 | skip); obtain ⟨hx29_0, hf29_0⟩ := Kd.R_celln 0 HO_5.out ((rd y218 (ji24)) : Int) p29 q29; replace p29 := eq_true p29; replace q29 := eq_true q29; have n_ := Aside0.mk (Kd.R_mono (ok' := (fun k_ => some k_ ≠ (.slice (some ad221) y218.length co41 : Value).ownBlock)) HO_5.out (fun k_ hk => hk.2)); clear HO_5; have HO_5 := n_; clear n_; obtain ⟨hy43_, hz43_⟩ := Kd.R_celln 0 HO_5.out ((rd y218 (ji24)) : Int) (of_decide_eq_true (by first | (with_reducible assumption) | assumption)) (of_decide_eq_true (by first | (with_reducible assumption) | assumption)); have HP43 := Kd.R_putg HO_5.out ((rd y218 (ji24)) : Int) (wrap64 ((rd x5_1 (rd y218 (ji24))) + 1))) | ((with_reducible refine gate_store (t := 3) (p := 60) rfl ?_); (try (rw [drewN_self w39]; generalize hq_ : World.drewN w39 _ = w39; have n0_ := Aside0.mk (Kd.R_at hq_ HO_5.out); have n1_ := Aside0.mk (Kd.R_at hq_ HO220.out); have n2_ := Aside0.mk (blk_at hq_ BK212.out); have n3_ := Aside0.mk (below_at hq_ HB.out); clear hq_ HO_5 HO220 BK212 HB; have HO_5 := n0_; have HO220 := n1_; have BK212 := n2_; have HB := n3_; clear n0_ n1_ n2_ n3_; (try (have n_ := Aside0.mk (Kd.R_mono (ok' := (fun k_ => some k_ ≠ (.slice (some ad221) y218.length co41 : Value).ownBlock)) HO_5.out (fun k_ hk => hk.2)); clear HO_5; have HO_5 := n_; clear n_)); (try (obtain ⟨hy43_, hz43_⟩ := Kd.R_celln 0 HO_5.out ((rd y218 (ji24)) : Int) (of_decide_eq_true (by first | (with_reducible assumption) | assumption)) (of_decide_eq_true (by first | (with_reducible assumption) | assumption)))); (try (have HP43 := Kd.R_putg HO_5.out ((rd y218 (ji24)) : Int) (wrap64 ((rd x5_1 (rd y218 (ji24))) + 1)))))); refine store_event (t := 3) (p := 60) (v := ?vo_w44) (w1 := (w39.setCell ⟨go29, ((rd y218 (ji24)) : Int).toNat, none⟩ (.int .i64 (wrap64 ((rd x5_1 (rd y218 (ji24))) + 1))))) ?hg ?ho ?hn ?hr ?_; (case ho => rfl); (case hg => rfl); (case hn => rfl); (case hr => first | (go_simp; done) | (go_simp; rfl)); intro w44 hw; have hg : w39.grownBy w44 (some go29) := (by rw [hw]; exact HP43.2); have hp_ : Kd.R (Kd.int .i64) 3 w44 w.heap.size (fun k_ => some k_ ≠ (.slice (some ad221) y218.length co41 : Value).ownBlock) (.slice (some ⟨go29, 0, none⟩) x5_1.length co42) y223 := (by rw [hw, Ny223.out]; exact HP43.1); clear HP43; have n0_ := Aside0.mk (hp_); have n1_ := Aside0.mk (blk_grown (g := gb212) (o := .cells #[.int .i64 ((rd_T38 l0 x17_1).f0), .int .i64 ((rd_T38 l0 x17_1).f1), .string ((rd_T38 l0 x17_1).f2), .string ((rd_T38 l0 x17_1).f3), .string ((rd_T38 l0 x17_1).f4.f0), .slice A211_5 ((rd_T38 l0 x17_1).f4.f1).length c211_5, .string ((rd_T38 l0 x17_1).f4.f2), .string ((rd_T38 l0 x17_1).f5), .bool ((rd_T38 l0 x17_1).f6)] 38 (0, 0)) (by (with_reducible repeat (first | refine blk_drewN ?_ _ | refine blk_drew ?_ | refine blk_alloc ?_ _)); exact BK212.out) hg (Kd.R_ne HO_5.out BK212.out (by decide))); have n2_ := Aside0.mk (Kd.R_after (v := (.slice (some ⟨go29, 0, none⟩) x5_1.length co42)) (v1 := (.slice (some ⟨go29, 0, none⟩) x5_1.length co42)) (ok := (fun _ => True)) (by (with_reducible repeat (first | apply Kd.R_alloc | apply Kd.R_drewN | apply Kd.R_drew)); exact Kd.R_mono HO220.out (fun _ hk => ⟨trivial, by first | exact hk | exact own_any_ hk⟩)) hg (.inl rfl)); have n3_ := Aside0.mk ((by rw [hw]; exact below_set (HB.out) GB29.out : Below w.heap.size w w44)); clear HO_5; clear BK212; clear HO220; clear HB; have HO_5 := n0_; have BK212 := n1_; have HO220 := n2_; have HB := n3_; clear n0_ n1_ n2_ n3_; clear hg hw hp_)))
                    (try simp only [Act.put, List.setIfInBounds_toArray, List.set_cons_zero, List.set_cons_succ])
                    go_cut [73] (fun v73 wc => ∃ (kq : Nat) (x73_29 : Bool), v73 = .bool x73_29 ∧ Aside0 (filter_Check.j1 kq l0 y218 y223 x17_1 l0 (l0.length : Int) x17_1 x73_29 ((rd_T38 l0 x17_1).f0) ((rd_T38 l0 x17_1).f1) ((rd_T38 l0 x17_1).f2) ((rd_T38 l0 x17_1).f3) ((rd_T38 l0 x17_1).f4.f0) ((rd_T38 l0 x17_1).f4.f1) ((rd_T38 l0 x17_1).f4.f2) ((rd_T38 l0 x17_1).f5) ((rd_T38 l0 x17_1).f6) = some (r1, r2)) ∧ Aside0 (kq ≤ k1) ∧ Aside0 (Kd.R (Kd.int .i64) 3 wc w.heap.size (fun k_ => some k_ ≠ ((.slice (some ⟨go29, 0, none⟩) x5_1.length co42) : Value).ownBlock) (.slice (some ad221) y218.length co41) y218) ∧ Aside0 (Kd.R (Kd.int .i64) 3 wc w.heap.size (fun k_ => some k_ ≠ ((.slice (some ad221) y218.length co41) : Value).ownBlock) (.slice (some ⟨go29, 0, none⟩) x5_1.length co42) y223) ∧ Aside0 (wc.heap[gb212]? = some (.cells #[.int .i64 ((rd_T38 l0 x17_1).f0), .int .i64 ((rd_T38 l0 x17_1).f1), .string ((rd_T38 l0 x17_1).f2), .string ((rd_T38 l0 x17_1).f3), .string ((rd_T38 l0 x17_1).f4.f0), (.slice A211_5 ((rd_T38 l0 x17_1).f4.f1).length c211_5), .string ((rd_T38 l0 x17_1).f4.f2), .string ((rd_T38 l0 x17_1).f5), .bool ((rd_T38 l0 x17_1).f6)] 38 (0, 0))) ∧ Aside0 (Below w.heap.size w wc))
                    case first =>
                     have H := HC30.out
                     clear HC30
                     by_cases c45 : (rd y218 (ji24)) < (l0.length : Int)
                     ·rw [if_pos c45] at H
                      have c45b0 : decide ((rd y218 (ji24)) < (l0.length : Int)) = true := decide_eq_true c45
                      clear c45
                      (first | rw [c45b0] | (simp only [i64_w, i32_w]; rw [c45b0]) | skip)
                      by_cases c46 : ((rd_T38 l0 (rd y218 (ji24))).f1) = 2
                      ·rw [if_pos c46] at H
                       have c46b0 : (((rd_T38 l0 (rd y218 (ji24))).f1) == 2) = true := beq_iff_eq.mpr c46
                       have c46b1 : (((rd_T38 l0 (rd y218 (ji24))).f1) != 2) = false := bne_eq_false_iff_eq.mpr c46
                       clear c46
                       have H' := Aside0.mk H
                       clear H
                       have p224 : 0 ≤ ((rd y218 (ji24)) : Int) := of_decide_eq_true (by first | (with_reducible assumption) | assumption)
                       have q224 : (rd y218 (ji24)) < (l0.length : Int) := of_decide_eq_true (by first | (with_reducible assumption) | assumption)
                       obtain ⟨ad224, A224_5, c224_5, e224, hx224_0, hx224_1, hx224_2, hx224_3, hx224_4, hx224_5, hx224_6, hx224_7, hx224_8, hl224_5, hi224_5⟩ := at_T38 HR0.out (rd y218 (ji24)) p224 q224
                       obtain rfl : ad211 = ad224 := (by injection e224)
                       replace hx224_0 := cellB_ HB.out hx224_0
                       replace hx224_1 := cellB_ HB.out hx224_1
                       replace hx224_2 := cellB_ HB.out hx224_2
                       replace hx224_3 := cellB_ HB.out hx224_3
                       replace hx224_4 := cellB_ HB.out hx224_4
                       replace hx224_5 := cellB_ HB.out hx224_5
                       replace hx224_6 := cellB_ HB.out hx224_6
                       replace hx224_7 := cellB_ HB.out hx224_7
                       replace hx224_8 := cellB_ HB.out hx224_8
                       have HR224_5 := Aside0.mk hi224_5
                       have HC224_5 := Aside0.mk hl224_5
                       clear hi224_5 hl224_5
                       replace p224 := eq_true p224
                       replace q224 := eq_true q224
                       have p225 : 0 ≤ ((rd y218 (ji24)) : Int) := of_decide_eq_true (by first | (with_reducible assumption) | assumption)
                       have q225 : (rd y218 (ji24)) < (y223.length : Int) := (by have h_ : ((rd y218 (ji24)) : Int) < ((x5_1.length : Int) : Int) := of_decide_eq_true (by first | (with_reducible assumption) | assumption); first | (have e_ := (Kd.R_reads' HO_5.out).1; omega) | simpa only [Ny223.out, List.length_set] using h_)
                       have ql225 : (((rd y218 (ji24)) : Int) < ((x5_1.length : Int) : Int)) = True := eq_true (of_decide_eq_true (by first | (with_reducible assumption) | assumption))
                       obtain ⟨ad225, e225, hx225_0⟩ := Kd.at_int (Kd.R_reads' HO_5.out).2.2 (rd y218 (ji24)) p225 q225
                       obtain rfl : (⟨go29, 0, none⟩ : Addr) = ad225 := (by injection e225)
                       (first | simp only [add_plain] at hx225_0 | simp only [add_at] at hx225_0 | simp only [Addr.add, Nat.zero_add] at hx225_0 | skip)
                       replace p225 := eq_true p225
                       replace q225 := eq_true q225
                       go_wp2
                       repeat (go_quiet (fail); try go_wp2)
                       go_meet
                       case rel => exact ⟨_, (decide ((rd y223 (rd y218 (ji24))) > 1)), (by first | rfl | (simp; done) | (simp only [← hji24] <;> (first | rfl | simp)) | (simp [*]; done) | (simp [isEmpty_ne_]; done)), H', ⟨by have := HK1.out; first | omega | exact Nat.le_refl _⟩, ⟨by (with_reducible repeat (first | apply Kd.R_alloc | apply Kd.R_drewN | apply Kd.R_drew)); exact Kd.R_mono HO220.out (fun _ hk => hk.2)⟩, ⟨by (with_reducible repeat (first | apply Kd.R_alloc | apply Kd.R_drewN | apply Kd.R_drew)); exact HO_5.out⟩, ⟨by (with_reducible repeat (first | refine blk_drewN ?_ _ | refine blk_drew ?_ | refine blk_alloc ?_ _)); exact BK212.out⟩, ⟨by repeat (first | (with_reducible first | exact HB.out | apply below_alloc | apply pw_below_drewN | apply below_drew1 | refine below_set ?_ GE212.out) | exact HB.out)⟩⟩
                      ·rw [if_neg c46] at H
                       have c46b0 : (((rd_T38 l0 (rd y218 (ji24))).f1) == 2) = false := beq_eq_false_iff_ne.mpr c46
                       have c46b1 : (((rd_T38 l0 (rd y218 (ji24))).f1) != 2) = true := bne_iff_ne.mpr c46
                       have H' := Aside0.mk H
                       clear H
                       have p224 : 0 ≤ ((rd y218 (ji24)) : Int) := of_decide_eq_true (by first | (with_reducible assumption) | assumption)
                       have q224 : (rd y218 (ji24)) < (l0.length : Int) := of_decide_eq_true (by first | (with_reducible assumption) | assumption)
                       obtain ⟨ad224, A224_5, c224_5, e224, hx224_0, hx224_1, hx224_2, hx224_3, hx224_4, hx224_5, hx224_6, hx224_7, hx224_8, hl224_5, hi224_5⟩ := at_T38 HR0.out (rd y218 (ji24)) p224 q224
                       obtain rfl : ad211 = ad224 := (by injection e224)
                       replace hx224_0 := cellB_ HB.out hx224_0
                       replace hx224_1 := cellB_ HB.out hx224_1
                       replace hx224_2 := cellB_ HB.out hx224_2
                       replace hx224_3 := cellB_ HB.out hx224_3
                       replace hx224_4 := cellB_ HB.out hx224_4
                       replace hx224_5 := cellB_ HB.out hx224_5
                       replace hx224_6 := cellB_ HB.out hx224_6
                       replace hx224_7 := cellB_ HB.out hx224_7
                       replace hx224_8 := cellB_ HB.out hx224_8
                       have HR224_5 := Aside0.mk hi224_5
                       have HC224_5 := Aside0.mk hl224_5
                       clear hi224_5 hl224_5
                       replace p224 := eq_true p224
                       replace q224 := eq_true q224
                       go_wp2
                       repeat (go_quiet (fail); try go_wp2)
                       go_meet
                       case rel => exact ⟨_, (false), (by first | rfl | (simp; done) | (simp [*]; done) | (simp [isEmpty_ne_]; done)), H', ⟨by have := HK1.out; first | omega | exact Nat.le_refl _⟩, ⟨by (with_reducible repeat (first | apply Kd.R_alloc | apply Kd.R_drewN | apply Kd.R_drew)); exact Kd.R_mono HO220.out (fun _ hk => hk.2)⟩, ⟨by (with_reducible repeat (first | apply Kd.R_alloc | apply Kd.R_drewN | apply Kd.R_drew)); exact HO_5.out⟩, ⟨by (with_reducible repeat (first | refine blk_drewN ?_ _ | refine blk_drew ?_ | refine blk_alloc ?_ _)); exact BK212.out⟩, ⟨by repeat (first | (with_reducible first | exact HB.out | apply below_alloc | apply pw_below_drewN | apply below_drew1 | refine below_set ?_ GE212.out) | exact HB.out)⟩⟩
                     ·rw [if_neg c45] at H
                      exact absurd H (by simp)
                    case rest =>
                     clear HC30
                     try clear c1
                     try clear c2
                     try clear c2b0
                     try clear c2b1
                     try clear c2b2
                     try clear p2
                     try clear q2
                     try clear hx2
                     try clear hf2
                     try clear c3
                     try clear c3b0
                     try clear c3b1
                     try clear q3
                     try clear c4
                     try clear c4b0
                     try clear c4b1
                     try clear p6
                     try clear c7
                     try clear c7b0
                     try clear c8
                     try clear c8b0
                     try clear c9
                     try clear c9b0
                     try clear c11
                     try clear c12
                     try clear c12b0
                     try clear c16
                     try clear c18
                     try clear c20
                     try clear c20b0
                     try clear c20b1
                     try clear c21
                     try clear c21b0
                     try clear c21b1
                     try clear p21
                     try clear q21
                     try clear hx21
                     try clear c22
                     try clear p22
                     try clear q22
                     try clear hx22
                     try clear c23
                     try clear c23b0
                     try clear c25
                     try clear c25b0
                     try clear c26
                     try clear c26b0
                     try clear c27
                     try clear c27b0
                     try clear c28
                     try clear c28b0
                     try clear p29
                     try clear q29
                     try clear hx29
                     try clear hf29
                     try clear q38
                     try clear c45
                     try clear c45b0
                     try clear c46
                     try clear c46b0
                     try clear c46b1
                     try clear hcz14_0 hcz14_1 hcz14_2 hcz14_3 hcz14_4 hcz14_5 hcz14_6 hcz14_7 hcz14_8
                     try clear hcz16_0 hcz16_1 hcz16_2 hcz16_3 hcz16_4 hcz16_5 hcz16_6 hcz16_7 hcz16_8
                     try clear hcz32_0 hcz32_1 hcz32_2 hcz32_3 hcz32_4 hcz32_5 hcz32_6 hcz32_7 hcz32_8
                     try clear hcz34_0 hcz34_1 hcz34_2 hcz34_3 hcz34_4 hcz34_5 hcz34_6 hcz34_7 hcz34_8
                     try clear hcz36_0 hcz36_1 hcz36_2 hcz36_3 hcz36_4 hcz36_5 hcz36_6 hcz36_7 hcz36_8
                     try clear hcz40_0 hcz40_1 hcz40_2 hcz40_3 hcz40_4 hcz40_5 hcz40_6 hcz40_7 hcz40_8
                     try clear hfz14_0 hfz14_1 hfz14_2 hfz14_3 hfz14_4 hfz14_5 hfz14_6 hfz14_7 hfz14_8
                     try clear hfz16_0 hfz16_1 hfz16_2 hfz16_3 hfz16_4 hfz16_5 hfz16_6 hfz16_7 hfz16_8
                     try clear hfz32_0 hfz32_1 hfz32_2 hfz32_3 hfz32_4 hfz32_5 hfz32_6 hfz32_7 hfz32_8
                     try clear hfz34_0 hfz34_1 hfz34_2 hfz34_3 hfz34_4 hfz34_5 hfz34_6 hfz34_7 hfz34_8
                     try clear hfz36_0 hfz36_1 hfz36_2 hfz36_3 hfz36_4 hfz36_5 hfz36_6 hfz36_7 hfz36_8
                     try clear hfz40_0 hfz40_1 hfz40_2 hfz40_3 hfz40_4 hfz40_5 hfz40_6 hfz40_7 hfz40_8
                     try clear hx211_0
                     try clear hx211_1
                     try clear hx211_2
                     try clear hx211_3
                     try clear hx211_4
                     try clear hx211_5
                     try clear hx211_6
                     try clear hx211_7
                     try clear hx211_8
                     try clear hx221_0
                     try clear hx222_0
                     try clear hx224_0
                     try clear hx224_1
                     try clear hx224_2
                     try clear hx224_3
                     try clear hx224_4
                     try clear hx224_5
                     try clear hx224_6
                     try clear hx224_7
                     try clear hx224_8
                     try clear hx225_0
                     try clear hx29_0
                     try clear p2
                     try clear p211
                     try clear p221
                     try clear p222
                     try clear p224
                     try clear p225
                     try clear p29
                     try clear q211
                     try clear q221
                     try clear q222
                     try clear q224
                     try clear q225
                     try clear q29
                     try clear q38
                     obtain ⟨kq, x73_29, rfl, HA, HJ29, HO_4, HO_5, BK212, HB⟩ := hcut
                     have hl5_29 := (Kd.R_reads' HO_5.out).1
                     rw [hl5_29] at HO_5
                     (try simp only [hl5_29])
                     (try simp only [hl5_29] at BK212)
                     (try simp only [hl5_29] at HO_4)
                     cases kq with
                     | zero => exact absurd HA.out (by simp [filter_Check.j1])
                     | succ kj29 =>
                      have H := HA.out
                      clear HA
                      simp only [filter_Check.j1] at H
                      by_cases c47 : x73_29 = true
                      ·subst c47
                       have H1 : (some (120, x17_1)) = some (r1, r2) := by rw [if_pos rfl] at H; exact H
                       clear H
                       have H := H1
                       clear H1
                       simp only [Option.some.injEq, Prod.mk.injEq] at H
                       obtain ⟨rfl, rfl⟩ := H
                       go_wp2
                       repeat (go_quiet (fail); try go_wp2)
                       go_ret2
                       exact ⟨by first | rfl | (simp [isEmpty_ne_]; done) | (simp [errW_none, errW_some] <;> rfl) | (simp only [← hji19, ← hji24]; first | rfl | (simp [errW_none, errW_some] <;> rfl)) | (simp [*, errW_none, errW_some] <;> rfl), by repeat (first | (with_reducible first | exact HB.out | apply below_alloc | apply pw_below_drewN | apply below_drew1 | refine below_set ?_ GE212.out) | exact HB.out)⟩
                      ·replace c47 := Bool.eq_false_iff.mpr c47
                       subst c47
                       have H1 : (if ((rd_T38 l0 x17_1).f1) = 2 then (if (wrap64 (x17_1 + 1)) = (l0.length : Int) then (some (120, x17_1)) else (if 0 ≤ (wrap64 (x17_1 + 1)) then (if (wrap64 (x17_1 + 1)) < (l0.length : Int) then (if ((rd_T38 l0 (wrap64 (x17_1 + 1))).f0) = (wrap64 (((rd_T38 l0 x17_1).f0) + 1)) then (filter_Check.l0 kj29 l0 y218 y223 l0 (l0.length : Int) (wrap64 (x17_1 + 1))) else (some (120, x17_1))) else (none)) else (none))) else (filter_Check.l0 kj29 l0 y218 y223 l0 (l0.length : Int) (wrap64 (x17_1 + 1)))) = some (r1, r2) := by rw [if_neg (show ¬ (false = true) by decide)] at H; exact H
                       clear H
                       have H := H1
                       clear H1
                       by_cases c48 : ((rd_T38 l0 x17_1).f1) = 2
                       ·rw [if_pos c48] at H
                        have c48b0 : (((rd_T38 l0 x17_1).f1) == 2) = true := beq_iff_eq.mpr c48
                        have c48b1 : (((rd_T38 l0 x17_1).f1) != 2) = false := bne_eq_false_iff_eq.mpr c48
                        clear c48
                        by_cases c49 : (wrap64 (x17_1 + 1)) = (l0.length : Int)
                        ·rw [if_pos c49] at H
                         have c49b0 : ((wrap64 (x17_1 + 1)) == (l0.length : Int)) = true := beq_iff_eq.mpr c49
                         have c49b1 : ((wrap64 (x17_1 + 1)) != (l0.length : Int)) = false := bne_eq_false_iff_eq.mpr c49
                         clear c49
                         simp only [Option.some.injEq, Prod.mk.injEq] at H
                         obtain ⟨rfl, rfl⟩ := H
                         obtain ⟨hcz50_0, hcz50_1, hcz50_2, hcz50_3, hcz50_4, hcz50_5, hcz50_6, hcz50_7, hcz50_8⟩ := cells9_ BK212.out
                         obtain ⟨hfz50_0, hfz50_1, hfz50_2, hfz50_3, hfz50_4, hfz50_5, hfz50_6, hfz50_7, hfz50_8⟩ := frz9_ BK212.out
                         go_wp2
                         repeat (go_quiet (fail); try go_wp2)
                         go_ret2
                         exact ⟨by first | rfl | (simp [isEmpty_ne_]; done) | (simp [errW_none, errW_some] <;> rfl) | (simp only [← hji19, ← hji24]; first | rfl | (simp [errW_none, errW_some] <;> rfl)) | (simp [*, errW_none, errW_some] <;> rfl), by repeat (first | (with_reducible first | exact HB.out | apply below_alloc | apply pw_below_drewN | apply below_drew1 | refine below_set ?_ GE212.out) | exact HB.out)⟩
                        ·rw [if_neg c49] at H
                         have c49b0 : ((wrap64 (x17_1 + 1)) == (l0.length : Int)) = false := beq_eq_false_iff_ne.mpr c49
                         have c49b1 : ((wrap64 (x17_1 + 1)) != (l0.length : Int)) = true := bne_iff_ne.mpr c49
                         obtain ⟨ji51, hji51⟩ : ∃ j_ : Int, (wrap64 (x17_1 + 1)) = j_ := ⟨_, rfl⟩
                         replace H : (if 0 ≤ (ji51) then (if (ji51) < (l0.length : Int) then (if ((rd_T38 l0 (ji51)).f0) = (wrap64 (((rd_T38 l0 x17_1).f0) + 1)) then (filter_Check.l0 kj29 l0 y218 y223 l0 (l0.length : Int) ji51) else (some (120, x17_1))) else (none)) else (none)) = some (r1, r2) := by first | (rw [hji51] at H; exact H) | (simp only [hji51] at H ⊢; exact H)
                         (try rw [hji51] at c49b0)
                         (try rw [hji51] at c49b1)
                         have hji51w : (IntKind.i64.wrap (x17_1 + 1)) = ji51 := (i64_w _).trans hji51
                         by_cases c52 : 0 ≤ (ji51)
                         ·rw [if_pos c52] at H
                          have c52b0 : decide (0 ≤ (ji51)) = true := decide_eq_true c52
                          clear c52
                          by_cases c53 : (ji51) < (l0.length : Int)
                          ·rw [if_pos c53] at H
                           have c53b0 : decide ((ji51) < (l0.length : Int)) = true := decide_eq_true c53
                           clear c53
                           by_cases c54 : ((rd_T38 l0 (ji51)).f0) = (wrap64 (((rd_T38 l0 x17_1).f0) + 1))
                           ·rw [if_pos c54] at H
                            have c54b0 : (((rd_T38 l0 (ji51)).f0) == (wrap64 (((rd_T38 l0 x17_1).f0) + 1))) = true := beq_iff_eq.mpr c54
                            have c54b1 : (((rd_T38 l0 (ji51)).f0) != (wrap64 (((rd_T38 l0 x17_1).f0) + 1))) = false := bne_eq_false_iff_eq.mpr c54
                            clear c54
                            have H' := Aside0.mk H
                            clear H
                            obtain ⟨hcz55_0, hcz55_1, hcz55_2, hcz55_3, hcz55_4, hcz55_5, hcz55_6, hcz55_7, hcz55_8⟩ := cells9_ BK212.out
                            obtain ⟨hfz55_0, hfz55_1, hfz55_2, hfz55_3, hfz55_4, hfz55_5, hfz55_6, hfz55_7, hfz55_8⟩ := frz9_ BK212.out
                            have p226 : 0 ≤ ((ji51) : Int) := of_decide_eq_true (by first | (with_reducible assumption) | assumption)
                            have q226 : (ji51) < (l0.length : Int) := of_decide_eq_true (by first | (with_reducible assumption) | assumption)
                            obtain ⟨ad226, A226_5, c226_5, e226, hx226_0, hx226_1, hx226_2, hx226_3, hx226_4, hx226_5, hx226_6, hx226_7, hx226_8, hl226_5, hi226_5⟩ := at_T38 HR0.out (ji51) p226 q226
                            obtain rfl : ad211 = ad226 := (by injection e226)
                            replace hx226_0 := cellB_ HB.out hx226_0
                            replace hx226_1 := cellB_ HB.out hx226_1
                            replace hx226_2 := cellB_ HB.out hx226_2
                            replace hx226_3 := cellB_ HB.out hx226_3
                            replace hx226_4 := cellB_ HB.out hx226_4
                            replace hx226_5 := cellB_ HB.out hx226_5
                            replace hx226_6 := cellB_ HB.out hx226_6
                            replace hx226_7 := cellB_ HB.out hx226_7
                            replace hx226_8 := cellB_ HB.out hx226_8
                            have HR226_5 := Aside0.mk hi226_5
                            have HC226_5 := Aside0.mk hl226_5
                            clear hi226_5 hl226_5
                            replace p226 := eq_true p226
                            replace q226 := eq_true q226
                            go_wp2
                            repeat (go_quiet (fail); try go_wp2)
                            (try simp only [← hl5_29])
                            go_roundg kj29
                            case measure => have := HK1.out; have := HJ29.out; omega
                            case rel => exact ⟨(y218), (y223), (ji51), (by first | rfl | (simp; done) | (simp only [← hji51] <;> (first | rfl | simp)) | (simp [*]; done) | (simp [isEmpty_ne_]; done)), H', ⟨by have := HK1.out; have := HJ29.out; omega⟩, ⟨by (try simp only [hl5_29]); (with_reducible repeat (first | apply Kd.R_alloc | apply Kd.R_drewN | apply Kd.R_drew)); exact HO_4.out⟩, ⟨by (try simp only [hl5_29]); (with_reducible repeat (first | apply Kd.R_alloc | apply Kd.R_drewN | apply Kd.R_drew)); exact HO_5.out⟩, ⟨by repeat (first | (with_reducible first | exact HB.out | apply below_alloc | apply pw_below_drewN | apply below_drew1 | refine below_set ?_ GE212.out) | exact HB.out)⟩⟩
                           ·rw [if_neg c54] at H
                            have c54b0 : (((rd_T38 l0 (ji51)).f0) == (wrap64 (((rd_T38 l0 x17_1).f0) + 1))) = false := beq_eq_false_iff_ne.mpr c54
                            have c54b1 : (((rd_T38 l0 (ji51)).f0) != (wrap64 (((rd_T38 l0 x17_1).f0) + 1))) = true := bne_iff_ne.mpr c54
                            simp only [Option.some.injEq, Prod.mk.injEq] at H
                            obtain ⟨rfl, rfl⟩ := H
                            obtain ⟨hcz56_0, hcz56_1, hcz56_2, hcz56_3, hcz56_4, hcz56_5, hcz56_6, hcz56_7, hcz56_8⟩ := cells9_ BK212.out
                            obtain ⟨hfz56_0, hfz56_1, hfz56_2, hfz56_3, hfz56_4, hfz56_5, hfz56_6, hfz56_7, hfz56_8⟩ := frz9_ BK212.out
                            have p226 : 0 ≤ ((ji51) : Int) := of_decide_eq_true (by first | (with_reducible assumption) | assumption)
                            have q226 : (ji51) < (l0.length : Int) := of_decide_eq_true (by first | (with_reducible assumption) | assumption)
                            obtain ⟨ad226, A226_5, c226_5, e226, hx226_0, hx226_1, hx226_2, hx226_3, hx226_4, hx226_5, hx226_6, hx226_7, hx226_8, hl226_5, hi226_5⟩ := at_T38 HR0.out (ji51) p226 q226
                            obtain rfl : ad211 = ad226 := (by injection e226)
                            replace hx226_0 := cellB_ HB.out hx226_0
                            replace hx226_1 := cellB_ HB.out hx226_1
                            replace hx226_2 := cellB_ HB.out hx226_2
                            replace hx226_3 := cellB_ HB.out hx226_3
                            replace hx226_4 := cellB_ HB.out hx226_4
                            replace hx226_5 := cellB_ HB.out hx226_5
                            replace hx226_6 := cellB_ HB.out hx226_6
                            replace hx226_7 := cellB_ HB.out hx226_7
                            replace hx226_8 := cellB_ HB.out hx226_8
                            have HR226_5 := Aside0.mk hi226_5
                            have HC226_5 := Aside0.mk hl226_5
                            clear hi226_5 hl226_5
                            replace p226 := eq_true p226
                            replace q226 := eq_true q226
                            go_wp2
                            repeat (go_quiet (fail); try go_wp2)
                            go_ret2
                            exact ⟨by first | rfl | (simp [isEmpty_ne_]; done) | (simp [errW_none, errW_some] <;> rfl) | (simp only [← hji19, ← hji24, ← hji51]; first | rfl | (simp [errW_none, errW_some] <;> rfl)) | (simp [*, errW_none, errW_some] <;> rfl), by repeat (first | (with_reducible first | exact HB.out | apply below_alloc | apply pw_below_drewN | apply below_drew1 | refine below_set ?_ GE212.out) | exact HB.out)⟩
                          ·rw [if_neg c53] at H
                           exact absurd H (by simp)
                         ·rw [if_neg c52] at H
                          exact absurd H (by simp)
                       ·rw [if_neg c48] at H
                        have c48b0 : (((rd_T38 l0 x17_1).f1) == 2) = false := beq_eq_false_iff_ne.mpr c48
                        have c48b1 : (((rd_T38 l0 x17_1).f1) != 2) = true := bne_iff_ne.mpr c48
                        have H' := Aside0.mk H
                        clear H
                        obtain ⟨hcz57_0, hcz57_1, hcz57_2, hcz57_3, hcz57_4, hcz57_5, hcz57_6, hcz57_7, hcz57_8⟩ := cells9_ BK212.out
                        obtain ⟨hfz57_0, hfz57_1, hfz57_2, hfz57_3, hfz57_4, hfz57_5, hfz57_6, hfz57_7, hfz57_8⟩ := frz9_ BK212.out
                        go_wp2
                        repeat (go_quiet (fail); try go_wp2)
                        (try simp only [← hl5_29])
                        go_roundg kj29
                        case measure => have := HK1.out; have := HJ29.out; omega
                        case rel => exact ⟨(y218), (y223), (wrap64 (x17_1 + 1)), (by first | rfl | (simp; done) | (simp [*]; done) | (simp [isEmpty_ne_]; done)), H', ⟨by have := HK1.out; have := HJ29.out; omega⟩, ⟨by (try simp only [hl5_29]); (with_reducible repeat (first | apply Kd.R_alloc | apply Kd.R_drewN | apply Kd.R_drew)); exact HO_4.out⟩, ⟨by (try simp only [hl5_29]); (with_reducible repeat (first | apply Kd.R_alloc | apply Kd.R_drewN | apply Kd.R_drew)); exact HO_5.out⟩, ⟨by repeat (first | (with_reducible first | exact HB.out | apply below_alloc | apply pw_below_drewN | apply below_drew1 | refine below_set ?_ GE212.out) | exact HB.out)⟩⟩
                   ·rw [if_neg c28] at H
                    exact absurd H (by simp)
                  ·rw [if_neg c27] at H
                   exact absurd H (by simp)
                 ·rw [if_neg c26] at H
                  exact absurd H (by simp)
                ·rw [if_neg c25] at H
                 exact absurd H (by simp)
               ·rw [if_neg c23] at H
                have c23b0 : decide (1 < ((rd_T38 l0 x17_1).f0)) = false := decide_eq_false c23
                clear c23
                by_cases c58 : ((rd_T38 l0 x17_1).f1) = 2
                ·rw [if_pos c58] at H
                 have c58b0 : (((rd_T38 l0 x17_1).f1) == 2) = true := beq_iff_eq.mpr c58
                 have c58b1 : (((rd_T38 l0 x17_1).f1) != 2) = false := bne_eq_false_iff_eq.mpr c58
                 clear c58
                 by_cases c59 : (wrap64 (x17_1 + 1)) = (l0.length : Int)
                 ·rw [if_pos c59] at H
                  have c59b0 : ((wrap64 (x17_1 + 1)) == (l0.length : Int)) = true := beq_iff_eq.mpr c59
                  have c59b1 : ((wrap64 (x17_1 + 1)) != (l0.length : Int)) = false := bne_eq_false_iff_eq.mpr c59
                  clear c59
                  simp only [Option.some.injEq, Prod.mk.injEq] at H
                  obtain ⟨rfl, rfl⟩ := H
                  have p211 : 0 ≤ (x17_1 : Int) := of_decide_eq_true (by first | (with_reducible assumption) | assumption)
                  have q211 : x17_1 < (l0.length : Int) := of_decide_eq_true (by first | (with_reducible assumption) | assumption)
                  obtain ⟨ad211, A211_5, c211_5, e211, hx211_0, hx211_1, hx211_2, hx211_3, hx211_4, hx211_5, hx211_6, hx211_7, hx211_8, hl211_5, hi211_5⟩ := at_T38 HR0.out x17_1 p211 q211
                  cases e211
                  replace hx211_0 := cellB_ HB.out hx211_0
                  replace hx211_1 := cellB_ HB.out hx211_1
                  replace hx211_2 := cellB_ HB.out hx211_2
                  replace hx211_3 := cellB_ HB.out hx211_3
                  replace hx211_4 := cellB_ HB.out hx211_4
                  replace hx211_5 := cellB_ HB.out hx211_5
                  replace hx211_6 := cellB_ HB.out hx211_6
                  replace hx211_7 := cellB_ HB.out hx211_7
                  replace hx211_8 := cellB_ HB.out hx211_8
                  have HR211_5 := Aside0.mk hi211_5
                  have HC211_5 := Aside0.mk hl211_5
                  clear hi211_5 hl211_5
                  replace p211 := eq_true p211
                  replace q211 := eq_true q211
                  iterate 9 (try (first | go_quiet (fail) | go_wp2_with (first | ((with_reducible refine gate_dst (N := 7) rfl ?_); (try (refine gate_guard (by rfl) ?_; dsimp only)); refine box_event ?hg (N := 7) ?hd (cs := #[.int .i64 0, .int .i64 0, .string (⟨#[]⟩ : ByteArray), .string (⟨#[]⟩ : ByteArray), .string (⟨#[]⟩ : ByteArray), .slice none 0 0, .string (⟨#[]⟩ : ByteArray), .string (⟨#[]⟩ : ByteArray), .bool false]) (t := 38) ?hr ?_; (case hd => rfl); (case hg => rfl); (case hr => first | (go_simp; done) | (go_simp; rfl)); intro gb212 hg w60 hbox hb; have n0_ := Aside0.mk (Kd.R_below (by (with_reducible repeat (first | apply Kd.R_alloc | apply Kd.R_drewN | apply Kd.R_drew)); exact HO_4.out) hb); have n1_ := Aside0.mk (Kd.R_below (by (with_reducible repeat (first | apply Kd.R_alloc | apply Kd.R_drewN | apply Kd.R_drew)); exact HO_5.out) hb); have n2_ := Aside0.mk (below_step (by repeat (first | (with_reducible first | exact HB.out | apply below_alloc | apply pw_below_drewN | apply below_drew1) | exact HB.out)) hb); have n3_ := Aside0.mk (hbox); have n4_ := Aside0.mk ((by rw [hg]; exact (below_size (by repeat (first | (with_reducible first | exact HB.out | apply below_alloc | apply pw_below_drewN | apply below_drew1) | exact HB.out))) : w.heap.size ≤ gb212)); have n5_ := Aside0.mk ((by rw [hg]; exact (below_size (by repeat (first | (with_reducible first | exact HB.out | apply below_alloc | apply pw_below_drewN | apply below_drew1) | exact HB.out))) : w.heap.size ≤ gb212)); clear HO_4; clear HO_5; clear HB; have HO_4 := n0_; have HO_5 := n1_; have HB := n2_; have BK212 := n3_; have GW212 := n4_; have GE212 := n5_; clear n0_ n1_ n2_ n3_ n4_ n5_; clear hb hbox hg; obtain ⟨hcz61_0, hcz61_1, hcz61_2, hcz61_3, hcz61_4, hcz61_5, hcz61_6, hcz61_7, hcz61_8⟩ := cells9_ BK212.out; obtain ⟨hfz61_0, hfz61_1, hfz61_2, hfz61_3, hfz61_4, hfz61_5, hfz61_6, hfz61_7, hfz61_8⟩ := frz9_ BK212.out) | (go_at_call 23; (with_reducible refine (filter_follows.calls _ _ l0 x17_1 true _ ?side1 ?side2 A10.out).mono ?_); (case side1 => exact Kd.C_below HR0.out (by repeat (first | (with_reducible first | exact HB.out | apply below_alloc | apply pw_below_drewN | apply below_drew1 | refine below_set ?_ GE212.out) | exact HB.out))); (case side2 => exact HC0.out); rintro e w62 ⟨rfl, hb⟩; have n0_ := Aside0.mk (Kd.R_below (by (with_reducible repeat (first | apply Kd.R_alloc | apply Kd.R_drewN | apply Kd.R_drew)); exact (Kd.R_mono (Rfar9_ (g := gb212) (Kd.R_types HO_4.out BK212.out (by decide)) (fun _ hk => hk.2)) (fun _ h_ => h_.1))) hb); have n1_ := Aside0.mk (Kd.R_below (by (with_reducible repeat (first | apply Kd.R_alloc | apply Kd.R_drewN | apply Kd.R_drew)); exact (Kd.R_mono (Rfar9_ (g := gb212) (Kd.R_types HO_5.out BK212.out (by decide)) (fun _ hk => hk.2)) (fun _ h_ => h_.1))) hb); have n2_ := Aside0.mk (blk_below (g := gb212) (o := .cells #[.int .i64 ((rd_T38 l0 x17_1).f0), .int .i64 ((rd_T38 l0 x17_1).f1), .string ((rd_T38 l0 x17_1).f2), .string ((rd_T38 l0 x17_1).f3), .string ((rd_T38 l0 x17_1).f4.f0), .slice A211_5 ((rd_T38 l0 x17_1).f4.f1).length c211_5, .string ((rd_T38 l0 x17_1).f4.f2), .string ((rd_T38 l0 x17_1).f5), .bool ((rd_T38 l0 x17_1).f6)] 38 (0, 0)) (by (with_reducible repeat (first | refine blk_drewN ?_ _ | refine blk_drew ?_ | refine blk_alloc ?_ _)); exact put9_ (by (with_reducible repeat (first | refine blk_drewN ?_ _ | refine blk_drew ?_ | refine blk_alloc ?_ _)); exact BK212.out)) hb); have n3_ := Aside0.mk (below_step (by repeat (first | (with_reducible first | exact HB.out | apply below_alloc | apply pw_below_drewN | apply below_drew1 | refine below_set ?_ GE212.out) | exact HB.out)) hb); clear HO_4; clear HO_5; clear BK212; clear HB; have HO_4 := n0_; have HO_5 := n1_; have BK212 := n2_; have HB := n3_; clear n0_ n1_ n2_ n3_; (try clear hb); (try clear hb2); (try clear hk); (try clear hi); obtain ⟨hcz63_0, hcz63_1, hcz63_2, hcz63_3, hcz63_4, hcz63_5, hcz63_6, hcz63_7, hcz63_8⟩ := cells9_ BK212.out; obtain ⟨hfz63_0, hfz63_1, hfz63_2, hfz63_3, hfz63_4, hfz63_5, hfz63_6, hfz63_7, hfz63_8⟩ := frz9_ BK212.out) | (go_at_call 24; (with_reducible refine (filter_shaped.calls k1 ((rd_T38 l0 x17_1).f0) ((rd_T38 l0 x17_1).f1) ((rd_T38 l0 x17_1).f2) ((rd_T38 l0 x17_1).f3) ((rd_T38 l0 x17_1).f4.f0) _ _ ((rd_T38 l0 x17_1).f4.f1) ((rd_T38 l0 x17_1).f4.f2) ((rd_T38 l0 x17_1).f5) ((rd_T38 l0 x17_1).f6) true _ ?side1 ?side2 A17.out).mono ?_); (case side1 => repeat (first | exact (Kd.C_below HR211_5.out HB.out) | exact (Kd.C_below (Aside0.out (by assumption)) HB.out) | (with_reducible refine Kd.C_alloc ?_ _) | (with_reducible refine Kd.C_drewN ?_ _) | (with_reducible refine Kd.C_drew ?_))); (case side2 => first | exact HC211_5.out | exact Aside0.out (by assumption)); rintro e w64 ⟨rfl, hb⟩; have n0_ := Aside0.mk (Kd.R_below (by (with_reducible repeat (first | apply Kd.R_alloc | apply Kd.R_drewN | apply Kd.R_drew)); exact HO_4.out) hb); have n1_ := Aside0.mk (Kd.R_below (by (with_reducible repeat (first | apply Kd.R_alloc | apply Kd.R_drewN | apply Kd.R_drew)); exact HO_5.out) hb); have n2_ := Aside0.mk (blk_below (g := gb212) (o := .cells #[.int .i64 ((rd_T38 l0 x17_1).f0), .int .i64 ((rd_T38 l0 x17_1).f1), .string ((rd_T38 l0 x17_1).f2), .string ((rd_T38 l0 x17_1).f3), .string ((rd_T38 l0 x17_1).f4.f0), .slice A211_5 ((rd_T38 l0 x17_1).f4.f1).length c211_5, .string ((rd_T38 l0 x17_1).f4.f2), .string ((rd_T38 l0 x17_1).f5), .bool ((rd_T38 l0 x17_1).f6)] 38 (0, 0)) (by (with_reducible repeat (first | refine blk_drewN ?_ _ | refine blk_drew ?_ | refine blk_alloc ?_ _)); exact BK212.out) hb); have n3_ := Aside0.mk (below_step (by repeat (first | (with_reducible first | exact HB.out | apply below_alloc | apply pw_below_drewN | apply below_drew1 | refine below_set ?_ GE212.out) | exact HB.out)) hb); clear HO_4; clear HO_5; clear BK212; clear HB; have HO_4 := n0_; have HO_5 := n1_; have BK212 := n2_; have HB := n3_; clear n0_ n1_ n2_ n3_; (try clear hb); (try clear hb2); (try clear hk); (try clear hi); obtain ⟨hcz65_0, hcz65_1, hcz65_2, hcz65_3, hcz65_4, hcz65_5, hcz65_6, hcz65_7, hcz65_8⟩ := cells9_ BK212.out; obtain ⟨hfz65_0, hfz65_1, hfz65_2, hfz65_3, hfz65_4, hfz65_5, hfz65_6, hfz65_7, hfz65_8⟩ := frz9_ BK212.out; obtain ⟨Ao66, co66, eo66⟩ := Kd.R_slice HO_4.out; subst eo66; have q67 : ((ji19) : Int) ≤ ((x4_1.length : Int) : Int) := of_decide_eq_true (by first | (with_reducible assumption) | assumption); obtain ⟨i067, hi067, _, hsz67, _⟩ := info_parts info3; have hcut67 := cut_to (P := Tryd.prog) 48 3 .i64 Tryd.underlying48 hi067 Ao66 x4_1.length co66 (ji19) (of_decide_eq_true (by first | (with_reducible assumption) | assumption)) q67 (Kd.R_reads' HO_4.out).2.1; have hr67 := Kd.R_take (m := ((ji19) : Int).toNat) HO_4.out (by omega); have hy67 : y215.length = ((ji19) : Int).toNat := (by rw [Ny215.out, List.length_take]; omega); rw [← Ny215.out] at hr67; rw [← hy67] at hr67 hcut67; clear hy67 hi067 hsz67 HO_4; have HO217 := Aside0.mk hr67; clear hr67; replace q67 := eq_true q67) | ((with_reducible refine gate_builtin (b := .append) (xs := #[.tmp 42, .tmp 44]) rfl ?_); (try (refine gate_guard (by rfl) ?_; dsimp only)); at_builtin; refine Kd.R_append (Kd.int .i64) (w0 := w) w.heap.size rfl (.tmp 42) (.tmp 44) 48 3 (.int .i64 0) 8 rfl Tryd.underlying48 info3 rfl (by decide) (by omega) (.slice Ao66 y215.length co66) y215 x17_1 [.int .i64 x17_1] (fun k_ => some k_ ≠ (v209 : Value).ownBlock) (fun _ => False) rfl rfl ?aP (fun _ hk => hk.elim) ?aF ?aO ?aB ?aS ?aL ?_; (case aP => exact rfl); (case aB => exact (by repeat (first | (with_reducible first | exact HB.out | apply below_alloc | apply pw_below_drewN | apply below_drew1 | refine below_set ?_ GE212.out) | exact HB.out))); (case aF => exact (fun k_ hk => Kd.fresh' (Kd.R_lt (by (with_reducible repeat (first | apply Kd.R_alloc | apply Kd.R_drewN | apply Kd.R_drew)); exact HO_5.out)) k_ hk)); (case aO => exact (by (with_reducible repeat (first | apply Kd.R_alloc | apply Kd.R_drewN | apply Kd.R_drew)); exact HO217.out)); (case aS => exact (below_size (by repeat (first | (with_reducible first | exact HB.out | apply below_alloc | apply pw_below_drewN | apply below_drew1 | refine below_set ?_ GE212.out) | exact HB.out)))); (case aL => have := LMc22.out; omega); intro v219 w68 ho hb hg hat; rw [← Ny218.out] at ho; have n0_ := Aside0.mk (Kd.R_after (ok := (fun _ => True)) (by (with_reducible repeat (first | apply Kd.R_alloc | apply Kd.R_drewN | apply Kd.R_drew)); exact Kd.R_mono HO_5.out (fun _ hk => ⟨trivial, by first | exact hk | exact own_any_ hk⟩)) hg hat); have n1_ := Aside0.mk (blk_grown (g := gb212) (o := .cells #[.int .i64 ((rd_T38 l0 x17_1).f0), .int .i64 ((rd_T38 l0 x17_1).f1), .string ((rd_T38 l0 x17_1).f2), .string ((rd_T38 l0 x17_1).f3), .string ((rd_T38 l0 x17_1).f4.f0), .slice A211_5 ((rd_T38 l0 x17_1).f4.f1).length c211_5, .string ((rd_T38 l0 x17_1).f4.f2), .string ((rd_T38 l0 x17_1).f5), .bool ((rd_T38 l0 x17_1).f6)] 38 (0, 0)) (by (with_reducible repeat (first | refine blk_drewN ?_ _ | refine blk_drew ?_ | refine blk_alloc ?_ _)); exact BK212.out) hg (Kd.R_ne HO217.out BK212.out (by decide))); have n2_ := Aside0.mk (hb); have n3_ := Aside0.mk (ho); clear HO_5; clear BK212; clear HB; clear HO217; have HO_5 := n0_; have BK212 := n1_; have HB := n2_; have HO220 := n3_; clear n0_ n1_ n2_ n3_; clear ho hb hg hat; obtain ⟨hcz69_0, hcz69_1, hcz69_2, hcz69_3, hcz69_4, hcz69_5, hcz69_6, hcz69_7, hcz69_8⟩ := cells9_ BK212.out; obtain ⟨hfz69_0, hfz69_1, hfz69_2, hfz69_3, hfz69_4, hfz69_5, hfz69_6, hfz69_7, hfz69_8⟩ := frz9_ BK212.out))))
                  go_ret2
                  exact ⟨by first | rfl | (simp [isEmpty_ne_]; done) | (simp [errW_none, errW_some] <;> rfl) | (simp only [← hji19]; first | rfl | (simp [errW_none, errW_some] <;> rfl)) | (simp [*, errW_none, errW_some] <;> rfl), by repeat (first | (with_reducible first | exact HB.out | apply below_alloc | apply pw_below_drewN | apply below_drew1 | refine below_set ?_ GE212.out) | exact HB.out)⟩
                 ·rw [if_neg c59] at H
                  have c59b0 : ((wrap64 (x17_1 + 1)) == (l0.length : Int)) = false := beq_eq_false_iff_ne.mpr c59
                  have c59b1 : ((wrap64 (x17_1 + 1)) != (l0.length : Int)) = true := bne_iff_ne.mpr c59
                  obtain ⟨ji70, hji70⟩ : ∃ j_ : Int, (wrap64 (x17_1 + 1)) = j_ := ⟨_, rfl⟩
                  replace H : (if 0 ≤ (ji70) then (if (ji70) < (l0.length : Int) then (if ((rd_T38 l0 (ji70)).f0) = (wrap64 (((rd_T38 l0 x17_1).f0) + 1)) then (filter_Check.l0 k1 l0 y218 x5_1 l0 (l0.length : Int) ji70) else (some (120, x17_1))) else (none)) else (none)) = some (r1, r2) := by first | (rw [hji70] at H; exact H) | (simp only [hji70] at H ⊢; exact H)
                  (try rw [hji70] at c59b0)
                  (try rw [hji70] at c59b1)
                  (try rw [hji70] at A10)
                  (try rw [hji70] at A17)
                  have hji70w : (IntKind.i64.wrap (x17_1 + 1)) = ji70 := (i64_w _).trans hji70
                  by_cases c71 : 0 ≤ (ji70)
                  ·rw [if_pos c71] at H
                   have c71b0 : decide (0 ≤ (ji70)) = true := decide_eq_true c71
                   clear c71
                   by_cases c72 : (ji70) < (l0.length : Int)
                   ·rw [if_pos c72] at H
                    have c72b0 : decide ((ji70) < (l0.length : Int)) = true := decide_eq_true c72
                    clear c72
                    by_cases c73 : ((rd_T38 l0 (ji70)).f0) = (wrap64 (((rd_T38 l0 x17_1).f0) + 1))
                    ·rw [if_pos c73] at H
                     have c73b0 : (((rd_T38 l0 (ji70)).f0) == (wrap64 (((rd_T38 l0 x17_1).f0) + 1))) = true := beq_iff_eq.mpr c73
                     have c73b1 : (((rd_T38 l0 (ji70)).f0) != (wrap64 (((rd_T38 l0 x17_1).f0) + 1))) = false := bne_eq_false_iff_eq.mpr c73
                     clear c73
                     have H' := Aside0.mk H
                     clear H
                     have p211 : 0 ≤ (x17_1 : Int) := of_decide_eq_true (by first | (with_reducible assumption) | assumption)
                     have q211 : x17_1 < (l0.length : Int) := of_decide_eq_true (by first | (with_reducible assumption) | assumption)
                     obtain ⟨ad211, A211_5, c211_5, e211, hx211_0, hx211_1, hx211_2, hx211_3, hx211_4, hx211_5, hx211_6, hx211_7, hx211_8, hl211_5, hi211_5⟩ := at_T38 HR0.out x17_1 p211 q211
                     cases e211
                     replace hx211_0 := cellB_ HB.out hx211_0
                     replace hx211_1 := cellB_ HB.out hx211_1
                     replace hx211_2 := cellB_ HB.out hx211_2
                     replace hx211_3 := cellB_ HB.out hx211_3
                     replace hx211_4 := cellB_ HB.out hx211_4
                     replace hx211_5 := cellB_ HB.out hx211_5
                     replace hx211_6 := cellB_ HB.out hx211_6
                     replace hx211_7 := cellB_ HB.out hx211_7
                     replace hx211_8 := cellB_ HB.out hx211_8
                     have HR211_5 := Aside0.mk hi211_5
                     have HC211_5 := Aside0.mk hl211_5
                     clear hi211_5 hl211_5
                     replace p211 := eq_true p211
                     replace q211 := eq_true q211
                     iterate 9 (try (first | go_quiet (fail) | go_wp2_with (first | ((with_reducible refine gate_dst (N := 7) rfl ?_); (try (refine gate_guard (by rfl) ?_; dsimp only)); refine box_event ?hg (N := 7) ?hd (cs := #[.int .i64 0, .int .i64 0, .string (⟨#[]⟩ : ByteArray), .string (⟨#[]⟩ : ByteArray), .string (⟨#[]⟩ : ByteArray), .slice none 0 0, .string (⟨#[]⟩ : ByteArray), .string (⟨#[]⟩ : ByteArray), .bool false]) (t := 38) ?hr ?_; (case hd => rfl); (case hg => rfl); (case hr => first | (go_simp; done) | (go_simp; rfl)); intro gb212 hg w74 hbox hb; have n0_ := Aside0.mk (Kd.R_below (by (with_reducible repeat (first | apply Kd.R_alloc | apply Kd.R_drewN | apply Kd.R_drew)); exact HO_4.out) hb); have n1_ := Aside0.mk (Kd.R_below (by (with_reducible repeat (first | apply Kd.R_alloc | apply Kd.R_drewN | apply Kd.R_drew)); exact HO_5.out) hb); have n2_ := Aside0.mk (below_step (by repeat (first | (with_reducible first | exact HB.out | apply below_alloc | apply pw_below_drewN | apply below_drew1) | exact HB.out)) hb); have n3_ := Aside0.mk (hbox); have n4_ := Aside0.mk ((by rw [hg]; exact (below_size (by repeat (first | (with_reducible first | exact HB.out | apply below_alloc | apply pw_below_drewN | apply below_drew1) | exact HB.out))) : w.heap.size ≤ gb212)); have n5_ := Aside0.mk ((by rw [hg]; exact (below_size (by repeat (first | (with_reducible first | exact HB.out | apply below_alloc | apply pw_below_drewN | apply below_drew1) | exact HB.out))) : w.heap.size ≤ gb212)); clear HO_4; clear HO_5; clear HB; have HO_4 := n0_; have HO_5 := n1_; have HB := n2_; have BK212 := n3_; have GW212 := n4_; have GE212 := n5_; clear n0_ n1_ n2_ n3_ n4_ n5_; clear hb hbox hg; obtain ⟨hcz75_0, hcz75_1, hcz75_2, hcz75_3, hcz75_4, hcz75_5, hcz75_6, hcz75_7, hcz75_8⟩ := cells9_ BK212.out; obtain ⟨hfz75_0, hfz75_1, hfz75_2, hfz75_3, hfz75_4, hfz75_5, hfz75_6, hfz75_7, hfz75_8⟩ := frz9_ BK212.out) | (go_at_call 23; (with_reducible refine (filter_follows.calls _ _ l0 x17_1 true _ ?side1 ?side2 A10.out).mono ?_); (case side1 => exact Kd.C_below HR0.out (by repeat (first | (with_reducible first | exact HB.out | apply below_alloc | apply pw_below_drewN | apply below_drew1 | refine below_set ?_ GE212.out) | exact HB.out))); (case side2 => exact HC0.out); rintro e w76 ⟨rfl, hb⟩; have n0_ := Aside0.mk (Kd.R_below (by (with_reducible repeat (first | apply Kd.R_alloc | apply Kd.R_drewN | apply Kd.R_drew)); exact (Kd.R_mono (Rfar9_ (g := gb212) (Kd.R_types HO_4.out BK212.out (by decide)) (fun _ hk => hk.2)) (fun _ h_ => h_.1))) hb); have n1_ := Aside0.mk (Kd.R_below (by (with_reducible repeat (first | apply Kd.R_alloc | apply Kd.R_drewN | apply Kd.R_drew)); exact (Kd.R_mono (Rfar9_ (g := gb212) (Kd.R_types HO_5.out BK212.out (by decide)) (fun _ hk => hk.2)) (fun _ h_ => h_.1))) hb); have n2_ := Aside0.mk (blk_below (g := gb212) (o := .cells #[.int .i64 ((rd_T38 l0 x17_1).f0), .int .i64 ((rd_T38 l0 x17_1).f1), .string ((rd_T38 l0 x17_1).f2), .string ((rd_T38 l0 x17_1).f3), .string ((rd_T38 l0 x17_1).f4.f0), .slice A211_5 ((rd_T38 l0 x17_1).f4.f1).length c211_5, .string ((rd_T38 l0 x17_1).f4.f2), .string ((rd_T38 l0 x17_1).f5), .bool ((rd_T38 l0 x17_1).f6)] 38 (0, 0)) (by (with_reducible repeat (first | refine blk_drewN ?_ _ | refine blk_drew ?_ | refine blk_alloc ?_ _)); exact put9_ (by (with_reducible repeat (first | refine blk_drewN ?_ _ | refine blk_drew ?_ | refine blk_alloc ?_ _)); exact BK212.out)) hb); have n3_ := Aside0.mk (below_step (by repeat (first | (with_reducible first | exact HB.out | apply below_alloc | apply pw_below_drewN | apply below_drew1 | refine below_set ?_ GE212.out) | exact HB.out)) hb); clear HO_4; clear HO_5; clear BK212; clear HB; have HO_4 := n0_; have HO_5 := n1_; have BK212 := n2_; have HB := n3_; clear n0_ n1_ n2_ n3_; (try clear hb); (try clear hb2); (try clear hk); (try clear hi); obtain ⟨hcz77_0, hcz77_1, hcz77_2, hcz77_3, hcz77_4, hcz77_5, hcz77_6, hcz77_7, hcz77_8⟩ := cells9_ BK212.out; obtain ⟨hfz77_0, hfz77_1, hfz77_2, hfz77_3, hfz77_4, hfz77_5, hfz77_6, hfz77_7, hfz77_8⟩ := frz9_ BK212.out) | (go_at_call 24; (with_reducible refine (filter_shaped.calls k1 ((rd_T38 l0 x17_1).f0) ((rd_T38 l0 x17_1).f1) ((rd_T38 l0 x17_1).f2) ((rd_T38 l0 x17_1).f3) ((rd_T38 l0 x17_1).f4.f0) _ _ ((rd_T38 l0 x17_1).f4.f1) ((rd_T38 l0 x17_1).f4.f2) ((rd_T38 l0 x17_1).f5) ((rd_T38 l0 x17_1).f6) true _ ?side1 ?side2 A17.out).mono ?_); (case side1 => repeat (first | exact (Kd.C_below HR211_5.out HB.out) | exact (Kd.C_below (Aside0.out (by assumption)) HB.out) | (with_reducible refine Kd.C_alloc ?_ _) | (with_reducible refine Kd.C_drewN ?_ _) | (with_reducible refine Kd.C_drew ?_))); (case side2 => first | exact HC211_5.out | exact Aside0.out (by assumption)); rintro e w78 ⟨rfl, hb⟩; have n0_ := Aside0.mk (Kd.R_below (by (with_reducible repeat (first | apply Kd.R_alloc | apply Kd.R_drewN | apply Kd.R_drew)); exact HO_4.out) hb); have n1_ := Aside0.mk (Kd.R_below (by (with_reducible repeat (first | apply Kd.R_alloc | apply Kd.R_drewN | apply Kd.R_drew)); exact HO_5.out) hb); have n2_ := Aside0.mk (blk_below (g := gb212) (o := .cells #[.int .i64 ((rd_T38 l0 x17_1).f0), .int .i64 ((rd_T38 l0 x17_1).f1), .string ((rd_T38 l0 x17_1).f2), .string ((rd_T38 l0 x17_1).f3), .string ((rd_T38 l0 x17_1).f4.f0), .slice A211_5 ((rd_T38 l0 x17_1).f4.f1).length c211_5, .string ((rd_T38 l0 x17_1).f4.f2), .string ((rd_T38 l0 x17_1).f5), .bool ((rd_T38 l0 x17_1).f6)] 38 (0, 0)) (by (with_reducible repeat (first | refine blk_drewN ?_ _ | refine blk_drew ?_ | refine blk_alloc ?_ _)); exact BK212.out) hb); have n3_ := Aside0.mk (below_step (by repeat (first | (with_reducible first | exact HB.out | apply below_alloc | apply pw_below_drewN | apply below_drew1 | refine below_set ?_ GE212.out) | exact HB.out)) hb); clear HO_4; clear HO_5; clear BK212; clear HB; have HO_4 := n0_; have HO_5 := n1_; have BK212 := n2_; have HB := n3_; clear n0_ n1_ n2_ n3_; (try clear hb); (try clear hb2); (try clear hk); (try clear hi); obtain ⟨hcz79_0, hcz79_1, hcz79_2, hcz79_3, hcz79_4, hcz79_5, hcz79_6, hcz79_7, hcz79_8⟩ := cells9_ BK212.out; obtain ⟨hfz79_0, hfz79_1, hfz79_2, hfz79_3, hfz79_4, hfz79_5, hfz79_6, hfz79_7, hfz79_8⟩ := frz9_ BK212.out; obtain ⟨Ao80, co80, eo80⟩ := Kd.R_slice HO_4.out; subst eo80; have q81 : ((ji19) : Int) ≤ ((x4_1.length : Int) : Int) := of_decide_eq_true (by first | (with_reducible assumption) | assumption); obtain ⟨i081, hi081, _, hsz81, _⟩ := info_parts info3; have hcut81 := cut_to (P := Tryd.prog) 48 3 .i64 Tryd.underlying48 hi081 Ao80 x4_1.length co80 (ji19) (of_decide_eq_true (by first | (with_reducible assumption) | assumption)) q81 (Kd.R_reads' HO_4.out).2.1; have hr81 := Kd.R_take (m := ((ji19) : Int).toNat) HO_4.out (by omega); have hy81 : y215.length = ((ji19) : Int).toNat := (by rw [Ny215.out, List.length_take]; omega); rw [← Ny215.out] at hr81; rw [← hy81] at hr81 hcut81; clear hy81 hi081 hsz81 HO_4; have HO217 := Aside0.mk hr81; clear hr81; replace q81 := eq_true q81) | ((with_reducible refine gate_builtin (b := .append) (xs := #[.tmp 42, .tmp 44]) rfl ?_); (try (refine gate_guard (by rfl) ?_; dsimp only)); at_builtin; refine Kd.R_append (Kd.int .i64) (w0 := w) w.heap.size rfl (.tmp 42) (.tmp 44) 48 3 (.int .i64 0) 8 rfl Tryd.underlying48 info3 rfl (by decide) (by omega) (.slice Ao80 y215.length co80) y215 x17_1 [.int .i64 x17_1] (fun k_ => some k_ ≠ (v209 : Value).ownBlock) (fun _ => False) rfl rfl ?aP (fun _ hk => hk.elim) ?aF ?aO ?aB ?aS ?aL ?_; (case aP => exact rfl); (case aB => exact (by repeat (first | (with_reducible first | exact HB.out | apply below_alloc | apply pw_below_drewN | apply below_drew1 | refine below_set ?_ GE212.out) | exact HB.out))); (case aF => exact (fun k_ hk => Kd.fresh' (Kd.R_lt (by (with_reducible repeat (first | apply Kd.R_alloc | apply Kd.R_drewN | apply Kd.R_drew)); exact HO_5.out)) k_ hk)); (case aO => exact (by (with_reducible repeat (first | apply Kd.R_alloc | apply Kd.R_drewN | apply Kd.R_drew)); exact HO217.out)); (case aS => exact (below_size (by repeat (first | (with_reducible first | exact HB.out | apply below_alloc | apply pw_below_drewN | apply below_drew1 | refine below_set ?_ GE212.out) | exact HB.out)))); (case aL => have := LMc22.out; omega); intro v219 w82 ho hb hg hat; rw [← Ny218.out] at ho; have n0_ := Aside0.mk (Kd.R_after (ok := (fun _ => True)) (by (with_reducible repeat (first | apply Kd.R_alloc | apply Kd.R_drewN | apply Kd.R_drew)); exact Kd.R_mono HO_5.out (fun _ hk => ⟨trivial, by first | exact hk | exact own_any_ hk⟩)) hg hat); have n1_ := Aside0.mk (blk_grown (g := gb212) (o := .cells #[.int .i64 ((rd_T38 l0 x17_1).f0), .int .i64 ((rd_T38 l0 x17_1).f1), .string ((rd_T38 l0 x17_1).f2), .string ((rd_T38 l0 x17_1).f3), .string ((rd_T38 l0 x17_1).f4.f0), .slice A211_5 ((rd_T38 l0 x17_1).f4.f1).length c211_5, .string ((rd_T38 l0 x17_1).f4.f2), .string ((rd_T38 l0 x17_1).f5), .bool ((rd_T38 l0 x17_1).f6)] 38 (0, 0)) (by (with_reducible repeat (first | refine blk_drewN ?_ _ | refine blk_drew ?_ | refine blk_alloc ?_ _)); exact BK212.out) hg (Kd.R_ne HO217.out BK212.out (by decide))); have n2_ := Aside0.mk (hb); have n3_ := Aside0.mk (ho); clear HO_5; clear BK212; clear HB; clear HO217; have HO_5 := n0_; have BK212 := n1_; have HB := n2_; have HO220 := n3_; clear n0_ n1_ n2_ n3_; clear ho hb hg hat; obtain ⟨hcz83_0, hcz83_1, hcz83_2, hcz83_3, hcz83_4, hcz83_5, hcz83_6, hcz83_7, hcz83_8⟩ := cells9_ BK212.out; obtain ⟨hfz83_0, hfz83_1, hfz83_2, hfz83_3, hfz83_4, hfz83_5, hfz83_6, hfz83_7, hfz83_8⟩ := frz9_ BK212.out; have p227 : 0 ≤ ((ji70) : Int) := of_decide_eq_true (by first | (with_reducible assumption) | assumption); have q227 : (ji70) < (l0.length : Int) := of_decide_eq_true (by first | (with_reducible assumption) | assumption); obtain ⟨ad227, A227_5, c227_5, e227, hx227_0, hx227_1, hx227_2, hx227_3, hx227_4, hx227_5, hx227_6, hx227_7, hx227_8, hl227_5, hi227_5⟩ := at_T38 HR0.out (ji70) p227 q227; obtain rfl : ad211 = ad227 := (by injection e227); replace hx227_0 := cellB_ HB.out hx227_0; replace hx227_1 := cellB_ HB.out hx227_1; replace hx227_2 := cellB_ HB.out hx227_2; replace hx227_3 := cellB_ HB.out hx227_3; replace hx227_4 := cellB_ HB.out hx227_4; replace hx227_5 := cellB_ HB.out hx227_5; replace hx227_6 := cellB_ HB.out hx227_6; replace hx227_7 := cellB_ HB.out hx227_7; replace hx227_8 := cellB_ HB.out hx227_8; have HR227_5 := Aside0.mk hi227_5; have HC227_5 := Aside0.mk hl227_5; clear hi227_5 hl227_5; replace p227 := eq_true p227; replace q227 := eq_true q227))))
                     go_roundg k1
                     case measure => have := HK1.out; omega
                     case rel => exact ⟨(y218), (x5_1), (ji70), (by first | rfl | (simp; done) | (simp only [← hji70] <;> (first | rfl | simp)) | (simp [*]; done) | (simp [isEmpty_ne_]; done)), H', ⟨by have := HK1.out; omega⟩, ⟨by (with_reducible repeat (first | apply Kd.R_alloc | apply Kd.R_drewN | apply Kd.R_drew)); exact HO220.out⟩, ⟨by (with_reducible repeat (first | apply Kd.R_alloc | apply Kd.R_drewN | apply Kd.R_drew)); exact Kd.R_mono HO_5.out (fun _ hk => hk.2)⟩, ⟨by repeat (first | (with_reducible first | exact HB.out | apply below_alloc | apply pw_below_drewN | apply below_drew1 | refine below_set ?_ GE212.out) | exact HB.out)⟩⟩
                    ·rw [if_neg c73] at H
                     have c73b0 : (((rd_T38 l0 (ji70)).f0) == (wrap64 (((rd_T38 l0 x17_1).f0) + 1))) = false := beq_eq_false_iff_ne.mpr c73
                     have c73b1 : (((rd_T38 l0 (ji70)).f0) != (wrap64 (((rd_T38 l0 x17_1).f0) + 1))) = true := bne_iff_ne.mpr c73
                     simp only [Option.some.injEq, Prod.mk.injEq] at H
                     obtain ⟨rfl, rfl⟩ := H
                     have p211 : 0 ≤ (x17_1 : Int) := of_decide_eq_true (by first | (with_reducible assumption) | assumption)
                     have q211 : x17_1 < (l0.length : Int) := of_decide_eq_true (by first | (with_reducible assumption) | assumption)
                     obtain ⟨ad211, A211_5, c211_5, e211, hx211_0, hx211_1, hx211_2, hx211_3, hx211_4, hx211_5, hx211_6, hx211_7, hx211_8, hl211_5, hi211_5⟩ := at_T38 HR0.out x17_1 p211 q211
                     cases e211
                     replace hx211_0 := cellB_ HB.out hx211_0
                     replace hx211_1 := cellB_ HB.out hx211_1
                     replace hx211_2 := cellB_ HB.out hx211_2
                     replace hx211_3 := cellB_ HB.out hx211_3
                     replace hx211_4 := cellB_ HB.out hx211_4
                     replace hx211_5 := cellB_ HB.out hx211_5
                     replace hx211_6 := cellB_ HB.out hx211_6
                     replace hx211_7 := cellB_ HB.out hx211_7
                     replace hx211_8 := cellB_ HB.out hx211_8
                     have HR211_5 := Aside0.mk hi211_5
                     have HC211_5 := Aside0.mk hl211_5
                     clear hi211_5 hl211_5
                     replace p211 := eq_true p211
                     replace q211 := eq_true q211
                     iterate 9 (try (first | go_quiet (fail) | go_wp2_with (first | ((with_reducible refine gate_dst (N := 7) rfl ?_); (try (refine gate_guard (by rfl) ?_; dsimp only)); refine box_event ?hg (N := 7) ?hd (cs := #[.int .i64 0, .int .i64 0, .string (⟨#[]⟩ : ByteArray), .string (⟨#[]⟩ : ByteArray), .string (⟨#[]⟩ : ByteArray), .slice none 0 0, .string (⟨#[]⟩ : ByteArray), .string (⟨#[]⟩ : ByteArray), .bool false]) (t := 38) ?hr ?_; (case hd => rfl); (case hg => rfl); (case hr => first | (go_simp; done) | (go_simp; rfl)); intro gb212 hg w84 hbox hb; have n0_ := Aside0.mk (Kd.R_below (by (with_reducible repeat (first | apply Kd.R_alloc | apply Kd.R_drewN | apply Kd.R_drew)); exact HO_4.out) hb); have n1_ := Aside0.mk (Kd.R_below (by (with_reducible repeat (first | apply Kd.R_alloc | apply Kd.R_drewN | apply Kd.R_drew)); exact HO_5.out) hb); have n2_ := Aside0.mk (below_step (by repeat (first | (with_reducible first | exact HB.out | apply below_alloc | apply pw_below_drewN | apply below_drew1) | exact HB.out)) hb); have n3_ := Aside0.mk (hbox); have n4_ := Aside0.mk ((by rw [hg]; exact (below_size (by repeat (first | (with_reducible first | exact HB.out | apply below_alloc | apply pw_below_drewN | apply below_drew1) | exact HB.out))) : w.heap.size ≤ gb212)); have n5_ := Aside0.mk ((by rw [hg]; exact (below_size (by repeat (first | (with_reducible first | exact HB.out | apply below_alloc | apply pw_below_drewN | apply below_drew1) | exact HB.out))) : w.heap.size ≤ gb212)); clear HO_4; clear HO_5; clear HB; have HO_4 := n0_; have HO_5 := n1_; have HB := n2_; have BK212 := n3_; have GW212 := n4_; have GE212 := n5_; clear n0_ n1_ n2_ n3_ n4_ n5_; clear hb hbox hg; obtain ⟨hcz85_0, hcz85_1, hcz85_2, hcz85_3, hcz85_4, hcz85_5, hcz85_6, hcz85_7, hcz85_8⟩ := cells9_ BK212.out; obtain ⟨hfz85_0, hfz85_1, hfz85_2, hfz85_3, hfz85_4, hfz85_5, hfz85_6, hfz85_7, hfz85_8⟩ := frz9_ BK212.out) | (go_at_call 23; (with_reducible refine (filter_follows.calls _ _ l0 x17_1 true _ ?side1 ?side2 A10.out).mono ?_); (case side1 => exact Kd.C_below HR0.out (by repeat (first | (with_reducible first | exact HB.out | apply below_alloc | apply pw_below_drewN | apply below_drew1 | refine below_set ?_ GE212.out) | exact HB.out))); (case side2 => exact HC0.out); rintro e w86 ⟨rfl, hb⟩; have n0_ := Aside0.mk (Kd.R_below (by (with_reducible repeat (first | apply Kd.R_alloc | apply Kd.R_drewN | apply Kd.R_drew)); exact (Kd.R_mono (Rfar9_ (g := gb212) (Kd.R_types HO_4.out BK212.out (by decide)) (fun _ hk => hk.2)) (fun _ h_ => h_.1))) hb); have n1_ := Aside0.mk (Kd.R_below (by (with_reducible repeat (first | apply Kd.R_alloc | apply Kd.R_drewN | apply Kd.R_drew)); exact (Kd.R_mono (Rfar9_ (g := gb212) (Kd.R_types HO_5.out BK212.out (by decide)) (fun _ hk => hk.2)) (fun _ h_ => h_.1))) hb); have n2_ := Aside0.mk (blk_below (g := gb212) (o := .cells #[.int .i64 ((rd_T38 l0 x17_1).f0), .int .i64 ((rd_T38 l0 x17_1).f1), .string ((rd_T38 l0 x17_1).f2), .string ((rd_T38 l0 x17_1).f3), .string ((rd_T38 l0 x17_1).f4.f0), .slice A211_5 ((rd_T38 l0 x17_1).f4.f1).length c211_5, .string ((rd_T38 l0 x17_1).f4.f2), .string ((rd_T38 l0 x17_1).f5), .bool ((rd_T38 l0 x17_1).f6)] 38 (0, 0)) (by (with_reducible repeat (first | refine blk_drewN ?_ _ | refine blk_drew ?_ | refine blk_alloc ?_ _)); exact put9_ (by (with_reducible repeat (first | refine blk_drewN ?_ _ | refine blk_drew ?_ | refine blk_alloc ?_ _)); exact BK212.out)) hb); have n3_ := Aside0.mk (below_step (by repeat (first | (with_reducible first | exact HB.out | apply below_alloc | apply pw_below_drewN | apply below_drew1 | refine below_set ?_ GE212.out) | exact HB.out)) hb); clear HO_4; clear HO_5; clear BK212; clear HB; have HO_4 := n0_; have HO_5 := n1_; have BK212 := n2_; have HB := n3_; clear n0_ n1_ n2_ n3_; (try clear hb); (try clear hb2); (try clear hk); (try clear hi); obtain ⟨hcz87_0, hcz87_1, hcz87_2, hcz87_3, hcz87_4, hcz87_5, hcz87_6, hcz87_7, hcz87_8⟩ := cells9_ BK212.out; obtain ⟨hfz87_0, hfz87_1, hfz87_2, hfz87_3, hfz87_4, hfz87_5, hfz87_6, hfz87_7, hfz87_8⟩ := frz9_ BK212.out) | (go_at_call 24; (with_reducible refine (filter_shaped.calls k1 ((rd_T38 l0 x17_1).f0) ((rd_T38 l0 x17_1).f1) ((rd_T38 l0 x17_1).f2) ((rd_T38 l0 x17_1).f3) ((rd_T38 l0 x17_1).f4.f0) _ _ ((rd_T38 l0 x17_1).f4.f1) ((rd_T38 l0 x17_1).f4.f2) ((rd_T38 l0 x17_1).f5) ((rd_T38 l0 x17_1).f6) true _ ?side1 ?side2 A17.out).mono ?_); (case side1 => repeat (first | exact (Kd.C_below HR211_5.out HB.out) | exact (Kd.C_below (Aside0.out (by assumption)) HB.out) | (with_reducible refine Kd.C_alloc ?_ _) | (with_reducible refine Kd.C_drewN ?_ _) | (with_reducible refine Kd.C_drew ?_))); (case side2 => first | exact HC211_5.out | exact Aside0.out (by assumption)); rintro e w88 ⟨rfl, hb⟩; have n0_ := Aside0.mk (Kd.R_below (by (with_reducible repeat (first | apply Kd.R_alloc | apply Kd.R_drewN | apply Kd.R_drew)); exact HO_4.out) hb); have n1_ := Aside0.mk (Kd.R_below (by (with_reducible repeat (first | apply Kd.R_alloc | apply Kd.R_drewN | apply Kd.R_drew)); exact HO_5.out) hb); have n2_ := Aside0.mk (blk_below (g := gb212) (o := .cells #[.int .i64 ((rd_T38 l0 x17_1).f0), .int .i64 ((rd_T38 l0 x17_1).f1), .string ((rd_T38 l0 x17_1).f2), .string ((rd_T38 l0 x17_1).f3), .string ((rd_T38 l0 x17_1).f4.f0), .slice A211_5 ((rd_T38 l0 x17_1).f4.f1).length c211_5, .string ((rd_T38 l0 x17_1).f4.f2), .string ((rd_T38 l0 x17_1).f5), .bool ((rd_T38 l0 x17_1).f6)] 38 (0, 0)) (by (with_reducible repeat (first | refine blk_drewN ?_ _ | refine blk_drew ?_ | refine blk_alloc ?_ _)); exact BK212.out) hb); have n3_ := Aside0.mk (below_step (by repeat (first | (with_reducible first | exact HB.out | apply below_alloc | apply pw_below_drewN | apply below_drew1 | refine below_set ?_ GE212.out) | exact HB.out)) hb); clear HO_4; clear HO_5; clear BK212; clear HB; have HO_4 := n0_; have HO_5 := n1_; have BK212 := n2_; have HB := n3_; clear n0_ n1_ n2_ n3_; (try clear hb); (try clear hb2); (try clear hk); (try clear hi); obtain ⟨hcz89_0, hcz89_1, hcz89_2, hcz89_3, hcz89_4, hcz89_5, hcz89_6, hcz89_7, hcz89_8⟩ := cells9_ BK212.out; obtain ⟨hfz89_0, hfz89_1, hfz89_2, hfz89_3, hfz89_4, hfz89_5, hfz89_6, hfz89_7, hfz89_8⟩ := frz9_ BK212.out; obtain ⟨Ao90, co90, eo90⟩ := Kd.R_slice HO_4.out; subst eo90; have q91 : ((ji19) : Int) ≤ ((x4_1.length : Int) : Int) := of_decide_eq_true (by first | (with_reducible assumption) | assumption); obtain ⟨i091, hi091, _, hsz91, _⟩ := info_parts info3; have hcut91 := cut_to (P := Tryd.prog) 48 3 .i64 Tryd.underlying48 hi091 Ao90 x4_1.length co90 (ji19) (of_decide_eq_true (by first | (with_reducible assumption) | assumption)) q91 (Kd.R_reads' HO_4.out).2.1; have hr91 := Kd.R_take (m := ((ji19) : Int).toNat) HO_4.out (by omega); have hy91 : y215.length = ((ji19) : Int).toNat := (by rw [Ny215.out, List.length_take]; omega); rw [← Ny215.out] at hr91; rw [← hy91] at hr91 hcut91; clear hy91 hi091 hsz91 HO_4; have HO217 := Aside0.mk hr91; clear hr91; replace q91 := eq_true q91) | ((with_reducible refine gate_builtin (b := .append) (xs := #[.tmp 42, .tmp 44]) rfl ?_); (try (refine gate_guard (by rfl) ?_; dsimp only)); at_builtin; refine Kd.R_append (Kd.int .i64) (w0 := w) w.heap.size rfl (.tmp 42) (.tmp 44) 48 3 (.int .i64 0) 8 rfl Tryd.underlying48 info3 rfl (by decide) (by omega) (.slice Ao90 y215.length co90) y215 x17_1 [.int .i64 x17_1] (fun k_ => some k_ ≠ (v209 : Value).ownBlock) (fun _ => False) rfl rfl ?aP (fun _ hk => hk.elim) ?aF ?aO ?aB ?aS ?aL ?_; (case aP => exact rfl); (case aB => exact (by repeat (first | (with_reducible first | exact HB.out | apply below_alloc | apply pw_below_drewN | apply below_drew1 | refine below_set ?_ GE212.out) | exact HB.out))); (case aF => exact (fun k_ hk => Kd.fresh' (Kd.R_lt (by (with_reducible repeat (first | apply Kd.R_alloc | apply Kd.R_drewN | apply Kd.R_drew)); exact HO_5.out)) k_ hk)); (case aO => exact (by (with_reducible repeat (first | apply Kd.R_alloc | apply Kd.R_drewN | apply Kd.R_drew)); exact HO217.out)); (case aS => exact (below_size (by repeat (first | (with_reducible first | exact HB.out | apply below_alloc | apply pw_below_drewN | apply below_drew1 | refine below_set ?_ GE212.out) | exact HB.out)))); (case aL => have := LMc22.out; omega); intro v219 w92 ho hb hg hat; rw [← Ny218.out] at ho; have n0_ := Aside0.mk (Kd.R_after (ok := (fun _ => True)) (by (with_reducible repeat (first | apply Kd.R_alloc | apply Kd.R_drewN | apply Kd.R_drew)); exact Kd.R_mono HO_5.out (fun _ hk => ⟨trivial, by first | exact hk | exact own_any_ hk⟩)) hg hat); have n1_ := Aside0.mk (blk_grown (g := gb212) (o := .cells #[.int .i64 ((rd_T38 l0 x17_1).f0), .int .i64 ((rd_T38 l0 x17_1).f1), .string ((rd_T38 l0 x17_1).f2), .string ((rd_T38 l0 x17_1).f3), .string ((rd_T38 l0 x17_1).f4.f0), .slice A211_5 ((rd_T38 l0 x17_1).f4.f1).length c211_5, .string ((rd_T38 l0 x17_1).f4.f2), .string ((rd_T38 l0 x17_1).f5), .bool ((rd_T38 l0 x17_1).f6)] 38 (0, 0)) (by (with_reducible repeat (first | refine blk_drewN ?_ _ | refine blk_drew ?_ | refine blk_alloc ?_ _)); exact BK212.out) hg (Kd.R_ne HO217.out BK212.out (by decide))); have n2_ := Aside0.mk (hb); have n3_ := Aside0.mk (ho); clear HO_5; clear BK212; clear HB; clear HO217; have HO_5 := n0_; have BK212 := n1_; have HB := n2_; have HO220 := n3_; clear n0_ n1_ n2_ n3_; clear ho hb hg hat; obtain ⟨hcz93_0, hcz93_1, hcz93_2, hcz93_3, hcz93_4, hcz93_5, hcz93_6, hcz93_7, hcz93_8⟩ := cells9_ BK212.out; obtain ⟨hfz93_0, hfz93_1, hfz93_2, hfz93_3, hfz93_4, hfz93_5, hfz93_6, hfz93_7, hfz93_8⟩ := frz9_ BK212.out; have p227 : 0 ≤ ((ji70) : Int) := of_decide_eq_true (by first | (with_reducible assumption) | assumption); have q227 : (ji70) < (l0.length : Int) := of_decide_eq_true (by first | (with_reducible assumption) | assumption); obtain ⟨ad227, A227_5, c227_5, e227, hx227_0, hx227_1, hx227_2, hx227_3, hx227_4, hx227_5, hx227_6, hx227_7, hx227_8, hl227_5, hi227_5⟩ := at_T38 HR0.out (ji70) p227 q227; obtain rfl : ad211 = ad227 := (by injection e227); replace hx227_0 := cellB_ HB.out hx227_0; replace hx227_1 := cellB_ HB.out hx227_1; replace hx227_2 := cellB_ HB.out hx227_2; replace hx227_3 := cellB_ HB.out hx227_3; replace hx227_4 := cellB_ HB.out hx227_4; replace hx227_5 := cellB_ HB.out hx227_5; replace hx227_6 := cellB_ HB.out hx227_6; replace hx227_7 := cellB_ HB.out hx227_7; replace hx227_8 := cellB_ HB.out hx227_8; have HR227_5 := Aside0.mk hi227_5; have HC227_5 := Aside0.mk hl227_5; clear hi227_5 hl227_5; replace p227 := eq_true p227; replace q227 := eq_true q227))))
                     go_ret2
                     exact ⟨by first | rfl | (simp [isEmpty_ne_]; done) | (simp [errW_none, errW_some] <;> rfl) | (simp only [← hji19, ← hji70]; first | rfl | (simp [errW_none, errW_some] <;> rfl)) | (simp [*, errW_none, errW_some] <;> rfl), by repeat (first | (with_reducible first | exact HB.out | apply below_alloc | apply pw_below_drewN | apply below_drew1 | refine below_set ?_ GE212.out) | exact HB.out)⟩
                   ·rw [if_neg c72] at H
                    exact absurd H (by simp)
                  ·rw [if_neg c71] at H
                   exact absurd H (by simp)
                ·rw [if_neg c58] at H
                 have c58b0 : (((rd_T38 l0 x17_1).f1) == 2) = false := beq_eq_false_iff_ne.mpr c58
                 have c58b1 : (((rd_T38 l0 x17_1).f1) != 2) = true := bne_iff_ne.mpr c58
                 have H' := Aside0.mk H
                 clear H
                 have p211 : 0 ≤ (x17_1 : Int) := of_decide_eq_true (by first | (with_reducible assumption) | assumption)
                 have q211 : x17_1 < (l0.length : Int) := of_decide_eq_true (by first | (with_reducible assumption) | assumption)
                 obtain ⟨ad211, A211_5, c211_5, e211, hx211_0, hx211_1, hx211_2, hx211_3, hx211_4, hx211_5, hx211_6, hx211_7, hx211_8, hl211_5, hi211_5⟩ := at_T38 HR0.out x17_1 p211 q211
                 cases e211
                 replace hx211_0 := cellB_ HB.out hx211_0
                 replace hx211_1 := cellB_ HB.out hx211_1
                 replace hx211_2 := cellB_ HB.out hx211_2
                 replace hx211_3 := cellB_ HB.out hx211_3
                 replace hx211_4 := cellB_ HB.out hx211_4
                 replace hx211_5 := cellB_ HB.out hx211_5
                 replace hx211_6 := cellB_ HB.out hx211_6
                 replace hx211_7 := cellB_ HB.out hx211_7
                 replace hx211_8 := cellB_ HB.out hx211_8
                 have HR211_5 := Aside0.mk hi211_5
                 have HC211_5 := Aside0.mk hl211_5
                 clear hi211_5 hl211_5
                 replace p211 := eq_true p211
                 replace q211 := eq_true q211
                 iterate 9 (try (first | go_quiet (fail) | go_wp2_with (first | ((with_reducible refine gate_dst (N := 7) rfl ?_); (try (refine gate_guard (by rfl) ?_; dsimp only)); refine box_event ?hg (N := 7) ?hd (cs := #[.int .i64 0, .int .i64 0, .string (⟨#[]⟩ : ByteArray), .string (⟨#[]⟩ : ByteArray), .string (⟨#[]⟩ : ByteArray), .slice none 0 0, .string (⟨#[]⟩ : ByteArray), .string (⟨#[]⟩ : ByteArray), .bool false]) (t := 38) ?hr ?_; (case hd => rfl); (case hg => rfl); (case hr => first | (go_simp; done) | (go_simp; rfl)); intro gb212 hg w94 hbox hb; have n0_ := Aside0.mk (Kd.R_below (by (with_reducible repeat (first | apply Kd.R_alloc | apply Kd.R_drewN | apply Kd.R_drew)); exact HO_4.out) hb); have n1_ := Aside0.mk (Kd.R_below (by (with_reducible repeat (first | apply Kd.R_alloc | apply Kd.R_drewN | apply Kd.R_drew)); exact HO_5.out) hb); have n2_ := Aside0.mk (below_step (by repeat (first | (with_reducible first | exact HB.out | apply below_alloc | apply pw_below_drewN | apply below_drew1) | exact HB.out)) hb); have n3_ := Aside0.mk (hbox); have n4_ := Aside0.mk ((by rw [hg]; exact (below_size (by repeat (first | (with_reducible first | exact HB.out | apply below_alloc | apply pw_below_drewN | apply below_drew1) | exact HB.out))) : w.heap.size ≤ gb212)); have n5_ := Aside0.mk ((by rw [hg]; exact (below_size (by repeat (first | (with_reducible first | exact HB.out | apply below_alloc | apply pw_below_drewN | apply below_drew1) | exact HB.out))) : w.heap.size ≤ gb212)); clear HO_4; clear HO_5; clear HB; have HO_4 := n0_; have HO_5 := n1_; have HB := n2_; have BK212 := n3_; have GW212 := n4_; have GE212 := n5_; clear n0_ n1_ n2_ n3_ n4_ n5_; clear hb hbox hg; obtain ⟨hcz95_0, hcz95_1, hcz95_2, hcz95_3, hcz95_4, hcz95_5, hcz95_6, hcz95_7, hcz95_8⟩ := cells9_ BK212.out; obtain ⟨hfz95_0, hfz95_1, hfz95_2, hfz95_3, hfz95_4, hfz95_5, hfz95_6, hfz95_7, hfz95_8⟩ := frz9_ BK212.out) | (go_at_call 23; (with_reducible refine (filter_follows.calls _ _ l0 x17_1 true _ ?side1 ?side2 A10.out).mono ?_); (case side1 => exact Kd.C_below HR0.out (by repeat (first | (with_reducible first | exact HB.out | apply below_alloc | apply pw_below_drewN | apply below_drew1 | refine below_set ?_ GE212.out) | exact HB.out))); (case side2 => exact HC0.out); rintro e w96 ⟨rfl, hb⟩; have n0_ := Aside0.mk (Kd.R_below (by (with_reducible repeat (first | apply Kd.R_alloc | apply Kd.R_drewN | apply Kd.R_drew)); exact (Kd.R_mono (Rfar9_ (g := gb212) (Kd.R_types HO_4.out BK212.out (by decide)) (fun _ hk => hk.2)) (fun _ h_ => h_.1))) hb); have n1_ := Aside0.mk (Kd.R_below (by (with_reducible repeat (first | apply Kd.R_alloc | apply Kd.R_drewN | apply Kd.R_drew)); exact (Kd.R_mono (Rfar9_ (g := gb212) (Kd.R_types HO_5.out BK212.out (by decide)) (fun _ hk => hk.2)) (fun _ h_ => h_.1))) hb); have n2_ := Aside0.mk (blk_below (g := gb212) (o := .cells #[.int .i64 ((rd_T38 l0 x17_1).f0), .int .i64 ((rd_T38 l0 x17_1).f1), .string ((rd_T38 l0 x17_1).f2), .string ((rd_T38 l0 x17_1).f3), .string ((rd_T38 l0 x17_1).f4.f0), .slice A211_5 ((rd_T38 l0 x17_1).f4.f1).length c211_5, .string ((rd_T38 l0 x17_1).f4.f2), .string ((rd_T38 l0 x17_1).f5), .bool ((rd_T38 l0 x17_1).f6)] 38 (0, 0)) (by (with_reducible repeat (first | refine blk_drewN ?_ _ | refine blk_drew ?_ | refine blk_alloc ?_ _)); exact put9_ (by (with_reducible repeat (first | refine blk_drewN ?_ _ | refine blk_drew ?_ | refine blk_alloc ?_ _)); exact BK212.out)) hb); have n3_ := Aside0.mk (below_step (by repeat (first | (with_reducible first | exact HB.out | apply below_alloc | apply pw_below_drewN | apply below_drew1 | refine below_set ?_ GE212.out) | exact HB.out)) hb); clear HO_4; clear HO_5; clear BK212; clear HB; have HO_4 := n0_; have HO_5 := n1_; have BK212 := n2_; have HB := n3_; clear n0_ n1_ n2_ n3_; (try clear hb); (try clear hb2); (try clear hk); (try clear hi); obtain ⟨hcz97_0, hcz97_1, hcz97_2, hcz97_3, hcz97_4, hcz97_5, hcz97_6, hcz97_7, hcz97_8⟩ := cells9_ BK212.out; obtain ⟨hfz97_0, hfz97_1, hfz97_2, hfz97_3, hfz97_4, hfz97_5, hfz97_6, hfz97_7, hfz97_8⟩ := frz9_ BK212.out) | (go_at_call 24; (with_reducible refine (filter_shaped.calls k1 ((rd_T38 l0 x17_1).f0) ((rd_T38 l0 x17_1).f1) ((rd_T38 l0 x17_1).f2) ((rd_T38 l0 x17_1).f3) ((rd_T38 l0 x17_1).f4.f0) _ _ ((rd_T38 l0 x17_1).f4.f1) ((rd_T38 l0 x17_1).f4.f2) ((rd_T38 l0 x17_1).f5) ((rd_T38 l0 x17_1).f6) true _ ?side1 ?side2 A17.out).mono ?_); (case side1 => repeat (first | exact (Kd.C_below HR211_5.out HB.out) | exact (Kd.C_below (Aside0.out (by assumption)) HB.out) | (with_reducible refine Kd.C_alloc ?_ _) | (with_reducible refine Kd.C_drewN ?_ _) | (with_reducible refine Kd.C_drew ?_))); (case side2 => first | exact HC211_5.out | exact Aside0.out (by assumption)); rintro e w98 ⟨rfl, hb⟩; have n0_ := Aside0.mk (Kd.R_below (by (with_reducible repeat (first | apply Kd.R_alloc | apply Kd.R_drewN | apply Kd.R_drew)); exact HO_4.out) hb); have n1_ := Aside0.mk (Kd.R_below (by (with_reducible repeat (first | apply Kd.R_alloc | apply Kd.R_drewN | apply Kd.R_drew)); exact HO_5.out) hb); have n2_ := Aside0.mk (blk_below (g := gb212) (o := .cells #[.int .i64 ((rd_T38 l0 x17_1).f0), .int .i64 ((rd_T38 l0 x17_1).f1), .string ((rd_T38 l0 x17_1).f2), .string ((rd_T38 l0 x17_1).f3), .string ((rd_T38 l0 x17_1).f4.f0), .slice A211_5 ((rd_T38 l0 x17_1).f4.f1).length c211_5, .string ((rd_T38 l0 x17_1).f4.f2), .string ((rd_T38 l0 x17_1).f5), .bool ((rd_T38 l0 x17_1).f6)] 38 (0, 0)) (by (with_reducible repeat (first | refine blk_drewN ?_ _ | refine blk_drew ?_ | refine blk_alloc ?_ _)); exact BK212.out) hb); have n3_ := Aside0.mk (below_step (by repeat (first | (with_reducible first | exact HB.out | apply below_alloc | apply pw_below_drewN | apply below_drew1 | refine below_set ?_ GE212.out) | exact HB.out)) hb); clear HO_4; clear HO_5; clear BK212; clear HB; have HO_4 := n0_; have HO_5 := n1_; have BK212 := n2_; have HB := n3_; clear n0_ n1_ n2_ n3_; (try clear hb); (try clear hb2); (try clear hk); (try clear hi); obtain ⟨hcz99_0, hcz99_1, hcz99_2, hcz99_3, hcz99_4, hcz99_5, hcz99_6, hcz99_7, hcz99_8⟩ := cells9_ BK212.out; obtain ⟨hfz99_0, hfz99_1, hfz99_2, hfz99_3, hfz99_4, hfz99_5, hfz99_6, hfz99_7, hfz99_8⟩ := frz9_ BK212.out; obtain ⟨Ao100, co100, eo100⟩ := Kd.R_slice HO_4.out; subst eo100; have q101 : ((ji19) : Int) ≤ ((x4_1.length : Int) : Int) := of_decide_eq_true (by first | (with_reducible assumption) | assumption); obtain ⟨i0101, hi0101, _, hsz101, _⟩ := info_parts info3; have hcut101 := cut_to (P := Tryd.prog) 48 3 .i64 Tryd.underlying48 hi0101 Ao100 x4_1.length co100 (ji19) (of_decide_eq_true (by first | (with_reducible assumption) | assumption)) q101 (Kd.R_reads' HO_4.out).2.1; have hr101 := Kd.R_take (m := ((ji19) : Int).toNat) HO_4.out (by omega); have hy101 : y215.length = ((ji19) : Int).toNat := (by rw [Ny215.out, List.length_take]; omega); rw [← Ny215.out] at hr101; rw [← hy101] at hr101 hcut101; clear hy101 hi0101 hsz101 HO_4; have HO217 := Aside0.mk hr101; clear hr101; replace q101 := eq_true q101) | ((with_reducible refine gate_builtin (b := .append) (xs := #[.tmp 42, .tmp 44]) rfl ?_); (try (refine gate_guard (by rfl) ?_; dsimp only)); at_builtin; refine Kd.R_append (Kd.int .i64) (w0 := w) w.heap.size rfl (.tmp 42) (.tmp 44) 48 3 (.int .i64 0) 8 rfl Tryd.underlying48 info3 rfl (by decide) (by omega) (.slice Ao100 y215.length co100) y215 x17_1 [.int .i64 x17_1] (fun k_ => some k_ ≠ (v209 : Value).ownBlock) (fun _ => False) rfl rfl ?aP (fun _ hk => hk.elim) ?aF ?aO ?aB ?aS ?aL ?_; (case aP => exact rfl); (case aB => exact (by repeat (first | (with_reducible first | exact HB.out | apply below_alloc | apply pw_below_drewN | apply below_drew1 | refine below_set ?_ GE212.out) | exact HB.out))); (case aF => exact (fun k_ hk => Kd.fresh' (Kd.R_lt (by (with_reducible repeat (first | apply Kd.R_alloc | apply Kd.R_drewN | apply Kd.R_drew)); exact HO_5.out)) k_ hk)); (case aO => exact (by (with_reducible repeat (first | apply Kd.R_alloc | apply Kd.R_drewN | apply Kd.R_drew)); exact HO217.out)); (case aS => exact (below_size (by repeat (first | (with_reducible first | exact HB.out | apply below_alloc | apply pw_below_drewN | apply below_drew1 | refine below_set ?_ GE212.out) | exact HB.out)))); (case aL => have := LMc22.out; omega); intro v219 w102 ho hb hg hat; rw [← Ny218.out] at ho; have n0_ := Aside0.mk (Kd.R_after (ok := (fun _ => True)) (by (with_reducible repeat (first | apply Kd.R_alloc | apply Kd.R_drewN | apply Kd.R_drew)); exact Kd.R_mono HO_5.out (fun _ hk => ⟨trivial, by first | exact hk | exact own_any_ hk⟩)) hg hat); have n1_ := Aside0.mk (blk_grown (g := gb212) (o := .cells #[.int .i64 ((rd_T38 l0 x17_1).f0), .int .i64 ((rd_T38 l0 x17_1).f1), .string ((rd_T38 l0 x17_1).f2), .string ((rd_T38 l0 x17_1).f3), .string ((rd_T38 l0 x17_1).f4.f0), .slice A211_5 ((rd_T38 l0 x17_1).f4.f1).length c211_5, .string ((rd_T38 l0 x17_1).f4.f2), .string ((rd_T38 l0 x17_1).f5), .bool ((rd_T38 l0 x17_1).f6)] 38 (0, 0)) (by (with_reducible repeat (first | refine blk_drewN ?_ _ | refine blk_drew ?_ | refine blk_alloc ?_ _)); exact BK212.out) hg (Kd.R_ne HO217.out BK212.out (by decide))); have n2_ := Aside0.mk (hb); have n3_ := Aside0.mk (ho); clear HO_5; clear BK212; clear HB; clear HO217; have HO_5 := n0_; have BK212 := n1_; have HB := n2_; have HO220 := n3_; clear n0_ n1_ n2_ n3_; clear ho hb hg hat; obtain ⟨hcz103_0, hcz103_1, hcz103_2, hcz103_3, hcz103_4, hcz103_5, hcz103_6, hcz103_7, hcz103_8⟩ := cells9_ BK212.out; obtain ⟨hfz103_0, hfz103_1, hfz103_2, hfz103_3, hfz103_4, hfz103_5, hfz103_6, hfz103_7, hfz103_8⟩ := frz9_ BK212.out))))
                 go_roundg k1
                 case measure => have := HK1.out; omega
                 case rel => exact ⟨(y218), (x5_1), (wrap64 (x17_1 + 1)), (by first | rfl | (simp; done) | (simp [*]; done) | (simp [isEmpty_ne_]; done)), H', ⟨by have := HK1.out; omega⟩, ⟨by (with_reducible repeat (first | apply Kd.R_alloc | apply Kd.R_drewN | apply Kd.R_drew)); exact HO220.out⟩, ⟨by (with_reducible repeat (first | apply Kd.R_alloc | apply Kd.R_drewN | apply Kd.R_drew)); exact Kd.R_mono HO_5.out (fun _ hk => hk.2)⟩, ⟨by repeat (first | (with_reducible first | exact HB.out | apply below_alloc | apply pw_below_drewN | apply below_drew1 | refine below_set ?_ GE212.out) | exact HB.out)⟩⟩
              ·rw [if_neg c22] at H
               exact absurd H (by simp)
             ·rw [if_neg c21] at H
              exact absurd H (by simp)
            ·rw [if_neg c20] at H
             exact absurd H (by simp)
           ·replace c18 := Bool.eq_false_iff.mpr c18
            subst c18
            have H1 : (some (120, x17_1)) = some (r1, r2) := by rw [if_neg (show ¬ (false = true) by decide)] at H; exact H
            clear H
            have H := H1
            clear H1
            simp only [Option.some.injEq, Prod.mk.injEq] at H
            obtain ⟨rfl, rfl⟩ := H
            have p211 : 0 ≤ (x17_1 : Int) := of_decide_eq_true (by first | (with_reducible assumption) | assumption)
            have q211 : x17_1 < (l0.length : Int) := of_decide_eq_true (by first | (with_reducible assumption) | assumption)
            obtain ⟨ad211, A211_5, c211_5, e211, hx211_0, hx211_1, hx211_2, hx211_3, hx211_4, hx211_5, hx211_6, hx211_7, hx211_8, hl211_5, hi211_5⟩ := at_T38 HR0.out x17_1 p211 q211
            cases e211
            replace hx211_0 := cellB_ HB.out hx211_0
            replace hx211_1 := cellB_ HB.out hx211_1
            replace hx211_2 := cellB_ HB.out hx211_2
            replace hx211_3 := cellB_ HB.out hx211_3
            replace hx211_4 := cellB_ HB.out hx211_4
            replace hx211_5 := cellB_ HB.out hx211_5
            replace hx211_6 := cellB_ HB.out hx211_6
            replace hx211_7 := cellB_ HB.out hx211_7
            replace hx211_8 := cellB_ HB.out hx211_8
            have HR211_5 := Aside0.mk hi211_5
            have HC211_5 := Aside0.mk hl211_5
            clear hi211_5 hl211_5
            replace p211 := eq_true p211
            replace q211 := eq_true q211
            iterate 9 (try (first | go_quiet (fail) | go_wp2_with (first | ((with_reducible refine gate_dst (N := 7) rfl ?_); (try (refine gate_guard (by rfl) ?_; dsimp only)); refine box_event ?hg (N := 7) ?hd (cs := #[.int .i64 0, .int .i64 0, .string (⟨#[]⟩ : ByteArray), .string (⟨#[]⟩ : ByteArray), .string (⟨#[]⟩ : ByteArray), .slice none 0 0, .string (⟨#[]⟩ : ByteArray), .string (⟨#[]⟩ : ByteArray), .bool false]) (t := 38) ?hr ?_; (case hd => rfl); (case hg => rfl); (case hr => first | (go_simp; done) | (go_simp; rfl)); intro gb212 hg w104 hbox hb; have n0_ := Aside0.mk (Kd.R_below (by (with_reducible repeat (first | apply Kd.R_alloc | apply Kd.R_drewN | apply Kd.R_drew)); exact HO_4.out) hb); have n1_ := Aside0.mk (Kd.R_below (by (with_reducible repeat (first | apply Kd.R_alloc | apply Kd.R_drewN | apply Kd.R_drew)); exact HO_5.out) hb); have n2_ := Aside0.mk (below_step (by repeat (first | (with_reducible first | exact HB.out | apply below_alloc | apply pw_below_drewN | apply below_drew1) | exact HB.out)) hb); have n3_ := Aside0.mk (hbox); have n4_ := Aside0.mk ((by rw [hg]; exact (below_size (by repeat (first | (with_reducible first | exact HB.out | apply below_alloc | apply pw_below_drewN | apply below_drew1) | exact HB.out))) : w.heap.size ≤ gb212)); have n5_ := Aside0.mk ((by rw [hg]; exact (below_size (by repeat (first | (with_reducible first | exact HB.out | apply below_alloc | apply pw_below_drewN | apply below_drew1) | exact HB.out))) : w.heap.size ≤ gb212)); clear HO_4; clear HO_5; clear HB; have HO_4 := n0_; have HO_5 := n1_; have HB := n2_; have BK212 := n3_; have GW212 := n4_; have GE212 := n5_; clear n0_ n1_ n2_ n3_ n4_ n5_; clear hb hbox hg; obtain ⟨hcz105_0, hcz105_1, hcz105_2, hcz105_3, hcz105_4, hcz105_5, hcz105_6, hcz105_7, hcz105_8⟩ := cells9_ BK212.out; obtain ⟨hfz105_0, hfz105_1, hfz105_2, hfz105_3, hfz105_4, hfz105_5, hfz105_6, hfz105_7, hfz105_8⟩ := frz9_ BK212.out) | (go_at_call 23; (with_reducible refine (filter_follows.calls _ _ l0 x17_1 true _ ?side1 ?side2 A10.out).mono ?_); (case side1 => exact Kd.C_below HR0.out (by repeat (first | (with_reducible first | exact HB.out | apply below_alloc | apply pw_below_drewN | apply below_drew1 | refine below_set ?_ GE212.out) | exact HB.out))); (case side2 => exact HC0.out); rintro e w106 ⟨rfl, hb⟩; have n0_ := Aside0.mk (Kd.R_below (by (with_reducible repeat (first | apply Kd.R_alloc | apply Kd.R_drewN | apply Kd.R_drew)); exact (Kd.R_mono (Rfar9_ (g := gb212) (Kd.R_types HO_4.out BK212.out (by decide)) (fun _ hk => hk.2)) (fun _ h_ => h_.1))) hb); have n1_ := Aside0.mk (Kd.R_below (by (with_reducible repeat (first | apply Kd.R_alloc | apply Kd.R_drewN | apply Kd.R_drew)); exact (Kd.R_mono (Rfar9_ (g := gb212) (Kd.R_types HO_5.out BK212.out (by decide)) (fun _ hk => hk.2)) (fun _ h_ => h_.1))) hb); have n2_ := Aside0.mk (blk_below (g := gb212) (o := .cells #[.int .i64 ((rd_T38 l0 x17_1).f0), .int .i64 ((rd_T38 l0 x17_1).f1), .string ((rd_T38 l0 x17_1).f2), .string ((rd_T38 l0 x17_1).f3), .string ((rd_T38 l0 x17_1).f4.f0), .slice A211_5 ((rd_T38 l0 x17_1).f4.f1).length c211_5, .string ((rd_T38 l0 x17_1).f4.f2), .string ((rd_T38 l0 x17_1).f5), .bool ((rd_T38 l0 x17_1).f6)] 38 (0, 0)) (by (with_reducible repeat (first | refine blk_drewN ?_ _ | refine blk_drew ?_ | refine blk_alloc ?_ _)); exact put9_ (by (with_reducible repeat (first | refine blk_drewN ?_ _ | refine blk_drew ?_ | refine blk_alloc ?_ _)); exact BK212.out)) hb); have n3_ := Aside0.mk (below_step (by repeat (first | (with_reducible first | exact HB.out | apply below_alloc | apply pw_below_drewN | apply below_drew1 | refine below_set ?_ GE212.out) | exact HB.out)) hb); clear HO_4; clear HO_5; clear BK212; clear HB; have HO_4 := n0_; have HO_5 := n1_; have BK212 := n2_; have HB := n3_; clear n0_ n1_ n2_ n3_; (try clear hb); (try clear hb2); (try clear hk); (try clear hi); obtain ⟨hcz107_0, hcz107_1, hcz107_2, hcz107_3, hcz107_4, hcz107_5, hcz107_6, hcz107_7, hcz107_8⟩ := cells9_ BK212.out; obtain ⟨hfz107_0, hfz107_1, hfz107_2, hfz107_3, hfz107_4, hfz107_5, hfz107_6, hfz107_7, hfz107_8⟩ := frz9_ BK212.out) | (go_at_call 24; (with_reducible refine (filter_shaped.calls k1 ((rd_T38 l0 x17_1).f0) ((rd_T38 l0 x17_1).f1) ((rd_T38 l0 x17_1).f2) ((rd_T38 l0 x17_1).f3) ((rd_T38 l0 x17_1).f4.f0) _ _ ((rd_T38 l0 x17_1).f4.f1) ((rd_T38 l0 x17_1).f4.f2) ((rd_T38 l0 x17_1).f5) ((rd_T38 l0 x17_1).f6) false _ ?side1 ?side2 A17.out).mono ?_); (case side1 => repeat (first | exact (Kd.C_below HR211_5.out HB.out) | exact (Kd.C_below (Aside0.out (by assumption)) HB.out) | (with_reducible refine Kd.C_alloc ?_ _) | (with_reducible refine Kd.C_drewN ?_ _) | (with_reducible refine Kd.C_drew ?_))); (case side2 => first | exact HC211_5.out | exact Aside0.out (by assumption)); rintro e w108 ⟨rfl, hb⟩; have n0_ := Aside0.mk (Kd.R_below (by (with_reducible repeat (first | apply Kd.R_alloc | apply Kd.R_drewN | apply Kd.R_drew)); exact HO_4.out) hb); have n1_ := Aside0.mk (Kd.R_below (by (with_reducible repeat (first | apply Kd.R_alloc | apply Kd.R_drewN | apply Kd.R_drew)); exact HO_5.out) hb); have n2_ := Aside0.mk (blk_below (g := gb212) (o := .cells #[.int .i64 ((rd_T38 l0 x17_1).f0), .int .i64 ((rd_T38 l0 x17_1).f1), .string ((rd_T38 l0 x17_1).f2), .string ((rd_T38 l0 x17_1).f3), .string ((rd_T38 l0 x17_1).f4.f0), .slice A211_5 ((rd_T38 l0 x17_1).f4.f1).length c211_5, .string ((rd_T38 l0 x17_1).f4.f2), .string ((rd_T38 l0 x17_1).f5), .bool ((rd_T38 l0 x17_1).f6)] 38 (0, 0)) (by (with_reducible repeat (first | refine blk_drewN ?_ _ | refine blk_drew ?_ | refine blk_alloc ?_ _)); exact BK212.out) hb); have n3_ := Aside0.mk (below_step (by repeat (first | (with_reducible first | exact HB.out | apply below_alloc | apply pw_below_drewN | apply below_drew1 | refine below_set ?_ GE212.out) | exact HB.out)) hb); clear HO_4; clear HO_5; clear BK212; clear HB; have HO_4 := n0_; have HO_5 := n1_; have BK212 := n2_; have HB := n3_; clear n0_ n1_ n2_ n3_; (try clear hb); (try clear hb2); (try clear hk); (try clear hi)))))
            go_ret2
            exact ⟨by first | rfl | (simp [isEmpty_ne_]; done) | (simp [*, errW_none, errW_some] <;> rfl), by repeat (first | (with_reducible first | exact HB.out | apply below_alloc | apply pw_below_drewN | apply below_drew1 | refine below_set ?_ GE212.out) | exact HB.out)⟩
         ·replace c11 := Bool.eq_false_iff.mpr c11
          subst c11
          have H1 : (some (120, x17_1)) = some (r1, r2) := by rw [if_neg (show ¬ (false = true) by decide)] at H; exact H
          clear H
          have H := H1
          clear H1
          simp only [Option.some.injEq, Prod.mk.injEq] at H
          obtain ⟨rfl, rfl⟩ := H
          have p211 : 0 ≤ (x17_1 : Int) := of_decide_eq_true (by first | (with_reducible assumption) | assumption)
          have q211 : x17_1 < (l0.length : Int) := of_decide_eq_true (by first | (with_reducible assumption) | assumption)
          obtain ⟨ad211, A211_5, c211_5, e211, hx211_0, hx211_1, hx211_2, hx211_3, hx211_4, hx211_5, hx211_6, hx211_7, hx211_8, hl211_5, hi211_5⟩ := at_T38 HR0.out x17_1 p211 q211
          cases e211
          replace hx211_0 := cellB_ HB.out hx211_0
          replace hx211_1 := cellB_ HB.out hx211_1
          replace hx211_2 := cellB_ HB.out hx211_2
          replace hx211_3 := cellB_ HB.out hx211_3
          replace hx211_4 := cellB_ HB.out hx211_4
          replace hx211_5 := cellB_ HB.out hx211_5
          replace hx211_6 := cellB_ HB.out hx211_6
          replace hx211_7 := cellB_ HB.out hx211_7
          replace hx211_8 := cellB_ HB.out hx211_8
          have HR211_5 := Aside0.mk hi211_5
          have HC211_5 := Aside0.mk hl211_5
          clear hi211_5 hl211_5
          replace p211 := eq_true p211
          replace q211 := eq_true q211
          iterate 9 (try (first | go_quiet (fail) | go_wp2_with (first | ((with_reducible refine gate_dst (N := 7) rfl ?_); (try (refine gate_guard (by rfl) ?_; dsimp only)); refine box_event ?hg (N := 7) ?hd (cs := #[.int .i64 0, .int .i64 0, .string (⟨#[]⟩ : ByteArray), .string (⟨#[]⟩ : ByteArray), .string (⟨#[]⟩ : ByteArray), .slice none 0 0, .string (⟨#[]⟩ : ByteArray), .string (⟨#[]⟩ : ByteArray), .bool false]) (t := 38) ?hr ?_; (case hd => rfl); (case hg => rfl); (case hr => first | (go_simp; done) | (go_simp; rfl)); intro gb212 hg w109 hbox hb; have n0_ := Aside0.mk (Kd.R_below (by (with_reducible repeat (first | apply Kd.R_alloc | apply Kd.R_drewN | apply Kd.R_drew)); exact HO_4.out) hb); have n1_ := Aside0.mk (Kd.R_below (by (with_reducible repeat (first | apply Kd.R_alloc | apply Kd.R_drewN | apply Kd.R_drew)); exact HO_5.out) hb); have n2_ := Aside0.mk (below_step (by repeat (first | (with_reducible first | exact HB.out | apply below_alloc | apply pw_below_drewN | apply below_drew1) | exact HB.out)) hb); have n3_ := Aside0.mk (hbox); have n4_ := Aside0.mk ((by rw [hg]; exact (below_size (by repeat (first | (with_reducible first | exact HB.out | apply below_alloc | apply pw_below_drewN | apply below_drew1) | exact HB.out))) : w.heap.size ≤ gb212)); have n5_ := Aside0.mk ((by rw [hg]; exact (below_size (by repeat (first | (with_reducible first | exact HB.out | apply below_alloc | apply pw_below_drewN | apply below_drew1) | exact HB.out))) : w.heap.size ≤ gb212)); clear HO_4; clear HO_5; clear HB; have HO_4 := n0_; have HO_5 := n1_; have HB := n2_; have BK212 := n3_; have GW212 := n4_; have GE212 := n5_; clear n0_ n1_ n2_ n3_ n4_ n5_; clear hb hbox hg; obtain ⟨hcz110_0, hcz110_1, hcz110_2, hcz110_3, hcz110_4, hcz110_5, hcz110_6, hcz110_7, hcz110_8⟩ := cells9_ BK212.out; obtain ⟨hfz110_0, hfz110_1, hfz110_2, hfz110_3, hfz110_4, hfz110_5, hfz110_6, hfz110_7, hfz110_8⟩ := frz9_ BK212.out) | (go_at_call 23; (with_reducible refine (filter_follows.calls _ _ l0 x17_1 false _ ?side1 ?side2 A10.out).mono ?_); (case side1 => exact Kd.C_below HR0.out (by repeat (first | (with_reducible first | exact HB.out | apply below_alloc | apply pw_below_drewN | apply below_drew1 | refine below_set ?_ GE212.out) | exact HB.out))); (case side2 => exact HC0.out); rintro e w111 ⟨rfl, hb⟩; have n0_ := Aside0.mk (Kd.R_below (by (with_reducible repeat (first | apply Kd.R_alloc | apply Kd.R_drewN | apply Kd.R_drew)); exact (Kd.R_mono (Rfar9_ (g := gb212) (Kd.R_types HO_4.out BK212.out (by decide)) (fun _ hk => hk.2)) (fun _ h_ => h_.1))) hb); have n1_ := Aside0.mk (Kd.R_below (by (with_reducible repeat (first | apply Kd.R_alloc | apply Kd.R_drewN | apply Kd.R_drew)); exact (Kd.R_mono (Rfar9_ (g := gb212) (Kd.R_types HO_5.out BK212.out (by decide)) (fun _ hk => hk.2)) (fun _ h_ => h_.1))) hb); have n2_ := Aside0.mk (blk_below (g := gb212) (o := .cells #[.int .i64 ((rd_T38 l0 x17_1).f0), .int .i64 ((rd_T38 l0 x17_1).f1), .string ((rd_T38 l0 x17_1).f2), .string ((rd_T38 l0 x17_1).f3), .string ((rd_T38 l0 x17_1).f4.f0), .slice A211_5 ((rd_T38 l0 x17_1).f4.f1).length c211_5, .string ((rd_T38 l0 x17_1).f4.f2), .string ((rd_T38 l0 x17_1).f5), .bool ((rd_T38 l0 x17_1).f6)] 38 (0, 0)) (by (with_reducible repeat (first | refine blk_drewN ?_ _ | refine blk_drew ?_ | refine blk_alloc ?_ _)); exact put9_ (by (with_reducible repeat (first | refine blk_drewN ?_ _ | refine blk_drew ?_ | refine blk_alloc ?_ _)); exact BK212.out)) hb); have n3_ := Aside0.mk (below_step (by repeat (first | (with_reducible first | exact HB.out | apply below_alloc | apply pw_below_drewN | apply below_drew1 | refine below_set ?_ GE212.out) | exact HB.out)) hb); clear HO_4; clear HO_5; clear BK212; clear HB; have HO_4 := n0_; have HO_5 := n1_; have BK212 := n2_; have HB := n3_; clear n0_ n1_ n2_ n3_; (try clear hb); (try clear hb2); (try clear hk); (try clear hi)))))
          go_ret2
          exact ⟨by first | rfl | (simp [isEmpty_ne_]; done) | (simp [*, errW_none, errW_some] <;> rfl), by repeat (first | (with_reducible first | exact HB.out | apply below_alloc | apply pw_below_drewN | apply below_drew1 | refine below_set ?_ GE212.out) | exact HB.out)⟩
        ·rw [if_neg c9] at H
         exact absurd H (by simp)
       ·rw [if_neg c8] at H
        exact absurd H (by simp)
      ·rw [if_neg c7] at H
       have c7b0 : decide (x17_1 < (l0.length : Int)) = false := decide_eq_false c7
       clear c7
       simp only [Option.some.injEq, Prod.mk.injEq] at H
       obtain ⟨rfl, rfl⟩ := H
       go_wp2
       repeat (go_quiet (fail); try go_wp2)
       go_ret2
       exact ⟨by first | rfl | (simp [isEmpty_ne_]; done) | (simp [*, errW_none, errW_some] <;> rfl), by repeat (first | (with_reducible first | exact HB.out | apply below_alloc | apply pw_below_drewN | apply below_drew1) | exact HB.out)⟩
   ·rw [if_neg c4] at H
    exact absurd H (by simp)
  ·rw [if_neg c3] at H
   exact absurd H (by simp)

end Go.Proofs.YtaimjacpenofpaaDoor.GC
