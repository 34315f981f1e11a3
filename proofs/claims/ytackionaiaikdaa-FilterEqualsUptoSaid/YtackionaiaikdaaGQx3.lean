-- Written for this claim by a program of this session (wip/tools/p2.py).
import Derived.Test.YtackionaiaikdaaGQx0
import Derived.Test.YtackionaiaikdaaGQx1
import Derived.Test.YtackionaiaikdaaGQx2
namespace Go.Proofs.Ytackionaiaikdaa.GQ
open Go.RowKit Go.Proofs.YtackionaiaikdaaW.PrintWords Go.Proofs.YtackionaiaikdaaW.PrintLast Go.Proofs.YtackionaiaikdaaW.PrintMore
attribute [local go_sem] max2_int min2_int max_two min_two max_three min_three max_four min_four   -- for this text's walks alone
set_option linter.unusedVariables false
set_option linter.unusedSimpArgs false

/-! ### rosterref12_Equal: function 5 -/
def rosterref12_Equal.l0 : Nat → List (S31) → List (S31) → Int → Option (Bool)
  | 0, _, _, _ => none
  | k + 1, x0, x1, x5 => if x5 < (x0.length : Int) then (if 0 ≤ x5 then (if x5 < (x1.length : Int) then ((rosterref12_sameNode.f k ((rd_T31 x0 x5).f0) ((rd_T31 x0 x5).f1) ((rd_T31 x0 x5).f2) ((rd_T31 x0 x5).f3) ((rd_T31 x0 x5).f4.f0) ((rd_T31 x0 x5).f4.f1) ((rd_T31 x0 x5).f4.f2) ((rd_T31 x0 x5).f5) ((rd_T31 x0 x5).f6) ((rd_T31 x1 x5).f0) ((rd_T31 x1 x5).f1) ((rd_T31 x1 x5).f2) ((rd_T31 x1 x5).f3) ((rd_T31 x1 x5).f4.f0) ((rd_T31 x1 x5).f4.f1) ((rd_T31 x1 x5).f4.f2) ((rd_T31 x1 x5).f5) ((rd_T31 x1 x5).f6)).bind fun t107 => (if t107 = true then (rosterref12_Equal.l0 k x0 x1 (wrap64 (x5 + 1))) else (some false))) else (none)) else (none)) else (some true)
def rosterref12_Equal.f (k : Nat) (l0 : List (S31)) (l1 : List (S31)) : Option (Bool) := if (l0.length : Int) = (l1.length : Int) then (rosterref12_Equal.l0 k l0 l1 0) else (some false)
theorem rosterref12_Equal.mono_l : ∀ k, (∀ y0 y1 y2, LeO (rosterref12_Equal.l0 k y0 y1 y2) (rosterref12_Equal.l0 (k + 1) y0 y1 y2))
  | 0 => fun _ _ _ r h => by simp [rosterref12_Equal.l0] at h
  | k + 1 => by
    have ih0 := rosterref12_Equal.mono_l k
    · intro y0 y1 y2
      unfold rosterref12_Equal.l0
      repeat' first
      | (with_reducible exact ih0 _ _ _)
      | (with_reducible exact rosterref12_sameNode.mono _ _ _ _ _ _ _ _ _ _ _ _ _ _ _ _ _ _ _)
      | (with_reducible exact LeO.refl _)
      | (with_reducible exact LeO.none _)
      | (with_reducible refine LeO.ite ?_ ?_)
      | (with_reducible refine LeO.bind ?_ (fun _ => ?_))
      | exact ih0 _ _ _
      | exact rosterref12_sameNode.mono _ _ _ _ _ _ _ _ _ _ _ _ _ _ _ _ _ _ _
      | exact LeO.none _
      | refine LeO.ite ?_ ?_
      | refine LeO.bind ?_ (fun _ => ?_)
theorem rosterref12_Equal.mono : ∀ a0 a1 k, LeO (rosterref12_Equal.f k a0 a1) (rosterref12_Equal.f (k + 1) a0 a1) := by
  intro a0 a1 k
  have ih0 := rosterref12_Equal.mono_l k
  unfold rosterref12_Equal.f
  repeat' first
      | (with_reducible exact ih0 _ _ _)
      | (with_reducible exact rosterref12_sameNode.mono _ _ _ _ _ _ _ _ _ _ _ _ _ _ _ _ _ _ _)
      | (with_reducible exact LeO.refl _)
      | (with_reducible exact LeO.none _)
      | (with_reducible refine LeO.ite ?_ ?_)
      | (with_reducible refine LeO.bind ?_ (fun _ => ?_))
      | exact ih0 _ _ _
      | exact rosterref12_sameNode.mono _ _ _ _ _ _ _ _ _ _ _ _ _ _ _ _ _ _ _
      | exact LeO.none _
      | refine LeO.ite ?_ ?_
      | refine LeO.bind ?_ (fun _ => ?_)
def rosterref12_Equal.T6 : Bool × List (List Nat × List Nat) := (true, [([], []), ([], []), ([0, 1], [0, 1]), ([2], [2]), ([], []), ([], []), ([4, 5], [4, 5]), ([6], [6]), ([3, 7], [3, 7]), ([8], [8])])
def rosterref12_Equal.B6 : List Nat := [0, 0, 3, 7, 0, 0, 48, 112, 255, 511]
theorem rosterref12_Equal.tab6 : rtab .any (opsOf Try.f5 6) = rosterref12_Equal.T6 := by kernel_rfl
theorem rosterref12_Equal.bits6 : waitsOk rosterref12_Equal.T6.2 rosterref12_Equal.B6 = true := by kernel_rfl
set_option maxHeartbeats 8000000 in
set_option maxRecDepth 100000 in
theorem rosterref12_Equal.calls (k : Nat) (A0 : Option Addr) (c0 : Nat) (l0 : List (S31)) (A1 : Option Addr) (c1 : Nat) (l1 : List (S31)) (r : Bool) (w : World) (hr0 : Kd.C k31 w A0 l0.length l0) (hc0 : l0.length ≤ c0) (hr1 : Kd.C k31 w A1 l1.length l1) (hc1 : l1.length ≤ c1) (h : rosterref12_Equal.f k l0 l1 = some r) :
    Calls Try.prog 5 #[.slice A0 l0.length c0, .slice A1 l1.length c1] w fun e w' => e = .returned (.bool r) ∧ Below w.heap.size w w' := by
  have hu31 := Try.underlying31
  have HR0 := Aside0.mk hr0
  have HC0 := Aside0.mk hc0
  clear hr0 hc0
  have HR1 := Aside0.mk hr1
  have HC1 := Aside0.mk hc1
  clear hr1 hc1
  have HB := Aside0.mk (Below.refl w.heap.size w)
  have H : (if (l0.length : Int) = (l1.length : Int) then (rosterref12_Equal.l0 k l0 l1 0) else (some false)) = some r := h
  clear h
  by_cases c3 : (l0.length : Int) = (l1.length : Int)
  · rw [if_pos c3] at H
    have c3b0 : ((l0.length : Int) == (l1.length : Int)) = true := beq_iff_eq.mpr c3
    have c3b1 : ((l0.length : Int) != (l1.length : Int)) = false := bne_eq_false_iff_eq.mpr c3
    have c3b2 : (l0.length == l1.length) = true := by first | simpa using c3 | (simp at c3 ⊢; omega)
    clear c3
    have H' := Aside0.mk H
    clear H
    go_enter Try.func5, Try.ntmps5
    go_wp2
    go_loopg [5] k (fun kq v5 w' => ∃ (x5_1 : Int), v5 = .int .i64 x5_1 ∧ Aside0 (rosterref12_Equal.l0 kq l0 l1 x5_1 = some r) ∧ Aside0 (kq ≤ k) ∧ Aside0 (Below w.heap.size w w'))
    case atStart => exact ⟨(0), (by first | rfl | (simp; done) | (simp [*]; done) | (simp [show ∀ l_ : List UInt8, l_.isEmpty = !(l_ != []) from fun l_ => by cases l_ <;> rfl]; done)), H', ⟨Nat.le_refl _⟩, ⟨by repeat (first | (with_reducible first | exact HB.out | apply below_alloc | apply pw_below_drewN | apply below_drew1) | exact HB.out)⟩⟩
    case round =>
      clear H'
      try clear c1
      try clear p2
      try clear c3
      try clear c3b0
      try clear c3b1
      try clear c3b2
      obtain ⟨x5_1, rfl, HA, HK1, HB⟩ := hrel
      cases gk with
      | zero => exact absurd HA.out (by simp [rosterref12_Equal.l0])
      | succ k1 =>
        have H := HA.out
        clear HA
        simp only [rosterref12_Equal.l0] at H
        by_cases c4 : x5_1 < (l0.length : Int)
        · rw [if_pos c4] at H
          have c4b0 : decide (x5_1 < (l0.length : Int)) = true := decide_eq_true c4
          clear c4
          by_cases c5 : 0 ≤ x5_1
          · rw [if_pos c5] at H
            have c5b0 : decide (0 ≤ x5_1) = true := decide_eq_true c5
            clear c5
            by_cases c6 : x5_1 < (l1.length : Int)
            · rw [if_pos c6] at H
              have c6b0 : decide (x5_1 < (l1.length : Int)) = true := decide_eq_true c6
              clear c6
              replace H := Option.bind_eq_some_iff.mp H
              obtain ⟨t107, A70, H⟩ := H
              replace H : (if t107 = true then (rosterref12_Equal.l0 k1 l0 l1 (wrap64 (x5_1 + 1))) else (some false)) = some r := H
              have A7 := Aside0.mk A70
              clear A70
              by_cases c8 : t107 = true
              · subst c8
                have H1 : (rosterref12_Equal.l0 k1 l0 l1 (wrap64 (x5_1 + 1))) = some r := by rw [if_pos rfl] at H; exact H
                clear H
                have H := H1
                clear H1
                have H' := Aside0.mk H
                clear H
                try go_wp2
                have n0_ := Aside0.mk (below_drew1 HB.out)
                clear HB
                have HB := n0_
                clear n0_
                have p105 : 0 ≤ (x5_1 : Int) := of_decide_eq_true (by first | (with_reducible assumption) | assumption)
                have q105 : x5_1 < (l0.length : Int) := of_decide_eq_true (by first | (with_reducible assumption) | assumption)
                obtain ⟨ad105, A105_5, c105_5, e105, hx105_0, hx105_1, hx105_2, hx105_3, hx105_4, hx105_5, hx105_6, hx105_7, hx105_8, hl105_5, hi105_5⟩ := at_T31 HR0.out x5_1 p105 q105
                have hw105_8 := hx105_8
                have hw105_7 := hx105_7
                have hw105_6 := hx105_6
                have hw105_5 := hx105_5
                have hw105_4 := hx105_4
                have hw105_3 := hx105_3
                have hw105_2 := hx105_2
                have hw105_1 := hx105_1
                have hw105_0 := hx105_0
                cases e105
                replace hx105_0 := (HB.out.cell (World.block_lt_of_cell? w _ hx105_0)).trans hx105_0
                replace hx105_1 := (HB.out.cell (World.block_lt_of_cell? w _ hx105_1)).trans hx105_1
                replace hx105_2 := (HB.out.cell (World.block_lt_of_cell? w _ hx105_2)).trans hx105_2
                replace hx105_3 := (HB.out.cell (World.block_lt_of_cell? w _ hx105_3)).trans hx105_3
                replace hx105_4 := (HB.out.cell (World.block_lt_of_cell? w _ hx105_4)).trans hx105_4
                replace hx105_5 := (HB.out.cell (World.block_lt_of_cell? w _ hx105_5)).trans hx105_5
                replace hx105_6 := (HB.out.cell (World.block_lt_of_cell? w _ hx105_6)).trans hx105_6
                replace hx105_7 := (HB.out.cell (World.block_lt_of_cell? w _ hx105_7)).trans hx105_7
                replace hx105_8 := (HB.out.cell (World.block_lt_of_cell? w _ hx105_8)).trans hx105_8
                have HR105_5 := Aside0.mk hi105_5
                have HC105_5 := Aside0.mk hl105_5
                clear hi105_5 hl105_5
                replace p105 := eq_true p105
                replace q105 := eq_true q105
                have p106 : 0 ≤ (x5_1 : Int) := of_decide_eq_true (by first | (with_reducible assumption) | assumption)
                have q106 : x5_1 < (l1.length : Int) := of_decide_eq_true (by first | (with_reducible assumption) | assumption)
                obtain ⟨ad106, A106_5, c106_5, e106, hx106_0, hx106_1, hx106_2, hx106_3, hx106_4, hx106_5, hx106_6, hx106_7, hx106_8, hl106_5, hi106_5⟩ := at_T31 HR1.out x5_1 p106 q106
                have hw106_8 := hx106_8
                have hw106_7 := hx106_7
                have hw106_6 := hx106_6
                have hw106_5 := hx106_5
                have hw106_4 := hx106_4
                have hw106_3 := hx106_3
                have hw106_2 := hx106_2
                have hw106_1 := hx106_1
                have hw106_0 := hx106_0
                cases e106
                replace hx106_0 := (HB.out.cell (World.block_lt_of_cell? w _ hx106_0)).trans hx106_0
                replace hx106_1 := (HB.out.cell (World.block_lt_of_cell? w _ hx106_1)).trans hx106_1
                replace hx106_2 := (HB.out.cell (World.block_lt_of_cell? w _ hx106_2)).trans hx106_2
                replace hx106_3 := (HB.out.cell (World.block_lt_of_cell? w _ hx106_3)).trans hx106_3
                replace hx106_4 := (HB.out.cell (World.block_lt_of_cell? w _ hx106_4)).trans hx106_4
                replace hx106_5 := (HB.out.cell (World.block_lt_of_cell? w _ hx106_5)).trans hx106_5
                replace hx106_6 := (HB.out.cell (World.block_lt_of_cell? w _ hx106_6)).trans hx106_6
                replace hx106_7 := (HB.out.cell (World.block_lt_of_cell? w _ hx106_7)).trans hx106_7
                replace hx106_8 := (HB.out.cell (World.block_lt_of_cell? w _ hx106_8)).trans hx106_8
                have HR106_5 := Aside0.mk hi106_5
                have HC106_5 := Aside0.mk hl106_5
                clear hi106_5 hl106_5
                replace p106 := eq_true p106
                replace q106 := eq_true q106
                refine start_ (n := 10) (S := fun w' => w'.cell? (ad105.add ((x5_1).toNat * 9)) = some (.int .i64 ((rd_T31 l0 x5_1).f0)) ∧ w'.cell? ⟨(ad105.add ((x5_1).toNat * 9)).block, (ad105.add ((x5_1).toNat * 9)).off + 1, none⟩ = some (.int .i64 ((rd_T31 l0 x5_1).f1)) ∧ w'.cell? ⟨(ad105.add ((x5_1).toNat * 9)).block, (ad105.add ((x5_1).toNat * 9)).off + 2, none⟩ = some (.string ((rd_T31 l0 x5_1).f2)) ∧ w'.cell? ⟨(ad105.add ((x5_1).toNat * 9)).block, (ad105.add ((x5_1).toNat * 9)).off + 3, none⟩ = some (.string ((rd_T31 l0 x5_1).f3)) ∧ w'.cell? ⟨(ad105.add ((x5_1).toNat * 9)).block, (ad105.add ((x5_1).toNat * 9)).off + 4, none⟩ = some (.string ((rd_T31 l0 x5_1).f4.f0)) ∧ w'.cell? ⟨(ad105.add ((x5_1).toNat * 9)).block, (ad105.add ((x5_1).toNat * 9)).off + 5, none⟩ = some (.slice A105_5 ((rd_T31 l0 x5_1).f4.f1).length c105_5) ∧ w'.cell? ⟨(ad105.add ((x5_1).toNat * 9)).block, (ad105.add ((x5_1).toNat * 9)).off + 6, none⟩ = some (.string ((rd_T31 l0 x5_1).f4.f2)) ∧ w'.cell? ⟨(ad105.add ((x5_1).toNat * 9)).block, (ad105.add ((x5_1).toNat * 9)).off + 7, none⟩ = some (.string ((rd_T31 l0 x5_1).f5)) ∧ w'.cell? ⟨(ad105.add ((x5_1).toNat * 9)).block, (ad105.add ((x5_1).toNat * 9)).off + 8, none⟩ = some (.bool ((rd_T31 l0 x5_1).f6)) ∧ w'.cell? (ad106.add ((x5_1).toNat * 9)) = some (.int .i64 ((rd_T31 l1 x5_1).f0)) ∧ w'.cell? ⟨(ad106.add ((x5_1).toNat * 9)).block, (ad106.add ((x5_1).toNat * 9)).off + 1, none⟩ = some (.int .i64 ((rd_T31 l1 x5_1).f1)) ∧ w'.cell? ⟨(ad106.add ((x5_1).toNat * 9)).block, (ad106.add ((x5_1).toNat * 9)).off + 2, none⟩ = some (.string ((rd_T31 l1 x5_1).f2)) ∧ w'.cell? ⟨(ad106.add ((x5_1).toNat * 9)).block, (ad106.add ((x5_1).toNat * 9)).off + 3, none⟩ = some (.string ((rd_T31 l1 x5_1).f3)) ∧ w'.cell? ⟨(ad106.add ((x5_1).toNat * 9)).block, (ad106.add ((x5_1).toNat * 9)).off + 4, none⟩ = some (.string ((rd_T31 l1 x5_1).f4.f0)) ∧ w'.cell? ⟨(ad106.add ((x5_1).toNat * 9)).block, (ad106.add ((x5_1).toNat * 9)).off + 5, none⟩ = some (.slice A106_5 ((rd_T31 l1 x5_1).f4.f1).length c106_5) ∧ w'.cell? ⟨(ad106.add ((x5_1).toNat * 9)).block, (ad106.add ((x5_1).toNat * 9)).off + 6, none⟩ = some (.string ((rd_T31 l1 x5_1).f4.f2)) ∧ w'.cell? ⟨(ad106.add ((x5_1).toNat * 9)).block, (ad106.add ((x5_1).toNat * 9)).off + 7, none⟩ = some (.string ((rd_T31 l1 x5_1).f5)) ∧ w'.cell? ⟨(ad106.add ((x5_1).toNat * 9)).block, (ad106.add ((x5_1).toNat * 9)).off + 8, none⟩ = some (.bool ((rd_T31 l1 x5_1).f6))) (ds := []) #[false, false, false, false, false, false, false, false, false, false] (by kernel_rfl) rfl rfl ⟨((HB.out.cell (World.block_lt_of_cell? w _ hw105_0)).trans hw105_0), ((HB.out.cell (World.block_lt_of_cell? w _ hw105_1)).trans hw105_1), ((HB.out.cell (World.block_lt_of_cell? w _ hw105_2)).trans hw105_2), ((HB.out.cell (World.block_lt_of_cell? w _ hw105_3)).trans hw105_3), ((HB.out.cell (World.block_lt_of_cell? w _ hw105_4)).trans hw105_4), ((HB.out.cell (World.block_lt_of_cell? w _ hw105_5)).trans hw105_5), ((HB.out.cell (World.block_lt_of_cell? w _ hw105_6)).trans hw105_6), ((HB.out.cell (World.block_lt_of_cell? w _ hw105_7)).trans hw105_7), ((HB.out.cell (World.block_lt_of_cell? w _ hw105_8)).trans hw105_8), ((HB.out.cell (World.block_lt_of_cell? w _ hw106_0)).trans hw106_0), ((HB.out.cell (World.block_lt_of_cell? w _ hw106_1)).trans hw106_1), ((HB.out.cell (World.block_lt_of_cell? w _ hw106_2)).trans hw106_2), ((HB.out.cell (World.block_lt_of_cell? w _ hw106_3)).trans hw106_3), ((HB.out.cell (World.block_lt_of_cell? w _ hw106_4)).trans hw106_4), ((HB.out.cell (World.block_lt_of_cell? w _ hw106_5)).trans hw106_5), ((HB.out.cell (World.block_lt_of_cell? w _ hw106_6)).trans hw106_6), ((HB.out.cell (World.block_lt_of_cell? w _ hw106_7)).trans hw106_7), ((HB.out.cell (World.block_lt_of_cell? w _ hw106_8)).trans hw106_8)⟩ (fun hHeld => ?_); refine with_tabW rosterref12_Equal.tab6 rosterref12_Equal.bits6 (fun HT_ HW_ => ?_)
                generalize wr.drew = w9 at HB HR105_5 HR106_5 hx105_0 hx105_1 hx105_2 hx105_3 hx105_4 hx105_5 hx105_6 hx105_7 hx105_8 hx106_0 hx106_1 hx106_2 hx106_3 hx106_4 hx106_5 hx106_6 hx106_7 hx106_8 hHeld ⊢
                refine pure_ (i := 0) (N := some 17) (v := ?_) (a' := ?_) #[true, false, false, false, false, false, false, false, false, false] rfl rfl (any_of HT_.out (by kernel_rfl)) (fun _ _ _ h => h) (Or.inl ⟨by rfl, ?_⟩) ?_ ?_
                rotate_left
                · intro w'
                  go_simp
                  with_reducible rfl
                rotate_left
                · simp only [Act.put, List.setIfInBounds_toArray, List.set_cons_zero, List.set_cons_succ, i64_w, i32_w]
                  rfl
                refine pure_ (i := 1) (N := some 18) (v := ?_) (a' := ?_) #[true, true, false, false, false, false, false, false, false, false] rfl rfl (any_of HT_.out (by kernel_rfl)) (fun _ _ _ h => h) (Or.inl ⟨by rfl, ?_⟩) ?_ ?_
                rotate_left
                · intro w'
                  go_simp
                  with_reducible rfl
                rotate_left
                · simp only [Act.put, List.setIfInBounds_toArray, List.set_cons_zero, List.set_cons_succ, i64_w, i32_w]
                  rfl
                refine pure_ (i := 2) (N := some 19) (v := ?_) (a' := ?_) #[true, true, true, false, false, false, false, false, false, false] rfl rfl (any_of HT_.out (by kernel_rfl)) (fun _ _ _ h => h) (Or.inl ⟨by rfl, ?_⟩) ?_ ?_
                rotate_left
                · intro w'
                  go_simp
                  with_reducible rfl
                rotate_left
                · simp only [Act.put, List.setIfInBounds_toArray, List.set_cons_zero, List.set_cons_succ, i64_w, i32_w]
                  rfl
                refine pure_ (i := 4) (N := some 21) (v := ?_) (a' := ?_) #[true, true, true, false, true, false, false, false, false, false] rfl rfl (any_of HT_.out (by kernel_rfl)) (fun _ _ _ h => h) (Or.inl ⟨by rfl, ?_⟩) ?_ ?_
                rotate_left
                · intro w'
                  go_simp
                  with_reducible rfl
                rotate_left
                · simp only [Act.put, List.setIfInBounds_toArray, List.set_cons_zero, List.set_cons_succ, i64_w, i32_w]
                  rfl
                refine pure_ (i := 5) (N := some 22) (v := ?_) (a' := ?_) #[true, true, true, false, true, true, false, false, false, false] rfl rfl (any_of HT_.out (by kernel_rfl)) (fun _ _ _ h => h) (Or.inl ⟨by rfl, ?_⟩) ?_ ?_
                rotate_left
                · intro w'
                  go_simp
                  with_reducible rfl
                rotate_left
                · simp only [Act.put, List.setIfInBounds_toArray, List.set_cons_zero, List.set_cons_succ, i64_w, i32_w]
                  rfl
                refine pure_ (i := 6) (N := some 23) (v := ?_) (a' := ?_) #[true, true, true, false, true, true, true, false, false, false] rfl rfl (any_of HT_.out (by kernel_rfl)) (fun _ _ _ h => h) (Or.inl ⟨by rfl, ?_⟩) ?_ ?_
                rotate_left
                · intro w'
                  go_simp
                  with_reducible rfl
                rotate_left
                · simp only [Act.put, List.setIfInBounds_toArray, List.set_cons_zero, List.set_cons_succ, i64_w, i32_w]
                  rfl
                refine take_ (i := 3) (N := some 20) (v := ?_) (a' := ?_) #[true, true, true, true, true, true, true, false, false, false] rfl rfl (take_ofW HT_.out HW_.out (by kernel_rfl)) (fun _ _ _ h => h) (Or.inl ⟨by rfl, ?_⟩) hHeld ?_ ?_
                rotate_left
                · rintro w' ⟨s0, s1, s2, s3, s4, s5, s6, s7, s8, s9, s10, s11, s12, s13, s14, s15, s16, s17⟩
                  go_simp
                  with_reducible rfl
                rotate_left
                · simp only [Act.put, List.setIfInBounds_toArray, List.set_cons_zero, List.set_cons_succ, i64_w, i32_w]
                  rfl
                refine take_ (i := 7) (N := some 24) (v := ?_) (a' := ?_) #[true, true, true, true, true, true, true, true, false, false] rfl rfl (take_ofW HT_.out HW_.out (by kernel_rfl)) (fun _ _ _ h => h) (Or.inl ⟨by rfl, ?_⟩) hHeld ?_ ?_
                rotate_left
                · rintro w' ⟨s0, s1, s2, s3, s4, s5, s6, s7, s8, s9, s10, s11, s12, s13, s14, s15, s16, s17⟩
                  go_simp
                  with_reducible rfl
                rotate_left
                · simp only [Act.put, List.setIfInBounds_toArray, List.set_cons_zero, List.set_cons_succ, i64_w, i32_w]
                  rfl
                refine one_ (i := 8) (N := some 25) #[true, true, true, true, true, true, true, true, true, false] rfl rfl (one_of HT_.out (by kernel_rfl)) (by decide) (fun K hK => ?_)
                refine goes_ Try.func10 (by kernel_rfl) rfl #[.agg #[.int .i64 ((rd_T31 l0 x5_1).f0), .int .i64 ((rd_T31 l0 x5_1).f1), .string ((rd_T31 l0 x5_1).f2), .string ((rd_T31 l0 x5_1).f3), .string ((rd_T31 l0 x5_1).f4.f0), .slice A105_5 ((rd_T31 l0 x5_1).f4.f1).length c105_5, .string ((rd_T31 l0 x5_1).f4.f2), .string ((rd_T31 l0 x5_1).f5), .bool ((rd_T31 l0 x5_1).f6)], .agg #[.int .i64 ((rd_T31 l1 x5_1).f0), .int .i64 ((rd_T31 l1 x5_1).f1), .string ((rd_T31 l1 x5_1).f2), .string ((rd_T31 l1 x5_1).f3), .string ((rd_T31 l1 x5_1).f4.f0), .slice A106_5 ((rd_T31 l1 x5_1).f4.f1).length c106_5, .string ((rd_T31 l1 x5_1).f4.f2), .string ((rd_T31 l1 x5_1).f5), .bool ((rd_T31 l1 x5_1).f6)]] (by rfl) rfl rfl (by (try simp only [List.map_toArray, List.map_cons, List.map_nil]); first | done | rfl | (simp only [List.length_drop, List.length_take]; rfl)) ?_
                with_reducible refine (rosterref12_sameNode.calls k1 ((rd_T31 l0 x5_1).f0) ((rd_T31 l0 x5_1).f1) ((rd_T31 l0 x5_1).f2) ((rd_T31 l0 x5_1).f3) ((rd_T31 l0 x5_1).f4.f0) _ _ ((rd_T31 l0 x5_1).f4.f1) ((rd_T31 l0 x5_1).f4.f2) ((rd_T31 l0 x5_1).f5) ((rd_T31 l0 x5_1).f6) ((rd_T31 l1 x5_1).f0) ((rd_T31 l1 x5_1).f1) ((rd_T31 l1 x5_1).f2) ((rd_T31 l1 x5_1).f3) ((rd_T31 l1 x5_1).f4.f0) _ _ ((rd_T31 l1 x5_1).f4.f1) ((rd_T31 l1 x5_1).f4.f2) ((rd_T31 l1 x5_1).f5) ((rd_T31 l1 x5_1).f6) true _ ?side1 ?side2 ?side3 ?side4 A7.out).mono ?_
                (case side1 => repeat (first | exact (Kd.C_below HR105_5.out HB.out) | (with_reducible refine Kd.C_alloc ?_ _) | (with_reducible refine Kd.C_drewN ?_ _) | (with_reducible refine Kd.C_drew ?_)))
                (case side2 => exact HC105_5.out)
                (case side3 => repeat (first | exact (Kd.C_below HR106_5.out HB.out) | (with_reducible refine Kd.C_alloc ?_ _) | (with_reducible refine Kd.C_drewN ?_ _) | (with_reducible refine Kd.C_drew ?_)))
                (case side4 => exact HC106_5.out)
                rintro e w10 ⟨rfl, hb⟩
                refine ⟨_, rfl, ?_⟩
                have n0_ := Aside0.mk (below_step (by repeat (first | (with_reducible first | exact HB.out | apply below_alloc | apply pw_below_drewN | apply below_drew1) | exact HB.out)) hb)
                clear HB
                have HB := n0_
                clear n0_
                (try clear hb)
                (try clear hb2)
                (try clear hk)
                (try clear hi)
                refine hK.out _ _ ⟨((HB.out.cell (World.block_lt_of_cell? w _ hw105_0)).trans hw105_0), ((HB.out.cell (World.block_lt_of_cell? w _ hw105_1)).trans hw105_1), ((HB.out.cell (World.block_lt_of_cell? w _ hw105_2)).trans hw105_2), ((HB.out.cell (World.block_lt_of_cell? w _ hw105_3)).trans hw105_3), ((HB.out.cell (World.block_lt_of_cell? w _ hw105_4)).trans hw105_4), ((HB.out.cell (World.block_lt_of_cell? w _ hw105_5)).trans hw105_5), ((HB.out.cell (World.block_lt_of_cell? w _ hw105_6)).trans hw105_6), ((HB.out.cell (World.block_lt_of_cell? w _ hw105_7)).trans hw105_7), ((HB.out.cell (World.block_lt_of_cell? w _ hw105_8)).trans hw105_8), ((HB.out.cell (World.block_lt_of_cell? w _ hw106_0)).trans hw106_0), ((HB.out.cell (World.block_lt_of_cell? w _ hw106_1)).trans hw106_1), ((HB.out.cell (World.block_lt_of_cell? w _ hw106_2)).trans hw106_2), ((HB.out.cell (World.block_lt_of_cell? w _ hw106_3)).trans hw106_3), ((HB.out.cell (World.block_lt_of_cell? w _ hw106_4)).trans hw106_4), ((HB.out.cell (World.block_lt_of_cell? w _ hw106_5)).trans hw106_5), ((HB.out.cell (World.block_lt_of_cell? w _ hw106_6)).trans hw106_6), ((HB.out.cell (World.block_lt_of_cell? w _ hw106_7)).trans hw106_7), ((HB.out.cell (World.block_lt_of_cell? w _ hw106_8)).trans hw106_8)⟩ (fun hHeld => ?_)
                clear hK K
                refine norm_ (a' := ?_) ?_ ?_
                rotate_left
                · show Act.put _ (some 25) _ = _
                  simp only [Act.put, List.setIfInBounds_toArray, List.set_cons_zero, List.set_cons_succ, i64_w, i32_w]
                  rfl
                refine pure_ (i := 9) (N := some 26) (v := ?_) (a' := ?_) #[true, true, true, true, true, true, true, true, true, true] rfl rfl (any_of HT_.out (by kernel_rfl)) (fun _ _ _ h => h) (Or.inl ⟨by rfl, ?_⟩) ?_ ?_
                rotate_left
                · intro w'
                  go_simp
                  with_reducible rfl
                rotate_left
                · simp only [Act.put, List.setIfInBounds_toArray, List.set_cons_zero, List.set_cons_succ, i64_w, i32_w]
                  rfl
                refine done_ (done_of HT_.out (by kernel_rfl)) ?_
                try go_wp2
                go_roundg k1
                case measure => have := HK1.out; omega
                case rel => exact ⟨(wrap64 (x5_1 + 1)), (by first | rfl | (simp; done) | (simp [*]; done) | (simp [show ∀ l_ : List UInt8, l_.isEmpty = !(l_ != []) from fun l_ => by cases l_ <;> rfl]; done)), H', ⟨by have := HK1.out; omega⟩, ⟨by repeat (first | (with_reducible first | exact HB.out | apply below_alloc | apply pw_below_drewN | apply below_drew1) | exact HB.out)⟩⟩
              · replace c8 := Bool.eq_false_iff.mpr c8
                subst c8
                have H1 : (some false) = some r := by rw [if_neg (show ¬ (false = true) by decide)] at H; exact H
                clear H
                have H := H1
                clear H1
                obtain rfl := Option.some.inj H
                try go_wp2
                have n0_ := Aside0.mk (below_drew1 HB.out)
                clear HB
                have HB := n0_
                clear n0_
                have p105 : 0 ≤ (x5_1 : Int) := of_decide_eq_true (by first | (with_reducible assumption) | assumption)
                have q105 : x5_1 < (l0.length : Int) := of_decide_eq_true (by first | (with_reducible assumption) | assumption)
                obtain ⟨ad105, A105_5, c105_5, e105, hx105_0, hx105_1, hx105_2, hx105_3, hx105_4, hx105_5, hx105_6, hx105_7, hx105_8, hl105_5, hi105_5⟩ := at_T31 HR0.out x5_1 p105 q105
                have hw105_8 := hx105_8
                have hw105_7 := hx105_7
                have hw105_6 := hx105_6
                have hw105_5 := hx105_5
                have hw105_4 := hx105_4
                have hw105_3 := hx105_3
                have hw105_2 := hx105_2
                have hw105_1 := hx105_1
                have hw105_0 := hx105_0
                cases e105
                replace hx105_0 := (HB.out.cell (World.block_lt_of_cell? w _ hx105_0)).trans hx105_0
                replace hx105_1 := (HB.out.cell (World.block_lt_of_cell? w _ hx105_1)).trans hx105_1
                replace hx105_2 := (HB.out.cell (World.block_lt_of_cell? w _ hx105_2)).trans hx105_2
                replace hx105_3 := (HB.out.cell (World.block_lt_of_cell? w _ hx105_3)).trans hx105_3
                replace hx105_4 := (HB.out.cell (World.block_lt_of_cell? w _ hx105_4)).trans hx105_4
                replace hx105_5 := (HB.out.cell (World.block_lt_of_cell? w _ hx105_5)).trans hx105_5
                replace hx105_6 := (HB.out.cell (World.block_lt_of_cell? w _ hx105_6)).trans hx105_6
                replace hx105_7 := (HB.out.cell (World.block_lt_of_cell? w _ hx105_7)).trans hx105_7
                replace hx105_8 := (HB.out.cell (World.block_lt_of_cell? w _ hx105_8)).trans hx105_8
                have HR105_5 := Aside0.mk hi105_5
                have HC105_5 := Aside0.mk hl105_5
                clear hi105_5 hl105_5
                replace p105 := eq_true p105
                replace q105 := eq_true q105
                have p106 : 0 ≤ (x5_1 : Int) := of_decide_eq_true (by first | (with_reducible assumption) | assumption)
                have q106 : x5_1 < (l1.length : Int) := of_decide_eq_true (by first | (with_reducible assumption) | assumption)
                obtain ⟨ad106, A106_5, c106_5, e106, hx106_0, hx106_1, hx106_2, hx106_3, hx106_4, hx106_5, hx106_6, hx106_7, hx106_8, hl106_5, hi106_5⟩ := at_T31 HR1.out x5_1 p106 q106
                have hw106_8 := hx106_8
                have hw106_7 := hx106_7
                have hw106_6 := hx106_6
                have hw106_5 := hx106_5
                have hw106_4 := hx106_4
                have hw106_3 := hx106_3
                have hw106_2 := hx106_2
                have hw106_1 := hx106_1
                have hw106_0 := hx106_0
                cases e106
                replace hx106_0 := (HB.out.cell (World.block_lt_of_cell? w _ hx106_0)).trans hx106_0
                replace hx106_1 := (HB.out.cell (World.block_lt_of_cell? w _ hx106_1)).trans hx106_1
                replace hx106_2 := (HB.out.cell (World.block_lt_of_cell? w _ hx106_2)).trans hx106_2
                replace hx106_3 := (HB.out.cell (World.block_lt_of_cell? w _ hx106_3)).trans hx106_3
                replace hx106_4 := (HB.out.cell (World.block_lt_of_cell? w _ hx106_4)).trans hx106_4
                replace hx106_5 := (HB.out.cell (World.block_lt_of_cell? w _ hx106_5)).trans hx106_5
                replace hx106_6 := (HB.out.cell (World.block_lt_of_cell? w _ hx106_6)).trans hx106_6
                replace hx106_7 := (HB.out.cell (World.block_lt_of_cell? w _ hx106_7)).trans hx106_7
                replace hx106_8 := (HB.out.cell (World.block_lt_of_cell? w _ hx106_8)).trans hx106_8
                have HR106_5 := Aside0.mk hi106_5
                have HC106_5 := Aside0.mk hl106_5
                clear hi106_5 hl106_5
                replace p106 := eq_true p106
                replace q106 := eq_true q106
                refine start_ (n := 10) (S := fun w' => w'.cell? (ad105.add ((x5_1).toNat * 9)) = some (.int .i64 ((rd_T31 l0 x5_1).f0)) ∧ w'.cell? ⟨(ad105.add ((x5_1).toNat * 9)).block, (ad105.add ((x5_1).toNat * 9)).off + 1, none⟩ = some (.int .i64 ((rd_T31 l0 x5_1).f1)) ∧ w'.cell? ⟨(ad105.add ((x5_1).toNat * 9)).block, (ad105.add ((x5_1).toNat * 9)).off + 2, none⟩ = some (.string ((rd_T31 l0 x5_1).f2)) ∧ w'.cell? ⟨(ad105.add ((x5_1).toNat * 9)).block, (ad105.add ((x5_1).toNat * 9)).off + 3, none⟩ = some (.string ((rd_T31 l0 x5_1).f3)) ∧ w'.cell? ⟨(ad105.add ((x5_1).toNat * 9)).block, (ad105.add ((x5_1).toNat * 9)).off + 4, none⟩ = some (.string ((rd_T31 l0 x5_1).f4.f0)) ∧ w'.cell? ⟨(ad105.add ((x5_1).toNat * 9)).block, (ad105.add ((x5_1).toNat * 9)).off + 5, none⟩ = some (.slice A105_5 ((rd_T31 l0 x5_1).f4.f1).length c105_5) ∧ w'.cell? ⟨(ad105.add ((x5_1).toNat * 9)).block, (ad105.add ((x5_1).toNat * 9)).off + 6, none⟩ = some (.string ((rd_T31 l0 x5_1).f4.f2)) ∧ w'.cell? ⟨(ad105.add ((x5_1).toNat * 9)).block, (ad105.add ((x5_1).toNat * 9)).off + 7, none⟩ = some (.string ((rd_T31 l0 x5_1).f5)) ∧ w'.cell? ⟨(ad105.add ((x5_1).toNat * 9)).block, (ad105.add ((x5_1).toNat * 9)).off + 8, none⟩ = some (.bool ((rd_T31 l0 x5_1).f6)) ∧ w'.cell? (ad106.add ((x5_1).toNat * 9)) = some (.int .i64 ((rd_T31 l1 x5_1).f0)) ∧ w'.cell? ⟨(ad106.add ((x5_1).toNat * 9)).block, (ad106.add ((x5_1).toNat * 9)).off + 1, none⟩ = some (.int .i64 ((rd_T31 l1 x5_1).f1)) ∧ w'.cell? ⟨(ad106.add ((x5_1).toNat * 9)).block, (ad106.add ((x5_1).toNat * 9)).off + 2, none⟩ = some (.string ((rd_T31 l1 x5_1).f2)) ∧ w'.cell? ⟨(ad106.add ((x5_1).toNat * 9)).block, (ad106.add ((x5_1).toNat * 9)).off + 3, none⟩ = some (.string ((rd_T31 l1 x5_1).f3)) ∧ w'.cell? ⟨(ad106.add ((x5_1).toNat * 9)).block, (ad106.add ((x5_1).toNat * 9)).off + 4, none⟩ = some (.string ((rd_T31 l1 x5_1).f4.f0)) ∧ w'.cell? ⟨(ad106.add ((x5_1).toNat * 9)).block, (ad106.add ((x5_1).toNat * 9)).off + 5, none⟩ = some (.slice A106_5 ((rd_T31 l1 x5_1).f4.f1).length c106_5) ∧ w'.cell? ⟨(ad106.add ((x5_1).toNat * 9)).block, (ad106.add ((x5_1).toNat * 9)).off + 6, none⟩ = some (.string ((rd_T31 l1 x5_1).f4.f2)) ∧ w'.cell? ⟨(ad106.add ((x5_1).toNat * 9)).block, (ad106.add ((x5_1).toNat * 9)).off + 7, none⟩ = some (.string ((rd_T31 l1 x5_1).f5)) ∧ w'.cell? ⟨(ad106.add ((x5_1).toNat * 9)).block, (ad106.add ((x5_1).toNat * 9)).off + 8, none⟩ = some (.bool ((rd_T31 l1 x5_1).f6))) (ds := []) #[false, false, false, false, false, false, false, false, false, false] (by kernel_rfl) rfl rfl ⟨((HB.out.cell (World.block_lt_of_cell? w _ hw105_0)).trans hw105_0), ((HB.out.cell (World.block_lt_of_cell? w _ hw105_1)).trans hw105_1), ((HB.out.cell (World.block_lt_of_cell? w _ hw105_2)).trans hw105_2), ((HB.out.cell (World.block_lt_of_cell? w _ hw105_3)).trans hw105_3), ((HB.out.cell (World.block_lt_of_cell? w _ hw105_4)).trans hw105_4), ((HB.out.cell (World.block_lt_of_cell? w _ hw105_5)).trans hw105_5), ((HB.out.cell (World.block_lt_of_cell? w _ hw105_6)).trans hw105_6), ((HB.out.cell (World.block_lt_of_cell? w _ hw105_7)).trans hw105_7), ((HB.out.cell (World.block_lt_of_cell? w _ hw105_8)).trans hw105_8), ((HB.out.cell (World.block_lt_of_cell? w _ hw106_0)).trans hw106_0), ((HB.out.cell (World.block_lt_of_cell? w _ hw106_1)).trans hw106_1), ((HB.out.cell (World.block_lt_of_cell? w _ hw106_2)).trans hw106_2), ((HB.out.cell (World.block_lt_of_cell? w _ hw106_3)).trans hw106_3), ((HB.out.cell (World.block_lt_of_cell? w _ hw106_4)).trans hw106_4), ((HB.out.cell (World.block_lt_of_cell? w _ hw106_5)).trans hw106_5), ((HB.out.cell (World.block_lt_of_cell? w _ hw106_6)).trans hw106_6), ((HB.out.cell (World.block_lt_of_cell? w _ hw106_7)).trans hw106_7), ((HB.out.cell (World.block_lt_of_cell? w _ hw106_8)).trans hw106_8)⟩ (fun hHeld => ?_); refine with_tabW rosterref12_Equal.tab6 rosterref12_Equal.bits6 (fun HT_ HW_ => ?_)
                generalize wr.drew = w11 at HB HR105_5 HR106_5 hx105_0 hx105_1 hx105_2 hx105_3 hx105_4 hx105_5 hx105_6 hx105_7 hx105_8 hx106_0 hx106_1 hx106_2 hx106_3 hx106_4 hx106_5 hx106_6 hx106_7 hx106_8 hHeld ⊢
                refine pure_ (i := 0) (N := some 17) (v := ?_) (a' := ?_) #[true, false, false, false, false, false, false, false, false, false] rfl rfl (any_of HT_.out (by kernel_rfl)) (fun _ _ _ h => h) (Or.inl ⟨by rfl, ?_⟩) ?_ ?_
                rotate_left
                · intro w'
                  go_simp
                  with_reducible rfl
                rotate_left
                · simp only [Act.put, List.setIfInBounds_toArray, List.set_cons_zero, List.set_cons_succ, i64_w, i32_w]
                  rfl
                refine pure_ (i := 1) (N := some 18) (v := ?_) (a' := ?_) #[true, true, false, false, false, false, false, false, false, false] rfl rfl (any_of HT_.out (by kernel_rfl)) (fun _ _ _ h => h) (Or.inl ⟨by rfl, ?_⟩) ?_ ?_
                rotate_left
                · intro w'
                  go_simp
                  with_reducible rfl
                rotate_left
                · simp only [Act.put, List.setIfInBounds_toArray, List.set_cons_zero, List.set_cons_succ, i64_w, i32_w]
                  rfl
                refine pure_ (i := 2) (N := some 19) (v := ?_) (a' := ?_) #[true, true, true, false, false, false, false, false, false, false] rfl rfl (any_of HT_.out (by kernel_rfl)) (fun _ _ _ h => h) (Or.inl ⟨by rfl, ?_⟩) ?_ ?_
                rotate_left
                · intro w'
                  go_simp
                  with_reducible rfl
                rotate_left
                · simp only [Act.put, List.setIfInBounds_toArray, List.set_cons_zero, List.set_cons_succ, i64_w, i32_w]
                  rfl
                refine pure_ (i := 4) (N := some 21) (v := ?_) (a' := ?_) #[true, true, true, false, true, false, false, false, false, false] rfl rfl (any_of HT_.out (by kernel_rfl)) (fun _ _ _ h => h) (Or.inl ⟨by rfl, ?_⟩) ?_ ?_
                rotate_left
                · intro w'
                  go_simp
                  with_reducible rfl
                rotate_left
                · simp only [Act.put, List.setIfInBounds_toArray, List.set_cons_zero, List.set_cons_succ, i64_w, i32_w]
                  rfl
                refine pure_ (i := 5) (N := some 22) (v := ?_) (a' := ?_) #[true, true, true, false, true, true, false, false, false, false] rfl rfl (any_of HT_.out (by kernel_rfl)) (fun _ _ _ h => h) (Or.inl ⟨by rfl, ?_⟩) ?_ ?_
                rotate_left
                · intro w'
                  go_simp
                  with_reducible rfl
                rotate_left
                · simp only [Act.put, List.setIfInBounds_toArray, List.set_cons_zero, List.set_cons_succ, i64_w, i32_w]
                  rfl
                refine pure_ (i := 6) (N := some 23) (v := ?_) (a' := ?_) #[true, true, true, false, true, true, true, false, false, false] rfl rfl (any_of HT_.out (by kernel_rfl)) (fun _ _ _ h => h) (Or.inl ⟨by rfl, ?_⟩) ?_ ?_
                rotate_left
                · intro w'
                  go_simp
                  with_reducible rfl
                rotate_left
                · simp only [Act.put, List.setIfInBounds_toArray, List.set_cons_zero, List.set_cons_succ, i64_w, i32_w]
                  rfl
                refine take_ (i := 3) (N := some 20) (v := ?_) (a' := ?_) #[true, true, true, true, true, true, true, false, false, false] rfl rfl (take_ofW HT_.out HW_.out (by kernel_rfl)) (fun _ _ _ h => h) (Or.inl ⟨by rfl, ?_⟩) hHeld ?_ ?_
                rotate_left
                · rintro w' ⟨s0, s1, s2, s3, s4, s5, s6, s7, s8, s9, s10, s11, s12, s13, s14, s15, s16, s17⟩
                  go_simp
                  with_reducible rfl
                rotate_left
                · simp only [Act.put, List.setIfInBounds_toArray, List.set_cons_zero, List.set_cons_succ, i64_w, i32_w]
                  rfl
                refine take_ (i := 7) (N := some 24) (v := ?_) (a' := ?_) #[true, true, true, true, true, true, true, true, false, false] rfl rfl (take_ofW HT_.out HW_.out (by kernel_rfl)) (fun _ _ _ h => h) (Or.inl ⟨by rfl, ?_⟩) hHeld ?_ ?_
                rotate_left
                · rintro w' ⟨s0, s1, s2, s3, s4, s5, s6, s7, s8, s9, s10, s11, s12, s13, s14, s15, s16, s17⟩
                  go_simp
                  with_reducible rfl
                rotate_left
                · simp only [Act.put, List.setIfInBounds_toArray, List.set_cons_zero, List.set_cons_succ, i64_w, i32_w]
                  rfl
                refine one_ (i := 8) (N := some 25) #[true, true, true, true, true, true, true, true, true, false] rfl rfl (one_of HT_.out (by kernel_rfl)) (by decide) (fun K hK => ?_)
                refine goes_ Try.func10 (by kernel_rfl) rfl #[.agg #[.int .i64 ((rd_T31 l0 x5_1).f0), .int .i64 ((rd_T31 l0 x5_1).f1), .string ((rd_T31 l0 x5_1).f2), .string ((rd_T31 l0 x5_1).f3), .string ((rd_T31 l0 x5_1).f4.f0), .slice A105_5 ((rd_T31 l0 x5_1).f4.f1).length c105_5, .string ((rd_T31 l0 x5_1).f4.f2), .string ((rd_T31 l0 x5_1).f5), .bool ((rd_T31 l0 x5_1).f6)], .agg #[.int .i64 ((rd_T31 l1 x5_1).f0), .int .i64 ((rd_T31 l1 x5_1).f1), .string ((rd_T31 l1 x5_1).f2), .string ((rd_T31 l1 x5_1).f3), .string ((rd_T31 l1 x5_1).f4.f0), .slice A106_5 ((rd_T31 l1 x5_1).f4.f1).length c106_5, .string ((rd_T31 l1 x5_1).f4.f2), .string ((rd_T31 l1 x5_1).f5), .bool ((rd_T31 l1 x5_1).f6)]] (by rfl) rfl rfl (by (try simp only [List.map_toArray, List.map_cons, List.map_nil]); first | done | rfl | (simp only [List.length_drop, List.length_take]; rfl)) ?_
                with_reducible refine (rosterref12_sameNode.calls k1 ((rd_T31 l0 x5_1).f0) ((rd_T31 l0 x5_1).f1) ((rd_T31 l0 x5_1).f2) ((rd_T31 l0 x5_1).f3) ((rd_T31 l0 x5_1).f4.f0) _ _ ((rd_T31 l0 x5_1).f4.f1) ((rd_T31 l0 x5_1).f4.f2) ((rd_T31 l0 x5_1).f5) ((rd_T31 l0 x5_1).f6) ((rd_T31 l1 x5_1).f0) ((rd_T31 l1 x5_1).f1) ((rd_T31 l1 x5_1).f2) ((rd_T31 l1 x5_1).f3) ((rd_T31 l1 x5_1).f4.f0) _ _ ((rd_T31 l1 x5_1).f4.f1) ((rd_T31 l1 x5_1).f4.f2) ((rd_T31 l1 x5_1).f5) ((rd_T31 l1 x5_1).f6) false _ ?side1 ?side2 ?side3 ?side4 A7.out).mono ?_
                (case side1 => repeat (first | exact (Kd.C_below HR105_5.out HB.out) | (with_reducible refine Kd.C_alloc ?_ _) | (with_reducible refine Kd.C_drewN ?_ _) | (with_reducible refine Kd.C_drew ?_)))
                (case side2 => exact HC105_5.out)
                (case side3 => repeat (first | exact (Kd.C_below HR106_5.out HB.out) | (with_reducible refine Kd.C_alloc ?_ _) | (with_reducible refine Kd.C_drewN ?_ _) | (with_reducible refine Kd.C_drew ?_)))
                (case side4 => exact HC106_5.out)
                rintro e w12 ⟨rfl, hb⟩
                refine ⟨_, rfl, ?_⟩
                have n0_ := Aside0.mk (below_step (by repeat (first | (with_reducible first | exact HB.out | apply below_alloc | apply pw_below_drewN | apply below_drew1) | exact HB.out)) hb)
                clear HB
                have HB := n0_
                clear n0_
                (try clear hb)
                (try clear hb2)
                (try clear hk)
                (try clear hi)
                refine hK.out _ _ ⟨((HB.out.cell (World.block_lt_of_cell? w _ hw105_0)).trans hw105_0), ((HB.out.cell (World.block_lt_of_cell? w _ hw105_1)).trans hw105_1), ((HB.out.cell (World.block_lt_of_cell? w _ hw105_2)).trans hw105_2), ((HB.out.cell (World.block_lt_of_cell? w _ hw105_3)).trans hw105_3), ((HB.out.cell (World.block_lt_of_cell? w _ hw105_4)).trans hw105_4), ((HB.out.cell (World.block_lt_of_cell? w _ hw105_5)).trans hw105_5), ((HB.out.cell (World.block_lt_of_cell? w _ hw105_6)).trans hw105_6), ((HB.out.cell (World.block_lt_of_cell? w _ hw105_7)).trans hw105_7), ((HB.out.cell (World.block_lt_of_cell? w _ hw105_8)).trans hw105_8), ((HB.out.cell (World.block_lt_of_cell? w _ hw106_0)).trans hw106_0), ((HB.out.cell (World.block_lt_of_cell? w _ hw106_1)).trans hw106_1), ((HB.out.cell (World.block_lt_of_cell? w _ hw106_2)).trans hw106_2), ((HB.out.cell (World.block_lt_of_cell? w _ hw106_3)).trans hw106_3), ((HB.out.cell (World.block_lt_of_cell? w _ hw106_4)).trans hw106_4), ((HB.out.cell (World.block_lt_of_cell? w _ hw106_5)).trans hw106_5), ((HB.out.cell (World.block_lt_of_cell? w _ hw106_6)).trans hw106_6), ((HB.out.cell (World.block_lt_of_cell? w _ hw106_7)).trans hw106_7), ((HB.out.cell (World.block_lt_of_cell? w _ hw106_8)).trans hw106_8)⟩ (fun hHeld => ?_)
                clear hK K
                refine norm_ (a' := ?_) ?_ ?_
                rotate_left
                · show Act.put _ (some 25) _ = _
                  simp only [Act.put, List.setIfInBounds_toArray, List.set_cons_zero, List.set_cons_succ, i64_w, i32_w]
                  rfl
                refine pure_ (i := 9) (N := some 26) (v := ?_) (a' := ?_) #[true, true, true, true, true, true, true, true, true, true] rfl rfl (any_of HT_.out (by kernel_rfl)) (fun _ _ _ h => h) (Or.inl ⟨by rfl, ?_⟩) ?_ ?_
                rotate_left
                · intro w'
                  go_simp
                  with_reducible rfl
                rotate_left
                · simp only [Act.put, List.setIfInBounds_toArray, List.set_cons_zero, List.set_cons_succ, i64_w, i32_w]
                  rfl
                refine done_ (done_of HT_.out (by kernel_rfl)) ?_
                try go_wp2
                go_ret
                exact ⟨by first | rfl | (simp [errW_none, errW_some] <;> rfl) | (simp [*, errW_none, errW_some] <;> rfl), by repeat (first | (with_reducible first | exact HB.out | apply below_alloc | apply pw_below_drewN | apply below_drew1) | exact HB.out)⟩
            · rw [if_neg c6] at H
              exact absurd H (by simp)
          · rw [if_neg c5] at H
            exact absurd H (by simp)
        · rw [if_neg c4] at H
          have c4b0 : decide (x5_1 < (l0.length : Int)) = false := decide_eq_false c4
          clear c4
          obtain rfl := Option.some.inj H
          go_wp2
          go_ret
          exact ⟨by first | rfl | (simp [errW_none, errW_some] <;> rfl) | (simp [*, errW_none, errW_some] <;> rfl), by repeat (first | (with_reducible first | exact HB.out | apply below_alloc | apply pw_below_drewN | apply below_drew1) | exact HB.out)⟩
  · rw [if_neg c3] at H
    have c3b0 : ((l0.length : Int) == (l1.length : Int)) = false := beq_eq_false_iff_ne.mpr c3
    have c3b1 : ((l0.length : Int) != (l1.length : Int)) = true := bne_iff_ne.mpr c3
    have c3b2 : (l0.length == l1.length) = false := by first | simpa using c3 | (simp at c3 ⊢; omega)
    obtain rfl := Option.some.inj H
    go_enter Try.func5, Try.ntmps5
    go_wp2
    go_ret
    exact ⟨by first | rfl | (simp [errW_none, errW_some] <;> rfl) | (simp [*, errW_none, errW_some] <;> rfl), by repeat (first | (with_reducible first | exact HB.out | apply below_alloc | apply pw_below_drewN | apply below_drew1) | exact HB.out)⟩

/-! ### rosterlaw12_copied: function 6 -/
def rosterlaw12_copied.l0 : Nat → List (S31) → List (S31) → Int → Option ((List (S31)))
  | 0, _, _, _ => none
  | k + 1, x0, x3, x4 => if x4 < (x0.length : Int) then (if 0 ≤ x4 then ((some (([] : List ByteArray) : List ByteArray)).bind fun y110 => (if y110.length + ((rd_T31 x0 x4).f4.f1).length < 8796093022208 then (if x3.length < 1099511627776 then (rosterlaw12_copied.l0 k x0 (x3 ++ [(⟨(rd_T31 x0 x4).f0, (rd_T31 x0 x4).f1, (rd_T31 x0 x4).f2, (rd_T31 x0 x4).f3, (⟨(rd_T31 x0 x4).f4.f0, (y110 ++ ((rd_T31 x0 x4).f4.f1)), (rd_T31 x0 x4).f4.f2⟩ : S29), (rd_T31 x0 x4).f5, (rd_T31 x0 x4).f6⟩ : S31)]) (wrap64 (x4 + 1))) else (none)) else (none))) else (none)) else (some x3)
def rosterlaw12_copied.f (k : Nat) (l0 : List (S31)) : Option ((List (S31))) := rosterlaw12_copied.l0 k l0 ([] : List (S31)) 0
theorem rosterlaw12_copied.mono_l : ∀ k, (∀ y0 y1 y2, LeO (rosterlaw12_copied.l0 k y0 y1 y2) (rosterlaw12_copied.l0 (k + 1) y0 y1 y2))
  | 0 => fun _ _ _ r h => by simp [rosterlaw12_copied.l0] at h
  | k + 1 => by
    have ih0 := rosterlaw12_copied.mono_l k
    · intro y0 y1 y2
      unfold rosterlaw12_copied.l0
      repeat' first
      | (with_reducible exact ih0 _ _ _)
      | (with_reducible exact LeO.refl _)
      | (with_reducible exact LeO.none _)
      | (with_reducible refine LeO.ite ?_ ?_)
      | (with_reducible refine LeO.bind ?_ (fun _ => ?_))
      | exact ih0 _ _ _
      | exact LeO.none _
      | refine LeO.ite ?_ ?_
      | refine LeO.bind ?_ (fun _ => ?_)
theorem rosterlaw12_copied.mono : ∀ a0 k, LeO (rosterlaw12_copied.f k a0) (rosterlaw12_copied.f (k + 1) a0) := by
  intro a0 k
  have ih0 := rosterlaw12_copied.mono_l k
  unfold rosterlaw12_copied.f
  repeat' first
      | (with_reducible exact ih0 _ _ _)
      | (with_reducible exact LeO.refl _)
      | (with_reducible exact LeO.none _)
      | (with_reducible refine LeO.ite ?_ ?_)
      | (with_reducible refine LeO.bind ?_ (fun _ => ?_))
      | exact ih0 _ _ _
      | exact LeO.none _
      | refine LeO.ite ?_ ?_
      | refine LeO.bind ?_ (fun _ => ?_)
set_option maxHeartbeats 8000000 in
set_option maxRecDepth 100000 in
theorem rosterlaw12_copied.calls (k : Nat) (A0 : Option Addr) (c0 : Nat) (l0 : List (S31)) (r : List (S31)) (w : World) (hr0 : Kd.C k31 w A0 l0.length l0) (hc0 : l0.length ≤ c0) (h : rosterlaw12_copied.f k l0 = some r) :
    Calls Try.prog 6 #[.slice A0 l0.length c0] w fun e w' => ∃ v0_ : Value, e = .returned (v0_) ∧ Kd.S k31 31 w' w.heap.size (fun _ => True) v0_ r ∧ Below w.heap.size w w' := by
  have hu31 := Try.underlying31
  have HR0 := Aside0.mk hr0
  have HC0 := Aside0.mk hc0
  clear hr0 hc0
  have HB := Aside0.mk (Below.refl w.heap.size w)
  have H : (rosterlaw12_copied.l0 k l0 ([] : List (S31)) 0) = some r := h
  clear h
  have H' := Aside0.mk H
  clear H
  go_enter Try.func6, Try.ntmps6
  go_wp2
  go_loopg [3, 4] k (fun kq v3 v4 w' => ∃ (x3_1 : List (S31)) (x4_1 : Int), v4 = .int .i64 x4_1 ∧ Aside0 (rosterlaw12_copied.l0 kq l0 x3_1 x4_1 = some r) ∧ Aside0 (kq ≤ k) ∧ Aside0 (Kd.S k31 31 w' w.heap.size (fun _ => True) v3 x3_1) ∧ Aside0 (Below w.heap.size w w'))
  case atStart => exact ⟨(([] : List (S31))), (0), (by first | rfl | (simp; done) | (simp [*]; done) | (simp [show ∀ l_ : List UInt8, l_.isEmpty = !(l_ != []) from fun l_ => by cases l_ <;> rfl]; done)), H', ⟨Nat.le_refl _⟩, ⟨by first | exact Kd.S_nil _ _ _ _ _ | exact Kd.N_nil _ _ _ _ _ | exact Kd.V_nil _ _ _ _ _ | exact Kd.Q_nil _ _ _ _ _ | exact Kd.R_nil _ _ _ _ _⟩, ⟨by repeat (first | (with_reducible first | exact HB.out | apply below_alloc | apply pw_below_drewN | apply below_drew1) | exact HB.out)⟩⟩
  case round =>
    clear H'
    obtain ⟨x3_1, x4_1, rfl, HA, HK1, HO_3, HB⟩ := hrel
    cases gk with
    | zero => exact absurd HA.out (by simp [rosterlaw12_copied.l0])
    | succ k1 =>
      have H := HA.out
      clear HA
      simp only [rosterlaw12_copied.l0] at H
      by_cases c2 : x4_1 < (l0.length : Int)
      · rw [if_pos c2] at H
        have c2b0 : decide (x4_1 < (l0.length : Int)) = true := decide_eq_true c2
        clear c2
        by_cases c3 : 0 ≤ x4_1
        · rw [if_pos c3] at H
          have c3b0 : decide (0 ≤ x4_1) = true := decide_eq_true c3
          clear c3
          obtain ⟨y110, hy110⟩ : ∃ y_ : List ByteArray, y_ = (([] : List ByteArray)) := ⟨_, rfl⟩
          replace H : (if y110.length + ((rd_T31 l0 x4_1).f4.f1).length < 8796093022208 then (if x3_1.length < 1099511627776 then (rosterlaw12_copied.l0 k1 l0 (x3_1 ++ [(⟨(rd_T31 l0 x4_1).f0, (rd_T31 l0 x4_1).f1, (rd_T31 l0 x4_1).f2, (rd_T31 l0 x4_1).f3, (⟨(rd_T31 l0 x4_1).f4.f0, (y110 ++ ((rd_T31 l0 x4_1).f4.f1)), (rd_T31 l0 x4_1).f4.f2⟩ : S29), (rd_T31 l0 x4_1).f5, (rd_T31 l0 x4_1).f6⟩ : S31)]) (wrap64 (x4_1 + 1))) else (none)) else (none)) = some r := by first | (rw [hy110]; with_reducible exact H) | (have H2_ := (Option.bind_some _ _).symm.trans H; rw [hy110]; with_reducible exact H2_) | (have H2_ := (Option.bind_some _ _).symm.trans H; with_reducible exact H2_) | with_reducible exact H | (rw [hy110]; exact H) | exact H
          have Ny110 := Aside0.mk hy110
          clear hy110
          by_cases c4 : y110.length + ((rd_T31 l0 x4_1).f4.f1).length < 8796093022208
          · rw [if_pos c4] at H
            have LMc4 := Aside0.mk c4
            clear c4
            obtain ⟨y113, hy113⟩ : ∃ y_ : List ByteArray, y_ = (y110 ++ ((rd_T31 l0 x4_1).f4.f1)) := ⟨_, rfl⟩
            replace H : (if x3_1.length < 1099511627776 then (rosterlaw12_copied.l0 k1 l0 (x3_1 ++ [(⟨(rd_T31 l0 x4_1).f0, (rd_T31 l0 x4_1).f1, (rd_T31 l0 x4_1).f2, (rd_T31 l0 x4_1).f3, (⟨(rd_T31 l0 x4_1).f4.f0, y113, (rd_T31 l0 x4_1).f4.f2⟩ : S29), (rd_T31 l0 x4_1).f5, (rd_T31 l0 x4_1).f6⟩ : S31)]) (wrap64 (x4_1 + 1))) else (none)) = some r := by first | (rw [hy113]; with_reducible exact H) | (have H2_ := (Option.bind_some _ _).symm.trans H; rw [hy113]; with_reducible exact H2_) | (have H2_ := (Option.bind_some _ _).symm.trans H; with_reducible exact H2_) | with_reducible exact H | (rw [hy113]; exact H) | exact H
            have Ny113 := Aside0.mk hy113
            clear hy113
            by_cases c5 : x3_1.length < 1099511627776
            · rw [if_pos c5] at H
              have LMc5 := Aside0.mk c5
              clear c5
              obtain ⟨y116, hy116⟩ : ∃ y_ : List (S31), y_ = (x3_1 ++ [(⟨(rd_T31 l0 x4_1).f0, (rd_T31 l0 x4_1).f1, (rd_T31 l0 x4_1).f2, (rd_T31 l0 x4_1).f3, (⟨(rd_T31 l0 x4_1).f4.f0, y113, (rd_T31 l0 x4_1).f4.f2⟩ : S29), (rd_T31 l0 x4_1).f5, (rd_T31 l0 x4_1).f6⟩ : S31)]) := ⟨_, rfl⟩
              replace H : (rosterlaw12_copied.l0 k1 l0 y116 (wrap64 (x4_1 + 1))) = some r := by first | (rw [hy116]; with_reducible exact H) | (have H2_ := (Option.bind_some _ _).symm.trans H; rw [hy116]; with_reducible exact H2_) | (have H2_ := (Option.bind_some _ _).symm.trans H; with_reducible exact H2_) | with_reducible exact H | (rw [hy116]; exact H) | exact H
              have Ny116 := Aside0.mk hy116
              clear hy116
              have H' := Aside0.mk H
              clear H
              have p108 : 0 ≤ (x4_1 : Int) := of_decide_eq_true (by first | (with_reducible assumption) | assumption)
              have q108 : x4_1 < (l0.length : Int) := of_decide_eq_true (by first | (with_reducible assumption) | assumption)
              obtain ⟨ad108, A108_5, c108_5, e108, hx108_0, hx108_1, hx108_2, hx108_3, hx108_4, hx108_5, hx108_6, hx108_7, hx108_8, hl108_5, hi108_5⟩ := at_T31 HR0.out x4_1 p108 q108
              cases e108
              replace hx108_0 := (HB.out.cell (World.block_lt_of_cell? w _ hx108_0)).trans hx108_0
              replace hx108_1 := (HB.out.cell (World.block_lt_of_cell? w _ hx108_1)).trans hx108_1
              replace hx108_2 := (HB.out.cell (World.block_lt_of_cell? w _ hx108_2)).trans hx108_2
              replace hx108_3 := (HB.out.cell (World.block_lt_of_cell? w _ hx108_3)).trans hx108_3
              replace hx108_4 := (HB.out.cell (World.block_lt_of_cell? w _ hx108_4)).trans hx108_4
              replace hx108_5 := (HB.out.cell (World.block_lt_of_cell? w _ hx108_5)).trans hx108_5
              replace hx108_6 := (HB.out.cell (World.block_lt_of_cell? w _ hx108_6)).trans hx108_6
              replace hx108_7 := (HB.out.cell (World.block_lt_of_cell? w _ hx108_7)).trans hx108_7
              replace hx108_8 := (HB.out.cell (World.block_lt_of_cell? w _ hx108_8)).trans hx108_8
              have HR108_5 := Aside0.mk hi108_5
              have HC108_5 := Aside0.mk hl108_5
              clear hi108_5 hl108_5
              replace p108 := eq_true p108
              replace q108 := eq_true q108
              go_wp2_with (first | ((with_reducible refine gate_dst (N := 5) rfl ?_); refine box_event ?hg (N := 5) ?hd (cs := #[.int .i64 0, .int .i64 0, .string (⟨#[]⟩ : ByteArray), .string (⟨#[]⟩ : ByteArray), .string (⟨#[]⟩ : ByteArray), .slice none 0 0, .string (⟨#[]⟩ : ByteArray), .string (⟨#[]⟩ : ByteArray), .bool false]) (t := 31) ?hr ?_; (case hd => rfl); (case hg => rfl); (case hr => first | (go_simp; done) | (go_simp; rfl)); intro gb109 hg w6 hbox hb; have n0_ := Aside0.mk (Kd.S_below (Kd.S_elderB (by (with_reducible repeat (first | apply Kd.S_alloc | apply Kd.S_drewN | apply Kd.S_drew)); exact HO_3.out) gb109 (Nat.le_of_eq hg.symm)) hb); have n1_ := Aside0.mk (below_step (by repeat (first | (with_reducible first | exact HB.out | apply below_alloc | apply pw_below_drewN | apply below_drew1) | exact HB.out)) hb); have n2_ := Aside0.mk (hbox); have n3_ := Aside0.mk ((by rw [hg]; exact (below_size (by repeat (first | (with_reducible first | exact HB.out | apply below_alloc | apply pw_below_drewN | apply below_drew1) | exact HB.out))) : w.heap.size ≤ gb109)); have n4_ := Aside0.mk ((by rw [hg]; exact (below_size (by repeat (first | (with_reducible first | exact HB.out | apply below_alloc | apply pw_below_drewN | apply below_drew1) | exact HB.out))) : w.heap.size ≤ gb109)); clear HO_3; clear HB; have HO_3 := n0_; have HB := n1_; have BK109 := n2_; have GW109 := n3_; have GE109 := n4_; clear n0_ n1_ n2_ n3_ n4_; clear hb hbox hg; have hcz7_0 : w6.cell? ⟨gb109, 0, none⟩ = some (.int .i64 0) := (blk_cell BK109.out 0).trans rfl; have hcz7_1 : w6.cell? ⟨gb109, 1, none⟩ = some (.int .i64 0) := (blk_cell BK109.out 1).trans rfl; have hcz7_2 : w6.cell? ⟨gb109, 2, none⟩ = some (.string (⟨#[]⟩ : ByteArray)) := (blk_cell BK109.out 2).trans rfl; have hcz7_3 : w6.cell? ⟨gb109, 3, none⟩ = some (.string (⟨#[]⟩ : ByteArray)) := (blk_cell BK109.out 3).trans rfl; have hcz7_4 : w6.cell? ⟨gb109, 4, none⟩ = some (.string (⟨#[]⟩ : ByteArray)) := (blk_cell BK109.out 4).trans rfl; have hcz7_5 : w6.cell? ⟨gb109, 5, none⟩ = some (.slice none 0 0) := (blk_cell BK109.out 5).trans rfl; have hcz7_6 : w6.cell? ⟨gb109, 6, none⟩ = some (.string (⟨#[]⟩ : ByteArray)) := (blk_cell BK109.out 6).trans rfl; have hcz7_7 : w6.cell? ⟨gb109, 7, none⟩ = some (.string (⟨#[]⟩ : ByteArray)) := (blk_cell BK109.out 7).trans rfl; have hcz7_8 : w6.cell? ⟨gb109, 8, none⟩ = some (.bool false) := (blk_cell BK109.out 8).trans rfl; have hfz7_0 := blk_frozen BK109.out 0; have hfz7_1 := blk_frozen BK109.out 1; have hfz7_2 := blk_frozen BK109.out 2; have hfz7_3 := blk_frozen BK109.out 3; have hfz7_4 := blk_frozen BK109.out 4; have hfz7_5 := blk_frozen BK109.out 5; have hfz7_6 := blk_frozen BK109.out 6; have hfz7_7 := blk_frozen BK109.out 7; have hfz7_8 := blk_frozen BK109.out 8) | ((with_reducible refine gate_dst (N := 16) rfl ?_); refine Kd.R_lit Kd.string _ 9 ?hg (N := 16) ?hd (xs := ([] : List ByteArray)) (inner := []) (ok := fun _ => True) (okp := fun _ => True) ?hr ?hp (fun _ hk => hk) trivial (Below.refl _ _) (Nat.le_refl _) (by simp) ?_; (case hd => rfl); (case hg => rfl); (case hr => first | (go_simp; done) | (go_simp; rfl)); (case hp => exact (Reps.none _ _)); intro v111 w8 ho9 hb hg_ hnew_; clear hg_ hnew_; (first | rw [← Ny110.out] at ho9 | (simp only [Int.reduceToNat] at ho9; rw [← Ny110.out] at ho9)); have n0_ := Aside0.mk (Kd.S_elder' (by (with_reducible repeat (first | apply Kd.S_alloc | apply Kd.S_drewN | apply Kd.S_drew)); exact (Kd.S_mono (Kd.S_far (p := ⟨gb109, 8, none⟩) (Kd.S_far (p := ⟨gb109, 7, none⟩) (Kd.S_far (p := ⟨gb109, 6, none⟩) (Kd.S_far (p := ⟨gb109, 5, none⟩) (Kd.S_far (p := ⟨gb109, 4, none⟩) (Kd.S_far (p := ⟨gb109, 3, none⟩) (Kd.S_far (p := ⟨gb109, 2, none⟩) (Kd.S_far (p := ⟨gb109, 1, none⟩) (Kd.S_far (p := ⟨gb109, 0, none⟩) (Kd.S_mono HO_3.out (fun k_ hk => (⟨hk, hk.2⟩ : _ ∧ k_ ≠ gb109))) (fun _ hk => hk.2) (.int .i64 ((rd_T31 l0 x4_1).f0))) (fun _ hk => hk.2) (.int .i64 ((rd_T31 l0 x4_1).f1))) (fun _ hk => hk.2) (.string ((rd_T31 l0 x4_1).f2))) (fun _ hk => hk.2) (.string ((rd_T31 l0 x4_1).f3))) (fun _ hk => hk.2) (.string ((rd_T31 l0 x4_1).f4.f0))) (fun _ hk => hk.2) (.slice A108_5 ((rd_T31 l0 x4_1).f4.f1).length c108_5)) (fun _ hk => hk.2) (.string ((rd_T31 l0 x4_1).f4.f2))) (fun _ hk => hk.2) (.string ((rd_T31 l0 x4_1).f5))) (fun _ hk => hk.2) (.bool ((rd_T31 l0 x4_1).f6))) (fun _ h_ => h_.1))) (Kd.R_base ho9) hb); have n1_ := Aside0.mk (Kd.R_lower ho9 (below_size (by repeat (first | (with_reducible first | exact HB.out | apply below_alloc | apply pw_below_drewN | apply below_drew1 | refine below_set ?_ GE109.out) | exact HB.out)))); have n2_ := Aside0.mk (blk_below (g := gb109) (o := .cells #[.int .i64 ((rd_T31 l0 x4_1).f0), .int .i64 ((rd_T31 l0 x4_1).f1), .string ((rd_T31 l0 x4_1).f2), .string ((rd_T31 l0 x4_1).f3), .string ((rd_T31 l0 x4_1).f4.f0), .slice A108_5 ((rd_T31 l0 x4_1).f4.f1).length c108_5, .string ((rd_T31 l0 x4_1).f4.f2), .string ((rd_T31 l0 x4_1).f5), .bool ((rd_T31 l0 x4_1).f6)] 31 (0, 0)) (by (with_reducible repeat (first | refine blk_drewN ?_ _ | refine blk_drew ?_ | refine blk_alloc ?_ _)); refine blk_put (cs := #[.int .i64 ((rd_T31 l0 x4_1).f0), .int .i64 ((rd_T31 l0 x4_1).f1), .string ((rd_T31 l0 x4_1).f2), .string ((rd_T31 l0 x4_1).f3), .string ((rd_T31 l0 x4_1).f4.f0), .slice A108_5 ((rd_T31 l0 x4_1).f4.f1).length c108_5, .string ((rd_T31 l0 x4_1).f4.f2), .string ((rd_T31 l0 x4_1).f5), .bool false]) ?_ 8 _ rfl; (with_reducible repeat (first | refine blk_drewN ?_ _ | refine blk_drew ?_ | refine blk_alloc ?_ _)); refine blk_put (cs := #[.int .i64 ((rd_T31 l0 x4_1).f0), .int .i64 ((rd_T31 l0 x4_1).f1), .string ((rd_T31 l0 x4_1).f2), .string ((rd_T31 l0 x4_1).f3), .string ((rd_T31 l0 x4_1).f4.f0), .slice A108_5 ((rd_T31 l0 x4_1).f4.f1).length c108_5, .string ((rd_T31 l0 x4_1).f4.f2), .string (⟨#[]⟩ : ByteArray), .bool false]) ?_ 7 _ rfl; (with_reducible repeat (first | refine blk_drewN ?_ _ | refine blk_drew ?_ | refine blk_alloc ?_ _)); refine blk_put (cs := #[.int .i64 ((rd_T31 l0 x4_1).f0), .int .i64 ((rd_T31 l0 x4_1).f1), .string ((rd_T31 l0 x4_1).f2), .string ((rd_T31 l0 x4_1).f3), .string ((rd_T31 l0 x4_1).f4.f0), .slice A108_5 ((rd_T31 l0 x4_1).f4.f1).length c108_5, .string (⟨#[]⟩ : ByteArray), .string (⟨#[]⟩ : ByteArray), .bool false]) ?_ 6 _ rfl; (with_reducible repeat (first | refine blk_drewN ?_ _ | refine blk_drew ?_ | refine blk_alloc ?_ _)); refine blk_put (cs := #[.int .i64 ((rd_T31 l0 x4_1).f0), .int .i64 ((rd_T31 l0 x4_1).f1), .string ((rd_T31 l0 x4_1).f2), .string ((rd_T31 l0 x4_1).f3), .string ((rd_T31 l0 x4_1).f4.f0), .slice none 0 0, .string (⟨#[]⟩ : ByteArray), .string (⟨#[]⟩ : ByteArray), .bool false]) ?_ 5 _ rfl; (with_reducible repeat (first | refine blk_drewN ?_ _ | refine blk_drew ?_ | refine blk_alloc ?_ _)); refine blk_put (cs := #[.int .i64 ((rd_T31 l0 x4_1).f0), .int .i64 ((rd_T31 l0 x4_1).f1), .string ((rd_T31 l0 x4_1).f2), .string ((rd_T31 l0 x4_1).f3), .string (⟨#[]⟩ : ByteArray), .slice none 0 0, .string (⟨#[]⟩ : ByteArray), .string (⟨#[]⟩ : ByteArray), .bool false]) ?_ 4 _ rfl; (with_reducible repeat (first | refine blk_drewN ?_ _ | refine blk_drew ?_ | refine blk_alloc ?_ _)); refine blk_put (cs := #[.int .i64 ((rd_T31 l0 x4_1).f0), .int .i64 ((rd_T31 l0 x4_1).f1), .string ((rd_T31 l0 x4_1).f2), .string (⟨#[]⟩ : ByteArray), .string (⟨#[]⟩ : ByteArray), .slice none 0 0, .string (⟨#[]⟩ : ByteArray), .string (⟨#[]⟩ : ByteArray), .bool false]) ?_ 3 _ rfl; (with_reducible repeat (first | refine blk_drewN ?_ _ | refine blk_drew ?_ | refine blk_alloc ?_ _)); refine blk_put (cs := #[.int .i64 ((rd_T31 l0 x4_1).f0), .int .i64 ((rd_T31 l0 x4_1).f1), .string (⟨#[]⟩ : ByteArray), .string (⟨#[]⟩ : ByteArray), .string (⟨#[]⟩ : ByteArray), .slice none 0 0, .string (⟨#[]⟩ : ByteArray), .string (⟨#[]⟩ : ByteArray), .bool false]) ?_ 2 _ rfl; (with_reducible repeat (first | refine blk_drewN ?_ _ | refine blk_drew ?_ | refine blk_alloc ?_ _)); refine blk_put (cs := #[.int .i64 ((rd_T31 l0 x4_1).f0), .int .i64 0, .string (⟨#[]⟩ : ByteArray), .string (⟨#[]⟩ : ByteArray), .string (⟨#[]⟩ : ByteArray), .slice none 0 0, .string (⟨#[]⟩ : ByteArray), .string (⟨#[]⟩ : ByteArray), .bool false]) ?_ 1 _ rfl; (with_reducible repeat (first | refine blk_drewN ?_ _ | refine blk_drew ?_ | refine blk_alloc ?_ _)); refine blk_put (cs := #[.int .i64 0, .int .i64 0, .string (⟨#[]⟩ : ByteArray), .string (⟨#[]⟩ : ByteArray), .string (⟨#[]⟩ : ByteArray), .slice none 0 0, .string (⟨#[]⟩ : ByteArray), .string (⟨#[]⟩ : ByteArray), .bool false]) ?_ 0 _ rfl; (with_reducible repeat (first | refine blk_drewN ?_ _ | refine blk_drew ?_ | refine blk_alloc ?_ _)); exact BK109.out) hb); have n3_ := Aside0.mk (below_step (by repeat (first | (with_reducible first | exact HB.out | apply below_alloc | apply pw_below_drewN | apply below_drew1 | refine below_set ?_ GE109.out) | exact HB.out)) hb); clear HO_3; clear BK109; clear HB; have HO_3 := n0_; have HO112 := n1_; have BK109 := n2_; have HB := n3_; clear n0_ n1_ n2_ n3_; clear hb ho9; have hcz10_0 : w8.cell? ⟨gb109, 0, none⟩ = some (.int .i64 ((rd_T31 l0 x4_1).f0)) := (blk_cell BK109.out 0).trans rfl; have hcz10_1 : w8.cell? ⟨gb109, 1, none⟩ = some (.int .i64 ((rd_T31 l0 x4_1).f1)) := (blk_cell BK109.out 1).trans rfl; have hcz10_2 : w8.cell? ⟨gb109, 2, none⟩ = some (.string ((rd_T31 l0 x4_1).f2)) := (blk_cell BK109.out 2).trans rfl; have hcz10_3 : w8.cell? ⟨gb109, 3, none⟩ = some (.string ((rd_T31 l0 x4_1).f3)) := (blk_cell BK109.out 3).trans rfl; have hcz10_4 : w8.cell? ⟨gb109, 4, none⟩ = some (.string ((rd_T31 l0 x4_1).f4.f0)) := (blk_cell BK109.out 4).trans rfl; have hcz10_5 : w8.cell? ⟨gb109, 5, none⟩ = some (.slice A108_5 ((rd_T31 l0 x4_1).f4.f1).length c108_5) := (blk_cell BK109.out 5).trans rfl; have hcz10_6 : w8.cell? ⟨gb109, 6, none⟩ = some (.string ((rd_T31 l0 x4_1).f4.f2)) := (blk_cell BK109.out 6).trans rfl; have hcz10_7 : w8.cell? ⟨gb109, 7, none⟩ = some (.string ((rd_T31 l0 x4_1).f5)) := (blk_cell BK109.out 7).trans rfl; have hcz10_8 : w8.cell? ⟨gb109, 8, none⟩ = some (.bool ((rd_T31 l0 x4_1).f6)) := (blk_cell BK109.out 8).trans rfl; have hfz10_0 := blk_frozen BK109.out 0; have hfz10_1 := blk_frozen BK109.out 1; have hfz10_2 := blk_frozen BK109.out 2; have hfz10_3 := blk_frozen BK109.out 3; have hfz10_4 := blk_frozen BK109.out 4; have hfz10_5 := blk_frozen BK109.out 5; have hfz10_6 := blk_frozen BK109.out 6; have hfz10_7 := blk_frozen BK109.out 7; have hfz10_8 := blk_frozen BK109.out 8) | ((with_reducible refine gate_builtin (b := .append) (xs := #[.tmp 16, .tmp 19]) rfl ?_); at_builtin; refine Kd.R_append_rows Kd.string (w0 := w) w.heap.size rfl (.tmp 16) (.tmp 19) 27 9 (.string ⟨#[]⟩) 16 rfl Try.underlying27 info9 rfl (by decide) (by omega) v111 y110 ((rd_T31 l0 x4_1).f4.f1) _ _ _ (fun _ => True) (fun _ => False) rfl rfl ?aO ?aR (fun _ _ h => h) (fun _ h => h.elim) ?aF ?aB ?aS ?aL ?_; (case aR => repeat (first | exact (Kd.C_below HR108_5.out HB.out) | (with_reducible refine Kd.C_alloc ?_ _) | (with_reducible refine Kd.C_drewN ?_ _) | (with_reducible refine Kd.C_drew ?_))); (case aB => exact (by repeat (first | (with_reducible first | exact HB.out | apply below_alloc | apply pw_below_drewN | apply below_drew1 | refine below_set ?_ GE109.out) | exact HB.out))); (case aF => exact (fun _ _ => trivial)); (case aO => exact (by (with_reducible repeat (first | apply Kd.R_alloc | apply Kd.R_drewN | apply Kd.R_drew)); exact HO112.out)); (case aS => exact (below_size (by repeat (first | (with_reducible first | exact HB.out | apply below_alloc | apply pw_below_drewN | apply below_drew1 | refine below_set ?_ GE109.out) | exact HB.out)))); (case aL => have := LMc4.out; omega); intro v114 w11 ho hb hg hat; rw [← Ny113.out] at ho; have n0_ := Aside0.mk (Kd.S_after (ok := (fun k_ => k_ ≠ gb109)) (by (with_reducible repeat (first | apply Kd.S_alloc | apply Kd.S_drewN | apply Kd.S_drew)); exact Kd.S_mono HO_3.out (fun _ hk => ⟨hk.1.2, hk.2⟩)) hg hat); have n1_ := Aside0.mk (blk_grown (g := gb109) (o := .cells #[.int .i64 ((rd_T31 l0 x4_1).f0), .int .i64 ((rd_T31 l0 x4_1).f1), .string ((rd_T31 l0 x4_1).f2), .string ((rd_T31 l0 x4_1).f3), .string ((rd_T31 l0 x4_1).f4.f0), .slice A108_5 ((rd_T31 l0 x4_1).f4.f1).length c108_5, .string ((rd_T31 l0 x4_1).f4.f2), .string ((rd_T31 l0 x4_1).f5), .bool ((rd_T31 l0 x4_1).f6)] 31 (0, 0)) (by (with_reducible repeat (first | refine blk_drewN ?_ _ | refine blk_drew ?_ | refine blk_alloc ?_ _)); exact BK109.out) hg (Kd.R_ne HO112.out BK109.out (by decide))); have n2_ := Aside0.mk (hb); have n3_ := Aside0.mk (ho); clear HO_3; clear BK109; clear HB; clear HO112; have HO_3 := n0_; have BK109 := n1_; have HB := n2_; have HO115 := n3_; clear n0_ n1_ n2_ n3_; clear ho hb hg hat; obtain ⟨Ao12, co12, eo12⟩ := Kd.R_slice HO115.out; subst eo12; have hcz13_0 : w11.cell? ⟨gb109, 0, none⟩ = some (.int .i64 ((rd_T31 l0 x4_1).f0)) := (blk_cell BK109.out 0).trans rfl; have hcz13_1 : w11.cell? ⟨gb109, 1, none⟩ = some (.int .i64 ((rd_T31 l0 x4_1).f1)) := (blk_cell BK109.out 1).trans rfl; have hcz13_2 : w11.cell? ⟨gb109, 2, none⟩ = some (.string ((rd_T31 l0 x4_1).f2)) := (blk_cell BK109.out 2).trans rfl; have hcz13_3 : w11.cell? ⟨gb109, 3, none⟩ = some (.string ((rd_T31 l0 x4_1).f3)) := (blk_cell BK109.out 3).trans rfl; have hcz13_4 : w11.cell? ⟨gb109, 4, none⟩ = some (.string ((rd_T31 l0 x4_1).f4.f0)) := (blk_cell BK109.out 4).trans rfl; have hcz13_5 : w11.cell? ⟨gb109, 5, none⟩ = some (.slice A108_5 ((rd_T31 l0 x4_1).f4.f1).length c108_5) := (blk_cell BK109.out 5).trans rfl; have hcz13_6 : w11.cell? ⟨gb109, 6, none⟩ = some (.string ((rd_T31 l0 x4_1).f4.f2)) := (blk_cell BK109.out 6).trans rfl; have hcz13_7 : w11.cell? ⟨gb109, 7, none⟩ = some (.string ((rd_T31 l0 x4_1).f5)) := (blk_cell BK109.out 7).trans rfl; have hcz13_8 : w11.cell? ⟨gb109, 8, none⟩ = some (.bool ((rd_T31 l0 x4_1).f6)) := (blk_cell BK109.out 8).trans rfl; have hfz13_0 := blk_frozen BK109.out 0; have hfz13_1 := blk_frozen BK109.out 1; have hfz13_2 := blk_frozen BK109.out 2; have hfz13_3 := blk_frozen BK109.out 3; have hfz13_4 := blk_frozen BK109.out 4; have hfz13_5 := blk_frozen BK109.out 5; have hfz13_6 := blk_frozen BK109.out 6; have hfz13_7 := blk_frozen BK109.out 7; have hfz13_8 := blk_frozen BK109.out 8) | ((with_reducible refine gate_store (t := 27) (p := 22) rfl ?_); refine store_event (t := 27) (p := 22) (v := ?vo_w14) (w1 := (w11.setCell ⟨gb109, 5, none⟩ (.slice Ao12 y113.length co12))) ?hg ?ho ?hn ?hr ?_; (case ho => rfl); (case hg => rfl); (case hn => rfl); (case hr => first | (go_simp; done) | (go_simp; rfl)); intro w14 hw; have n0_ : Aside0 (Kd.S k31 31 w14 w.heap.size (fun k_ => some k_ ≠ (.slice Ao12 y113.length co12 : Value).ownBlock ∧ k_ ≠ gb109) u3 x3_1) := ⟨(by rw [hw]; exact (by (with_reducible repeat (first | apply Kd.S_alloc | apply Kd.S_drewN | apply Kd.S_drew)); exact Kd.S_mono (Kd.S_far (p := ⟨gb109, 5, none⟩) (Kd.S_mono HO_3.out (fun k_ hk => (⟨hk, hk.1⟩ : _ ∧ k_ ≠ gb109))) (fun _ hk => hk.2) (.slice Ao12 y113.length co12)) (fun _ hk => ⟨hk.1.2, hk.1.1⟩)))⟩; have n1_ : Aside0 (Kd.R Kd.string 9 w14 w.heap.size (fun _ => True) (.slice Ao12 y113.length co12) y113) := ⟨(by rw [hw]; exact (by (with_reducible repeat (first | apply Kd.R_alloc | apply Kd.R_drewN | apply Kd.R_drew)); exact Kd.R_mono (Kd.R_far (p := ⟨gb109, 5, none⟩) (Kd.R_types HO115.out BK109.out (by decide)) (fun _ hk => hk.2) (.slice Ao12 y113.length co12)) (fun _ hk => trivial)))⟩; have n2_ : Aside0 (w14.heap[gb109]? = some (.cells #[.int .i64 ((rd_T31 l0 x4_1).f0), .int .i64 ((rd_T31 l0 x4_1).f1), .string ((rd_T31 l0 x4_1).f2), .string ((rd_T31 l0 x4_1).f3), .string ((rd_T31 l0 x4_1).f4.f0), .slice Ao12 y113.length co12, .string ((rd_T31 l0 x4_1).f4.f2), .string ((rd_T31 l0 x4_1).f5), .bool ((rd_T31 l0 x4_1).f6)] 31 (0, 0))) := ⟨(by rw [hw]; exact (by (with_reducible repeat (first | refine blk_drewN ?_ _ | refine blk_drew ?_ | refine blk_alloc ?_ _)); refine blk_put (cs := #[.int .i64 ((rd_T31 l0 x4_1).f0), .int .i64 ((rd_T31 l0 x4_1).f1), .string ((rd_T31 l0 x4_1).f2), .string ((rd_T31 l0 x4_1).f3), .string ((rd_T31 l0 x4_1).f4.f0), .slice A108_5 ((rd_T31 l0 x4_1).f4.f1).length c108_5, .string ((rd_T31 l0 x4_1).f4.f2), .string ((rd_T31 l0 x4_1).f5), .bool ((rd_T31 l0 x4_1).f6)]) ?_ 5 _ rfl; (with_reducible repeat (first | refine blk_drewN ?_ _ | refine blk_drew ?_ | refine blk_alloc ?_ _)); exact BK109.out))⟩; have n3_ : Aside0 (Below w.heap.size w w14) := ⟨(by rw [hw]; exact (by repeat (first | (with_reducible first | exact HB.out | apply below_alloc | apply pw_below_drewN | apply below_drew1 | refine below_set ?_ GE109.out) | exact HB.out)))⟩; clear hw; clear HO_3; clear HO115; clear BK109; clear HB; have HO_3 := n0_; have HO115 := n1_; have BK109 := n2_; have HB := n3_; clear n0_ n1_ n2_ n3_; have hcz15_0 : w14.cell? ⟨gb109, 0, none⟩ = some (.int .i64 ((rd_T31 l0 x4_1).f0)) := (blk_cell BK109.out 0).trans rfl; have hcz15_1 : w14.cell? ⟨gb109, 1, none⟩ = some (.int .i64 ((rd_T31 l0 x4_1).f1)) := (blk_cell BK109.out 1).trans rfl; have hcz15_2 : w14.cell? ⟨gb109, 2, none⟩ = some (.string ((rd_T31 l0 x4_1).f2)) := (blk_cell BK109.out 2).trans rfl; have hcz15_3 : w14.cell? ⟨gb109, 3, none⟩ = some (.string ((rd_T31 l0 x4_1).f3)) := (blk_cell BK109.out 3).trans rfl; have hcz15_4 : w14.cell? ⟨gb109, 4, none⟩ = some (.string ((rd_T31 l0 x4_1).f4.f0)) := (blk_cell BK109.out 4).trans rfl; have hcz15_5 : w14.cell? ⟨gb109, 5, none⟩ = some (.slice Ao12 y113.length co12) := (blk_cell BK109.out 5).trans rfl; have hcz15_6 : w14.cell? ⟨gb109, 6, none⟩ = some (.string ((rd_T31 l0 x4_1).f4.f2)) := (blk_cell BK109.out 6).trans rfl; have hcz15_7 : w14.cell? ⟨gb109, 7, none⟩ = some (.string ((rd_T31 l0 x4_1).f5)) := (blk_cell BK109.out 7).trans rfl; have hcz15_8 : w14.cell? ⟨gb109, 8, none⟩ = some (.bool ((rd_T31 l0 x4_1).f6)) := (blk_cell BK109.out 8).trans rfl; have hfz15_0 := blk_frozen BK109.out 0; have hfz15_1 := blk_frozen BK109.out 1; have hfz15_2 := blk_frozen BK109.out 2; have hfz15_3 := blk_frozen BK109.out 3; have hfz15_4 := blk_frozen BK109.out 4; have hfz15_5 := blk_frozen BK109.out 5; have hfz15_6 := blk_frozen BK109.out 6; have hfz15_7 := blk_frozen BK109.out 7; have hfz15_8 := blk_frozen BK109.out 8) | ((with_reducible refine gate_builtin (b := .append) (xs := #[.tmp 23, .tmp 25]) rfl ?_); at_builtin; refine Kd.S_append k31 (w0 := w) w.heap.size rfl (.tmp 23) (.tmp 25) 23 31 (.agg #[(.int .i64 0), (.int .i64 0), (.string ⟨#[]⟩), (.string ⟨#[]⟩), (.string ⟨#[]⟩), (.slice none 0 0), (.string ⟨#[]⟩), (.string ⟨#[]⟩), (.bool false)]) 128 rfl Try.underlying23 info31 rfl (by decide) (by omega) u3 x3_1 (⟨(rd_T31 l0 x4_1).f0, (rd_T31 l0 x4_1).f1, (rd_T31 l0 x4_1).f2, (rd_T31 l0 x4_1).f3, (⟨(rd_T31 l0 x4_1).f4.f0, y113, (rd_T31 l0 x4_1).f4.f2⟩ : S29), (rd_T31 l0 x4_1).f5, (rd_T31 l0 x4_1).f6⟩ : S31) [.int .i64 ((rd_T31 l0 x4_1).f0), .int .i64 ((rd_T31 l0 x4_1).f1), .string ((rd_T31 l0 x4_1).f2), .string ((rd_T31 l0 x4_1).f3), .string ((rd_T31 l0 x4_1).f4.f0), .slice Ao12 y113.length co12, .string ((rd_T31 l0 x4_1).f4.f2), .string ((rd_T31 l0 x4_1).f5), .bool ((rd_T31 l0 x4_1).f6)] (fun k_ => k_ ≠ gb109) (fun k_ => some k_ = (.slice Ao12 y113.length co12 : Value).ownBlock) rfl rfl ?aP (fun k_ hk_ => ((Kd.R_mono (ok' := fun k_ => ((fun k_ => k_ ≠ gb109)) k_ ∧ some k_ ≠ (u3 : Value).ownBlock) (Kd.R_types (Kd.R_apart' (HO115.out) (Kd.S_typed HO_3.out) (by decide)) BK109.out (by decide)) (fun k_ hk => ⟨hk.2, hk.1.2⟩))).1 k_ hk_.symm) ?aF ?aO ?aB ?aS ?aL ?_; (case aP => exact k31_mkM _ _ _ (⟨(rd_T31 l0 x4_1).f0, (rd_T31 l0 x4_1).f1, (rd_T31 l0 x4_1).f2, (rd_T31 l0 x4_1).f3, (⟨(rd_T31 l0 x4_1).f4.f0, y113, (rd_T31 l0 x4_1).f4.f2⟩ : S29), (rd_T31 l0 x4_1).f5, (rd_T31 l0 x4_1).f6⟩ : S31) (Kd.R_mono (Kd.R_tight rfl (Kd.R_mono (ok' := fun k_ => ((fun k_ => k_ ≠ gb109)) k_ ∧ some k_ ≠ (u3 : Value).ownBlock) (Kd.R_types (Kd.R_apart' (HO115.out) (Kd.S_typed HO_3.out) (by decide)) BK109.out (by decide)) (fun k_ hk => ⟨hk.2, hk.1.2⟩))) (fun _ h_ => h_))); (case aB => exact (by repeat (first | (with_reducible first | exact HB.out | apply below_alloc | apply pw_below_drewN | apply below_drew1 | refine below_set ?_ GE109.out) | exact HB.out))); (case aF => exact (fun k_ hk => Kd.freshB (g := gb109) (o := .cells #[.int .i64 ((rd_T31 l0 x4_1).f0), .int .i64 ((rd_T31 l0 x4_1).f1), .string ((rd_T31 l0 x4_1).f2), .string ((rd_T31 l0 x4_1).f3), .string ((rd_T31 l0 x4_1).f4.f0), .slice Ao12 y113.length co12, .string ((rd_T31 l0 x4_1).f4.f2), .string ((rd_T31 l0 x4_1).f5), .bool ((rd_T31 l0 x4_1).f6)] 31 (0, 0)) (by (with_reducible repeat (first | refine blk_drewN ?_ _ | refine blk_drew ?_ | refine blk_alloc ?_ _)); exact BK109.out) k_ hk)); (case aO => exact (by (with_reducible repeat (first | apply Kd.S_alloc | apply Kd.S_drewN | apply Kd.S_drew)); exact Kd.S_mono HO_3.out (fun k_ hk => ⟨hk.2, fun e_ => hk.1 e_⟩))); (case aS => exact (below_size (by repeat (first | (with_reducible first | exact HB.out | apply below_alloc | apply pw_below_drewN | apply below_drew1 | refine below_set ?_ GE109.out) | exact HB.out)))); (case aL => have := LMc5.out; omega); intro v117 w16 ho hb hg hat; rw [← Ny116.out] at ho; have n0_ := Aside0.mk (blk_grown (g := gb109) (o := .cells #[.int .i64 ((rd_T31 l0 x4_1).f0), .int .i64 ((rd_T31 l0 x4_1).f1), .string ((rd_T31 l0 x4_1).f2), .string ((rd_T31 l0 x4_1).f3), .string ((rd_T31 l0 x4_1).f4.f0), .slice Ao12 y113.length co12, .string ((rd_T31 l0 x4_1).f4.f2), .string ((rd_T31 l0 x4_1).f5), .bool ((rd_T31 l0 x4_1).f6)] 31 (0, 0)) (by (with_reducible repeat (first | refine blk_drewN ?_ _ | refine blk_drew ?_ | refine blk_alloc ?_ _)); exact BK109.out) hg (Kd.S_away HO_3.out (fun _ hk => hk.2))); have n1_ := Aside0.mk (hb); have n2_ := Aside0.mk (ho); clear BK109; clear HB; clear HO_3; clear HO115; have BK109 := n0_; have HB := n1_; have HO118 := n2_; clear n0_ n1_ n2_; clear ho hb hg hat))
              go_roundg k1
              case measure => have := HK1.out; omega
              case rel => exact ⟨(y116), (wrap64 (x4_1 + 1)), (by first | rfl | (simp; done) | (simp [*]; done) | (simp [show ∀ l_ : List UInt8, l_.isEmpty = !(l_ != []) from fun l_ => by cases l_ <;> rfl]; done)), H', ⟨by have := HK1.out; omega⟩, ⟨by (with_reducible repeat (first | apply Kd.S_alloc | apply Kd.S_drewN | apply Kd.S_drew)); exact Kd.S_mono HO118.out (fun _ hk => trivial)⟩, ⟨by repeat (first | (with_reducible first | exact HB.out | apply below_alloc | apply pw_below_drewN | apply below_drew1 | refine below_set ?_ GE109.out) | exact HB.out)⟩⟩
            · rw [if_neg c5] at H
              exact absurd H (by simp)
          · rw [if_neg c4] at H
            exact absurd H (by simp)
        · rw [if_neg c3] at H
          exact absurd H (by simp)
      · rw [if_neg c2] at H
        have c2b0 : decide (x4_1 < (l0.length : Int)) = false := decide_eq_false c2
        clear c2
        obtain rfl := Option.some.inj H
        go_wp2
        go_ret
        exact ⟨_, by first | rfl | (simp [errW_none, errW_some] <;> rfl) | (simp [*, errW_none, errW_some] <;> rfl), by (with_reducible repeat (first | apply Kd.S_alloc | apply Kd.S_drewN | apply Kd.S_drew)); exact HO_3.out, by repeat (first | (with_reducible first | exact HB.out | apply below_alloc | apply pw_below_drewN | apply below_drew1) | exact HB.out)⟩

/-! ### rosterlaw12_FilterEquals: function 3 -/
def rosterlaw12_FilterEquals.j0 : Nat → List (S31) → List (S31) → Bool → Option (Bool)
  | 0, _, _, _ => none
  | k + 1, x0, x1, x20 => if x20 = true then (some false) else ((rosterlaw12_copied.f k x0).bind fun t123 => ((filter_Equal.f x0 t123).bind fun t126 => (if t126 = true then ((rosterlaw12_copied.f k x1).bind fun t127 => ((filter_Equal.f t127 x1).bind fun t130 => (if t130 = true then ((rosterlaw12_copied.f k x0).bind fun t131 => (if t131.length < 1099511627776 then ((filter_Equal.f x0 (t131 ++ [(⟨0, 0, (⟨#[]⟩ : ByteArray), (⟨#[]⟩ : ByteArray), (⟨(⟨#[]⟩ : ByteArray), ([] : List ByteArray), (⟨#[]⟩ : ByteArray)⟩ : S29), (⟨#[]⟩ : ByteArray), false⟩ : S31)])).bind fun t137 => (some (!t137))) else (none))) else (some false)))) else (some false))))
def rosterlaw12_FilterEquals.f (k : Nat) (l0 : List (S31)) (l1 : List (S31)) : Option (Bool) := (filter_Equal.f l0 l1).bind fun t119 => ((rosterref12_Equal.f k l0 l1).bind fun t120 => (if (t119 != t120) = true then (rosterlaw12_FilterEquals.j0 k l0 l1 true) else ((filter_Equal.f l1 l0).bind fun t121 => ((rosterref12_Equal.f k l0 l1).bind fun t122 => (rosterlaw12_FilterEquals.j0 k l0 l1 (t121 != t122))))))
theorem rosterlaw12_FilterEquals.mono_l : ∀ k, (∀ y0 y1 y2, LeO (rosterlaw12_FilterEquals.j0 k y0 y1 y2) (rosterlaw12_FilterEquals.j0 (k + 1) y0 y1 y2))
  | 0 => fun _ _ _ r h => by simp [rosterlaw12_FilterEquals.j0] at h
  | k + 1 => by
    have ih0 := rosterlaw12_FilterEquals.mono_l k
    · intro y0 y1 y2
      unfold rosterlaw12_FilterEquals.j0
      repeat' first
      | (with_reducible exact ih0 _ _ _)
      | (with_reducible exact rosterlaw12_copied.mono _ _)
      | (with_reducible exact rosterref12_Equal.mono _ _ _)
      | (with_reducible exact LeO.refl _)
      | (with_reducible exact LeO.none _)
      | (with_reducible refine LeO.ite ?_ ?_)
      | (with_reducible refine LeO.bind ?_ (fun _ => ?_))
      | exact ih0 _ _ _
      | exact rosterlaw12_copied.mono _ _
      | exact rosterref12_Equal.mono _ _ _
      | exact LeO.none _
      | refine LeO.ite ?_ ?_
      | refine LeO.bind ?_ (fun _ => ?_)
theorem rosterlaw12_FilterEquals.mono : ∀ a0 a1 k, LeO (rosterlaw12_FilterEquals.f k a0 a1) (rosterlaw12_FilterEquals.f (k + 1) a0 a1) := by
  intro a0 a1 k
  have ih0 := rosterlaw12_FilterEquals.mono_l k
  unfold rosterlaw12_FilterEquals.f
  repeat' first
      | (with_reducible exact ih0 _ _ _)
      | (with_reducible exact rosterlaw12_copied.mono _ _)
      | (with_reducible exact rosterref12_Equal.mono _ _ _)
      | (with_reducible exact LeO.refl _)
      | (with_reducible exact LeO.none _)
      | (with_reducible refine LeO.ite ?_ ?_)
      | (with_reducible refine LeO.bind ?_ (fun _ => ?_))
      | exact ih0 _ _ _
      | exact rosterlaw12_copied.mono _ _
      | exact rosterref12_Equal.mono _ _ _
      | exact LeO.none _
      | refine LeO.ite ?_ ?_
      | refine LeO.bind ?_ (fun _ => ?_)
set_option maxHeartbeats 8000000 in
set_option maxRecDepth 100000 in
theorem rosterlaw12_FilterEquals.calls (k : Nat) (A0 : Option Addr) (c0 : Nat) (l0 : List (S31)) (A1 : Option Addr) (c1 : Nat) (l1 : List (S31)) (r : Bool) (w : World) (hr0 : Kd.C k31 w A0 l0.length l0) (hc0 : l0.length ≤ c0) (hr1 : Kd.C k31 w A1 l1.length l1) (hc1 : l1.length ≤ c1) (h : rosterlaw12_FilterEquals.f k l0 l1 = some r) :
    Calls Try.prog 3 #[.slice A0 l0.length c0, .slice A1 l1.length c1] w fun e w' => e = .returned (.bool r) ∧ Below w.heap.size w w' := by
  have hu31 := Try.underlying31
  have HR0 := Aside0.mk hr0
  have HC0 := Aside0.mk hc0
  clear hr0 hc0
  have HR1 := Aside0.mk hr1
  have HC1 := Aside0.mk hc1
  clear hr1 hc1
  have HB := Aside0.mk (Below.refl w.heap.size w)
  have H : ((filter_Equal.f l0 l1).bind fun t119 => ((rosterref12_Equal.f k l0 l1).bind fun t120 => (if (t119 != t120) = true then (rosterlaw12_FilterEquals.j0 k l0 l1 true) else ((filter_Equal.f l1 l0).bind fun t121 => ((rosterref12_Equal.f k l0 l1).bind fun t122 => (rosterlaw12_FilterEquals.j0 k l0 l1 (t121 != t122))))))) = some r := h
  clear h
  have HC3 := Aside0.mk H
  clear H
  go_enter Try.func3, Try.ntmps3
  go_upto_region 1 with (fail)
  go_cut [20] (fun v20 wc => ∃ (kq : Nat) (x20_2 : Bool), v20 = .bool x20_2 ∧ Aside0 (rosterlaw12_FilterEquals.j0 kq l0 l1 x20_2 = some r) ∧ Aside0 (kq ≤ k) ∧ Aside0 (Below w.heap.size w wc))
  case first =>
    have H := HC3.out
    clear HC3
    replace H := Option.bind_eq_some_iff.mp H
    obtain ⟨t119, A40, H⟩ := H
    replace H : ((rosterref12_Equal.f k l0 l1).bind fun t120 => (if (t119 != t120) = true then (rosterlaw12_FilterEquals.j0 k l0 l1 true) else ((filter_Equal.f l1 l0).bind fun t121 => ((rosterref12_Equal.f k l0 l1).bind fun t122 => (rosterlaw12_FilterEquals.j0 k l0 l1 (t121 != t122)))))) = some r := H
    have A4 := Aside0.mk A40
    clear A40
    replace H := Option.bind_eq_some_iff.mp H
    obtain ⟨t120, A50, H⟩ := H
    replace H : (if (t119 != t120) = true then (rosterlaw12_FilterEquals.j0 k l0 l1 true) else ((filter_Equal.f l1 l0).bind fun t121 => ((rosterref12_Equal.f k l0 l1).bind fun t122 => (rosterlaw12_FilterEquals.j0 k l0 l1 (t121 != t122))))) = some r := H
    have A5 := Aside0.mk A50
    clear A50
    by_cases c6 : (t119 != t120) = true
    · rw [if_pos c6] at H
      have c6b0 : (t119 != t120) = true := c6
      (try (have c6b1 : decide (t119 = t120) = false := by simpa using c6))
      (try (have c6b2 : (t119 == t120) = false := by simpa using c6))
      (try (have c6b3 : ¬ (t119 = t120) := by simpa using c6))
      clear c6
      (first | rw [c6b0] | (simp only [i64_w, i32_w]; rw [c6b0]) | skip)
      have H' := Aside0.mk H
      clear H
      go_wp2_with (first | ((with_reducible refine gate_callee (f := 4) rfl ?_); refine goesL_ (some 7) rfl rfl Try.func4 (by kernel_rfl) rfl #[.slice A0 l0.length c0, .slice A1 l1.length c1] rfl (by (try simp only [List.map_toArray, List.map_cons, List.map_nil]); first | done | rfl | (simp only [List.length_drop, List.length_take]; rfl)) ?_; (with_reducible refine (filter_Equal.calls _ _ l0 _ _ l1 t119 _ ?side1 ?side2 ?side3 ?side4 A4.out).mono ?_); (case side1 => repeat (first | exact (Kd.C_below HR0.out HB.out) | (with_reducible refine Kd.C_alloc ?_ _) | (with_reducible refine Kd.C_drewN ?_ _) | (with_reducible refine Kd.C_drew ?_))); (case side2 => exact HC0.out); (case side3 => repeat (first | exact (Kd.C_below HR1.out HB.out) | (with_reducible refine Kd.C_alloc ?_ _) | (with_reducible refine Kd.C_drewN ?_ _) | (with_reducible refine Kd.C_drew ?_))); (case side4 => exact HC1.out); rintro e w7 ⟨rfl, hb⟩; refine ⟨_, rfl, ?_⟩; have n0_ := Aside0.mk (below_step (by repeat (first | (with_reducible first | exact HB.out | apply below_alloc | apply pw_below_drewN | apply below_drew1) | exact HB.out)) hb); clear HB; have HB := n0_; clear n0_; (try clear hb); (try clear hb2); (try clear hk); (try clear hi)) | ((with_reducible refine gate_callee (f := 5) rfl ?_); refine goesL_ (some 10) rfl rfl Try.func5 (by kernel_rfl) rfl #[.slice A0 l0.length c0, .slice A1 l1.length c1] rfl (by (try simp only [List.map_toArray, List.map_cons, List.map_nil]); first | done | rfl | (simp only [List.length_drop, List.length_take]; rfl)) ?_; (with_reducible refine (rosterref12_Equal.calls k _ _ l0 _ _ l1 t120 _ ?side1 ?side2 ?side3 ?side4 A5.out).mono ?_); (case side1 => repeat (first | exact (Kd.C_below HR0.out HB.out) | (with_reducible refine Kd.C_alloc ?_ _) | (with_reducible refine Kd.C_drewN ?_ _) | (with_reducible refine Kd.C_drew ?_))); (case side2 => exact HC0.out); (case side3 => repeat (first | exact (Kd.C_below HR1.out HB.out) | (with_reducible refine Kd.C_alloc ?_ _) | (with_reducible refine Kd.C_drewN ?_ _) | (with_reducible refine Kd.C_drew ?_))); (case side4 => exact HC1.out); rintro e w8 ⟨rfl, hb⟩; refine ⟨_, rfl, ?_⟩; have n0_ := Aside0.mk (below_step (by repeat (first | (with_reducible first | exact HB.out | apply below_alloc | apply pw_below_drewN | apply below_drew1) | exact HB.out)) hb); clear HB; have HB := n0_; clear n0_; (try clear hb); (try clear hb2); (try clear hk); (try clear hi)))
      go_meet
      case rel => exact ⟨_, (true), (by first | rfl | (simp; done) | (simp [*]; done) | (simp [show ∀ l_ : List UInt8, l_.isEmpty = !(l_ != []) from fun l_ => by cases l_ <;> rfl]; done)), H', ⟨by first | omega | exact Nat.le_refl _⟩, ⟨by repeat (first | (with_reducible first | exact HB.out | apply below_alloc | apply pw_below_drewN | apply below_drew1) | exact HB.out)⟩⟩
    · rw [if_neg c6] at H
      have c6b0 : (t119 != t120) = false := by simpa using c6
      (try (have c6b1 : decide (t119 = t120) = true := by simpa using c6))
      (try (have c6b2 : (t119 == t120) = true := by simpa using c6))
      clear c6
      (first | rw [c6b0] | (simp only [i64_w, i32_w]; rw [c6b0]) | skip)
      replace H := Option.bind_eq_some_iff.mp H
      obtain ⟨t121, A90, H⟩ := H
      replace H : ((rosterref12_Equal.f k l0 l1).bind fun t122 => (rosterlaw12_FilterEquals.j0 k l0 l1 (t121 != t122))) = some r := H
      have A9 := Aside0.mk A90
      clear A90
      replace H := Option.bind_eq_some_iff.mp H
      obtain ⟨t122, A100, H⟩ := H
      replace H : (rosterlaw12_FilterEquals.j0 k l0 l1 (t121 != t122)) = some r := H
      have A10 := Aside0.mk A100
      clear A100
      have H' := Aside0.mk H
      clear H
      go_wp2_with (first | ((with_reducible refine gate_callee (f := 4) rfl ?_); refine goesL_ (some 7) rfl rfl Try.func4 (by kernel_rfl) rfl #[.slice A0 l0.length c0, .slice A1 l1.length c1] rfl (by (try simp only [List.map_toArray, List.map_cons, List.map_nil]); first | done | rfl | (simp only [List.length_drop, List.length_take]; rfl)) ?_; (with_reducible refine (filter_Equal.calls _ _ l0 _ _ l1 t119 _ ?side1 ?side2 ?side3 ?side4 A4.out).mono ?_); (case side1 => repeat (first | exact (Kd.C_below HR0.out HB.out) | (with_reducible refine Kd.C_alloc ?_ _) | (with_reducible refine Kd.C_drewN ?_ _) | (with_reducible refine Kd.C_drew ?_))); (case side2 => exact HC0.out); (case side3 => repeat (first | exact (Kd.C_below HR1.out HB.out) | (with_reducible refine Kd.C_alloc ?_ _) | (with_reducible refine Kd.C_drewN ?_ _) | (with_reducible refine Kd.C_drew ?_))); (case side4 => exact HC1.out); rintro e w11 ⟨rfl, hb⟩; refine ⟨_, rfl, ?_⟩; have n0_ := Aside0.mk (below_step (by repeat (first | (with_reducible first | exact HB.out | apply below_alloc | apply pw_below_drewN | apply below_drew1) | exact HB.out)) hb); clear HB; have HB := n0_; clear n0_; (try clear hb); (try clear hb2); (try clear hk); (try clear hi)) | ((with_reducible refine gate_callee (f := 5) rfl ?_); refine goesL_ (some 10) rfl rfl Try.func5 (by kernel_rfl) rfl #[.slice A0 l0.length c0, .slice A1 l1.length c1] rfl (by (try simp only [List.map_toArray, List.map_cons, List.map_nil]); first | done | rfl | (simp only [List.length_drop, List.length_take]; rfl)) ?_; (with_reducible refine (rosterref12_Equal.calls k _ _ l0 _ _ l1 t120 _ ?side1 ?side2 ?side3 ?side4 A5.out).mono ?_); (case side1 => repeat (first | exact (Kd.C_below HR0.out HB.out) | (with_reducible refine Kd.C_alloc ?_ _) | (with_reducible refine Kd.C_drewN ?_ _) | (with_reducible refine Kd.C_drew ?_))); (case side2 => exact HC0.out); (case side3 => repeat (first | exact (Kd.C_below HR1.out HB.out) | (with_reducible refine Kd.C_alloc ?_ _) | (with_reducible refine Kd.C_drewN ?_ _) | (with_reducible refine Kd.C_drew ?_))); (case side4 => exact HC1.out); rintro e w12 ⟨rfl, hb⟩; refine ⟨_, rfl, ?_⟩; have n0_ := Aside0.mk (below_step (by repeat (first | (with_reducible first | exact HB.out | apply below_alloc | apply pw_below_drewN | apply below_drew1) | exact HB.out)) hb); clear HB; have HB := n0_; clear n0_; (try clear hb); (try clear hb2); (try clear hk); (try clear hi)) | (go_at_call 4; (with_reducible refine (filter_Equal.calls _ _ l1 _ _ l0 t121 _ ?side1 ?side2 ?side3 ?side4 A9.out).mono ?_); (case side1 => repeat (first | exact (Kd.C_below HR1.out HB.out) | (with_reducible refine Kd.C_alloc ?_ _) | (with_reducible refine Kd.C_drewN ?_ _) | (with_reducible refine Kd.C_drew ?_))); (case side2 => exact HC1.out); (case side3 => repeat (first | exact (Kd.C_below HR0.out HB.out) | (with_reducible refine Kd.C_alloc ?_ _) | (with_reducible refine Kd.C_drewN ?_ _) | (with_reducible refine Kd.C_drew ?_))); (case side4 => exact HC0.out); rintro e w13 ⟨rfl, hb⟩; have n0_ := Aside0.mk (below_step (by repeat (first | (with_reducible first | exact HB.out | apply below_alloc | apply pw_below_drewN | apply below_drew1) | exact HB.out)) hb); clear HB; have HB := n0_; clear n0_; (try clear hb); (try clear hb2); (try clear hk); (try clear hi)) | (go_at_call 5; (with_reducible refine (rosterref12_Equal.calls k _ _ l0 _ _ l1 t122 _ ?side1 ?side2 ?side3 ?side4 A10.out).mono ?_); (case side1 => repeat (first | exact (Kd.C_below HR0.out HB.out) | (with_reducible refine Kd.C_alloc ?_ _) | (with_reducible refine Kd.C_drewN ?_ _) | (with_reducible refine Kd.C_drew ?_))); (case side2 => exact HC0.out); (case side3 => repeat (first | exact (Kd.C_below HR1.out HB.out) | (with_reducible refine Kd.C_alloc ?_ _) | (with_reducible refine Kd.C_drewN ?_ _) | (with_reducible refine Kd.C_drew ?_))); (case side4 => exact HC1.out); rintro e w14 ⟨rfl, hb⟩; have n0_ := Aside0.mk (below_step (by repeat (first | (with_reducible first | exact HB.out | apply below_alloc | apply pw_below_drewN | apply below_drew1) | exact HB.out)) hb); clear HB; have HB := n0_; clear n0_; (try clear hb); (try clear hb2); (try clear hk); (try clear hi)))
      go_meet
      case rel => exact ⟨_, ((t121 != t122)), (by first | rfl | (simp; done) | (simp [*]; done) | (simp [show ∀ l_ : List UInt8, l_.isEmpty = !(l_ != []) from fun l_ => by cases l_ <;> rfl]; done)), H', ⟨by first | omega | exact Nat.le_refl _⟩, ⟨by repeat (first | (with_reducible first | exact HB.out | apply below_alloc | apply pw_below_drewN | apply below_drew1) | exact HB.out)⟩⟩
  case rest =>
    clear HC3
    try clear c1
    try clear p2
    try clear c3
    try clear c4
    try clear c5
    try clear c6
    try clear c6b0
    try clear c6b1
    try clear c6b2
    obtain ⟨kq, x20_2, rfl, HA, HJ2, HB⟩ := hcut
    cases kq with
    | zero => exact absurd HA.out (by simp [rosterlaw12_FilterEquals.j0])
    | succ kj2 =>
      have H := HA.out
      clear HA
      simp only [rosterlaw12_FilterEquals.j0] at H
      by_cases c15 : x20_2 = true
      · subst c15
        have H1 : (some false) = some r := by rw [if_pos rfl] at H; exact H
        clear H
        have H := H1
        clear H1
        obtain rfl := Option.some.inj H
        go_wp2
        go_ret
        exact ⟨by first | rfl | (simp [errW_none, errW_some] <;> rfl) | (simp [*, errW_none, errW_some] <;> rfl), by repeat (first | (with_reducible first | exact HB.out | apply below_alloc | apply pw_below_drewN | apply below_drew1) | exact HB.out)⟩
      · replace c15 := Bool.eq_false_iff.mpr c15
        subst c15
        have H1 : ((rosterlaw12_copied.f kj2 l0).bind fun t123 => ((filter_Equal.f l0 t123).bind fun t126 => (if t126 = true then ((rosterlaw12_copied.f kj2 l1).bind fun t127 => ((filter_Equal.f t127 l1).bind fun t130 => (if t130 = true then ((rosterlaw12_copied.f kj2 l0).bind fun t131 => (if t131.length < 1099511627776 then ((filter_Equal.f l0 (t131 ++ [(⟨0, 0, (⟨#[]⟩ : ByteArray), (⟨#[]⟩ : ByteArray), (⟨(⟨#[]⟩ : ByteArray), ([] : List ByteArray), (⟨#[]⟩ : ByteArray)⟩ : S29), (⟨#[]⟩ : ByteArray), false⟩ : S31)])).bind fun t137 => (some (!t137))) else (none))) else (some false)))) else (some false)))) = some r := by rw [if_neg (show ¬ (false = true) by decide)] at H; exact H
        clear H
        have H := H1
        clear H1
        replace H := Option.bind_eq_some_iff.mp H
        obtain ⟨t123, A160, H⟩ := H
        replace H : ((filter_Equal.f l0 t123).bind fun t126 => (if t126 = true then ((rosterlaw12_copied.f kj2 l1).bind fun t127 => ((filter_Equal.f t127 l1).bind fun t130 => (if t130 = true then ((rosterlaw12_copied.f kj2 l0).bind fun t131 => (if t131.length < 1099511627776 then ((filter_Equal.f l0 (t131 ++ [(⟨0, 0, (⟨#[]⟩ : ByteArray), (⟨#[]⟩ : ByteArray), (⟨(⟨#[]⟩ : ByteArray), ([] : List ByteArray), (⟨#[]⟩ : ByteArray)⟩ : S29), (⟨#[]⟩ : ByteArray), false⟩ : S31)])).bind fun t137 => (some (!t137))) else (none))) else (some false)))) else (some false))) = some r := H
        have A16 := Aside0.mk A160
        clear A160
        replace H := Option.bind_eq_some_iff.mp H
        obtain ⟨t126, A170, H⟩ := H
        replace H : (if t126 = true then ((rosterlaw12_copied.f kj2 l1).bind fun t127 => ((filter_Equal.f t127 l1).bind fun t130 => (if t130 = true then ((rosterlaw12_copied.f kj2 l0).bind fun t131 => (if t131.length < 1099511627776 then ((filter_Equal.f l0 (t131 ++ [(⟨0, 0, (⟨#[]⟩ : ByteArray), (⟨#[]⟩ : ByteArray), (⟨(⟨#[]⟩ : ByteArray), ([] : List ByteArray), (⟨#[]⟩ : ByteArray)⟩ : S29), (⟨#[]⟩ : ByteArray), false⟩ : S31)])).bind fun t137 => (some (!t137))) else (none))) else (some false)))) else (some false)) = some r := H
        have A17 := Aside0.mk A170
        clear A170
        by_cases c18 : t126 = true
        · subst c18
          have H1 : ((rosterlaw12_copied.f kj2 l1).bind fun t127 => ((filter_Equal.f t127 l1).bind fun t130 => (if t130 = true then ((rosterlaw12_copied.f kj2 l0).bind fun t131 => (if t131.length < 1099511627776 then ((filter_Equal.f l0 (t131 ++ [(⟨0, 0, (⟨#[]⟩ : ByteArray), (⟨#[]⟩ : ByteArray), (⟨(⟨#[]⟩ : ByteArray), ([] : List ByteArray), (⟨#[]⟩ : ByteArray)⟩ : S29), (⟨#[]⟩ : ByteArray), false⟩ : S31)])).bind fun t137 => (some (!t137))) else (none))) else (some false)))) = some r := by rw [if_pos rfl] at H; exact H
          clear H
          have H := H1
          clear H1
          replace H := Option.bind_eq_some_iff.mp H
          obtain ⟨t127, A190, H⟩ := H
          replace H : ((filter_Equal.f t127 l1).bind fun t130 => (if t130 = true then ((rosterlaw12_copied.f kj2 l0).bind fun t131 => (if t131.length < 1099511627776 then ((filter_Equal.f l0 (t131 ++ [(⟨0, 0, (⟨#[]⟩ : ByteArray), (⟨#[]⟩ : ByteArray), (⟨(⟨#[]⟩ : ByteArray), ([] : List ByteArray), (⟨#[]⟩ : ByteArray)⟩ : S29), (⟨#[]⟩ : ByteArray), false⟩ : S31)])).bind fun t137 => (some (!t137))) else (none))) else (some false))) = some r := H
          have A19 := Aside0.mk A190
          clear A190
          replace H := Option.bind_eq_some_iff.mp H
          obtain ⟨t130, A200, H⟩ := H
          replace H : (if t130 = true then ((rosterlaw12_copied.f kj2 l0).bind fun t131 => (if t131.length < 1099511627776 then ((filter_Equal.f l0 (t131 ++ [(⟨0, 0, (⟨#[]⟩ : ByteArray), (⟨#[]⟩ : ByteArray), (⟨(⟨#[]⟩ : ByteArray), ([] : List ByteArray), (⟨#[]⟩ : ByteArray)⟩ : S29), (⟨#[]⟩ : ByteArray), false⟩ : S31)])).bind fun t137 => (some (!t137))) else (none))) else (some false)) = some r := H
          have A20 := Aside0.mk A200
          clear A200
          by_cases c21 : t130 = true
          · subst c21
            have H1 : ((rosterlaw12_copied.f kj2 l0).bind fun t131 => (if t131.length < 1099511627776 then ((filter_Equal.f l0 (t131 ++ [(⟨0, 0, (⟨#[]⟩ : ByteArray), (⟨#[]⟩ : ByteArray), (⟨(⟨#[]⟩ : ByteArray), ([] : List ByteArray), (⟨#[]⟩ : ByteArray)⟩ : S29), (⟨#[]⟩ : ByteArray), false⟩ : S31)])).bind fun t137 => (some (!t137))) else (none))) = some r := by rw [if_pos rfl] at H; exact H
            clear H
            have H := H1
            clear H1
            replace H := Option.bind_eq_some_iff.mp H
            obtain ⟨t131, A220, H⟩ := H
            replace H : (if t131.length < 1099511627776 then ((filter_Equal.f l0 (t131 ++ [(⟨0, 0, (⟨#[]⟩ : ByteArray), (⟨#[]⟩ : ByteArray), (⟨(⟨#[]⟩ : ByteArray), ([] : List ByteArray), (⟨#[]⟩ : ByteArray)⟩ : S29), (⟨#[]⟩ : ByteArray), false⟩ : S31)])).bind fun t137 => (some (!t137))) else (none)) = some r := H
            have A22 := Aside0.mk A220
            clear A220
            by_cases c23 : t131.length < 1099511627776
            · rw [if_pos c23] at H
              have LMc23 := Aside0.mk c23
              clear c23
              obtain ⟨y134, hy134⟩ : ∃ y_ : List (S31), y_ = (t131 ++ [(⟨0, 0, (⟨#[]⟩ : ByteArray), (⟨#[]⟩ : ByteArray), (⟨(⟨#[]⟩ : ByteArray), ([] : List ByteArray), (⟨#[]⟩ : ByteArray)⟩ : S29), (⟨#[]⟩ : ByteArray), false⟩ : S31)]) := ⟨_, rfl⟩
              replace H : ((filter_Equal.f l0 y134).bind fun t137 => (some (!t137))) = some r := by first | (rw [hy134]; with_reducible exact H) | (have H2_ := (Option.bind_some _ _).symm.trans H; rw [hy134]; with_reducible exact H2_) | (have H2_ := (Option.bind_some _ _).symm.trans H; with_reducible exact H2_) | with_reducible exact H | (rw [hy134]; exact H) | exact H
              have Ny134 := Aside0.mk hy134
              clear hy134
              replace H := Option.bind_eq_some_iff.mp H
              obtain ⟨t137, A240, H⟩ := H
              replace H : (some (!t137)) = some r := H
              have A24 := Aside0.mk A240
              clear A240
              obtain rfl := Option.some.inj H
              go_wp2_with (first | ((with_reducible refine gate_callee (f := 6) rfl ?_); refine goesL_ (some 23) rfl rfl Try.func6 (by kernel_rfl) rfl #[.slice A0 l0.length c0] rfl (by (try simp only [List.map_toArray, List.map_cons, List.map_nil]); first | done | rfl | (simp only [List.length_drop, List.length_take]; rfl)) ?_; (with_reducible refine (rosterlaw12_copied.calls kj2 _ _ l0 t123 _ ?side1 ?side2 A16.out).mono ?_); (case side1 => repeat (first | exact (Kd.C_below HR0.out HB.out) | (with_reducible refine Kd.C_alloc ?_ _) | (with_reducible refine Kd.C_drewN ?_ _) | (with_reducible refine Kd.C_drew ?_))); (case side2 => exact HC0.out); rintro e w25 ⟨v124, rfl, ho0, hb⟩; refine ⟨_, rfl, ?_⟩; have n0_ := Aside0.mk (Kd.S_lower ho0 (below_size (by repeat (first | (with_reducible first | exact HB.out | apply below_alloc | apply pw_below_drewN | apply below_drew1) | exact HB.out)))); have n1_ := Aside0.mk (below_step (by repeat (first | (with_reducible first | exact HB.out | apply below_alloc | apply pw_below_drewN | apply below_drew1) | exact HB.out)) hb); clear HB; have HO125 := n0_; have HB := n1_; clear n0_ n1_; (try clear hb); (try clear hb2); (try clear hk); (try clear hi); (try clear ho0); obtain ⟨Ao26, co26, eo26⟩ := Kd.S_slice HO125.out; subst eo26) | ((with_reducible refine gate_callee (f := 4) rfl ?_); refine goesL_ (some 24) rfl rfl Try.func4 (by kernel_rfl) rfl #[.slice A0 l0.length c0, .slice Ao26 t123.length co26] rfl (by (try simp only [List.map_toArray, List.map_cons, List.map_nil]); first | done | rfl | (simp only [List.length_drop, List.length_take]; rfl)) ?_; (with_reducible refine (filter_Equal.calls _ _ l0 _ _ t123 true _ ?side1 ?side2 ?side3 ?side4 A17.out).mono ?_); (case side1 => repeat (first | exact (Kd.C_below HR0.out HB.out) | (with_reducible refine Kd.C_alloc ?_ _) | (with_reducible refine Kd.C_drewN ?_ _) | (with_reducible refine Kd.C_drew ?_))); (case side2 => exact HC0.out); (case side3 => repeat (first | exact (Kd.S_reads' HO125.out).2.2 | (with_reducible refine Kd.C_alloc ?_ _) | (with_reducible refine Kd.C_drewN ?_ _) | (with_reducible refine Kd.C_drew ?_))); (case side4 => exact (Kd.S_reads' HO125.out).2.1); rintro e w27 ⟨rfl, hb⟩; refine ⟨_, rfl, ?_⟩; have n0_ := Aside0.mk (Kd.S_below (by (with_reducible repeat (first | apply Kd.S_alloc | apply Kd.S_drewN | apply Kd.S_drew)); exact HO125.out) hb); have n1_ := Aside0.mk (below_step (by repeat (first | (with_reducible first | exact HB.out | apply below_alloc | apply pw_below_drewN | apply below_drew1) | exact HB.out)) hb); clear HO125; clear HB; have HO125 := n0_; have HB := n1_; clear n0_ n1_; (try clear hb); (try clear hb2); (try clear hk); (try clear hi)) | (go_at_call 6; (with_reducible refine (rosterlaw12_copied.calls kj2 _ _ l1 t127 _ ?side1 ?side2 A19.out).mono ?_); (case side1 => repeat (first | exact (Kd.C_below HR1.out HB.out) | (with_reducible refine Kd.C_alloc ?_ _) | (with_reducible refine Kd.C_drewN ?_ _) | (with_reducible refine Kd.C_drew ?_))); (case side2 => exact HC1.out); rintro e w28 ⟨v128, rfl, ho0, hb⟩; have n0_ := Aside0.mk (Kd.S_elder' (by (with_reducible repeat (first | apply Kd.S_alloc | apply Kd.S_drewN | apply Kd.S_drew)); exact HO125.out) (Kd.S_base ho0) hb); have n1_ := Aside0.mk (Kd.S_lower (Kd.S_new' ho0 (Kd.S_lt (by (with_reducible repeat (first | apply Kd.S_alloc | apply Kd.S_drewN | apply Kd.S_drew)); exact HO125.out))) (below_size (by repeat (first | (with_reducible first | exact HB.out | apply below_alloc | apply pw_below_drewN | apply below_drew1) | exact HB.out)))); have n2_ := Aside0.mk (below_step (by repeat (first | (with_reducible first | exact HB.out | apply below_alloc | apply pw_below_drewN | apply below_drew1) | exact HB.out)) hb); clear HO125; clear HB; have HO125 := n0_; have HO129 := n1_; have HB := n2_; clear n0_ n1_ n2_; (try clear hb); (try clear hb2); (try clear hk); (try clear hi); (try clear ho0); obtain ⟨Ao29, co29, eo29⟩ := Kd.S_slice HO129.out; subst eo29) | (go_at_call 4; (with_reducible refine (filter_Equal.calls _ _ t127 _ _ l1 true _ ?side1 ?side2 ?side3 ?side4 A20.out).mono ?_); (case side1 => repeat (first | exact (Kd.S_reads' HO129.out).2.2 | (with_reducible refine Kd.C_alloc ?_ _) | (with_reducible refine Kd.C_drewN ?_ _) | (with_reducible refine Kd.C_drew ?_))); (case side2 => exact (Kd.S_reads' HO129.out).2.1); (case side3 => repeat (first | exact (Kd.C_below HR1.out HB.out) | (with_reducible refine Kd.C_alloc ?_ _) | (with_reducible refine Kd.C_drewN ?_ _) | (with_reducible refine Kd.C_drew ?_))); (case side4 => exact HC1.out); rintro e w30 ⟨rfl, hb⟩; have n0_ := Aside0.mk (Kd.S_below (by (with_reducible repeat (first | apply Kd.S_alloc | apply Kd.S_drewN | apply Kd.S_drew)); exact HO125.out) hb); have n1_ := Aside0.mk (Kd.S_below (by (with_reducible repeat (first | apply Kd.S_alloc | apply Kd.S_drewN | apply Kd.S_drew)); exact HO129.out) hb); have n2_ := Aside0.mk (below_step (by repeat (first | (with_reducible first | exact HB.out | apply below_alloc | apply pw_below_drewN | apply below_drew1) | exact HB.out)) hb); clear HO125; clear HO129; clear HB; have HO125 := n0_; have HO129 := n1_; have HB := n2_; clear n0_ n1_ n2_; (try clear hb); (try clear hb2); (try clear hk); (try clear hi)) | (go_at_call 6; (with_reducible refine (rosterlaw12_copied.calls kj2 _ _ l0 t131 _ ?side1 ?side2 A22.out).mono ?_); (case side1 => repeat (first | exact (Kd.C_below HR0.out HB.out) | (with_reducible refine Kd.C_alloc ?_ _) | (with_reducible refine Kd.C_drewN ?_ _) | (with_reducible refine Kd.C_drew ?_))); (case side2 => exact HC0.out); rintro e w31 ⟨v132, rfl, ho0, hb⟩; have n0_ := Aside0.mk (Kd.S_elder' (by (with_reducible repeat (first | apply Kd.S_alloc | apply Kd.S_drewN | apply Kd.S_drew)); exact HO125.out) (Kd.S_base ho0) hb); have n1_ := Aside0.mk (Kd.S_elder' (by (with_reducible repeat (first | apply Kd.S_alloc | apply Kd.S_drewN | apply Kd.S_drew)); exact HO129.out) (Kd.S_base ho0) hb); have n2_ := Aside0.mk (Kd.S_lower (Kd.S_new' (Kd.S_new' ho0 (Kd.S_lt (by (with_reducible repeat (first | apply Kd.S_alloc | apply Kd.S_drewN | apply Kd.S_drew)); exact HO125.out))) (Kd.S_lt (by (with_reducible repeat (first | apply Kd.S_alloc | apply Kd.S_drewN | apply Kd.S_drew)); exact HO129.out))) (below_size (by repeat (first | (with_reducible first | exact HB.out | apply below_alloc | apply pw_below_drewN | apply below_drew1) | exact HB.out)))); have n3_ := Aside0.mk (below_step (by repeat (first | (with_reducible first | exact HB.out | apply below_alloc | apply pw_below_drewN | apply below_drew1) | exact HB.out)) hb); clear HO125; clear HO129; clear HB; have HO125 := n0_; have HO129 := n1_; have HO133 := n2_; have HB := n3_; clear n0_ n1_ n2_ n3_; (try clear hb); (try clear hb2); (try clear hk); (try clear hi); (try clear ho0)) | ((with_reducible refine gate_builtin (b := .append) (xs := #[.tmp 34, .tmp 36]) rfl ?_); (try (refine gate_guard (by rfl) ?_; dsimp only)); at_builtin; refine Kd.S_append k31 (w0 := w) w.heap.size rfl (.tmp 34) (.tmp 36) 23 31 (.agg #[(.int .i64 0), (.int .i64 0), (.string ⟨#[]⟩), (.string ⟨#[]⟩), (.string ⟨#[]⟩), (.slice none 0 0), (.string ⟨#[]⟩), (.string ⟨#[]⟩), (.bool false)]) 128 rfl Try.underlying23 info31 rfl (by decide) (by omega) v132 t131 (⟨0, 0, (⟨#[]⟩ : ByteArray), (⟨#[]⟩ : ByteArray), (⟨(⟨#[]⟩ : ByteArray), ([] : List ByteArray), (⟨#[]⟩ : ByteArray)⟩ : S29), (⟨#[]⟩ : ByteArray), false⟩ : S31) [.int .i64 0, .int .i64 0, .string (⟨#[]⟩ : ByteArray), .string (⟨#[]⟩ : ByteArray), .string (⟨#[]⟩ : ByteArray), .slice none 0 0, .string (⟨#[]⟩ : ByteArray), .string (⟨#[]⟩ : ByteArray), .bool false] (fun k_ => some k_ ≠ (.slice Ao26 t123.length co26 : Value).ownBlock ∧ some k_ ≠ (.slice Ao29 t127.length co29 : Value).ownBlock) (fun _ => False) rfl rfl ?aP (fun k_ hk_ => hk_.elim) ?aF ?aO ?aB ?aS ?aL ?_; (case aP => exact k31_mkM _ _ _ (⟨0, 0, (⟨#[]⟩ : ByteArray), (⟨#[]⟩ : ByteArray), (⟨(⟨#[]⟩ : ByteArray), ([] : List ByteArray), (⟨#[]⟩ : ByteArray)⟩ : S29), (⟨#[]⟩ : ByteArray), false⟩ : S31) (Kd.R_nil _ _ _ _ _)); (case aB => exact (by repeat (first | (with_reducible first | exact HB.out | apply below_alloc | apply pw_below_drewN | apply below_drew1) | exact HB.out))); (case aF => exact (fun k_ hk => ⟨Kd.fresh' (Kd.S_lt (by (with_reducible repeat (first | apply Kd.S_alloc | apply Kd.S_drewN | apply Kd.S_drew)); exact HO125.out)) k_ hk, Kd.fresh' (Kd.S_lt (by (with_reducible repeat (first | apply Kd.S_alloc | apply Kd.S_drewN | apply Kd.S_drew)); exact HO129.out)) k_ hk⟩)); (case aO => exact (by (with_reducible repeat (first | apply Kd.S_alloc | apply Kd.S_drewN | apply Kd.S_drew)); exact Kd.S_mono HO133.out (fun k_ hk => ⟨⟨hk.1.2, hk.2⟩, fun e_ => e_⟩))); (case aS => exact (below_size (by repeat (first | (with_reducible first | exact HB.out | apply below_alloc | apply pw_below_drewN | apply below_drew1) | exact HB.out)))); (case aL => have := LMc23.out; omega); intro v135 w32 ho hb hg hat; rw [← Ny134.out] at ho; have n0_ := Aside0.mk (Kd.S_after (ok := (fun k_ => some k_ ≠ (.slice Ao29 t127.length co29 : Value).ownBlock)) (by (with_reducible repeat (first | apply Kd.S_alloc | apply Kd.S_drewN | apply Kd.S_drew)); exact Kd.S_mono HO125.out (fun _ hk => ⟨hk.1.2, hk.2⟩)) hg hat); have n1_ := Aside0.mk (Kd.S_after (ok := (fun k_ => some k_ ≠ (.slice Ao26 t123.length co26 : Value).ownBlock)) (by (with_reducible repeat (first | apply Kd.S_alloc | apply Kd.S_drewN | apply Kd.S_drew)); exact Kd.S_mono HO129.out (fun _ hk => ⟨hk.1.2, hk.2⟩)) hg hat); have n2_ := Aside0.mk (hb); have n3_ := Aside0.mk (ho); clear HO125; clear HO129; clear HB; clear HO133; have HO125 := n0_; have HO129 := n1_; have HB := n2_; have HO136 := n3_; clear n0_ n1_ n2_ n3_; clear ho hb hg hat; obtain ⟨Ao33, co33, eo33⟩ := Kd.S_slice HO136.out; subst eo33) | (go_at_call 4; (with_reducible refine (filter_Equal.calls _ _ l0 _ _ y134 t137 _ ?side1 ?side2 ?side3 ?side4 A24.out).mono ?_); (case side1 => repeat (first | exact (Kd.C_below HR0.out HB.out) | (with_reducible refine Kd.C_alloc ?_ _) | (with_reducible refine Kd.C_drewN ?_ _) | (with_reducible refine Kd.C_drew ?_))); (case side2 => exact HC0.out); (case side3 => repeat (first | exact (Kd.S_reads' HO136.out).2.2 | (with_reducible refine Kd.C_alloc ?_ _) | (with_reducible refine Kd.C_drewN ?_ _) | (with_reducible refine Kd.C_drew ?_))); (case side4 => exact (Kd.S_reads' HO136.out).2.1); rintro e w34 ⟨rfl, hb⟩; have n0_ := Aside0.mk (Kd.S_below (by (with_reducible repeat (first | apply Kd.S_alloc | apply Kd.S_drewN | apply Kd.S_drew)); exact HO125.out) hb); have n1_ := Aside0.mk (Kd.S_below (by (with_reducible repeat (first | apply Kd.S_alloc | apply Kd.S_drewN | apply Kd.S_drew)); exact HO129.out) hb); have n2_ := Aside0.mk (Kd.S_below (by (with_reducible repeat (first | apply Kd.S_alloc | apply Kd.S_drewN | apply Kd.S_drew)); exact HO136.out) hb); have n3_ := Aside0.mk (below_step (by repeat (first | (with_reducible first | exact HB.out | apply below_alloc | apply pw_below_drewN | apply below_drew1) | exact HB.out)) hb); clear HO125; clear HO129; clear HO136; clear HB; have HO125 := n0_; have HO129 := n1_; have HO136 := n2_; have HB := n3_; clear n0_ n1_ n2_ n3_; (try clear hb); (try clear hb2); (try clear hk); (try clear hi)))
              go_ret
              exact ⟨by first | rfl | (simp [errW_none, errW_some] <;> rfl) | (simp [*, errW_none, errW_some] <;> rfl), by repeat (first | (with_reducible first | exact HB.out | apply below_alloc | apply pw_below_drewN | apply below_drew1) | exact HB.out)⟩
            · rw [if_neg c23] at H
              exact absurd H (by simp)
          · replace c21 := Bool.eq_false_iff.mpr c21
            subst c21
            have H1 : (some false) = some r := by rw [if_neg (show ¬ (false = true) by decide)] at H; exact H
            clear H
            have H := H1
            clear H1
            obtain rfl := Option.some.inj H
            go_wp2_with (first | ((with_reducible refine gate_callee (f := 6) rfl ?_); refine goesL_ (some 23) rfl rfl Try.func6 (by kernel_rfl) rfl #[.slice A0 l0.length c0] rfl (by (try simp only [List.map_toArray, List.map_cons, List.map_nil]); first | done | rfl | (simp only [List.length_drop, List.length_take]; rfl)) ?_; (with_reducible refine (rosterlaw12_copied.calls kj2 _ _ l0 t123 _ ?side1 ?side2 A16.out).mono ?_); (case side1 => repeat (first | exact (Kd.C_below HR0.out HB.out) | (with_reducible refine Kd.C_alloc ?_ _) | (with_reducible refine Kd.C_drewN ?_ _) | (with_reducible refine Kd.C_drew ?_))); (case side2 => exact HC0.out); rintro e w35 ⟨v124, rfl, ho0, hb⟩; refine ⟨_, rfl, ?_⟩; have n0_ := Aside0.mk (Kd.S_lower ho0 (below_size (by repeat (first | (with_reducible first | exact HB.out | apply below_alloc | apply pw_below_drewN | apply below_drew1) | exact HB.out)))); have n1_ := Aside0.mk (below_step (by repeat (first | (with_reducible first | exact HB.out | apply below_alloc | apply pw_below_drewN | apply below_drew1) | exact HB.out)) hb); clear HB; have HO125 := n0_; have HB := n1_; clear n0_ n1_; (try clear hb); (try clear hb2); (try clear hk); (try clear hi); (try clear ho0); obtain ⟨Ao36, co36, eo36⟩ := Kd.S_slice HO125.out; subst eo36) | ((with_reducible refine gate_callee (f := 4) rfl ?_); refine goesL_ (some 24) rfl rfl Try.func4 (by kernel_rfl) rfl #[.slice A0 l0.length c0, .slice Ao36 t123.length co36] rfl (by (try simp only [List.map_toArray, List.map_cons, List.map_nil]); first | done | rfl | (simp only [List.length_drop, List.length_take]; rfl)) ?_; (with_reducible refine (filter_Equal.calls _ _ l0 _ _ t123 true _ ?side1 ?side2 ?side3 ?side4 A17.out).mono ?_); (case side1 => repeat (first | exact (Kd.C_below HR0.out HB.out) | (with_reducible refine Kd.C_alloc ?_ _) | (with_reducible refine Kd.C_drewN ?_ _) | (with_reducible refine Kd.C_drew ?_))); (case side2 => exact HC0.out); (case side3 => repeat (first | exact (Kd.S_reads' HO125.out).2.2 | (with_reducible refine Kd.C_alloc ?_ _) | (with_reducible refine Kd.C_drewN ?_ _) | (with_reducible refine Kd.C_drew ?_))); (case side4 => exact (Kd.S_reads' HO125.out).2.1); rintro e w37 ⟨rfl, hb⟩; refine ⟨_, rfl, ?_⟩; have n0_ := Aside0.mk (Kd.S_below (by (with_reducible repeat (first | apply Kd.S_alloc | apply Kd.S_drewN | apply Kd.S_drew)); exact HO125.out) hb); have n1_ := Aside0.mk (below_step (by repeat (first | (with_reducible first | exact HB.out | apply below_alloc | apply pw_below_drewN | apply below_drew1) | exact HB.out)) hb); clear HO125; clear HB; have HO125 := n0_; have HB := n1_; clear n0_ n1_; (try clear hb); (try clear hb2); (try clear hk); (try clear hi)) | (go_at_call 6; (with_reducible refine (rosterlaw12_copied.calls kj2 _ _ l1 t127 _ ?side1 ?side2 A19.out).mono ?_); (case side1 => repeat (first | exact (Kd.C_below HR1.out HB.out) | (with_reducible refine Kd.C_alloc ?_ _) | (with_reducible refine Kd.C_drewN ?_ _) | (with_reducible refine Kd.C_drew ?_))); (case side2 => exact HC1.out); rintro e w38 ⟨v128, rfl, ho0, hb⟩; have n0_ := Aside0.mk (Kd.S_elder' (by (with_reducible repeat (first | apply Kd.S_alloc | apply Kd.S_drewN | apply Kd.S_drew)); exact HO125.out) (Kd.S_base ho0) hb); have n1_ := Aside0.mk (Kd.S_lower (Kd.S_new' ho0 (Kd.S_lt (by (with_reducible repeat (first | apply Kd.S_alloc | apply Kd.S_drewN | apply Kd.S_drew)); exact HO125.out))) (below_size (by repeat (first | (with_reducible first | exact HB.out | apply below_alloc | apply pw_below_drewN | apply below_drew1) | exact HB.out)))); have n2_ := Aside0.mk (below_step (by repeat (first | (with_reducible first | exact HB.out | apply below_alloc | apply pw_below_drewN | apply below_drew1) | exact HB.out)) hb); clear HO125; clear HB; have HO125 := n0_; have HO129 := n1_; have HB := n2_; clear n0_ n1_ n2_; (try clear hb); (try clear hb2); (try clear hk); (try clear hi); (try clear ho0); obtain ⟨Ao39, co39, eo39⟩ := Kd.S_slice HO129.out; subst eo39) | (go_at_call 4; (with_reducible refine (filter_Equal.calls _ _ t127 _ _ l1 false _ ?side1 ?side2 ?side3 ?side4 A20.out).mono ?_); (case side1 => repeat (first | exact (Kd.S_reads' HO129.out).2.2 | (with_reducible refine Kd.C_alloc ?_ _) | (with_reducible refine Kd.C_drewN ?_ _) | (with_reducible refine Kd.C_drew ?_))); (case side2 => exact (Kd.S_reads' HO129.out).2.1); (case side3 => repeat (first | exact (Kd.C_below HR1.out HB.out) | (with_reducible refine Kd.C_alloc ?_ _) | (with_reducible refine Kd.C_drewN ?_ _) | (with_reducible refine Kd.C_drew ?_))); (case side4 => exact HC1.out); rintro e w40 ⟨rfl, hb⟩; have n0_ := Aside0.mk (Kd.S_below (by (with_reducible repeat (first | apply Kd.S_alloc | apply Kd.S_drewN | apply Kd.S_drew)); exact HO125.out) hb); have n1_ := Aside0.mk (Kd.S_below (by (with_reducible repeat (first | apply Kd.S_alloc | apply Kd.S_drewN | apply Kd.S_drew)); exact HO129.out) hb); have n2_ := Aside0.mk (below_step (by repeat (first | (with_reducible first | exact HB.out | apply below_alloc | apply pw_below_drewN | apply below_drew1) | exact HB.out)) hb); clear HO125; clear HO129; clear HB; have HO125 := n0_; have HO129 := n1_; have HB := n2_; clear n0_ n1_ n2_; (try clear hb); (try clear hb2); (try clear hk); (try clear hi)))
            go_ret
            exact ⟨by first | rfl | (simp [errW_none, errW_some] <;> rfl) | (simp [*, errW_none, errW_some] <;> rfl), by repeat (first | (with_reducible first | exact HB.out | apply below_alloc | apply pw_below_drewN | apply below_drew1) | exact HB.out)⟩
        · replace c18 := Bool.eq_false_iff.mpr c18
          subst c18
          have H1 : (some false) = some r := by rw [if_neg (show ¬ (false = true) by decide)] at H; exact H
          clear H
          have H := H1
          clear H1
          obtain rfl := Option.some.inj H
          go_wp2_with (first | ((with_reducible refine gate_callee (f := 6) rfl ?_); refine goesL_ (some 23) rfl rfl Try.func6 (by kernel_rfl) rfl #[.slice A0 l0.length c0] rfl (by (try simp only [List.map_toArray, List.map_cons, List.map_nil]); first | done | rfl | (simp only [List.length_drop, List.length_take]; rfl)) ?_; (with_reducible refine (rosterlaw12_copied.calls kj2 _ _ l0 t123 _ ?side1 ?side2 A16.out).mono ?_); (case side1 => repeat (first | exact (Kd.C_below HR0.out HB.out) | (with_reducible refine Kd.C_alloc ?_ _) | (with_reducible refine Kd.C_drewN ?_ _) | (with_reducible refine Kd.C_drew ?_))); (case side2 => exact HC0.out); rintro e w41 ⟨v124, rfl, ho0, hb⟩; refine ⟨_, rfl, ?_⟩; have n0_ := Aside0.mk (Kd.S_lower ho0 (below_size (by repeat (first | (with_reducible first | exact HB.out | apply below_alloc | apply pw_below_drewN | apply below_drew1) | exact HB.out)))); have n1_ := Aside0.mk (below_step (by repeat (first | (with_reducible first | exact HB.out | apply below_alloc | apply pw_below_drewN | apply below_drew1) | exact HB.out)) hb); clear HB; have HO125 := n0_; have HB := n1_; clear n0_ n1_; (try clear hb); (try clear hb2); (try clear hk); (try clear hi); (try clear ho0); obtain ⟨Ao42, co42, eo42⟩ := Kd.S_slice HO125.out; subst eo42) | ((with_reducible refine gate_callee (f := 4) rfl ?_); refine goesL_ (some 24) rfl rfl Try.func4 (by kernel_rfl) rfl #[.slice A0 l0.length c0, .slice Ao42 t123.length co42] rfl (by (try simp only [List.map_toArray, List.map_cons, List.map_nil]); first | done | rfl | (simp only [List.length_drop, List.length_take]; rfl)) ?_; (with_reducible refine (filter_Equal.calls _ _ l0 _ _ t123 false _ ?side1 ?side2 ?side3 ?side4 A17.out).mono ?_); (case side1 => repeat (first | exact (Kd.C_below HR0.out HB.out) | (with_reducible refine Kd.C_alloc ?_ _) | (with_reducible refine Kd.C_drewN ?_ _) | (with_reducible refine Kd.C_drew ?_))); (case side2 => exact HC0.out); (case side3 => repeat (first | exact (Kd.S_reads' HO125.out).2.2 | (with_reducible refine Kd.C_alloc ?_ _) | (with_reducible refine Kd.C_drewN ?_ _) | (with_reducible refine Kd.C_drew ?_))); (case side4 => exact (Kd.S_reads' HO125.out).2.1); rintro e w43 ⟨rfl, hb⟩; refine ⟨_, rfl, ?_⟩; have n0_ := Aside0.mk (Kd.S_below (by (with_reducible repeat (first | apply Kd.S_alloc | apply Kd.S_drewN | apply Kd.S_drew)); exact HO125.out) hb); have n1_ := Aside0.mk (below_step (by repeat (first | (with_reducible first | exact HB.out | apply below_alloc | apply pw_below_drewN | apply below_drew1) | exact HB.out)) hb); clear HO125; clear HB; have HO125 := n0_; have HB := n1_; clear n0_ n1_; (try clear hb); (try clear hb2); (try clear hk); (try clear hi)))
          go_ret
          exact ⟨by first | rfl | (simp [errW_none, errW_some] <;> rfl) | (simp [*, errW_none, errW_some] <;> rfl), by repeat (first | (with_reducible first | exact HB.out | apply below_alloc | apply pw_below_drewN | apply below_drew1) | exact HB.out)⟩

end Go.Proofs.Ytackionaiaikdaa.GQ
