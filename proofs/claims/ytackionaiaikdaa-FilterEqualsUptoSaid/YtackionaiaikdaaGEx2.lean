-- Written for this claim by a program of this session (wip/tools/p2.py).
import Derived.Test.YtackionaiaikdaaGEx0
import Derived.Test.YtackionaiaikdaaGEx1
namespace Go.Proofs.Ytackionaiaikdaa.GE
open Go.RowKit Go.Proofs.YtackionaiaikdaaW.PrintWords Go.Proofs.YtackionaiaikdaaW.PrintLast Go.Proofs.YtackionaiaikdaaW.PrintMore
attribute [local go_sem] max2_int min2_int max_two min_two max_three min_three max_four min_four   -- for this text's walks alone
set_option linter.unusedVariables false
set_option linter.unusedSimpArgs false

/-! ### rosterref12_Equal: function 5 -/
def rosterref12_Equal.l0 : Nat → List (S31) → List (S31) → Int → Option (Bool)
  | 0, _, _, _ => none
  | k + 1, x0, x1, x5 => if x5 < (x0.length : Int) then (if 0 ≤ x5 then (if x5 < (x1.length : Int) then ((rosterref12_sameNode.f k ((rd_T31 x0 x5).f0) ((rd_T31 x0 x5).f1) ((rd_T31 x0 x5).f2) ((rd_T31 x0 x5).f3) ((rd_T31 x0 x5).f4.f0) ((rd_T31 x0 x5).f4.f1) ((rd_T31 x0 x5).f4.f2) ((rd_T31 x0 x5).f5) ((rd_T31 x0 x5).f6) ((rd_T31 x1 x5).f0) ((rd_T31 x1 x5).f1) ((rd_T31 x1 x5).f2) ((rd_T31 x1 x5).f3) ((rd_T31 x1 x5).f4.f0) ((rd_T31 x1 x5).f4.f1) ((rd_T31 x1 x5).f4.f2) ((rd_T31 x1 x5).f5) ((rd_T31 x1 x5).f6)).bind fun t107 => (if t107 = true then (rosterref12_Equal.l0 k x0 x1 (wrap64 (x5 + 1))) else (some false))) else (none)) else (none)) else (some true)
def rosterref12_Equal.f (k : Nat) (l0 : List (S31)) (l1 : List (S31)) : Option (Bool) := if (l0.length : Int) = (l1.length : Int) then (rosterref12_Equal.l0 k l0 l1 0) else (some false)
theorem rosterref12_Equal.mono_l : ∀ k, (∀ y0 y1 y2, LeO (rosterref12_Equal.l0 k y0 y1 y2) (rosterref12_Equal.l0 (k + 1) y0 y1 y2))
  | 0 => fun _ _ _ r h => by simp [rosterref12_Equal.l0] at h
  | k + 1 => by
    have ih0 := rosterref12_Equal.mono_l k
    · intro y0 y1 y2
      unfold rosterref12_Equal.l0
      repeat' first
      | (with_reducible exact ih0 _ _ _)
      | (with_reducible exact rosterref12_sameNode.mono _ _ _ _ _ _ _ _ _ _ _ _ _ _ _ _ _ _ _)
      | (with_reducible exact LeO.refl _)
      | (with_reducible exact LeO.none _)
      | (with_reducible refine LeO.ite ?_ ?_)
      | (with_reducible refine LeO.bind ?_ (fun _ => ?_))
      | exact ih0 _ _ _
      | exact rosterref12_sameNode.mono _ _ _ _ _ _ _ _ _ _ _ _ _ _ _ _ _ _ _
      | exact LeO.none _
      | refine LeO.ite ?_ ?_
      | refine LeO.bind ?_ (fun _ => ?_)
theorem rosterref12_Equal.mono : ∀ a0 a1 k, LeO (rosterref12_Equal.f k a0 a1) (rosterref12_Equal.f (k + 1) a0 a1) := by
  intro a0 a1 k
  have ih0 := rosterref12_Equal.mono_l k
  unfold rosterref12_Equal.f
  repeat' first
      | (with_reducible exact ih0 _ _ _)
      | (with_reducible exact rosterref12_sameNode.mono _ _ _ _ _ _ _ _ _ _ _ _ _ _ _ _ _ _ _)
      | (with_reducible exact LeO.refl _)
      | (with_reducible exact LeO.none _)
      | (with_reducible refine LeO.ite ?_ ?_)
      | (with_reducible refine LeO.bind ?_ (fun _ => ?_))
      | exact ih0 _ _ _
      | exact rosterref12_sameNode.mono _ _ _ _ _ _ _ _ _ _ _ _ _ _ _ _ _ _ _
      | exact LeO.none _
      | refine LeO.ite ?_ ?_
      | refine LeO.bind ?_ (fun _ => ?_)
def rosterref12_Equal.T6 : Bool × List (List Nat × List Nat) := (true, [([], []), ([], []), ([0, 1], [0, 1]), ([2], [2]), ([], []), ([], []), ([4, 5], [4, 5]), ([6], [6]), ([3, 7], [3, 7]), ([8], [8])])
def rosterref12_Equal.B6 : List Nat := [0, 0, 3, 7, 0, 0, 48, 112, 255, 511]
theorem rosterref12_Equal.tab6 : rtab .any (opsOf Try.f5 6) = rosterref12_Equal.T6 := by kernel_rfl
theorem rosterref12_Equal.bits6 : waitsOk rosterref12_Equal.T6.2 rosterref12_Equal.B6 = true := by kernel_rfl
set_option maxHeartbeats 8000000 in
set_option maxRecDepth 100000 in
theorem rosterref12_Equal.calls (k : Nat) (A0 : Option Addr) (c0 : Nat) (l0 : List (S31)) (A1 : Option Addr) (c1 : Nat) (l1 : List (S31)) (r : Bool) (w : World) (hr0 : Kd.C k31 w A0 l0.length l0) (hc0 : l0.length ≤ c0) (hr1 : Kd.C k31 w A1 l1.length l1) (hc1 : l1.length ≤ c1) (h : rosterref12_Equal.f k l0 l1 = some r) :
    Calls Try.prog 5 #[.slice A0 l0.length c0, .slice A1 l1.length c1] w fun e w' => e = .returned (.bool r) ∧ Below w.heap.size w w' := by
  have hu31 := Try.underlying31
  have HR0 := Aside0.mk hr0
  have HC0 := Aside0.mk hc0
  clear hr0 hc0
  have HR1 := Aside0.mk hr1
  have HC1 := Aside0.mk hc1
  clear hr1 hc1
  have HB := Aside0.mk (Below.refl w.heap.size w)
  have H : (if (l0.length : Int) = (l1.length : Int) then (rosterref12_Equal.l0 k l0 l1 0) else (some false)) = some r := h
  clear h
  by_cases c3 : (l0.length : Int) = (l1.length : Int)
  · rw [if_pos c3] at H
    have c3b0 : ((l0.length : Int) == (l1.length : Int)) = true := beq_iff_eq.mpr c3
    have c3b1 : ((l0.length : Int) != (l1.length : Int)) = false := bne_eq_false_iff_eq.mpr c3
    have c3b2 : (l0.length == l1.length) = true := by first | simpa using c3 | (simp at c3 ⊢; omega)
    clear c3
    have H' := Aside0.mk H
    clear H
    go_enter Try.func5, Try.ntmps5
    go_wp2
    go_loopg [5] k (fun kq v5 w' => ∃ (x5_1 : Int), v5 = .int .i64 x5_1 ∧ Aside0 (rosterref12_Equal.l0 kq l0 l1 x5_1 = some r) ∧ Aside0 (kq ≤ k) ∧ Aside0 (Below w.heap.size w w'))
    case atStart => exact ⟨(0), (by first | rfl | (simp; done) | (simp [*]; done) | (simp [show ∀ l_ : List UInt8, l_.isEmpty = !(l_ != []) from fun l_ => by cases l_ <;> rfl]; done)), H', ⟨Nat.le_refl _⟩, ⟨by repeat (first | (with_reducible first | exact HB.out | apply below_alloc | apply pw_below_drewN | apply below_drew1) | exact HB.out)⟩⟩
    case round =>
      clear H'
      try clear c1
      try clear p2
      try clear c3
      try clear c3b0
      try clear c3b1
      try clear c3b2
      obtain ⟨x5_1, rfl, HA, HK1, HB⟩ := hrel
      cases gk with
      | zero => exact absurd HA.out (by simp [rosterref12_Equal.l0])
      | succ k1 =>
        have H := HA.out
        clear HA
        simp only [rosterref12_Equal.l0] at H
        by_cases c4 : x5_1 < (l0.length : Int)
        · rw [if_pos c4] at H
          have c4b0 : decide (x5_1 < (l0.length : Int)) = true := decide_eq_true c4
          clear c4
          by_cases c5 : 0 ≤ x5_1
          · rw [if_pos c5] at H
            have c5b0 : decide (0 ≤ x5_1) = true := decide_eq_true c5
            clear c5
            by_cases c6 : x5_1 < (l1.length : Int)
            · rw [if_pos c6] at H
              have c6b0 : decide (x5_1 < (l1.length : Int)) = true := decide_eq_true c6
              clear c6
              replace H := Option.bind_eq_some_iff.mp H
              obtain ⟨t107, A70, H⟩ := H
              replace H : (if t107 = true then (rosterref12_Equal.l0 k1 l0 l1 (wrap64 (x5_1 + 1))) else (some false)) = some r := H
              have A7 := Aside0.mk A70
              clear A70
              by_cases c8 : t107 = true
              · subst c8
                have H1 : (rosterref12_Equal.l0 k1 l0 l1 (wrap64 (x5_1 + 1))) = some r := by rw [if_pos rfl] at H; exact H
                clear H
                have H := H1
                clear H1
                have H' := Aside0.mk H
                clear H
                try go_wp2
                have n0_ := Aside0.mk (below_drew1 HB.out)
                clear HB
                have HB := n0_
                clear n0_
                have p105 : 0 ≤ (x5_1 : Int) := of_decide_eq_true (by first | (with_reducible assumption) | assumption)
                have q105 : x5_1 < (l0.length : Int) := of_decide_eq_true (by first | (with_reducible assumption) | assumption)
                obtain ⟨ad105, A105_5, c105_5, e105, hx105_0, hx105_1, hx105_2, hx105_3, hx105_4, hx105_5, hx105_6, hx105_7, hx105_8, hl105_5, hi105_5⟩ := at_T31 HR0.out x5_1 p105 q105
                have hw105_8 := hx105_8
                have hw105_7 := hx105_7
                have hw105_6 := hx105_6
                have hw105_5 := hx105_5
                have hw105_4 := hx105_4
                have hw105_3 := hx105_3
                have hw105_2 := hx105_2
                have hw105_1 := hx105_1
                have hw105_0 := hx105_0
                cases e105
                replace hx105_0 := (HB.out.cell (World.block_lt_of_cell? w _ hx105_0)).trans hx105_0
                replace hx105_1 := (HB.out.cell (World.block_lt_of_cell? w _ hx105_1)).trans hx105_1
                replace hx105_2 := (HB.out.cell (World.block_lt_of_cell? w _ hx105_2)).trans hx105_2
                replace hx105_3 := (HB.out.cell (World.block_lt_of_cell? w _ hx105_3)).trans hx105_3
                replace hx105_4 := (HB.out.cell (World.block_lt_of_cell? w _ hx105_4)).trans hx105_4
                replace hx105_5 := (HB.out.cell (World.block_lt_of_cell? w _ hx105_5)).trans hx105_5
                replace hx105_6 := (HB.out.cell (World.block_lt_of_cell? w _ hx105_6)).trans hx105_6
                replace hx105_7 := (HB.out.cell (World.block_lt_of_cell? w _ hx105_7)).trans hx105_7
                replace hx105_8 := (HB.out.cell (World.block_lt_of_cell? w _ hx105_8)).trans hx105_8
                have HR105_5 := Aside0.mk hi105_5
                have HC105_5 := Aside0.mk hl105_5
                clear hi105_5 hl105_5
                replace p105 := eq_true p105
                replace q105 := eq_true q105
                have p106 : 0 ≤ (x5_1 : Int) := of_decide_eq_true (by first | (with_reducible assumption) | assumption)
                have q106 : x5_1 < (l1.length : Int) := of_decide_eq_true (by first | (with_reducible assumption) | assumption)
                obtain ⟨ad106, A106_5, c106_5, e106, hx106_0, hx106_1, hx106_2, hx106_3, hx106_4, hx106_5, hx106_6, hx106_7, hx106_8, hl106_5, hi106_5⟩ := at_T31 HR1.out x5_1 p106 q106
                have hw106_8 := hx106_8
                have hw106_7 := hx106_7
                have hw106_6 := hx106_6
                have hw106_5 := hx106_5
                have hw106_4 := hx106_4
                have hw106_3 := hx106_3
                have hw106_2 := hx106_2
                have hw106_1 := hx106_1
                have hw106_0 := hx106_0
                cases e106
                replace hx106_0 := (HB.out.cell (World.block_lt_of_cell? w _ hx106_0)).trans hx106_0
                replace hx106_1 := (HB.out.cell (World.block_lt_of_cell? w _ hx106_1)).trans hx106_1
                replace hx106_2 := (HB.out.cell (World.block_lt_of_cell? w _ hx106_2)).trans hx106_2
                replace hx106_3 := (HB.out.cell (World.block_lt_of_cell? w _ hx106_3)).trans hx106_3
                replace hx106_4 := (HB.out.cell (World.block_lt_of_cell? w _ hx106_4)).trans hx106_4
                replace hx106_5 := (HB.out.cell (World.block_lt_of_cell? w _ hx106_5)).trans hx106_5
                replace hx106_6 := (HB.out.cell (World.block_lt_of_cell? w _ hx106_6)).trans hx106_6
                replace hx106_7 := (HB.out.cell (World.block_lt_of_cell? w _ hx106_7)).trans hx106_7
                replace hx106_8 := (HB.out.cell (World.block_lt_of_cell? w _ hx106_8)).trans hx106_8
                have HR106_5 := Aside0.mk hi106_5
                have HC106_5 := Aside0.mk hl106_5
                clear hi106_5 hl106_5
                replace p106 := eq_true p106
                replace q106 := eq_true q106
                refine start_ (n := 10) (S := fun w' => w'.cell? (ad105.add ((x5_1).toNat * 9)) = some (.int .i64 ((rd_T31 l0 x5_1).f0)) ∧ w'.cell? ⟨(ad105.add ((x5_1).toNat * 9)).block, (ad105.add ((x5_1).toNat * 9)).off + 1, none⟩ = some (.int .i64 ((rd_T31 l0 x5_1).f1)) ∧ w'.cell? ⟨(ad105.add ((x5_1).toNat * 9)).block, (ad105.add ((x5_1).toNat * 9)).off + 2, none⟩ = some (.string ((rd_T31 l0 x5_1).f2)) ∧ w'.cell? ⟨(ad105.add ((x5_1).toNat * 9)).block, (ad105.add ((x5_1).toNat * 9)).off + 3, none⟩ = some (.string ((rd_T31 l0 x5_1).f3)) ∧ w'.cell? ⟨(ad105.add ((x5_1).toNat * 9)).block, (ad105.add ((x5_1).toNat * 9)).off + 4, none⟩ = some (.string ((rd_T31 l0 x5_1).f4.f0)) ∧ w'.cell? ⟨(ad105.add ((x5_1).toNat * 9)).block, (ad105.add ((x5_1).toNat * 9)).off + 5, none⟩ = some (.slice A105_5 ((rd_T31 l0 x5_1).f4.f1).length c105_5) ∧ w'.cell? ⟨(ad105.add ((x5_1).toNat * 9)).block, (ad105.add ((x5_1).toNat * 9)).off + 6, none⟩ = some (.string ((rd_T31 l0 x5_1).f4.f2)) ∧ w'.cell? ⟨(ad105.add ((x5_1).toNat * 9)).block, (ad105.add ((x5_1).toNat * 9)).off + 7, none⟩ = some (.string ((rd_T31 l0 x5_1).f5)) ∧ w'.cell? ⟨(ad105.add ((x5_1).toNat * 9)).block, (ad105.add ((x5_1).toNat * 9)).off + 8, none⟩ = some (.bool ((rd_T31 l0 x5_1).f6)) ∧ w'.cell? (ad106.add ((x5_1).toNat * 9)) = some (.int .i64 ((rd_T31 l1 x5_1).f0)) ∧ w'.cell? ⟨(ad106.add ((x5_1).toNat * 9)).block, (ad106.add ((x5_1).toNat * 9)).off + 1, none⟩ = some (.int .i64 ((rd_T31 l1 x5_1).f1)) ∧ w'.cell? ⟨(ad106.add ((x5_1).toNat * 9)).block, (ad106.add ((x5_1).toNat * 9)).off + 2, none⟩ = some (.string ((rd_T31 l1 x5_1).f2)) ∧ w'.cell? ⟨(ad106.add ((x5_1).toNat * 9)).block, (ad106.add ((x5_1).toNat * 9)).off + 3, none⟩ = some (.string ((rd_T31 l1 x5_1).f3)) ∧ w'.cell? ⟨(ad106.add ((x5_1).toNat * 9)).block, (ad106.add ((x5_1).toNat * 9)).off + 4, none⟩ = some (.string ((rd_T31 l1 x5_1).f4.f0)) ∧ w'.cell? ⟨(ad106.add ((x5_1).toNat * 9)).block, (ad106.add ((x5_1).toNat * 9)).off + 5, none⟩ = some (.slice A106_5 ((rd_T31 l1 x5_1).f4.f1).length c106_5) ∧ w'.cell? ⟨(ad106.add ((x5_1).toNat * 9)).block, (ad106.add ((x5_1).toNat * 9)).off + 6, none⟩ = some (.string ((rd_T31 l1 x5_1).f4.f2)) ∧ w'.cell? ⟨(ad106.add ((x5_1).toNat * 9)).block, (ad106.add ((x5_1).toNat * 9)).off + 7, none⟩ = some (.string ((rd_T31 l1 x5_1).f5)) ∧ w'.cell? ⟨(ad106.add ((x5_1).toNat * 9)).block, (ad106.add ((x5_1).toNat * 9)).off + 8, none⟩ = some (.bool ((rd_T31 l1 x5_1).f6))) (ds := []) #[false, false, false, false, false, false, false, false, false, false] (by kernel_rfl) rfl rfl ⟨((HB.out.cell (World.block_lt_of_cell? w _ hw105_0)).trans hw105_0), ((HB.out.cell (World.block_lt_of_cell? w _ hw105_1)).trans hw105_1), ((HB.out.cell (World.block_lt_of_cell? w _ hw105_2)).trans hw105_2), ((HB.out.cell (World.block_lt_of_cell? w _ hw105_3)).trans hw105_3), ((HB.out.cell (World.block_lt_of_cell? w _ hw105_4)).trans hw105_4), ((HB.out.cell (World.block_lt_of_cell? w _ hw105_5)).trans hw105_5), ((HB.out.cell (World.block_lt_of_cell? w _ hw105_6)).trans hw105_6), ((HB.out.cell (World.block_lt_of_cell? w _ hw105_7)).trans hw105_7), ((HB.out.cell (World.block_lt_of_cell? w _ hw105_8)).trans hw105_8), ((HB.out.cell (World.block_lt_of_cell? w _ hw106_0)).trans hw106_0), ((HB.out.cell (World.block_lt_of_cell? w _ hw106_1)).trans hw106_1), ((HB.out.cell (World.block_lt_of_cell? w _ hw106_2)).trans hw106_2), ((HB.out.cell (World.block_lt_of_cell? w _ hw106_3)).trans hw106_3), ((HB.out.cell (World.block_lt_of_cell? w _ hw106_4)).trans hw106_4), ((HB.out.cell (World.block_lt_of_cell? w _ hw106_5)).trans hw106_5), ((HB.out.cell (World.block_lt_of_cell? w _ hw106_6)).trans hw106_6), ((HB.out.cell (World.block_lt_of_cell? w _ hw106_7)).trans hw106_7), ((HB.out.cell (World.block_lt_of_cell? w _ hw106_8)).trans hw106_8)⟩ (fun hHeld => ?_); refine with_tabW rosterref12_Equal.tab6 rosterref12_Equal.bits6 (fun HT_ HW_ => ?_)
                generalize wr.drew = w9 at HB HR105_5 HR106_5 hx105_0 hx105_1 hx105_2 hx105_3 hx105_4 hx105_5 hx105_6 hx105_7 hx105_8 hx106_0 hx106_1 hx106_2 hx106_3 hx106_4 hx106_5 hx106_6 hx106_7 hx106_8 hHeld ⊢
                refine pure_ (i := 0) (N := some 17) (v := ?_) (a' := ?_) #[true, false, false, false, false, false, false, false, false, false] rfl rfl (any_of HT_.out (by kernel_rfl)) (fun _ _ _ h => h) (Or.inl ⟨by rfl, ?_⟩) ?_ ?_
                rotate_left
                · intro w'
                  go_simp
                  with_reducible rfl
                rotate_left
                · simp only [Act.put, List.setIfInBounds_toArray, List.set_cons_zero, List.set_cons_succ, i64_w, i32_w]
                  rfl
                refine pure_ (i := 1) (N := some 18) (v := ?_) (a' := ?_) #[true, true, false, false, false, false, false, false, false, false] rfl rfl (any_of HT_.out (by kernel_rfl)) (fun _ _ _ h => h) (Or.inl ⟨by rfl, ?_⟩) ?_ ?_
                rotate_left
                · intro w'
                  go_simp
                  with_reducible rfl
                rotate_left
                · simp only [Act.put, List.setIfInBounds_toArray, List.set_cons_zero, List.set_cons_succ, i64_w, i32_w]
                  rfl
                refine pure_ (i := 2) (N := some 19) (v := ?_) (a' := ?_) #[true, true, true, false, false, false, false, false, false, false] rfl rfl (any_of HT_.out (by kernel_rfl)) (fun _ _ _ h => h) (Or.inl ⟨by rfl, ?_⟩) ?_ ?_
                rotate_left
                · intro w'
                  go_simp
                  with_reducible rfl
                rotate_left
                · simp only [Act.put, List.setIfInBounds_toArray, List.set_cons_zero, List.set_cons_succ, i64_w, i32_w]
                  rfl
                refine pure_ (i := 4) (N := some 21) (v := ?_) (a' := ?_) #[true, true, true, false, true, false, false, false, false, false] rfl rfl (any_of HT_.out (by kernel_rfl)) (fun _ _ _ h => h) (Or.inl ⟨by rfl, ?_⟩) ?_ ?_
                rotate_left
                · intro w'
                  go_simp
                  with_reducible rfl
                rotate_left
                · simp only [Act.put, List.setIfInBounds_toArray, List.set_cons_zero, List.set_cons_succ, i64_w, i32_w]
                  rfl
                refine pure_ (i := 5) (N := some 22) (v := ?_) (a' := ?_) #[true, true, true, false, true, true, false, false, false, false] rfl rfl (any_of HT_.out (by kernel_rfl)) (fun _ _ _ h => h) (Or.inl ⟨by rfl, ?_⟩) ?_ ?_
                rotate_left
                · intro w'
                  go_simp
                  with_reducible rfl
                rotate_left
                · simp only [Act.put, List.setIfInBounds_toArray, List.set_cons_zero, List.set_cons_succ, i64_w, i32_w]
                  rfl
                refine pure_ (i := 6) (N := some 23) (v := ?_) (a' := ?_) #[true, true, true, false, true, true, true, false, false, false] rfl rfl (any_of HT_.out (by kernel_rfl)) (fun _ _ _ h => h) (Or.inl ⟨by rfl, ?_⟩) ?_ ?_
                rotate_left
                · intro w'
                  go_simp
                  with_reducible rfl
                rotate_left
                · simp only [Act.put, List.setIfInBounds_toArray, List.set_cons_zero, List.set_cons_succ, i64_w, i32_w]
                  rfl
                refine take_ (i := 3) (N := some 20) (v := ?_) (a' := ?_) #[true, true, true, true, true, true, true, false, false, false] rfl rfl (take_ofW HT_.out HW_.out (by kernel_rfl)) (fun _ _ _ h => h) (Or.inl ⟨by rfl, ?_⟩) hHeld ?_ ?_
                rotate_left
                · rintro w' ⟨s0, s1, s2, s3, s4, s5, s6, s7, s8, s9, s10, s11, s12, s13, s14, s15, s16, s17⟩
                  go_simp
                  with_reducible rfl
                rotate_left
                · simp only [Act.put, List.setIfInBounds_toArray, List.set_cons_zero, List.set_cons_succ, i64_w, i32_w]
                  rfl
                refine take_ (i := 7) (N := some 24) (v := ?_) (a' := ?_) #[true, true, true, true, true, true, true, true, false, false] rfl rfl (take_ofW HT_.out HW_.out (by kernel_rfl)) (fun _ _ _ h => h) (Or.inl ⟨by rfl, ?_⟩) hHeld ?_ ?_
                rotate_left
                · rintro w' ⟨s0, s1, s2, s3, s4, s5, s6, s7, s8, s9, s10, s11, s12, s13, s14, s15, s16, s17⟩
                  go_simp
                  with_reducible rfl
                rotate_left
                · simp only [Act.put, List.setIfInBounds_toArray, List.set_cons_zero, List.set_cons_succ, i64_w, i32_w]
                  rfl
                refine one_ (i := 8) (N := some 25) #[true, true, true, true, true, true, true, true, true, false] rfl rfl (one_of HT_.out (by kernel_rfl)) (by decide) (fun K hK => ?_)
                refine goes_ Try.func10 (by kernel_rfl) rfl #[.agg #[.int .i64 ((rd_T31 l0 x5_1).f0), .int .i64 ((rd_T31 l0 x5_1).f1), .string ((rd_T31 l0 x5_1).f2), .string ((rd_T31 l0 x5_1).f3), .string ((rd_T31 l0 x5_1).f4.f0), .slice A105_5 ((rd_T31 l0 x5_1).f4.f1).length c105_5, .string ((rd_T31 l0 x5_1).f4.f2), .string ((rd_T31 l0 x5_1).f5), .bool ((rd_T31 l0 x5_1).f6)], .agg #[.int .i64 ((rd_T31 l1 x5_1).f0), .int .i64 ((rd_T31 l1 x5_1).f1), .string ((rd_T31 l1 x5_1).f2), .string ((rd_T31 l1 x5_1).f3), .string ((rd_T31 l1 x5_1).f4.f0), .slice A106_5 ((rd_T31 l1 x5_1).f4.f1).length c106_5, .string ((rd_T31 l1 x5_1).f4.f2), .string ((rd_T31 l1 x5_1).f5), .bool ((rd_T31 l1 x5_1).f6)]] (by rfl) rfl rfl (by (try simp only [List.map_toArray, List.map_cons, List.map_nil]); first | done | rfl | (simp only [List.length_drop, List.length_take]; rfl)) ?_
                with_reducible refine (rosterref12_sameNode.calls k1 ((rd_T31 l0 x5_1).f0) ((rd_T31 l0 x5_1).f1) ((rd_T31 l0 x5_1).f2) ((rd_T31 l0 x5_1).f3) ((rd_T31 l0 x5_1).f4.f0) _ _ ((rd_T31 l0 x5_1).f4.f1) ((rd_T31 l0 x5_1).f4.f2) ((rd_T31 l0 x5_1).f5) ((rd_T31 l0 x5_1).f6) ((rd_T31 l1 x5_1).f0) ((rd_T31 l1 x5_1).f1) ((rd_T31 l1 x5_1).f2) ((rd_T31 l1 x5_1).f3) ((rd_T31 l1 x5_1).f4.f0) _ _ ((rd_T31 l1 x5_1).f4.f1) ((rd_T31 l1 x5_1).f4.f2) ((rd_T31 l1 x5_1).f5) ((rd_T31 l1 x5_1).f6) true _ ?side1 ?side2 ?side3 ?side4 A7.out).mono ?_
                (case side1 => repeat (first | exact (Kd.C_below HR105_5.out HB.out) | (with_reducible refine Kd.C_alloc ?_ _) | (with_reducible refine Kd.C_drewN ?_ _) | (with_reducible refine Kd.C_drew ?_)))
                (case side2 => exact HC105_5.out)
                (case side3 => repeat (first | exact (Kd.C_below HR106_5.out HB.out) | (with_reducible refine Kd.C_alloc ?_ _) | (with_reducible refine Kd.C_drewN ?_ _) | (with_reducible refine Kd.C_drew ?_)))
                (case side4 => exact HC106_5.out)
                rintro e w10 ⟨rfl, hb⟩
                refine ⟨_, rfl, ?_⟩
                have n0_ := Aside0.mk (below_step (by repeat (first | (with_reducible first | exact HB.out | apply below_alloc | apply pw_below_drewN | apply below_drew1) | exact HB.out)) hb)
                clear HB
                have HB := n0_
                clear n0_
                (try clear hb)
                (try clear hb2)
                (try clear hk)
                (try clear hi)
                refine hK.out _ _ ⟨((HB.out.cell (World.block_lt_of_cell? w _ hw105_0)).trans hw105_0), ((HB.out.cell (World.block_lt_of_cell? w _ hw105_1)).trans hw105_1), ((HB.out.cell (World.block_lt_of_cell? w _ hw105_2)).trans hw105_2), ((HB.out.cell (World.block_lt_of_cell? w _ hw105_3)).trans hw105_3), ((HB.out.cell (World.block_lt_of_cell? w _ hw105_4)).trans hw105_4), ((HB.out.cell (World.block_lt_of_cell? w _ hw105_5)).trans hw105_5), ((HB.out.cell (World.block_lt_of_cell? w _ hw105_6)).trans hw105_6), ((HB.out.cell (World.block_lt_of_cell? w _ hw105_7)).trans hw105_7), ((HB.out.cell (World.block_lt_of_cell? w _ hw105_8)).trans hw105_8), ((HB.out.cell (World.block_lt_of_cell? w _ hw106_0)).trans hw106_0), ((HB.out.cell (World.block_lt_of_cell? w _ hw106_1)).trans hw106_1), ((HB.out.cell (World.block_lt_of_cell? w _ hw106_2)).trans hw106_2), ((HB.out.cell (World.block_lt_of_cell? w _ hw106_3)).trans hw106_3), ((HB.out.cell (World.block_lt_of_cell? w _ hw106_4)).trans hw106_4), ((HB.out.cell (World.block_lt_of_cell? w _ hw106_5)).trans hw106_5), ((HB.out.cell (World.block_lt_of_cell? w _ hw106_6)).trans hw106_6), ((HB.out.cell (World.block_lt_of_cell? w _ hw106_7)).trans hw106_7), ((HB.out.cell (World.block_lt_of_cell? w _ hw106_8)).trans hw106_8)⟩ (fun hHeld => ?_)
                clear hK K
                refine norm_ (a' := ?_) ?_ ?_
                rotate_left
                · show Act.put _ (some 25) _ = _
                  simp only [Act.put, List.setIfInBounds_toArray, List.set_cons_zero, List.set_cons_succ, i64_w, i32_w]
                  rfl
                refine pure_ (i := 9) (N := some 26) (v := ?_) (a' := ?_) #[true, true, true, true, true, true, true, true, true, true] rfl rfl (any_of HT_.out (by kernel_rfl)) (fun _ _ _ h => h) (Or.inl ⟨by rfl, ?_⟩) ?_ ?_
                rotate_left
                · intro w'
                  go_simp
                  with_reducible rfl
                rotate_left
                · simp only [Act.put, List.setIfInBounds_toArray, List.set_cons_zero, List.set_cons_succ, i64_w, i32_w]
                  rfl
                refine done_ (done_of HT_.out (by kernel_rfl)) ?_
                try go_wp2
                go_roundg k1
                case measure => have := HK1.out; omega
                case rel => exact ⟨(wrap64 (x5_1 + 1)), (by first | rfl | (simp; done) | (simp [*]; done) | (simp [show ∀ l_ : List UInt8, l_.isEmpty = !(l_ != []) from fun l_ => by cases l_ <;> rfl]; done)), H', ⟨by have := HK1.out; omega⟩, ⟨by repeat (first | (with_reducible first | exact HB.out | apply below_alloc | apply pw_below_drewN | apply below_drew1) | exact HB.out)⟩⟩
              · replace c8 := Bool.eq_false_iff.mpr c8
                subst c8
                have H1 : (some false) = some r := by rw [if_neg (show ¬ (false = true) by decide)] at H; exact H
                clear H
                have H := H1
                clear H1
                obtain rfl := Option.some.inj H
                try go_wp2
                have n0_ := Aside0.mk (below_drew1 HB.out)
                clear HB
                have HB := n0_
                clear n0_
                have p105 : 0 ≤ (x5_1 : Int) := of_decide_eq_true (by first | (with_reducible assumption) | assumption)
                have q105 : x5_1 < (l0.length : Int) := of_decide_eq_true (by first | (with_reducible assumption) | assumption)
                obtain ⟨ad105, A105_5, c105_5, e105, hx105_0, hx105_1, hx105_2, hx105_3, hx105_4, hx105_5, hx105_6, hx105_7, hx105_8, hl105_5, hi105_5⟩ := at_T31 HR0.out x5_1 p105 q105
                have hw105_8 := hx105_8
                have hw105_7 := hx105_7
                have hw105_6 := hx105_6
                have hw105_5 := hx105_5
                have hw105_4 := hx105_4
                have hw105_3 := hx105_3
                have hw105_2 := hx105_2
                have hw105_1 := hx105_1
                have hw105_0 := hx105_0
                cases e105
                replace hx105_0 := (HB.out.cell (World.block_lt_of_cell? w _ hx105_0)).trans hx105_0
                replace hx105_1 := (HB.out.cell (World.block_lt_of_cell? w _ hx105_1)).trans hx105_1
                replace hx105_2 := (HB.out.cell (World.block_lt_of_cell? w _ hx105_2)).trans hx105_2
                replace hx105_3 := (HB.out.cell (World.block_lt_of_cell? w _ hx105_3)).trans hx105_3
                replace hx105_4 := (HB.out.cell (World.block_lt_of_cell? w _ hx105_4)).trans hx105_4
                replace hx105_5 := (HB.out.cell (World.block_lt_of_cell? w _ hx105_5)).trans hx105_5
                replace hx105_6 := (HB.out.cell (World.block_lt_of_cell? w _ hx105_6)).trans hx105_6
                replace hx105_7 := (HB.out.cell (World.block_lt_of_cell? w _ hx105_7)).trans hx105_7
                replace hx105_8 := (HB.out.cell (World.block_lt_of_cell? w _ hx105_8)).trans hx105_8
                have HR105_5 := Aside0.mk hi105_5
                have HC105_5 := Aside0.mk hl105_5
                clear hi105_5 hl105_5
                replace p105 := eq_true p105
                replace q105 := eq_true q105
                have p106 : 0 ≤ (x5_1 : Int) := of_decide_eq_true (by first | (with_reducible assumption) | assumption)
                have q106 : x5_1 < (l1.length : Int) := of_decide_eq_true (by first | (with_reducible assumption) | assumption)
                obtain ⟨ad106, A106_5, c106_5, e106, hx106_0, hx106_1, hx106_2, hx106_3, hx106_4, hx106_5, hx106_6, hx106_7, hx106_8, hl106_5, hi106_5⟩ := at_T31 HR1.out x5_1 p106 q106
                have hw106_8 := hx106_8
                have hw106_7 := hx106_7
                have hw106_6 := hx106_6
                have hw106_5 := hx106_5
                have hw106_4 := hx106_4
                have hw106_3 := hx106_3
                have hw106_2 := hx106_2
                have hw106_1 := hx106_1
                have hw106_0 := hx106_0
                cases e106
                replace hx106_0 := (HB.out.cell (World.block_lt_of_cell? w _ hx106_0)).trans hx106_0
                replace hx106_1 := (HB.out.cell (World.block_lt_of_cell? w _ hx106_1)).trans hx106_1
                replace hx106_2 := (HB.out.cell (World.block_lt_of_cell? w _ hx106_2)).trans hx106_2
                replace hx106_3 := (HB.out.cell (World.block_lt_of_cell? w _ hx106_3)).trans hx106_3
                replace hx106_4 := (HB.out.cell (World.block_lt_of_cell? w _ hx106_4)).trans hx106_4
                replace hx106_5 := (HB.out.cell (World.block_lt_of_cell? w _ hx106_5)).trans hx106_5
                replace hx106_6 := (HB.out.cell (World.block_lt_of_cell? w _ hx106_6)).trans hx106_6
                replace hx106_7 := (HB.out.cell (World.block_lt_of_cell? w _ hx106_7)).trans hx106_7
                replace hx106_8 := (HB.out.cell (World.block_lt_of_cell? w _ hx106_8)).trans hx106_8
                have HR106_5 := Aside0.mk hi106_5
                have HC106_5 := Aside0.mk hl106_5
                clear hi106_5 hl106_5
                replace p106 := eq_true p106
                replace q106 := eq_true q106
                refine start_ (n := 10) (S := fun w' => w'.cell? (ad105.add ((x5_1).toNat * 9)) = some (.int .i64 ((rd_T31 l0 x5_1).f0)) ∧ w'.cell? ⟨(ad105.add ((x5_1).toNat * 9)).block, (ad105.add ((x5_1).toNat * 9)).off + 1, none⟩ = some (.int .i64 ((rd_T31 l0 x5_1).f1)) ∧ w'.cell? ⟨(ad105.add ((x5_1).toNat * 9)).block, (ad105.add ((x5_1).toNat * 9)).off + 2, none⟩ = some (.string ((rd_T31 l0 x5_1).f2)) ∧ w'.cell? ⟨(ad105.add ((x5_1).toNat * 9)).block, (ad105.add ((x5_1).toNat * 9)).off + 3, none⟩ = some (.string ((rd_T31 l0 x5_1).f3)) ∧ w'.cell? ⟨(ad105.add ((x5_1).toNat * 9)).block, (ad105.add ((x5_1).toNat * 9)).off + 4, none⟩ = some (.string ((rd_T31 l0 x5_1).f4.f0)) ∧ w'.cell? ⟨(ad105.add ((x5_1).toNat * 9)).block, (ad105.add ((x5_1).toNat * 9)).off + 5, none⟩ = some (.slice A105_5 ((rd_T31 l0 x5_1).f4.f1).length c105_5) ∧ w'.cell? ⟨(ad105.add ((x5_1).toNat * 9)).block, (ad105.add ((x5_1).toNat * 9)).off + 6, none⟩ = some (.string ((rd_T31 l0 x5_1).f4.f2)) ∧ w'.cell? ⟨(ad105.add ((x5_1).toNat * 9)).block, (ad105.add ((x5_1).toNat * 9)).off + 7, none⟩ = some (.string ((rd_T31 l0 x5_1).f5)) ∧ w'.cell? ⟨(ad105.add ((x5_1).toNat * 9)).block, (ad105.add ((x5_1).toNat * 9)).off + 8, none⟩ = some (.bool ((rd_T31 l0 x5_1).f6)) ∧ w'.cell? (ad106.add ((x5_1).toNat * 9)) = some (.int .i64 ((rd_T31 l1 x5_1).f0)) ∧ w'.cell? ⟨(ad106.add ((x5_1).toNat * 9)).block, (ad106.add ((x5_1).toNat * 9)).off + 1, none⟩ = some (.int .i64 ((rd_T31 l1 x5_1).f1)) ∧ w'.cell? ⟨(ad106.add ((x5_1).toNat * 9)).block, (ad106.add ((x5_1).toNat * 9)).off + 2, none⟩ = some (.string ((rd_T31 l1 x5_1).f2)) ∧ w'.cell? ⟨(ad106.add ((x5_1).toNat * 9)).block, (ad106.add ((x5_1).toNat * 9)).off + 3, none⟩ = some (.string ((rd_T31 l1 x5_1).f3)) ∧ w'.cell? ⟨(ad106.add ((x5_1).toNat * 9)).block, (ad106.add ((x5_1).toNat * 9)).off + 4, none⟩ = some (.string ((rd_T31 l1 x5_1).f4.f0)) ∧ w'.cell? ⟨(ad106.add ((x5_1).toNat * 9)).block, (ad106.add ((x5_1).toNat * 9)).off + 5, none⟩ = some (.slice A106_5 ((rd_T31 l1 x5_1).f4.f1).length c106_5) ∧ w'.cell? ⟨(ad106.add ((x5_1).toNat * 9)).block, (ad106.add ((x5_1).toNat * 9)).off + 6, none⟩ = some (.string ((rd_T31 l1 x5_1).f4.f2)) ∧ w'.cell? ⟨(ad106.add ((x5_1).toNat * 9)).block, (ad106.add ((x5_1).toNat * 9)).off + 7, none⟩ = some (.string ((rd_T31 l1 x5_1).f5)) ∧ w'.cell? ⟨(ad106.add ((x5_1).toNat * 9)).block, (ad106.add ((x5_1).toNat * 9)).off + 8, none⟩ = some (.bool ((rd_T31 l1 x5_1).f6))) (ds := []) #[false, false, false, false, false, false, false, false, false, false] (by kernel_rfl) rfl rfl ⟨((HB.out.cell (World.block_lt_of_cell? w _ hw105_0)).trans hw105_0), ((HB.out.cell (World.block_lt_of_cell? w _ hw105_1)).trans hw105_1), ((HB.out.cell (World.block_lt_of_cell? w _ hw105_2)).trans hw105_2), ((HB.out.cell (World.block_lt_of_cell? w _ hw105_3)).trans hw105_3), ((HB.out.cell (World.block_lt_of_cell? w _ hw105_4)).trans hw105_4), ((HB.out.cell (World.block_lt_of_cell? w _ hw105_5)).trans hw105_5), ((HB.out.cell (World.block_lt_of_cell? w _ hw105_6)).trans hw105_6), ((HB.out.cell (World.block_lt_of_cell? w _ hw105_7)).trans hw105_7), ((HB.out.cell (World.block_lt_of_cell? w _ hw105_8)).trans hw105_8), ((HB.out.cell (World.block_lt_of_cell? w _ hw106_0)).trans hw106_0), ((HB.out.cell (World.block_lt_of_cell? w _ hw106_1)).trans hw106_1), ((HB.out.cell (World.block_lt_of_cell? w _ hw106_2)).trans hw106_2), ((HB.out.cell (World.block_lt_of_cell? w _ hw106_3)).trans hw106_3), ((HB.out.cell (World.block_lt_of_cell? w _ hw106_4)).trans hw106_4), ((HB.out.cell (World.block_lt_of_cell? w _ hw106_5)).trans hw106_5), ((HB.out.cell (World.block_lt_of_cell? w _ hw106_6)).trans hw106_6), ((HB.out.cell (World.block_lt_of_cell? w _ hw106_7)).trans hw106_7), ((HB.out.cell (World.block_lt_of_cell? w _ hw106_8)).trans hw106_8)⟩ (fun hHeld => ?_); refine with_tabW rosterref12_Equal.tab6 rosterref12_Equal.bits6 (fun HT_ HW_ => ?_)
                generalize wr.drew = w11 at HB HR105_5 HR106_5 hx105_0 hx105_1 hx105_2 hx105_3 hx105_4 hx105_5 hx105_6 hx105_7 hx105_8 hx106_0 hx106_1 hx106_2 hx106_3 hx106_4 hx106_5 hx106_6 hx106_7 hx106_8 hHeld ⊢
                refine pure_ (i := 0) (N := some 17) (v := ?_) (a' := ?_) #[true, false, false, false, false, false, false, false, false, false] rfl rfl (any_of HT_.out (by kernel_rfl)) (fun _ _ _ h => h) (Or.inl ⟨by rfl, ?_⟩) ?_ ?_
                rotate_left
                · intro w'
                  go_simp
                  with_reducible rfl
                rotate_left
                · simp only [Act.put, List.setIfInBounds_toArray, List.set_cons_zero, List.set_cons_succ, i64_w, i32_w]
                  rfl
                refine pure_ (i := 1) (N := some 18) (v := ?_) (a' := ?_) #[true, true, false, false, false, false, false, false, false, false] rfl rfl (any_of HT_.out (by kernel_rfl)) (fun _ _ _ h => h) (Or.inl ⟨by rfl, ?_⟩) ?_ ?_
                rotate_left
                · intro w'
                  go_simp
                  with_reducible rfl
                rotate_left
                · simp only [Act.put, List.setIfInBounds_toArray, List.set_cons_zero, List.set_cons_succ, i64_w, i32_w]
                  rfl
                refine pure_ (i := 2) (N := some 19) (v := ?_) (a' := ?_) #[true, true, true, false, false, false, false, false, false, false] rfl rfl (any_of HT_.out (by kernel_rfl)) (fun _ _ _ h => h) (Or.inl ⟨by rfl, ?_⟩) ?_ ?_
                rotate_left
                · intro w'
                  go_simp
                  with_reducible rfl
                rotate_left
                · simp only [Act.put, List.setIfInBounds_toArray, List.set_cons_zero, List.set_cons_succ, i64_w, i32_w]
                  rfl
                refine pure_ (i := 4) (N := some 21) (v := ?_) (a' := ?_) #[true, true, true, false, true, false, false, false, false, false] rfl rfl (any_of HT_.out (by kernel_rfl)) (fun _ _ _ h => h) (Or.inl ⟨by rfl, ?_⟩) ?_ ?_
                rotate_left
                · intro w'
                  go_simp
                  with_reducible rfl
                rotate_left
                · simp only [Act.put, List.setIfInBounds_toArray, List.set_cons_zero, List.set_cons_succ, i64_w, i32_w]
                  rfl
                refine pure_ (i := 5) (N := some 22) (v := ?_) (a' := ?_) #[true, true, true, false, true, true, false, false, false, false] rfl rfl (any_of HT_.out (by kernel_rfl)) (fun _ _ _ h => h) (Or.inl ⟨by rfl, ?_⟩) ?_ ?_
                rotate_left
                · intro w'
                  go_simp
                  with_reducible rfl
                rotate_left
                · simp only [Act.put, List.setIfInBounds_toArray, List.set_cons_zero, List.set_cons_succ, i64_w, i32_w]
                  rfl
                refine pure_ (i := 6) (N := some 23) (v := ?_) (a' := ?_) #[true, true, true, false, true, true, true, false, false, false] rfl rfl (any_of HT_.out (by kernel_rfl)) (fun _ _ _ h => h) (Or.inl ⟨by rfl, ?_⟩) ?_ ?_
                rotate_left
                · intro w'
                  go_simp
                  with_reducible rfl
                rotate_left
                · simp only [Act.put, List.setIfInBounds_toArray, List.set_cons_zero, List.set_cons_succ, i64_w, i32_w]
                  rfl
                refine take_ (i := 3) (N := some 20) (v := ?_) (a' := ?_) #[true, true, true, true, true, true, true, false, false, false] rfl rfl (take_ofW HT_.out HW_.out (by kernel_rfl)) (fun _ _ _ h => h) (Or.inl ⟨by rfl, ?_⟩) hHeld ?_ ?_
                rotate_left
                · rintro w' ⟨s0, s1, s2, s3, s4, s5, s6, s7, s8, s9, s10, s11, s12, s13, s14, s15, s16, s17⟩
                  go_simp
                  with_reducible rfl
                rotate_left
                · simp only [Act.put, List.setIfInBounds_toArray, List.set_cons_zero, List.set_cons_succ, i64_w, i32_w]
                  rfl
                refine take_ (i := 7) (N := some 24) (v := ?_) (a' := ?_) #[true, true, true, true, true, true, true, true, false, false] rfl rfl (take_ofW HT_.out HW_.out (by kernel_rfl)) (fun _ _ _ h => h) (Or.inl ⟨by rfl, ?_⟩) hHeld ?_ ?_
                rotate_left
                · rintro w' ⟨s0, s1, s2, s3, s4, s5, s6, s7, s8, s9, s10, s11, s12, s13, s14, s15, s16, s17⟩
                  go_simp
                  with_reducible rfl
                rotate_left
                · simp only [Act.put, List.setIfInBounds_toArray, List.set_cons_zero, List.set_cons_succ, i64_w, i32_w]
                  rfl
                refine one_ (i := 8) (N := some 25) #[true, true, true, true, true, true, true, true, true, false] rfl rfl (one_of HT_.out (by kernel_rfl)) (by decide) (fun K hK => ?_)
                refine goes_ Try.func10 (by kernel_rfl) rfl #[.agg #[.int .i64 ((rd_T31 l0 x5_1).f0), .int .i64 ((rd_T31 l0 x5_1).f1), .string ((rd_T31 l0 x5_1).f2), .string ((rd_T31 l0 x5_1).f3), .string ((rd_T31 l0 x5_1).f4.f0), .slice A105_5 ((rd_T31 l0 x5_1).f4.f1).length c105_5, .string ((rd_T31 l0 x5_1).f4.f2), .string ((rd_T31 l0 x5_1).f5), .bool ((rd_T31 l0 x5_1).f6)], .agg #[.int .i64 ((rd_T31 l1 x5_1).f0), .int .i64 ((rd_T31 l1 x5_1).f1), .string ((rd_T31 l1 x5_1).f2), .string ((rd_T31 l1 x5_1).f3), .string ((rd_T31 l1 x5_1).f4.f0), .slice A106_5 ((rd_T31 l1 x5_1).f4.f1).length c106_5, .string ((rd_T31 l1 x5_1).f4.f2), .string ((rd_T31 l1 x5_1).f5), .bool ((rd_T31 l1 x5_1).f6)]] (by rfl) rfl rfl (by (try simp only [List.map_toArray, List.map_cons, List.map_nil]); first | done | rfl | (simp only [List.length_drop, List.length_take]; rfl)) ?_
                with_reducible refine (rosterref12_sameNode.calls k1 ((rd_T31 l0 x5_1).f0) ((rd_T31 l0 x5_1).f1) ((rd_T31 l0 x5_1).f2) ((rd_T31 l0 x5_1).f3) ((rd_T31 l0 x5_1).f4.f0) _ _ ((rd_T31 l0 x5_1).f4.f1) ((rd_T31 l0 x5_1).f4.f2) ((rd_T31 l0 x5_1).f5) ((rd_T31 l0 x5_1).f6) ((rd_T31 l1 x5_1).f0) ((rd_T31 l1 x5_1).f1) ((rd_T31 l1 x5_1).f2) ((rd_T31 l1 x5_1).f3) ((rd_T31 l1 x5_1).f4.f0) _ _ ((rd_T31 l1 x5_1).f4.f1) ((rd_T31 l1 x5_1).f4.f2) ((rd_T31 l1 x5_1).f5) ((rd_T31 l1 x5_1).f6) false _ ?side1 ?side2 ?side3 ?side4 A7.out).mono ?_
                (case side1 => repeat (first | exact (Kd.C_below HR105_5.out HB.out) | (with_reducible refine Kd.C_alloc ?_ _) | (with_reducible refine Kd.C_drewN ?_ _) | (with_reducible refine Kd.C_drew ?_)))
                (case side2 => exact HC105_5.out)
                (case side3 => repeat (first | exact (Kd.C_below HR106_5.out HB.out) | (with_reducible refine Kd.C_alloc ?_ _) | (with_reducible refine Kd.C_drewN ?_ _) | (with_reducible refine Kd.C_drew ?_)))
                (case side4 => exact HC106_5.out)
                rintro e w12 ⟨rfl, hb⟩
                refine ⟨_, rfl, ?_⟩
                have n0_ := Aside0.mk (below_step (by repeat (first | (with_reducible first | exact HB.out | apply below_alloc | apply pw_below_drewN | apply below_drew1) | exact HB.out)) hb)
                clear HB
                have HB := n0_
                clear n0_
                (try clear hb)
                (try clear hb2)
                (try clear hk)
                (try clear hi)
                refine hK.out _ _ ⟨((HB.out.cell (World.block_lt_of_cell? w _ hw105_0)).trans hw105_0), ((HB.out.cell (World.block_lt_of_cell? w _ hw105_1)).trans hw105_1), ((HB.out.cell (World.block_lt_of_cell? w _ hw105_2)).trans hw105_2), ((HB.out.cell (World.block_lt_of_cell? w _ hw105_3)).trans hw105_3), ((HB.out.cell (World.block_lt_of_cell? w _ hw105_4)).trans hw105_4), ((HB.out.cell (World.block_lt_of_cell? w _ hw105_5)).trans hw105_5), ((HB.out.cell (World.block_lt_of_cell? w _ hw105_6)).trans hw105_6), ((HB.out.cell (World.block_lt_of_cell? w _ hw105_7)).trans hw105_7), ((HB.out.cell (World.block_lt_of_cell? w _ hw105_8)).trans hw105_8), ((HB.out.cell (World.block_lt_of_cell? w _ hw106_0)).trans hw106_0), ((HB.out.cell (World.block_lt_of_cell? w _ hw106_1)).trans hw106_1), ((HB.out.cell (World.block_lt_of_cell? w _ hw106_2)).trans hw106_2), ((HB.out.cell (World.block_lt_of_cell? w _ hw106_3)).trans hw106_3), ((HB.out.cell (World.block_lt_of_cell? w _ hw106_4)).trans hw106_4), ((HB.out.cell (World.block_lt_of_cell? w _ hw106_5)).trans hw106_5), ((HB.out.cell (World.block_lt_of_cell? w _ hw106_6)).trans hw106_6), ((HB.out.cell (World.block_lt_of_cell? w _ hw106_7)).trans hw106_7), ((HB.out.cell (World.block_lt_of_cell? w _ hw106_8)).trans hw106_8)⟩ (fun hHeld => ?_)
                clear hK K
                refine norm_ (a' := ?_) ?_ ?_
                rotate_left
                · show Act.put _ (some 25) _ = _
                  simp only [Act.put, List.setIfInBounds_toArray, List.set_cons_zero, List.set_cons_succ, i64_w, i32_w]
                  rfl
                refine pure_ (i := 9) (N := some 26) (v := ?_) (a' := ?_) #[true, true, true, true, true, true, true, true, true, true] rfl rfl (any_of HT_.out (by kernel_rfl)) (fun _ _ _ h => h) (Or.inl ⟨by rfl, ?_⟩) ?_ ?_
                rotate_left
                · intro w'
                  go_simp
                  with_reducible rfl
                rotate_left
                · simp only [Act.put, List.setIfInBounds_toArray, List.set_cons_zero, List.set_cons_succ, i64_w, i32_w]
                  rfl
                refine done_ (done_of HT_.out (by kernel_rfl)) ?_
                try go_wp2
                go_ret
                exact ⟨by first | rfl | (simp [errW_none, errW_some] <;> rfl) | (simp [*, errW_none, errW_some] <;> rfl), by repeat (first | (with_reducible first | exact HB.out | apply below_alloc | apply pw_below_drewN | apply below_drew1) | exact HB.out)⟩
            · rw [if_neg c6] at H
              exact absurd H (by simp)
          · rw [if_neg c5] at H
            exact absurd H (by simp)
        · rw [if_neg c4] at H
          have c4b0 : decide (x5_1 < (l0.length : Int)) = false := decide_eq_false c4
          clear c4
          obtain rfl := Option.some.inj H
          go_wp2
          go_ret
          exact ⟨by first | rfl | (simp [errW_none, errW_some] <;> rfl) | (simp [*, errW_none, errW_some] <;> rfl), by repeat (first | (with_reducible first | exact HB.out | apply below_alloc | apply pw_below_drewN | apply below_drew1) | exact HB.out)⟩
  · rw [if_neg c3] at H
    have c3b0 : ((l0.length : Int) == (l1.length : Int)) = false := beq_eq_false_iff_ne.mpr c3
    have c3b1 : ((l0.length : Int) != (l1.length : Int)) = true := bne_iff_ne.mpr c3
    have c3b2 : (l0.length == l1.length) = false := by first | simpa using c3 | (simp at c3 ⊢; omega)
    obtain rfl := Option.some.inj H
    go_enter Try.func5, Try.ntmps5
    go_wp2
    go_ret
    exact ⟨by first | rfl | (simp [errW_none, errW_some] <;> rfl) | (simp [*, errW_none, errW_some] <;> rfl), by repeat (first | (with_reducible first | exact HB.out | apply below_alloc | apply pw_below_drewN | apply below_drew1) | exact HB.out)⟩

/-! ### slices_Equal_string_string: function 9 -/
def slices_Equal_string_string.l0 : Nat → List ByteArray → List ByteArray → Int → Int → Option (Bool)
  | 0, _, _, _, _ => none
  | k + 1, x0, x1, x12, x13 => if x13 < x12 then (if 0 ≤ x13 then (if x13 < (x0.length : Int) then (if x13 < (x1.length : Int) then (if (rdOf ByteArray.empty x0 x13).toList = (rdOf ByteArray.empty x1 x13).toList then (slices_Equal_string_string.l0 k x0 x1 x12 (wrap64 (x13 + 1))) else (some false)) else (none)) else (none)) else (none)) else (some true)
def slices_Equal_string_string.f (k : Nat) (l0 : List ByteArray) (l1 : List ByteArray) : Option (Bool) := if (l0.length : Int) = (l1.length : Int) then (slices_Equal_string_string.l0 k l0 l1 (l0.length : Int) 0) else (some false)
theorem slices_Equal_string_string.mono_l : ∀ k, (∀ y0 y1 y2 y3, LeO (slices_Equal_string_string.l0 k y0 y1 y2 y3) (slices_Equal_string_string.l0 (k + 1) y0 y1 y2 y3))
  | 0 => fun _ _ _ _ r h => by simp [slices_Equal_string_string.l0] at h
  | k + 1 => by
    have ih0 := slices_Equal_string_string.mono_l k
    · intro y0 y1 y2 y3
      unfold slices_Equal_string_string.l0
      repeat' first
      | (with_reducible exact ih0 _ _ _ _)
      | (with_reducible exact LeO.refl _)
      | (with_reducible exact LeO.none _)
      | (with_reducible refine LeO.ite ?_ ?_)
      | (with_reducible refine LeO.bind ?_ (fun _ => ?_))
      | exact ih0 _ _ _ _
      | exact LeO.none _
      | refine LeO.ite ?_ ?_
      | refine LeO.bind ?_ (fun _ => ?_)
theorem slices_Equal_string_string.mono : ∀ a0 a1 k, LeO (slices_Equal_string_string.f k a0 a1) (slices_Equal_string_string.f (k + 1) a0 a1) := by
  intro a0 a1 k
  have ih0 := slices_Equal_string_string.mono_l k
  unfold slices_Equal_string_string.f
  repeat' first
      | (with_reducible exact ih0 _ _ _ _)
      | (with_reducible exact LeO.refl _)
      | (with_reducible exact LeO.none _)
      | (with_reducible refine LeO.ite ?_ ?_)
      | (with_reducible refine LeO.bind ?_ (fun _ => ?_))
      | exact ih0 _ _ _ _
      | exact LeO.none _
      | refine LeO.ite ?_ ?_
      | refine LeO.bind ?_ (fun _ => ?_)
set_option maxHeartbeats 8000000 in
set_option maxRecDepth 100000 in
theorem slices_Equal_string_string.calls (k : Nat) (A0 : Option Addr) (c0 : Nat) (l0 : List ByteArray) (A1 : Option Addr) (c1 : Nat) (l1 : List ByteArray) (r : Bool) (w : World) (hr0 : Kd.C Kd.string w A0 l0.length l0) (hc0 : l0.length ≤ c0) (hr1 : Kd.C Kd.string w A1 l1.length l1) (hc1 : l1.length ≤ c1) (h : slices_Equal_string_string.f k l0 l1 = some r) :
    Calls Try.prog 9 #[.slice A0 l0.length c0, .slice A1 l1.length c1] w fun e w' => e = .returned (.bool r) ∧ Drawn0 w w' := by
  have HR0 := Aside0.mk hr0
  have HC0 := Aside0.mk hc0
  clear hr0 hc0
  have HR1 := Aside0.mk hr1
  have HC1 := Aside0.mk hc1
  clear hr1 hc1
  have H : (if (l0.length : Int) = (l1.length : Int) then (slices_Equal_string_string.l0 k l0 l1 (l0.length : Int) 0) else (some false)) = some r := h
  clear h
  by_cases c3 : (l0.length : Int) = (l1.length : Int)
  · rw [if_pos c3] at H
    have c3b0 : ((l0.length : Int) == (l1.length : Int)) = true := beq_iff_eq.mpr c3
    have c3b1 : ((l0.length : Int) != (l1.length : Int)) = false := bne_eq_false_iff_eq.mpr c3
    have c3b2 : (l0.length == l1.length) = true := by first | simpa using c3 | (simp at c3 ⊢; omega)
    clear c3
    have H' := Aside0.mk H
    clear H
    go_enter Try.func9, Try.ntmps9
    go_wp2
    repeat (go_quiet (fail); try go_wp2)
    go_loopg [13] k (fun kq v13 w' => ∃ (x13_1 : Int), v13 = .int .i64 x13_1 ∧ Aside0 (slices_Equal_string_string.l0 kq l0 l1 (l0.length : Int) x13_1 = some r) ∧ Aside0 (kq ≤ k) ∧ Drawn0 w w')
    case atStart => exact ⟨(0), (by first | rfl | (simp; done) | (simp [*]; done) | (simp [show ∀ l_ : List UInt8, l_.isEmpty = !(l_ != []) from fun l_ => by cases l_ <;> rfl]; done)), H', ⟨Nat.le_refl _⟩, by repeat (first | exact Drawn0.refl _ | apply Drawn0.step)⟩
    case round =>
      clear H'
      try clear c1
      try clear p2
      try clear c3
      try clear c3b0
      try clear c3b1
      try clear c3b2
      obtain ⟨x13_1, rfl, HA, HK1, ⟨m1, rfl⟩⟩ := hrel
      cases gk with
      | zero => exact absurd HA.out (by simp [slices_Equal_string_string.l0])
      | succ k1 =>
        have H := HA.out
        clear HA
        simp only [slices_Equal_string_string.l0] at H
        by_cases c4 : x13_1 < (l0.length : Int)
        · rw [if_pos c4] at H
          have c4b0 : decide (x13_1 < (l0.length : Int)) = true := decide_eq_true c4
          clear c4
          by_cases c5 : 0 ≤ x13_1
          · rw [if_pos c5] at H
            have c5b0 : decide (0 ≤ x13_1) = true := decide_eq_true c5
            clear c5
            by_cases c6 : x13_1 < (l0.length : Int)
            · rw [if_pos c6] at H
              have c6b0 : decide (x13_1 < (l0.length : Int)) = true := decide_eq_true c6
              clear c6
              by_cases c7 : x13_1 < (l1.length : Int)
              · rw [if_pos c7] at H
                have c7b0 : decide (x13_1 < (l1.length : Int)) = true := decide_eq_true c7
                clear c7
                by_cases c8 : (rdOf ByteArray.empty l0 x13_1).toList = (rdOf ByteArray.empty l1 x13_1).toList
                · rw [if_pos c8] at H
                  have c8b0 : ((rdOf ByteArray.empty l0 x13_1).toList == (rdOf ByteArray.empty l1 x13_1).toList) = true := beq_iff_eq.mpr c8
                  have c8b1 : ((rdOf ByteArray.empty l0 x13_1).toList != (rdOf ByteArray.empty l1 x13_1).toList) = false := bne_eq_false_iff_eq.mpr c8
                  clear c8
                  have H' := Aside0.mk H
                  clear H
                  have p108 : 0 ≤ (x13_1 : Int) := of_decide_eq_true (by first | (with_reducible assumption) | assumption)
                  have q108 : x13_1 < (l0.length : Int) := of_decide_eq_true (by first | (with_reducible assumption) | assumption)
                  obtain ⟨ad108, e108, hx108_0⟩ := Kd.at_string HR0.out x13_1 p108 q108
                  cases e108
                  replace p108 := eq_true p108
                  replace q108 := eq_true q108
                  have p109 : 0 ≤ (x13_1 : Int) := of_decide_eq_true (by first | (with_reducible assumption) | assumption)
                  have q109 : x13_1 < (l1.length : Int) := of_decide_eq_true (by first | (with_reducible assumption) | assumption)
                  obtain ⟨ad109, e109, hx109_0⟩ := Kd.at_string HR1.out x13_1 p109 q109
                  cases e109
                  replace p109 := eq_true p109
                  replace q109 := eq_true q109
                  go_wp2
                  repeat (go_quiet (fail); try go_wp2)
                  go_roundg k1
                  case measure => have := HK1.out; omega
                  case rel => exact ⟨(wrap64 (x13_1 + 1)), (by first | rfl | (simp; done) | (simp [*]; done) | (simp [show ∀ l_ : List UInt8, l_.isEmpty = !(l_ != []) from fun l_ => by cases l_ <;> rfl]; done)), H', ⟨by have := HK1.out; omega⟩, by repeat (first | exact Drawn0.refl _ | apply Drawn0.step)⟩
                · rw [if_neg c8] at H
                  have c8b0 : ((rdOf ByteArray.empty l0 x13_1).toList == (rdOf ByteArray.empty l1 x13_1).toList) = false := beq_eq_false_iff_ne.mpr c8
                  have c8b1 : ((rdOf ByteArray.empty l0 x13_1).toList != (rdOf ByteArray.empty l1 x13_1).toList) = true := bne_iff_ne.mpr c8
                  obtain rfl := Option.some.inj H
                  have p108 : 0 ≤ (x13_1 : Int) := of_decide_eq_true (by first | (with_reducible assumption) | assumption)
                  have q108 : x13_1 < (l0.length : Int) := of_decide_eq_true (by first | (with_reducible assumption) | assumption)
                  obtain ⟨ad108, e108, hx108_0⟩ := Kd.at_string HR0.out x13_1 p108 q108
                  cases e108
                  replace p108 := eq_true p108
                  replace q108 := eq_true q108
                  have p109 : 0 ≤ (x13_1 : Int) := of_decide_eq_true (by first | (with_reducible assumption) | assumption)
                  have q109 : x13_1 < (l1.length : Int) := of_decide_eq_true (by first | (with_reducible assumption) | assumption)
                  obtain ⟨ad109, e109, hx109_0⟩ := Kd.at_string HR1.out x13_1 p109 q109
                  cases e109
                  replace p109 := eq_true p109
                  replace q109 := eq_true q109
                  go_wp2
                  repeat (go_quiet (fail); try go_wp2)
                  go_ret
                  exact ⟨by first | rfl | (simp; done) | (simp [*]; done) | (simp [show ∀ l_ : List UInt8, l_.isEmpty = !(l_ != []) from fun l_ => by cases l_ <;> rfl]; done), by repeat (first | exact Drawn0.refl _ | apply Drawn0.step)⟩
              · rw [if_neg c7] at H
                exact absurd H (by simp)
            · rw [if_neg c6] at H
              exact absurd H (by simp)
          · rw [if_neg c5] at H
            exact absurd H (by simp)
        · rw [if_neg c4] at H
          have c4b0 : decide (x13_1 < (l0.length : Int)) = false := decide_eq_false c4
          clear c4
          obtain rfl := Option.some.inj H
          go_wp2
          repeat (go_quiet (fail); try go_wp2)
          go_ret
          exact ⟨by first | rfl | (simp; done) | (simp [*]; done) | (simp [show ∀ l_ : List UInt8, l_.isEmpty = !(l_ != []) from fun l_ => by cases l_ <;> rfl]; done), by repeat (first | exact Drawn0.refl _ | apply Drawn0.step)⟩
  · rw [if_neg c3] at H
    have c3b0 : ((l0.length : Int) == (l1.length : Int)) = false := beq_eq_false_iff_ne.mpr c3
    have c3b1 : ((l0.length : Int) != (l1.length : Int)) = true := bne_iff_ne.mpr c3
    have c3b2 : (l0.length == l1.length) = false := by first | simpa using c3 | (simp at c3 ⊢; omega)
    obtain rfl := Option.some.inj H
    go_enter Try.func9, Try.ntmps9
    go_wp2
    repeat (go_quiet (fail); try go_wp2)
    go_ret
    exact ⟨by first | rfl | (simp; done) | (simp [*]; done) | (simp [show ∀ l_ : List UInt8, l_.isEmpty = !(l_ != []) from fun l_ => by cases l_ <;> rfl]; done), by repeat (first | exact Drawn0.refl _ | apply Drawn0.step)⟩

/-! ### rosterlaw12_copied: function 6 -/
def rosterlaw12_copied.l0 : Nat → List (S31) → List (S31) → Int → Option ((List (S31)))
  | 0, _, _, _ => none
  | k + 1, x0, x3, x4 => if x4 < (x0.length : Int) then (if 0 ≤ x4 then ((some (([] : List ByteArray) : List ByteArray)).bind fun y112 => (if y112.length + ((rd_T31 x0 x4).f4.f1).length < 8796093022208 then (if x3.length < 1099511627776 then (rosterlaw12_copied.l0 k x0 (x3 ++ [(⟨(rd_T31 x0 x4).f0, (rd_T31 x0 x4).f1, (rd_T31 x0 x4).f2, (rd_T31 x0 x4).f3, (⟨(rd_T31 x0 x4).f4.f0, (y112 ++ ((rd_T31 x0 x4).f4.f1)), (rd_T31 x0 x4).f4.f2⟩ : S29), (rd_T31 x0 x4).f5, (rd_T31 x0 x4).f6⟩ : S31)]) (wrap64 (x4 + 1))) else (none)) else (none))) else (none)) else (some x3)
def rosterlaw12_copied.f (k : Nat) (l0 : List (S31)) : Option ((List (S31))) := rosterlaw12_copied.l0 k l0 ([] : List (S31)) 0
theorem rosterlaw12_copied.mono_l : ∀ k, (∀ y0 y1 y2, LeO (rosterlaw12_copied.l0 k y0 y1 y2) (rosterlaw12_copied.l0 (k + 1) y0 y1 y2))
  | 0 => fun _ _ _ r h => by simp [rosterlaw12_copied.l0] at h
  | k + 1 => by
    have ih0 := rosterlaw12_copied.mono_l k
    · intro y0 y1 y2
      unfold rosterlaw12_copied.l0
      repeat' first
      | (with_reducible exact ih0 _ _ _)
      | (with_reducible exact LeO.refl _)
      | (with_reducible exact LeO.none _)
      | (with_reducible refine LeO.ite ?_ ?_)
      | (with_reducible refine LeO.bind ?_ (fun _ => ?_))
      | exact ih0 _ _ _
      | exact LeO.none _
      | refine LeO.ite ?_ ?_
      | refine LeO.bind ?_ (fun _ => ?_)
theorem rosterlaw12_copied.mono : ∀ a0 k, LeO (rosterlaw12_copied.f k a0) (rosterlaw12_copied.f (k + 1) a0) := by
  intro a0 k
  have ih0 := rosterlaw12_copied.mono_l k
  unfold rosterlaw12_copied.f
  repeat' first
      | (with_reducible exact ih0 _ _ _)
      | (with_reducible exact LeO.refl _)
      | (with_reducible exact LeO.none _)
      | (with_reducible refine LeO.ite ?_ ?_)
      | (with_reducible refine LeO.bind ?_ (fun _ => ?_))
      | exact ih0 _ _ _
      | exact LeO.none _
      | refine LeO.ite ?_ ?_
      | refine LeO.bind ?_ (fun _ => ?_)
set_option maxHeartbeats 8000000 in
set_option maxRecDepth 100000 in
theorem rosterlaw12_copied.calls (k : Nat) (A0 : Option Addr) (c0 : Nat) (l0 : List (S31)) (r : List (S31)) (w : World) (hr0 : Kd.C k31 w A0 l0.length l0) (hc0 : l0.length ≤ c0) (h : rosterlaw12_copied.f k l0 = some r) :
    Calls Try.prog 6 #[.slice A0 l0.length c0] w fun e w' => ∃ v0_ : Value, e = .returned (v0_) ∧ Kd.S k31 31 w' w.heap.size (fun _ => True) v0_ r ∧ Below w.heap.size w w' := by
  have hu31 := Try.underlying31
  have HR0 := Aside0.mk hr0
  have HC0 := Aside0.mk hc0
  clear hr0 hc0
  have HB := Aside0.mk (Below.refl w.heap.size w)
  have H : (rosterlaw12_copied.l0 k l0 ([] : List (S31)) 0) = some r := h
  clear h
  have H' := Aside0.mk H
  clear H
  go_enter Try.func6, Try.ntmps6
  go_wp2
  go_loopg [3, 4] k (fun kq v3 v4 w' => ∃ (x3_1 : List (S31)) (x4_1 : Int), v4 = .int .i64 x4_1 ∧ Aside0 (rosterlaw12_copied.l0 kq l0 x3_1 x4_1 = some r) ∧ Aside0 (kq ≤ k) ∧ Aside0 (Kd.S k31 31 w' w.heap.size (fun _ => True) v3 x3_1) ∧ Aside0 (Below w.heap.size w w'))
  case atStart => exact ⟨(([] : List (S31))), (0), (by first | rfl | (simp; done) | (simp [*]; done) | (simp [show ∀ l_ : List UInt8, l_.isEmpty = !(l_ != []) from fun l_ => by cases l_ <;> rfl]; done)), H', ⟨Nat.le_refl _⟩, ⟨by first | exact Kd.S_nil _ _ _ _ _ | exact Kd.N_nil _ _ _ _ _ | exact Kd.V_nil _ _ _ _ _ | exact Kd.Q_nil _ _ _ _ _ | exact Kd.R_nil _ _ _ _ _⟩, ⟨by repeat (first | (with_reducible first | exact HB.out | apply below_alloc | apply pw_below_drewN | apply below_drew1) | exact HB.out)⟩⟩
  case round =>
    clear H'
    obtain ⟨x3_1, x4_1, rfl, HA, HK1, HO_3, HB⟩ := hrel
    cases gk with
    | zero => exact absurd HA.out (by simp [rosterlaw12_copied.l0])
    | succ k1 =>
      have H := HA.out
      clear HA
      simp only [rosterlaw12_copied.l0] at H
      by_cases c2 : x4_1 < (l0.length : Int)
      · rw [if_pos c2] at H
        have c2b0 : decide (x4_1 < (l0.length : Int)) = true := decide_eq_true c2
        clear c2
        by_cases c3 : 0 ≤ x4_1
        · rw [if_pos c3] at H
          have c3b0 : decide (0 ≤ x4_1) = true := decide_eq_true c3
          clear c3
          obtain ⟨y112, hy112⟩ : ∃ y_ : List ByteArray, y_ = (([] : List ByteArray)) := ⟨_, rfl⟩
          replace H : (if y112.length + ((rd_T31 l0 x4_1).f4.f1).length < 8796093022208 then (if x3_1.length < 1099511627776 then (rosterlaw12_copied.l0 k1 l0 (x3_1 ++ [(⟨(rd_T31 l0 x4_1).f0, (rd_T31 l0 x4_1).f1, (rd_T31 l0 x4_1).f2, (rd_T31 l0 x4_1).f3, (⟨(rd_T31 l0 x4_1).f4.f0, (y112 ++ ((rd_T31 l0 x4_1).f4.f1)), (rd_T31 l0 x4_1).f4.f2⟩ : S29), (rd_T31 l0 x4_1).f5, (rd_T31 l0 x4_1).f6⟩ : S31)]) (wrap64 (x4_1 + 1))) else (none)) else (none)) = some r := by first | (rw [hy112]; with_reducible exact H) | (have H2_ := (Option.bind_some _ _).symm.trans H; rw [hy112]; with_reducible exact H2_) | (have H2_ := (Option.bind_some _ _).symm.trans H; with_reducible exact H2_) | with_reducible exact H | (rw [hy112]; exact H) | exact H
          have Ny112 := Aside0.mk hy112
          clear hy112
          by_cases c4 : y112.length + ((rd_T31 l0 x4_1).f4.f1).length < 8796093022208
          · rw [if_pos c4] at H
            have LMc4 := Aside0.mk c4
            clear c4
            obtain ⟨y115, hy115⟩ : ∃ y_ : List ByteArray, y_ = (y112 ++ ((rd_T31 l0 x4_1).f4.f1)) := ⟨_, rfl⟩
            replace H : (if x3_1.length < 1099511627776 then (rosterlaw12_copied.l0 k1 l0 (x3_1 ++ [(⟨(rd_T31 l0 x4_1).f0, (rd_T31 l0 x4_1).f1, (rd_T31 l0 x4_1).f2, (rd_T31 l0 x4_1).f3, (⟨(rd_T31 l0 x4_1).f4.f0, y115, (rd_T31 l0 x4_1).f4.f2⟩ : S29), (rd_T31 l0 x4_1).f5, (rd_T31 l0 x4_1).f6⟩ : S31)]) (wrap64 (x4_1 + 1))) else (none)) = some r := by first | (rw [hy115]; with_reducible exact H) | (have H2_ := (Option.bind_some _ _).symm.trans H; rw [hy115]; with_reducible exact H2_) | (have H2_ := (Option.bind_some _ _).symm.trans H; with_reducible exact H2_) | with_reducible exact H | (rw [hy115]; exact H) | exact H
            have Ny115 := Aside0.mk hy115
            clear hy115
            by_cases c5 : x3_1.length < 1099511627776
            · rw [if_pos c5] at H
              have LMc5 := Aside0.mk c5
              clear c5
              obtain ⟨y118, hy118⟩ : ∃ y_ : List (S31), y_ = (x3_1 ++ [(⟨(rd_T31 l0 x4_1).f0, (rd_T31 l0 x4_1).f1, (rd_T31 l0 x4_1).f2, (rd_T31 l0 x4_1).f3, (⟨(rd_T31 l0 x4_1).f4.f0, y115, (rd_T31 l0 x4_1).f4.f2⟩ : S29), (rd_T31 l0 x4_1).f5, (rd_T31 l0 x4_1).f6⟩ : S31)]) := ⟨_, rfl⟩
              replace H : (rosterlaw12_copied.l0 k1 l0 y118 (wrap64 (x4_1 + 1))) = some r := by first | (rw [hy118]; with_reducible exact H) | (have H2_ := (Option.bind_some _ _).symm.trans H; rw [hy118]; with_reducible exact H2_) | (have H2_ := (Option.bind_some _ _).symm.trans H; with_reducible exact H2_) | with_reducible exact H | (rw [hy118]; exact H) | exact H
              have Ny118 := Aside0.mk hy118
              clear hy118
              have H' := Aside0.mk H
              clear H
              have p110 : 0 ≤ (x4_1 : Int) := of_decide_eq_true (by first | (with_reducible assumption) | assumption)
              have q110 : x4_1 < (l0.length : Int) := of_decide_eq_true (by first | (with_reducible assumption) | assumption)
              obtain ⟨ad110, A110_5, c110_5, e110, hx110_0, hx110_1, hx110_2, hx110_3, hx110_4, hx110_5, hx110_6, hx110_7, hx110_8, hl110_5, hi110_5⟩ := at_T31 HR0.out x4_1 p110 q110
              cases e110
              replace hx110_0 := (HB.out.cell (World.block_lt_of_cell? w _ hx110_0)).trans hx110_0
              replace hx110_1 := (HB.out.cell (World.block_lt_of_cell? w _ hx110_1)).trans hx110_1
              replace hx110_2 := (HB.out.cell (World.block_lt_of_cell? w _ hx110_2)).trans hx110_2
              replace hx110_3 := (HB.out.cell (World.block_lt_of_cell? w _ hx110_3)).trans hx110_3
              replace hx110_4 := (HB.out.cell (World.block_lt_of_cell? w _ hx110_4)).trans hx110_4
              replace hx110_5 := (HB.out.cell (World.block_lt_of_cell? w _ hx110_5)).trans hx110_5
              replace hx110_6 := (HB.out.cell (World.block_lt_of_cell? w _ hx110_6)).trans hx110_6
              replace hx110_7 := (HB.out.cell (World.block_lt_of_cell? w _ hx110_7)).trans hx110_7
              replace hx110_8 := (HB.out.cell (World.block_lt_of_cell? w _ hx110_8)).trans hx110_8
              have HR110_5 := Aside0.mk hi110_5
              have HC110_5 := Aside0.mk hl110_5
              clear hi110_5 hl110_5
              replace p110 := eq_true p110
              replace q110 := eq_true q110
              go_wp2_with (first | ((with_reducible refine gate_dst (N := 5) rfl ?_); refine box_event ?hg (N := 5) ?hd (cs := #[.int .i64 0, .int .i64 0, .string (⟨#[]⟩ : ByteArray), .string (⟨#[]⟩ : ByteArray), .string (⟨#[]⟩ : ByteArray), .slice none 0 0, .string (⟨#[]⟩ : ByteArray), .string (⟨#[]⟩ : ByteArray), .bool false]) (t := 31) ?hr ?_; (case hd => rfl); (case hg => rfl); (case hr => first | (go_simp; done) | (go_simp; rfl)); intro gb111 hg w6 hbox hb; have n0_ := Aside0.mk (Kd.S_below (Kd.S_elderB (by (with_reducible repeat (first | apply Kd.S_alloc | apply Kd.S_drewN | apply Kd.S_drew)); exact HO_3.out) gb111 (Nat.le_of_eq hg.symm)) hb); have n1_ := Aside0.mk (below_step (by repeat (first | (with_reducible first | exact HB.out | apply below_alloc | apply pw_below_drewN | apply below_drew1) | exact HB.out)) hb); have n2_ := Aside0.mk (hbox); have n3_ := Aside0.mk ((by rw [hg]; exact (below_size (by repeat (first | (with_reducible first | exact HB.out | apply below_alloc | apply pw_below_drewN | apply below_drew1) | exact HB.out))) : w.heap.size ≤ gb111)); have n4_ := Aside0.mk ((by rw [hg]; exact (below_size (by repeat (first | (with_reducible first | exact HB.out | apply below_alloc | apply pw_below_drewN | apply below_drew1) | exact HB.out))) : w.heap.size ≤ gb111)); clear HO_3; clear HB; have HO_3 := n0_; have HB := n1_; have BK111 := n2_; have GW111 := n3_; have GE111 := n4_; clear n0_ n1_ n2_ n3_ n4_; clear hb hbox hg; have hcz7_0 : w6.cell? ⟨gb111, 0, none⟩ = some (.int .i64 0) := (blk_cell BK111.out 0).trans rfl; have hcz7_1 : w6.cell? ⟨gb111, 1, none⟩ = some (.int .i64 0) := (blk_cell BK111.out 1).trans rfl; have hcz7_2 : w6.cell? ⟨gb111, 2, none⟩ = some (.string (⟨#[]⟩ : ByteArray)) := (blk_cell BK111.out 2).trans rfl; have hcz7_3 : w6.cell? ⟨gb111, 3, none⟩ = some (.string (⟨#[]⟩ : ByteArray)) := (blk_cell BK111.out 3).trans rfl; have hcz7_4 : w6.cell? ⟨gb111, 4, none⟩ = some (.string (⟨#[]⟩ : ByteArray)) := (blk_cell BK111.out 4).trans rfl; have hcz7_5 : w6.cell? ⟨gb111, 5, none⟩ = some (.slice none 0 0) := (blk_cell BK111.out 5).trans rfl; have hcz7_6 : w6.cell? ⟨gb111, 6, none⟩ = some (.string (⟨#[]⟩ : ByteArray)) := (blk_cell BK111.out 6).trans rfl; have hcz7_7 : w6.cell? ⟨gb111, 7, none⟩ = some (.string (⟨#[]⟩ : ByteArray)) := (blk_cell BK111.out 7).trans rfl; have hcz7_8 : w6.cell? ⟨gb111, 8, none⟩ = some (.bool false) := (blk_cell BK111.out 8).trans rfl; have hfz7_0 := blk_frozen BK111.out 0; have hfz7_1 := blk_frozen BK111.out 1; have hfz7_2 := blk_frozen BK111.out 2; have hfz7_3 := blk_frozen BK111.out 3; have hfz7_4 := blk_frozen BK111.out 4; have hfz7_5 := blk_frozen BK111.out 5; have hfz7_6 := blk_frozen BK111.out 6; have hfz7_7 := blk_frozen BK111.out 7; have hfz7_8 := blk_frozen BK111.out 8) | ((with_reducible refine gate_dst (N := 16) rfl ?_); refine Kd.R_lit Kd.string _ 9 ?hg (N := 16) ?hd (xs := ([] : List ByteArray)) (inner := []) (ok := fun _ => True) (okp := fun _ => True) ?hr ?hp (fun _ hk => hk) trivial (Below.refl _ _) (Nat.le_refl _) (by simp) ?_; (case hd => rfl); (case hg => rfl); (case hr => first | (go_simp; done) | (go_simp; rfl)); (case hp => exact (Reps.none _ _)); intro v113 w8 ho9 hb hg_ hnew_; clear hg_ hnew_; (first | rw [← Ny112.out] at ho9 | (simp only [Int.reduceToNat] at ho9; rw [← Ny112.out] at ho9)); have n0_ := Aside0.mk (Kd.S_elder' (by (with_reducible repeat (first | apply Kd.S_alloc | apply Kd.S_drewN | apply Kd.S_drew)); exact (Kd.S_mono (Kd.S_far (p := ⟨gb111, 8, none⟩) (Kd.S_far (p := ⟨gb111, 7, none⟩) (Kd.S_far (p := ⟨gb111, 6, none⟩) (Kd.S_far (p := ⟨gb111, 5, none⟩) (Kd.S_far (p := ⟨gb111, 4, none⟩) (Kd.S_far (p := ⟨gb111, 3, none⟩) (Kd.S_far (p := ⟨gb111, 2, none⟩) (Kd.S_far (p := ⟨gb111, 1, none⟩) (Kd.S_far (p := ⟨gb111, 0, none⟩) (Kd.S_mono HO_3.out (fun k_ hk => (⟨hk, hk.2⟩ : _ ∧ k_ ≠ gb111))) (fun _ hk => hk.2) (.int .i64 ((rd_T31 l0 x4_1).f0))) (fun _ hk => hk.2) (.int .i64 ((rd_T31 l0 x4_1).f1))) (fun _ hk => hk.2) (.string ((rd_T31 l0 x4_1).f2))) (fun _ hk => hk.2) (.string ((rd_T31 l0 x4_1).f3))) (fun _ hk => hk.2) (.string ((rd_T31 l0 x4_1).f4.f0))) (fun _ hk => hk.2) (.slice A110_5 ((rd_T31 l0 x4_1).f4.f1).length c110_5)) (fun _ hk => hk.2) (.string ((rd_T31 l0 x4_1).f4.f2))) (fun _ hk => hk.2) (.string ((rd_T31 l0 x4_1).f5))) (fun _ hk => hk.2) (.bool ((rd_T31 l0 x4_1).f6))) (fun _ h_ => h_.1))) (Kd.R_base ho9) hb); have n1_ := Aside0.mk (Kd.R_lower ho9 (below_size (by repeat (first | (with_reducible first | exact HB.out | apply below_alloc | apply pw_below_drewN | apply below_drew1 | refine below_set ?_ GE111.out) | exact HB.out)))); have n2_ := Aside0.mk (blk_below (g := gb111) (o := .cells #[.int .i64 ((rd_T31 l0 x4_1).f0), .int .i64 ((rd_T31 l0 x4_1).f1), .string ((rd_T31 l0 x4_1).f2), .string ((rd_T31 l0 x4_1).f3), .string ((rd_T31 l0 x4_1).f4.f0), .slice A110_5 ((rd_T31 l0 x4_1).f4.f1).length c110_5, .string ((rd_T31 l0 x4_1).f4.f2), .string ((rd_T31 l0 x4_1).f5), .bool ((rd_T31 l0 x4_1).f6)] 31 (0, 0)) (by (with_reducible repeat (first | refine blk_drewN ?_ _ | refine blk_drew ?_ | refine blk_alloc ?_ _)); refine blk_put (cs := #[.int .i64 ((rd_T31 l0 x4_1).f0), .int .i64 ((rd_T31 l0 x4_1).f1), .string ((rd_T31 l0 x4_1).f2), .string ((rd_T31 l0 x4_1).f3), .string ((rd_T31 l0 x4_1).f4.f0), .slice A110_5 ((rd_T31 l0 x4_1).f4.f1).length c110_5, .string ((rd_T31 l0 x4_1).f4.f2), .string ((rd_T31 l0 x4_1).f5), .bool false]) ?_ 8 _ rfl; (with_reducible repeat (first | refine blk_drewN ?_ _ | refine blk_drew ?_ | refine blk_alloc ?_ _)); refine blk_put (cs := #[.int .i64 ((rd_T31 l0 x4_1).f0), .int .i64 ((rd_T31 l0 x4_1).f1), .string ((rd_T31 l0 x4_1).f2), .string ((rd_T31 l0 x4_1).f3), .string ((rd_T31 l0 x4_1).f4.f0), .slice A110_5 ((rd_T31 l0 x4_1).f4.f1).length c110_5, .string ((rd_T31 l0 x4_1).f4.f2), .string (⟨#[]⟩ : ByteArray), .bool false]) ?_ 7 _ rfl; (with_reducible repeat (first | refine blk_drewN ?_ _ | refine blk_drew ?_ | refine blk_alloc ?_ _)); refine blk_put (cs := #[.int .i64 ((rd_T31 l0 x4_1).f0), .int .i64 ((rd_T31 l0 x4_1).f1), .string ((rd_T31 l0 x4_1).f2), .string ((rd_T31 l0 x4_1).f3), .string ((rd_T31 l0 x4_1).f4.f0), .slice A110_5 ((rd_T31 l0 x4_1).f4.f1).length c110_5, .string (⟨#[]⟩ : ByteArray), .string (⟨#[]⟩ : ByteArray), .bool false]) ?_ 6 _ rfl; (with_reducible repeat (first | refine blk_drewN ?_ _ | refine blk_drew ?_ | refine blk_alloc ?_ _)); refine blk_put (cs := #[.int .i64 ((rd_T31 l0 x4_1).f0), .int .i64 ((rd_T31 l0 x4_1).f1), .string ((rd_T31 l0 x4_1).f2), .string ((rd_T31 l0 x4_1).f3), .string ((rd_T31 l0 x4_1).f4.f0), .slice none 0 0, .string (⟨#[]⟩ : ByteArray), .string (⟨#[]⟩ : ByteArray), .bool false]) ?_ 5 _ rfl; (with_reducible repeat (first | refine blk_drewN ?_ _ | refine blk_drew ?_ | refine blk_alloc ?_ _)); refine blk_put (cs := #[.int .i64 ((rd_T31 l0 x4_1).f0), .int .i64 ((rd_T31 l0 x4_1).f1), .string ((rd_T31 l0 x4_1).f2), .string ((rd_T31 l0 x4_1).f3), .string (⟨#[]⟩ : ByteArray), .slice none 0 0, .string (⟨#[]⟩ : ByteArray), .string (⟨#[]⟩ : ByteArray), .bool false]) ?_ 4 _ rfl; (with_reducible repeat (first | refine blk_drewN ?_ _ | refine blk_drew ?_ | refine blk_alloc ?_ _)); refine blk_put (cs := #[.int .i64 ((rd_T31 l0 x4_1).f0), .int .i64 ((rd_T31 l0 x4_1).f1), .string ((rd_T31 l0 x4_1).f2), .string (⟨#[]⟩ : ByteArray), .string (⟨#[]⟩ : ByteArray), .slice none 0 0, .string (⟨#[]⟩ : ByteArray), .string (⟨#[]⟩ : ByteArray), .bool false]) ?_ 3 _ rfl; (with_reducible repeat (first | refine blk_drewN ?_ _ | refine blk_drew ?_ | refine blk_alloc ?_ _)); refine blk_put (cs := #[.int .i64 ((rd_T31 l0 x4_1).f0), .int .i64 ((rd_T31 l0 x4_1).f1), .string (⟨#[]⟩ : ByteArray), .string (⟨#[]⟩ : ByteArray), .string (⟨#[]⟩ : ByteArray), .slice none 0 0, .string (⟨#[]⟩ : ByteArray), .string (⟨#[]⟩ : ByteArray), .bool false]) ?_ 2 _ rfl; (with_reducible repeat (first | refine blk_drewN ?_ _ | refine blk_drew ?_ | refine blk_alloc ?_ _)); refine blk_put (cs := #[.int .i64 ((rd_T31 l0 x4_1).f0), .int .i64 0, .string (⟨#[]⟩ : ByteArray), .string (⟨#[]⟩ : ByteArray), .string (⟨#[]⟩ : ByteArray), .slice none 0 0, .string (⟨#[]⟩ : ByteArray), .string (⟨#[]⟩ : ByteArray), .bool false]) ?_ 1 _ rfl; (with_reducible repeat (first | refine blk_drewN ?_ _ | refine blk_drew ?_ | refine blk_alloc ?_ _)); refine blk_put (cs := #[.int .i64 0, .int .i64 0, .string (⟨#[]⟩ : ByteArray), .string (⟨#[]⟩ : ByteArray), .string (⟨#[]⟩ : ByteArray), .slice none 0 0, .string (⟨#[]⟩ : ByteArray), .string (⟨#[]⟩ : ByteArray), .bool false]) ?_ 0 _ rfl; (with_reducible repeat (first | refine blk_drewN ?_ _ | refine blk_drew ?_ | refine blk_alloc ?_ _)); exact BK111.out) hb); have n3_ := Aside0.mk (below_step (by repeat (first | (with_reducible first | exact HB.out | apply below_alloc | apply pw_below_drewN | apply below_drew1 | refine below_set ?_ GE111.out) | exact HB.out)) hb); clear HO_3; clear BK111; clear HB; have HO_3 := n0_; have HO114 := n1_; have BK111 := n2_; have HB := n3_; clear n0_ n1_ n2_ n3_; clear hb ho9; have hcz10_0 : w8.cell? ⟨gb111, 0, none⟩ = some (.int .i64 ((rd_T31 l0 x4_1).f0)) := (blk_cell BK111.out 0).trans rfl; have hcz10_1 : w8.cell? ⟨gb111, 1, none⟩ = some (.int .i64 ((rd_T31 l0 x4_1).f1)) := (blk_cell BK111.out 1).trans rfl; have hcz10_2 : w8.cell? ⟨gb111, 2, none⟩ = some (.string ((rd_T31 l0 x4_1).f2)) := (blk_cell BK111.out 2).trans rfl; have hcz10_3 : w8.cell? ⟨gb111, 3, none⟩ = some (.string ((rd_T31 l0 x4_1).f3)) := (blk_cell BK111.out 3).trans rfl; have hcz10_4 : w8.cell? ⟨gb111, 4, none⟩ = some (.string ((rd_T31 l0 x4_1).f4.f0)) := (blk_cell BK111.out 4).trans rfl; have hcz10_5 : w8.cell? ⟨gb111, 5, none⟩ = some (.slice A110_5 ((rd_T31 l0 x4_1).f4.f1).length c110_5) := (blk_cell BK111.out 5).trans rfl; have hcz10_6 : w8.cell? ⟨gb111, 6, none⟩ = some (.string ((rd_T31 l0 x4_1).f4.f2)) := (blk_cell BK111.out 6).trans rfl; have hcz10_7 : w8.cell? ⟨gb111, 7, none⟩ = some (.string ((rd_T31 l0 x4_1).f5)) := (blk_cell BK111.out 7).trans rfl; have hcz10_8 : w8.cell? ⟨gb111, 8, none⟩ = some (.bool ((rd_T31 l0 x4_1).f6)) := (blk_cell BK111.out 8).trans rfl; have hfz10_0 := blk_frozen BK111.out 0; have hfz10_1 := blk_frozen BK111.out 1; have hfz10_2 := blk_frozen BK111.out 2; have hfz10_3 := blk_frozen BK111.out 3; have hfz10_4 := blk_frozen BK111.out 4; have hfz10_5 := blk_frozen BK111.out 5; have hfz10_6 := blk_frozen BK111.out 6; have hfz10_7 := blk_frozen BK111.out 7; have hfz10_8 := blk_frozen BK111.out 8) | ((with_reducible refine gate_builtin (b := .append) (xs := #[.tmp 16, .tmp 19]) rfl ?_); at_builtin; refine Kd.R_append_rows Kd.string (w0 := w) w.heap.size rfl (.tmp 16) (.tmp 19) 27 9 (.string ⟨#[]⟩) 16 rfl Try.underlying27 info9 rfl (by decide) (by omega) v113 y112 ((rd_T31 l0 x4_1).f4.f1) _ _ _ (fun _ => True) (fun _ => False) rfl rfl ?aO ?aR (fun _ _ h => h) (fun _ h => h.elim) ?aF ?aB ?aS ?aL ?_; (case aR => repeat (first | exact (Kd.C_below HR110_5.out HB.out) | (with_reducible refine Kd.C_alloc ?_ _) | (with_reducible refine Kd.C_drewN ?_ _) | (with_reducible refine Kd.C_drew ?_))); (case aB => exact (by repeat (first | (with_reducible first | exact HB.out | apply below_alloc | apply pw_below_drewN | apply below_drew1 | refine below_set ?_ GE111.out) | exact HB.out))); (case aF => exact (fun _ _ => trivial)); (case aO => exact (by (with_reducible repeat (first | apply Kd.R_alloc | apply Kd.R_drewN | apply Kd.R_drew)); exact HO114.out)); (case aS => exact (below_size (by repeat (first | (with_reducible first | exact HB.out | apply below_alloc | apply pw_below_drewN | apply below_drew1 | refine below_set ?_ GE111.out) | exact HB.out)))); (case aL => have := LMc4.out; omega); intro v116 w11 ho hb hg hat; rw [← Ny115.out] at ho; have n0_ := Aside0.mk (Kd.S_after (ok := (fun k_ => k_ ≠ gb111)) (by (with_reducible repeat (first | apply Kd.S_alloc | apply Kd.S_drewN | apply Kd.S_drew)); exact Kd.S_mono HO_3.out (fun _ hk => ⟨hk.1.2, hk.2⟩)) hg hat); have n1_ := Aside0.mk (blk_grown (g := gb111) (o := .cells #[.int .i64 ((rd_T31 l0 x4_1).f0), .int .i64 ((rd_T31 l0 x4_1).f1), .string ((rd_T31 l0 x4_1).f2), .string ((rd_T31 l0 x4_1).f3), .string ((rd_T31 l0 x4_1).f4.f0), .slice A110_5 ((rd_T31 l0 x4_1).f4.f1).length c110_5, .string ((rd_T31 l0 x4_1).f4.f2), .string ((rd_T31 l0 x4_1).f5), .bool ((rd_T31 l0 x4_1).f6)] 31 (0, 0)) (by (with_reducible repeat (first | refine blk_drewN ?_ _ | refine blk_drew ?_ | refine blk_alloc ?_ _)); exact BK111.out) hg (Kd.R_ne HO114.out BK111.out (by decide))); have n2_ := Aside0.mk (hb); have n3_ := Aside0.mk (ho); clear HO_3; clear BK111; clear HB; clear HO114; have HO_3 := n0_; have BK111 := n1_; have HB := n2_; have HO117 := n3_; clear n0_ n1_ n2_ n3_; clear ho hb hg hat; obtain ⟨Ao12, co12, eo12⟩ := Kd.R_slice HO117.out; subst eo12; have hcz13_0 : w11.cell? ⟨gb111, 0, none⟩ = some (.int .i64 ((rd_T31 l0 x4_1).f0)) := (blk_cell BK111.out 0).trans rfl; have hcz13_1 : w11.cell? ⟨gb111, 1, none⟩ = some (.int .i64 ((rd_T31 l0 x4_1).f1)) := (blk_cell BK111.out 1).trans rfl; have hcz13_2 : w11.cell? ⟨gb111, 2, none⟩ = some (.string ((rd_T31 l0 x4_1).f2)) := (blk_cell BK111.out 2).trans rfl; have hcz13_3 : w11.cell? ⟨gb111, 3, none⟩ = some (.string ((rd_T31 l0 x4_1).f3)) := (blk_cell BK111.out 3).trans rfl; have hcz13_4 : w11.cell? ⟨gb111, 4, none⟩ = some (.string ((rd_T31 l0 x4_1).f4.f0)) := (blk_cell BK111.out 4).trans rfl; have hcz13_5 : w11.cell? ⟨gb111, 5, none⟩ = some (.slice A110_5 ((rd_T31 l0 x4_1).f4.f1).length c110_5) := (blk_cell BK111.out 5).trans rfl; have hcz13_6 : w11.cell? ⟨gb111, 6, none⟩ = some (.string ((rd_T31 l0 x4_1).f4.f2)) := (blk_cell BK111.out 6).trans rfl; have hcz13_7 : w11.cell? ⟨gb111, 7, none⟩ = some (.string ((rd_T31 l0 x4_1).f5)) := (blk_cell BK111.out 7).trans rfl; have hcz13_8 : w11.cell? ⟨gb111, 8, none⟩ = some (.bool ((rd_T31 l0 x4_1).f6)) := (blk_cell BK111.out 8).trans rfl; have hfz13_0 := blk_frozen BK111.out 0; have hfz13_1 := blk_frozen BK111.out 1; have hfz13_2 := blk_frozen BK111.out 2; have hfz13_3 := blk_frozen BK111.out 3; have hfz13_4 := blk_frozen BK111.out 4; have hfz13_5 := blk_frozen BK111.out 5; have hfz13_6 := blk_frozen BK111.out 6; have hfz13_7 := blk_frozen BK111.out 7; have hfz13_8 := blk_frozen BK111.out 8) | ((with_reducible refine gate_store (t := 27) (p := 22) rfl ?_); refine store_event (t := 27) (p := 22) (v := ?vo_w14) (w1 := (w11.setCell ⟨gb111, 5, none⟩ (.slice Ao12 y115.length co12))) ?hg ?ho ?hn ?hr ?_; (case ho => rfl); (case hg => rfl); (case hn => rfl); (case hr => first | (go_simp; done) | (go_simp; rfl)); intro w14 hw; have n0_ : Aside0 (Kd.S k31 31 w14 w.heap.size (fun k_ => some k_ ≠ (.slice Ao12 y115.length co12 : Value).ownBlock ∧ k_ ≠ gb111) u3 x3_1) := ⟨(by rw [hw]; exact (by (with_reducible repeat (first | apply Kd.S_alloc | apply Kd.S_drewN | apply Kd.S_drew)); exact Kd.S_mono (Kd.S_far (p := ⟨gb111, 5, none⟩) (Kd.S_mono HO_3.out (fun k_ hk => (⟨hk, hk.1⟩ : _ ∧ k_ ≠ gb111))) (fun _ hk => hk.2) (.slice Ao12 y115.length co12)) (fun _ hk => ⟨hk.1.2, hk.1.1⟩)))⟩; have n1_ : Aside0 (Kd.R Kd.string 9 w14 w.heap.size (fun _ => True) (.slice Ao12 y115.length co12) y115) := ⟨(by rw [hw]; exact (by (with_reducible repeat (first | apply Kd.R_alloc | apply Kd.R_drewN | apply Kd.R_drew)); exact Kd.R_mono (Kd.R_far (p := ⟨gb111, 5, none⟩) (Kd.R_types HO117.out BK111.out (by decide)) (fun _ hk => hk.2) (.slice Ao12 y115.length co12)) (fun _ hk => trivial)))⟩; have n2_ : Aside0 (w14.heap[gb111]? = some (.cells #[.int .i64 ((rd_T31 l0 x4_1).f0), .int .i64 ((rd_T31 l0 x4_1).f1), .string ((rd_T31 l0 x4_1).f2), .string ((rd_T31 l0 x4_1).f3), .string ((rd_T31 l0 x4_1).f4.f0), .slice Ao12 y115.length co12, .string ((rd_T31 l0 x4_1).f4.f2), .string ((rd_T31 l0 x4_1).f5), .bool ((rd_T31 l0 x4_1).f6)] 31 (0, 0))) := ⟨(by rw [hw]; exact (by (with_reducible repeat (first | refine blk_drewN ?_ _ | refine blk_drew ?_ | refine blk_alloc ?_ _)); refine blk_put (cs := #[.int .i64 ((rd_T31 l0 x4_1).f0), .int .i64 ((rd_T31 l0 x4_1).f1), .string ((rd_T31 l0 x4_1).f2), .string ((rd_T31 l0 x4_1).f3), .string ((rd_T31 l0 x4_1).f4.f0), .slice A110_5 ((rd_T31 l0 x4_1).f4.f1).length c110_5, .string ((rd_T31 l0 x4_1).f4.f2), .string ((rd_T31 l0 x4_1).f5), .bool ((rd_T31 l0 x4_1).f6)]) ?_ 5 _ rfl; (with_reducible repeat (first | refine blk_drewN ?_ _ | refine blk_drew ?_ | refine blk_alloc ?_ _)); exact BK111.out))⟩; have n3_ : Aside0 (Below w.heap.size w w14) := ⟨(by rw [hw]; exact (by repeat (first | (with_reducible first | exact HB.out | apply below_alloc | apply pw_below_drewN | apply below_drew1 | refine below_set ?_ GE111.out) | exact HB.out)))⟩; clear hw; clear HO_3; clear HO117; clear BK111; clear HB; have HO_3 := n0_; have HO117 := n1_; have BK111 := n2_; have HB := n3_; clear n0_ n1_ n2_ n3_; have hcz15_0 : w14.cell? ⟨gb111, 0, none⟩ = some (.int .i64 ((rd_T31 l0 x4_1).f0)) := (blk_cell BK111.out 0).trans rfl; have hcz15_1 : w14.cell? ⟨gb111, 1, none⟩ = some (.int .i64 ((rd_T31 l0 x4_1).f1)) := (blk_cell BK111.out 1).trans rfl; have hcz15_2 : w14.cell? ⟨gb111, 2, none⟩ = some (.string ((rd_T31 l0 x4_1).f2)) := (blk_cell BK111.out 2).trans rfl; have hcz15_3 : w14.cell? ⟨gb111, 3, none⟩ = some (.string ((rd_T31 l0 x4_1).f3)) := (blk_cell BK111.out 3).trans rfl; have hcz15_4 : w14.cell? ⟨gb111, 4, none⟩ = some (.string ((rd_T31 l0 x4_1).f4.f0)) := (blk_cell BK111.out 4).trans rfl; have hcz15_5 : w14.cell? ⟨gb111, 5, none⟩ = some (.slice Ao12 y115.length co12) := (blk_cell BK111.out 5).trans rfl; have hcz15_6 : w14.cell? ⟨gb111, 6, none⟩ = some (.string ((rd_T31 l0 x4_1).f4.f2)) := (blk_cell BK111.out 6).trans rfl; have hcz15_7 : w14.cell? ⟨gb111, 7, none⟩ = some (.string ((rd_T31 l0 x4_1).f5)) := (blk_cell BK111.out 7).trans rfl; have hcz15_8 : w14.cell? ⟨gb111, 8, none⟩ = some (.bool ((rd_T31 l0 x4_1).f6)) := (blk_cell BK111.out 8).trans rfl; have hfz15_0 := blk_frozen BK111.out 0; have hfz15_1 := blk_frozen BK111.out 1; have hfz15_2 := blk_frozen BK111.out 2; have hfz15_3 := blk_frozen BK111.out 3; have hfz15_4 := blk_frozen BK111.out 4; have hfz15_5 := blk_frozen BK111.out 5; have hfz15_6 := blk_frozen BK111.out 6; have hfz15_7 := blk_frozen BK111.out 7; have hfz15_8 := blk_frozen BK111.out 8) | ((with_reducible refine gate_builtin (b := .append) (xs := #[.tmp 23, .tmp 25]) rfl ?_); at_builtin; refine Kd.S_append k31 (w0 := w) w.heap.size rfl (.tmp 23) (.tmp 25) 23 31 (.agg #[(.int .i64 0), (.int .i64 0), (.string ⟨#[]⟩), (.string ⟨#[]⟩), (.string ⟨#[]⟩), (.slice none 0 0), (.string ⟨#[]⟩), (.string ⟨#[]⟩), (.bool false)]) 128 rfl Try.underlying23 info31 rfl (by decide) (by omega) u3 x3_1 (⟨(rd_T31 l0 x4_1).f0, (rd_T31 l0 x4_1).f1, (rd_T31 l0 x4_1).f2, (rd_T31 l0 x4_1).f3, (⟨(rd_T31 l0 x4_1).f4.f0, y115, (rd_T31 l0 x4_1).f4.f2⟩ : S29), (rd_T31 l0 x4_1).f5, (rd_T31 l0 x4_1).f6⟩ : S31) [.int .i64 ((rd_T31 l0 x4_1).f0), .int .i64 ((rd_T31 l0 x4_1).f1), .string ((rd_T31 l0 x4_1).f2), .string ((rd_T31 l0 x4_1).f3), .string ((rd_T31 l0 x4_1).f4.f0), .slice Ao12 y115.length co12, .string ((rd_T31 l0 x4_1).f4.f2), .string ((rd_T31 l0 x4_1).f5), .bool ((rd_T31 l0 x4_1).f6)] (fun k_ => k_ ≠ gb111) (fun k_ => some k_ = (.slice Ao12 y115.length co12 : Value).ownBlock) rfl rfl ?aP (fun k_ hk_ => ((Kd.R_mono (ok' := fun k_ => ((fun k_ => k_ ≠ gb111)) k_ ∧ some k_ ≠ (u3 : Value).ownBlock) (Kd.R_types (Kd.R_apart' (HO117.out) (Kd.S_typed HO_3.out) (by decide)) BK111.out (by decide)) (fun k_ hk => ⟨hk.2, hk.1.2⟩))).1 k_ hk_.symm) ?aF ?aO ?aB ?aS ?aL ?_; (case aP => exact k31_mkM _ _ _ (⟨(rd_T31 l0 x4_1).f0, (rd_T31 l0 x4_1).f1, (rd_T31 l0 x4_1).f2, (rd_T31 l0 x4_1).f3, (⟨(rd_T31 l0 x4_1).f4.f0, y115, (rd_T31 l0 x4_1).f4.f2⟩ : S29), (rd_T31 l0 x4_1).f5, (rd_T31 l0 x4_1).f6⟩ : S31) (Kd.R_mono (Kd.R_tight rfl (Kd.R_mono (ok' := fun k_ => ((fun k_ => k_ ≠ gb111)) k_ ∧ some k_ ≠ (u3 : Value).ownBlock) (Kd.R_types (Kd.R_apart' (HO117.out) (Kd.S_typed HO_3.out) (by decide)) BK111.out (by decide)) (fun k_ hk => ⟨hk.2, hk.1.2⟩))) (fun _ h_ => h_))); (case aB => exact (by repeat (first | (with_reducible first | exact HB.out | apply below_alloc | apply pw_below_drewN | apply below_drew1 | refine below_set ?_ GE111.out) | exact HB.out))); (case aF => exact (fun k_ hk => Kd.freshB (g := gb111) (o := .cells #[.int .i64 ((rd_T31 l0 x4_1).f0), .int .i64 ((rd_T31 l0 x4_1).f1), .string ((rd_T31 l0 x4_1).f2), .string ((rd_T31 l0 x4_1).f3), .string ((rd_T31 l0 x4_1).f4.f0), .slice Ao12 y115.length co12, .string ((rd_T31 l0 x4_1).f4.f2), .string ((rd_T31 l0 x4_1).f5), .bool ((rd_T31 l0 x4_1).f6)] 31 (0, 0)) (by (with_reducible repeat (first | refine blk_drewN ?_ _ | refine blk_drew ?_ | refine blk_alloc ?_ _)); exact BK111.out) k_ hk)); (case aO => exact (by (with_reducible repeat (first | apply Kd.S_alloc | apply Kd.S_drewN | apply Kd.S_drew)); exact Kd.S_mono HO_3.out (fun k_ hk => ⟨hk.2, fun e_ => hk.1 e_⟩))); (case aS => exact (below_size (by repeat (first | (with_reducible first | exact HB.out | apply below_alloc | apply pw_below_drewN | apply below_drew1 | refine below_set ?_ GE111.out) | exact HB.out)))); (case aL => have := LMc5.out; omega); intro v119 w16 ho hb hg hat; rw [← Ny118.out] at ho; have n0_ := Aside0.mk (blk_grown (g := gb111) (o := .cells #[.int .i64 ((rd_T31 l0 x4_1).f0), .int .i64 ((rd_T31 l0 x4_1).f1), .string ((rd_T31 l0 x4_1).f2), .string ((rd_T31 l0 x4_1).f3), .string ((rd_T31 l0 x4_1).f4.f0), .slice Ao12 y115.length co12, .string ((rd_T31 l0 x4_1).f4.f2), .string ((rd_T31 l0 x4_1).f5), .bool ((rd_T31 l0 x4_1).f6)] 31 (0, 0)) (by (with_reducible repeat (first | refine blk_drewN ?_ _ | refine blk_drew ?_ | refine blk_alloc ?_ _)); exact BK111.out) hg (Kd.S_away HO_3.out (fun _ hk => hk.2))); have n1_ := Aside0.mk (hb); have n2_ := Aside0.mk (ho); clear BK111; clear HB; clear HO_3; clear HO117; have BK111 := n0_; have HB := n1_; have HO120 := n2_; clear n0_ n1_ n2_; clear ho hb hg hat))
              go_roundg k1
              case measure => have := HK1.out; omega
              case rel => exact ⟨(y118), (wrap64 (x4_1 + 1)), (by first | rfl | (simp; done) | (simp [*]; done) | (simp [show ∀ l_ : List UInt8, l_.isEmpty = !(l_ != []) from fun l_ => by cases l_ <;> rfl]; done)), H', ⟨by have := HK1.out; omega⟩, ⟨by (with_reducible repeat (first | apply Kd.S_alloc | apply Kd.S_drewN | apply Kd.S_drew)); exact Kd.S_mono HO120.out (fun _ hk => trivial)⟩, ⟨by repeat (first | (with_reducible first | exact HB.out | apply below_alloc | apply pw_below_drewN | apply below_drew1 | refine below_set ?_ GE111.out) | exact HB.out)⟩⟩
            · rw [if_neg c5] at H
              exact absurd H (by simp)
          · rw [if_neg c4] at H
            exact absurd H (by simp)
        · rw [if_neg c3] at H
          exact absurd H (by simp)
      · rw [if_neg c2] at H
        have c2b0 : decide (x4_1 < (l0.length : Int)) = false := decide_eq_false c2
        clear c2
        obtain rfl := Option.some.inj H
        go_wp2
        go_ret
        exact ⟨_, by first | rfl | (simp [errW_none, errW_some] <;> rfl) | (simp [*, errW_none, errW_some] <;> rfl), by (with_reducible repeat (first | apply Kd.S_alloc | apply Kd.S_drewN | apply Kd.S_drew)); exact HO_3.out, by repeat (first | (with_reducible first | exact HB.out | apply below_alloc | apply pw_below_drewN | apply below_drew1) | exact HB.out)⟩

/-! ### filter_Equal_1: function 8 -/
def filter_Equal_1.f (k : Nat) (a0_0 : Int) (a0_1 : Int) (a0_2 : ByteArray) (a0_3 : ByteArray) (a0_4 : ByteArray) (l0_5 : List ByteArray) (a0_6 : ByteArray) (a0_7 : ByteArray) (a0_8 : Bool) (a1_0 : Int) (a1_1 : Int) (a1_2 : ByteArray) (a1_3 : ByteArray) (a1_4 : ByteArray) (l1_5 : List ByteArray) (a1_6 : ByteArray) (a1_7 : ByteArray) (a1_8 : Bool) : Option (Bool) := (slices_Equal_string_string.f k l0_5 l1_5).bind fun t123 => (if t123 = true then (if a0_4.toList = a1_4.toList then (if a0_6.toList = a1_6.toList then (if a0_0 = a1_0 then (if a0_1 = a1_1 then (if a0_2.toList = a1_2.toList then (if a0_3.toList = a1_3.toList then (if a0_7.toList = a1_7.toList then (some (a0_8 == a1_8)) else (some false)) else (some false)) else (some false)) else (some false)) else (some false)) else (some false)) else (some false)) else (some false))
theorem filter_Equal_1.mono : ∀ a0 a1 a2 a3 a4 a5 a6 a7 a8 a9 a10 a11 a12 a13 a14 a15 a16 a17 k, LeO (filter_Equal_1.f k a0 a1 a2 a3 a4 a5 a6 a7 a8 a9 a10 a11 a12 a13 a14 a15 a16 a17) (filter_Equal_1.f (k + 1) a0 a1 a2 a3 a4 a5 a6 a7 a8 a9 a10 a11 a12 a13 a14 a15 a16 a17) := by
  intro a0 a1 a2 a3 a4 a5 a6 a7 a8 a9 a10 a11 a12 a13 a14 a15 a16 a17 k
  unfold filter_Equal_1.f
  repeat' first
      | (with_reducible exact slices_Equal_string_string.mono _ _ _)
      | (with_reducible exact LeO.refl _)
      | (with_reducible exact LeO.none _)
      | (with_reducible refine LeO.ite ?_ ?_)
      | (with_reducible refine LeO.bind ?_ (fun _ => ?_))
      | exact slices_Equal_string_string.mono _ _ _
      | exact LeO.none _
      | refine LeO.ite ?_ ?_
      | refine LeO.bind ?_ (fun _ => ?_)
set_option maxHeartbeats 8000000 in
set_option maxRecDepth 100000 in
theorem filter_Equal_1.calls (k : Nat) (a0_0 : Int) (a0_1 : Int) (a0_2 : ByteArray) (a0_3 : ByteArray) (a0_4 : ByteArray) (A0_5 : Option Addr) (c0_5 : Nat) (l0_5 : List ByteArray) (a0_6 : ByteArray) (a0_7 : ByteArray) (a0_8 : Bool) (a1_0 : Int) (a1_1 : Int) (a1_2 : ByteArray) (a1_3 : ByteArray) (a1_4 : ByteArray) (A1_5 : Option Addr) (c1_5 : Nat) (l1_5 : List ByteArray) (a1_6 : ByteArray) (a1_7 : ByteArray) (a1_8 : Bool) (r : Bool) (w : World) (hr0_5 : Kd.C Kd.string w A0_5 l0_5.length l0_5) (hc0_5 : l0_5.length ≤ c0_5) (hr1_5 : Kd.C Kd.string w A1_5 l1_5.length l1_5) (hc1_5 : l1_5.length ≤ c1_5) (h : filter_Equal_1.f k a0_0 a0_1 a0_2 a0_3 a0_4 l0_5 a0_6 a0_7 a0_8 a1_0 a1_1 a1_2 a1_3 a1_4 l1_5 a1_6 a1_7 a1_8 = some r) :
    Calls Try.prog 8 #[.agg #[.int .i64 a0_0, .int .i64 a0_1, .string a0_2, .string a0_3, .string a0_4, .slice A0_5 l0_5.length c0_5, .string a0_6, .string a0_7, .bool a0_8], .agg #[.int .i64 a1_0, .int .i64 a1_1, .string a1_2, .string a1_3, .string a1_4, .slice A1_5 l1_5.length c1_5, .string a1_6, .string a1_7, .bool a1_8]] w fun e w' => e = .returned (.bool r) ∧ Below w.heap.size w w' := by
  have hu31 := Try.underlying31
  have HR0_5 := Aside0.mk hr0_5
  have HC0_5 := Aside0.mk hc0_5
  clear hr0_5 hc0_5
  have HR1_5 := Aside0.mk hr1_5
  have HC1_5 := Aside0.mk hc1_5
  clear hr1_5 hc1_5
  have HB := Aside0.mk (Below.refl w.heap.size w)
  have H : ((slices_Equal_string_string.f k l0_5 l1_5).bind fun t123 => (if t123 = true then (if a0_4.toList = a1_4.toList then (if a0_6.toList = a1_6.toList then (if a0_0 = a1_0 then (if a0_1 = a1_1 then (if a0_2.toList = a1_2.toList then (if a0_3.toList = a1_3.toList then (if a0_7.toList = a1_7.toList then (some (a0_8 == a1_8)) else (some false)) else (some false)) else (some false)) else (some false)) else (some false)) else (some false)) else (some false)) else (some false))) = some r := h
  clear h
  replace H := Option.bind_eq_some_iff.mp H
  obtain ⟨t123, A30, H⟩ := H
  replace H : (if t123 = true then (if a0_4.toList = a1_4.toList then (if a0_6.toList = a1_6.toList then (if a0_0 = a1_0 then (if a0_1 = a1_1 then (if a0_2.toList = a1_2.toList then (if a0_3.toList = a1_3.toList then (if a0_7.toList = a1_7.toList then (some (a0_8 == a1_8)) else (some false)) else (some false)) else (some false)) else (some false)) else (some false)) else (some false)) else (some false)) else (some false)) = some r := H
  have A3 := Aside0.mk A30
  clear A30
  by_cases c4 : t123 = true
  · subst c4
    have H1 : (if a0_4.toList = a1_4.toList then (if a0_6.toList = a1_6.toList then (if a0_0 = a1_0 then (if a0_1 = a1_1 then (if a0_2.toList = a1_2.toList then (if a0_3.toList = a1_3.toList then (if a0_7.toList = a1_7.toList then (some (a0_8 == a1_8)) else (some false)) else (some false)) else (some false)) else (some false)) else (some false)) else (some false)) else (some false)) = some r := by rw [if_pos rfl] at H; exact H
    clear H
    have H := H1
    clear H1
    by_cases c5 : a0_4.toList = a1_4.toList
    · rw [if_pos c5] at H
      have c5b0 : (a0_4.toList == a1_4.toList) = true := beq_iff_eq.mpr c5
      have c5b1 : (a0_4.toList != a1_4.toList) = false := bne_eq_false_iff_eq.mpr c5
      clear c5
      by_cases c6 : a0_6.toList = a1_6.toList
      · rw [if_pos c6] at H
        have c6b0 : (a0_6.toList == a1_6.toList) = true := beq_iff_eq.mpr c6
        have c6b1 : (a0_6.toList != a1_6.toList) = false := bne_eq_false_iff_eq.mpr c6
        clear c6
        by_cases c7 : a0_0 = a1_0
        · rw [if_pos c7] at H
          have c7b0 : (a0_0 == a1_0) = true := beq_iff_eq.mpr c7
          have c7b1 : (a0_0 != a1_0) = false := bne_eq_false_iff_eq.mpr c7
          clear c7
          by_cases c8 : a0_1 = a1_1
          · rw [if_pos c8] at H
            have c8b0 : (a0_1 == a1_1) = true := beq_iff_eq.mpr c8
            have c8b1 : (a0_1 != a1_1) = false := bne_eq_false_iff_eq.mpr c8
            clear c8
            by_cases c9 : a0_2.toList = a1_2.toList
            · rw [if_pos c9] at H
              have c9b0 : (a0_2.toList == a1_2.toList) = true := beq_iff_eq.mpr c9
              have c9b1 : (a0_2.toList != a1_2.toList) = false := bne_eq_false_iff_eq.mpr c9
              clear c9
              by_cases c10 : a0_3.toList = a1_3.toList
              · rw [if_pos c10] at H
                have c10b0 : (a0_3.toList == a1_3.toList) = true := beq_iff_eq.mpr c10
                have c10b1 : (a0_3.toList != a1_3.toList) = false := bne_eq_false_iff_eq.mpr c10
                clear c10
                by_cases c11 : a0_7.toList = a1_7.toList
                · rw [if_pos c11] at H
                  have c11b0 : (a0_7.toList == a1_7.toList) = true := beq_iff_eq.mpr c11
                  have c11b1 : (a0_7.toList != a1_7.toList) = false := bne_eq_false_iff_eq.mpr c11
                  clear c11
                  obtain rfl := Option.some.inj H
                  go_enter Try.func8, Try.ntmps8
                  go_wp2_with (first | ((with_reducible refine gate_dst (N := 2) rfl ?_); refine box_event ?hg (N := 2) ?hd (cs := #[.int .i64 a0_0, .int .i64 a0_1, .string a0_2, .string a0_3, .string a0_4, .slice A0_5 l0_5.length c0_5, .string a0_6, .string a0_7, .bool a0_8]) (t := 31) ?hr ?_; (case hd => rfl); (case hg => rfl); (case hr => first | (go_simp; done) | (go_simp; rfl)); intro gb121 hg w12 hbox hb; have n0_ := Aside0.mk (below_step (by repeat (first | (with_reducible first | exact HB.out | apply below_alloc | apply pw_below_drewN | apply below_drew1) | exact HB.out)) hb); have n1_ := Aside0.mk (hbox); have n2_ := Aside0.mk ((by rw [hg]; exact (below_size (by repeat (first | (with_reducible first | exact HB.out | apply below_alloc | apply pw_below_drewN | apply below_drew1) | exact HB.out))) : w.heap.size ≤ gb121)); have n3_ := Aside0.mk ((by rw [hg]; exact (below_size (by repeat (first | (with_reducible first | exact HB.out | apply below_alloc | apply pw_below_drewN | apply below_drew1) | exact HB.out))) : w.heap.size ≤ gb121)); clear HB; have HB := n0_; have BK121 := n1_; have GW121 := n2_; have GE121 := n3_; clear n0_ n1_ n2_ n3_; clear hb hbox hg) | ((with_reducible refine gate_dst (N := 3) rfl ?_); refine box_event ?hg (N := 3) ?hd (cs := #[.int .i64 a1_0, .int .i64 a1_1, .string a1_2, .string a1_3, .string a1_4, .slice A1_5 l1_5.length c1_5, .string a1_6, .string a1_7, .bool a1_8]) (t := 31) ?hr ?_; (case hd => rfl); (case hg => rfl); (case hr => first | (go_simp; done) | (go_simp; rfl)); intro gb122 hg w13 hbox hb; have n0_ := Aside0.mk (blk_below (g := gb121) (o := .cells #[.int .i64 a0_0, .int .i64 a0_1, .string a0_2, .string a0_3, .string a0_4, .slice A0_5 l0_5.length c0_5, .string a0_6, .string a0_7, .bool a0_8] 31 (0, 0)) (by (with_reducible repeat (first | refine blk_drewN ?_ _ | refine blk_drew ?_ | refine blk_alloc ?_ _)); exact BK121.out) hb); have n1_ := Aside0.mk (below_step (by repeat (first | (with_reducible first | exact HB.out | apply below_alloc | apply pw_below_drewN | apply below_drew1 | refine below_set ?_ GE121.out) | exact HB.out)) hb); have n2_ := Aside0.mk (hbox); have n3_ := Aside0.mk ((by rw [hg]; exact (below_size (by repeat (first | (with_reducible first | exact HB.out | apply below_alloc | apply pw_below_drewN | apply below_drew1 | refine below_set ?_ GE121.out) | exact HB.out))) : w.heap.size ≤ gb122)); have n4_ := Aside0.mk ((by rw [hg]; exact (below_size (by repeat (first | (with_reducible first | exact HB.out | apply below_alloc | apply pw_below_drewN | apply below_drew1 | refine below_set ?_ GE121.out) | exact HB.out))) : w.heap.size ≤ gb122)); have n5_ := Aside0.mk ((by rw [hg]; exact Nat.ne_of_lt (blk_lt (g := gb121) (o := .cells #[.int .i64 a0_0, .int .i64 a0_1, .string a0_2, .string a0_3, .string a0_4, .slice A0_5 l0_5.length c0_5, .string a0_6, .string a0_7, .bool a0_8] 31 (0, 0)) (by (with_reducible repeat (first | refine blk_drewN ?_ _ | refine blk_drew ?_ | refine blk_alloc ?_ _)); exact BK121.out)) : gb121 ≠ gb122)); have n6_ := Aside0.mk ((by rw [hg]; exact Nat.ne_of_gt (blk_lt (g := gb121) (o := .cells #[.int .i64 a0_0, .int .i64 a0_1, .string a0_2, .string a0_3, .string a0_4, .slice A0_5 l0_5.length c0_5, .string a0_6, .string a0_7, .bool a0_8] 31 (0, 0)) (by (with_reducible repeat (first | refine blk_drewN ?_ _ | refine blk_drew ?_ | refine blk_alloc ?_ _)); exact BK121.out)) : gb122 ≠ gb121)); clear BK121; clear HB; have BK121 := n0_; have HB := n1_; have BK122 := n2_; have GW122 := n3_; have GE122 := n4_; have NB121_122 := n5_; have NB122_121 := n6_; clear n0_ n1_ n2_ n3_ n4_ n5_ n6_; clear hb hbox hg; have hnb14 := NB121_122.out; have hnc14 := NB122_121.out; have hcz15_0 : w13.cell? ⟨gb121, 0, none⟩ = some (.int .i64 a0_0) := (blk_cell BK121.out 0).trans rfl; have hcz15_1 : w13.cell? ⟨gb121, 1, none⟩ = some (.int .i64 a0_1) := (blk_cell BK121.out 1).trans rfl; have hcz15_2 : w13.cell? ⟨gb121, 2, none⟩ = some (.string a0_2) := (blk_cell BK121.out 2).trans rfl; have hcz15_3 : w13.cell? ⟨gb121, 3, none⟩ = some (.string a0_3) := (blk_cell BK121.out 3).trans rfl; have hcz15_4 : w13.cell? ⟨gb121, 4, none⟩ = some (.string a0_4) := (blk_cell BK121.out 4).trans rfl; have hcz15_5 : w13.cell? ⟨gb121, 5, none⟩ = some (.slice A0_5 l0_5.length c0_5) := (blk_cell BK121.out 5).trans rfl; have hcz15_6 : w13.cell? ⟨gb121, 6, none⟩ = some (.string a0_6) := (blk_cell BK121.out 6).trans rfl; have hcz15_7 : w13.cell? ⟨gb121, 7, none⟩ = some (.string a0_7) := (blk_cell BK121.out 7).trans rfl; have hcz15_8 : w13.cell? ⟨gb121, 8, none⟩ = some (.bool a0_8) := (blk_cell BK121.out 8).trans rfl; have hfz15_0 := blk_frozen BK121.out 0; have hfz15_1 := blk_frozen BK121.out 1; have hfz15_2 := blk_frozen BK121.out 2; have hfz15_3 := blk_frozen BK121.out 3; have hfz15_4 := blk_frozen BK121.out 4; have hfz15_5 := blk_frozen BK121.out 5; have hfz15_6 := blk_frozen BK121.out 6; have hfz15_7 := blk_frozen BK121.out 7; have hfz15_8 := blk_frozen BK121.out 8; have hcz16_0 : w13.cell? ⟨gb122, 0, none⟩ = some (.int .i64 a1_0) := (blk_cell BK122.out 0).trans rfl; have hcz16_1 : w13.cell? ⟨gb122, 1, none⟩ = some (.int .i64 a1_1) := (blk_cell BK122.out 1).trans rfl; have hcz16_2 : w13.cell? ⟨gb122, 2, none⟩ = some (.string a1_2) := (blk_cell BK122.out 2).trans rfl; have hcz16_3 : w13.cell? ⟨gb122, 3, none⟩ = some (.string a1_3) := (blk_cell BK122.out 3).trans rfl; have hcz16_4 : w13.cell? ⟨gb122, 4, none⟩ = some (.string a1_4) := (blk_cell BK122.out 4).trans rfl; have hcz16_5 : w13.cell? ⟨gb122, 5, none⟩ = some (.slice A1_5 l1_5.length c1_5) := (blk_cell BK122.out 5).trans rfl; have hcz16_6 : w13.cell? ⟨gb122, 6, none⟩ = some (.string a1_6) := (blk_cell BK122.out 6).trans rfl; have hcz16_7 : w13.cell? ⟨gb122, 7, none⟩ = some (.string a1_7) := (blk_cell BK122.out 7).trans rfl; have hcz16_8 : w13.cell? ⟨gb122, 8, none⟩ = some (.bool a1_8) := (blk_cell BK122.out 8).trans rfl; have hfz16_0 := blk_frozen BK122.out 0; have hfz16_1 := blk_frozen BK122.out 1; have hfz16_2 := blk_frozen BK122.out 2; have hfz16_3 := blk_frozen BK122.out 3; have hfz16_4 := blk_frozen BK122.out 4; have hfz16_5 := blk_frozen BK122.out 5; have hfz16_6 := blk_frozen BK122.out 6; have hfz16_7 := blk_frozen BK122.out 7; have hfz16_8 := blk_frozen BK122.out 8) | ((with_reducible refine gate_callee (f := 9) rfl ?_); refine goesL_ (some 11) rfl rfl Try.func9 (by kernel_rfl) rfl #[.slice A0_5 l0_5.length c0_5, .slice A1_5 l1_5.length c1_5] rfl (by (try simp only [List.map_toArray, List.map_cons, List.map_nil]); first | done | rfl | (simp only [List.length_drop, List.length_take]; rfl)) ?_; (with_reducible refine (slices_Equal_string_string.calls k _ _ l0_5 _ _ l1_5 true _ ?side1 ?side2 ?side3 ?side4 A3.out).mono ?_); (case side1 => repeat (first | exact (Kd.C_below HR0_5.out HB.out) | (with_reducible refine Kd.C_alloc ?_ _) | (with_reducible refine Kd.C_drewN ?_ _) | (with_reducible refine Kd.C_drew ?_))); (case side2 => exact HC0_5.out); (case side3 => repeat (first | exact (Kd.C_below HR1_5.out HB.out) | (with_reducible refine Kd.C_alloc ?_ _) | (with_reducible refine Kd.C_drewN ?_ _) | (with_reducible refine Kd.C_drew ?_))); (case side4 => exact HC1_5.out); rintro e w' ⟨rfl, ⟨nd, rfl⟩⟩; refine ⟨_, rfl, ?_⟩))
                  go_ret
                  exact ⟨by first | rfl | (simp [errW_none, errW_some] <;> rfl) | (simp [*, errW_none, errW_some] <;> rfl), by repeat (first | (with_reducible first | exact HB.out | apply below_alloc | apply pw_below_drewN | apply below_drew1 | refine below_set ?_ GE121.out | refine below_set ?_ GE122.out) | exact HB.out)⟩
                · rw [if_neg c11] at H
                  have c11b0 : (a0_7.toList == a1_7.toList) = false := beq_eq_false_iff_ne.mpr c11
                  have c11b1 : (a0_7.toList != a1_7.toList) = true := bne_iff_ne.mpr c11
                  obtain rfl := Option.some.inj H
                  go_enter Try.func8, Try.ntmps8
                  go_wp2_with (first | ((with_reducible refine gate_dst (N := 2) rfl ?_); refine box_event ?hg (N := 2) ?hd (cs := #[.int .i64 a0_0, .int .i64 a0_1, .string a0_2, .string a0_3, .string a0_4, .slice A0_5 l0_5.length c0_5, .string a0_6, .string a0_7, .bool a0_8]) (t := 31) ?hr ?_; (case hd => rfl); (case hg => rfl); (case hr => first | (go_simp; done) | (go_simp; rfl)); intro gb121 hg w17 hbox hb; have n0_ := Aside0.mk (below_step (by repeat (first | (with_reducible first | exact HB.out | apply below_alloc | apply pw_below_drewN | apply below_drew1) | exact HB.out)) hb); have n1_ := Aside0.mk (hbox); have n2_ := Aside0.mk ((by rw [hg]; exact (below_size (by repeat (first | (with_reducible first | exact HB.out | apply below_alloc | apply pw_below_drewN | apply below_drew1) | exact HB.out))) : w.heap.size ≤ gb121)); have n3_ := Aside0.mk ((by rw [hg]; exact (below_size (by repeat (first | (with_reducible first | exact HB.out | apply below_alloc | apply pw_below_drewN | apply below_drew1) | exact HB.out))) : w.heap.size ≤ gb121)); clear HB; have HB := n0_; have BK121 := n1_; have GW121 := n2_; have GE121 := n3_; clear n0_ n1_ n2_ n3_; clear hb hbox hg) | ((with_reducible refine gate_dst (N := 3) rfl ?_); refine box_event ?hg (N := 3) ?hd (cs := #[.int .i64 a1_0, .int .i64 a1_1, .string a1_2, .string a1_3, .string a1_4, .slice A1_5 l1_5.length c1_5, .string a1_6, .string a1_7, .bool a1_8]) (t := 31) ?hr ?_; (case hd => rfl); (case hg => rfl); (case hr => first | (go_simp; done) | (go_simp; rfl)); intro gb122 hg w18 hbox hb; have n0_ := Aside0.mk (blk_below (g := gb121) (o := .cells #[.int .i64 a0_0, .int .i64 a0_1, .string a0_2, .string a0_3, .string a0_4, .slice A0_5 l0_5.length c0_5, .string a0_6, .string a0_7, .bool a0_8] 31 (0, 0)) (by (with_reducible repeat (first | refine blk_drewN ?_ _ | refine blk_drew ?_ | refine blk_alloc ?_ _)); exact BK121.out) hb); have n1_ := Aside0.mk (below_step (by repeat (first | (with_reducible first | exact HB.out | apply below_alloc | apply pw_below_drewN | apply below_drew1 | refine below_set ?_ GE121.out) | exact HB.out)) hb); have n2_ := Aside0.mk (hbox); have n3_ := Aside0.mk ((by rw [hg]; exact (below_size (by repeat (first | (with_reducible first | exact HB.out | apply below_alloc | apply pw_below_drewN | apply below_drew1 | refine below_set ?_ GE121.out) | exact HB.out))) : w.heap.size ≤ gb122)); have n4_ := Aside0.mk ((by rw [hg]; exact (below_size (by repeat (first | (with_reducible first | exact HB.out | apply below_alloc | apply pw_below_drewN | apply below_drew1 | refine below_set ?_ GE121.out) | exact HB.out))) : w.heap.size ≤ gb122)); have n5_ := Aside0.mk ((by rw [hg]; exact Nat.ne_of_lt (blk_lt (g := gb121) (o := .cells #[.int .i64 a0_0, .int .i64 a0_1, .string a0_2, .string a0_3, .string a0_4, .slice A0_5 l0_5.length c0_5, .string a0_6, .string a0_7, .bool a0_8] 31 (0, 0)) (by (with_reducible repeat (first | refine blk_drewN ?_ _ | refine blk_drew ?_ | refine blk_alloc ?_ _)); exact BK121.out)) : gb121 ≠ gb122)); have n6_ := Aside0.mk ((by rw [hg]; exact Nat.ne_of_gt (blk_lt (g := gb121) (o := .cells #[.int .i64 a0_0, .int .i64 a0_1, .string a0_2, .string a0_3, .string a0_4, .slice A0_5 l0_5.length c0_5, .string a0_6, .string a0_7, .bool a0_8] 31 (0, 0)) (by (with_reducible repeat (first | refine blk_drewN ?_ _ | refine blk_drew ?_ | refine blk_alloc ?_ _)); exact BK121.out)) : gb122 ≠ gb121)); clear BK121; clear HB; have BK121 := n0_; have HB := n1_; have BK122 := n2_; have GW122 := n3_; have GE122 := n4_; have NB121_122 := n5_; have NB122_121 := n6_; clear n0_ n1_ n2_ n3_ n4_ n5_ n6_; clear hb hbox hg; have hnb19 := NB121_122.out; have hnc19 := NB122_121.out; have hcz20_0 : w18.cell? ⟨gb121, 0, none⟩ = some (.int .i64 a0_0) := (blk_cell BK121.out 0).trans rfl; have hcz20_1 : w18.cell? ⟨gb121, 1, none⟩ = some (.int .i64 a0_1) := (blk_cell BK121.out 1).trans rfl; have hcz20_2 : w18.cell? ⟨gb121, 2, none⟩ = some (.string a0_2) := (blk_cell BK121.out 2).trans rfl; have hcz20_3 : w18.cell? ⟨gb121, 3, none⟩ = some (.string a0_3) := (blk_cell BK121.out 3).trans rfl; have hcz20_4 : w18.cell? ⟨gb121, 4, none⟩ = some (.string a0_4) := (blk_cell BK121.out 4).trans rfl; have hcz20_5 : w18.cell? ⟨gb121, 5, none⟩ = some (.slice A0_5 l0_5.length c0_5) := (blk_cell BK121.out 5).trans rfl; have hcz20_6 : w18.cell? ⟨gb121, 6, none⟩ = some (.string a0_6) := (blk_cell BK121.out 6).trans rfl; have hcz20_7 : w18.cell? ⟨gb121, 7, none⟩ = some (.string a0_7) := (blk_cell BK121.out 7).trans rfl; have hcz20_8 : w18.cell? ⟨gb121, 8, none⟩ = some (.bool a0_8) := (blk_cell BK121.out 8).trans rfl; have hfz20_0 := blk_frozen BK121.out 0; have hfz20_1 := blk_frozen BK121.out 1; have hfz20_2 := blk_frozen BK121.out 2; have hfz20_3 := blk_frozen BK121.out 3; have hfz20_4 := blk_frozen BK121.out 4; have hfz20_5 := blk_frozen BK121.out 5; have hfz20_6 := blk_frozen BK121.out 6; have hfz20_7 := blk_frozen BK121.out 7; have hfz20_8 := blk_frozen BK121.out 8; have hcz21_0 : w18.cell? ⟨gb122, 0, none⟩ = some (.int .i64 a1_0) := (blk_cell BK122.out 0).trans rfl; have hcz21_1 : w18.cell? ⟨gb122, 1, none⟩ = some (.int .i64 a1_1) := (blk_cell BK122.out 1).trans rfl; have hcz21_2 : w18.cell? ⟨gb122, 2, none⟩ = some (.string a1_2) := (blk_cell BK122.out 2).trans rfl; have hcz21_3 : w18.cell? ⟨gb122, 3, none⟩ = some (.string a1_3) := (blk_cell BK122.out 3).trans rfl; have hcz21_4 : w18.cell? ⟨gb122, 4, none⟩ = some (.string a1_4) := (blk_cell BK122.out 4).trans rfl; have hcz21_5 : w18.cell? ⟨gb122, 5, none⟩ = some (.slice A1_5 l1_5.length c1_5) := (blk_cell BK122.out 5).trans rfl; have hcz21_6 : w18.cell? ⟨gb122, 6, none⟩ = some (.string a1_6) := (blk_cell BK122.out 6).trans rfl; have hcz21_7 : w18.cell? ⟨gb122, 7, none⟩ = some (.string a1_7) := (blk_cell BK122.out 7).trans rfl; have hcz21_8 : w18.cell? ⟨gb122, 8, none⟩ = some (.bool a1_8) := (blk_cell BK122.out 8).trans rfl; have hfz21_0 := blk_frozen BK122.out 0; have hfz21_1 := blk_frozen BK122.out 1; have hfz21_2 := blk_frozen BK122.out 2; have hfz21_3 := blk_frozen BK122.out 3; have hfz21_4 := blk_frozen BK122.out 4; have hfz21_5 := blk_frozen BK122.out 5; have hfz21_6 := blk_frozen BK122.out 6; have hfz21_7 := blk_frozen BK122.out 7; have hfz21_8 := blk_frozen BK122.out 8) | ((with_reducible refine gate_callee (f := 9) rfl ?_); refine goesL_ (some 11) rfl rfl Try.func9 (by kernel_rfl) rfl #[.slice A0_5 l0_5.length c0_5, .slice A1_5 l1_5.length c1_5] rfl (by (try simp only [List.map_toArray, List.map_cons, List.map_nil]); first | done | rfl | (simp only [List.length_drop, List.length_take]; rfl)) ?_; (with_reducible refine (slices_Equal_string_string.calls k _ _ l0_5 _ _ l1_5 true _ ?side1 ?side2 ?side3 ?side4 A3.out).mono ?_); (case side1 => repeat (first | exact (Kd.C_below HR0_5.out HB.out) | (with_reducible refine Kd.C_alloc ?_ _) | (with_reducible refine Kd.C_drewN ?_ _) | (with_reducible refine Kd.C_drew ?_))); (case side2 => exact HC0_5.out); (case side3 => repeat (first | exact (Kd.C_below HR1_5.out HB.out) | (with_reducible refine Kd.C_alloc ?_ _) | (with_reducible refine Kd.C_drewN ?_ _) | (with_reducible refine Kd.C_drew ?_))); (case side4 => exact HC1_5.out); rintro e w' ⟨rfl, ⟨nd, rfl⟩⟩; refine ⟨_, rfl, ?_⟩))
                  go_ret
                  exact ⟨by first | rfl | (simp [errW_none, errW_some] <;> rfl) | (simp [*, errW_none, errW_some] <;> rfl), by repeat (first | (with_reducible first | exact HB.out | apply below_alloc | apply pw_below_drewN | apply below_drew1 | refine below_set ?_ GE121.out | refine below_set ?_ GE122.out) | exact HB.out)⟩
              · rw [if_neg c10] at H
                have c10b0 : (a0_3.toList == a1_3.toList) = false := beq_eq_false_iff_ne.mpr c10
                have c10b1 : (a0_3.toList != a1_3.toList) = true := bne_iff_ne.mpr c10
                obtain rfl := Option.some.inj H
                go_enter Try.func8, Try.ntmps8
                go_wp2_with (first | ((with_reducible refine gate_dst (N := 2) rfl ?_); refine box_event ?hg (N := 2) ?hd (cs := #[.int .i64 a0_0, .int .i64 a0_1, .string a0_2, .string a0_3, .string a0_4, .slice A0_5 l0_5.length c0_5, .string a0_6, .string a0_7, .bool a0_8]) (t := 31) ?hr ?_; (case hd => rfl); (case hg => rfl); (case hr => first | (go_simp; done) | (go_simp; rfl)); intro gb121 hg w22 hbox hb; have n0_ := Aside0.mk (below_step (by repeat (first | (with_reducible first | exact HB.out | apply below_alloc | apply pw_below_drewN | apply below_drew1) | exact HB.out)) hb); have n1_ := Aside0.mk (hbox); have n2_ := Aside0.mk ((by rw [hg]; exact (below_size (by repeat (first | (with_reducible first | exact HB.out | apply below_alloc | apply pw_below_drewN | apply below_drew1) | exact HB.out))) : w.heap.size ≤ gb121)); have n3_ := Aside0.mk ((by rw [hg]; exact (below_size (by repeat (first | (with_reducible first | exact HB.out | apply below_alloc | apply pw_below_drewN | apply below_drew1) | exact HB.out))) : w.heap.size ≤ gb121)); clear HB; have HB := n0_; have BK121 := n1_; have GW121 := n2_; have GE121 := n3_; clear n0_ n1_ n2_ n3_; clear hb hbox hg) | ((with_reducible refine gate_dst (N := 3) rfl ?_); refine box_event ?hg (N := 3) ?hd (cs := #[.int .i64 a1_0, .int .i64 a1_1, .string a1_2, .string a1_3, .string a1_4, .slice A1_5 l1_5.length c1_5, .string a1_6, .string a1_7, .bool a1_8]) (t := 31) ?hr ?_; (case hd => rfl); (case hg => rfl); (case hr => first | (go_simp; done) | (go_simp; rfl)); intro gb122 hg w23 hbox hb; have n0_ := Aside0.mk (blk_below (g := gb121) (o := .cells #[.int .i64 a0_0, .int .i64 a0_1, .string a0_2, .string a0_3, .string a0_4, .slice A0_5 l0_5.length c0_5, .string a0_6, .string a0_7, .bool a0_8] 31 (0, 0)) (by (with_reducible repeat (first | refine blk_drewN ?_ _ | refine blk_drew ?_ | refine blk_alloc ?_ _)); exact BK121.out) hb); have n1_ := Aside0.mk (below_step (by repeat (first | (with_reducible first | exact HB.out | apply below_alloc | apply pw_below_drewN | apply below_drew1 | refine below_set ?_ GE121.out) | exact HB.out)) hb); have n2_ := Aside0.mk (hbox); have n3_ := Aside0.mk ((by rw [hg]; exact (below_size (by repeat (first | (with_reducible first | exact HB.out | apply below_alloc | apply pw_below_drewN | apply below_drew1 | refine below_set ?_ GE121.out) | exact HB.out))) : w.heap.size ≤ gb122)); have n4_ := Aside0.mk ((by rw [hg]; exact (below_size (by repeat (first | (with_reducible first | exact HB.out | apply below_alloc | apply pw_below_drewN | apply below_drew1 | refine below_set ?_ GE121.out) | exact HB.out))) : w.heap.size ≤ gb122)); have n5_ := Aside0.mk ((by rw [hg]; exact Nat.ne_of_lt (blk_lt (g := gb121) (o := .cells #[.int .i64 a0_0, .int .i64 a0_1, .string a0_2, .string a0_3, .string a0_4, .slice A0_5 l0_5.length c0_5, .string a0_6, .string a0_7, .bool a0_8] 31 (0, 0)) (by (with_reducible repeat (first | refine blk_drewN ?_ _ | refine blk_drew ?_ | refine blk_alloc ?_ _)); exact BK121.out)) : gb121 ≠ gb122)); have n6_ := Aside0.mk ((by rw [hg]; exact Nat.ne_of_gt (blk_lt (g := gb121) (o := .cells #[.int .i64 a0_0, .int .i64 a0_1, .string a0_2, .string a0_3, .string a0_4, .slice A0_5 l0_5.length c0_5, .string a0_6, .string a0_7, .bool a0_8] 31 (0, 0)) (by (with_reducible repeat (first | refine blk_drewN ?_ _ | refine blk_drew ?_ | refine blk_alloc ?_ _)); exact BK121.out)) : gb122 ≠ gb121)); clear BK121; clear HB; have BK121 := n0_; have HB := n1_; have BK122 := n2_; have GW122 := n3_; have GE122 := n4_; have NB121_122 := n5_; have NB122_121 := n6_; clear n0_ n1_ n2_ n3_ n4_ n5_ n6_; clear hb hbox hg; have hnb24 := NB121_122.out; have hnc24 := NB122_121.out; have hcz25_0 : w23.cell? ⟨gb121, 0, none⟩ = some (.int .i64 a0_0) := (blk_cell BK121.out 0).trans rfl; have hcz25_1 : w23.cell? ⟨gb121, 1, none⟩ = some (.int .i64 a0_1) := (blk_cell BK121.out 1).trans rfl; have hcz25_2 : w23.cell? ⟨gb121, 2, none⟩ = some (.string a0_2) := (blk_cell BK121.out 2).trans rfl; have hcz25_3 : w23.cell? ⟨gb121, 3, none⟩ = some (.string a0_3) := (blk_cell BK121.out 3).trans rfl; have hcz25_4 : w23.cell? ⟨gb121, 4, none⟩ = some (.string a0_4) := (blk_cell BK121.out 4).trans rfl; have hcz25_5 : w23.cell? ⟨gb121, 5, none⟩ = some (.slice A0_5 l0_5.length c0_5) := (blk_cell BK121.out 5).trans rfl; have hcz25_6 : w23.cell? ⟨gb121, 6, none⟩ = some (.string a0_6) := (blk_cell BK121.out 6).trans rfl; have hcz25_7 : w23.cell? ⟨gb121, 7, none⟩ = some (.string a0_7) := (blk_cell BK121.out 7).trans rfl; have hcz25_8 : w23.cell? ⟨gb121, 8, none⟩ = some (.bool a0_8) := (blk_cell BK121.out 8).trans rfl; have hfz25_0 := blk_frozen BK121.out 0; have hfz25_1 := blk_frozen BK121.out 1; have hfz25_2 := blk_frozen BK121.out 2; have hfz25_3 := blk_frozen BK121.out 3; have hfz25_4 := blk_frozen BK121.out 4; have hfz25_5 := blk_frozen BK121.out 5; have hfz25_6 := blk_frozen BK121.out 6; have hfz25_7 := blk_frozen BK121.out 7; have hfz25_8 := blk_frozen BK121.out 8; have hcz26_0 : w23.cell? ⟨gb122, 0, none⟩ = some (.int .i64 a1_0) := (blk_cell BK122.out 0).trans rfl; have hcz26_1 : w23.cell? ⟨gb122, 1, none⟩ = some (.int .i64 a1_1) := (blk_cell BK122.out 1).trans rfl; have hcz26_2 : w23.cell? ⟨gb122, 2, none⟩ = some (.string a1_2) := (blk_cell BK122.out 2).trans rfl; have hcz26_3 : w23.cell? ⟨gb122, 3, none⟩ = some (.string a1_3) := (blk_cell BK122.out 3).trans rfl; have hcz26_4 : w23.cell? ⟨gb122, 4, none⟩ = some (.string a1_4) := (blk_cell BK122.out 4).trans rfl; have hcz26_5 : w23.cell? ⟨gb122, 5, none⟩ = some (.slice A1_5 l1_5.length c1_5) := (blk_cell BK122.out 5).trans rfl; have hcz26_6 : w23.cell? ⟨gb122, 6, none⟩ = some (.string a1_6) := (blk_cell BK122.out 6).trans rfl; have hcz26_7 : w23.cell? ⟨gb122, 7, none⟩ = some (.string a1_7) := (blk_cell BK122.out 7).trans rfl; have hcz26_8 : w23.cell? ⟨gb122, 8, none⟩ = some (.bool a1_8) := (blk_cell BK122.out 8).trans rfl; have hfz26_0 := blk_frozen BK122.out 0; have hfz26_1 := blk_frozen BK122.out 1; have hfz26_2 := blk_frozen BK122.out 2; have hfz26_3 := blk_frozen BK122.out 3; have hfz26_4 := blk_frozen BK122.out 4; have hfz26_5 := blk_frozen BK122.out 5; have hfz26_6 := blk_frozen BK122.out 6; have hfz26_7 := blk_frozen BK122.out 7; have hfz26_8 := blk_frozen BK122.out 8) | ((with_reducible refine gate_callee (f := 9) rfl ?_); refine goesL_ (some 11) rfl rfl Try.func9 (by kernel_rfl) rfl #[.slice A0_5 l0_5.length c0_5, .slice A1_5 l1_5.length c1_5] rfl (by (try simp only [List.map_toArray, List.map_cons, List.map_nil]); first | done | rfl | (simp only [List.length_drop, List.length_take]; rfl)) ?_; (with_reducible refine (slices_Equal_string_string.calls k _ _ l0_5 _ _ l1_5 true _ ?side1 ?side2 ?side3 ?side4 A3.out).mono ?_); (case side1 => repeat (first | exact (Kd.C_below HR0_5.out HB.out) | (with_reducible refine Kd.C_alloc ?_ _) | (with_reducible refine Kd.C_drewN ?_ _) | (with_reducible refine Kd.C_drew ?_))); (case side2 => exact HC0_5.out); (case side3 => repeat (first | exact (Kd.C_below HR1_5.out HB.out) | (with_reducible refine Kd.C_alloc ?_ _) | (with_reducible refine Kd.C_drewN ?_ _) | (with_reducible refine Kd.C_drew ?_))); (case side4 => exact HC1_5.out); rintro e w' ⟨rfl, ⟨nd, rfl⟩⟩; refine ⟨_, rfl, ?_⟩))
                go_ret
                exact ⟨by first | rfl | (simp [errW_none, errW_some] <;> rfl) | (simp [*, errW_none, errW_some] <;> rfl), by repeat (first | (with_reducible first | exact HB.out | apply below_alloc | apply pw_below_drewN | apply below_drew1 | refine below_set ?_ GE121.out | refine below_set ?_ GE122.out) | exact HB.out)⟩
            · rw [if_neg c9] at H
              have c9b0 : (a0_2.toList == a1_2.toList) = false := beq_eq_false_iff_ne.mpr c9
              have c9b1 : (a0_2.toList != a1_2.toList) = true := bne_iff_ne.mpr c9
              obtain rfl := Option.some.inj H
              go_enter Try.func8, Try.ntmps8
              go_wp2_with (first | ((with_reducible refine gate_dst (N := 2) rfl ?_); refine box_event ?hg (N := 2) ?hd (cs := #[.int .i64 a0_0, .int .i64 a0_1, .string a0_2, .string a0_3, .string a0_4, .slice A0_5 l0_5.length c0_5, .string a0_6, .string a0_7, .bool a0_8]) (t := 31) ?hr ?_; (case hd => rfl); (case hg => rfl); (case hr => first | (go_simp; done) | (go_simp; rfl)); intro gb121 hg w27 hbox hb; have n0_ := Aside0.mk (below_step (by repeat (first | (with_reducible first | exact HB.out | apply below_alloc | apply pw_below_drewN | apply below_drew1) | exact HB.out)) hb); have n1_ := Aside0.mk (hbox); have n2_ := Aside0.mk ((by rw [hg]; exact (below_size (by repeat (first | (with_reducible first | exact HB.out | apply below_alloc | apply pw_below_drewN | apply below_drew1) | exact HB.out))) : w.heap.size ≤ gb121)); have n3_ := Aside0.mk ((by rw [hg]; exact (below_size (by repeat (first | (with_reducible first | exact HB.out | apply below_alloc | apply pw_below_drewN | apply below_drew1) | exact HB.out))) : w.heap.size ≤ gb121)); clear HB; have HB := n0_; have BK121 := n1_; have GW121 := n2_; have GE121 := n3_; clear n0_ n1_ n2_ n3_; clear hb hbox hg) | ((with_reducible refine gate_dst (N := 3) rfl ?_); refine box_event ?hg (N := 3) ?hd (cs := #[.int .i64 a1_0, .int .i64 a1_1, .string a1_2, .string a1_3, .string a1_4, .slice A1_5 l1_5.length c1_5, .string a1_6, .string a1_7, .bool a1_8]) (t := 31) ?hr ?_; (case hd => rfl); (case hg => rfl); (case hr => first | (go_simp; done) | (go_simp; rfl)); intro gb122 hg w28 hbox hb; have n0_ := Aside0.mk (blk_below (g := gb121) (o := .cells #[.int .i64 a0_0, .int .i64 a0_1, .string a0_2, .string a0_3, .string a0_4, .slice A0_5 l0_5.length c0_5, .string a0_6, .string a0_7, .bool a0_8] 31 (0, 0)) (by (with_reducible repeat (first | refine blk_drewN ?_ _ | refine blk_drew ?_ | refine blk_alloc ?_ _)); exact BK121.out) hb); have n1_ := Aside0.mk (below_step (by repeat (first | (with_reducible first | exact HB.out | apply below_alloc | apply pw_below_drewN | apply below_drew1 | refine below_set ?_ GE121.out) | exact HB.out)) hb); have n2_ := Aside0.mk (hbox); have n3_ := Aside0.mk ((by rw [hg]; exact (below_size (by repeat (first | (with_reducible first | exact HB.out | apply below_alloc | apply pw_below_drewN | apply below_drew1 | refine below_set ?_ GE121.out) | exact HB.out))) : w.heap.size ≤ gb122)); have n4_ := Aside0.mk ((by rw [hg]; exact (below_size (by repeat (first | (with_reducible first | exact HB.out | apply below_alloc | apply pw_below_drewN | apply below_drew1 | refine below_set ?_ GE121.out) | exact HB.out))) : w.heap.size ≤ gb122)); have n5_ := Aside0.mk ((by rw [hg]; exact Nat.ne_of_lt (blk_lt (g := gb121) (o := .cells #[.int .i64 a0_0, .int .i64 a0_1, .string a0_2, .string a0_3, .string a0_4, .slice A0_5 l0_5.length c0_5, .string a0_6, .string a0_7, .bool a0_8] 31 (0, 0)) (by (with_reducible repeat (first | refine blk_drewN ?_ _ | refine blk_drew ?_ | refine blk_alloc ?_ _)); exact BK121.out)) : gb121 ≠ gb122)); have n6_ := Aside0.mk ((by rw [hg]; exact Nat.ne_of_gt (blk_lt (g := gb121) (o := .cells #[.int .i64 a0_0, .int .i64 a0_1, .string a0_2, .string a0_3, .string a0_4, .slice A0_5 l0_5.length c0_5, .string a0_6, .string a0_7, .bool a0_8] 31 (0, 0)) (by (with_reducible repeat (first | refine blk_drewN ?_ _ | refine blk_drew ?_ | refine blk_alloc ?_ _)); exact BK121.out)) : gb122 ≠ gb121)); clear BK121; clear HB; have BK121 := n0_; have HB := n1_; have BK122 := n2_; have GW122 := n3_; have GE122 := n4_; have NB121_122 := n5_; have NB122_121 := n6_; clear n0_ n1_ n2_ n3_ n4_ n5_ n6_; clear hb hbox hg; have hnb29 := NB121_122.out; have hnc29 := NB122_121.out; have hcz30_0 : w28.cell? ⟨gb121, 0, none⟩ = some (.int .i64 a0_0) := (blk_cell BK121.out 0).trans rfl; have hcz30_1 : w28.cell? ⟨gb121, 1, none⟩ = some (.int .i64 a0_1) := (blk_cell BK121.out 1).trans rfl; have hcz30_2 : w28.cell? ⟨gb121, 2, none⟩ = some (.string a0_2) := (blk_cell BK121.out 2).trans rfl; have hcz30_3 : w28.cell? ⟨gb121, 3, none⟩ = some (.string a0_3) := (blk_cell BK121.out 3).trans rfl; have hcz30_4 : w28.cell? ⟨gb121, 4, none⟩ = some (.string a0_4) := (blk_cell BK121.out 4).trans rfl; have hcz30_5 : w28.cell? ⟨gb121, 5, none⟩ = some (.slice A0_5 l0_5.length c0_5) := (blk_cell BK121.out 5).trans rfl; have hcz30_6 : w28.cell? ⟨gb121, 6, none⟩ = some (.string a0_6) := (blk_cell BK121.out 6).trans rfl; have hcz30_7 : w28.cell? ⟨gb121, 7, none⟩ = some (.string a0_7) := (blk_cell BK121.out 7).trans rfl; have hcz30_8 : w28.cell? ⟨gb121, 8, none⟩ = some (.bool a0_8) := (blk_cell BK121.out 8).trans rfl; have hfz30_0 := blk_frozen BK121.out 0; have hfz30_1 := blk_frozen BK121.out 1; have hfz30_2 := blk_frozen BK121.out 2; have hfz30_3 := blk_frozen BK121.out 3; have hfz30_4 := blk_frozen BK121.out 4; have hfz30_5 := blk_frozen BK121.out 5; have hfz30_6 := blk_frozen BK121.out 6; have hfz30_7 := blk_frozen BK121.out 7; have hfz30_8 := blk_frozen BK121.out 8; have hcz31_0 : w28.cell? ⟨gb122, 0, none⟩ = some (.int .i64 a1_0) := (blk_cell BK122.out 0).trans rfl; have hcz31_1 : w28.cell? ⟨gb122, 1, none⟩ = some (.int .i64 a1_1) := (blk_cell BK122.out 1).trans rfl; have hcz31_2 : w28.cell? ⟨gb122, 2, none⟩ = some (.string a1_2) := (blk_cell BK122.out 2).trans rfl; have hcz31_3 : w28.cell? ⟨gb122, 3, none⟩ = some (.string a1_3) := (blk_cell BK122.out 3).trans rfl; have hcz31_4 : w28.cell? ⟨gb122, 4, none⟩ = some (.string a1_4) := (blk_cell BK122.out 4).trans rfl; have hcz31_5 : w28.cell? ⟨gb122, 5, none⟩ = some (.slice A1_5 l1_5.length c1_5) := (blk_cell BK122.out 5).trans rfl; have hcz31_6 : w28.cell? ⟨gb122, 6, none⟩ = some (.string a1_6) := (blk_cell BK122.out 6).trans rfl; have hcz31_7 : w28.cell? ⟨gb122, 7, none⟩ = some (.string a1_7) := (blk_cell BK122.out 7).trans rfl; have hcz31_8 : w28.cell? ⟨gb122, 8, none⟩ = some (.bool a1_8) := (blk_cell BK122.out 8).trans rfl; have hfz31_0 := blk_frozen BK122.out 0; have hfz31_1 := blk_frozen BK122.out 1; have hfz31_2 := blk_frozen BK122.out 2; have hfz31_3 := blk_frozen BK122.out 3; have hfz31_4 := blk_frozen BK122.out 4; have hfz31_5 := blk_frozen BK122.out 5; have hfz31_6 := blk_frozen BK122.out 6; have hfz31_7 := blk_frozen BK122.out 7; have hfz31_8 := blk_frozen BK122.out 8) | ((with_reducible refine gate_callee (f := 9) rfl ?_); refine goesL_ (some 11) rfl rfl Try.func9 (by kernel_rfl) rfl #[.slice A0_5 l0_5.length c0_5, .slice A1_5 l1_5.length c1_5] rfl (by (try simp only [List.map_toArray, List.map_cons, List.map_nil]); first | done | rfl | (simp only [List.length_drop, List.length_take]; rfl)) ?_; (with_reducible refine (slices_Equal_string_string.calls k _ _ l0_5 _ _ l1_5 true _ ?side1 ?side2 ?side3 ?side4 A3.out).mono ?_); (case side1 => repeat (first | exact (Kd.C_below HR0_5.out HB.out) | (with_reducible refine Kd.C_alloc ?_ _) | (with_reducible refine Kd.C_drewN ?_ _) | (with_reducible refine Kd.C_drew ?_))); (case side2 => exact HC0_5.out); (case side3 => repeat (first | exact (Kd.C_below HR1_5.out HB.out) | (with_reducible refine Kd.C_alloc ?_ _) | (with_reducible refine Kd.C_drewN ?_ _) | (with_reducible refine Kd.C_drew ?_))); (case side4 => exact HC1_5.out); rintro e w' ⟨rfl, ⟨nd, rfl⟩⟩; refine ⟨_, rfl, ?_⟩))
              go_ret
              exact ⟨by first | rfl | (simp [errW_none, errW_some] <;> rfl) | (simp [*, errW_none, errW_some] <;> rfl), by repeat (first | (with_reducible first | exact HB.out | apply below_alloc | apply pw_below_drewN | apply below_drew1 | refine below_set ?_ GE121.out | refine below_set ?_ GE122.out) | exact HB.out)⟩
          · rw [if_neg c8] at H
            have c8b0 : (a0_1 == a1_1) = false := beq_eq_false_iff_ne.mpr c8
            have c8b1 : (a0_1 != a1_1) = true := bne_iff_ne.mpr c8
            obtain rfl := Option.some.inj H
            go_enter Try.func8, Try.ntmps8
            go_wp2_with (first | ((with_reducible refine gate_dst (N := 2) rfl ?_); refine box_event ?hg (N := 2) ?hd (cs := #[.int .i64 a0_0, .int .i64 a0_1, .string a0_2, .string a0_3, .string a0_4, .slice A0_5 l0_5.length c0_5, .string a0_6, .string a0_7, .bool a0_8]) (t := 31) ?hr ?_; (case hd => rfl); (case hg => rfl); (case hr => first | (go_simp; done) | (go_simp; rfl)); intro gb121 hg w32 hbox hb; have n0_ := Aside0.mk (below_step (by repeat (first | (with_reducible first | exact HB.out | apply below_alloc | apply pw_below_drewN | apply below_drew1) | exact HB.out)) hb); have n1_ := Aside0.mk (hbox); have n2_ := Aside0.mk ((by rw [hg]; exact (below_size (by repeat (first | (with_reducible first | exact HB.out | apply below_alloc | apply pw_below_drewN | apply below_drew1) | exact HB.out))) : w.heap.size ≤ gb121)); have n3_ := Aside0.mk ((by rw [hg]; exact (below_size (by repeat (first | (with_reducible first | exact HB.out | apply below_alloc | apply pw_below_drewN | apply below_drew1) | exact HB.out))) : w.heap.size ≤ gb121)); clear HB; have HB := n0_; have BK121 := n1_; have GW121 := n2_; have GE121 := n3_; clear n0_ n1_ n2_ n3_; clear hb hbox hg) | ((with_reducible refine gate_dst (N := 3) rfl ?_); refine box_event ?hg (N := 3) ?hd (cs := #[.int .i64 a1_0, .int .i64 a1_1, .string a1_2, .string a1_3, .string a1_4, .slice A1_5 l1_5.length c1_5, .string a1_6, .string a1_7, .bool a1_8]) (t := 31) ?hr ?_; (case hd => rfl); (case hg => rfl); (case hr => first | (go_simp; done) | (go_simp; rfl)); intro gb122 hg w33 hbox hb; have n0_ := Aside0.mk (blk_below (g := gb121) (o := .cells #[.int .i64 a0_0, .int .i64 a0_1, .string a0_2, .string a0_3, .string a0_4, .slice A0_5 l0_5.length c0_5, .string a0_6, .string a0_7, .bool a0_8] 31 (0, 0)) (by (with_reducible repeat (first | refine blk_drewN ?_ _ | refine blk_drew ?_ | refine blk_alloc ?_ _)); exact BK121.out) hb); have n1_ := Aside0.mk (below_step (by repeat (first | (with_reducible first | exact HB.out | apply below_alloc | apply pw_below_drewN | apply below_drew1 | refine below_set ?_ GE121.out) | exact HB.out)) hb); have n2_ := Aside0.mk (hbox); have n3_ := Aside0.mk ((by rw [hg]; exact (below_size (by repeat (first | (with_reducible first | exact HB.out | apply below_alloc | apply pw_below_drewN | apply below_drew1 | refine below_set ?_ GE121.out) | exact HB.out))) : w.heap.size ≤ gb122)); have n4_ := Aside0.mk ((by rw [hg]; exact (below_size (by repeat (first | (with_reducible first | exact HB.out | apply below_alloc | apply pw_below_drewN | apply below_drew1 | refine below_set ?_ GE121.out) | exact HB.out))) : w.heap.size ≤ gb122)); have n5_ := Aside0.mk ((by rw [hg]; exact Nat.ne_of_lt (blk_lt (g := gb121) (o := .cells #[.int .i64 a0_0, .int .i64 a0_1, .string a0_2, .string a0_3, .string a0_4, .slice A0_5 l0_5.length c0_5, .string a0_6, .string a0_7, .bool a0_8] 31 (0, 0)) (by (with_reducible repeat (first | refine blk_drewN ?_ _ | refine blk_drew ?_ | refine blk_alloc ?_ _)); exact BK121.out)) : gb121 ≠ gb122)); have n6_ := Aside0.mk ((by rw [hg]; exact Nat.ne_of_gt (blk_lt (g := gb121) (o := .cells #[.int .i64 a0_0, .int .i64 a0_1, .string a0_2, .string a0_3, .string a0_4, .slice A0_5 l0_5.length c0_5, .string a0_6, .string a0_7, .bool a0_8] 31 (0, 0)) (by (with_reducible repeat (first | refine blk_drewN ?_ _ | refine blk_drew ?_ | refine blk_alloc ?_ _)); exact BK121.out)) : gb122 ≠ gb121)); clear BK121; clear HB; have BK121 := n0_; have HB := n1_; have BK122 := n2_; have GW122 := n3_; have GE122 := n4_; have NB121_122 := n5_; have NB122_121 := n6_; clear n0_ n1_ n2_ n3_ n4_ n5_ n6_; clear hb hbox hg; have hnb34 := NB121_122.out; have hnc34 := NB122_121.out; have hcz35_0 : w33.cell? ⟨gb121, 0, none⟩ = some (.int .i64 a0_0) := (blk_cell BK121.out 0).trans rfl; have hcz35_1 : w33.cell? ⟨gb121, 1, none⟩ = some (.int .i64 a0_1) := (blk_cell BK121.out 1).trans rfl; have hcz35_2 : w33.cell? ⟨gb121, 2, none⟩ = some (.string a0_2) := (blk_cell BK121.out 2).trans rfl; have hcz35_3 : w33.cell? ⟨gb121, 3, none⟩ = some (.string a0_3) := (blk_cell BK121.out 3).trans rfl; have hcz35_4 : w33.cell? ⟨gb121, 4, none⟩ = some (.string a0_4) := (blk_cell BK121.out 4).trans rfl; have hcz35_5 : w33.cell? ⟨gb121, 5, none⟩ = some (.slice A0_5 l0_5.length c0_5) := (blk_cell BK121.out 5).trans rfl; have hcz35_6 : w33.cell? ⟨gb121, 6, none⟩ = some (.string a0_6) := (blk_cell BK121.out 6).trans rfl; have hcz35_7 : w33.cell? ⟨gb121, 7, none⟩ = some (.string a0_7) := (blk_cell BK121.out 7).trans rfl; have hcz35_8 : w33.cell? ⟨gb121, 8, none⟩ = some (.bool a0_8) := (blk_cell BK121.out 8).trans rfl; have hfz35_0 := blk_frozen BK121.out 0; have hfz35_1 := blk_frozen BK121.out 1; have hfz35_2 := blk_frozen BK121.out 2; have hfz35_3 := blk_frozen BK121.out 3; have hfz35_4 := blk_frozen BK121.out 4; have hfz35_5 := blk_frozen BK121.out 5; have hfz35_6 := blk_frozen BK121.out 6; have hfz35_7 := blk_frozen BK121.out 7; have hfz35_8 := blk_frozen BK121.out 8; have hcz36_0 : w33.cell? ⟨gb122, 0, none⟩ = some (.int .i64 a1_0) := (blk_cell BK122.out 0).trans rfl; have hcz36_1 : w33.cell? ⟨gb122, 1, none⟩ = some (.int .i64 a1_1) := (blk_cell BK122.out 1).trans rfl; have hcz36_2 : w33.cell? ⟨gb122, 2, none⟩ = some (.string a1_2) := (blk_cell BK122.out 2).trans rfl; have hcz36_3 : w33.cell? ⟨gb122, 3, none⟩ = some (.string a1_3) := (blk_cell BK122.out 3).trans rfl; have hcz36_4 : w33.cell? ⟨gb122, 4, none⟩ = some (.string a1_4) := (blk_cell BK122.out 4).trans rfl; have hcz36_5 : w33.cell? ⟨gb122, 5, none⟩ = some (.slice A1_5 l1_5.length c1_5) := (blk_cell BK122.out 5).trans rfl; have hcz36_6 : w33.cell? ⟨gb122, 6, none⟩ = some (.string a1_6) := (blk_cell BK122.out 6).trans rfl; have hcz36_7 : w33.cell? ⟨gb122, 7, none⟩ = some (.string a1_7) := (blk_cell BK122.out 7).trans rfl; have hcz36_8 : w33.cell? ⟨gb122, 8, none⟩ = some (.bool a1_8) := (blk_cell BK122.out 8).trans rfl; have hfz36_0 := blk_frozen BK122.out 0; have hfz36_1 := blk_frozen BK122.out 1; have hfz36_2 := blk_frozen BK122.out 2; have hfz36_3 := blk_frozen BK122.out 3; have hfz36_4 := blk_frozen BK122.out 4; have hfz36_5 := blk_frozen BK122.out 5; have hfz36_6 := blk_frozen BK122.out 6; have hfz36_7 := blk_frozen BK122.out 7; have hfz36_8 := blk_frozen BK122.out 8) | ((with_reducible refine gate_callee (f := 9) rfl ?_); refine goesL_ (some 11) rfl rfl Try.func9 (by kernel_rfl) rfl #[.slice A0_5 l0_5.length c0_5, .slice A1_5 l1_5.length c1_5] rfl (by (try simp only [List.map_toArray, List.map_cons, List.map_nil]); first | done | rfl | (simp only [List.length_drop, List.length_take]; rfl)) ?_; (with_reducible refine (slices_Equal_string_string.calls k _ _ l0_5 _ _ l1_5 true _ ?side1 ?side2 ?side3 ?side4 A3.out).mono ?_); (case side1 => repeat (first | exact (Kd.C_below HR0_5.out HB.out) | (with_reducible refine Kd.C_alloc ?_ _) | (with_reducible refine Kd.C_drewN ?_ _) | (with_reducible refine Kd.C_drew ?_))); (case side2 => exact HC0_5.out); (case side3 => repeat (first | exact (Kd.C_below HR1_5.out HB.out) | (with_reducible refine Kd.C_alloc ?_ _) | (with_reducible refine Kd.C_drewN ?_ _) | (with_reducible refine Kd.C_drew ?_))); (case side4 => exact HC1_5.out); rintro e w' ⟨rfl, ⟨nd, rfl⟩⟩; refine ⟨_, rfl, ?_⟩))
            go_ret
            exact ⟨by first | rfl | (simp [errW_none, errW_some] <;> rfl) | (simp [*, errW_none, errW_some] <;> rfl), by repeat (first | (with_reducible first | exact HB.out | apply below_alloc | apply pw_below_drewN | apply below_drew1 | refine below_set ?_ GE121.out | refine below_set ?_ GE122.out) | exact HB.out)⟩
        · rw [if_neg c7] at H
          have c7b0 : (a0_0 == a1_0) = false := beq_eq_false_iff_ne.mpr c7
          have c7b1 : (a0_0 != a1_0) = true := bne_iff_ne.mpr c7
          obtain rfl := Option.some.inj H
          go_enter Try.func8, Try.ntmps8
          go_wp2_with (first | ((with_reducible refine gate_dst (N := 2) rfl ?_); refine box_event ?hg (N := 2) ?hd (cs := #[.int .i64 a0_0, .int .i64 a0_1, .string a0_2, .string a0_3, .string a0_4, .slice A0_5 l0_5.length c0_5, .string a0_6, .string a0_7, .bool a0_8]) (t := 31) ?hr ?_; (case hd => rfl); (case hg => rfl); (case hr => first | (go_simp; done) | (go_simp; rfl)); intro gb121 hg w37 hbox hb; have n0_ := Aside0.mk (below_step (by repeat (first | (with_reducible first | exact HB.out | apply below_alloc | apply pw_below_drewN | apply below_drew1) | exact HB.out)) hb); have n1_ := Aside0.mk (hbox); have n2_ := Aside0.mk ((by rw [hg]; exact (below_size (by repeat (first | (with_reducible first | exact HB.out | apply below_alloc | apply pw_below_drewN | apply below_drew1) | exact HB.out))) : w.heap.size ≤ gb121)); have n3_ := Aside0.mk ((by rw [hg]; exact (below_size (by repeat (first | (with_reducible first | exact HB.out | apply below_alloc | apply pw_below_drewN | apply below_drew1) | exact HB.out))) : w.heap.size ≤ gb121)); clear HB; have HB := n0_; have BK121 := n1_; have GW121 := n2_; have GE121 := n3_; clear n0_ n1_ n2_ n3_; clear hb hbox hg) | ((with_reducible refine gate_dst (N := 3) rfl ?_); refine box_event ?hg (N := 3) ?hd (cs := #[.int .i64 a1_0, .int .i64 a1_1, .string a1_2, .string a1_3, .string a1_4, .slice A1_5 l1_5.length c1_5, .string a1_6, .string a1_7, .bool a1_8]) (t := 31) ?hr ?_; (case hd => rfl); (case hg => rfl); (case hr => first | (go_simp; done) | (go_simp; rfl)); intro gb122 hg w38 hbox hb; have n0_ := Aside0.mk (blk_below (g := gb121) (o := .cells #[.int .i64 a0_0, .int .i64 a0_1, .string a0_2, .string a0_3, .string a0_4, .slice A0_5 l0_5.length c0_5, .string a0_6, .string a0_7, .bool a0_8] 31 (0, 0)) (by (with_reducible repeat (first | refine blk_drewN ?_ _ | refine blk_drew ?_ | refine blk_alloc ?_ _)); exact BK121.out) hb); have n1_ := Aside0.mk (below_step (by repeat (first | (with_reducible first | exact HB.out | apply below_alloc | apply pw_below_drewN | apply below_drew1 | refine below_set ?_ GE121.out) | exact HB.out)) hb); have n2_ := Aside0.mk (hbox); have n3_ := Aside0.mk ((by rw [hg]; exact (below_size (by repeat (first | (with_reducible first | exact HB.out | apply below_alloc | apply pw_below_drewN | apply below_drew1 | refine below_set ?_ GE121.out) | exact HB.out))) : w.heap.size ≤ gb122)); have n4_ := Aside0.mk ((by rw [hg]; exact (below_size (by repeat (first | (with_reducible first | exact HB.out | apply below_alloc | apply pw_below_drewN | apply below_drew1 | refine below_set ?_ GE121.out) | exact HB.out))) : w.heap.size ≤ gb122)); have n5_ := Aside0.mk ((by rw [hg]; exact Nat.ne_of_lt (blk_lt (g := gb121) (o := .cells #[.int .i64 a0_0, .int .i64 a0_1, .string a0_2, .string a0_3, .string a0_4, .slice A0_5 l0_5.length c0_5, .string a0_6, .string a0_7, .bool a0_8] 31 (0, 0)) (by (with_reducible repeat (first | refine blk_drewN ?_ _ | refine blk_drew ?_ | refine blk_alloc ?_ _)); exact BK121.out)) : gb121 ≠ gb122)); have n6_ := Aside0.mk ((by rw [hg]; exact Nat.ne_of_gt (blk_lt (g := gb121) (o := .cells #[.int .i64 a0_0, .int .i64 a0_1, .string a0_2, .string a0_3, .string a0_4, .slice A0_5 l0_5.length c0_5, .string a0_6, .string a0_7, .bool a0_8] 31 (0, 0)) (by (with_reducible repeat (first | refine blk_drewN ?_ _ | refine blk_drew ?_ | refine blk_alloc ?_ _)); exact BK121.out)) : gb122 ≠ gb121)); clear BK121; clear HB; have BK121 := n0_; have HB := n1_; have BK122 := n2_; have GW122 := n3_; have GE122 := n4_; have NB121_122 := n5_; have NB122_121 := n6_; clear n0_ n1_ n2_ n3_ n4_ n5_ n6_; clear hb hbox hg; have hnb39 := NB121_122.out; have hnc39 := NB122_121.out; have hcz40_0 : w38.cell? ⟨gb121, 0, none⟩ = some (.int .i64 a0_0) := (blk_cell BK121.out 0).trans rfl; have hcz40_1 : w38.cell? ⟨gb121, 1, none⟩ = some (.int .i64 a0_1) := (blk_cell BK121.out 1).trans rfl; have hcz40_2 : w38.cell? ⟨gb121, 2, none⟩ = some (.string a0_2) := (blk_cell BK121.out 2).trans rfl; have hcz40_3 : w38.cell? ⟨gb121, 3, none⟩ = some (.string a0_3) := (blk_cell BK121.out 3).trans rfl; have hcz40_4 : w38.cell? ⟨gb121, 4, none⟩ = some (.string a0_4) := (blk_cell BK121.out 4).trans rfl; have hcz40_5 : w38.cell? ⟨gb121, 5, none⟩ = some (.slice A0_5 l0_5.length c0_5) := (blk_cell BK121.out 5).trans rfl; have hcz40_6 : w38.cell? ⟨gb121, 6, none⟩ = some (.string a0_6) := (blk_cell BK121.out 6).trans rfl; have hcz40_7 : w38.cell? ⟨gb121, 7, none⟩ = some (.string a0_7) := (blk_cell BK121.out 7).trans rfl; have hcz40_8 : w38.cell? ⟨gb121, 8, none⟩ = some (.bool a0_8) := (blk_cell BK121.out 8).trans rfl; have hfz40_0 := blk_frozen BK121.out 0; have hfz40_1 := blk_frozen BK121.out 1; have hfz40_2 := blk_frozen BK121.out 2; have hfz40_3 := blk_frozen BK121.out 3; have hfz40_4 := blk_frozen BK121.out 4; have hfz40_5 := blk_frozen BK121.out 5; have hfz40_6 := blk_frozen BK121.out 6; have hfz40_7 := blk_frozen BK121.out 7; have hfz40_8 := blk_frozen BK121.out 8; have hcz41_0 : w38.cell? ⟨gb122, 0, none⟩ = some (.int .i64 a1_0) := (blk_cell BK122.out 0).trans rfl; have hcz41_1 : w38.cell? ⟨gb122, 1, none⟩ = some (.int .i64 a1_1) := (blk_cell BK122.out 1).trans rfl; have hcz41_2 : w38.cell? ⟨gb122, 2, none⟩ = some (.string a1_2) := (blk_cell BK122.out 2).trans rfl; have hcz41_3 : w38.cell? ⟨gb122, 3, none⟩ = some (.string a1_3) := (blk_cell BK122.out 3).trans rfl; have hcz41_4 : w38.cell? ⟨gb122, 4, none⟩ = some (.string a1_4) := (blk_cell BK122.out 4).trans rfl; have hcz41_5 : w38.cell? ⟨gb122, 5, none⟩ = some (.slice A1_5 l1_5.length c1_5) := (blk_cell BK122.out 5).trans rfl; have hcz41_6 : w38.cell? ⟨gb122, 6, none⟩ = some (.string a1_6) := (blk_cell BK122.out 6).trans rfl; have hcz41_7 : w38.cell? ⟨gb122, 7, none⟩ = some (.string a1_7) := (blk_cell BK122.out 7).trans rfl; have hcz41_8 : w38.cell? ⟨gb122, 8, none⟩ = some (.bool a1_8) := (blk_cell BK122.out 8).trans rfl; have hfz41_0 := blk_frozen BK122.out 0; have hfz41_1 := blk_frozen BK122.out 1; have hfz41_2 := blk_frozen BK122.out 2; have hfz41_3 := blk_frozen BK122.out 3; have hfz41_4 := blk_frozen BK122.out 4; have hfz41_5 := blk_frozen BK122.out 5; have hfz41_6 := blk_frozen BK122.out 6; have hfz41_7 := blk_frozen BK122.out 7; have hfz41_8 := blk_frozen BK122.out 8) | ((with_reducible refine gate_callee (f := 9) rfl ?_); refine goesL_ (some 11) rfl rfl Try.func9 (by kernel_rfl) rfl #[.slice A0_5 l0_5.length c0_5, .slice A1_5 l1_5.length c1_5] rfl (by (try simp only [List.map_toArray, List.map_cons, List.map_nil]); first | done | rfl | (simp only [List.length_drop, List.length_take]; rfl)) ?_; (with_reducible refine (slices_Equal_string_string.calls k _ _ l0_5 _ _ l1_5 true _ ?side1 ?side2 ?side3 ?side4 A3.out).mono ?_); (case side1 => repeat (first | exact (Kd.C_below HR0_5.out HB.out) | (with_reducible refine Kd.C_alloc ?_ _) | (with_reducible refine Kd.C_drewN ?_ _) | (with_reducible refine Kd.C_drew ?_))); (case side2 => exact HC0_5.out); (case side3 => repeat (first | exact (Kd.C_below HR1_5.out HB.out) | (with_reducible refine Kd.C_alloc ?_ _) | (with_reducible refine Kd.C_drewN ?_ _) | (with_reducible refine Kd.C_drew ?_))); (case side4 => exact HC1_5.out); rintro e w' ⟨rfl, ⟨nd, rfl⟩⟩; refine ⟨_, rfl, ?_⟩))
          go_ret
          exact ⟨by first | rfl | (simp [errW_none, errW_some] <;> rfl) | (simp [*, errW_none, errW_some] <;> rfl), by repeat (first | (with_reducible first | exact HB.out | apply below_alloc | apply pw_below_drewN | apply below_drew1 | refine below_set ?_ GE121.out | refine below_set ?_ GE122.out) | exact HB.out)⟩
      · rw [if_neg c6] at H
        have c6b0 : (a0_6.toList == a1_6.toList) = false := beq_eq_false_iff_ne.mpr c6
        have c6b1 : (a0_6.toList != a1_6.toList) = true := bne_iff_ne.mpr c6
        obtain rfl := Option.some.inj H
        go_enter Try.func8, Try.ntmps8
        go_wp2_with (first | ((with_reducible refine gate_dst (N := 2) rfl ?_); refine box_event ?hg (N := 2) ?hd (cs := #[.int .i64 a0_0, .int .i64 a0_1, .string a0_2, .string a0_3, .string a0_4, .slice A0_5 l0_5.length c0_5, .string a0_6, .string a0_7, .bool a0_8]) (t := 31) ?hr ?_; (case hd => rfl); (case hg => rfl); (case hr => first | (go_simp; done) | (go_simp; rfl)); intro gb121 hg w42 hbox hb; have n0_ := Aside0.mk (below_step (by repeat (first | (with_reducible first | exact HB.out | apply below_alloc | apply pw_below_drewN | apply below_drew1) | exact HB.out)) hb); have n1_ := Aside0.mk (hbox); have n2_ := Aside0.mk ((by rw [hg]; exact (below_size (by repeat (first | (with_reducible first | exact HB.out | apply below_alloc | apply pw_below_drewN | apply below_drew1) | exact HB.out))) : w.heap.size ≤ gb121)); have n3_ := Aside0.mk ((by rw [hg]; exact (below_size (by repeat (first | (with_reducible first | exact HB.out | apply below_alloc | apply pw_below_drewN | apply below_drew1) | exact HB.out))) : w.heap.size ≤ gb121)); clear HB; have HB := n0_; have BK121 := n1_; have GW121 := n2_; have GE121 := n3_; clear n0_ n1_ n2_ n3_; clear hb hbox hg) | ((with_reducible refine gate_dst (N := 3) rfl ?_); refine box_event ?hg (N := 3) ?hd (cs := #[.int .i64 a1_0, .int .i64 a1_1, .string a1_2, .string a1_3, .string a1_4, .slice A1_5 l1_5.length c1_5, .string a1_6, .string a1_7, .bool a1_8]) (t := 31) ?hr ?_; (case hd => rfl); (case hg => rfl); (case hr => first | (go_simp; done) | (go_simp; rfl)); intro gb122 hg w43 hbox hb; have n0_ := Aside0.mk (blk_below (g := gb121) (o := .cells #[.int .i64 a0_0, .int .i64 a0_1, .string a0_2, .string a0_3, .string a0_4, .slice A0_5 l0_5.length c0_5, .string a0_6, .string a0_7, .bool a0_8] 31 (0, 0)) (by (with_reducible repeat (first | refine blk_drewN ?_ _ | refine blk_drew ?_ | refine blk_alloc ?_ _)); exact BK121.out) hb); have n1_ := Aside0.mk (below_step (by repeat (first | (with_reducible first | exact HB.out | apply below_alloc | apply pw_below_drewN | apply below_drew1 | refine below_set ?_ GE121.out) | exact HB.out)) hb); have n2_ := Aside0.mk (hbox); have n3_ := Aside0.mk ((by rw [hg]; exact (below_size (by repeat (first | (with_reducible first | exact HB.out | apply below_alloc | apply pw_below_drewN | apply below_drew1 | refine below_set ?_ GE121.out) | exact HB.out))) : w.heap.size ≤ gb122)); have n4_ := Aside0.mk ((by rw [hg]; exact (below_size (by repeat (first | (with_reducible first | exact HB.out | apply below_alloc | apply pw_below_drewN | apply below_drew1 | refine below_set ?_ GE121.out) | exact HB.out))) : w.heap.size ≤ gb122)); have n5_ := Aside0.mk ((by rw [hg]; exact Nat.ne_of_lt (blk_lt (g := gb121) (o := .cells #[.int .i64 a0_0, .int .i64 a0_1, .string a0_2, .string a0_3, .string a0_4, .slice A0_5 l0_5.length c0_5, .string a0_6, .string a0_7, .bool a0_8] 31 (0, 0)) (by (with_reducible repeat (first | refine blk_drewN ?_ _ | refine blk_drew ?_ | refine blk_alloc ?_ _)); exact BK121.out)) : gb121 ≠ gb122)); have n6_ := Aside0.mk ((by rw [hg]; exact Nat.ne_of_gt (blk_lt (g := gb121) (o := .cells #[.int .i64 a0_0, .int .i64 a0_1, .string a0_2, .string a0_3, .string a0_4, .slice A0_5 l0_5.length c0_5, .string a0_6, .string a0_7, .bool a0_8] 31 (0, 0)) (by (with_reducible repeat (first | refine blk_drewN ?_ _ | refine blk_drew ?_ | refine blk_alloc ?_ _)); exact BK121.out)) : gb122 ≠ gb121)); clear BK121; clear HB; have BK121 := n0_; have HB := n1_; have BK122 := n2_; have GW122 := n3_; have GE122 := n4_; have NB121_122 := n5_; have NB122_121 := n6_; clear n0_ n1_ n2_ n3_ n4_ n5_ n6_; clear hb hbox hg; have hnb44 := NB121_122.out; have hnc44 := NB122_121.out; have hcz45_0 : w43.cell? ⟨gb121, 0, none⟩ = some (.int .i64 a0_0) := (blk_cell BK121.out 0).trans rfl; have hcz45_1 : w43.cell? ⟨gb121, 1, none⟩ = some (.int .i64 a0_1) := (blk_cell BK121.out 1).trans rfl; have hcz45_2 : w43.cell? ⟨gb121, 2, none⟩ = some (.string a0_2) := (blk_cell BK121.out 2).trans rfl; have hcz45_3 : w43.cell? ⟨gb121, 3, none⟩ = some (.string a0_3) := (blk_cell BK121.out 3).trans rfl; have hcz45_4 : w43.cell? ⟨gb121, 4, none⟩ = some (.string a0_4) := (blk_cell BK121.out 4).trans rfl; have hcz45_5 : w43.cell? ⟨gb121, 5, none⟩ = some (.slice A0_5 l0_5.length c0_5) := (blk_cell BK121.out 5).trans rfl; have hcz45_6 : w43.cell? ⟨gb121, 6, none⟩ = some (.string a0_6) := (blk_cell BK121.out 6).trans rfl; have hcz45_7 : w43.cell? ⟨gb121, 7, none⟩ = some (.string a0_7) := (blk_cell BK121.out 7).trans rfl; have hcz45_8 : w43.cell? ⟨gb121, 8, none⟩ = some (.bool a0_8) := (blk_cell BK121.out 8).trans rfl; have hfz45_0 := blk_frozen BK121.out 0; have hfz45_1 := blk_frozen BK121.out 1; have hfz45_2 := blk_frozen BK121.out 2; have hfz45_3 := blk_frozen BK121.out 3; have hfz45_4 := blk_frozen BK121.out 4; have hfz45_5 := blk_frozen BK121.out 5; have hfz45_6 := blk_frozen BK121.out 6; have hfz45_7 := blk_frozen BK121.out 7; have hfz45_8 := blk_frozen BK121.out 8; have hcz46_0 : w43.cell? ⟨gb122, 0, none⟩ = some (.int .i64 a1_0) := (blk_cell BK122.out 0).trans rfl; have hcz46_1 : w43.cell? ⟨gb122, 1, none⟩ = some (.int .i64 a1_1) := (blk_cell BK122.out 1).trans rfl; have hcz46_2 : w43.cell? ⟨gb122, 2, none⟩ = some (.string a1_2) := (blk_cell BK122.out 2).trans rfl; have hcz46_3 : w43.cell? ⟨gb122, 3, none⟩ = some (.string a1_3) := (blk_cell BK122.out 3).trans rfl; have hcz46_4 : w43.cell? ⟨gb122, 4, none⟩ = some (.string a1_4) := (blk_cell BK122.out 4).trans rfl; have hcz46_5 : w43.cell? ⟨gb122, 5, none⟩ = some (.slice A1_5 l1_5.length c1_5) := (blk_cell BK122.out 5).trans rfl; have hcz46_6 : w43.cell? ⟨gb122, 6, none⟩ = some (.string a1_6) := (blk_cell BK122.out 6).trans rfl; have hcz46_7 : w43.cell? ⟨gb122, 7, none⟩ = some (.string a1_7) := (blk_cell BK122.out 7).trans rfl; have hcz46_8 : w43.cell? ⟨gb122, 8, none⟩ = some (.bool a1_8) := (blk_cell BK122.out 8).trans rfl; have hfz46_0 := blk_frozen BK122.out 0; have hfz46_1 := blk_frozen BK122.out 1; have hfz46_2 := blk_frozen BK122.out 2; have hfz46_3 := blk_frozen BK122.out 3; have hfz46_4 := blk_frozen BK122.out 4; have hfz46_5 := blk_frozen BK122.out 5; have hfz46_6 := blk_frozen BK122.out 6; have hfz46_7 := blk_frozen BK122.out 7; have hfz46_8 := blk_frozen BK122.out 8) | ((with_reducible refine gate_callee (f := 9) rfl ?_); refine goesL_ (some 11) rfl rfl Try.func9 (by kernel_rfl) rfl #[.slice A0_5 l0_5.length c0_5, .slice A1_5 l1_5.length c1_5] rfl (by (try simp only [List.map_toArray, List.map_cons, List.map_nil]); first | done | rfl | (simp only [List.length_drop, List.length_take]; rfl)) ?_; (with_reducible refine (slices_Equal_string_string.calls k _ _ l0_5 _ _ l1_5 true _ ?side1 ?side2 ?side3 ?side4 A3.out).mono ?_); (case side1 => repeat (first | exact (Kd.C_below HR0_5.out HB.out) | (with_reducible refine Kd.C_alloc ?_ _) | (with_reducible refine Kd.C_drewN ?_ _) | (with_reducible refine Kd.C_drew ?_))); (case side2 => exact HC0_5.out); (case side3 => repeat (first | exact (Kd.C_below HR1_5.out HB.out) | (with_reducible refine Kd.C_alloc ?_ _) | (with_reducible refine Kd.C_drewN ?_ _) | (with_reducible refine Kd.C_drew ?_))); (case side4 => exact HC1_5.out); rintro e w' ⟨rfl, ⟨nd, rfl⟩⟩; refine ⟨_, rfl, ?_⟩))
        go_ret
        exact ⟨by first | rfl | (simp [errW_none, errW_some] <;> rfl) | (simp [*, errW_none, errW_some] <;> rfl), by repeat (first | (with_reducible first | exact HB.out | apply below_alloc | apply pw_below_drewN | apply below_drew1 | refine below_set ?_ GE121.out | refine below_set ?_ GE122.out) | exact HB.out)⟩
    · rw [if_neg c5] at H
      have c5b0 : (a0_4.toList == a1_4.toList) = false := beq_eq_false_iff_ne.mpr c5
      have c5b1 : (a0_4.toList != a1_4.toList) = true := bne_iff_ne.mpr c5
      obtain rfl := Option.some.inj H
      go_enter Try.func8, Try.ntmps8
      go_wp2_with (first | ((with_reducible refine gate_dst (N := 2) rfl ?_); refine box_event ?hg (N := 2) ?hd (cs := #[.int .i64 a0_0, .int .i64 a0_1, .string a0_2, .string a0_3, .string a0_4, .slice A0_5 l0_5.length c0_5, .string a0_6, .string a0_7, .bool a0_8]) (t := 31) ?hr ?_; (case hd => rfl); (case hg => rfl); (case hr => first | (go_simp; done) | (go_simp; rfl)); intro gb121 hg w47 hbox hb; have n0_ := Aside0.mk (below_step (by repeat (first | (with_reducible first | exact HB.out | apply below_alloc | apply pw_below_drewN | apply below_drew1) | exact HB.out)) hb); have n1_ := Aside0.mk (hbox); have n2_ := Aside0.mk ((by rw [hg]; exact (below_size (by repeat (first | (with_reducible first | exact HB.out | apply below_alloc | apply pw_below_drewN | apply below_drew1) | exact HB.out))) : w.heap.size ≤ gb121)); have n3_ := Aside0.mk ((by rw [hg]; exact (below_size (by repeat (first | (with_reducible first | exact HB.out | apply below_alloc | apply pw_below_drewN | apply below_drew1) | exact HB.out))) : w.heap.size ≤ gb121)); clear HB; have HB := n0_; have BK121 := n1_; have GW121 := n2_; have GE121 := n3_; clear n0_ n1_ n2_ n3_; clear hb hbox hg) | ((with_reducible refine gate_dst (N := 3) rfl ?_); refine box_event ?hg (N := 3) ?hd (cs := #[.int .i64 a1_0, .int .i64 a1_1, .string a1_2, .string a1_3, .string a1_4, .slice A1_5 l1_5.length c1_5, .string a1_6, .string a1_7, .bool a1_8]) (t := 31) ?hr ?_; (case hd => rfl); (case hg => rfl); (case hr => first | (go_simp; done) | (go_simp; rfl)); intro gb122 hg w48 hbox hb; have n0_ := Aside0.mk (blk_below (g := gb121) (o := .cells #[.int .i64 a0_0, .int .i64 a0_1, .string a0_2, .string a0_3, .string a0_4, .slice A0_5 l0_5.length c0_5, .string a0_6, .string a0_7, .bool a0_8] 31 (0, 0)) (by (with_reducible repeat (first | refine blk_drewN ?_ _ | refine blk_drew ?_ | refine blk_alloc ?_ _)); exact BK121.out) hb); have n1_ := Aside0.mk (below_step (by repeat (first | (with_reducible first | exact HB.out | apply below_alloc | apply pw_below_drewN | apply below_drew1 | refine below_set ?_ GE121.out) | exact HB.out)) hb); have n2_ := Aside0.mk (hbox); have n3_ := Aside0.mk ((by rw [hg]; exact (below_size (by repeat (first | (with_reducible first | exact HB.out | apply below_alloc | apply pw_below_drewN | apply below_drew1 | refine below_set ?_ GE121.out) | exact HB.out))) : w.heap.size ≤ gb122)); have n4_ := Aside0.mk ((by rw [hg]; exact (below_size (by repeat (first | (with_reducible first | exact HB.out | apply below_alloc | apply pw_below_drewN | apply below_drew1 | refine below_set ?_ GE121.out) | exact HB.out))) : w.heap.size ≤ gb122)); have n5_ := Aside0.mk ((by rw [hg]; exact Nat.ne_of_lt (blk_lt (g := gb121) (o := .cells #[.int .i64 a0_0, .int .i64 a0_1, .string a0_2, .string a0_3, .string a0_4, .slice A0_5 l0_5.length c0_5, .string a0_6, .string a0_7, .bool a0_8] 31 (0, 0)) (by (with_reducible repeat (first | refine blk_drewN ?_ _ | refine blk_drew ?_ | refine blk_alloc ?_ _)); exact BK121.out)) : gb121 ≠ gb122)); have n6_ := Aside0.mk ((by rw [hg]; exact Nat.ne_of_gt (blk_lt (g := gb121) (o := .cells #[.int .i64 a0_0, .int .i64 a0_1, .string a0_2, .string a0_3, .string a0_4, .slice A0_5 l0_5.length c0_5, .string a0_6, .string a0_7, .bool a0_8] 31 (0, 0)) (by (with_reducible repeat (first | refine blk_drewN ?_ _ | refine blk_drew ?_ | refine blk_alloc ?_ _)); exact BK121.out)) : gb122 ≠ gb121)); clear BK121; clear HB; have BK121 := n0_; have HB := n1_; have BK122 := n2_; have GW122 := n3_; have GE122 := n4_; have NB121_122 := n5_; have NB122_121 := n6_; clear n0_ n1_ n2_ n3_ n4_ n5_ n6_; clear hb hbox hg; have hnb49 := NB121_122.out; have hnc49 := NB122_121.out; have hcz50_0 : w48.cell? ⟨gb121, 0, none⟩ = some (.int .i64 a0_0) := (blk_cell BK121.out 0).trans rfl; have hcz50_1 : w48.cell? ⟨gb121, 1, none⟩ = some (.int .i64 a0_1) := (blk_cell BK121.out 1).trans rfl; have hcz50_2 : w48.cell? ⟨gb121, 2, none⟩ = some (.string a0_2) := (blk_cell BK121.out 2).trans rfl; have hcz50_3 : w48.cell? ⟨gb121, 3, none⟩ = some (.string a0_3) := (blk_cell BK121.out 3).trans rfl; have hcz50_4 : w48.cell? ⟨gb121, 4, none⟩ = some (.string a0_4) := (blk_cell BK121.out 4).trans rfl; have hcz50_5 : w48.cell? ⟨gb121, 5, none⟩ = some (.slice A0_5 l0_5.length c0_5) := (blk_cell BK121.out 5).trans rfl; have hcz50_6 : w48.cell? ⟨gb121, 6, none⟩ = some (.string a0_6) := (blk_cell BK121.out 6).trans rfl; have hcz50_7 : w48.cell? ⟨gb121, 7, none⟩ = some (.string a0_7) := (blk_cell BK121.out 7).trans rfl; have hcz50_8 : w48.cell? ⟨gb121, 8, none⟩ = some (.bool a0_8) := (blk_cell BK121.out 8).trans rfl; have hfz50_0 := blk_frozen BK121.out 0; have hfz50_1 := blk_frozen BK121.out 1; have hfz50_2 := blk_frozen BK121.out 2; have hfz50_3 := blk_frozen BK121.out 3; have hfz50_4 := blk_frozen BK121.out 4; have hfz50_5 := blk_frozen BK121.out 5; have hfz50_6 := blk_frozen BK121.out 6; have hfz50_7 := blk_frozen BK121.out 7; have hfz50_8 := blk_frozen BK121.out 8; have hcz51_0 : w48.cell? ⟨gb122, 0, none⟩ = some (.int .i64 a1_0) := (blk_cell BK122.out 0).trans rfl; have hcz51_1 : w48.cell? ⟨gb122, 1, none⟩ = some (.int .i64 a1_1) := (blk_cell BK122.out 1).trans rfl; have hcz51_2 : w48.cell? ⟨gb122, 2, none⟩ = some (.string a1_2) := (blk_cell BK122.out 2).trans rfl; have hcz51_3 : w48.cell? ⟨gb122, 3, none⟩ = some (.string a1_3) := (blk_cell BK122.out 3).trans rfl; have hcz51_4 : w48.cell? ⟨gb122, 4, none⟩ = some (.string a1_4) := (blk_cell BK122.out 4).trans rfl; have hcz51_5 : w48.cell? ⟨gb122, 5, none⟩ = some (.slice A1_5 l1_5.length c1_5) := (blk_cell BK122.out 5).trans rfl; have hcz51_6 : w48.cell? ⟨gb122, 6, none⟩ = some (.string a1_6) := (blk_cell BK122.out 6).trans rfl; have hcz51_7 : w48.cell? ⟨gb122, 7, none⟩ = some (.string a1_7) := (blk_cell BK122.out 7).trans rfl; have hcz51_8 : w48.cell? ⟨gb122, 8, none⟩ = some (.bool a1_8) := (blk_cell BK122.out 8).trans rfl; have hfz51_0 := blk_frozen BK122.out 0; have hfz51_1 := blk_frozen BK122.out 1; have hfz51_2 := blk_frozen BK122.out 2; have hfz51_3 := blk_frozen BK122.out 3; have hfz51_4 := blk_frozen BK122.out 4; have hfz51_5 := blk_frozen BK122.out 5; have hfz51_6 := blk_frozen BK122.out 6; have hfz51_7 := blk_frozen BK122.out 7; have hfz51_8 := blk_frozen BK122.out 8) | ((with_reducible refine gate_callee (f := 9) rfl ?_); refine goesL_ (some 11) rfl rfl Try.func9 (by kernel_rfl) rfl #[.slice A0_5 l0_5.length c0_5, .slice A1_5 l1_5.length c1_5] rfl (by (try simp only [List.map_toArray, List.map_cons, List.map_nil]); first | done | rfl | (simp only [List.length_drop, List.length_take]; rfl)) ?_; (with_reducible refine (slices_Equal_string_string.calls k _ _ l0_5 _ _ l1_5 true _ ?side1 ?side2 ?side3 ?side4 A3.out).mono ?_); (case side1 => repeat (first | exact (Kd.C_below HR0_5.out HB.out) | (with_reducible refine Kd.C_alloc ?_ _) | (with_reducible refine Kd.C_drewN ?_ _) | (with_reducible refine Kd.C_drew ?_))); (case side2 => exact HC0_5.out); (case side3 => repeat (first | exact (Kd.C_below HR1_5.out HB.out) | (with_reducible refine Kd.C_alloc ?_ _) | (with_reducible refine Kd.C_drewN ?_ _) | (with_reducible refine Kd.C_drew ?_))); (case side4 => exact HC1_5.out); rintro e w' ⟨rfl, ⟨nd, rfl⟩⟩; refine ⟨_, rfl, ?_⟩))
      go_ret
      exact ⟨by first | rfl | (simp [errW_none, errW_some] <;> rfl) | (simp [*, errW_none, errW_some] <;> rfl), by repeat (first | (with_reducible first | exact HB.out | apply below_alloc | apply pw_below_drewN | apply below_drew1 | refine below_set ?_ GE121.out | refine below_set ?_ GE122.out) | exact HB.out)⟩
  · replace c4 := Bool.eq_false_iff.mpr c4
    subst c4
    have H1 : (some false) = some r := by rw [if_neg (show ¬ (false = true) by decide)] at H; exact H
    clear H
    have H := H1
    clear H1
    obtain rfl := Option.some.inj H
    go_enter Try.func8, Try.ntmps8
    go_wp2_with (first | ((with_reducible refine gate_dst (N := 2) rfl ?_); refine box_event ?hg (N := 2) ?hd (cs := #[.int .i64 a0_0, .int .i64 a0_1, .string a0_2, .string a0_3, .string a0_4, .slice A0_5 l0_5.length c0_5, .string a0_6, .string a0_7, .bool a0_8]) (t := 31) ?hr ?_; (case hd => rfl); (case hg => rfl); (case hr => first | (go_simp; done) | (go_simp; rfl)); intro gb121 hg w52 hbox hb; have n0_ := Aside0.mk (below_step (by repeat (first | (with_reducible first | exact HB.out | apply below_alloc | apply pw_below_drewN | apply below_drew1) | exact HB.out)) hb); have n1_ := Aside0.mk (hbox); have n2_ := Aside0.mk ((by rw [hg]; exact (below_size (by repeat (first | (with_reducible first | exact HB.out | apply below_alloc | apply pw_below_drewN | apply below_drew1) | exact HB.out))) : w.heap.size ≤ gb121)); have n3_ := Aside0.mk ((by rw [hg]; exact (below_size (by repeat (first | (with_reducible first | exact HB.out | apply below_alloc | apply pw_below_drewN | apply below_drew1) | exact HB.out))) : w.heap.size ≤ gb121)); clear HB; have HB := n0_; have BK121 := n1_; have GW121 := n2_; have GE121 := n3_; clear n0_ n1_ n2_ n3_; clear hb hbox hg) | ((with_reducible refine gate_dst (N := 3) rfl ?_); refine box_event ?hg (N := 3) ?hd (cs := #[.int .i64 a1_0, .int .i64 a1_1, .string a1_2, .string a1_3, .string a1_4, .slice A1_5 l1_5.length c1_5, .string a1_6, .string a1_7, .bool a1_8]) (t := 31) ?hr ?_; (case hd => rfl); (case hg => rfl); (case hr => first | (go_simp; done) | (go_simp; rfl)); intro gb122 hg w53 hbox hb; have n0_ := Aside0.mk (blk_below (g := gb121) (o := .cells #[.int .i64 a0_0, .int .i64 a0_1, .string a0_2, .string a0_3, .string a0_4, .slice A0_5 l0_5.length c0_5, .string a0_6, .string a0_7, .bool a0_8] 31 (0, 0)) (by (with_reducible repeat (first | refine blk_drewN ?_ _ | refine blk_drew ?_ | refine blk_alloc ?_ _)); exact BK121.out) hb); have n1_ := Aside0.mk (below_step (by repeat (first | (with_reducible first | exact HB.out | apply below_alloc | apply pw_below_drewN | apply below_drew1 | refine below_set ?_ GE121.out) | exact HB.out)) hb); have n2_ := Aside0.mk (hbox); have n3_ := Aside0.mk ((by rw [hg]; exact (below_size (by repeat (first | (with_reducible first | exact HB.out | apply below_alloc | apply pw_below_drewN | apply below_drew1 | refine below_set ?_ GE121.out) | exact HB.out))) : w.heap.size ≤ gb122)); have n4_ := Aside0.mk ((by rw [hg]; exact (below_size (by repeat (first | (with_reducible first | exact HB.out | apply below_alloc | apply pw_below_drewN | apply below_drew1 | refine below_set ?_ GE121.out) | exact HB.out))) : w.heap.size ≤ gb122)); have n5_ := Aside0.mk ((by rw [hg]; exact Nat.ne_of_lt (blk_lt (g := gb121) (o := .cells #[.int .i64 a0_0, .int .i64 a0_1, .string a0_2, .string a0_3, .string a0_4, .slice A0_5 l0_5.length c0_5, .string a0_6, .string a0_7, .bool a0_8] 31 (0, 0)) (by (with_reducible repeat (first | refine blk_drewN ?_ _ | refine blk_drew ?_ | refine blk_alloc ?_ _)); exact BK121.out)) : gb121 ≠ gb122)); have n6_ := Aside0.mk ((by rw [hg]; exact Nat.ne_of_gt (blk_lt (g := gb121) (o := .cells #[.int .i64 a0_0, .int .i64 a0_1, .string a0_2, .string a0_3, .string a0_4, .slice A0_5 l0_5.length c0_5, .string a0_6, .string a0_7, .bool a0_8] 31 (0, 0)) (by (with_reducible repeat (first | refine blk_drewN ?_ _ | refine blk_drew ?_ | refine blk_alloc ?_ _)); exact BK121.out)) : gb122 ≠ gb121)); clear BK121; clear HB; have BK121 := n0_; have HB := n1_; have BK122 := n2_; have GW122 := n3_; have GE122 := n4_; have NB121_122 := n5_; have NB122_121 := n6_; clear n0_ n1_ n2_ n3_ n4_ n5_ n6_; clear hb hbox hg; have hnb54 := NB121_122.out; have hnc54 := NB122_121.out; have hcz55_0 : w53.cell? ⟨gb121, 0, none⟩ = some (.int .i64 a0_0) := (blk_cell BK121.out 0).trans rfl; have hcz55_1 : w53.cell? ⟨gb121, 1, none⟩ = some (.int .i64 a0_1) := (blk_cell BK121.out 1).trans rfl; have hcz55_2 : w53.cell? ⟨gb121, 2, none⟩ = some (.string a0_2) := (blk_cell BK121.out 2).trans rfl; have hcz55_3 : w53.cell? ⟨gb121, 3, none⟩ = some (.string a0_3) := (blk_cell BK121.out 3).trans rfl; have hcz55_4 : w53.cell? ⟨gb121, 4, none⟩ = some (.string a0_4) := (blk_cell BK121.out 4).trans rfl; have hcz55_5 : w53.cell? ⟨gb121, 5, none⟩ = some (.slice A0_5 l0_5.length c0_5) := (blk_cell BK121.out 5).trans rfl; have hcz55_6 : w53.cell? ⟨gb121, 6, none⟩ = some (.string a0_6) := (blk_cell BK121.out 6).trans rfl; have hcz55_7 : w53.cell? ⟨gb121, 7, none⟩ = some (.string a0_7) := (blk_cell BK121.out 7).trans rfl; have hcz55_8 : w53.cell? ⟨gb121, 8, none⟩ = some (.bool a0_8) := (blk_cell BK121.out 8).trans rfl; have hfz55_0 := blk_frozen BK121.out 0; have hfz55_1 := blk_frozen BK121.out 1; have hfz55_2 := blk_frozen BK121.out 2; have hfz55_3 := blk_frozen BK121.out 3; have hfz55_4 := blk_frozen BK121.out 4; have hfz55_5 := blk_frozen BK121.out 5; have hfz55_6 := blk_frozen BK121.out 6; have hfz55_7 := blk_frozen BK121.out 7; have hfz55_8 := blk_frozen BK121.out 8; have hcz56_0 : w53.cell? ⟨gb122, 0, none⟩ = some (.int .i64 a1_0) := (blk_cell BK122.out 0).trans rfl; have hcz56_1 : w53.cell? ⟨gb122, 1, none⟩ = some (.int .i64 a1_1) := (blk_cell BK122.out 1).trans rfl; have hcz56_2 : w53.cell? ⟨gb122, 2, none⟩ = some (.string a1_2) := (blk_cell BK122.out 2).trans rfl; have hcz56_3 : w53.cell? ⟨gb122, 3, none⟩ = some (.string a1_3) := (blk_cell BK122.out 3).trans rfl; have hcz56_4 : w53.cell? ⟨gb122, 4, none⟩ = some (.string a1_4) := (blk_cell BK122.out 4).trans rfl; have hcz56_5 : w53.cell? ⟨gb122, 5, none⟩ = some (.slice A1_5 l1_5.length c1_5) := (blk_cell BK122.out 5).trans rfl; have hcz56_6 : w53.cell? ⟨gb122, 6, none⟩ = some (.string a1_6) := (blk_cell BK122.out 6).trans rfl; have hcz56_7 : w53.cell? ⟨gb122, 7, none⟩ = some (.string a1_7) := (blk_cell BK122.out 7).trans rfl; have hcz56_8 : w53.cell? ⟨gb122, 8, none⟩ = some (.bool a1_8) := (blk_cell BK122.out 8).trans rfl; have hfz56_0 := blk_frozen BK122.out 0; have hfz56_1 := blk_frozen BK122.out 1; have hfz56_2 := blk_frozen BK122.out 2; have hfz56_3 := blk_frozen BK122.out 3; have hfz56_4 := blk_frozen BK122.out 4; have hfz56_5 := blk_frozen BK122.out 5; have hfz56_6 := blk_frozen BK122.out 6; have hfz56_7 := blk_frozen BK122.out 7; have hfz56_8 := blk_frozen BK122.out 8) | ((with_reducible refine gate_callee (f := 9) rfl ?_); refine goesL_ (some 11) rfl rfl Try.func9 (by kernel_rfl) rfl #[.slice A0_5 l0_5.length c0_5, .slice A1_5 l1_5.length c1_5] rfl (by (try simp only [List.map_toArray, List.map_cons, List.map_nil]); first | done | rfl | (simp only [List.length_drop, List.length_take]; rfl)) ?_; (with_reducible refine (slices_Equal_string_string.calls k _ _ l0_5 _ _ l1_5 false _ ?side1 ?side2 ?side3 ?side4 A3.out).mono ?_); (case side1 => repeat (first | exact (Kd.C_below HR0_5.out HB.out) | (with_reducible refine Kd.C_alloc ?_ _) | (with_reducible refine Kd.C_drewN ?_ _) | (with_reducible refine Kd.C_drew ?_))); (case side2 => exact HC0_5.out); (case side3 => repeat (first | exact (Kd.C_below HR1_5.out HB.out) | (with_reducible refine Kd.C_alloc ?_ _) | (with_reducible refine Kd.C_drewN ?_ _) | (with_reducible refine Kd.C_drew ?_))); (case side4 => exact HC1_5.out); rintro e w' ⟨rfl, ⟨nd, rfl⟩⟩; refine ⟨_, rfl, ?_⟩))
    go_ret
    exact ⟨by first | rfl | (simp [errW_none, errW_some] <;> rfl) | (simp [*, errW_none, errW_some] <;> rfl), by repeat (first | (with_reducible first | exact HB.out | apply below_alloc | apply pw_below_drewN | apply below_drew1 | refine below_set ?_ GE121.out | refine below_set ?_ GE122.out) | exact HB.out)⟩

end Go.Proofs.Ytackionaiaikdaa.GE
