-- Written for this claim by a program of this session (wip/tools/p2.py).
import Derived.Test.YtaimjacpenofpaaDoorGCx0
import Derived.Test.YtaimjacpenofpaaDoorGCx12
namespace Go.Proofs.YtaimjacpenofpaaDoor.GC
open Go.RowKit Go.Proofs.YtaimjacpenofpaaDoorW.PrintWords Go.Proofs.YtaimjacpenofpaaDoorW.PrintLast Go.Proofs.YtaimjacpenofpaaDoorW.PrintMore
attribute [local go_sem] max2_int min2_int max_two min_two max_three min_three max_four min_four   -- for this text's walks alone
set_option linter.unusedVariables false
set_option linter.unusedSimpArgs false

/-! ### rosterref12_Equal: function 18 -/
def rosterref12_Equal.l0 : Nat → List (S38) → List (S38) → Int → Option (Bool)
 | 0, _, _, _ => none
 | k + 1, x0, x1, x5 => if x5 < (x0.length : Int) then (if 0 ≤ x5 then (if x5 < (x1.length : Int) then ((rosterref12_sameNode.f k ((rd_T38 x0 x5).f0) ((rd_T38 x0 x5).f1) ((rd_T38 x0 x5).f2) ((rd_T38 x0 x5).f3) ((rd_T38 x0 x5).f4.f0) ((rd_T38 x0 x5).f4.f1) ((rd_T38 x0 x5).f4.f2) ((rd_T38 x0 x5).f5) ((rd_T38 x0 x5).f6) ((rd_T38 x1 x5).f0) ((rd_T38 x1 x5).f1) ((rd_T38 x1 x5).f2) ((rd_T38 x1 x5).f3) ((rd_T38 x1 x5).f4.f0) ((rd_T38 x1 x5).f4.f1) ((rd_T38 x1 x5).f4.f2) ((rd_T38 x1 x5).f5) ((rd_T38 x1 x5).f6)).bind fun t263 => (if t263 = true then (rosterref12_Equal.l0 k x0 x1 (wrap64 (x5 + 1))) else (some false))) else (none)) else (none)) else (some true)
def rosterref12_Equal.f (k : Nat) (l0 : List (S38)) (l1 : List (S38)) : Option (Bool) := if (l0.length : Int) = (l1.length : Int) then (rosterref12_Equal.l0 k l0 l1 0) else (some false)
theorem rosterref12_Equal.mono_l : ∀ k, (∀ y0 y1 y2, LeO (rosterref12_Equal.l0 k y0 y1 y2) (rosterref12_Equal.l0 (k + 1) y0 y1 y2))
 | 0 => fun _ _ _ r h => by simp [rosterref12_Equal.l0] at h
 | k + 1 => by
  have ih0 := rosterref12_Equal.mono_l k
  ·intro y0 y1 y2
   unfold rosterref12_Equal.l0
   repeat' first
   | (with_reducible exact ih0 _ _ _)
   | (with_reducible exact rosterref12_sameNode.mono _ _ _ _ _ _ _ _ _ _ _ _ _ _ _ _ _ _ _)
   | (with_reducible exact LeO.refl _)
   | (with_reducible exact LeO.none _)
   | (with_reducible refine LeO.ite ?_ ?_)
   | (with_reducible refine LeO.bind ?_ (fun _ => ?_))
   | exact ih0 _ _ _
   | exact rosterref12_sameNode.mono _ _ _ _ _ _ _ _ _ _ _ _ _ _ _ _ _ _ _
   | exact LeO.none _
   | refine LeO.ite ?_ ?_
   | refine LeO.bind ?_ (fun _ => ?_)
theorem rosterref12_Equal.mono : ∀ a0 a1 k, LeO (rosterref12_Equal.f k a0 a1) (rosterref12_Equal.f (k + 1) a0 a1) := by
 intro a0 a1 k
 have ih0 := rosterref12_Equal.mono_l k
 unfold rosterref12_Equal.f
 repeat' first
   | (with_reducible exact ih0 _ _ _)
   | (with_reducible exact rosterref12_sameNode.mono _ _ _ _ _ _ _ _ _ _ _ _ _ _ _ _ _ _ _)
   | (with_reducible exact LeO.refl _)
   | (with_reducible exact LeO.none _)
   | (with_reducible refine LeO.ite ?_ ?_)
   | (with_reducible refine LeO.bind ?_ (fun _ => ?_))
   | exact ih0 _ _ _
   | exact rosterref12_sameNode.mono _ _ _ _ _ _ _ _ _ _ _ _ _ _ _ _ _ _ _
   | exact LeO.none _
   | refine LeO.ite ?_ ?_
   | refine LeO.bind ?_ (fun _ => ?_)
def rosterref12_Equal.T6 : Bool × List (List Nat × List Nat) := (true, [([], []), ([], []), ([0, 1], [0, 1]), ([2], [2]), ([], []), ([], []), ([4, 5], [4, 5]), ([6], [6]), ([3, 7], [3, 7]), ([8], [8])])
def rosterref12_Equal.B6 : List Nat := [0, 0, 3, 7, 0, 0, 48, 112, 255, 511]
theorem rosterref12_Equal.tab6 : rtab .any (opsOf Tryd.f18 6) = rosterref12_Equal.T6 := by kernel_rfl
theorem rosterref12_Equal.bits6 : waitsOk rosterref12_Equal.T6.2 rosterref12_Equal.B6 = true := by kernel_rfl
set_option maxHeartbeats 8000000 in
set_option maxRecDepth 100000 in
theorem rosterref12_Equal.calls (k : Nat) (A0 : Option Addr) (c0 : Nat) (l0 : List (S38)) (A1 : Option Addr) (c1 : Nat) (l1 : List (S38)) (r : Bool) (w : World) (hr0 : Kd.C k38 w A0 l0.length l0) (hc0 : l0.length ≤ c0) (hr1 : Kd.C k38 w A1 l1.length l1) (hc1 : l1.length ≤ c1) (h : rosterref12_Equal.f k l0 l1 = some r) :
  Calls Tryd.prog 18 #[.slice A0 l0.length c0, .slice A1 l1.length c1] w fun e w' => e = .returned (.bool r) ∧ Below w.heap.size w w' := by
 have hu38 := Tryd.underlying38
 have HR0 := Aside0.mk hr0
 have HC0 := Aside0.mk hc0
 clear hr0 hc0
 have HR1 := Aside0.mk hr1
 have HC1 := Aside0.mk hc1
 clear hr1 hc1
 have HB := Aside0.mk (Below.refl w.heap.size w)
 have H : (if (l0.length : Int) = (l1.length : Int) then (rosterref12_Equal.l0 k l0 l1 0) else (some false)) = some r := h
 clear h
 by_cases c3 : (l0.length : Int) = (l1.length : Int)
 ·rw [if_pos c3] at H
  have c3b0 : ((l0.length : Int) == (l1.length : Int)) = true := beq_iff_eq.mpr c3
  have c3b1 : ((l0.length : Int) != (l1.length : Int)) = false := bne_eq_false_iff_eq.mpr c3
  have c3b2 : (l0.length == l1.length) = true := by first | simpa using c3 | (simp at c3 ⊢; omega)
  clear c3
  have H' := Aside0.mk H
  clear H
  go_enter Tryd.func18, Tryd.ntmps18
  go_wp2
  go_loopg [5] k (fun kq v5 w' => ∃ (x5_1 : Int), v5 = .int .i64 x5_1 ∧ Aside0 (rosterref12_Equal.l0 kq l0 l1 x5_1 = some r) ∧ Aside0 (kq ≤ k) ∧ Aside0 (Below w.heap.size w w'))
  case atStart => exact ⟨(0), (by first | rfl | (simp; done) | (simp [*]; done) | (simp [isEmpty_ne_]; done)), H', ⟨Nat.le_refl _⟩, ⟨by repeat (first | (with_reducible first | exact HB.out | apply below_alloc | apply pw_below_drewN | apply below_drew1) | exact HB.out)⟩⟩
  case round =>
   clear H'
   try clear c1
   try clear p2
   try clear c3
   try clear c3b0
   try clear c3b1
   try clear c3b2
   obtain ⟨x5_1, rfl, HA, HK1, HB⟩ := hrel
   cases gk with
   | zero => exact absurd HA.out (by simp [rosterref12_Equal.l0])
   | succ k1 =>
    have H := HA.out
    clear HA
    simp only [rosterref12_Equal.l0] at H
    by_cases c4 : x5_1 < (l0.length : Int)
    ·rw [if_pos c4] at H
     have c4b0 : decide (x5_1 < (l0.length : Int)) = true := decide_eq_true c4
     clear c4
     by_cases c5 : 0 ≤ x5_1
     ·rw [if_pos c5] at H
      have c5b0 : decide (0 ≤ x5_1) = true := decide_eq_true c5
      clear c5
      by_cases c6 : x5_1 < (l1.length : Int)
      ·rw [if_pos c6] at H
       have c6b0 : decide (x5_1 < (l1.length : Int)) = true := decide_eq_true c6
       clear c6
       replace H := Option.bind_eq_some_iff.mp H
       obtain ⟨t263, A70, H⟩ := H
       replace H : (if t263 = true then (rosterref12_Equal.l0 k1 l0 l1 (wrap64 (x5_1 + 1))) else (some false)) = some r := H
       have A7 := Aside0.mk A70
       clear A70
       by_cases c8 : t263 = true
       ·subst c8
        have H1 : (rosterref12_Equal.l0 k1 l0 l1 (wrap64 (x5_1 + 1))) = some r := by rw [if_pos rfl] at H; exact H
        clear H
        have H := H1
        clear H1
        have H' := Aside0.mk H
        clear H
        try go_wp2
        have n0_ := Aside0.mk (below_drew1 HB.out)
        clear HB
        have HB := n0_
        clear n0_
        have p261 : 0 ≤ (x5_1 : Int) := of_decide_eq_true (by first | (with_reducible assumption) | assumption)
        have q261 : x5_1 < (l0.length : Int) := of_decide_eq_true (by first | (with_reducible assumption) | assumption)
        obtain ⟨ad261, A261_5, c261_5, e261, hx261_0, hx261_1, hx261_2, hx261_3, hx261_4, hx261_5, hx261_6, hx261_7, hx261_8, hl261_5, hi261_5⟩ := at_T38 HR0.out x5_1 p261 q261
        have hw261_8 := hx261_8
        have hw261_7 := hx261_7
        have hw261_6 := hx261_6
        have hw261_5 := hx261_5
        have hw261_4 := hx261_4
        have hw261_3 := hx261_3
        have hw261_2 := hx261_2
        have hw261_1 := hx261_1
        have hw261_0 := hx261_0
        cases e261
        replace hx261_0 := cellB_ HB.out hx261_0
        replace hx261_1 := cellB_ HB.out hx261_1
        replace hx261_2 := cellB_ HB.out hx261_2
        replace hx261_3 := cellB_ HB.out hx261_3
        replace hx261_4 := cellB_ HB.out hx261_4
        replace hx261_5 := cellB_ HB.out hx261_5
        replace hx261_6 := cellB_ HB.out hx261_6
        replace hx261_7 := cellB_ HB.out hx261_7
        replace hx261_8 := cellB_ HB.out hx261_8
        have HR261_5 := Aside0.mk hi261_5
        have HC261_5 := Aside0.mk hl261_5
        clear hi261_5 hl261_5
        replace p261 := eq_true p261
        replace q261 := eq_true q261
        have p262 : 0 ≤ (x5_1 : Int) := of_decide_eq_true (by first | (with_reducible assumption) | assumption)
        have q262 : x5_1 < (l1.length : Int) := of_decide_eq_true (by first | (with_reducible assumption) | assumption)
        obtain ⟨ad262, A262_5, c262_5, e262, hx262_0, hx262_1, hx262_2, hx262_3, hx262_4, hx262_5, hx262_6, hx262_7, hx262_8, hl262_5, hi262_5⟩ := at_T38 HR1.out x5_1 p262 q262
        have hw262_8 := hx262_8
        have hw262_7 := hx262_7
        have hw262_6 := hx262_6
        have hw262_5 := hx262_5
        have hw262_4 := hx262_4
        have hw262_3 := hx262_3
        have hw262_2 := hx262_2
        have hw262_1 := hx262_1
        have hw262_0 := hx262_0
        cases e262
        replace hx262_0 := cellB_ HB.out hx262_0
        replace hx262_1 := cellB_ HB.out hx262_1
        replace hx262_2 := cellB_ HB.out hx262_2
        replace hx262_3 := cellB_ HB.out hx262_3
        replace hx262_4 := cellB_ HB.out hx262_4
        replace hx262_5 := cellB_ HB.out hx262_5
        replace hx262_6 := cellB_ HB.out hx262_6
        replace hx262_7 := cellB_ HB.out hx262_7
        replace hx262_8 := cellB_ HB.out hx262_8
        have HR262_5 := Aside0.mk hi262_5
        have HC262_5 := Aside0.mk hl262_5
        clear hi262_5 hl262_5
        replace p262 := eq_true p262
        replace q262 := eq_true q262
        refine start_ (n := 10) (S := fun w' => w'.cell? (ad261.add ((x5_1).toNat * 9)) = some (.int .i64 ((rd_T38 l0 x5_1).f0)) ∧ w'.cell? ⟨(ad261.add ((x5_1).toNat * 9)).block, (ad261.add ((x5_1).toNat * 9)).off + 1, none⟩ = some (.int .i64 ((rd_T38 l0 x5_1).f1)) ∧ w'.cell? ⟨(ad261.add ((x5_1).toNat * 9)).block, (ad261.add ((x5_1).toNat * 9)).off + 2, none⟩ = some (.string ((rd_T38 l0 x5_1).f2)) ∧ w'.cell? ⟨(ad261.add ((x5_1).toNat * 9)).block, (ad261.add ((x5_1).toNat * 9)).off + 3, none⟩ = some (.string ((rd_T38 l0 x5_1).f3)) ∧ w'.cell? ⟨(ad261.add ((x5_1).toNat * 9)).block, (ad261.add ((x5_1).toNat * 9)).off + 4, none⟩ = some (.string ((rd_T38 l0 x5_1).f4.f0)) ∧ w'.cell? ⟨(ad261.add ((x5_1).toNat * 9)).block, (ad261.add ((x5_1).toNat * 9)).off + 5, none⟩ = some (.slice A261_5 ((rd_T38 l0 x5_1).f4.f1).length c261_5) ∧ w'.cell? ⟨(ad261.add ((x5_1).toNat * 9)).block, (ad261.add ((x5_1).toNat * 9)).off + 6, none⟩ = some (.string ((rd_T38 l0 x5_1).f4.f2)) ∧ w'.cell? ⟨(ad261.add ((x5_1).toNat * 9)).block, (ad261.add ((x5_1).toNat * 9)).off + 7, none⟩ = some (.string ((rd_T38 l0 x5_1).f5)) ∧ w'.cell? ⟨(ad261.add ((x5_1).toNat * 9)).block, (ad261.add ((x5_1).toNat * 9)).off + 8, none⟩ = some (.bool ((rd_T38 l0 x5_1).f6)) ∧ w'.cell? (ad262.add ((x5_1).toNat * 9)) = some (.int .i64 ((rd_T38 l1 x5_1).f0)) ∧ w'.cell? ⟨(ad262.add ((x5_1).toNat * 9)).block, (ad262.add ((x5_1).toNat * 9)).off + 1, none⟩ = some (.int .i64 ((rd_T38 l1 x5_1).f1)) ∧ w'.cell? ⟨(ad262.add ((x5_1).toNat * 9)).block, (ad262.add ((x5_1).toNat * 9)).off + 2, none⟩ = some (.string ((rd_T38 l1 x5_1).f2)) ∧ w'.cell? ⟨(ad262.add ((x5_1).toNat * 9)).block, (ad262.add ((x5_1).toNat * 9)).off + 3, none⟩ = some (.string ((rd_T38 l1 x5_1).f3)) ∧ w'.cell? ⟨(ad262.add ((x5_1).toNat * 9)).block, (ad262.add ((x5_1).toNat * 9)).off + 4, none⟩ = some (.string ((rd_T38 l1 x5_1).f4.f0)) ∧ w'.cell? ⟨(ad262.add ((x5_1).toNat * 9)).block, (ad262.add ((x5_1).toNat * 9)).off + 5, none⟩ = some (.slice A262_5 ((rd_T38 l1 x5_1).f4.f1).length c262_5) ∧ w'.cell? ⟨(ad262.add ((x5_1).toNat * 9)).block, (ad262.add ((x5_1).toNat * 9)).off + 6, none⟩ = some (.string ((rd_T38 l1 x5_1).f4.f2)) ∧ w'.cell? ⟨(ad262.add ((x5_1).toNat * 9)).block, (ad262.add ((x5_1).toNat * 9)).off + 7, none⟩ = some (.string ((rd_T38 l1 x5_1).f5)) ∧ w'.cell? ⟨(ad262.add ((x5_1).toNat * 9)).block, (ad262.add ((x5_1).toNat * 9)).off + 8, none⟩ = some (.bool ((rd_T38 l1 x5_1).f6))) (ds := []) #[false, false, false, false, false, false, false, false, false, false] (by kernel_rfl) rfl rfl ⟨((HB.out.cell (World.block_lt_of_cell? w _ hw261_0)).trans hw261_0), ((HB.out.cell (World.block_lt_of_cell? w _ hw261_1)).trans hw261_1), ((HB.out.cell (World.block_lt_of_cell? w _ hw261_2)).trans hw261_2), ((HB.out.cell (World.block_lt_of_cell? w _ hw261_3)).trans hw261_3), ((HB.out.cell (World.block_lt_of_cell? w _ hw261_4)).trans hw261_4), ((HB.out.cell (World.block_lt_of_cell? w _ hw261_5)).trans hw261_5), ((HB.out.cell (World.block_lt_of_cell? w _ hw261_6)).trans hw261_6), ((HB.out.cell (World.block_lt_of_cell? w _ hw261_7)).trans hw261_7), ((HB.out.cell (World.block_lt_of_cell? w _ hw261_8)).trans hw261_8), ((HB.out.cell (World.block_lt_of_cell? w _ hw262_0)).trans hw262_0), ((HB.out.cell (World.block_lt_of_cell? w _ hw262_1)).trans hw262_1), ((HB.out.cell (World.block_lt_of_cell? w _ hw262_2)).trans hw262_2), ((HB.out.cell (World.block_lt_of_cell? w _ hw262_3)).trans hw262_3), ((HB.out.cell (World.block_lt_of_cell? w _ hw262_4)).trans hw262_4), ((HB.out.cell (World.block_lt_of_cell? w _ hw262_5)).trans hw262_5), ((HB.out.cell (World.block_lt_of_cell? w _ hw262_6)).trans hw262_6), ((HB.out.cell (World.block_lt_of_cell? w _ hw262_7)).trans hw262_7), ((HB.out.cell (World.block_lt_of_cell? w _ hw262_8)).trans hw262_8)⟩ (fun hHeld => ?_); refine with_tabW rosterref12_Equal.tab6 rosterref12_Equal.bits6 (fun HT_ HW_ => ?_)
        generalize wr.drew = w9 at HB HR261_5 HR262_5 hx261_0 hx261_1 hx261_2 hx261_3 hx261_4 hx261_5 hx261_6 hx261_7 hx261_8 hx262_0 hx262_1 hx262_2 hx262_3 hx262_4 hx262_5 hx262_6 hx262_7 hx262_8 hHeld ⊢
        refine pure_ (i := 0) (N := some 17) (v := ?_) (a' := ?_) #[true, false, false, false, false, false, false, false, false, false] rfl rfl (any_of HT_.out (by kernel_rfl)) (fun _ _ _ h => h) (Or.inl ⟨by rfl, ?_⟩) ?_ ?_
        rotate_left
        ·intro w'
         go_simp
         with_reducible rfl
        rotate_left
        ·simp only [Act.put, List.setIfInBounds_toArray, List.set_cons_zero, List.set_cons_succ, i64_w, i32_w]
         rfl
        refine pure_ (i := 1) (N := some 18) (v := ?_) (a' := ?_) #[true, true, false, false, false, false, false, false, false, false] rfl rfl (any_of HT_.out (by kernel_rfl)) (fun _ _ _ h => h) (Or.inl ⟨by rfl, ?_⟩) ?_ ?_
        rotate_left
        ·intro w'
         go_simp
         with_reducible rfl
        rotate_left
        ·simp only [Act.put, List.setIfInBounds_toArray, List.set_cons_zero, List.set_cons_succ, i64_w, i32_w]
         rfl
        refine pure_ (i := 2) (N := some 19) (v := ?_) (a' := ?_) #[true, true, true, false, false, false, false, false, false, false] rfl rfl (any_of HT_.out (by kernel_rfl)) (fun _ _ _ h => h) (Or.inl ⟨by rfl, ?_⟩) ?_ ?_
        rotate_left
        ·intro w'
         go_simp
         with_reducible rfl
        rotate_left
        ·simp only [Act.put, List.setIfInBounds_toArray, List.set_cons_zero, List.set_cons_succ, i64_w, i32_w]
         rfl
        refine pure_ (i := 4) (N := some 21) (v := ?_) (a' := ?_) #[true, true, true, false, true, false, false, false, false, false] rfl rfl (any_of HT_.out (by kernel_rfl)) (fun _ _ _ h => h) (Or.inl ⟨by rfl, ?_⟩) ?_ ?_
        rotate_left
        ·intro w'
         go_simp
         with_reducible rfl
        rotate_left
        ·simp only [Act.put, List.setIfInBounds_toArray, List.set_cons_zero, List.set_cons_succ, i64_w, i32_w]
         rfl
        refine pure_ (i := 5) (N := some 22) (v := ?_) (a' := ?_) #[true, true, true, false, true, true, false, false, false, false] rfl rfl (any_of HT_.out (by kernel_rfl)) (fun _ _ _ h => h) (Or.inl ⟨by rfl, ?_⟩) ?_ ?_
        rotate_left
        ·intro w'
         go_simp
         with_reducible rfl
        rotate_left
        ·simp only [Act.put, List.setIfInBounds_toArray, List.set_cons_zero, List.set_cons_succ, i64_w, i32_w]
         rfl
        refine pure_ (i := 6) (N := some 23) (v := ?_) (a' := ?_) #[true, true, true, false, true, true, true, false, false, false] rfl rfl (any_of HT_.out (by kernel_rfl)) (fun _ _ _ h => h) (Or.inl ⟨by rfl, ?_⟩) ?_ ?_
        rotate_left
        ·intro w'
         go_simp
         with_reducible rfl
        rotate_left
        ·simp only [Act.put, List.setIfInBounds_toArray, List.set_cons_zero, List.set_cons_succ, i64_w, i32_w]
         rfl
        refine take_ (i := 3) (N := some 20) (v := ?_) (a' := ?_) #[true, true, true, true, true, true, true, false, false, false] rfl rfl (take_ofW HT_.out HW_.out (by kernel_rfl)) (fun _ _ _ h => h) (Or.inl ⟨by rfl, ?_⟩) hHeld ?_ ?_
        rotate_left
        ·rintro w' ⟨s0, s1, s2, s3, s4, s5, s6, s7, s8, s9, s10, s11, s12, s13, s14, s15, s16, s17⟩
         go_simp
         with_reducible rfl
        rotate_left
        ·simp only [Act.put, List.setIfInBounds_toArray, List.set_cons_zero, List.set_cons_succ, i64_w, i32_w]
         rfl
        refine take_ (i := 7) (N := some 24) (v := ?_) (a' := ?_) #[true, true, true, true, true, true, true, true, false, false] rfl rfl (take_ofW HT_.out HW_.out (by kernel_rfl)) (fun _ _ _ h => h) (Or.inl ⟨by rfl, ?_⟩) hHeld ?_ ?_
        rotate_left
        ·rintro w' ⟨s0, s1, s2, s3, s4, s5, s6, s7, s8, s9, s10, s11, s12, s13, s14, s15, s16, s17⟩
         go_simp
         with_reducible rfl
        rotate_left
        ·simp only [Act.put, List.setIfInBounds_toArray, List.set_cons_zero, List.set_cons_succ, i64_w, i32_w]
         rfl
        refine one_ (i := 8) (N := some 25) #[true, true, true, true, true, true, true, true, true, false] rfl rfl (one_of HT_.out (by kernel_rfl)) (by decide) (fun K hK => ?_)
        refine goes_ Tryd.func26 (by kernel_rfl) rfl #[.agg #[.int .i64 ((rd_T38 l0 x5_1).f0), .int .i64 ((rd_T38 l0 x5_1).f1), .string ((rd_T38 l0 x5_1).f2), .string ((rd_T38 l0 x5_1).f3), .string ((rd_T38 l0 x5_1).f4.f0), .slice A261_5 ((rd_T38 l0 x5_1).f4.f1).length c261_5, .string ((rd_T38 l0 x5_1).f4.f2), .string ((rd_T38 l0 x5_1).f5), .bool ((rd_T38 l0 x5_1).f6)], .agg #[.int .i64 ((rd_T38 l1 x5_1).f0), .int .i64 ((rd_T38 l1 x5_1).f1), .string ((rd_T38 l1 x5_1).f2), .string ((rd_T38 l1 x5_1).f3), .string ((rd_T38 l1 x5_1).f4.f0), .slice A262_5 ((rd_T38 l1 x5_1).f4.f1).length c262_5, .string ((rd_T38 l1 x5_1).f4.f2), .string ((rd_T38 l1 x5_1).f5), .bool ((rd_T38 l1 x5_1).f6)]] (by rfl) rfl rfl (by (try simp only [List.map_toArray, List.map_cons, List.map_nil]); first | done | rfl | (simp only [List.length_drop, List.length_take]; rfl) | exact congrArg (fun n_ : Nat => #[Value.slice _ n_ _]) (Eq.trans (Aside0.out (by assumption)) (Eq.symm (Aside0.out (by assumption)))) | exact congrArg (fun n_ : Nat => #[Value.slice _ n_ _, Value.slice _ _ _]) (Eq.trans (Aside0.out (by assumption)) (Eq.symm (Aside0.out (by assumption))))) ?_
        with_reducible refine (rosterref12_sameNode.calls k1 ((rd_T38 l0 x5_1).f0) ((rd_T38 l0 x5_1).f1) ((rd_T38 l0 x5_1).f2) ((rd_T38 l0 x5_1).f3) ((rd_T38 l0 x5_1).f4.f0) _ _ ((rd_T38 l0 x5_1).f4.f1) ((rd_T38 l0 x5_1).f4.f2) ((rd_T38 l0 x5_1).f5) ((rd_T38 l0 x5_1).f6) ((rd_T38 l1 x5_1).f0) ((rd_T38 l1 x5_1).f1) ((rd_T38 l1 x5_1).f2) ((rd_T38 l1 x5_1).f3) ((rd_T38 l1 x5_1).f4.f0) _ _ ((rd_T38 l1 x5_1).f4.f1) ((rd_T38 l1 x5_1).f4.f2) ((rd_T38 l1 x5_1).f5) ((rd_T38 l1 x5_1).f6) true _ ?side1 ?side2 ?side3 ?side4 A7.out).mono ?_
        (case side1 => repeat (first | exact (Kd.C_below HR261_5.out HB.out) | exact (Kd.C_below (Aside0.out (by assumption)) HB.out) | (with_reducible refine Kd.C_alloc ?_ _) | (with_reducible refine Kd.C_drewN ?_ _) | (with_reducible refine Kd.C_drew ?_)))
        (case side2 => first | exact HC261_5.out | exact Aside0.out (by assumption))
        (case side3 => repeat (first | exact (Kd.C_below HR262_5.out HB.out) | exact (Kd.C_below (Aside0.out (by assumption)) HB.out) | (with_reducible refine Kd.C_alloc ?_ _) | (with_reducible refine Kd.C_drewN ?_ _) | (with_reducible refine Kd.C_drew ?_)))
        (case side4 => first | exact HC262_5.out | exact Aside0.out (by assumption))
        rintro e w10 ⟨rfl, hb⟩
        refine ⟨_, rfl, ?_⟩
        have n0_ := Aside0.mk (below_step (by repeat (first | (with_reducible first | exact HB.out | apply below_alloc | apply pw_below_drewN | apply below_drew1) | exact HB.out)) hb)
        clear HB
        have HB := n0_
        clear n0_
        (try clear hb)
        (try clear hb2)
        (try clear hk)
        (try clear hi)
        refine hK.out _ _ ⟨((HB.out.cell (World.block_lt_of_cell? w _ hw261_0)).trans hw261_0), ((HB.out.cell (World.block_lt_of_cell? w _ hw261_1)).trans hw261_1), ((HB.out.cell (World.block_lt_of_cell? w _ hw261_2)).trans hw261_2), ((HB.out.cell (World.block_lt_of_cell? w _ hw261_3)).trans hw261_3), ((HB.out.cell (World.block_lt_of_cell? w _ hw261_4)).trans hw261_4), ((HB.out.cell (World.block_lt_of_cell? w _ hw261_5)).trans hw261_5), ((HB.out.cell (World.block_lt_of_cell? w _ hw261_6)).trans hw261_6), ((HB.out.cell (World.block_lt_of_cell? w _ hw261_7)).trans hw261_7), ((HB.out.cell (World.block_lt_of_cell? w _ hw261_8)).trans hw261_8), ((HB.out.cell (World.block_lt_of_cell? w _ hw262_0)).trans hw262_0), ((HB.out.cell (World.block_lt_of_cell? w _ hw262_1)).trans hw262_1), ((HB.out.cell (World.block_lt_of_cell? w _ hw262_2)).trans hw262_2), ((HB.out.cell (World.block_lt_of_cell? w _ hw262_3)).trans hw262_3), ((HB.out.cell (World.block_lt_of_cell? w _ hw262_4)).trans hw262_4), ((HB.out.cell (World.block_lt_of_cell? w _ hw262_5)).trans hw262_5), ((HB.out.cell (World.block_lt_of_cell? w _ hw262_6)).trans hw262_6), ((HB.out.cell (World.block_lt_of_cell? w _ hw262_7)).trans hw262_7), ((HB.out.cell (World.block_lt_of_cell? w _ hw262_8)).trans hw262_8)⟩ (fun hHeld => ?_)
        clear hK K
        refine norm_ (a' := ?_) ?_ ?_
        rotate_left
        ·show Act.put _ (some 25) _ = _
         simp only [Act.put, List.setIfInBounds_toArray, List.set_cons_zero, List.set_cons_succ, i64_w, i32_w]
         rfl
        refine pure_ (i := 9) (N := some 26) (v := ?_) (a' := ?_) #[true, true, true, true, true, true, true, true, true, true] rfl rfl (any_of HT_.out (by kernel_rfl)) (fun _ _ _ h => h) (Or.inl ⟨by rfl, ?_⟩) ?_ ?_
        rotate_left
        ·intro w'
         go_simp
         with_reducible rfl
        rotate_left
        ·simp only [Act.put, List.setIfInBounds_toArray, List.set_cons_zero, List.set_cons_succ, i64_w, i32_w]
         rfl
        refine done_ (done_of HT_.out (by kernel_rfl)) ?_
        try go_wp2
        go_roundg k1
        case measure => have := HK1.out; omega
        case rel => exact ⟨(wrap64 (x5_1 + 1)), (by first | rfl | (simp; done) | (simp [*]; done) | (simp [isEmpty_ne_]; done)), H', ⟨by have := HK1.out; omega⟩, ⟨by repeat (first | (with_reducible first | exact HB.out | apply below_alloc | apply pw_below_drewN | apply below_drew1) | exact HB.out)⟩⟩
       ·replace c8 := Bool.eq_false_iff.mpr c8
        subst c8
        have H1 : (some false) = some r := by rw [if_neg (show ¬ (false = true) by decide)] at H; exact H
        clear H
        have H := H1
        clear H1
        obtain rfl := Option.some.inj H
        try go_wp2
        have n0_ := Aside0.mk (below_drew1 HB.out)
        clear HB
        have HB := n0_
        clear n0_
        have p261 : 0 ≤ (x5_1 : Int) := of_decide_eq_true (by first | (with_reducible assumption) | assumption)
        have q261 : x5_1 < (l0.length : Int) := of_decide_eq_true (by first | (with_reducible assumption) | assumption)
        obtain ⟨ad261, A261_5, c261_5, e261, hx261_0, hx261_1, hx261_2, hx261_3, hx261_4, hx261_5, hx261_6, hx261_7, hx261_8, hl261_5, hi261_5⟩ := at_T38 HR0.out x5_1 p261 q261
        have hw261_8 := hx261_8
        have hw261_7 := hx261_7
        have hw261_6 := hx261_6
        have hw261_5 := hx261_5
        have hw261_4 := hx261_4
        have hw261_3 := hx261_3
        have hw261_2 := hx261_2
        have hw261_1 := hx261_1
        have hw261_0 := hx261_0
        cases e261
        replace hx261_0 := cellB_ HB.out hx261_0
        replace hx261_1 := cellB_ HB.out hx261_1
        replace hx261_2 := cellB_ HB.out hx261_2
        replace hx261_3 := cellB_ HB.out hx261_3
        replace hx261_4 := cellB_ HB.out hx261_4
        replace hx261_5 := cellB_ HB.out hx261_5
        replace hx261_6 := cellB_ HB.out hx261_6
        replace hx261_7 := cellB_ HB.out hx261_7
        replace hx261_8 := cellB_ HB.out hx261_8
        have HR261_5 := Aside0.mk hi261_5
        have HC261_5 := Aside0.mk hl261_5
        clear hi261_5 hl261_5
        replace p261 := eq_true p261
        replace q261 := eq_true q261
        have p262 : 0 ≤ (x5_1 : Int) := of_decide_eq_true (by first | (with_reducible assumption) | assumption)
        have q262 : x5_1 < (l1.length : Int) := of_decide_eq_true (by first | (with_reducible assumption) | assumption)
        obtain ⟨ad262, A262_5, c262_5, e262, hx262_0, hx262_1, hx262_2, hx262_3, hx262_4, hx262_5, hx262_6, hx262_7, hx262_8, hl262_5, hi262_5⟩ := at_T38 HR1.out x5_1 p262 q262
        have hw262_8 := hx262_8
        have hw262_7 := hx262_7
        have hw262_6 := hx262_6
        have hw262_5 := hx262_5
        have hw262_4 := hx262_4
        have hw262_3 := hx262_3
        have hw262_2 := hx262_2
        have hw262_1 := hx262_1
        have hw262_0 := hx262_0
        cases e262
        replace hx262_0 := cellB_ HB.out hx262_0
        replace hx262_1 := cellB_ HB.out hx262_1
        replace hx262_2 := cellB_ HB.out hx262_2
        replace hx262_3 := cellB_ HB.out hx262_3
        replace hx262_4 := cellB_ HB.out hx262_4
        replace hx262_5 := cellB_ HB.out hx262_5
        replace hx262_6 := cellB_ HB.out hx262_6
        replace hx262_7 := cellB_ HB.out hx262_7
        replace hx262_8 := cellB_ HB.out hx262_8
        have HR262_5 := Aside0.mk hi262_5
        have HC262_5 := Aside0.mk hl262_5
        clear hi262_5 hl262_5
        replace p262 := eq_true p262
        replace q262 := eq_true q262
        refine start_ (n := 10) (S := fun w' => w'.cell? (ad261.add ((x5_1).toNat * 9)) = some (.int .i64 ((rd_T38 l0 x5_1).f0)) ∧ w'.cell? ⟨(ad261.add ((x5_1).toNat * 9)).block, (ad261.add ((x5_1).toNat * 9)).off + 1, none⟩ = some (.int .i64 ((rd_T38 l0 x5_1).f1)) ∧ w'.cell? ⟨(ad261.add ((x5_1).toNat * 9)).block, (ad261.add ((x5_1).toNat * 9)).off + 2, none⟩ = some (.string ((rd_T38 l0 x5_1).f2)) ∧ w'.cell? ⟨(ad261.add ((x5_1).toNat * 9)).block, (ad261.add ((x5_1).toNat * 9)).off + 3, none⟩ = some (.string ((rd_T38 l0 x5_1).f3)) ∧ w'.cell? ⟨(ad261.add ((x5_1).toNat * 9)).block, (ad261.add ((x5_1).toNat * 9)).off + 4, none⟩ = some (.string ((rd_T38 l0 x5_1).f4.f0)) ∧ w'.cell? ⟨(ad261.add ((x5_1).toNat * 9)).block, (ad261.add ((x5_1).toNat * 9)).off + 5, none⟩ = some (.slice A261_5 ((rd_T38 l0 x5_1).f4.f1).length c261_5) ∧ w'.cell? ⟨(ad261.add ((x5_1).toNat * 9)).block, (ad261.add ((x5_1).toNat * 9)).off + 6, none⟩ = some (.string ((rd_T38 l0 x5_1).f4.f2)) ∧ w'.cell? ⟨(ad261.add ((x5_1).toNat * 9)).block, (ad261.add ((x5_1).toNat * 9)).off + 7, none⟩ = some (.string ((rd_T38 l0 x5_1).f5)) ∧ w'.cell? ⟨(ad261.add ((x5_1).toNat * 9)).block, (ad261.add ((x5_1).toNat * 9)).off + 8, none⟩ = some (.bool ((rd_T38 l0 x5_1).f6)) ∧ w'.cell? (ad262.add ((x5_1).toNat * 9)) = some (.int .i64 ((rd_T38 l1 x5_1).f0)) ∧ w'.cell? ⟨(ad262.add ((x5_1).toNat * 9)).block, (ad262.add ((x5_1).toNat * 9)).off + 1, none⟩ = some (.int .i64 ((rd_T38 l1 x5_1).f1)) ∧ w'.cell? ⟨(ad262.add ((x5_1).toNat * 9)).block, (ad262.add ((x5_1).toNat * 9)).off + 2, none⟩ = some (.string ((rd_T38 l1 x5_1).f2)) ∧ w'.cell? ⟨(ad262.add ((x5_1).toNat * 9)).block, (ad262.add ((x5_1).toNat * 9)).off + 3, none⟩ = some (.string ((rd_T38 l1 x5_1).f3)) ∧ w'.cell? ⟨(ad262.add ((x5_1).toNat * 9)).block, (ad262.add ((x5_1).toNat * 9)).off + 4, none⟩ = some (.string ((rd_T38 l1 x5_1).f4.f0)) ∧ w'.cell? ⟨(ad262.add ((x5_1).toNat * 9)).block, (ad262.add ((x5_1).toNat * 9)).off + 5, none⟩ = some (.slice A262_5 ((rd_T38 l1 x5_1).f4.f1).length c262_5) ∧ w'.cell? ⟨(ad262.add ((x5_1).toNat * 9)).block, (ad262.add ((x5_1).toNat * 9)).off + 6, none⟩ = some (.string ((rd_T38 l1 x5_1).f4.f2)) ∧ w'.cell? ⟨(ad262.add ((x5_1).toNat * 9)).block, (ad262.add ((x5_1).toNat * 9)).off + 7, none⟩ = some (.string ((rd_T38 l1 x5_1).f5)) ∧ w'.cell? ⟨(ad262.add ((x5_1).toNat * 9)).block, (ad262.add ((x5_1).toNat * 9)).off + 8, none⟩ = some (.bool ((rd_T38 l1 x5_1).f6))) (ds := []) #[false, false, false, false, false, false, false, false, false, false] (by kernel_rfl) rfl rfl ⟨((HB.out.cell (World.block_lt_of_cell? w _ hw261_0)).trans hw261_0), ((HB.out.cell (World.block_lt_of_cell? w _ hw261_1)).trans hw261_1), ((HB.out.cell (World.block_lt_of_cell? w _ hw261_2)).trans hw261_2), ((HB.out.cell (World.block_lt_of_cell? w _ hw261_3)).trans hw261_3), ((HB.out.cell (World.block_lt_of_cell? w _ hw261_4)).trans hw261_4), ((HB.out.cell (World.block_lt_of_cell? w _ hw261_5)).trans hw261_5), ((HB.out.cell (World.block_lt_of_cell? w _ hw261_6)).trans hw261_6), ((HB.out.cell (World.block_lt_of_cell? w _ hw261_7)).trans hw261_7), ((HB.out.cell (World.block_lt_of_cell? w _ hw261_8)).trans hw261_8), ((HB.out.cell (World.block_lt_of_cell? w _ hw262_0)).trans hw262_0), ((HB.out.cell (World.block_lt_of_cell? w _ hw262_1)).trans hw262_1), ((HB.out.cell (World.block_lt_of_cell? w _ hw262_2)).trans hw262_2), ((HB.out.cell (World.block_lt_of_cell? w _ hw262_3)).trans hw262_3), ((HB.out.cell (World.block_lt_of_cell? w _ hw262_4)).trans hw262_4), ((HB.out.cell (World.block_lt_of_cell? w _ hw262_5)).trans hw262_5), ((HB.out.cell (World.block_lt_of_cell? w _ hw262_6)).trans hw262_6), ((HB.out.cell (World.block_lt_of_cell? w _ hw262_7)).trans hw262_7), ((HB.out.cell (World.block_lt_of_cell? w _ hw262_8)).trans hw262_8)⟩ (fun hHeld => ?_); refine with_tabW rosterref12_Equal.tab6 rosterref12_Equal.bits6 (fun HT_ HW_ => ?_)
        generalize wr.drew = w11 at HB HR261_5 HR262_5 hx261_0 hx261_1 hx261_2 hx261_3 hx261_4 hx261_5 hx261_6 hx261_7 hx261_8 hx262_0 hx262_1 hx262_2 hx262_3 hx262_4 hx262_5 hx262_6 hx262_7 hx262_8 hHeld ⊢
        refine pure_ (i := 0) (N := some 17) (v := ?_) (a' := ?_) #[true, false, false, false, false, false, false, false, false, false] rfl rfl (any_of HT_.out (by kernel_rfl)) (fun _ _ _ h => h) (Or.inl ⟨by rfl, ?_⟩) ?_ ?_
        rotate_left
        ·intro w'
         go_simp
         with_reducible rfl
        rotate_left
        ·simp only [Act.put, List.setIfInBounds_toArray, List.set_cons_zero, List.set_cons_succ, i64_w, i32_w]
         rfl
        refine pure_ (i := 1) (N := some 18) (v := ?_) (a' := ?_) #[true, true, false, false, false, false, false, false, false, false] rfl rfl (any_of HT_.out (by kernel_rfl)) (fun _ _ _ h => h) (Or.inl ⟨by rfl, ?_⟩) ?_ ?_
        rotate_left
        ·intro w'
         go_simp
         with_reducible rfl
        rotate_left
        ·simp only [Act.put, List.setIfInBounds_toArray, List.set_cons_zero, List.set_cons_succ, i64_w, i32_w]
         rfl
        refine pure_ (i := 2) (N := some 19) (v := ?_) (a' := ?_) #[true, true, true, false, false, false, false, false, false, false] rfl rfl (any_of HT_.out (by kernel_rfl)) (fun _ _ _ h => h) (Or.inl ⟨by rfl, ?_⟩) ?_ ?_
        rotate_left
        ·intro w'
         go_simp
         with_reducible rfl
        rotate_left
        ·simp only [Act.put, List.setIfInBounds_toArray, List.set_cons_zero, List.set_cons_succ, i64_w, i32_w]
         rfl
        refine pure_ (i := 4) (N := some 21) (v := ?_) (a' := ?_) #[true, true, true, false, true, false, false, false, false, false] rfl rfl (any_of HT_.out (by kernel_rfl)) (fun _ _ _ h => h) (Or.inl ⟨by rfl, ?_⟩) ?_ ?_
        rotate_left
        ·intro w'
         go_simp
         with_reducible rfl
        rotate_left
        ·simp only [Act.put, List.setIfInBounds_toArray, List.set_cons_zero, List.set_cons_succ, i64_w, i32_w]
         rfl
        refine pure_ (i := 5) (N := some 22) (v := ?_) (a' := ?_) #[true, true, true, false, true, true, false, false, false, false] rfl rfl (any_of HT_.out (by kernel_rfl)) (fun _ _ _ h => h) (Or.inl ⟨by rfl, ?_⟩) ?_ ?_
        rotate_left
        ·intro w'
         go_simp
         with_reducible rfl
        rotate_left
        ·simp only [Act.put, List.setIfInBounds_toArray, List.set_cons_zero, List.set_cons_succ, i64_w, i32_w]
         rfl
        refine pure_ (i := 6) (N := some 23) (v := ?_) (a' := ?_) #[true, true, true, false, true, true, true, false, false, false] rfl rfl (any_of HT_.out (by kernel_rfl)) (fun _ _ _ h => h) (Or.inl ⟨by rfl, ?_⟩) ?_ ?_
        rotate_left
        ·intro w'
         go_simp
         with_reducible rfl
        rotate_left
        ·simp only [Act.put, List.setIfInBounds_toArray, List.set_cons_zero, List.set_cons_succ, i64_w, i32_w]
         rfl
        refine take_ (i := 3) (N := some 20) (v := ?_) (a' := ?_) #[true, true, true, true, true, true, true, false, false, false] rfl rfl (take_ofW HT_.out HW_.out (by kernel_rfl)) (fun _ _ _ h => h) (Or.inl ⟨by rfl, ?_⟩) hHeld ?_ ?_
        rotate_left
        ·rintro w' ⟨s0, s1, s2, s3, s4, s5, s6, s7, s8, s9, s10, s11, s12, s13, s14, s15, s16, s17⟩
         go_simp
         with_reducible rfl
        rotate_left
        ·simp only [Act.put, List.setIfInBounds_toArray, List.set_cons_zero, List.set_cons_succ, i64_w, i32_w]
         rfl
        refine take_ (i := 7) (N := some 24) (v := ?_) (a' := ?_) #[true, true, true, true, true, true, true, true, false, false] rfl rfl (take_ofW HT_.out HW_.out (by kernel_rfl)) (fun _ _ _ h => h) (Or.inl ⟨by rfl, ?_⟩) hHeld ?_ ?_
        rotate_left
        ·rintro w' ⟨s0, s1, s2, s3, s4, s5, s6, s7, s8, s9, s10, s11, s12, s13, s14, s15, s16, s17⟩
         go_simp
         with_reducible rfl
        rotate_left
        ·simp only [Act.put, List.setIfInBounds_toArray, List.set_cons_zero, List.set_cons_succ, i64_w, i32_w]
         rfl
        refine one_ (i := 8) (N := some 25) #[true, true, true, true, true, true, true, true, true, false] rfl rfl (one_of HT_.out (by kernel_rfl)) (by decide) (fun K hK => ?_)
        refine goes_ Tryd.func26 (by kernel_rfl) rfl #[.agg #[.int .i64 ((rd_T38 l0 x5_1).f0), .int .i64 ((rd_T38 l0 x5_1).f1), .string ((rd_T38 l0 x5_1).f2), .string ((rd_T38 l0 x5_1).f3), .string ((rd_T38 l0 x5_1).f4.f0), .slice A261_5 ((rd_T38 l0 x5_1).f4.f1).length c261_5, .string ((rd_T38 l0 x5_1).f4.f2), .string ((rd_T38 l0 x5_1).f5), .bool ((rd_T38 l0 x5_1).f6)], .agg #[.int .i64 ((rd_T38 l1 x5_1).f0), .int .i64 ((rd_T38 l1 x5_1).f1), .string ((rd_T38 l1 x5_1).f2), .string ((rd_T38 l1 x5_1).f3), .string ((rd_T38 l1 x5_1).f4.f0), .slice A262_5 ((rd_T38 l1 x5_1).f4.f1).length c262_5, .string ((rd_T38 l1 x5_1).f4.f2), .string ((rd_T38 l1 x5_1).f5), .bool ((rd_T38 l1 x5_1).f6)]] (by rfl) rfl rfl (by (try simp only [List.map_toArray, List.map_cons, List.map_nil]); first | done | rfl | (simp only [List.length_drop, List.length_take]; rfl) | exact congrArg (fun n_ : Nat => #[Value.slice _ n_ _]) (Eq.trans (Aside0.out (by assumption)) (Eq.symm (Aside0.out (by assumption)))) | exact congrArg (fun n_ : Nat => #[Value.slice _ n_ _, Value.slice _ _ _]) (Eq.trans (Aside0.out (by assumption)) (Eq.symm (Aside0.out (by assumption))))) ?_
        with_reducible refine (rosterref12_sameNode.calls k1 ((rd_T38 l0 x5_1).f0) ((rd_T38 l0 x5_1).f1) ((rd_T38 l0 x5_1).f2) ((rd_T38 l0 x5_1).f3) ((rd_T38 l0 x5_1).f4.f0) _ _ ((rd_T38 l0 x5_1).f4.f1) ((rd_T38 l0 x5_1).f4.f2) ((rd_T38 l0 x5_1).f5) ((rd_T38 l0 x5_1).f6) ((rd_T38 l1 x5_1).f0) ((rd_T38 l1 x5_1).f1) ((rd_T38 l1 x5_1).f2) ((rd_T38 l1 x5_1).f3) ((rd_T38 l1 x5_1).f4.f0) _ _ ((rd_T38 l1 x5_1).f4.f1) ((rd_T38 l1 x5_1).f4.f2) ((rd_T38 l1 x5_1).f5) ((rd_T38 l1 x5_1).f6) false _ ?side1 ?side2 ?side3 ?side4 A7.out).mono ?_
        (case side1 => repeat (first | exact (Kd.C_below HR261_5.out HB.out) | exact (Kd.C_below (Aside0.out (by assumption)) HB.out) | (with_reducible refine Kd.C_alloc ?_ _) | (with_reducible refine Kd.C_drewN ?_ _) | (with_reducible refine Kd.C_drew ?_)))
        (case side2 => first | exact HC261_5.out | exact Aside0.out (by assumption))
        (case side3 => repeat (first | exact (Kd.C_below HR262_5.out HB.out) | exact (Kd.C_below (Aside0.out (by assumption)) HB.out) | (with_reducible refine Kd.C_alloc ?_ _) | (with_reducible refine Kd.C_drewN ?_ _) | (with_reducible refine Kd.C_drew ?_)))
        (case side4 => first | exact HC262_5.out | exact Aside0.out (by assumption))
        rintro e w12 ⟨rfl, hb⟩
        refine ⟨_, rfl, ?_⟩
        have n0_ := Aside0.mk (below_step (by repeat (first | (with_reducible first | exact HB.out | apply below_alloc | apply pw_below_drewN | apply below_drew1) | exact HB.out)) hb)
        clear HB
        have HB := n0_
        clear n0_
        (try clear hb)
        (try clear hb2)
        (try clear hk)
        (try clear hi)
        refine hK.out _ _ ⟨((HB.out.cell (World.block_lt_of_cell? w _ hw261_0)).trans hw261_0), ((HB.out.cell (World.block_lt_of_cell? w _ hw261_1)).trans hw261_1), ((HB.out.cell (World.block_lt_of_cell? w _ hw261_2)).trans hw261_2), ((HB.out.cell (World.block_lt_of_cell? w _ hw261_3)).trans hw261_3), ((HB.out.cell (World.block_lt_of_cell? w _ hw261_4)).trans hw261_4), ((HB.out.cell (World.block_lt_of_cell? w _ hw261_5)).trans hw261_5), ((HB.out.cell (World.block_lt_of_cell? w _ hw261_6)).trans hw261_6), ((HB.out.cell (World.block_lt_of_cell? w _ hw261_7)).trans hw261_7), ((HB.out.cell (World.block_lt_of_cell? w _ hw261_8)).trans hw261_8), ((HB.out.cell (World.block_lt_of_cell? w _ hw262_0)).trans hw262_0), ((HB.out.cell (World.block_lt_of_cell? w _ hw262_1)).trans hw262_1), ((HB.out.cell (World.block_lt_of_cell? w _ hw262_2)).trans hw262_2), ((HB.out.cell (World.block_lt_of_cell? w _ hw262_3)).trans hw262_3), ((HB.out.cell (World.block_lt_of_cell? w _ hw262_4)).trans hw262_4), ((HB.out.cell (World.block_lt_of_cell? w _ hw262_5)).trans hw262_5), ((HB.out.cell (World.block_lt_of_cell? w _ hw262_6)).trans hw262_6), ((HB.out.cell (World.block_lt_of_cell? w _ hw262_7)).trans hw262_7), ((HB.out.cell (World.block_lt_of_cell? w _ hw262_8)).trans hw262_8)⟩ (fun hHeld => ?_)
        clear hK K
        refine norm_ (a' := ?_) ?_ ?_
        rotate_left
        ·show Act.put _ (some 25) _ = _
         simp only [Act.put, List.setIfInBounds_toArray, List.set_cons_zero, List.set_cons_succ, i64_w, i32_w]
         rfl
        refine pure_ (i := 9) (N := some 26) (v := ?_) (a' := ?_) #[true, true, true, true, true, true, true, true, true, true] rfl rfl (any_of HT_.out (by kernel_rfl)) (fun _ _ _ h => h) (Or.inl ⟨by rfl, ?_⟩) ?_ ?_
        rotate_left
        ·intro w'
         go_simp
         with_reducible rfl
        rotate_left
        ·simp only [Act.put, List.setIfInBounds_toArray, List.set_cons_zero, List.set_cons_succ, i64_w, i32_w]
         rfl
        refine done_ (done_of HT_.out (by kernel_rfl)) ?_
        try go_wp2
        go_ret
        exact ⟨by first | rfl | (simp [isEmpty_ne_]; done) | (simp [*, errW_none, errW_some] <;> rfl), by repeat (first | (with_reducible first | exact HB.out | apply below_alloc | apply pw_below_drewN | apply below_drew1) | exact HB.out)⟩
      ·rw [if_neg c6] at H
       exact absurd H (by simp)
     ·rw [if_neg c5] at H
      exact absurd H (by simp)
    ·rw [if_neg c4] at H
     have c4b0 : decide (x5_1 < (l0.length : Int)) = false := decide_eq_false c4
     clear c4
     obtain rfl := Option.some.inj H
     go_wp2
     go_ret
     exact ⟨by first | rfl | (simp [isEmpty_ne_]; done) | (simp [*, errW_none, errW_some] <;> rfl), by repeat (first | (with_reducible first | exact HB.out | apply below_alloc | apply pw_below_drewN | apply below_drew1) | exact HB.out)⟩
 ·rw [if_neg c3] at H
  have c3b0 : ((l0.length : Int) == (l1.length : Int)) = false := beq_eq_false_iff_ne.mpr c3
  have c3b1 : ((l0.length : Int) != (l1.length : Int)) = true := bne_iff_ne.mpr c3
  have c3b2 : (l0.length == l1.length) = false := by first | simpa using c3 | (simp at c3 ⊢; omega)
  obtain rfl := Option.some.inj H
  go_enter Tryd.func18, Tryd.ntmps18
  go_wp2
  go_ret
  exact ⟨by first | rfl | (simp [isEmpty_ne_]; done) | (simp [*, errW_none, errW_some] <;> rfl), by repeat (first | (with_reducible first | exact HB.out | apply below_alloc | apply pw_below_drewN | apply below_drew1) | exact HB.out)⟩

/-! ### rosterlaw12_same: function 9 -/
def rosterlaw12_same.f (k : Nat) (l0 : List (S38)) (l1 : List (S38)) : Option (Bool) := (rosterref12_Equal.f k l0 l1).bind fun t264 => (some t264)
theorem rosterlaw12_same.mono : ∀ a0 a1 k, LeO (rosterlaw12_same.f k a0 a1) (rosterlaw12_same.f (k + 1) a0 a1) := by
 intro a0 a1 k
 unfold rosterlaw12_same.f
 repeat' first
   | (with_reducible exact rosterref12_Equal.mono _ _ _)
   | (with_reducible exact LeO.refl _)
   | (with_reducible exact LeO.none _)
   | (with_reducible refine LeO.ite ?_ ?_)
   | (with_reducible refine LeO.bind ?_ (fun _ => ?_))
   | exact rosterref12_Equal.mono _ _ _
   | exact LeO.none _
   | refine LeO.ite ?_ ?_
   | refine LeO.bind ?_ (fun _ => ?_)
set_option maxHeartbeats 8000000 in
set_option maxRecDepth 100000 in
theorem rosterlaw12_same.calls (k : Nat) (A0 : Option Addr) (c0 : Nat) (l0 : List (S38)) (A1 : Option Addr) (c1 : Nat) (l1 : List (S38)) (r : Bool) (w : World) (hr0 : Kd.C k38 w A0 l0.length l0) (hc0 : l0.length ≤ c0) (hr1 : Kd.C k38 w A1 l1.length l1) (hc1 : l1.length ≤ c1) (h : rosterlaw12_same.f k l0 l1 = some r) :
  Calls Tryd.prog 9 #[.slice A0 l0.length c0, .slice A1 l1.length c1] w fun e w' => e = .returned (.bool r) ∧ Below w.heap.size w w' := by
 have HR0 := Aside0.mk hr0
 have HC0 := Aside0.mk hc0
 clear hr0 hc0
 have HR1 := Aside0.mk hr1
 have HC1 := Aside0.mk hc1
 clear hr1 hc1
 have HB := Aside0.mk (Below.refl w.heap.size w)
 have H : ((rosterref12_Equal.f k l0 l1).bind fun t264 => (some t264)) = some r := h
 clear h
 replace H := Option.bind_eq_some_iff.mp H
 obtain ⟨t264, A30, H⟩ := H
 replace H : (some t264) = some r := H
 have A3 := Aside0.mk A30
 clear A30
 obtain rfl := Option.some.inj H
 go_enter Tryd.func9, Tryd.ntmps9
 go_wp2_with (first | ((with_reducible refine gate_callee (f := 18) rfl ?_); refine goesL_ (some 7) rfl rfl Tryd.func18 (by kernel_rfl) rfl #[.slice A0 l0.length c0, .slice A1 l1.length c1] rfl (by (try simp only [List.map_toArray, List.map_cons, List.map_nil]); first | done | rfl | (simp only [List.length_drop, List.length_take]; rfl) | exact congrArg (fun n_ : Nat => #[Value.slice _ n_ _]) (Eq.trans (Aside0.out (by assumption)) (Eq.symm (Aside0.out (by assumption)))) | exact congrArg (fun n_ : Nat => #[Value.slice _ n_ _, Value.slice _ _ _]) (Eq.trans (Aside0.out (by assumption)) (Eq.symm (Aside0.out (by assumption))))) ?_; (with_reducible refine (rosterref12_Equal.calls k _ _ l0 _ _ l1 t264 _ ?side1 ?side2 ?side3 ?side4 A3.out).mono ?_); (case side1 => repeat (first | exact HR0.out | (with_reducible refine Kd.C_alloc ?_ _) | (with_reducible refine Kd.C_drewN ?_ _) | (with_reducible refine Kd.C_drew ?_))); (case side2 => exact HC0.out); (case side3 => repeat (first | exact HR1.out | (with_reducible refine Kd.C_alloc ?_ _) | (with_reducible refine Kd.C_drewN ?_ _) | (with_reducible refine Kd.C_drew ?_))); (case side4 => exact HC1.out); rintro e w4 ⟨rfl, hb⟩; refine ⟨_, rfl, ?_⟩; have n0_ := Aside0.mk (below_step (by repeat (first | (with_reducible first | exact HB.out | apply below_alloc | apply pw_below_drewN | apply below_drew1) | exact HB.out)) hb); clear HB; have HB := n0_; clear n0_; (try clear hb); (try clear hb2); (try clear hk); (try clear hi)))
 go_ret
 exact ⟨by first | rfl | (simp [isEmpty_ne_]; done) | (simp [*, errW_none, errW_some] <;> rfl), by repeat (first | (with_reducible first | exact HB.out | apply below_alloc | apply pw_below_drewN | apply below_drew1) | exact HB.out)⟩

/-! ### rosterlaw12_sameTexts: function 19 -/
def rosterlaw12_sameTexts.l0 : Nat → List ByteArray → List ByteArray → Int → Option (Bool)
 | 0, _, _, _ => none
 | k + 1, x0, x1, x5 => if x5 < (x0.length : Int) then (if 0 ≤ x5 then (if x5 < (x1.length : Int) then (if (rdOf ByteArray.empty x0 x5).toList = (rdOf ByteArray.empty x1 x5).toList then (rosterlaw12_sameTexts.l0 k x0 x1 (wrap64 (x5 + 1))) else (some false)) else (none)) else (none)) else (some true)
def rosterlaw12_sameTexts.f (k : Nat) (l0 : List ByteArray) (l1 : List ByteArray) : Option (Bool) := if (l0.length : Int) = (l1.length : Int) then (rosterlaw12_sameTexts.l0 k l0 l1 0) else (some false)
theorem rosterlaw12_sameTexts.mono_l : ∀ k, (∀ y0 y1 y2, LeO (rosterlaw12_sameTexts.l0 k y0 y1 y2) (rosterlaw12_sameTexts.l0 (k + 1) y0 y1 y2))
 | 0 => fun _ _ _ r h => by simp [rosterlaw12_sameTexts.l0] at h
 | k + 1 => by
  have ih0 := rosterlaw12_sameTexts.mono_l k
  ·intro y0 y1 y2
   unfold rosterlaw12_sameTexts.l0
   repeat' first
   | (with_reducible exact ih0 _ _ _)
   | (with_reducible exact LeO.refl _)
   | (with_reducible exact LeO.none _)
   | (with_reducible refine LeO.ite ?_ ?_)
   | (with_reducible refine LeO.bind ?_ (fun _ => ?_))
   | exact ih0 _ _ _
   | exact LeO.none _
   | refine LeO.ite ?_ ?_
   | refine LeO.bind ?_ (fun _ => ?_)
theorem rosterlaw12_sameTexts.mono : ∀ a0 a1 k, LeO (rosterlaw12_sameTexts.f k a0 a1) (rosterlaw12_sameTexts.f (k + 1) a0 a1) := by
 intro a0 a1 k
 have ih0 := rosterlaw12_sameTexts.mono_l k
 unfold rosterlaw12_sameTexts.f
 repeat' first
   | (with_reducible exact ih0 _ _ _)
   | (with_reducible exact LeO.refl _)
   | (with_reducible exact LeO.none _)
   | (with_reducible refine LeO.ite ?_ ?_)
   | (with_reducible refine LeO.bind ?_ (fun _ => ?_))
   | exact ih0 _ _ _
   | exact LeO.none _
   | refine LeO.ite ?_ ?_
   | refine LeO.bind ?_ (fun _ => ?_)
set_option maxHeartbeats 8000000 in
set_option maxRecDepth 100000 in
theorem rosterlaw12_sameTexts.calls (k : Nat) (A0 : Option Addr) (c0 : Nat) (l0 : List ByteArray) (A1 : Option Addr) (c1 : Nat) (l1 : List ByteArray) (r : Bool) (w : World) (hr0 : Kd.C Kd.string w A0 l0.length l0) (hc0 : l0.length ≤ c0) (hr1 : Kd.C Kd.string w A1 l1.length l1) (hc1 : l1.length ≤ c1) (h : rosterlaw12_sameTexts.f k l0 l1 = some r) :
  Calls Tryd.prog 19 #[.slice A0 l0.length c0, .slice A1 l1.length c1] w fun e w' => e = .returned (.bool r) ∧ Drawn0 w w' := by
 have HR0 := Aside0.mk hr0
 have HC0 := Aside0.mk hc0
 clear hr0 hc0
 have HR1 := Aside0.mk hr1
 have HC1 := Aside0.mk hc1
 clear hr1 hc1
 have H : (if (l0.length : Int) = (l1.length : Int) then (rosterlaw12_sameTexts.l0 k l0 l1 0) else (some false)) = some r := h
 clear h
 by_cases c3 : (l0.length : Int) = (l1.length : Int)
 ·rw [if_pos c3] at H
  have c3b0 : ((l0.length : Int) == (l1.length : Int)) = true := beq_iff_eq.mpr c3
  have c3b1 : ((l0.length : Int) != (l1.length : Int)) = false := bne_eq_false_iff_eq.mpr c3
  have c3b2 : (l0.length == l1.length) = true := by first | simpa using c3 | (simp at c3 ⊢; omega)
  clear c3
  have H' := Aside0.mk H
  clear H
  go_enter Tryd.func19, Tryd.ntmps19
  go_wp2
  repeat (go_quiet (fail); try go_wp2)
  go_loopg [5] k (fun kq v5 w' => ∃ (x5_1 : Int), v5 = .int .i64 x5_1 ∧ Aside0 (rosterlaw12_sameTexts.l0 kq l0 l1 x5_1 = some r) ∧ Aside0 (kq ≤ k) ∧ Drawn0 w w')
  case atStart => exact ⟨(0), (by first | rfl | (simp; done) | (simp [*]; done) | (simp [isEmpty_ne_]; done)), H', ⟨Nat.le_refl _⟩, by repeat (first | exact Drawn0.refl _ | apply Drawn0.step)⟩
  case round =>
   clear H'
   try clear c1
   try clear p2
   try clear c3
   try clear c3b0
   try clear c3b1
   try clear c3b2
   obtain ⟨x5_1, rfl, HA, HK1, ⟨m1, rfl⟩⟩ := hrel
   cases gk with
   | zero => exact absurd HA.out (by simp [rosterlaw12_sameTexts.l0])
   | succ k1 =>
    have H := HA.out
    clear HA
    simp only [rosterlaw12_sameTexts.l0] at H
    by_cases c4 : x5_1 < (l0.length : Int)
    ·rw [if_pos c4] at H
     have c4b0 : decide (x5_1 < (l0.length : Int)) = true := decide_eq_true c4
     clear c4
     by_cases c5 : 0 ≤ x5_1
     ·rw [if_pos c5] at H
      have c5b0 : decide (0 ≤ x5_1) = true := decide_eq_true c5
      clear c5
      by_cases c6 : x5_1 < (l1.length : Int)
      ·rw [if_pos c6] at H
       have c6b0 : decide (x5_1 < (l1.length : Int)) = true := decide_eq_true c6
       clear c6
       by_cases c7 : (rdOf ByteArray.empty l0 x5_1).toList = (rdOf ByteArray.empty l1 x5_1).toList
       ·rw [if_pos c7] at H
        have c7b0 : ((rdOf ByteArray.empty l0 x5_1).toList == (rdOf ByteArray.empty l1 x5_1).toList) = true := beq_iff_eq.mpr c7
        have c7b1 : ((rdOf ByteArray.empty l0 x5_1).toList != (rdOf ByteArray.empty l1 x5_1).toList) = false := bne_eq_false_iff_eq.mpr c7
        clear c7
        have H' := Aside0.mk H
        clear H
        have p265 : 0 ≤ (x5_1 : Int) := of_decide_eq_true (by first | (with_reducible assumption) | assumption)
        have q265 : x5_1 < (l0.length : Int) := of_decide_eq_true (by first | (with_reducible assumption) | assumption)
        obtain ⟨ad265, e265, hx265_0⟩ := Kd.at_string HR0.out x5_1 p265 q265
        cases e265
        replace p265 := eq_true p265
        replace q265 := eq_true q265
        have p266 : 0 ≤ (x5_1 : Int) := of_decide_eq_true (by first | (with_reducible assumption) | assumption)
        have q266 : x5_1 < (l1.length : Int) := of_decide_eq_true (by first | (with_reducible assumption) | assumption)
        obtain ⟨ad266, e266, hx266_0⟩ := Kd.at_string HR1.out x5_1 p266 q266
        cases e266
        replace p266 := eq_true p266
        replace q266 := eq_true q266
        go_wp2
        repeat (go_quiet (fail); try go_wp2)
        go_roundg k1
        case measure => have := HK1.out; omega
        case rel => exact ⟨(wrap64 (x5_1 + 1)), (by first | rfl | (simp; done) | (simp [*]; done) | (simp [isEmpty_ne_]; done)), H', ⟨by have := HK1.out; omega⟩, by repeat (first | exact Drawn0.refl _ | apply Drawn0.step)⟩
       ·rw [if_neg c7] at H
        have c7b0 : ((rdOf ByteArray.empty l0 x5_1).toList == (rdOf ByteArray.empty l1 x5_1).toList) = false := beq_eq_false_iff_ne.mpr c7
        have c7b1 : ((rdOf ByteArray.empty l0 x5_1).toList != (rdOf ByteArray.empty l1 x5_1).toList) = true := bne_iff_ne.mpr c7
        obtain rfl := Option.some.inj H
        have p265 : 0 ≤ (x5_1 : Int) := of_decide_eq_true (by first | (with_reducible assumption) | assumption)
        have q265 : x5_1 < (l0.length : Int) := of_decide_eq_true (by first | (with_reducible assumption) | assumption)
        obtain ⟨ad265, e265, hx265_0⟩ := Kd.at_string HR0.out x5_1 p265 q265
        cases e265
        replace p265 := eq_true p265
        replace q265 := eq_true q265
        have p266 : 0 ≤ (x5_1 : Int) := of_decide_eq_true (by first | (with_reducible assumption) | assumption)
        have q266 : x5_1 < (l1.length : Int) := of_decide_eq_true (by first | (with_reducible assumption) | assumption)
        obtain ⟨ad266, e266, hx266_0⟩ := Kd.at_string HR1.out x5_1 p266 q266
        cases e266
        replace p266 := eq_true p266
        replace q266 := eq_true q266
        go_wp2
        repeat (go_quiet (fail); try go_wp2)
        go_ret
        exact ⟨by first | rfl | (simp; done) | (simp [*]; done) | (simp [isEmpty_ne_]; done), by repeat (first | exact Drawn0.refl _ | apply Drawn0.step)⟩
      ·rw [if_neg c6] at H
       exact absurd H (by simp)
     ·rw [if_neg c5] at H
      exact absurd H (by simp)
    ·rw [if_neg c4] at H
     have c4b0 : decide (x5_1 < (l0.length : Int)) = false := decide_eq_false c4
     clear c4
     obtain rfl := Option.some.inj H
     go_wp2
     repeat (go_quiet (fail); try go_wp2)
     go_ret
     exact ⟨by first | rfl | (simp; done) | (simp [*]; done) | (simp [isEmpty_ne_]; done), by repeat (first | exact Drawn0.refl _ | apply Drawn0.step)⟩
 ·rw [if_neg c3] at H
  have c3b0 : ((l0.length : Int) == (l1.length : Int)) = false := beq_eq_false_iff_ne.mpr c3
  have c3b1 : ((l0.length : Int) != (l1.length : Int)) = true := bne_iff_ne.mpr c3
  have c3b2 : (l0.length == l1.length) = false := by first | simpa using c3 | (simp at c3 ⊢; omega)
  obtain rfl := Option.some.inj H
  go_enter Tryd.func19, Tryd.ntmps19
  go_wp2
  repeat (go_quiet (fail); try go_wp2)
  go_ret
  exact ⟨by first | rfl | (simp; done) | (simp [*]; done) | (simp [isEmpty_ne_]; done), by repeat (first | exact Drawn0.refl _ | apply Drawn0.step)⟩

end Go.Proofs.YtaimjacpenofpaaDoor.GC
