-- Written for this claim by a program of this session (wip/tools/p2.py).
import Derived.Test.YtaimjacpenofpaaDoorGCx0
import Derived.Test.YtaimjacpenofpaaDoorGCx5
namespace Go.Proofs.YtaimjacpenofpaaDoor.GC
open Go.RowKit Go.Proofs.YtaimjacpenofpaaDoorW.PrintWords Go.Proofs.YtaimjacpenofpaaDoorW.PrintLast Go.Proofs.YtaimjacpenofpaaDoorW.PrintMore
attribute [local go_sem] max2_int min2_int max_two min_two max_three min_three max_four min_four   -- for this text's walks alone
set_option linter.unusedVariables false
set_option linter.unusedSimpArgs false

/-! ### filter_follows: function 23 -/
def filter_follows.f (l0 : List (S38)) (a1 : Int) : Option (Bool) := if a1 = 0 then (if 0 < (l0.length : Int) then (some (((rd_T38 l0 0).f0) == 1)) else (none)) else (if 0 ≤ a1 then (if a1 < (l0.length : Int) then (if 0 ≤ (wrap64 (a1 - 1)) then (if (wrap64 (a1 - 1)) < (l0.length : Int) then (if ((rd_T38 l0 a1).f0) ≥ 2 then (if ((rd_T38 l0 a1).f0) ≤ ((rd_T38 l0 (wrap64 (a1 - 1))).f0) then (some true) else (if ((rd_T38 l0 a1).f0) = (wrap64 (((rd_T38 l0 (wrap64 (a1 - 1))).f0) + 1)) then ((filter_holds.f ((rd_T38 l0 (wrap64 (a1 - 1))).f1)).bind fun t187 => (some t187)) else (some false))) else (some false)) else (none)) else (none)) else (none)) else (none))
def filter_follows.T3 : Bool × List (List Nat × List Nat) := (true, [([], []), ([], []), ([0, 1], [0, 1]), ([2], [2]), ([3], [3]), ([], []), ([], []), ([6], [6]), ([5, 7], [5, 7]), ([8], [8]), ([], []), ([4, 0, 1, 2, 3, 4, 10], [4]), ([10, 9, 11, 0, 1, 2, 3, 4, 5, 6, 7, 8, 9, 10, 11], [9, 10])])
def filter_follows.B3 : List Nat := [0, 0, 3, 7, 15, 0, 0, 64, 224, 480, 0, 1055, 4095]
theorem filter_follows.tab3 : rtab .any (opsOf Tryd.f23 3) = filter_follows.T3 := by kernel_rfl
theorem filter_follows.bits3 : waitsOk filter_follows.T3.2 filter_follows.B3 = true := by kernel_rfl
set_option maxHeartbeats 8000000 in
set_option maxRecDepth 100000 in
theorem filter_follows.calls (A0 : Option Addr) (c0 : Nat) (l0 : List (S38)) (a1 : Int) (r : Bool) (w : World) (hr0 : Kd.C k38 w A0 l0.length l0) (hc0 : l0.length ≤ c0) (h : filter_follows.f l0 a1 = some r) :
  Calls Tryd.prog 23 #[.slice A0 l0.length c0, .int .i64 a1] w fun e w' => e = .returned (.bool r) ∧ Below w.heap.size w w' := by
 have hu38 := Tryd.underlying38
 have HR0 := Aside0.mk hr0
 have HC0 := Aside0.mk hc0
 clear hr0 hc0
 have HB := Aside0.mk (Below.refl w.heap.size w)
 have H : (if a1 = 0 then (if 0 < (l0.length : Int) then (some (((rd_T38 l0 0).f0) == 1)) else (none)) else (if 0 ≤ a1 then (if a1 < (l0.length : Int) then (if 0 ≤ (wrap64 (a1 - 1)) then (if (wrap64 (a1 - 1)) < (l0.length : Int) then (if ((rd_T38 l0 a1).f0) ≥ 2 then (if ((rd_T38 l0 a1).f0) ≤ ((rd_T38 l0 (wrap64 (a1 - 1))).f0) then (some true) else (if ((rd_T38 l0 a1).f0) = (wrap64 (((rd_T38 l0 (wrap64 (a1 - 1))).f0) + 1)) then ((filter_holds.f ((rd_T38 l0 (wrap64 (a1 - 1))).f1)).bind fun t187 => (some t187)) else (some false))) else (some false)) else (none)) else (none)) else (none)) else (none))) = some r := h
 clear h
 by_cases c3 : a1 = 0
 ·rw [if_pos c3] at H
  have c3b0 : (a1 == 0) = true := beq_iff_eq.mpr c3
  have c3b1 : (a1 != 0) = false := bne_eq_false_iff_eq.mpr c3
  clear c3
  by_cases c4 : 0 < (l0.length : Int)
  ·rw [if_pos c4] at H
   have c4b0 : decide (0 < (l0.length : Int)) = true := decide_eq_true c4
   have c4b1 : decide (0 < l0.length) = true := decide_eq_true (by omega)
   have c4b2 : 0 < l0.length := by omega
   clear c4
   obtain rfl := Option.some.inj H
   have p183 : 0 ≤ (0 : Int) := (by omega)
   have q183 : 0 < (l0.length : Int) := of_decide_eq_true (by first | (with_reducible assumption) | assumption)
   obtain ⟨ad183, A183_5, c183_5, e183, hx183_0, hx183_1, hx183_2, hx183_3, hx183_4, hx183_5, hx183_6, hx183_7, hx183_8, hl183_5, hi183_5⟩ := at_T38 HR0.out 0 p183 q183
   cases e183
   have qi183 : (0 < l0.length) = True := eq_true (by omega)
   (try rw [show ((0 : Int)).toNat = 0 from rfl] at hx183_0)
   (try rw [show 0 * 9 = 0 from rfl] at hx183_0)
   (try rw [Addr.add_zero'] at hx183_0)
   (try rw [show ((0 : Int)).toNat = 0 from rfl] at hx183_1)
   (try rw [show 0 * 9 = 0 from rfl] at hx183_1)
   (try rw [Addr.add_zero'] at hx183_1)
   (try rw [show ((0 : Int)).toNat = 0 from rfl] at hx183_2)
   (try rw [show 0 * 9 = 0 from rfl] at hx183_2)
   (try rw [Addr.add_zero'] at hx183_2)
   (try rw [show ((0 : Int)).toNat = 0 from rfl] at hx183_3)
   (try rw [show 0 * 9 = 0 from rfl] at hx183_3)
   (try rw [Addr.add_zero'] at hx183_3)
   (try rw [show ((0 : Int)).toNat = 0 from rfl] at hx183_4)
   (try rw [show 0 * 9 = 0 from rfl] at hx183_4)
   (try rw [Addr.add_zero'] at hx183_4)
   (try rw [show ((0 : Int)).toNat = 0 from rfl] at hx183_5)
   (try rw [show 0 * 9 = 0 from rfl] at hx183_5)
   (try rw [Addr.add_zero'] at hx183_5)
   (try rw [show ((0 : Int)).toNat = 0 from rfl] at hx183_6)
   (try rw [show 0 * 9 = 0 from rfl] at hx183_6)
   (try rw [Addr.add_zero'] at hx183_6)
   (try rw [show ((0 : Int)).toNat = 0 from rfl] at hx183_7)
   (try rw [show 0 * 9 = 0 from rfl] at hx183_7)
   (try rw [Addr.add_zero'] at hx183_7)
   (try rw [show ((0 : Int)).toNat = 0 from rfl] at hx183_8)
   (try rw [show 0 * 9 = 0 from rfl] at hx183_8)
   (try rw [Addr.add_zero'] at hx183_8)
   have HR183_5 := Aside0.mk hi183_5
   have HC183_5 := Aside0.mk hl183_5
   clear hi183_5 hl183_5
   replace p183 := eq_true p183
   replace q183 := eq_true q183
   go_enter Tryd.func23, Tryd.ntmps23
   go_wp2
   go_ret
   exact ⟨by first | rfl | (simp [isEmpty_ne_]; done) | (simp [*, errW_none, errW_some] <;> rfl), by repeat (first | (with_reducible first | exact HB.out | apply below_alloc | apply pw_below_drewN | apply below_drew1) | exact HB.out)⟩
  ·rw [if_neg c4] at H
   exact absurd H (by simp)
 ·rw [if_neg c3] at H
  have c3b0 : (a1 == 0) = false := beq_eq_false_iff_ne.mpr c3
  have c3b1 : (a1 != 0) = true := bne_iff_ne.mpr c3
  by_cases c5 : 0 ≤ a1
  ·rw [if_pos c5] at H
   have c5b0 : decide (0 ≤ a1) = true := decide_eq_true c5
   clear c5
   by_cases c6 : a1 < (l0.length : Int)
   ·rw [if_pos c6] at H
    have c6b0 : decide (a1 < (l0.length : Int)) = true := decide_eq_true c6
    clear c6
    obtain ⟨ji7, hji7⟩ : ∃ j_ : Int, (wrap64 (a1 - 1)) = j_ := ⟨_, rfl⟩
    replace H : (if 0 ≤ (ji7) then (if (ji7) < (l0.length : Int) then (if ((rd_T38 l0 a1).f0) ≥ 2 then (if ((rd_T38 l0 a1).f0) ≤ ((rd_T38 l0 (ji7)).f0) then (some true) else (if ((rd_T38 l0 a1).f0) = (wrap64 (((rd_T38 l0 (ji7)).f0) + 1)) then ((filter_holds.f ((rd_T38 l0 (ji7)).f1)).bind fun t187 => (some t187)) else (some false))) else (some false)) else (none)) else (none)) = some r := by first | (rw [hji7] at H; exact H) | (simp only [hji7] at H ⊢; exact H)
    have hji7w : (IntKind.i64.wrap (a1 - 1)) = ji7 := (i64_w _).trans hji7
    by_cases c8 : 0 ≤ (ji7)
    ·rw [if_pos c8] at H
     have c8b0 : decide (0 ≤ (ji7)) = true := decide_eq_true c8
     clear c8
     by_cases c9 : (ji7) < (l0.length : Int)
     ·rw [if_pos c9] at H
      have c9b0 : decide ((ji7) < (l0.length : Int)) = true := decide_eq_true c9
      clear c9
      by_cases c10 : ((rd_T38 l0 a1).f0) ≥ 2
      ·rw [if_pos c10] at H
       have c10b0 : decide (2 ≤ ((rd_T38 l0 a1).f0)) = true := decide_eq_true c10
       clear c10
       by_cases c11 : ((rd_T38 l0 a1).f0) ≤ ((rd_T38 l0 (ji7)).f0)
       ·rw [if_pos c11] at H
        have c11b0 : decide (((rd_T38 l0 a1).f0) ≤ ((rd_T38 l0 (ji7)).f0)) = true := decide_eq_true c11
        clear c11
        obtain rfl := Option.some.inj H
        go_enter Tryd.func23, Tryd.ntmps23
        try go_wp2
        have n0_ := Aside0.mk (below_drew1 HB.out)
        clear HB
        have HB := n0_
        clear n0_
        have p184 : 0 ≤ (a1 : Int) := of_decide_eq_true (by first | (with_reducible assumption) | assumption)
        have q184 : a1 < (l0.length : Int) := of_decide_eq_true (by first | (with_reducible assumption) | assumption)
        obtain ⟨ad184, A184_5, c184_5, e184, hx184_0, hx184_1, hx184_2, hx184_3, hx184_4, hx184_5, hx184_6, hx184_7, hx184_8, hl184_5, hi184_5⟩ := at_T38 HR0.out a1 p184 q184
        have hw184_8 := hx184_8
        have hw184_7 := hx184_7
        have hw184_6 := hx184_6
        have hw184_5 := hx184_5
        have hw184_4 := hx184_4
        have hw184_3 := hx184_3
        have hw184_2 := hx184_2
        have hw184_1 := hx184_1
        have hw184_0 := hx184_0
        cases e184
        replace hx184_0 := cellB_ HB.out hx184_0
        replace hx184_1 := cellB_ HB.out hx184_1
        replace hx184_2 := cellB_ HB.out hx184_2
        replace hx184_3 := cellB_ HB.out hx184_3
        replace hx184_4 := cellB_ HB.out hx184_4
        replace hx184_5 := cellB_ HB.out hx184_5
        replace hx184_6 := cellB_ HB.out hx184_6
        replace hx184_7 := cellB_ HB.out hx184_7
        replace hx184_8 := cellB_ HB.out hx184_8
        have HR184_5 := Aside0.mk hi184_5
        have HC184_5 := Aside0.mk hl184_5
        clear hi184_5 hl184_5
        replace p184 := eq_true p184
        replace q184 := eq_true q184
        have p185 : 0 ≤ ((ji7) : Int) := of_decide_eq_true (by first | (with_reducible assumption) | assumption)
        have q185 : (ji7) < (l0.length : Int) := of_decide_eq_true (by first | (with_reducible assumption) | assumption)
        obtain ⟨ad185, A185_5, c185_5, e185, hx185_0, hx185_1, hx185_2, hx185_3, hx185_4, hx185_5, hx185_6, hx185_7, hx185_8, hl185_5, hi185_5⟩ := at_T38 HR0.out (ji7) p185 q185
        have hw185_8 := hx185_8
        have hw185_7 := hx185_7
        have hw185_6 := hx185_6
        have hw185_5 := hx185_5
        have hw185_4 := hx185_4
        have hw185_3 := hx185_3
        have hw185_2 := hx185_2
        have hw185_1 := hx185_1
        have hw185_0 := hx185_0
        obtain rfl : ad184 = ad185 := (by injection e185)
        replace hx185_0 := cellB_ HB.out hx185_0
        replace hx185_1 := cellB_ HB.out hx185_1
        replace hx185_2 := cellB_ HB.out hx185_2
        replace hx185_3 := cellB_ HB.out hx185_3
        replace hx185_4 := cellB_ HB.out hx185_4
        replace hx185_5 := cellB_ HB.out hx185_5
        replace hx185_6 := cellB_ HB.out hx185_6
        replace hx185_7 := cellB_ HB.out hx185_7
        replace hx185_8 := cellB_ HB.out hx185_8
        have HR185_5 := Aside0.mk hi185_5
        have HC185_5 := Aside0.mk hl185_5
        clear hi185_5 hl185_5
        replace p185 := eq_true p185
        replace q185 := eq_true q185
        refine start_ (n := 13) (S := fun w' => w'.cell? (ad184.add ((a1).toNat * 9)) = some (.int .i64 ((rd_T38 l0 a1).f0)) ∧ w'.cell? ⟨(ad184.add ((a1).toNat * 9)).block, (ad184.add ((a1).toNat * 9)).off + 1, none⟩ = some (.int .i64 ((rd_T38 l0 a1).f1)) ∧ w'.cell? ⟨(ad184.add ((a1).toNat * 9)).block, (ad184.add ((a1).toNat * 9)).off + 2, none⟩ = some (.string ((rd_T38 l0 a1).f2)) ∧ w'.cell? ⟨(ad184.add ((a1).toNat * 9)).block, (ad184.add ((a1).toNat * 9)).off + 3, none⟩ = some (.string ((rd_T38 l0 a1).f3)) ∧ w'.cell? ⟨(ad184.add ((a1).toNat * 9)).block, (ad184.add ((a1).toNat * 9)).off + 4, none⟩ = some (.string ((rd_T38 l0 a1).f4.f0)) ∧ w'.cell? ⟨(ad184.add ((a1).toNat * 9)).block, (ad184.add ((a1).toNat * 9)).off + 5, none⟩ = some (.slice A184_5 ((rd_T38 l0 a1).f4.f1).length c184_5) ∧ w'.cell? ⟨(ad184.add ((a1).toNat * 9)).block, (ad184.add ((a1).toNat * 9)).off + 6, none⟩ = some (.string ((rd_T38 l0 a1).f4.f2)) ∧ w'.cell? ⟨(ad184.add ((a1).toNat * 9)).block, (ad184.add ((a1).toNat * 9)).off + 7, none⟩ = some (.string ((rd_T38 l0 a1).f5)) ∧ w'.cell? ⟨(ad184.add ((a1).toNat * 9)).block, (ad184.add ((a1).toNat * 9)).off + 8, none⟩ = some (.bool ((rd_T38 l0 a1).f6)) ∧ w'.cell? (ad184.add (((ji7)).toNat * 9)) = some (.int .i64 ((rd_T38 l0 (ji7)).f0)) ∧ w'.cell? ⟨(ad184.add (((ji7)).toNat * 9)).block, (ad184.add (((ji7)).toNat * 9)).off + 1, none⟩ = some (.int .i64 ((rd_T38 l0 (ji7)).f1)) ∧ w'.cell? ⟨(ad184.add (((ji7)).toNat * 9)).block, (ad184.add (((ji7)).toNat * 9)).off + 2, none⟩ = some (.string ((rd_T38 l0 (ji7)).f2)) ∧ w'.cell? ⟨(ad184.add (((ji7)).toNat * 9)).block, (ad184.add (((ji7)).toNat * 9)).off + 3, none⟩ = some (.string ((rd_T38 l0 (ji7)).f3)) ∧ w'.cell? ⟨(ad184.add (((ji7)).toNat * 9)).block, (ad184.add (((ji7)).toNat * 9)).off + 4, none⟩ = some (.string ((rd_T38 l0 (ji7)).f4.f0)) ∧ w'.cell? ⟨(ad184.add (((ji7)).toNat * 9)).block, (ad184.add (((ji7)).toNat * 9)).off + 5, none⟩ = some (.slice A185_5 ((rd_T38 l0 (ji7)).f4.f1).length c185_5) ∧ w'.cell? ⟨(ad184.add (((ji7)).toNat * 9)).block, (ad184.add (((ji7)).toNat * 9)).off + 6, none⟩ = some (.string ((rd_T38 l0 (ji7)).f4.f2)) ∧ w'.cell? ⟨(ad184.add (((ji7)).toNat * 9)).block, (ad184.add (((ji7)).toNat * 9)).off + 7, none⟩ = some (.string ((rd_T38 l0 (ji7)).f5)) ∧ w'.cell? ⟨(ad184.add (((ji7)).toNat * 9)).block, (ad184.add (((ji7)).toNat * 9)).off + 8, none⟩ = some (.bool ((rd_T38 l0 (ji7)).f6))) (ds := []) #[false, false, false, false, false, false, false, false, false, false, false, false, false] (by kernel_rfl) rfl rfl ⟨((HB.out.cell (World.block_lt_of_cell? w _ hw184_0)).trans hw184_0), ((HB.out.cell (World.block_lt_of_cell? w _ hw184_1)).trans hw184_1), ((HB.out.cell (World.block_lt_of_cell? w _ hw184_2)).trans hw184_2), ((HB.out.cell (World.block_lt_of_cell? w _ hw184_3)).trans hw184_3), ((HB.out.cell (World.block_lt_of_cell? w _ hw184_4)).trans hw184_4), ((HB.out.cell (World.block_lt_of_cell? w _ hw184_5)).trans hw184_5), ((HB.out.cell (World.block_lt_of_cell? w _ hw184_6)).trans hw184_6), ((HB.out.cell (World.block_lt_of_cell? w _ hw184_7)).trans hw184_7), ((HB.out.cell (World.block_lt_of_cell? w _ hw184_8)).trans hw184_8), ((HB.out.cell (World.block_lt_of_cell? w _ hw185_0)).trans hw185_0), ((HB.out.cell (World.block_lt_of_cell? w _ hw185_1)).trans hw185_1), ((HB.out.cell (World.block_lt_of_cell? w _ hw185_2)).trans hw185_2), ((HB.out.cell (World.block_lt_of_cell? w _ hw185_3)).trans hw185_3), ((HB.out.cell (World.block_lt_of_cell? w _ hw185_4)).trans hw185_4), ((HB.out.cell (World.block_lt_of_cell? w _ hw185_5)).trans hw185_5), ((HB.out.cell (World.block_lt_of_cell? w _ hw185_6)).trans hw185_6), ((HB.out.cell (World.block_lt_of_cell? w _ hw185_7)).trans hw185_7), ((HB.out.cell (World.block_lt_of_cell? w _ hw185_8)).trans hw185_8)⟩ (fun hHeld => ?_); refine with_tabW filter_follows.tab3 filter_follows.bits3 (fun HT_ HW_ => ?_)
        generalize w.drew = w12 at HB HR184_5 HR185_5 hx184_0 hx184_1 hx184_2 hx184_3 hx184_4 hx184_5 hx184_6 hx184_7 hx184_8 hx185_0 hx185_1 hx185_2 hx185_3 hx185_4 hx185_5 hx185_6 hx185_7 hx185_8 hHeld ⊢
        refine pure_ (i := 0) (N := some 14) (v := ?_) (a' := ?_) #[true, false, false, false, false, false, false, false, false, false, false, false, false] rfl rfl (any_of HT_.out (by kernel_rfl)) (fun _ _ _ h => h) (Or.inl ⟨by rfl, ?_⟩) ?_ ?_
        rotate_left
        ·intro w'
         go_simp
         with_reducible rfl
        rotate_left
        ·simp only [Act.put, List.setIfInBounds_toArray, List.set_cons_zero, List.set_cons_succ, i64_w, i32_w]
         rfl
        refine pure_ (i := 1) (N := some 15) (v := ?_) (a' := ?_) #[true, true, false, false, false, false, false, false, false, false, false, false, false] rfl rfl (any_of HT_.out (by kernel_rfl)) (fun _ _ _ h => h) (Or.inl ⟨by rfl, ?_⟩) ?_ ?_
        rotate_left
        ·intro w'
         go_simp
         with_reducible rfl
        rotate_left
        ·simp only [Act.put, List.setIfInBounds_toArray, List.set_cons_zero, List.set_cons_succ, i64_w, i32_w]
         rfl
        refine pure_ (i := 2) (N := some 16) (v := ?_) (a' := ?_) #[true, true, true, false, false, false, false, false, false, false, false, false, false] rfl rfl (any_of HT_.out (by kernel_rfl)) (fun _ _ _ h => h) (Or.inl ⟨by rfl, ?_⟩) ?_ ?_
        rotate_left
        ·intro w'
         go_simp
         with_reducible rfl
        rotate_left
        ·simp only [Act.put, List.setIfInBounds_toArray, List.set_cons_zero, List.set_cons_succ, i64_w, i32_w]
         rfl
        refine pure_ (i := 3) (N := some 17) (v := ?_) (a' := ?_) #[true, true, true, true, false, false, false, false, false, false, false, false, false] rfl rfl (any_of HT_.out (by kernel_rfl)) (fun _ _ _ h => h) (Or.inl ⟨by rfl, ?_⟩) ?_ ?_
        rotate_left
        ·intro w'
         go_simp
         with_reducible rfl
        rotate_left
        ·simp only [Act.put, List.setIfInBounds_toArray, List.set_cons_zero, List.set_cons_succ, i64_w, i32_w]
         rfl
        refine pure_ (i := 5) (N := some 19) (v := ?_) (a' := ?_) #[true, true, true, true, false, true, false, false, false, false, false, false, false] rfl rfl (any_of HT_.out (by kernel_rfl)) (fun _ _ _ h => h) (Or.inl ⟨by rfl, ?_⟩) ?_ ?_
        rotate_left
        ·intro w'
         go_simp
         with_reducible rfl
        rotate_left
        ·simp only [Act.put, List.setIfInBounds_toArray, List.set_cons_zero, List.set_cons_succ, i64_w, i32_w]
         rfl
        refine pure_ (i := 6) (N := some 20) (v := ?_) (a' := ?_) #[true, true, true, true, false, true, true, false, false, false, false, false, false] rfl rfl (any_of HT_.out (by kernel_rfl)) (fun _ _ _ h => h) (Or.inl ⟨by rfl, ?_⟩) ?_ ?_
        rotate_left
        ·intro w'
         go_simp
         with_reducible rfl
        rotate_left
        ·simp only [Act.put, List.setIfInBounds_toArray, List.set_cons_zero, List.set_cons_succ, i64_w, i32_w]
         rfl
        refine pure_ (i := 7) (N := some 21) (v := ?_) (a' := ?_) #[true, true, true, true, false, true, true, true, false, false, false, false, false] rfl rfl (any_of HT_.out (by kernel_rfl)) (fun _ _ _ h => h) (Or.inl ⟨by rfl, ?_⟩) ?_ ?_
        rotate_left
        ·intro w'
         go_simp
         with_reducible rfl
        rotate_left
        ·simp only [Act.put, List.setIfInBounds_toArray, List.set_cons_zero, List.set_cons_succ, i64_w, i32_w]
         rfl
        refine pure_ (i := 8) (N := some 22) (v := ?_) (a' := ?_) #[true, true, true, true, false, true, true, true, true, false, false, false, false] rfl rfl (any_of HT_.out (by kernel_rfl)) (fun _ _ _ h => h) (Or.inl ⟨by rfl, ?_⟩) ?_ ?_
        rotate_left
        ·intro w'
         go_simp
         with_reducible rfl
        rotate_left
        ·simp only [Act.put, List.setIfInBounds_toArray, List.set_cons_zero, List.set_cons_succ, i64_w, i32_w]
         rfl
        refine take_ (i := 4) (N := some 18) (v := ?_) (a' := ?_) #[true, true, true, true, true, true, true, true, true, false, false, false, false] rfl rfl (take_ofW HT_.out HW_.out (by kernel_rfl)) (fun _ _ _ h => h) (Or.inl ⟨by rfl, ?_⟩) hHeld ?_ ?_
        rotate_left
        ·rintro w' ⟨s0, s1, s2, s3, s4, s5, s6, s7, s8, s9, s10, s11, s12, s13, s14, s15, s16, s17⟩
         go_simp
         with_reducible rfl
        rotate_left
        ·simp only [Act.put, List.setIfInBounds_toArray, List.set_cons_zero, List.set_cons_succ, i64_w, i32_w]
         rfl
        refine take_ (i := 9) (N := some 23) (v := ?_) (a' := ?_) #[true, true, true, true, true, true, true, true, true, true, false, false, false] rfl rfl (take_ofW HT_.out HW_.out (by kernel_rfl)) (fun _ _ _ h => h) (Or.inl ⟨by rfl, ?_⟩) hHeld ?_ ?_
        rotate_left
        ·rintro w' ⟨s0, s1, s2, s3, s4, s5, s6, s7, s8, s9, s10, s11, s12, s13, s14, s15, s16, s17⟩
         go_simp
         with_reducible rfl
        rotate_left
        ·simp only [Act.put, List.setIfInBounds_toArray, List.set_cons_zero, List.set_cons_succ, i64_w, i32_w]
         rfl
        refine one_ (i := 10) (N := some 6) #[true, true, true, true, true, true, true, true, true, true, true, false, false] rfl rfl (one_of HT_.out (by kernel_rfl)) (by decide) (fun K hK => ?_)
        refine box_step ?hg (N := 6) ?hd (cs := #[.int .i64 0, .int .i64 0, .string (⟨#[]⟩ : ByteArray), .string (⟨#[]⟩ : ByteArray), .string (⟨#[]⟩ : ByteArray), .slice none 0 0, .string (⟨#[]⟩ : ByteArray), .string (⟨#[]⟩ : ByteArray), .bool false]) (t := 38) ?hr ?_; (case hd => rfl); (case hg => rfl); (case hr => first | (go_simp; done) | (go_simp; rfl))
        intro gb186 hg w13 hbox hb
        have n0_ := Aside0.mk (below_step (by repeat (first | (with_reducible first | exact HB.out | apply below_alloc | apply pw_below_drewN | apply below_drew1) | exact HB.out)) hb)
        have n1_ := Aside0.mk (hbox)
        have n2_ := Aside0.mk ((by rw [hg]; exact (below_size (by repeat (first | (with_reducible first | exact HB.out | apply below_alloc | apply pw_below_drewN | apply below_drew1) | exact HB.out))) : w.heap.size ≤ gb186))
        have n3_ := Aside0.mk ((by rw [hg]; exact (below_size (by repeat (first | (with_reducible first | exact HB.out | apply below_alloc | apply pw_below_drewN | apply below_drew1) | exact HB.out))) : w.heap.size ≤ gb186))
        clear HB
        have HB := n0_
        have BK186 := n1_
        have GW186 := n2_
        have GE186 := n3_
        clear n0_ n1_ n2_ n3_
        clear hb hbox hg
        refine hK.out _ _ ⟨((HB.out.cell (World.block_lt_of_cell? w _ hw184_0)).trans hw184_0), ((HB.out.cell (World.block_lt_of_cell? w _ hw184_1)).trans hw184_1), ((HB.out.cell (World.block_lt_of_cell? w _ hw184_2)).trans hw184_2), ((HB.out.cell (World.block_lt_of_cell? w _ hw184_3)).trans hw184_3), ((HB.out.cell (World.block_lt_of_cell? w _ hw184_4)).trans hw184_4), ((HB.out.cell (World.block_lt_of_cell? w _ hw184_5)).trans hw184_5), ((HB.out.cell (World.block_lt_of_cell? w _ hw184_6)).trans hw184_6), ((HB.out.cell (World.block_lt_of_cell? w _ hw184_7)).trans hw184_7), ((HB.out.cell (World.block_lt_of_cell? w _ hw184_8)).trans hw184_8), ((HB.out.cell (World.block_lt_of_cell? w _ hw185_0)).trans hw185_0), ((HB.out.cell (World.block_lt_of_cell? w _ hw185_1)).trans hw185_1), ((HB.out.cell (World.block_lt_of_cell? w _ hw185_2)).trans hw185_2), ((HB.out.cell (World.block_lt_of_cell? w _ hw185_3)).trans hw185_3), ((HB.out.cell (World.block_lt_of_cell? w _ hw185_4)).trans hw185_4), ((HB.out.cell (World.block_lt_of_cell? w _ hw185_5)).trans hw185_5), ((HB.out.cell (World.block_lt_of_cell? w _ hw185_6)).trans hw185_6), ((HB.out.cell (World.block_lt_of_cell? w _ hw185_7)).trans hw185_7), ((HB.out.cell (World.block_lt_of_cell? w _ hw185_8)).trans hw185_8)⟩ (fun hHeld => ?_)
        clear hK K
        refine norm_ (a' := ?_) ?_ ?_
        rotate_left
        ·show Act.put _ (some 6) _ = _
         simp only [Act.put, List.setIfInBounds_toArray, List.set_cons_zero, List.set_cons_succ, i64_w, i32_w]
         rfl
        refine pure_ (i := 11) (N := some 5) (v := ?_) (a' := ?_) #[true, true, true, true, true, true, true, true, true, true, true, true, false] rfl rfl (any_of HT_.out (by kernel_rfl)) (fun _ _ _ h => h) (Or.inl ⟨by rfl, ?_⟩) ?_ ?_
        rotate_left
        ·intro w'
         go_simp
         with_reducible rfl
        rotate_left
        ·simp only [Act.put, List.setIfInBounds_toArray, List.set_cons_zero, List.set_cons_succ, i64_w, i32_w]
         rfl
        refine one_ (i := 12) (N := none) #[true, true, true, true, true, true, true, true, true, true, true, true, true] rfl rfl (one_of HT_.out (by kernel_rfl)) (by decide) (fun K hK => ?_)
        have hs14 : w13.cell? ⟨gb186, 0, none⟩ = some (.int .i64 0) := (blk_cell BK186.out 0).trans rfl
        have hfs14 := blk_frozen BK186.out 0
        have hs15 : w13.cell? ⟨gb186, 1, none⟩ = some (.int .i64 0) := (blk_cell BK186.out 1).trans rfl
        have hfs15 := blk_frozen BK186.out 1
        have hs16 : w13.cell? ⟨gb186, 2, none⟩ = some (.string (⟨#[]⟩ : ByteArray)) := (blk_cell BK186.out 2).trans rfl
        have hfs16 := blk_frozen BK186.out 2
        have hs17 : w13.cell? ⟨gb186, 3, none⟩ = some (.string (⟨#[]⟩ : ByteArray)) := (blk_cell BK186.out 3).trans rfl
        have hfs17 := blk_frozen BK186.out 3
        have hs18 : w13.cell? ⟨gb186, 4, none⟩ = some (.string (⟨#[]⟩ : ByteArray)) := (blk_cell BK186.out 4).trans rfl
        have hfs18 := blk_frozen BK186.out 4
        have hs19 : w13.cell? ⟨gb186, 5, none⟩ = some (.slice none 0 0) := (blk_cell BK186.out 5).trans rfl
        have hfs19 := blk_frozen BK186.out 5
        have hs20 : w13.cell? ⟨gb186, 6, none⟩ = some (.string (⟨#[]⟩ : ByteArray)) := (blk_cell BK186.out 6).trans rfl
        have hfs20 := blk_frozen BK186.out 6
        have hs21 : w13.cell? ⟨gb186, 7, none⟩ = some (.string (⟨#[]⟩ : ByteArray)) := (blk_cell BK186.out 7).trans rfl
        have hfs21 := blk_frozen BK186.out 7
        have hs22 : w13.cell? ⟨gb186, 8, none⟩ = some (.bool false) := (blk_cell BK186.out 8).trans rfl
        have hfs22 := blk_frozen BK186.out 8
        refine skip_ (w1 := ?_) (by rfl) rfl ?_ ?_
        rotate_left
        ·go_simp
         rfl
        refine hK.out _ _ ⟨((cfar9_ (g := gb186) (Nat.ne_of_lt (Nat.lt_of_lt_of_le (World.block_lt_of_cell? _ _ hw184_0) GW186.out))).trans (hHeld.1)), ((cfar9_ (g := gb186) (Nat.ne_of_lt (Nat.lt_of_lt_of_le (World.block_lt_of_cell? _ _ hw184_1) GW186.out))).trans (hHeld.2.1)), ((cfar9_ (g := gb186) (Nat.ne_of_lt (Nat.lt_of_lt_of_le (World.block_lt_of_cell? _ _ hw184_2) GW186.out))).trans (hHeld.2.2.1)), ((cfar9_ (g := gb186) (Nat.ne_of_lt (Nat.lt_of_lt_of_le (World.block_lt_of_cell? _ _ hw184_3) GW186.out))).trans (hHeld.2.2.2.1)), ((cfar9_ (g := gb186) (Nat.ne_of_lt (Nat.lt_of_lt_of_le (World.block_lt_of_cell? _ _ hw184_4) GW186.out))).trans (hHeld.2.2.2.2.1)), ((cfar9_ (g := gb186) (Nat.ne_of_lt (Nat.lt_of_lt_of_le (World.block_lt_of_cell? _ _ hw184_5) GW186.out))).trans (hHeld.2.2.2.2.2.1)), ((cfar9_ (g := gb186) (Nat.ne_of_lt (Nat.lt_of_lt_of_le (World.block_lt_of_cell? _ _ hw184_6) GW186.out))).trans (hHeld.2.2.2.2.2.2.1)), ((cfar9_ (g := gb186) (Nat.ne_of_lt (Nat.lt_of_lt_of_le (World.block_lt_of_cell? _ _ hw184_7) GW186.out))).trans (hHeld.2.2.2.2.2.2.2.1)), ((cfar9_ (g := gb186) (Nat.ne_of_lt (Nat.lt_of_lt_of_le (World.block_lt_of_cell? _ _ hw184_8) GW186.out))).trans (hHeld.2.2.2.2.2.2.2.2.1)), ((cfar9_ (g := gb186) (Nat.ne_of_lt (Nat.lt_of_lt_of_le (World.block_lt_of_cell? _ _ hw185_0) GW186.out))).trans (hHeld.2.2.2.2.2.2.2.2.2.1)), ((cfar9_ (g := gb186) (Nat.ne_of_lt (Nat.lt_of_lt_of_le (World.block_lt_of_cell? _ _ hw185_1) GW186.out))).trans (hHeld.2.2.2.2.2.2.2.2.2.2.1)), ((cfar9_ (g := gb186) (Nat.ne_of_lt (Nat.lt_of_lt_of_le (World.block_lt_of_cell? _ _ hw185_2) GW186.out))).trans (hHeld.2.2.2.2.2.2.2.2.2.2.2.1)), ((cfar9_ (g := gb186) (Nat.ne_of_lt (Nat.lt_of_lt_of_le (World.block_lt_of_cell? _ _ hw185_3) GW186.out))).trans (hHeld.2.2.2.2.2.2.2.2.2.2.2.2.1)), ((cfar9_ (g := gb186) (Nat.ne_of_lt (Nat.lt_of_lt_of_le (World.block_lt_of_cell? _ _ hw185_4) GW186.out))).trans (hHeld.2.2.2.2.2.2.2.2.2.2.2.2.2.1)), ((cfar9_ (g := gb186) (Nat.ne_of_lt (Nat.lt_of_lt_of_le (World.block_lt_of_cell? _ _ hw185_5) GW186.out))).trans (hHeld.2.2.2.2.2.2.2.2.2.2.2.2.2.2.1)), ((cfar9_ (g := gb186) (Nat.ne_of_lt (Nat.lt_of_lt_of_le (World.block_lt_of_cell? _ _ hw185_6) GW186.out))).trans (hHeld.2.2.2.2.2.2.2.2.2.2.2.2.2.2.2.1)), ((cfar9_ (g := gb186) (Nat.ne_of_lt (Nat.lt_of_lt_of_le (World.block_lt_of_cell? _ _ hw185_7) GW186.out))).trans (hHeld.2.2.2.2.2.2.2.2.2.2.2.2.2.2.2.2.1)), ((cfar9_ (g := gb186) (Nat.ne_of_lt (Nat.lt_of_lt_of_le (World.block_lt_of_cell? _ _ hw185_8) GW186.out))).trans (hHeld.2.2.2.2.2.2.2.2.2.2.2.2.2.2.2.2.2))⟩ (fun hHeld => ?_)
        clear hK K
        refine done_ (done_of HT_.out (by kernel_rfl)) ?_
        obtain ⟨hcz23_0, hcz23_1, hcz23_2, hcz23_3, hcz23_4, hcz23_5, hcz23_6, hcz23_7, hcz23_8⟩ := cells9_ BK186.out
        obtain ⟨hfz23_0, hfz23_1, hfz23_2, hfz23_3, hfz23_4, hfz23_5, hfz23_6, hfz23_7, hfz23_8⟩ := frz9_ BK186.out
        try go_wp2
        go_ret
        exact ⟨by first | rfl | (simp [isEmpty_ne_]; done) | (simp [errW_none, errW_some] <;> rfl) | (simp only [← hji7]; first | rfl | (simp [errW_none, errW_some] <;> rfl)) | (simp [*, errW_none, errW_some] <;> rfl), by repeat (first | (with_reducible first | exact HB.out | apply below_alloc | apply pw_below_drewN | apply below_drew1 | refine below_set ?_ GE186.out) | exact HB.out)⟩
       ·rw [if_neg c11] at H
        have c11b0 : decide (((rd_T38 l0 a1).f0) ≤ ((rd_T38 l0 (ji7)).f0)) = false := decide_eq_false c11
        clear c11
        by_cases c24 : ((rd_T38 l0 a1).f0) = (wrap64 (((rd_T38 l0 (ji7)).f0) + 1))
        ·rw [if_pos c24] at H
         have c24b0 : (((rd_T38 l0 a1).f0) == (wrap64 (((rd_T38 l0 (ji7)).f0) + 1))) = true := beq_iff_eq.mpr c24
         have c24b1 : (((rd_T38 l0 a1).f0) != (wrap64 (((rd_T38 l0 (ji7)).f0) + 1))) = false := bne_eq_false_iff_eq.mpr c24
         clear c24
         replace H := Option.bind_eq_some_iff.mp H
         obtain ⟨t187, A250, H⟩ := H
         replace H : (some t187) = some r := H
         have A25 := Aside0.mk A250
         clear A250
         obtain rfl := Option.some.inj H
         go_enter Tryd.func23, Tryd.ntmps23
         try go_wp2
         have n0_ := Aside0.mk (below_drew1 HB.out)
         clear HB
         have HB := n0_
         clear n0_
         have p184 : 0 ≤ (a1 : Int) := of_decide_eq_true (by first | (with_reducible assumption) | assumption)
         have q184 : a1 < (l0.length : Int) := of_decide_eq_true (by first | (with_reducible assumption) | assumption)
         obtain ⟨ad184, A184_5, c184_5, e184, hx184_0, hx184_1, hx184_2, hx184_3, hx184_4, hx184_5, hx184_6, hx184_7, hx184_8, hl184_5, hi184_5⟩ := at_T38 HR0.out a1 p184 q184
         have hw184_8 := hx184_8
         have hw184_7 := hx184_7
         have hw184_6 := hx184_6
         have hw184_5 := hx184_5
         have hw184_4 := hx184_4
         have hw184_3 := hx184_3
         have hw184_2 := hx184_2
         have hw184_1 := hx184_1
         have hw184_0 := hx184_0
         cases e184
         replace hx184_0 := cellB_ HB.out hx184_0
         replace hx184_1 := cellB_ HB.out hx184_1
         replace hx184_2 := cellB_ HB.out hx184_2
         replace hx184_3 := cellB_ HB.out hx184_3
         replace hx184_4 := cellB_ HB.out hx184_4
         replace hx184_5 := cellB_ HB.out hx184_5
         replace hx184_6 := cellB_ HB.out hx184_6
         replace hx184_7 := cellB_ HB.out hx184_7
         replace hx184_8 := cellB_ HB.out hx184_8
         have HR184_5 := Aside0.mk hi184_5
         have HC184_5 := Aside0.mk hl184_5
         clear hi184_5 hl184_5
         replace p184 := eq_true p184
         replace q184 := eq_true q184
         have p185 : 0 ≤ ((ji7) : Int) := of_decide_eq_true (by first | (with_reducible assumption) | assumption)
         have q185 : (ji7) < (l0.length : Int) := of_decide_eq_true (by first | (with_reducible assumption) | assumption)
         obtain ⟨ad185, A185_5, c185_5, e185, hx185_0, hx185_1, hx185_2, hx185_3, hx185_4, hx185_5, hx185_6, hx185_7, hx185_8, hl185_5, hi185_5⟩ := at_T38 HR0.out (ji7) p185 q185
         have hw185_8 := hx185_8
         have hw185_7 := hx185_7
         have hw185_6 := hx185_6
         have hw185_5 := hx185_5
         have hw185_4 := hx185_4
         have hw185_3 := hx185_3
         have hw185_2 := hx185_2
         have hw185_1 := hx185_1
         have hw185_0 := hx185_0
         obtain rfl : ad184 = ad185 := (by injection e185)
         replace hx185_0 := cellB_ HB.out hx185_0
         replace hx185_1 := cellB_ HB.out hx185_1
         replace hx185_2 := cellB_ HB.out hx185_2
         replace hx185_3 := cellB_ HB.out hx185_3
         replace hx185_4 := cellB_ HB.out hx185_4
         replace hx185_5 := cellB_ HB.out hx185_5
         replace hx185_6 := cellB_ HB.out hx185_6
         replace hx185_7 := cellB_ HB.out hx185_7
         replace hx185_8 := cellB_ HB.out hx185_8
         have HR185_5 := Aside0.mk hi185_5
         have HC185_5 := Aside0.mk hl185_5
         clear hi185_5 hl185_5
         replace p185 := eq_true p185
         replace q185 := eq_true q185
         refine start_ (n := 13) (S := fun w' => w'.cell? (ad184.add ((a1).toNat * 9)) = some (.int .i64 ((rd_T38 l0 a1).f0)) ∧ w'.cell? ⟨(ad184.add ((a1).toNat * 9)).block, (ad184.add ((a1).toNat * 9)).off + 1, none⟩ = some (.int .i64 ((rd_T38 l0 a1).f1)) ∧ w'.cell? ⟨(ad184.add ((a1).toNat * 9)).block, (ad184.add ((a1).toNat * 9)).off + 2, none⟩ = some (.string ((rd_T38 l0 a1).f2)) ∧ w'.cell? ⟨(ad184.add ((a1).toNat * 9)).block, (ad184.add ((a1).toNat * 9)).off + 3, none⟩ = some (.string ((rd_T38 l0 a1).f3)) ∧ w'.cell? ⟨(ad184.add ((a1).toNat * 9)).block, (ad184.add ((a1).toNat * 9)).off + 4, none⟩ = some (.string ((rd_T38 l0 a1).f4.f0)) ∧ w'.cell? ⟨(ad184.add ((a1).toNat * 9)).block, (ad184.add ((a1).toNat * 9)).off + 5, none⟩ = some (.slice A184_5 ((rd_T38 l0 a1).f4.f1).length c184_5) ∧ w'.cell? ⟨(ad184.add ((a1).toNat * 9)).block, (ad184.add ((a1).toNat * 9)).off + 6, none⟩ = some (.string ((rd_T38 l0 a1).f4.f2)) ∧ w'.cell? ⟨(ad184.add ((a1).toNat * 9)).block, (ad184.add ((a1).toNat * 9)).off + 7, none⟩ = some (.string ((rd_T38 l0 a1).f5)) ∧ w'.cell? ⟨(ad184.add ((a1).toNat * 9)).block, (ad184.add ((a1).toNat * 9)).off + 8, none⟩ = some (.bool ((rd_T38 l0 a1).f6)) ∧ w'.cell? (ad184.add (((ji7)).toNat * 9)) = some (.int .i64 ((rd_T38 l0 (ji7)).f0)) ∧ w'.cell? ⟨(ad184.add (((ji7)).toNat * 9)).block, (ad184.add (((ji7)).toNat * 9)).off + 1, none⟩ = some (.int .i64 ((rd_T38 l0 (ji7)).f1)) ∧ w'.cell? ⟨(ad184.add (((ji7)).toNat * 9)).block, (ad184.add (((ji7)).toNat * 9)).off + 2, none⟩ = some (.string ((rd_T38 l0 (ji7)).f2)) ∧ w'.cell? ⟨(ad184.add (((ji7)).toNat * 9)).block, (ad184.add (((ji7)).toNat * 9)).off + 3, none⟩ = some (.string ((rd_T38 l0 (ji7)).f3)) ∧ w'.cell? ⟨(ad184.add (((ji7)).toNat * 9)).block, (ad184.add (((ji7)).toNat * 9)).off + 4, none⟩ = some (.string ((rd_T38 l0 (ji7)).f4.f0)) ∧ w'.cell? ⟨(ad184.add (((ji7)).toNat * 9)).block, (ad184.add (((ji7)).toNat * 9)).off + 5, none⟩ = some (.slice A185_5 ((rd_T38 l0 (ji7)).f4.f1).length c185_5) ∧ w'.cell? ⟨(ad184.add (((ji7)).toNat * 9)).block, (ad184.add (((ji7)).toNat * 9)).off + 6, none⟩ = some (.string ((rd_T38 l0 (ji7)).f4.f2)) ∧ w'.cell? ⟨(ad184.add (((ji7)).toNat * 9)).block, (ad184.add (((ji7)).toNat * 9)).off + 7, none⟩ = some (.string ((rd_T38 l0 (ji7)).f5)) ∧ w'.cell? ⟨(ad184.add (((ji7)).toNat * 9)).block, (ad184.add (((ji7)).toNat * 9)).off + 8, none⟩ = some (.bool ((rd_T38 l0 (ji7)).f6))) (ds := []) #[false, false, false, false, false, false, false, false, false, false, false, false, false] (by kernel_rfl) rfl rfl ⟨((HB.out.cell (World.block_lt_of_cell? w _ hw184_0)).trans hw184_0), ((HB.out.cell (World.block_lt_of_cell? w _ hw184_1)).trans hw184_1), ((HB.out.cell (World.block_lt_of_cell? w _ hw184_2)).trans hw184_2), ((HB.out.cell (World.block_lt_of_cell? w _ hw184_3)).trans hw184_3), ((HB.out.cell (World.block_lt_of_cell? w _ hw184_4)).trans hw184_4), ((HB.out.cell (World.block_lt_of_cell? w _ hw184_5)).trans hw184_5), ((HB.out.cell (World.block_lt_of_cell? w _ hw184_6)).trans hw184_6), ((HB.out.cell (World.block_lt_of_cell? w _ hw184_7)).trans hw184_7), ((HB.out.cell (World.block_lt_of_cell? w _ hw184_8)).trans hw184_8), ((HB.out.cell (World.block_lt_of_cell? w _ hw185_0)).trans hw185_0), ((HB.out.cell (World.block_lt_of_cell? w _ hw185_1)).trans hw185_1), ((HB.out.cell (World.block_lt_of_cell? w _ hw185_2)).trans hw185_2), ((HB.out.cell (World.block_lt_of_cell? w _ hw185_3)).trans hw185_3), ((HB.out.cell (World.block_lt_of_cell? w _ hw185_4)).trans hw185_4), ((HB.out.cell (World.block_lt_of_cell? w _ hw185_5)).trans hw185_5), ((HB.out.cell (World.block_lt_of_cell? w _ hw185_6)).trans hw185_6), ((HB.out.cell (World.block_lt_of_cell? w _ hw185_7)).trans hw185_7), ((HB.out.cell (World.block_lt_of_cell? w _ hw185_8)).trans hw185_8)⟩ (fun hHeld => ?_); refine with_tabW filter_follows.tab3 filter_follows.bits3 (fun HT_ HW_ => ?_)
         generalize w.drew = w26 at HB HR184_5 HR185_5 hx184_0 hx184_1 hx184_2 hx184_3 hx184_4 hx184_5 hx184_6 hx184_7 hx184_8 hx185_0 hx185_1 hx185_2 hx185_3 hx185_4 hx185_5 hx185_6 hx185_7 hx185_8 hHeld ⊢
         refine pure_ (i := 0) (N := some 14) (v := ?_) (a' := ?_) #[true, false, false, false, false, false, false, false, false, false, false, false, false] rfl rfl (any_of HT_.out (by kernel_rfl)) (fun _ _ _ h => h) (Or.inl ⟨by rfl, ?_⟩) ?_ ?_
         rotate_left
         ·intro w'
          go_simp
          with_reducible rfl
         rotate_left
         ·simp only [Act.put, List.setIfInBounds_toArray, List.set_cons_zero, List.set_cons_succ, i64_w, i32_w]
          rfl
         refine pure_ (i := 1) (N := some 15) (v := ?_) (a' := ?_) #[true, true, false, false, false, false, false, false, false, false, false, false, false] rfl rfl (any_of HT_.out (by kernel_rfl)) (fun _ _ _ h => h) (Or.inl ⟨by rfl, ?_⟩) ?_ ?_
         rotate_left
         ·intro w'
          go_simp
          with_reducible rfl
         rotate_left
         ·simp only [Act.put, List.setIfInBounds_toArray, List.set_cons_zero, List.set_cons_succ, i64_w, i32_w]
          rfl
         refine pure_ (i := 2) (N := some 16) (v := ?_) (a' := ?_) #[true, true, true, false, false, false, false, false, false, false, false, false, false] rfl rfl (any_of HT_.out (by kernel_rfl)) (fun _ _ _ h => h) (Or.inl ⟨by rfl, ?_⟩) ?_ ?_
         rotate_left
         ·intro w'
          go_simp
          with_reducible rfl
         rotate_left
         ·simp only [Act.put, List.setIfInBounds_toArray, List.set_cons_zero, List.set_cons_succ, i64_w, i32_w]
          rfl
         refine pure_ (i := 3) (N := some 17) (v := ?_) (a' := ?_) #[true, true, true, true, false, false, false, false, false, false, false, false, false] rfl rfl (any_of HT_.out (by kernel_rfl)) (fun _ _ _ h => h) (Or.inl ⟨by rfl, ?_⟩) ?_ ?_
         rotate_left
         ·intro w'
          go_simp
          with_reducible rfl
         rotate_left
         ·simp only [Act.put, List.setIfInBounds_toArray, List.set_cons_zero, List.set_cons_succ, i64_w, i32_w]
          rfl
         refine pure_ (i := 5) (N := some 19) (v := ?_) (a' := ?_) #[true, true, true, true, false, true, false, false, false, false, false, false, false] rfl rfl (any_of HT_.out (by kernel_rfl)) (fun _ _ _ h => h) (Or.inl ⟨by rfl, ?_⟩) ?_ ?_
         rotate_left
         ·intro w'
          go_simp
          with_reducible rfl
         rotate_left
         ·simp only [Act.put, List.setIfInBounds_toArray, List.set_cons_zero, List.set_cons_succ, i64_w, i32_w]
          rfl
         refine pure_ (i := 6) (N := some 20) (v := ?_) (a' := ?_) #[true, true, true, true, false, true, true, false, false, false, false, false, false] rfl rfl (any_of HT_.out (by kernel_rfl)) (fun _ _ _ h => h) (Or.inl ⟨by rfl, ?_⟩) ?_ ?_
         rotate_left
         ·intro w'
          go_simp
          with_reducible rfl
         rotate_left
         ·simp only [Act.put, List.setIfInBounds_toArray, List.set_cons_zero, List.set_cons_succ, i64_w, i32_w]
          rfl
         refine pure_ (i := 7) (N := some 21) (v := ?_) (a' := ?_) #[true, true, true, true, false, true, true, true, false, false, false, false, false] rfl rfl (any_of HT_.out (by kernel_rfl)) (fun _ _ _ h => h) (Or.inl ⟨by rfl, ?_⟩) ?_ ?_
         rotate_left
         ·intro w'
          go_simp
          with_reducible rfl
         rotate_left
         ·simp only [Act.put, List.setIfInBounds_toArray, List.set_cons_zero, List.set_cons_succ, i64_w, i32_w]
          rfl
         refine pure_ (i := 8) (N := some 22) (v := ?_) (a' := ?_) #[true, true, true, true, false, true, true, true, true, false, false, false, false] rfl rfl (any_of HT_.out (by kernel_rfl)) (fun _ _ _ h => h) (Or.inl ⟨by rfl, ?_⟩) ?_ ?_
         rotate_left
         ·intro w'
          go_simp
          with_reducible rfl
         rotate_left
         ·simp only [Act.put, List.setIfInBounds_toArray, List.set_cons_zero, List.set_cons_succ, i64_w, i32_w]
          rfl
         refine take_ (i := 4) (N := some 18) (v := ?_) (a' := ?_) #[true, true, true, true, true, true, true, true, true, false, false, false, false] rfl rfl (take_ofW HT_.out HW_.out (by kernel_rfl)) (fun _ _ _ h => h) (Or.inl ⟨by rfl, ?_⟩) hHeld ?_ ?_
         rotate_left
         ·rintro w' ⟨s0, s1, s2, s3, s4, s5, s6, s7, s8, s9, s10, s11, s12, s13, s14, s15, s16, s17⟩
          go_simp
          with_reducible rfl
         rotate_left
         ·simp only [Act.put, List.setIfInBounds_toArray, List.set_cons_zero, List.set_cons_succ, i64_w, i32_w]
          rfl
         refine take_ (i := 9) (N := some 23) (v := ?_) (a' := ?_) #[true, true, true, true, true, true, true, true, true, true, false, false, false] rfl rfl (take_ofW HT_.out HW_.out (by kernel_rfl)) (fun _ _ _ h => h) (Or.inl ⟨by rfl, ?_⟩) hHeld ?_ ?_
         rotate_left
         ·rintro w' ⟨s0, s1, s2, s3, s4, s5, s6, s7, s8, s9, s10, s11, s12, s13, s14, s15, s16, s17⟩
          go_simp
          with_reducible rfl
         rotate_left
         ·simp only [Act.put, List.setIfInBounds_toArray, List.set_cons_zero, List.set_cons_succ, i64_w, i32_w]
          rfl
         refine one_ (i := 10) (N := some 6) #[true, true, true, true, true, true, true, true, true, true, true, false, false] rfl rfl (one_of HT_.out (by kernel_rfl)) (by decide) (fun K hK => ?_)
         refine box_step ?hg (N := 6) ?hd (cs := #[.int .i64 0, .int .i64 0, .string (⟨#[]⟩ : ByteArray), .string (⟨#[]⟩ : ByteArray), .string (⟨#[]⟩ : ByteArray), .slice none 0 0, .string (⟨#[]⟩ : ByteArray), .string (⟨#[]⟩ : ByteArray), .bool false]) (t := 38) ?hr ?_; (case hd => rfl); (case hg => rfl); (case hr => first | (go_simp; done) | (go_simp; rfl))
         intro gb186 hg w27 hbox hb
         have n0_ := Aside0.mk (below_step (by repeat (first | (with_reducible first | exact HB.out | apply below_alloc | apply pw_below_drewN | apply below_drew1) | exact HB.out)) hb)
         have n1_ := Aside0.mk (hbox)
         have n2_ := Aside0.mk ((by rw [hg]; exact (below_size (by repeat (first | (with_reducible first | exact HB.out | apply below_alloc | apply pw_below_drewN | apply below_drew1) | exact HB.out))) : w.heap.size ≤ gb186))
         have n3_ := Aside0.mk ((by rw [hg]; exact (below_size (by repeat (first | (with_reducible first | exact HB.out | apply below_alloc | apply pw_below_drewN | apply below_drew1) | exact HB.out))) : w.heap.size ≤ gb186))
         clear HB
         have HB := n0_
         have BK186 := n1_
         have GW186 := n2_
         have GE186 := n3_
         clear n0_ n1_ n2_ n3_
         clear hb hbox hg
         refine hK.out _ _ ⟨((HB.out.cell (World.block_lt_of_cell? w _ hw184_0)).trans hw184_0), ((HB.out.cell (World.block_lt_of_cell? w _ hw184_1)).trans hw184_1), ((HB.out.cell (World.block_lt_of_cell? w _ hw184_2)).trans hw184_2), ((HB.out.cell (World.block_lt_of_cell? w _ hw184_3)).trans hw184_3), ((HB.out.cell (World.block_lt_of_cell? w _ hw184_4)).trans hw184_4), ((HB.out.cell (World.block_lt_of_cell? w _ hw184_5)).trans hw184_5), ((HB.out.cell (World.block_lt_of_cell? w _ hw184_6)).trans hw184_6), ((HB.out.cell (World.block_lt_of_cell? w _ hw184_7)).trans hw184_7), ((HB.out.cell (World.block_lt_of_cell? w _ hw184_8)).trans hw184_8), ((HB.out.cell (World.block_lt_of_cell? w _ hw185_0)).trans hw185_0), ((HB.out.cell (World.block_lt_of_cell? w _ hw185_1)).trans hw185_1), ((HB.out.cell (World.block_lt_of_cell? w _ hw185_2)).trans hw185_2), ((HB.out.cell (World.block_lt_of_cell? w _ hw185_3)).trans hw185_3), ((HB.out.cell (World.block_lt_of_cell? w _ hw185_4)).trans hw185_4), ((HB.out.cell (World.block_lt_of_cell? w _ hw185_5)).trans hw185_5), ((HB.out.cell (World.block_lt_of_cell? w _ hw185_6)).trans hw185_6), ((HB.out.cell (World.block_lt_of_cell? w _ hw185_7)).trans hw185_7), ((HB.out.cell (World.block_lt_of_cell? w _ hw185_8)).trans hw185_8)⟩ (fun hHeld => ?_)
         clear hK K
         refine norm_ (a' := ?_) ?_ ?_
         rotate_left
         ·show Act.put _ (some 6) _ = _
          simp only [Act.put, List.setIfInBounds_toArray, List.set_cons_zero, List.set_cons_succ, i64_w, i32_w]
          rfl
         refine pure_ (i := 11) (N := some 5) (v := ?_) (a' := ?_) #[true, true, true, true, true, true, true, true, true, true, true, true, false] rfl rfl (any_of HT_.out (by kernel_rfl)) (fun _ _ _ h => h) (Or.inl ⟨by rfl, ?_⟩) ?_ ?_
         rotate_left
         ·intro w'
          go_simp
          with_reducible rfl
         rotate_left
         ·simp only [Act.put, List.setIfInBounds_toArray, List.set_cons_zero, List.set_cons_succ, i64_w, i32_w]
          rfl
         refine one_ (i := 12) (N := none) #[true, true, true, true, true, true, true, true, true, true, true, true, true] rfl rfl (one_of HT_.out (by kernel_rfl)) (by decide) (fun K hK => ?_)
         have hs28 : w27.cell? ⟨gb186, 0, none⟩ = some (.int .i64 0) := (blk_cell BK186.out 0).trans rfl
         have hfs28 := blk_frozen BK186.out 0
         have hs29 : w27.cell? ⟨gb186, 1, none⟩ = some (.int .i64 0) := (blk_cell BK186.out 1).trans rfl
         have hfs29 := blk_frozen BK186.out 1
         have hs30 : w27.cell? ⟨gb186, 2, none⟩ = some (.string (⟨#[]⟩ : ByteArray)) := (blk_cell BK186.out 2).trans rfl
         have hfs30 := blk_frozen BK186.out 2
         have hs31 : w27.cell? ⟨gb186, 3, none⟩ = some (.string (⟨#[]⟩ : ByteArray)) := (blk_cell BK186.out 3).trans rfl
         have hfs31 := blk_frozen BK186.out 3
         have hs32 : w27.cell? ⟨gb186, 4, none⟩ = some (.string (⟨#[]⟩ : ByteArray)) := (blk_cell BK186.out 4).trans rfl
         have hfs32 := blk_frozen BK186.out 4
         have hs33 : w27.cell? ⟨gb186, 5, none⟩ = some (.slice none 0 0) := (blk_cell BK186.out 5).trans rfl
         have hfs33 := blk_frozen BK186.out 5
         have hs34 : w27.cell? ⟨gb186, 6, none⟩ = some (.string (⟨#[]⟩ : ByteArray)) := (blk_cell BK186.out 6).trans rfl
         have hfs34 := blk_frozen BK186.out 6
         have hs35 : w27.cell? ⟨gb186, 7, none⟩ = some (.string (⟨#[]⟩ : ByteArray)) := (blk_cell BK186.out 7).trans rfl
         have hfs35 := blk_frozen BK186.out 7
         have hs36 : w27.cell? ⟨gb186, 8, none⟩ = some (.bool false) := (blk_cell BK186.out 8).trans rfl
         have hfs36 := blk_frozen BK186.out 8
         refine skip_ (w1 := ?_) (by rfl) rfl ?_ ?_
         rotate_left
         ·go_simp
          rfl
         refine hK.out _ _ ⟨((cfar9_ (g := gb186) (Nat.ne_of_lt (Nat.lt_of_lt_of_le (World.block_lt_of_cell? _ _ hw184_0) GW186.out))).trans (hHeld.1)), ((cfar9_ (g := gb186) (Nat.ne_of_lt (Nat.lt_of_lt_of_le (World.block_lt_of_cell? _ _ hw184_1) GW186.out))).trans (hHeld.2.1)), ((cfar9_ (g := gb186) (Nat.ne_of_lt (Nat.lt_of_lt_of_le (World.block_lt_of_cell? _ _ hw184_2) GW186.out))).trans (hHeld.2.2.1)), ((cfar9_ (g := gb186) (Nat.ne_of_lt (Nat.lt_of_lt_of_le (World.block_lt_of_cell? _ _ hw184_3) GW186.out))).trans (hHeld.2.2.2.1)), ((cfar9_ (g := gb186) (Nat.ne_of_lt (Nat.lt_of_lt_of_le (World.block_lt_of_cell? _ _ hw184_4) GW186.out))).trans (hHeld.2.2.2.2.1)), ((cfar9_ (g := gb186) (Nat.ne_of_lt (Nat.lt_of_lt_of_le (World.block_lt_of_cell? _ _ hw184_5) GW186.out))).trans (hHeld.2.2.2.2.2.1)), ((cfar9_ (g := gb186) (Nat.ne_of_lt (Nat.lt_of_lt_of_le (World.block_lt_of_cell? _ _ hw184_6) GW186.out))).trans (hHeld.2.2.2.2.2.2.1)), ((cfar9_ (g := gb186) (Nat.ne_of_lt (Nat.lt_of_lt_of_le (World.block_lt_of_cell? _ _ hw184_7) GW186.out))).trans (hHeld.2.2.2.2.2.2.2.1)), ((cfar9_ (g := gb186) (Nat.ne_of_lt (Nat.lt_of_lt_of_le (World.block_lt_of_cell? _ _ hw184_8) GW186.out))).trans (hHeld.2.2.2.2.2.2.2.2.1)), ((cfar9_ (g := gb186) (Nat.ne_of_lt (Nat.lt_of_lt_of_le (World.block_lt_of_cell? _ _ hw185_0) GW186.out))).trans (hHeld.2.2.2.2.2.2.2.2.2.1)), ((cfar9_ (g := gb186) (Nat.ne_of_lt (Nat.lt_of_lt_of_le (World.block_lt_of_cell? _ _ hw185_1) GW186.out))).trans (hHeld.2.2.2.2.2.2.2.2.2.2.1)), ((cfar9_ (g := gb186) (Nat.ne_of_lt (Nat.lt_of_lt_of_le (World.block_lt_of_cell? _ _ hw185_2) GW186.out))).trans (hHeld.2.2.2.2.2.2.2.2.2.2.2.1)), ((cfar9_ (g := gb186) (Nat.ne_of_lt (Nat.lt_of_lt_of_le (World.block_lt_of_cell? _ _ hw185_3) GW186.out))).trans (hHeld.2.2.2.2.2.2.2.2.2.2.2.2.1)), ((cfar9_ (g := gb186) (Nat.ne_of_lt (Nat.lt_of_lt_of_le (World.block_lt_of_cell? _ _ hw185_4) GW186.out))).trans (hHeld.2.2.2.2.2.2.2.2.2.2.2.2.2.1)), ((cfar9_ (g := gb186) (Nat.ne_of_lt (Nat.lt_of_lt_of_le (World.block_lt_of_cell? _ _ hw185_5) GW186.out))).trans (hHeld.2.2.2.2.2.2.2.2.2.2.2.2.2.2.1)), ((cfar9_ (g := gb186) (Nat.ne_of_lt (Nat.lt_of_lt_of_le (World.block_lt_of_cell? _ _ hw185_6) GW186.out))).trans (hHeld.2.2.2.2.2.2.2.2.2.2.2.2.2.2.2.1)), ((cfar9_ (g := gb186) (Nat.ne_of_lt (Nat.lt_of_lt_of_le (World.block_lt_of_cell? _ _ hw185_7) GW186.out))).trans (hHeld.2.2.2.2.2.2.2.2.2.2.2.2.2.2.2.2.1)), ((cfar9_ (g := gb186) (Nat.ne_of_lt (Nat.lt_of_lt_of_le (World.block_lt_of_cell? _ _ hw185_8) GW186.out))).trans (hHeld.2.2.2.2.2.2.2.2.2.2.2.2.2.2.2.2.2))⟩ (fun hHeld => ?_)
         clear hK K
         refine done_ (done_of HT_.out (by kernel_rfl)) ?_
         obtain ⟨hcz37_0, hcz37_1, hcz37_2, hcz37_3, hcz37_4, hcz37_5, hcz37_6, hcz37_7, hcz37_8⟩ := cells9_ BK186.out
         obtain ⟨hfz37_0, hfz37_1, hfz37_2, hfz37_3, hfz37_4, hfz37_5, hfz37_6, hfz37_7, hfz37_8⟩ := frz9_ BK186.out
         try go_wp2_with (first | (go_at_call 15; (with_reducible refine (filter_holds.calls ((rd_T38 l0 (ji7)).f1) t187 _ A25.out).mono ?_); rintro e w' ⟨rfl, ⟨nd, rfl⟩⟩))
         go_ret
         exact ⟨by first | rfl | (simp [isEmpty_ne_]; done) | (simp [errW_none, errW_some] <;> rfl) | (simp only [← hji7]; first | rfl | (simp [errW_none, errW_some] <;> rfl)) | (simp [*, errW_none, errW_some] <;> rfl), by repeat (first | (with_reducible first | exact HB.out | apply below_alloc | apply pw_below_drewN | apply below_drew1 | refine below_set ?_ GE186.out) | exact HB.out)⟩
        ·rw [if_neg c24] at H
         have c24b0 : (((rd_T38 l0 a1).f0) == (wrap64 (((rd_T38 l0 (ji7)).f0) + 1))) = false := beq_eq_false_iff_ne.mpr c24
         have c24b1 : (((rd_T38 l0 a1).f0) != (wrap64 (((rd_T38 l0 (ji7)).f0) + 1))) = true := bne_iff_ne.mpr c24
         obtain rfl := Option.some.inj H
         go_enter Tryd.func23, Tryd.ntmps23
         try go_wp2
         have n0_ := Aside0.mk (below_drew1 HB.out)
         clear HB
         have HB := n0_
         clear n0_
         have p184 : 0 ≤ (a1 : Int) := of_decide_eq_true (by first | (with_reducible assumption) | assumption)
         have q184 : a1 < (l0.length : Int) := of_decide_eq_true (by first | (with_reducible assumption) | assumption)
         obtain ⟨ad184, A184_5, c184_5, e184, hx184_0, hx184_1, hx184_2, hx184_3, hx184_4, hx184_5, hx184_6, hx184_7, hx184_8, hl184_5, hi184_5⟩ := at_T38 HR0.out a1 p184 q184
         have hw184_8 := hx184_8
         have hw184_7 := hx184_7
         have hw184_6 := hx184_6
         have hw184_5 := hx184_5
         have hw184_4 := hx184_4
         have hw184_3 := hx184_3
         have hw184_2 := hx184_2
         have hw184_1 := hx184_1
         have hw184_0 := hx184_0
         cases e184
         replace hx184_0 := cellB_ HB.out hx184_0
         replace hx184_1 := cellB_ HB.out hx184_1
         replace hx184_2 := cellB_ HB.out hx184_2
         replace hx184_3 := cellB_ HB.out hx184_3
         replace hx184_4 := cellB_ HB.out hx184_4
         replace hx184_5 := cellB_ HB.out hx184_5
         replace hx184_6 := cellB_ HB.out hx184_6
         replace hx184_7 := cellB_ HB.out hx184_7
         replace hx184_8 := cellB_ HB.out hx184_8
         have HR184_5 := Aside0.mk hi184_5
         have HC184_5 := Aside0.mk hl184_5
         clear hi184_5 hl184_5
         replace p184 := eq_true p184
         replace q184 := eq_true q184
         have p185 : 0 ≤ ((ji7) : Int) := of_decide_eq_true (by first | (with_reducible assumption) | assumption)
         have q185 : (ji7) < (l0.length : Int) := of_decide_eq_true (by first | (with_reducible assumption) | assumption)
         obtain ⟨ad185, A185_5, c185_5, e185, hx185_0, hx185_1, hx185_2, hx185_3, hx185_4, hx185_5, hx185_6, hx185_7, hx185_8, hl185_5, hi185_5⟩ := at_T38 HR0.out (ji7) p185 q185
         have hw185_8 := hx185_8
         have hw185_7 := hx185_7
         have hw185_6 := hx185_6
         have hw185_5 := hx185_5
         have hw185_4 := hx185_4
         have hw185_3 := hx185_3
         have hw185_2 := hx185_2
         have hw185_1 := hx185_1
         have hw185_0 := hx185_0
         obtain rfl : ad184 = ad185 := (by injection e185)
         replace hx185_0 := cellB_ HB.out hx185_0
         replace hx185_1 := cellB_ HB.out hx185_1
         replace hx185_2 := cellB_ HB.out hx185_2
         replace hx185_3 := cellB_ HB.out hx185_3
         replace hx185_4 := cellB_ HB.out hx185_4
         replace hx185_5 := cellB_ HB.out hx185_5
         replace hx185_6 := cellB_ HB.out hx185_6
         replace hx185_7 := cellB_ HB.out hx185_7
         replace hx185_8 := cellB_ HB.out hx185_8
         have HR185_5 := Aside0.mk hi185_5
         have HC185_5 := Aside0.mk hl185_5
         clear hi185_5 hl185_5
         replace p185 := eq_true p185
         replace q185 := eq_true q185
         refine start_ (n := 13) (S := fun w' => w'.cell? (ad184.add ((a1).toNat * 9)) = some (.int .i64 ((rd_T38 l0 a1).f0)) ∧ w'.cell? ⟨(ad184.add ((a1).toNat * 9)).block, (ad184.add ((a1).toNat * 9)).off + 1, none⟩ = some (.int .i64 ((rd_T38 l0 a1).f1)) ∧ w'.cell? ⟨(ad184.add ((a1).toNat * 9)).block, (ad184.add ((a1).toNat * 9)).off + 2, none⟩ = some (.string ((rd_T38 l0 a1).f2)) ∧ w'.cell? ⟨(ad184.add ((a1).toNat * 9)).block, (ad184.add ((a1).toNat * 9)).off + 3, none⟩ = some (.string ((rd_T38 l0 a1).f3)) ∧ w'.cell? ⟨(ad184.add ((a1).toNat * 9)).block, (ad184.add ((a1).toNat * 9)).off + 4, none⟩ = some (.string ((rd_T38 l0 a1).f4.f0)) ∧ w'.cell? ⟨(ad184.add ((a1).toNat * 9)).block, (ad184.add ((a1).toNat * 9)).off + 5, none⟩ = some (.slice A184_5 ((rd_T38 l0 a1).f4.f1).length c184_5) ∧ w'.cell? ⟨(ad184.add ((a1).toNat * 9)).block, (ad184.add ((a1).toNat * 9)).off + 6, none⟩ = some (.string ((rd_T38 l0 a1).f4.f2)) ∧ w'.cell? ⟨(ad184.add ((a1).toNat * 9)).block, (ad184.add ((a1).toNat * 9)).off + 7, none⟩ = some (.string ((rd_T38 l0 a1).f5)) ∧ w'.cell? ⟨(ad184.add ((a1).toNat * 9)).block, (ad184.add ((a1).toNat * 9)).off + 8, none⟩ = some (.bool ((rd_T38 l0 a1).f6)) ∧ w'.cell? (ad184.add (((ji7)).toNat * 9)) = some (.int .i64 ((rd_T38 l0 (ji7)).f0)) ∧ w'.cell? ⟨(ad184.add (((ji7)).toNat * 9)).block, (ad184.add (((ji7)).toNat * 9)).off + 1, none⟩ = some (.int .i64 ((rd_T38 l0 (ji7)).f1)) ∧ w'.cell? ⟨(ad184.add (((ji7)).toNat * 9)).block, (ad184.add (((ji7)).toNat * 9)).off + 2, none⟩ = some (.string ((rd_T38 l0 (ji7)).f2)) ∧ w'.cell? ⟨(ad184.add (((ji7)).toNat * 9)).block, (ad184.add (((ji7)).toNat * 9)).off + 3, none⟩ = some (.string ((rd_T38 l0 (ji7)).f3)) ∧ w'.cell? ⟨(ad184.add (((ji7)).toNat * 9)).block, (ad184.add (((ji7)).toNat * 9)).off + 4, none⟩ = some (.string ((rd_T38 l0 (ji7)).f4.f0)) ∧ w'.cell? ⟨(ad184.add (((ji7)).toNat * 9)).block, (ad184.add (((ji7)).toNat * 9)).off + 5, none⟩ = some (.slice A185_5 ((rd_T38 l0 (ji7)).f4.f1).length c185_5) ∧ w'.cell? ⟨(ad184.add (((ji7)).toNat * 9)).block, (ad184.add (((ji7)).toNat * 9)).off + 6, none⟩ = some (.string ((rd_T38 l0 (ji7)).f4.f2)) ∧ w'.cell? ⟨(ad184.add (((ji7)).toNat * 9)).block, (ad184.add (((ji7)).toNat * 9)).off + 7, none⟩ = some (.string ((rd_T38 l0 (ji7)).f5)) ∧ w'.cell? ⟨(ad184.add (((ji7)).toNat * 9)).block, (ad184.add (((ji7)).toNat * 9)).off + 8, none⟩ = some (.bool ((rd_T38 l0 (ji7)).f6))) (ds := []) #[false, false, false, false, false, false, false, false, false, false, false, false, false] (by kernel_rfl) rfl rfl ⟨((HB.out.cell (World.block_lt_of_cell? w _ hw184_0)).trans hw184_0), ((HB.out.cell (World.block_lt_of_cell? w _ hw184_1)).trans hw184_1), ((HB.out.cell (World.block_lt_of_cell? w _ hw184_2)).trans hw184_2), ((HB.out.cell (World.block_lt_of_cell? w _ hw184_3)).trans hw184_3), ((HB.out.cell (World.block_lt_of_cell? w _ hw184_4)).trans hw184_4), ((HB.out.cell (World.block_lt_of_cell? w _ hw184_5)).trans hw184_5), ((HB.out.cell (World.block_lt_of_cell? w _ hw184_6)).trans hw184_6), ((HB.out.cell (World.block_lt_of_cell? w _ hw184_7)).trans hw184_7), ((HB.out.cell (World.block_lt_of_cell? w _ hw184_8)).trans hw184_8), ((HB.out.cell (World.block_lt_of_cell? w _ hw185_0)).trans hw185_0), ((HB.out.cell (World.block_lt_of_cell? w _ hw185_1)).trans hw185_1), ((HB.out.cell (World.block_lt_of_cell? w _ hw185_2)).trans hw185_2), ((HB.out.cell (World.block_lt_of_cell? w _ hw185_3)).trans hw185_3), ((HB.out.cell (World.block_lt_of_cell? w _ hw185_4)).trans hw185_4), ((HB.out.cell (World.block_lt_of_cell? w _ hw185_5)).trans hw185_5), ((HB.out.cell (World.block_lt_of_cell? w _ hw185_6)).trans hw185_6), ((HB.out.cell (World.block_lt_of_cell? w _ hw185_7)).trans hw185_7), ((HB.out.cell (World.block_lt_of_cell? w _ hw185_8)).trans hw185_8)⟩ (fun hHeld => ?_); refine with_tabW filter_follows.tab3 filter_follows.bits3 (fun HT_ HW_ => ?_)
         generalize w.drew = w38 at HB HR184_5 HR185_5 hx184_0 hx184_1 hx184_2 hx184_3 hx184_4 hx184_5 hx184_6 hx184_7 hx184_8 hx185_0 hx185_1 hx185_2 hx185_3 hx185_4 hx185_5 hx185_6 hx185_7 hx185_8 hHeld ⊢
         refine pure_ (i := 0) (N := some 14) (v := ?_) (a' := ?_) #[true, false, false, false, false, false, false, false, false, false, false, false, false] rfl rfl (any_of HT_.out (by kernel_rfl)) (fun _ _ _ h => h) (Or.inl ⟨by rfl, ?_⟩) ?_ ?_
         rotate_left
         ·intro w'
          go_simp
          with_reducible rfl
         rotate_left
         ·simp only [Act.put, List.setIfInBounds_toArray, List.set_cons_zero, List.set_cons_succ, i64_w, i32_w]
          rfl
         refine pure_ (i := 1) (N := some 15) (v := ?_) (a' := ?_) #[true, true, false, false, false, false, false, false, false, false, false, false, false] rfl rfl (any_of HT_.out (by kernel_rfl)) (fun _ _ _ h => h) (Or.inl ⟨by rfl, ?_⟩) ?_ ?_
         rotate_left
         ·intro w'
          go_simp
          with_reducible rfl
         rotate_left
         ·simp only [Act.put, List.setIfInBounds_toArray, List.set_cons_zero, List.set_cons_succ, i64_w, i32_w]
          rfl
         refine pure_ (i := 2) (N := some 16) (v := ?_) (a' := ?_) #[true, true, true, false, false, false, false, false, false, false, false, false, false] rfl rfl (any_of HT_.out (by kernel_rfl)) (fun _ _ _ h => h) (Or.inl ⟨by rfl, ?_⟩) ?_ ?_
         rotate_left
         ·intro w'
          go_simp
          with_reducible rfl
         rotate_left
         ·simp only [Act.put, List.setIfInBounds_toArray, List.set_cons_zero, List.set_cons_succ, i64_w, i32_w]
          rfl
         refine pure_ (i := 3) (N := some 17) (v := ?_) (a' := ?_) #[true, true, true, true, false, false, false, false, false, false, false, false, false] rfl rfl (any_of HT_.out (by kernel_rfl)) (fun _ _ _ h => h) (Or.inl ⟨by rfl, ?_⟩) ?_ ?_
         rotate_left
         ·intro w'
          go_simp
          with_reducible rfl
         rotate_left
         ·simp only [Act.put, List.setIfInBounds_toArray, List.set_cons_zero, List.set_cons_succ, i64_w, i32_w]
          rfl
         refine pure_ (i := 5) (N := some 19) (v := ?_) (a' := ?_) #[true, true, true, true, false, true, false, false, false, false, false, false, false] rfl rfl (any_of HT_.out (by kernel_rfl)) (fun _ _ _ h => h) (Or.inl ⟨by rfl, ?_⟩) ?_ ?_
         rotate_left
         ·intro w'
          go_simp
          with_reducible rfl
         rotate_left
         ·simp only [Act.put, List.setIfInBounds_toArray, List.set_cons_zero, List.set_cons_succ, i64_w, i32_w]
          rfl
         refine pure_ (i := 6) (N := some 20) (v := ?_) (a' := ?_) #[true, true, true, true, false, true, true, false, false, false, false, false, false] rfl rfl (any_of HT_.out (by kernel_rfl)) (fun _ _ _ h => h) (Or.inl ⟨by rfl, ?_⟩) ?_ ?_
         rotate_left
         ·intro w'
          go_simp
          with_reducible rfl
         rotate_left
         ·simp only [Act.put, List.setIfInBounds_toArray, List.set_cons_zero, List.set_cons_succ, i64_w, i32_w]
          rfl
         refine pure_ (i := 7) (N := some 21) (v := ?_) (a' := ?_) #[true, true, true, true, false, true, true, true, false, false, false, false, false] rfl rfl (any_of HT_.out (by kernel_rfl)) (fun _ _ _ h => h) (Or.inl ⟨by rfl, ?_⟩) ?_ ?_
         rotate_left
         ·intro w'
          go_simp
          with_reducible rfl
         rotate_left
         ·simp only [Act.put, List.setIfInBounds_toArray, List.set_cons_zero, List.set_cons_succ, i64_w, i32_w]
          rfl
         refine pure_ (i := 8) (N := some 22) (v := ?_) (a' := ?_) #[true, true, true, true, false, true, true, true, true, false, false, false, false] rfl rfl (any_of HT_.out (by kernel_rfl)) (fun _ _ _ h => h) (Or.inl ⟨by rfl, ?_⟩) ?_ ?_
         rotate_left
         ·intro w'
          go_simp
          with_reducible rfl
         rotate_left
         ·simp only [Act.put, List.setIfInBounds_toArray, List.set_cons_zero, List.set_cons_succ, i64_w, i32_w]
          rfl
         refine take_ (i := 4) (N := some 18) (v := ?_) (a' := ?_) #[true, true, true, true, true, true, true, true, true, false, false, false, false] rfl rfl (take_ofW HT_.out HW_.out (by kernel_rfl)) (fun _ _ _ h => h) (Or.inl ⟨by rfl, ?_⟩) hHeld ?_ ?_
         rotate_left
         ·rintro w' ⟨s0, s1, s2, s3, s4, s5, s6, s7, s8, s9, s10, s11, s12, s13, s14, s15, s16, s17⟩
          go_simp
          with_reducible rfl
         rotate_left
         ·simp only [Act.put, List.setIfInBounds_toArray, List.set_cons_zero, List.set_cons_succ, i64_w, i32_w]
          rfl
         refine take_ (i := 9) (N := some 23) (v := ?_) (a' := ?_) #[true, true, true, true, true, true, true, true, true, true, false, false, false] rfl rfl (take_ofW HT_.out HW_.out (by kernel_rfl)) (fun _ _ _ h => h) (Or.inl ⟨by rfl, ?_⟩) hHeld ?_ ?_
         rotate_left
         ·rintro w' ⟨s0, s1, s2, s3, s4, s5, s6, s7, s8, s9, s10, s11, s12, s13, s14, s15, s16, s17⟩
          go_simp
          with_reducible rfl
         rotate_left
         ·simp only [Act.put, List.setIfInBounds_toArray, List.set_cons_zero, List.set_cons_succ, i64_w, i32_w]
          rfl
         refine one_ (i := 10) (N := some 6) #[true, true, true, true, true, true, true, true, true, true, true, false, false] rfl rfl (one_of HT_.out (by kernel_rfl)) (by decide) (fun K hK => ?_)
         refine box_step ?hg (N := 6) ?hd (cs := #[.int .i64 0, .int .i64 0, .string (⟨#[]⟩ : ByteArray), .string (⟨#[]⟩ : ByteArray), .string (⟨#[]⟩ : ByteArray), .slice none 0 0, .string (⟨#[]⟩ : ByteArray), .string (⟨#[]⟩ : ByteArray), .bool false]) (t := 38) ?hr ?_; (case hd => rfl); (case hg => rfl); (case hr => first | (go_simp; done) | (go_simp; rfl))
         intro gb186 hg w39 hbox hb
         have n0_ := Aside0.mk (below_step (by repeat (first | (with_reducible first | exact HB.out | apply below_alloc | apply pw_below_drewN | apply below_drew1) | exact HB.out)) hb)
         have n1_ := Aside0.mk (hbox)
         have n2_ := Aside0.mk ((by rw [hg]; exact (below_size (by repeat (first | (with_reducible first | exact HB.out | apply below_alloc | apply pw_below_drewN | apply below_drew1) | exact HB.out))) : w.heap.size ≤ gb186))
         have n3_ := Aside0.mk ((by rw [hg]; exact (below_size (by repeat (first | (with_reducible first | exact HB.out | apply below_alloc | apply pw_below_drewN | apply below_drew1) | exact HB.out))) : w.heap.size ≤ gb186))
         clear HB
         have HB := n0_
         have BK186 := n1_
         have GW186 := n2_
         have GE186 := n3_
         clear n0_ n1_ n2_ n3_
         clear hb hbox hg
         refine hK.out _ _ ⟨((HB.out.cell (World.block_lt_of_cell? w _ hw184_0)).trans hw184_0), ((HB.out.cell (World.block_lt_of_cell? w _ hw184_1)).trans hw184_1), ((HB.out.cell (World.block_lt_of_cell? w _ hw184_2)).trans hw184_2), ((HB.out.cell (World.block_lt_of_cell? w _ hw184_3)).trans hw184_3), ((HB.out.cell (World.block_lt_of_cell? w _ hw184_4)).trans hw184_4), ((HB.out.cell (World.block_lt_of_cell? w _ hw184_5)).trans hw184_5), ((HB.out.cell (World.block_lt_of_cell? w _ hw184_6)).trans hw184_6), ((HB.out.cell (World.block_lt_of_cell? w _ hw184_7)).trans hw184_7), ((HB.out.cell (World.block_lt_of_cell? w _ hw184_8)).trans hw184_8), ((HB.out.cell (World.block_lt_of_cell? w _ hw185_0)).trans hw185_0), ((HB.out.cell (World.block_lt_of_cell? w _ hw185_1)).trans hw185_1), ((HB.out.cell (World.block_lt_of_cell? w _ hw185_2)).trans hw185_2), ((HB.out.cell (World.block_lt_of_cell? w _ hw185_3)).trans hw185_3), ((HB.out.cell (World.block_lt_of_cell? w _ hw185_4)).trans hw185_4), ((HB.out.cell (World.block_lt_of_cell? w _ hw185_5)).trans hw185_5), ((HB.out.cell (World.block_lt_of_cell? w _ hw185_6)).trans hw185_6), ((HB.out.cell (World.block_lt_of_cell? w _ hw185_7)).trans hw185_7), ((HB.out.cell (World.block_lt_of_cell? w _ hw185_8)).trans hw185_8)⟩ (fun hHeld => ?_)
         clear hK K
         refine norm_ (a' := ?_) ?_ ?_
         rotate_left
         ·show Act.put _ (some 6) _ = _
          simp only [Act.put, List.setIfInBounds_toArray, List.set_cons_zero, List.set_cons_succ, i64_w, i32_w]
          rfl
         refine pure_ (i := 11) (N := some 5) (v := ?_) (a' := ?_) #[true, true, true, true, true, true, true, true, true, true, true, true, false] rfl rfl (any_of HT_.out (by kernel_rfl)) (fun _ _ _ h => h) (Or.inl ⟨by rfl, ?_⟩) ?_ ?_
         rotate_left
         ·intro w'
          go_simp
          with_reducible rfl
         rotate_left
         ·simp only [Act.put, List.setIfInBounds_toArray, List.set_cons_zero, List.set_cons_succ, i64_w, i32_w]
          rfl
         refine one_ (i := 12) (N := none) #[true, true, true, true, true, true, true, true, true, true, true, true, true] rfl rfl (one_of HT_.out (by kernel_rfl)) (by decide) (fun K hK => ?_)
         have hs40 : w39.cell? ⟨gb186, 0, none⟩ = some (.int .i64 0) := (blk_cell BK186.out 0).trans rfl
         have hfs40 := blk_frozen BK186.out 0
         have hs41 : w39.cell? ⟨gb186, 1, none⟩ = some (.int .i64 0) := (blk_cell BK186.out 1).trans rfl
         have hfs41 := blk_frozen BK186.out 1
         have hs42 : w39.cell? ⟨gb186, 2, none⟩ = some (.string (⟨#[]⟩ : ByteArray)) := (blk_cell BK186.out 2).trans rfl
         have hfs42 := blk_frozen BK186.out 2
         have hs43 : w39.cell? ⟨gb186, 3, none⟩ = some (.string (⟨#[]⟩ : ByteArray)) := (blk_cell BK186.out 3).trans rfl
         have hfs43 := blk_frozen BK186.out 3
         have hs44 : w39.cell? ⟨gb186, 4, none⟩ = some (.string (⟨#[]⟩ : ByteArray)) := (blk_cell BK186.out 4).trans rfl
         have hfs44 := blk_frozen BK186.out 4
         have hs45 : w39.cell? ⟨gb186, 5, none⟩ = some (.slice none 0 0) := (blk_cell BK186.out 5).trans rfl
         have hfs45 := blk_frozen BK186.out 5
         have hs46 : w39.cell? ⟨gb186, 6, none⟩ = some (.string (⟨#[]⟩ : ByteArray)) := (blk_cell BK186.out 6).trans rfl
         have hfs46 := blk_frozen BK186.out 6
         have hs47 : w39.cell? ⟨gb186, 7, none⟩ = some (.string (⟨#[]⟩ : ByteArray)) := (blk_cell BK186.out 7).trans rfl
         have hfs47 := blk_frozen BK186.out 7
         have hs48 : w39.cell? ⟨gb186, 8, none⟩ = some (.bool false) := (blk_cell BK186.out 8).trans rfl
         have hfs48 := blk_frozen BK186.out 8
         refine skip_ (w1 := ?_) (by rfl) rfl ?_ ?_
         rotate_left
         ·go_simp
          rfl
         refine hK.out _ _ ⟨((cfar9_ (g := gb186) (Nat.ne_of_lt (Nat.lt_of_lt_of_le (World.block_lt_of_cell? _ _ hw184_0) GW186.out))).trans (hHeld.1)), ((cfar9_ (g := gb186) (Nat.ne_of_lt (Nat.lt_of_lt_of_le (World.block_lt_of_cell? _ _ hw184_1) GW186.out))).trans (hHeld.2.1)), ((cfar9_ (g := gb186) (Nat.ne_of_lt (Nat.lt_of_lt_of_le (World.block_lt_of_cell? _ _ hw184_2) GW186.out))).trans (hHeld.2.2.1)), ((cfar9_ (g := gb186) (Nat.ne_of_lt (Nat.lt_of_lt_of_le (World.block_lt_of_cell? _ _ hw184_3) GW186.out))).trans (hHeld.2.2.2.1)), ((cfar9_ (g := gb186) (Nat.ne_of_lt (Nat.lt_of_lt_of_le (World.block_lt_of_cell? _ _ hw184_4) GW186.out))).trans (hHeld.2.2.2.2.1)), ((cfar9_ (g := gb186) (Nat.ne_of_lt (Nat.lt_of_lt_of_le (World.block_lt_of_cell? _ _ hw184_5) GW186.out))).trans (hHeld.2.2.2.2.2.1)), ((cfar9_ (g := gb186) (Nat.ne_of_lt (Nat.lt_of_lt_of_le (World.block_lt_of_cell? _ _ hw184_6) GW186.out))).trans (hHeld.2.2.2.2.2.2.1)), ((cfar9_ (g := gb186) (Nat.ne_of_lt (Nat.lt_of_lt_of_le (World.block_lt_of_cell? _ _ hw184_7) GW186.out))).trans (hHeld.2.2.2.2.2.2.2.1)), ((cfar9_ (g := gb186) (Nat.ne_of_lt (Nat.lt_of_lt_of_le (World.block_lt_of_cell? _ _ hw184_8) GW186.out))).trans (hHeld.2.2.2.2.2.2.2.2.1)), ((cfar9_ (g := gb186) (Nat.ne_of_lt (Nat.lt_of_lt_of_le (World.block_lt_of_cell? _ _ hw185_0) GW186.out))).trans (hHeld.2.2.2.2.2.2.2.2.2.1)), ((cfar9_ (g := gb186) (Nat.ne_of_lt (Nat.lt_of_lt_of_le (World.block_lt_of_cell? _ _ hw185_1) GW186.out))).trans (hHeld.2.2.2.2.2.2.2.2.2.2.1)), ((cfar9_ (g := gb186) (Nat.ne_of_lt (Nat.lt_of_lt_of_le (World.block_lt_of_cell? _ _ hw185_2) GW186.out))).trans (hHeld.2.2.2.2.2.2.2.2.2.2.2.1)), ((cfar9_ (g := gb186) (Nat.ne_of_lt (Nat.lt_of_lt_of_le (World.block_lt_of_cell? _ _ hw185_3) GW186.out))).trans (hHeld.2.2.2.2.2.2.2.2.2.2.2.2.1)), ((cfar9_ (g := gb186) (Nat.ne_of_lt (Nat.lt_of_lt_of_le (World.block_lt_of_cell? _ _ hw185_4) GW186.out))).trans (hHeld.2.2.2.2.2.2.2.2.2.2.2.2.2.1)), ((cfar9_ (g := gb186) (Nat.ne_of_lt (Nat.lt_of_lt_of_le (World.block_lt_of_cell? _ _ hw185_5) GW186.out))).trans (hHeld.2.2.2.2.2.2.2.2.2.2.2.2.2.2.1)), ((cfar9_ (g := gb186) (Nat.ne_of_lt (Nat.lt_of_lt_of_le (World.block_lt_of_cell? _ _ hw185_6) GW186.out))).trans (hHeld.2.2.2.2.2.2.2.2.2.2.2.2.2.2.2.1)), ((cfar9_ (g := gb186) (Nat.ne_of_lt (Nat.lt_of_lt_of_le (World.block_lt_of_cell? _ _ hw185_7) GW186.out))).trans (hHeld.2.2.2.2.2.2.2.2.2.2.2.2.2.2.2.2.1)), ((cfar9_ (g := gb186) (Nat.ne_of_lt (Nat.lt_of_lt_of_le (World.block_lt_of_cell? _ _ hw185_8) GW186.out))).trans (hHeld.2.2.2.2.2.2.2.2.2.2.2.2.2.2.2.2.2))⟩ (fun hHeld => ?_)
         clear hK K
         refine done_ (done_of HT_.out (by kernel_rfl)) ?_
         obtain ⟨hcz49_0, hcz49_1, hcz49_2, hcz49_3, hcz49_4, hcz49_5, hcz49_6, hcz49_7, hcz49_8⟩ := cells9_ BK186.out
         obtain ⟨hfz49_0, hfz49_1, hfz49_2, hfz49_3, hfz49_4, hfz49_5, hfz49_6, hfz49_7, hfz49_8⟩ := frz9_ BK186.out
         try go_wp2
         go_ret
         exact ⟨by first | rfl | (simp [isEmpty_ne_]; done) | (simp [errW_none, errW_some] <;> rfl) | (simp only [← hji7]; first | rfl | (simp [errW_none, errW_some] <;> rfl)) | (simp [*, errW_none, errW_some] <;> rfl), by repeat (first | (with_reducible first | exact HB.out | apply below_alloc | apply pw_below_drewN | apply below_drew1 | refine below_set ?_ GE186.out) | exact HB.out)⟩
      ·rw [if_neg c10] at H
       have c10b0 : decide (2 ≤ ((rd_T38 l0 a1).f0)) = false := decide_eq_false c10
       clear c10
       obtain rfl := Option.some.inj H
       go_enter Tryd.func23, Tryd.ntmps23
       try go_wp2
       have n0_ := Aside0.mk (below_drew1 HB.out)
       clear HB
       have HB := n0_
       clear n0_
       have p184 : 0 ≤ (a1 : Int) := of_decide_eq_true (by first | (with_reducible assumption) | assumption)
       have q184 : a1 < (l0.length : Int) := of_decide_eq_true (by first | (with_reducible assumption) | assumption)
       obtain ⟨ad184, A184_5, c184_5, e184, hx184_0, hx184_1, hx184_2, hx184_3, hx184_4, hx184_5, hx184_6, hx184_7, hx184_8, hl184_5, hi184_5⟩ := at_T38 HR0.out a1 p184 q184
       have hw184_8 := hx184_8
       have hw184_7 := hx184_7
       have hw184_6 := hx184_6
       have hw184_5 := hx184_5
       have hw184_4 := hx184_4
       have hw184_3 := hx184_3
       have hw184_2 := hx184_2
       have hw184_1 := hx184_1
       have hw184_0 := hx184_0
       cases e184
       replace hx184_0 := cellB_ HB.out hx184_0
       replace hx184_1 := cellB_ HB.out hx184_1
       replace hx184_2 := cellB_ HB.out hx184_2
       replace hx184_3 := cellB_ HB.out hx184_3
       replace hx184_4 := cellB_ HB.out hx184_4
       replace hx184_5 := cellB_ HB.out hx184_5
       replace hx184_6 := cellB_ HB.out hx184_6
       replace hx184_7 := cellB_ HB.out hx184_7
       replace hx184_8 := cellB_ HB.out hx184_8
       have HR184_5 := Aside0.mk hi184_5
       have HC184_5 := Aside0.mk hl184_5
       clear hi184_5 hl184_5
       replace p184 := eq_true p184
       replace q184 := eq_true q184
       have p185 : 0 ≤ ((ji7) : Int) := of_decide_eq_true (by first | (with_reducible assumption) | assumption)
       have q185 : (ji7) < (l0.length : Int) := of_decide_eq_true (by first | (with_reducible assumption) | assumption)
       obtain ⟨ad185, A185_5, c185_5, e185, hx185_0, hx185_1, hx185_2, hx185_3, hx185_4, hx185_5, hx185_6, hx185_7, hx185_8, hl185_5, hi185_5⟩ := at_T38 HR0.out (ji7) p185 q185
       have hw185_8 := hx185_8
       have hw185_7 := hx185_7
       have hw185_6 := hx185_6
       have hw185_5 := hx185_5
       have hw185_4 := hx185_4
       have hw185_3 := hx185_3
       have hw185_2 := hx185_2
       have hw185_1 := hx185_1
       have hw185_0 := hx185_0
       obtain rfl : ad184 = ad185 := (by injection e185)
       replace hx185_0 := cellB_ HB.out hx185_0
       replace hx185_1 := cellB_ HB.out hx185_1
       replace hx185_2 := cellB_ HB.out hx185_2
       replace hx185_3 := cellB_ HB.out hx185_3
       replace hx185_4 := cellB_ HB.out hx185_4
       replace hx185_5 := cellB_ HB.out hx185_5
       replace hx185_6 := cellB_ HB.out hx185_6
       replace hx185_7 := cellB_ HB.out hx185_7
       replace hx185_8 := cellB_ HB.out hx185_8
       have HR185_5 := Aside0.mk hi185_5
       have HC185_5 := Aside0.mk hl185_5
       clear hi185_5 hl185_5
       replace p185 := eq_true p185
       replace q185 := eq_true q185
       refine start_ (n := 13) (S := fun w' => w'.cell? (ad184.add ((a1).toNat * 9)) = some (.int .i64 ((rd_T38 l0 a1).f0)) ∧ w'.cell? ⟨(ad184.add ((a1).toNat * 9)).block, (ad184.add ((a1).toNat * 9)).off + 1, none⟩ = some (.int .i64 ((rd_T38 l0 a1).f1)) ∧ w'.cell? ⟨(ad184.add ((a1).toNat * 9)).block, (ad184.add ((a1).toNat * 9)).off + 2, none⟩ = some (.string ((rd_T38 l0 a1).f2)) ∧ w'.cell? ⟨(ad184.add ((a1).toNat * 9)).block, (ad184.add ((a1).toNat * 9)).off + 3, none⟩ = some (.string ((rd_T38 l0 a1).f3)) ∧ w'.cell? ⟨(ad184.add ((a1).toNat * 9)).block, (ad184.add ((a1).toNat * 9)).off + 4, none⟩ = some (.string ((rd_T38 l0 a1).f4.f0)) ∧ w'.cell? ⟨(ad184.add ((a1).toNat * 9)).block, (ad184.add ((a1).toNat * 9)).off + 5, none⟩ = some (.slice A184_5 ((rd_T38 l0 a1).f4.f1).length c184_5) ∧ w'.cell? ⟨(ad184.add ((a1).toNat * 9)).block, (ad184.add ((a1).toNat * 9)).off + 6, none⟩ = some (.string ((rd_T38 l0 a1).f4.f2)) ∧ w'.cell? ⟨(ad184.add ((a1).toNat * 9)).block, (ad184.add ((a1).toNat * 9)).off + 7, none⟩ = some (.string ((rd_T38 l0 a1).f5)) ∧ w'.cell? ⟨(ad184.add ((a1).toNat * 9)).block, (ad184.add ((a1).toNat * 9)).off + 8, none⟩ = some (.bool ((rd_T38 l0 a1).f6)) ∧ w'.cell? (ad184.add (((ji7)).toNat * 9)) = some (.int .i64 ((rd_T38 l0 (ji7)).f0)) ∧ w'.cell? ⟨(ad184.add (((ji7)).toNat * 9)).block, (ad184.add (((ji7)).toNat * 9)).off + 1, none⟩ = some (.int .i64 ((rd_T38 l0 (ji7)).f1)) ∧ w'.cell? ⟨(ad184.add (((ji7)).toNat * 9)).block, (ad184.add (((ji7)).toNat * 9)).off + 2, none⟩ = some (.string ((rd_T38 l0 (ji7)).f2)) ∧ w'.cell? ⟨(ad184.add (((ji7)).toNat * 9)).block, (ad184.add (((ji7)).toNat * 9)).off + 3, none⟩ = some (.string ((rd_T38 l0 (ji7)).f3)) ∧ w'.cell? ⟨(ad184.add (((ji7)).toNat * 9)).block, (ad184.add (((ji7)).toNat * 9)).off + 4, none⟩ = some (.string ((rd_T38 l0 (ji7)).f4.f0)) ∧ w'.cell? ⟨(ad184.add (((ji7)).toNat * 9)).block, (ad184.add (((ji7)).toNat * 9)).off + 5, none⟩ = some (.slice A185_5 ((rd_T38 l0 (ji7)).f4.f1).length c185_5) ∧ w'.cell? ⟨(ad184.add (((ji7)).toNat * 9)).block, (ad184.add (((ji7)).toNat * 9)).off + 6, none⟩ = some (.string ((rd_T38 l0 (ji7)).f4.f2)) ∧ w'.cell? ⟨(ad184.add (((ji7)).toNat * 9)).block, (ad184.add (((ji7)).toNat * 9)).off + 7, none⟩ = some (.string ((rd_T38 l0 (ji7)).f5)) ∧ w'.cell? ⟨(ad184.add (((ji7)).toNat * 9)).block, (ad184.add (((ji7)).toNat * 9)).off + 8, none⟩ = some (.bool ((rd_T38 l0 (ji7)).f6))) (ds := []) #[false, false, false, false, false, false, false, false, false, false, false, false, false] (by kernel_rfl) rfl rfl ⟨((HB.out.cell (World.block_lt_of_cell? w _ hw184_0)).trans hw184_0), ((HB.out.cell (World.block_lt_of_cell? w _ hw184_1)).trans hw184_1), ((HB.out.cell (World.block_lt_of_cell? w _ hw184_2)).trans hw184_2), ((HB.out.cell (World.block_lt_of_cell? w _ hw184_3)).trans hw184_3), ((HB.out.cell (World.block_lt_of_cell? w _ hw184_4)).trans hw184_4), ((HB.out.cell (World.block_lt_of_cell? w _ hw184_5)).trans hw184_5), ((HB.out.cell (World.block_lt_of_cell? w _ hw184_6)).trans hw184_6), ((HB.out.cell (World.block_lt_of_cell? w _ hw184_7)).trans hw184_7), ((HB.out.cell (World.block_lt_of_cell? w _ hw184_8)).trans hw184_8), ((HB.out.cell (World.block_lt_of_cell? w _ hw185_0)).trans hw185_0), ((HB.out.cell (World.block_lt_of_cell? w _ hw185_1)).trans hw185_1), ((HB.out.cell (World.block_lt_of_cell? w _ hw185_2)).trans hw185_2), ((HB.out.cell (World.block_lt_of_cell? w _ hw185_3)).trans hw185_3), ((HB.out.cell (World.block_lt_of_cell? w _ hw185_4)).trans hw185_4), ((HB.out.cell (World.block_lt_of_cell? w _ hw185_5)).trans hw185_5), ((HB.out.cell (World.block_lt_of_cell? w _ hw185_6)).trans hw185_6), ((HB.out.cell (World.block_lt_of_cell? w _ hw185_7)).trans hw185_7), ((HB.out.cell (World.block_lt_of_cell? w _ hw185_8)).trans hw185_8)⟩ (fun hHeld => ?_); refine with_tabW filter_follows.tab3 filter_follows.bits3 (fun HT_ HW_ => ?_)
       generalize w.drew = w50 at HB HR184_5 HR185_5 hx184_0 hx184_1 hx184_2 hx184_3 hx184_4 hx184_5 hx184_6 hx184_7 hx184_8 hx185_0 hx185_1 hx185_2 hx185_3 hx185_4 hx185_5 hx185_6 hx185_7 hx185_8 hHeld ⊢
       refine pure_ (i := 0) (N := some 14) (v := ?_) (a' := ?_) #[true, false, false, false, false, false, false, false, false, false, false, false, false] rfl rfl (any_of HT_.out (by kernel_rfl)) (fun _ _ _ h => h) (Or.inl ⟨by rfl, ?_⟩) ?_ ?_
       rotate_left
       ·intro w'
        go_simp
        with_reducible rfl
       rotate_left
       ·simp only [Act.put, List.setIfInBounds_toArray, List.set_cons_zero, List.set_cons_succ, i64_w, i32_w]
        rfl
       refine pure_ (i := 1) (N := some 15) (v := ?_) (a' := ?_) #[true, true, false, false, false, false, false, false, false, false, false, false, false] rfl rfl (any_of HT_.out (by kernel_rfl)) (fun _ _ _ h => h) (Or.inl ⟨by rfl, ?_⟩) ?_ ?_
       rotate_left
       ·intro w'
        go_simp
        with_reducible rfl
       rotate_left
       ·simp only [Act.put, List.setIfInBounds_toArray, List.set_cons_zero, List.set_cons_succ, i64_w, i32_w]
        rfl
       refine pure_ (i := 2) (N := some 16) (v := ?_) (a' := ?_) #[true, true, true, false, false, false, false, false, false, false, false, false, false] rfl rfl (any_of HT_.out (by kernel_rfl)) (fun _ _ _ h => h) (Or.inl ⟨by rfl, ?_⟩) ?_ ?_
       rotate_left
       ·intro w'
        go_simp
        with_reducible rfl
       rotate_left
       ·simp only [Act.put, List.setIfInBounds_toArray, List.set_cons_zero, List.set_cons_succ, i64_w, i32_w]
        rfl
       refine pure_ (i := 3) (N := some 17) (v := ?_) (a' := ?_) #[true, true, true, true, false, false, false, false, false, false, false, false, false] rfl rfl (any_of HT_.out (by kernel_rfl)) (fun _ _ _ h => h) (Or.inl ⟨by rfl, ?_⟩) ?_ ?_
       rotate_left
       ·intro w'
        go_simp
        with_reducible rfl
       rotate_left
       ·simp only [Act.put, List.setIfInBounds_toArray, List.set_cons_zero, List.set_cons_succ, i64_w, i32_w]
        rfl
       refine pure_ (i := 5) (N := some 19) (v := ?_) (a' := ?_) #[true, true, true, true, false, true, false, false, false, false, false, false, false] rfl rfl (any_of HT_.out (by kernel_rfl)) (fun _ _ _ h => h) (Or.inl ⟨by rfl, ?_⟩) ?_ ?_
       rotate_left
       ·intro w'
        go_simp
        with_reducible rfl
       rotate_left
       ·simp only [Act.put, List.setIfInBounds_toArray, List.set_cons_zero, List.set_cons_succ, i64_w, i32_w]
        rfl
       refine pure_ (i := 6) (N := some 20) (v := ?_) (a' := ?_) #[true, true, true, true, false, true, true, false, false, false, false, false, false] rfl rfl (any_of HT_.out (by kernel_rfl)) (fun _ _ _ h => h) (Or.inl ⟨by rfl, ?_⟩) ?_ ?_
       rotate_left
       ·intro w'
        go_simp
        with_reducible rfl
       rotate_left
       ·simp only [Act.put, List.setIfInBounds_toArray, List.set_cons_zero, List.set_cons_succ, i64_w, i32_w]
        rfl
       refine pure_ (i := 7) (N := some 21) (v := ?_) (a' := ?_) #[true, true, true, true, false, true, true, true, false, false, false, false, false] rfl rfl (any_of HT_.out (by kernel_rfl)) (fun _ _ _ h => h) (Or.inl ⟨by rfl, ?_⟩) ?_ ?_
       rotate_left
       ·intro w'
        go_simp
        with_reducible rfl
       rotate_left
       ·simp only [Act.put, List.setIfInBounds_toArray, List.set_cons_zero, List.set_cons_succ, i64_w, i32_w]
        rfl
       refine pure_ (i := 8) (N := some 22) (v := ?_) (a' := ?_) #[true, true, true, true, false, true, true, true, true, false, false, false, false] rfl rfl (any_of HT_.out (by kernel_rfl)) (fun _ _ _ h => h) (Or.inl ⟨by rfl, ?_⟩) ?_ ?_
       rotate_left
       ·intro w'
        go_simp
        with_reducible rfl
       rotate_left
       ·simp only [Act.put, List.setIfInBounds_toArray, List.set_cons_zero, List.set_cons_succ, i64_w, i32_w]
        rfl
       refine take_ (i := 4) (N := some 18) (v := ?_) (a' := ?_) #[true, true, true, true, true, true, true, true, true, false, false, false, false] rfl rfl (take_ofW HT_.out HW_.out (by kernel_rfl)) (fun _ _ _ h => h) (Or.inl ⟨by rfl, ?_⟩) hHeld ?_ ?_
       rotate_left
       ·rintro w' ⟨s0, s1, s2, s3, s4, s5, s6, s7, s8, s9, s10, s11, s12, s13, s14, s15, s16, s17⟩
        go_simp
        with_reducible rfl
       rotate_left
       ·simp only [Act.put, List.setIfInBounds_toArray, List.set_cons_zero, List.set_cons_succ, i64_w, i32_w]
        rfl
       refine take_ (i := 9) (N := some 23) (v := ?_) (a' := ?_) #[true, true, true, true, true, true, true, true, true, true, false, false, false] rfl rfl (take_ofW HT_.out HW_.out (by kernel_rfl)) (fun _ _ _ h => h) (Or.inl ⟨by rfl, ?_⟩) hHeld ?_ ?_
       rotate_left
       ·rintro w' ⟨s0, s1, s2, s3, s4, s5, s6, s7, s8, s9, s10, s11, s12, s13, s14, s15, s16, s17⟩
        go_simp
        with_reducible rfl
       rotate_left
       ·simp only [Act.put, List.setIfInBounds_toArray, List.set_cons_zero, List.set_cons_succ, i64_w, i32_w]
        rfl
       refine one_ (i := 10) (N := some 6) #[true, true, true, true, true, true, true, true, true, true, true, false, false] rfl rfl (one_of HT_.out (by kernel_rfl)) (by decide) (fun K hK => ?_)
       refine box_step ?hg (N := 6) ?hd (cs := #[.int .i64 0, .int .i64 0, .string (⟨#[]⟩ : ByteArray), .string (⟨#[]⟩ : ByteArray), .string (⟨#[]⟩ : ByteArray), .slice none 0 0, .string (⟨#[]⟩ : ByteArray), .string (⟨#[]⟩ : ByteArray), .bool false]) (t := 38) ?hr ?_; (case hd => rfl); (case hg => rfl); (case hr => first | (go_simp; done) | (go_simp; rfl))
       intro gb186 hg w51 hbox hb
       have n0_ := Aside0.mk (below_step (by repeat (first | (with_reducible first | exact HB.out | apply below_alloc | apply pw_below_drewN | apply below_drew1) | exact HB.out)) hb)
       have n1_ := Aside0.mk (hbox)
       have n2_ := Aside0.mk ((by rw [hg]; exact (below_size (by repeat (first | (with_reducible first | exact HB.out | apply below_alloc | apply pw_below_drewN | apply below_drew1) | exact HB.out))) : w.heap.size ≤ gb186))
       have n3_ := Aside0.mk ((by rw [hg]; exact (below_size (by repeat (first | (with_reducible first | exact HB.out | apply below_alloc | apply pw_below_drewN | apply below_drew1) | exact HB.out))) : w.heap.size ≤ gb186))
       clear HB
       have HB := n0_
       have BK186 := n1_
       have GW186 := n2_
       have GE186 := n3_
       clear n0_ n1_ n2_ n3_
       clear hb hbox hg
       refine hK.out _ _ ⟨((HB.out.cell (World.block_lt_of_cell? w _ hw184_0)).trans hw184_0), ((HB.out.cell (World.block_lt_of_cell? w _ hw184_1)).trans hw184_1), ((HB.out.cell (World.block_lt_of_cell? w _ hw184_2)).trans hw184_2), ((HB.out.cell (World.block_lt_of_cell? w _ hw184_3)).trans hw184_3), ((HB.out.cell (World.block_lt_of_cell? w _ hw184_4)).trans hw184_4), ((HB.out.cell (World.block_lt_of_cell? w _ hw184_5)).trans hw184_5), ((HB.out.cell (World.block_lt_of_cell? w _ hw184_6)).trans hw184_6), ((HB.out.cell (World.block_lt_of_cell? w _ hw184_7)).trans hw184_7), ((HB.out.cell (World.block_lt_of_cell? w _ hw184_8)).trans hw184_8), ((HB.out.cell (World.block_lt_of_cell? w _ hw185_0)).trans hw185_0), ((HB.out.cell (World.block_lt_of_cell? w _ hw185_1)).trans hw185_1), ((HB.out.cell (World.block_lt_of_cell? w _ hw185_2)).trans hw185_2), ((HB.out.cell (World.block_lt_of_cell? w _ hw185_3)).trans hw185_3), ((HB.out.cell (World.block_lt_of_cell? w _ hw185_4)).trans hw185_4), ((HB.out.cell (World.block_lt_of_cell? w _ hw185_5)).trans hw185_5), ((HB.out.cell (World.block_lt_of_cell? w _ hw185_6)).trans hw185_6), ((HB.out.cell (World.block_lt_of_cell? w _ hw185_7)).trans hw185_7), ((HB.out.cell (World.block_lt_of_cell? w _ hw185_8)).trans hw185_8)⟩ (fun hHeld => ?_)
       clear hK K
       refine norm_ (a' := ?_) ?_ ?_
       rotate_left
       ·show Act.put _ (some 6) _ = _
        simp only [Act.put, List.setIfInBounds_toArray, List.set_cons_zero, List.set_cons_succ, i64_w, i32_w]
        rfl
       refine pure_ (i := 11) (N := some 5) (v := ?_) (a' := ?_) #[true, true, true, true, true, true, true, true, true, true, true, true, false] rfl rfl (any_of HT_.out (by kernel_rfl)) (fun _ _ _ h => h) (Or.inl ⟨by rfl, ?_⟩) ?_ ?_
       rotate_left
       ·intro w'
        go_simp
        with_reducible rfl
       rotate_left
       ·simp only [Act.put, List.setIfInBounds_toArray, List.set_cons_zero, List.set_cons_succ, i64_w, i32_w]
        rfl
       refine one_ (i := 12) (N := none) #[true, true, true, true, true, true, true, true, true, true, true, true, true] rfl rfl (one_of HT_.out (by kernel_rfl)) (by decide) (fun K hK => ?_)
       have hs52 : w51.cell? ⟨gb186, 0, none⟩ = some (.int .i64 0) := (blk_cell BK186.out 0).trans rfl
       have hfs52 := blk_frozen BK186.out 0
       have hs53 : w51.cell? ⟨gb186, 1, none⟩ = some (.int .i64 0) := (blk_cell BK186.out 1).trans rfl
       have hfs53 := blk_frozen BK186.out 1
       have hs54 : w51.cell? ⟨gb186, 2, none⟩ = some (.string (⟨#[]⟩ : ByteArray)) := (blk_cell BK186.out 2).trans rfl
       have hfs54 := blk_frozen BK186.out 2
       have hs55 : w51.cell? ⟨gb186, 3, none⟩ = some (.string (⟨#[]⟩ : ByteArray)) := (blk_cell BK186.out 3).trans rfl
       have hfs55 := blk_frozen BK186.out 3
       have hs56 : w51.cell? ⟨gb186, 4, none⟩ = some (.string (⟨#[]⟩ : ByteArray)) := (blk_cell BK186.out 4).trans rfl
       have hfs56 := blk_frozen BK186.out 4
       have hs57 : w51.cell? ⟨gb186, 5, none⟩ = some (.slice none 0 0) := (blk_cell BK186.out 5).trans rfl
       have hfs57 := blk_frozen BK186.out 5
       have hs58 : w51.cell? ⟨gb186, 6, none⟩ = some (.string (⟨#[]⟩ : ByteArray)) := (blk_cell BK186.out 6).trans rfl
       have hfs58 := blk_frozen BK186.out 6
       have hs59 : w51.cell? ⟨gb186, 7, none⟩ = some (.string (⟨#[]⟩ : ByteArray)) := (blk_cell BK186.out 7).trans rfl
       have hfs59 := blk_frozen BK186.out 7
       have hs60 : w51.cell? ⟨gb186, 8, none⟩ = some (.bool false) := (blk_cell BK186.out 8).trans rfl
       have hfs60 := blk_frozen BK186.out 8
       refine skip_ (w1 := ?_) (by rfl) rfl ?_ ?_
       rotate_left
       ·go_simp
        rfl
       refine hK.out _ _ ⟨((cfar9_ (g := gb186) (Nat.ne_of_lt (Nat.lt_of_lt_of_le (World.block_lt_of_cell? _ _ hw184_0) GW186.out))).trans (hHeld.1)), ((cfar9_ (g := gb186) (Nat.ne_of_lt (Nat.lt_of_lt_of_le (World.block_lt_of_cell? _ _ hw184_1) GW186.out))).trans (hHeld.2.1)), ((cfar9_ (g := gb186) (Nat.ne_of_lt (Nat.lt_of_lt_of_le (World.block_lt_of_cell? _ _ hw184_2) GW186.out))).trans (hHeld.2.2.1)), ((cfar9_ (g := gb186) (Nat.ne_of_lt (Nat.lt_of_lt_of_le (World.block_lt_of_cell? _ _ hw184_3) GW186.out))).trans (hHeld.2.2.2.1)), ((cfar9_ (g := gb186) (Nat.ne_of_lt (Nat.lt_of_lt_of_le (World.block_lt_of_cell? _ _ hw184_4) GW186.out))).trans (hHeld.2.2.2.2.1)), ((cfar9_ (g := gb186) (Nat.ne_of_lt (Nat.lt_of_lt_of_le (World.block_lt_of_cell? _ _ hw184_5) GW186.out))).trans (hHeld.2.2.2.2.2.1)), ((cfar9_ (g := gb186) (Nat.ne_of_lt (Nat.lt_of_lt_of_le (World.block_lt_of_cell? _ _ hw184_6) GW186.out))).trans (hHeld.2.2.2.2.2.2.1)), ((cfar9_ (g := gb186) (Nat.ne_of_lt (Nat.lt_of_lt_of_le (World.block_lt_of_cell? _ _ hw184_7) GW186.out))).trans (hHeld.2.2.2.2.2.2.2.1)), ((cfar9_ (g := gb186) (Nat.ne_of_lt (Nat.lt_of_lt_of_le (World.block_lt_of_cell? _ _ hw184_8) GW186.out))).trans (hHeld.2.2.2.2.2.2.2.2.1)), ((cfar9_ (g := gb186) (Nat.ne_of_lt (Nat.lt_of_lt_of_le (World.block_lt_of_cell? _ _ hw185_0) GW186.out))).trans (hHeld.2.2.2.2.2.2.2.2.2.1)), ((cfar9_ (g := gb186) (Nat.ne_of_lt (Nat.lt_of_lt_of_le (World.block_lt_of_cell? _ _ hw185_1) GW186.out))).trans (hHeld.2.2.2.2.2.2.2.2.2.2.1)), ((cfar9_ (g := gb186) (Nat.ne_of_lt (Nat.lt_of_lt_of_le (World.block_lt_of_cell? _ _ hw185_2) GW186.out))).trans (hHeld.2.2.2.2.2.2.2.2.2.2.2.1)), ((cfar9_ (g := gb186) (Nat.ne_of_lt (Nat.lt_of_lt_of_le (World.block_lt_of_cell? _ _ hw185_3) GW186.out))).trans (hHeld.2.2.2.2.2.2.2.2.2.2.2.2.1)), ((cfar9_ (g := gb186) (Nat.ne_of_lt (Nat.lt_of_lt_of_le (World.block_lt_of_cell? _ _ hw185_4) GW186.out))).trans (hHeld.2.2.2.2.2.2.2.2.2.2.2.2.2.1)), ((cfar9_ (g := gb186) (Nat.ne_of_lt (Nat.lt_of_lt_of_le (World.block_lt_of_cell? _ _ hw185_5) GW186.out))).trans (hHeld.2.2.2.2.2.2.2.2.2.2.2.2.2.2.1)), ((cfar9_ (g := gb186) (Nat.ne_of_lt (Nat.lt_of_lt_of_le (World.block_lt_of_cell? _ _ hw185_6) GW186.out))).trans (hHeld.2.2.2.2.2.2.2.2.2.2.2.2.2.2.2.1)), ((cfar9_ (g := gb186) (Nat.ne_of_lt (Nat.lt_of_lt_of_le (World.block_lt_of_cell? _ _ hw185_7) GW186.out))).trans (hHeld.2.2.2.2.2.2.2.2.2.2.2.2.2.2.2.2.1)), ((cfar9_ (g := gb186) (Nat.ne_of_lt (Nat.lt_of_lt_of_le (World.block_lt_of_cell? _ _ hw185_8) GW186.out))).trans (hHeld.2.2.2.2.2.2.2.2.2.2.2.2.2.2.2.2.2))⟩ (fun hHeld => ?_)
       clear hK K
       refine done_ (done_of HT_.out (by kernel_rfl)) ?_
       try go_wp2
       go_ret
       exact ⟨by first | rfl | (simp [isEmpty_ne_]; done) | (simp [errW_none, errW_some] <;> rfl) | (simp only [← hji7]; first | rfl | (simp [errW_none, errW_some] <;> rfl)) | (simp [*, errW_none, errW_some] <;> rfl), by repeat (first | (with_reducible first | exact HB.out | apply below_alloc | apply pw_below_drewN | apply below_drew1 | refine below_set ?_ GE186.out) | exact HB.out)⟩
     ·rw [if_neg c9] at H
      exact absurd H (by simp)
    ·rw [if_neg c8] at H
     exact absurd H (by simp)
   ·rw [if_neg c6] at H
    exact absurd H (by simp)
  ·rw [if_neg c5] at H
   exact absurd H (by simp)

end Go.Proofs.YtaimjacpenofpaaDoor.GC
