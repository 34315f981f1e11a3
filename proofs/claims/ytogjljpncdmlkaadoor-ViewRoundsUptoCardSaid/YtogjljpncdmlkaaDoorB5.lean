/- Texts of this claim in one: GXx2, Tb, Tc, Td, Te, Tf -/
import Derived.Test.YtogjljpncdmlkaaDoorB3
import Derived.Test.YtogjljpncdmlkaaDoorB4
import Derived.Test.YtogjljpncdmlkaaDoorRows
import Derived.OpenShut
import Derived.WalkKit
import Derived.ProofKit
import Derived.Lib.LaidTab
import Derived.Below
import Derived.Test.YtogjljpncdmlkaaDoorB0
import Derived.Test.YtogjljpncdmlkaaDoorB1
import Derived.Lib.Hide
section
namespace Go.Proofs.YtogjljpncdmlkaaDoor.GX
open Go.RowKit Go.Proofs.YtogjljpncdmlkaaDoorW.PrintWords Go.Proofs.YtogjljpncdmlkaaDoorW.PrintLast Go.Proofs.YtogjljpncdmlkaaDoorW.PrintMore
attribute [local go_sem] max2_int min2_int max_two min_two max_three min_three max_four min_four   -- for this text's walks alone
set_option linter.unusedVariables false
set_option linter.unusedSimpArgs false
mutual
def text_sequence.j0 : Nat → ByteArray → Int → Bool → Int → Int → Option (Int)
 | 0, _, _, _, _, _ => none
 | k + 1, x0, x3, x21, x108000, x108001 => if x21 = true then (some 0) else (if x3 = 3 then (if 3 < (x0.size : Int) then ((text_goesOn.f (bt x0 3)).bind fun t108 => (if t108 = true then (text_sequence.j1 k x0 x3 x108000 x108001) else (some 0))) else (none)) else (if x3 = 2 then (text_sequence.j1 k x0 x3 x108000 x108001) else (if x3 = 1 then (if 1 < (x0.size : Int) then (if (bt x0 1) < x108000 then (some 0) else (if (bt x0 1) > x108001 then (some 0) else (some (wrap64 (x3 + 1))))) else (none)) else (some (wrap64 (x3 + 1))))))
def text_sequence.j1 : Nat → ByteArray → Int → Int → Int → Option (Int)
 | 0, _, _, _, _ => none
 | k + 1, x0, x3, x108000, x108001 => if 2 < (x0.size : Int) then ((text_goesOn.f (bt x0 2)).bind fun t109 => (if t109 = true then (if 1 < (x0.size : Int) then (if (bt x0 1) < x108000 then (some 0) else (if (bt x0 1) > x108001 then (some 0) else (some (wrap64 (x3 + 1))))) else (none)) else (some 0))) else (none)
end
def text_sequence.f (k : Nat) (a0 : ByteArray) : Option (Int) := if 0 < (a0.size : Int) then ((text_missing.f k (bt a0 0)).bind fun bt103 => (if bt103.2.2.2 = true then (text_sequence.j0 k a0 bt103.1 (decide ((a0.size : Int) < (wrap64 (bt103.1 + 1)))) bt103.2.1 bt103.2.2.1) else (text_sequence.j0 k a0 bt103.1 true bt103.2.1 bt103.2.2.1))) else (none)
set_option maxHeartbeats 8000000 in
set_option maxRecDepth 100000 in
theorem text_sequence.calls (k : Nat) (a0 : ByteArray) (r : Int) (w : World) (h : text_sequence.f k a0 = some r) :
  Calls Tryd.prog 51 #[.string a0] w fun e w' => e = .returned (.int .i64 r) ∧ Below w.heap.size w w' := by
 have hu107 := Tryd.underlying107
 have HB := Aside0.mk (Below.refl w.heap.size w)
 have H : (if 0 < (a0.size : Int) then ((text_missing.f k (bt a0 0)).bind fun bt103 => (if bt103.2.2.2 = true then (text_sequence.j0 k a0 bt103.1 (decide ((a0.size : Int) < (wrap64 (bt103.1 + 1)))) bt103.2.1 bt103.2.2.1) else (text_sequence.j0 k a0 bt103.1 true bt103.2.1 bt103.2.2.1))) else (none)) = some r := h
 clear h
 by_cases c2 : 0 < (a0.size : Int)
 ·rw [if_pos c2] at H
  have c2b0 : decide (0 < (a0.size : Int)) = true := decide_eq_true c2
  have c2b1 : decide (0 < a0.size) = true := decide_eq_true q2_
  have c2b2 : 0 < a0.size := by omega
  clear c2
  replace H := Option.bind_eq_some_iff.mp H
  obtain ⟨⟨t103, t104, t105, t106⟩, A40, H⟩ := H
  replace H : (if t106 = true then (text_sequence.j0 k a0 t103 (decide ((a0.size : Int) < (wrap64 (t103 + 1)))) t104 t105) else (text_sequence.j0 k a0 t103 true t104 t105)) = some r := H
  have A4 := Aside0.mk A40
  clear A40
  have HC5 := Aside0.mk H
  clear H
  have p3 : 0 ≤ (0 : Int) := q2_
  have q3 : 0 < a0.size := (by have : (0 : Int) < (a0.size : Int) := of_decide_eq_true q4_; omega)
  have hx3 : ∀ h : 0 < a0.size, ((a0[0]'h).toNat : Int) = bt a0 0 := bt_at a0 0
  clear p3
  have qi3 : (0 < (a0.size : Int)) = True := eq_true (of_decide_eq_true q4_)
  replace q3 := eq_true q3
  go_enter Tryd.func51, Tryd.ntmps51
  go_upto_region 2 with (first | (go_at_call 58; (with_reducible refine (text_missing.calls k (bt a0 0) t103 t104 t105 t106 _ A4.out).mono ?_); rintro e w6 ⟨rfl, hb⟩; have n0_ := Aside0.mk (below_step q1_ hb); clear HB; have HB := n0_; clear n0_; (try clear hb); (try clear hb2); (try clear hk); (try clear hi)) | ((with_reducible refine gate_dst (N := 4) rfl ?_); (try (refine gate_guard q30_ ?_; dsimp only)); refine box_event ?hg (N := 4) ?hd (cs := #[.int .u8 0, .int .u8 0]) (t := 107) ?hr ?_; (case hd => rfl); (case hg => rfl); (case hr => first | (go_simp; done) | (go_simp; rfl)); intro gb107 hg w7 hbox hb; have n0_ := Aside0.mk (below_step q1_ hb); have n1_ := Aside0.mk (hbox); have n2_ := Aside0.mk ((by rw [hg]; exact (below_size q1_) : w.heap.size ≤ gb107)); have n3_ := Aside0.mk ((by rw [hg]; exact (below_size q1_) : w.heap.size ≤ gb107)); clear HB; have HB := n0_; have BK107 := n1_; have GW107 := n2_; have GE107 := n3_; clear n0_ n1_ n2_ n3_; clear hb hbox hg; have hcz8_0 : w7.cell? ⟨gb107, 0, none⟩ = some (.int .u8 0) := (blk_cell BK107.out 0).trans rfl; have hcz8_1 : w7.cell? ⟨gb107, 1, none⟩ = some (.int .u8 0) := (blk_cell BK107.out 1).trans rfl; have hfz8_0 := blk_frozen BK107.out 0; have hfz8_1 := blk_frozen BK107.out 1))
  repeat (go_quiet (fail); go_upto_region 2 with (first | (go_at_call 58; (with_reducible refine (text_missing.calls k (bt a0 0) t103 t104 t105 t106 _ A4.out).mono ?_); rintro e w6 ⟨rfl, hb⟩; have n0_ := Aside0.mk (below_step q1_ hb); clear HB; have HB := n0_; clear n0_; (try clear hb); (try clear hb2); (try clear hk); (try clear hi)) | ((with_reducible refine gate_dst (N := 4) rfl ?_); (try (refine gate_guard q30_ ?_; dsimp only)); refine box_event ?hg (N := 4) ?hd (cs := #[.int .u8 0, .int .u8 0]) (t := 107) ?hr ?_; (case hd => rfl); (case hg => rfl); (case hr => first | (go_simp; done) | (go_simp; rfl)); intro gb107 hg w7 hbox hb; have n0_ := Aside0.mk (below_step q1_ hb); have n1_ := Aside0.mk (hbox); have n2_ := Aside0.mk ((by rw [hg]; exact (below_size q1_) : w.heap.size ≤ gb107)); have n3_ := Aside0.mk ((by rw [hg]; exact (below_size q1_) : w.heap.size ≤ gb107)); clear HB; have HB := n0_; have BK107 := n1_; have GW107 := n2_; have GE107 := n3_; clear n0_ n1_ n2_ n3_; clear hb hbox hg; have hcz8_0 : w7.cell? ⟨gb107, 0, none⟩ = some (.int .u8 0) := (blk_cell BK107.out 0).trans rfl; have hcz8_1 : w7.cell? ⟨gb107, 1, none⟩ = some (.int .u8 0) := (blk_cell BK107.out 1).trans rfl; have hfz8_0 := blk_frozen BK107.out 0; have hfz8_1 := blk_frozen BK107.out 1)))
  (try simp only [Act.put, List.setIfInBounds_toArray, List.set_cons_zero, List.set_cons_succ])
  go_cut [21] (fun v21 wc => ∃ (kq : Nat) (x21_4 : Bool), v21 = .bool x21_4 ∧ Aside0 (text_sequence.j0 kq a0 t103 x21_4 t104 t105 = some r) ∧ Aside0 (kq ≤ k) ∧ Aside0 (wc.heap[gb107]? = some (.cells #[.int .u8 t104, .int .u8 t105] 107 (0, 0))) ∧ Aside0 (Below w.heap.size w wc))
  case first =>
   have H := HC5.out
   clear HC5
   by_cases c9 : t106 = true
   ·subst c9
    have H1 : (text_sequence.j0 k a0 t103 (decide ((a0.size : Int) < (wrap64 (t103 + 1)))) t104 t105) = some r := by rw [if_pos rfl] at H; exact H
    clear H
    have H := H1
    clear H1
    have H' := Aside0.mk H
    clear H
    go_wp2
    repeat (go_quiet (fail); try go_wp2)
    go_meet
    case rel => exact ⟨_, (decide ((a0.size : Int) < (wrap64 (t103 + 1)))), q3_, H', ⟨q40_⟩, ⟨q23_⟩, ⟨q9_⟩⟩
   ·replace c9 := Bool.eq_false_iff.mpr c9
    subst c9
    have H1 : (text_sequence.j0 k a0 t103 true t104 t105) = some r := by rw [if_neg (show ¬ (false = true) by decide)] at H; exact H
    clear H
    have H := H1
    clear H1
    have H' := Aside0.mk H
    clear H
    go_wp2
    repeat (go_quiet (fail); try go_wp2)
    go_meet
    case rel => exact ⟨_, (true), q3_, H', ⟨q40_⟩, ⟨q23_⟩, ⟨q9_⟩⟩
  case rest =>
   clear HC5
   try clear c2
   try clear c2b0
   try clear c2b1
   try clear c2b2
   try clear p2
   try clear p3
   try clear q3
   try clear hx3
   try clear qi3
   try clear c5
   try clear p6
   try clear c9
   try clear hcz8_0 hcz8_1
   try clear hfz8_0 hfz8_1
   try clear p3
   try clear q3
   obtain ⟨kq, x21_4, rfl, HA, HJ4, BK107, HB⟩ := hcut
   cases kq with
   | zero => exact absurd HA.out (by simp [text_sequence.j0])
   | succ kj4 =>
    have H := HA.out
    clear HA
    simp only [text_sequence.j0] at H
    by_cases c10 : x21_4 = true
    ·subst c10
     have H1 : (some 0) = some r := by rw [if_pos rfl] at H; exact H
     clear H
     have H := H1
     clear H1
     obtain rfl := Option.some.inj H
     go_wp2
     repeat (go_quiet (fail); try go_wp2)
     go_ret
     exact ⟨q6_, q9_⟩
    ·replace c10 := Bool.eq_false_iff.mpr c10
     subst c10
     have H1 : (if t103 = 3 then (if 3 < (a0.size : Int) then ((text_goesOn.f (bt a0 3)).bind fun t108 => (if t108 = true then (text_sequence.j1 kj4 a0 t103 t104 t105) else (some 0))) else (none)) else (if t103 = 2 then (text_sequence.j1 kj4 a0 t103 t104 t105) else (if t103 = 1 then (if 1 < (a0.size : Int) then (if (bt a0 1) < t104 then (some 0) else (if (bt a0 1) > t105 then (some 0) else (some (wrap64 (t103 + 1))))) else (none)) else (some (wrap64 (t103 + 1)))))) = some r := by rw [if_neg (show ¬ (false = true) by decide)] at H; exact H
     clear H
     have H := H1
     clear H1
     have HC11 := Aside0.mk H
     clear H
     go_upto_block 2 with (fail)
     repeat (go_quiet (fail); go_upto_block 2 with (fail))
     go_cut [] (fun wc => ∃ (kq : Nat), Aside0 (text_sequence.j1 kq a0 t103 t104 t105 = some r) ∧ Aside0 (kq ≤ kj4) ∧ Aside0 (wc.heap[gb107]? = some (.cells #[.int .u8 t104, .int .u8 t105] 107 (0, 0))) ∧ Aside0 (Below w.heap.size w wc))
     case first =>
      have H := HC11.out
      clear HC11
      by_cases c12 : t103 = 3
      ·rw [if_pos c12] at H
       have c12b0 : (t103 == 3) = true := beq_iff_eq.mpr c12
       have c12b1 : (t103 != 3) = false := bne_eq_false_iff_eq.mpr c12
       clear c12
       (first | rw [c12b0] | rw [c12be] | (simp only [i64_w, i32_w]; rw [c12b0]) | skip)
       by_cases c13 : 3 < (a0.size : Int)
       ·rw [if_pos c13] at H
        have c13b0 : decide (3 < (a0.size : Int)) = true := decide_eq_true c13
        have c13b1 : decide (3 < a0.size) = true := decide_eq_true q2_
        have c13b2 : 3 < a0.size := by omega
        clear c13
        replace H := Option.bind_eq_some_iff.mp H
        obtain ⟨t108, A150, H⟩ := H
        replace H : (if t108 = true then (text_sequence.j1 kj4 a0 t103 t104 t105) else (some 0)) = some r := H
        have A15 := Aside0.mk A150
        clear A150
        by_cases c16 : t108 = true
        ·subst c16
         have H1 : (text_sequence.j1 kj4 a0 t103 t104 t105) = some r := by rw [if_pos rfl] at H; exact H
         clear H
         have H := H1
         clear H1
         have H' := Aside0.mk H
         clear H
         have p14 : 0 ≤ (3 : Int) := q2_
         have q14 : 3 < a0.size := (by have : (3 : Int) < (a0.size : Int) := of_decide_eq_true q4_; omega)
         have hx14 : ∀ h : 3 < a0.size, ((a0[3]'h).toNat : Int) = bt a0 3 := bt_at a0 3
         clear p14
         have qi14 : (3 < (a0.size : Int)) = True := eq_true (of_decide_eq_true q4_)
         replace q14 := eq_true q14
         iterate 9 (try (first | go_quiet ((go_at_call 59; (with_reducible refine (text_goesOn.calls (bt a0 3) true _ A15.out).mono ?_); rintro e w' ⟨rfl, ⟨nd, rfl⟩⟩; (try first | exact ⟨rfl, _, World.drewN_drewN _ _ _⟩ | exact ⟨rfl, _, Eq.trans (World.drewN_drewN _ _ _) (congrArg (World.drewN _) (Nat.add_assoc _ _ _))⟩))) | go_wp2_with (first | (go_at_call 59; (with_reducible refine (text_goesOn.calls (bt a0 3) true _ A15.out).mono ?_); rintro e w' ⟨rfl, ⟨nd, rfl⟩⟩; (try first | exact ⟨rfl, _, World.drewN_drewN _ _ _⟩ | exact ⟨rfl, _, Eq.trans (World.drewN_drewN _ _ _) (congrArg (World.drewN _) (Nat.add_assoc _ _ _))⟩)))))
         go_meet
         case rel => exact ⟨_, H', ⟨by have := HJ4.out; first | omega | exact Nat.le_refl _⟩, ⟨q39_⟩, ⟨q9_⟩⟩
        ·replace c16 := Bool.eq_false_iff.mpr c16
         subst c16
         have H1 : (some 0) = some r := by rw [if_neg (show ¬ (false = true) by decide)] at H; exact H
         clear H
         have H := H1
         clear H1
         obtain rfl := Option.some.inj H
         have p14 : 0 ≤ (3 : Int) := q2_
         have q14 : 3 < a0.size := (by have : (3 : Int) < (a0.size : Int) := of_decide_eq_true q4_; omega)
         have hx14 : ∀ h : 3 < a0.size, ((a0[3]'h).toNat : Int) = bt a0 3 := bt_at a0 3
         clear p14
         have qi14 : (3 < (a0.size : Int)) = True := eq_true (of_decide_eq_true q4_)
         replace q14 := eq_true q14
         iterate 9 (try (first | go_quiet ((go_at_call 59; (with_reducible refine (text_goesOn.calls (bt a0 3) false _ A15.out).mono ?_); rintro e w' ⟨rfl, ⟨nd, rfl⟩⟩; (try first | exact ⟨rfl, _, World.drewN_drewN _ _ _⟩ | exact ⟨rfl, _, Eq.trans (World.drewN_drewN _ _ _) (congrArg (World.drewN _) (Nat.add_assoc _ _ _))⟩))) | go_wp2_with (first | (go_at_call 59; (with_reducible refine (text_goesOn.calls (bt a0 3) false _ A15.out).mono ?_); rintro e w' ⟨rfl, ⟨nd, rfl⟩⟩; (try first | exact ⟨rfl, _, World.drewN_drewN _ _ _⟩ | exact ⟨rfl, _, Eq.trans (World.drewN_drewN _ _ _) (congrArg (World.drewN _) (Nat.add_assoc _ _ _))⟩)))))
         go_ret
         exact ⟨q6_, q9_⟩
       ·rw [if_neg c13] at H
        exact absurd H q21_
      ·rw [if_neg c12] at H
       have c12b0 : (t103 == 3) = false := beq_eq_false_iff_ne.mpr c12
       have c12b1 : (t103 != 3) = true := bne_iff_ne.mpr c12
       (first | rw [c12b0] | rw [c12be] | (simp only [i64_w, i32_w]; rw [c12b0]) | skip)
       by_cases c17 : t103 = 2
       ·rw [if_pos c17] at H
        have c17b0 : (t103 == 2) = true := beq_iff_eq.mpr c17
        have c17b1 : (t103 != 2) = false := bne_eq_false_iff_eq.mpr c17
        clear c17
        have H' := Aside0.mk H
        clear H
        go_wp2
        repeat (go_quiet (fail); try go_wp2)
        go_meet
        case rel => exact ⟨_, H', ⟨by have := HJ4.out; first | omega | exact Nat.le_refl _⟩, ⟨q39_⟩, ⟨q9_⟩⟩
       ·rw [if_neg c17] at H
        have c17b0 : (t103 == 2) = false := beq_eq_false_iff_ne.mpr c17
        have c17b1 : (t103 != 2) = true := bne_iff_ne.mpr c17
        by_cases c18 : t103 = 1
        ·rw [if_pos c18] at H
         have c18b0 : (t103 == 1) = true := beq_iff_eq.mpr c18
         have c18b1 : (t103 != 1) = false := bne_eq_false_iff_eq.mpr c18
         clear c18
         by_cases c19 : 1 < (a0.size : Int)
         ·rw [if_pos c19] at H
          have c19b0 : decide (1 < (a0.size : Int)) = true := decide_eq_true c19
          have c19b1 : decide (1 < a0.size) = true := decide_eq_true q2_
          have c19b2 : 1 < a0.size := by omega
          clear c19
          by_cases c21 : (bt a0 1) < t104
          ·rw [if_pos c21] at H
           have c21b0 : decide ((bt a0 1) < t104) = true := decide_eq_true c21
           clear c21
           obtain rfl := Option.some.inj H
           have p20 : 0 ≤ (1 : Int) := q2_
           have q20 : 1 < a0.size := q44_
           have hx20 : ∀ h : 1 < a0.size, ((a0[1]'h).toNat : Int) = bt a0 1 := bt_at a0 1
           clear p20
           have qi20 : (1 < (a0.size : Int)) = True := eq_true (of_decide_eq_true q4_)
           replace q20 := eq_true q20
           have hcz22_0 : wc.cell? ⟨gb107, 0, none⟩ = some (.int .u8 t104) := (blk_cell BK107.out 0).trans rfl
           have hcz22_1 : wc.cell? ⟨gb107, 1, none⟩ = some (.int .u8 t105) := (blk_cell BK107.out 1).trans rfl
           have hfz22_0 := blk_frozen BK107.out 0
           have hfz22_1 := blk_frozen BK107.out 1
           go_wp2
           repeat (go_quiet (fail); try go_wp2)
           go_ret
           exact ⟨q6_, q9_⟩
          ·rw [if_neg c21] at H
           have c21b0 : decide ((bt a0 1) < t104) = false := decide_eq_false c21
           clear c21
           by_cases c24 : (bt a0 1) > t105
           ·rw [if_pos c24] at H
            have c24b0 : decide (t105 < (bt a0 1)) = true := decide_eq_true c24
            clear c24
            obtain rfl := Option.some.inj H
            have p20 : 0 ≤ (1 : Int) := q2_
            have q20 : 1 < a0.size := q44_
            have hx20 : ∀ h : 1 < a0.size, ((a0[1]'h).toNat : Int) = bt a0 1 := bt_at a0 1
            clear p20
            have qi20 : (1 < (a0.size : Int)) = True := eq_true (of_decide_eq_true q4_)
            replace q20 := eq_true q20
            have hcz25_0 : wc.cell? ⟨gb107, 0, none⟩ = some (.int .u8 t104) := (blk_cell BK107.out 0).trans rfl
            have hcz25_1 : wc.cell? ⟨gb107, 1, none⟩ = some (.int .u8 t105) := (blk_cell BK107.out 1).trans rfl
            have hfz25_0 := blk_frozen BK107.out 0
            have hfz25_1 := blk_frozen BK107.out 1
            have p23 : 0 ≤ (1 : Int) := q2_
            have q23 : 1 < a0.size := q44_
            have hx23 : ∀ h : 1 < a0.size, ((a0[1]'h).toNat : Int) = bt a0 1 := bt_at a0 1
            clear p23
            have qi23 : (1 < (a0.size : Int)) = True := eq_true (of_decide_eq_true q4_)
            replace q23 := eq_true q23
            go_wp2
            repeat (go_quiet (fail); try go_wp2)
            go_ret
            exact ⟨q6_, q9_⟩
           ·rw [if_neg c24] at H
            have c24b0 : decide (t105 < (bt a0 1)) = false := decide_eq_false c24
            clear c24
            obtain rfl := Option.some.inj H
            have p20 : 0 ≤ (1 : Int) := q2_
            have q20 : 1 < a0.size := q44_
            have hx20 : ∀ h : 1 < a0.size, ((a0[1]'h).toNat : Int) = bt a0 1 := bt_at a0 1
            clear p20
            have qi20 : (1 < (a0.size : Int)) = True := eq_true (of_decide_eq_true q4_)
            replace q20 := eq_true q20
            have hcz26_0 : wc.cell? ⟨gb107, 0, none⟩ = some (.int .u8 t104) := (blk_cell BK107.out 0).trans rfl
            have hcz26_1 : wc.cell? ⟨gb107, 1, none⟩ = some (.int .u8 t105) := (blk_cell BK107.out 1).trans rfl
            have hfz26_0 := blk_frozen BK107.out 0
            have hfz26_1 := blk_frozen BK107.out 1
            have p23 : 0 ≤ (1 : Int) := q2_
            have q23 : 1 < a0.size := q44_
            have hx23 : ∀ h : 1 < a0.size, ((a0[1]'h).toNat : Int) = bt a0 1 := bt_at a0 1
            clear p23
            have qi23 : (1 < (a0.size : Int)) = True := eq_true (of_decide_eq_true q4_)
            replace q23 := eq_true q23
            go_wp2
            repeat (go_quiet (fail); try go_wp2)
            go_ret
            exact ⟨q6_, q9_⟩
         ·rw [if_neg c19] at H
          exact absurd H q21_
        ·rw [if_neg c18] at H
         have c18b0 : (t103 == 1) = false := beq_eq_false_iff_ne.mpr c18
         have c18b1 : (t103 != 1) = true := bne_iff_ne.mpr c18
         obtain rfl := Option.some.inj H
         go_wp2
         repeat (go_quiet (fail); try go_wp2)
         go_ret
         exact ⟨q6_, q9_⟩
     case rest =>
      clear HC11
      try clear c1
      try clear p1
      try clear q1
      try clear hx1
      try clear qi1
      try clear c2
      try clear c2b0
      try clear c2b1
      try clear c2b2
      try clear p2
      try clear q2
      try clear hx2
      try clear qi2
      try clear p3
      try clear q3
      try clear hx3
      try clear qi3
      try clear c5
      try clear p6
      try clear c9
      try clear c10
      try clear c12
      try clear c12b0
      try clear c12b1
      try clear c13
      try clear c13b0
      try clear c13b1
      try clear c13b2
      try clear p14
      try clear q14
      try clear hx14
      try clear qi14
      try clear c16
      try clear c17
      try clear c17b0
      try clear c17b1
      try clear c18
      try clear c18b0
      try clear c18b1
      try clear c19
      try clear c19b0
      try clear c19b1
      try clear c19b2
      try clear p20
      try clear q20
      try clear hx20
      try clear qi20
      try clear c21
      try clear c21b0
      try clear p23
      try clear q23
      try clear hx23
      try clear qi23
      try clear c24
      try clear c24b0
      try clear hcz22_0 hcz22_1
      try clear hcz25_0 hcz25_1
      try clear hcz26_0 hcz26_1
      try clear hcz8_0 hcz8_1
      try clear hfz22_0 hfz22_1
      try clear hfz25_0 hfz25_1
      try clear hfz26_0 hfz26_1
      try clear hfz8_0 hfz8_1
      try clear p14
      try clear p2
      try clear p20
      try clear p23
      try clear p3
      try clear p6
      try clear q14
      try clear q20
      try clear q23
      try clear q3
      obtain ⟨kq, HA, HJ10, BK107, HB⟩ := hcut
      cases kq with
      | zero => exact absurd HA.out (by simp [text_sequence.j1])
      | succ kj10 =>
       have H := HA.out
       clear HA
       simp only [text_sequence.j1] at H
       by_cases c27 : 2 < (a0.size : Int)
       ·rw [if_pos c27] at H
        have c27b0 : decide (2 < (a0.size : Int)) = true := decide_eq_true c27
        have c27b1 : decide (2 < a0.size) = true := decide_eq_true q2_
        have c27b2 : 2 < a0.size := by omega
        clear c27
        replace H := Option.bind_eq_some_iff.mp H
        obtain ⟨t109, A290, H⟩ := H
        replace H : (if t109 = true then (if 1 < (a0.size : Int) then (if (bt a0 1) < t104 then (some 0) else (if (bt a0 1) > t105 then (some 0) else (some (wrap64 (t103 + 1))))) else (none)) else (some 0)) = some r := H
        have A29 := Aside0.mk A290
        clear A290
        by_cases c30 : t109 = true
        ·subst c30
         have H1 : (if 1 < (a0.size : Int) then (if (bt a0 1) < t104 then (some 0) else (if (bt a0 1) > t105 then (some 0) else (some (wrap64 (t103 + 1))))) else (none)) = some r := by rw [if_pos rfl] at H; exact H
         clear H
         have H := H1
         clear H1
         by_cases c31 : 1 < (a0.size : Int)
         ·rw [if_pos c31] at H
          have c31b0 : decide (1 < (a0.size : Int)) = true := decide_eq_true c31
          have c31b1 : decide (1 < a0.size) = true := decide_eq_true q2_
          have c31b2 : 1 < a0.size := by omega
          clear c31
          by_cases c33 : (bt a0 1) < t104
          ·rw [if_pos c33] at H
           have c33b0 : decide ((bt a0 1) < t104) = true := decide_eq_true c33
           clear c33
           obtain rfl := Option.some.inj H
           have p28 : 0 ≤ (2 : Int) := q2_
           have q28 : 2 < a0.size := q46_
           have hx28 : ∀ h : 2 < a0.size, ((a0[2]'h).toNat : Int) = bt a0 2 := bt_at a0 2
           clear p28
           have qi28 : (2 < (a0.size : Int)) = True := eq_true (of_decide_eq_true q4_)
           replace q28 := eq_true q28
           iterate 9 (try (first | go_quiet ((go_at_call 59; (with_reducible refine (text_goesOn.calls (bt a0 2) true _ A29.out).mono ?_); rintro e w' ⟨rfl, ⟨nd, rfl⟩⟩; (try first | exact ⟨rfl, _, World.drewN_drewN _ _ _⟩ | exact ⟨rfl, _, Eq.trans (World.drewN_drewN _ _ _) (congrArg (World.drewN _) (Nat.add_assoc _ _ _))⟩); have p32 : 0 ≤ (1 : Int) := q2_; have q32 : 1 < a0.size := q44_; have hx32 : ∀ h : 1 < a0.size, ((a0[1]'h).toNat : Int) = bt a0 1 := bt_at a0 1; clear p32; have qi32 : (1 < (a0.size : Int)) = True := eq_true (of_decide_eq_true q4_); replace q32 := eq_true q32; have hcz34_0 : wc.cell? ⟨gb107, 0, none⟩ = some (.int .u8 t104) := (blk_cell BK107.out 0).trans rfl; have hcz34_1 : wc.cell? ⟨gb107, 1, none⟩ = some (.int .u8 t105) := (blk_cell BK107.out 1).trans rfl; have hfz34_0 := blk_frozen BK107.out 0; have hfz34_1 := blk_frozen BK107.out 1)) | go_wp2_with (first | (go_at_call 59; (with_reducible refine (text_goesOn.calls (bt a0 2) true _ A29.out).mono ?_); rintro e w' ⟨rfl, ⟨nd, rfl⟩⟩; (try first | exact ⟨rfl, _, World.drewN_drewN _ _ _⟩ | exact ⟨rfl, _, Eq.trans (World.drewN_drewN _ _ _) (congrArg (World.drewN _) (Nat.add_assoc _ _ _))⟩); have p32 : 0 ≤ (1 : Int) := q2_; have q32 : 1 < a0.size := q44_; have hx32 : ∀ h : 1 < a0.size, ((a0[1]'h).toNat : Int) = bt a0 1 := bt_at a0 1; clear p32; have qi32 : (1 < (a0.size : Int)) = True := eq_true (of_decide_eq_true q4_); replace q32 := eq_true q32; have hcz34_0 : wc.cell? ⟨gb107, 0, none⟩ = some (.int .u8 t104) := (blk_cell BK107.out 0).trans rfl; have hcz34_1 : wc.cell? ⟨gb107, 1, none⟩ = some (.int .u8 t105) := (blk_cell BK107.out 1).trans rfl; have hfz34_0 := blk_frozen BK107.out 0; have hfz34_1 := blk_frozen BK107.out 1))))
           go_ret
           exact ⟨q6_, q9_⟩
          ·rw [if_neg c33] at H
           have c33b0 : decide ((bt a0 1) < t104) = false := decide_eq_false c33
           clear c33
           by_cases c36 : (bt a0 1) > t105
           ·rw [if_pos c36] at H
            have c36b0 : decide (t105 < (bt a0 1)) = true := decide_eq_true c36
            clear c36
            obtain rfl := Option.some.inj H
            have p28 : 0 ≤ (2 : Int) := q2_
            have q28 : 2 < a0.size := q46_
            have hx28 : ∀ h : 2 < a0.size, ((a0[2]'h).toNat : Int) = bt a0 2 := bt_at a0 2
            clear p28
            have qi28 : (2 < (a0.size : Int)) = True := eq_true (of_decide_eq_true q4_)
            replace q28 := eq_true q28
            iterate 9 (try (first | go_quiet ((go_at_call 59; (with_reducible refine (text_goesOn.calls (bt a0 2) true _ A29.out).mono ?_); rintro e w' ⟨rfl, ⟨nd, rfl⟩⟩; (try first | exact ⟨rfl, _, World.drewN_drewN _ _ _⟩ | exact ⟨rfl, _, Eq.trans (World.drewN_drewN _ _ _) (congrArg (World.drewN _) (Nat.add_assoc _ _ _))⟩); have p32 : 0 ≤ (1 : Int) := q2_; have q32 : 1 < a0.size := q44_; have hx32 : ∀ h : 1 < a0.size, ((a0[1]'h).toNat : Int) = bt a0 1 := bt_at a0 1; clear p32; have qi32 : (1 < (a0.size : Int)) = True := eq_true (of_decide_eq_true q4_); replace q32 := eq_true q32; have hcz37_0 : wc.cell? ⟨gb107, 0, none⟩ = some (.int .u8 t104) := (blk_cell BK107.out 0).trans rfl; have hcz37_1 : wc.cell? ⟨gb107, 1, none⟩ = some (.int .u8 t105) := (blk_cell BK107.out 1).trans rfl; have hfz37_0 := blk_frozen BK107.out 0; have hfz37_1 := blk_frozen BK107.out 1; have p35 : 0 ≤ (1 : Int) := q2_; have q35 : 1 < a0.size := q44_; have hx35 : ∀ h : 1 < a0.size, ((a0[1]'h).toNat : Int) = bt a0 1 := bt_at a0 1; clear p35; have qi35 : (1 < (a0.size : Int)) = True := eq_true (of_decide_eq_true q4_); replace q35 := eq_true q35)) | go_wp2_with (first | (go_at_call 59; (with_reducible refine (text_goesOn.calls (bt a0 2) true _ A29.out).mono ?_); rintro e w' ⟨rfl, ⟨nd, rfl⟩⟩; (try first | exact ⟨rfl, _, World.drewN_drewN _ _ _⟩ | exact ⟨rfl, _, Eq.trans (World.drewN_drewN _ _ _) (congrArg (World.drewN _) (Nat.add_assoc _ _ _))⟩); have p32 : 0 ≤ (1 : Int) := q2_; have q32 : 1 < a0.size := q44_; have hx32 : ∀ h : 1 < a0.size, ((a0[1]'h).toNat : Int) = bt a0 1 := bt_at a0 1; clear p32; have qi32 : (1 < (a0.size : Int)) = True := eq_true (of_decide_eq_true q4_); replace q32 := eq_true q32; have hcz37_0 : wc.cell? ⟨gb107, 0, none⟩ = some (.int .u8 t104) := (blk_cell BK107.out 0).trans rfl; have hcz37_1 : wc.cell? ⟨gb107, 1, none⟩ = some (.int .u8 t105) := (blk_cell BK107.out 1).trans rfl; have hfz37_0 := blk_frozen BK107.out 0; have hfz37_1 := blk_frozen BK107.out 1; have p35 : 0 ≤ (1 : Int) := q2_; have q35 : 1 < a0.size := q44_; have hx35 : ∀ h : 1 < a0.size, ((a0[1]'h).toNat : Int) = bt a0 1 := bt_at a0 1; clear p35; have qi35 : (1 < (a0.size : Int)) = True := eq_true (of_decide_eq_true q4_); replace q35 := eq_true q35))))
            go_ret
            exact ⟨q6_, q9_⟩
           ·rw [if_neg c36] at H
            have c36b0 : decide (t105 < (bt a0 1)) = false := decide_eq_false c36
            clear c36
            obtain rfl := Option.some.inj H
            have p28 : 0 ≤ (2 : Int) := q2_
            have q28 : 2 < a0.size := q46_
            have hx28 : ∀ h : 2 < a0.size, ((a0[2]'h).toNat : Int) = bt a0 2 := bt_at a0 2
            clear p28
            have qi28 : (2 < (a0.size : Int)) = True := eq_true (of_decide_eq_true q4_)
            replace q28 := eq_true q28
            iterate 9 (try (first | go_quiet ((go_at_call 59; (with_reducible refine (text_goesOn.calls (bt a0 2) true _ A29.out).mono ?_); rintro e w' ⟨rfl, ⟨nd, rfl⟩⟩; (try first | exact ⟨rfl, _, World.drewN_drewN _ _ _⟩ | exact ⟨rfl, _, Eq.trans (World.drewN_drewN _ _ _) (congrArg (World.drewN _) (Nat.add_assoc _ _ _))⟩); have p32 : 0 ≤ (1 : Int) := q2_; have q32 : 1 < a0.size := q44_; have hx32 : ∀ h : 1 < a0.size, ((a0[1]'h).toNat : Int) = bt a0 1 := bt_at a0 1; clear p32; have qi32 : (1 < (a0.size : Int)) = True := eq_true (of_decide_eq_true q4_); replace q32 := eq_true q32; have hcz38_0 : wc.cell? ⟨gb107, 0, none⟩ = some (.int .u8 t104) := (blk_cell BK107.out 0).trans rfl; have hcz38_1 : wc.cell? ⟨gb107, 1, none⟩ = some (.int .u8 t105) := (blk_cell BK107.out 1).trans rfl; have hfz38_0 := blk_frozen BK107.out 0; have hfz38_1 := blk_frozen BK107.out 1; have p35 : 0 ≤ (1 : Int) := q2_; have q35 : 1 < a0.size := q44_; have hx35 : ∀ h : 1 < a0.size, ((a0[1]'h).toNat : Int) = bt a0 1 := bt_at a0 1; clear p35; have qi35 : (1 < (a0.size : Int)) = True := eq_true (of_decide_eq_true q4_); replace q35 := eq_true q35)) | go_wp2_with (first | (go_at_call 59; (with_reducible refine (text_goesOn.calls (bt a0 2) true _ A29.out).mono ?_); rintro e w' ⟨rfl, ⟨nd, rfl⟩⟩; (try first | exact ⟨rfl, _, World.drewN_drewN _ _ _⟩ | exact ⟨rfl, _, Eq.trans (World.drewN_drewN _ _ _) (congrArg (World.drewN _) (Nat.add_assoc _ _ _))⟩); have p32 : 0 ≤ (1 : Int) := q2_; have q32 : 1 < a0.size := q44_; have hx32 : ∀ h : 1 < a0.size, ((a0[1]'h).toNat : Int) = bt a0 1 := bt_at a0 1; clear p32; have qi32 : (1 < (a0.size : Int)) = True := eq_true (of_decide_eq_true q4_); replace q32 := eq_true q32; have hcz38_0 : wc.cell? ⟨gb107, 0, none⟩ = some (.int .u8 t104) := (blk_cell BK107.out 0).trans rfl; have hcz38_1 : wc.cell? ⟨gb107, 1, none⟩ = some (.int .u8 t105) := (blk_cell BK107.out 1).trans rfl; have hfz38_0 := blk_frozen BK107.out 0; have hfz38_1 := blk_frozen BK107.out 1; have p35 : 0 ≤ (1 : Int) := q2_; have q35 : 1 < a0.size := q44_; have hx35 : ∀ h : 1 < a0.size, ((a0[1]'h).toNat : Int) = bt a0 1 := bt_at a0 1; clear p35; have qi35 : (1 < (a0.size : Int)) = True := eq_true (of_decide_eq_true q4_); replace q35 := eq_true q35))))
            go_ret
            exact ⟨q6_, q9_⟩
         ·rw [if_neg c31] at H
          exact absurd H q21_
        ·replace c30 := Bool.eq_false_iff.mpr c30
         subst c30
         have H1 : (some 0) = some r := by rw [if_neg (show ¬ (false = true) by decide)] at H; exact H
         clear H
         have H := H1
         clear H1
         obtain rfl := Option.some.inj H
         have p28 : 0 ≤ (2 : Int) := q2_
         have q28 : 2 < a0.size := q46_
         have hx28 : ∀ h : 2 < a0.size, ((a0[2]'h).toNat : Int) = bt a0 2 := bt_at a0 2
         clear p28
         have qi28 : (2 < (a0.size : Int)) = True := eq_true (of_decide_eq_true q4_)
         replace q28 := eq_true q28
         iterate 9 (try (first | go_quiet ((go_at_call 59; (with_reducible refine (text_goesOn.calls (bt a0 2) false _ A29.out).mono ?_); rintro e w' ⟨rfl, ⟨nd, rfl⟩⟩; (try first | exact ⟨rfl, _, World.drewN_drewN _ _ _⟩ | exact ⟨rfl, _, Eq.trans (World.drewN_drewN _ _ _) (congrArg (World.drewN _) (Nat.add_assoc _ _ _))⟩))) | go_wp2_with (first | (go_at_call 59; (with_reducible refine (text_goesOn.calls (bt a0 2) false _ A29.out).mono ?_); rintro e w' ⟨rfl, ⟨nd, rfl⟩⟩; (try first | exact ⟨rfl, _, World.drewN_drewN _ _ _⟩ | exact ⟨rfl, _, Eq.trans (World.drewN_drewN _ _ _) (congrArg (World.drewN _) (Nat.add_assoc _ _ _))⟩)))))
         go_ret
         exact ⟨q6_, q9_⟩
       ·rw [if_neg c27] at H
        exact absurd H q21_
 ·rw [if_neg c2] at H
  exact absurd H q21_
def text_Check.l0 : Nat → ByteArray → Int → Option (Int × Int)
 | 0, _, _ => none
 | k + 1, x0, x4 => if x4 < (x0.size : Int) then (if 0 ≤ x4 then (if x4 ≤ (x0.size : Int) then ((text_sequence.f k (x0.extract (x4 : Int).toNat x0.size)).bind fun t110 => (if t110 = 0 then (some (10, x4)) else (text_Check.l0 k x0 (wrap64 (x4 + t110))))) else (none)) else (none)) else (some (0, (x0.size : Int)))
def text_Check.f (k : Nat) (a0 : ByteArray) : Option (Int × Int) := text_Check.l0 k a0 0
set_option maxHeartbeats 8000000 in
set_option maxRecDepth 100000 in
theorem text_Check.calls (k : Nat) (a0 : ByteArray) (r1 : Int) (r2 : Int) (w : World) (h : text_Check.f k a0 = some (r1, r2)) :
  Calls Tryd.prog 40 #[.string a0] w fun e w' => e = .returned (.tuple #[.int .i64 r1, .int .i64 r2]) ∧ Below w.heap.size w w' := by
 have HB := Aside0.mk (Below.refl w.heap.size w)
 have H : (text_Check.l0 k a0 0) = some (r1, r2) := h
 clear h
 have H' := Aside0.mk H
 clear H
 go_enter Tryd.func40, Tryd.ntmps40
 go_wp2
 go_loopg [4] k (fun kq v4 w' => ∃ (x4_1 : Int), v4 = .int .i64 x4_1 ∧ Aside0 (text_Check.l0 kq a0 x4_1 = some (r1, r2)) ∧ Aside0 (kq ≤ k) ∧ Aside0 (Below w.heap.size w w'))
 case atStart => exact ⟨(0), q3_, H', ⟨Nat.le_refl _⟩, ⟨q1_⟩⟩
 case round =>
  clear H'
  obtain ⟨x4_1, rfl, HA, HK1, HB⟩ := hrel
  cases gk with
  | zero => exact absurd HA.out (by simp [text_Check.l0])
  | succ k1 =>
   have H := HA.out
   clear HA
   simp only [text_Check.l0] at H
   by_cases c2 : x4_1 < (a0.size : Int)
   ·rw [if_pos c2] at H
    have c2b0 : decide (x4_1 < (a0.size : Int)) = true := decide_eq_true c2
    clear c2
    by_cases c3 : 0 ≤ x4_1
    ·rw [if_pos c3] at H
     have c3b0 := eq_true c3
     have c3b1 : decide (0 ≤ x4_1) = true := decide_eq_true c3
     clear c3
     by_cases c4 : x4_1 ≤ (a0.size : Int)
     ·rw [if_pos c4] at H
      have c4b0 := eq_true c4
      have c4b1 : decide (x4_1 ≤ (a0.size : Int)) = true := decide_eq_true c4
      clear c4
      replace H := Option.bind_eq_some_iff.mp H
      obtain ⟨t110, A50, H⟩ := H
      replace H : (if t110 = 0 then (some (10, x4_1)) else (text_Check.l0 k1 a0 (wrap64 (x4_1 + t110)))) = some (r1, r2) := H
      have A5 := Aside0.mk A50
      clear A50
      by_cases c6 : t110 = 0
      ·rw [if_pos c6] at H
       have c6b0 : (t110 == 0) = true := beq_iff_eq.mpr c6
       have c6b1 : (t110 != 0) = false := bne_eq_false_iff_eq.mpr c6
       clear c6
       simp only [Option.some.injEq, Prod.mk.injEq] at H
       obtain ⟨rfl, rfl⟩ := H
       go_wp2_with (first | ((with_reducible refine gate_callee (f := 51) rfl ?_); refine goesL_ (some 13) rfl rfl Tryd.func51 q13_ rfl #[.string (a0.extract (x4_1 : Int).toNat a0.size)] rfl q42_ ?_; (with_reducible refine (text_sequence.calls k1 (a0.extract (x4_1 : Int).toNat a0.size) t110 _ A5.out).mono ?_); rintro e w7 ⟨rfl, hb⟩; refine ⟨_, rfl, ?_⟩; have n0_ := Aside0.mk (below_step q1_ hb); clear HB; have HB := n0_; clear n0_; (try clear hb); (try clear hb2); (try clear hk); (try clear hi)))
       go_ret2
       exact ⟨q6_, q1_⟩
      ·rw [if_neg c6] at H
       have c6b0 : (t110 == 0) = false := beq_eq_false_iff_ne.mpr c6
       have c6b1 : (t110 != 0) = true := bne_iff_ne.mpr c6
       have H' := Aside0.mk H
       clear H
       go_wp2_with (first | ((with_reducible refine gate_callee (f := 51) rfl ?_); refine goesL_ (some 13) rfl rfl Tryd.func51 q13_ rfl #[.string (a0.extract (x4_1 : Int).toNat a0.size)] rfl q42_ ?_; (with_reducible refine (text_sequence.calls k1 (a0.extract (x4_1 : Int).toNat a0.size) t110 _ A5.out).mono ?_); rintro e w8 ⟨rfl, hb⟩; refine ⟨_, rfl, ?_⟩; have n0_ := Aside0.mk (below_step q1_ hb); clear HB; have HB := n0_; clear n0_; (try clear hb); (try clear hb2); (try clear hk); (try clear hi)))
       go_roundg k1
       case measure => have := HK1.out; omega
       case rel => exact ⟨(wrap64 (x4_1 + t110)), q3_, H', ⟨by have := HK1.out; omega⟩, ⟨q1_⟩⟩
     ·rw [if_neg c4] at H
      exact absurd H q21_
    ·rw [if_neg c3] at H
     exact absurd H q21_
   ·rw [if_neg c2] at H
    have c2b0 : decide (x4_1 < (a0.size : Int)) = false := decide_eq_false c2
    clear c2
    simp only [Option.some.injEq, Prod.mk.injEq] at H
    obtain ⟨rfl, rfl⟩ := H
    go_wp2
    go_ret2
    exact ⟨q6_, q1_⟩
end Go.Proofs.YtogjljpncdmlkaaDoor.GX
end
section
namespace Go.Proofs.YtogjljpncdmlkaaDoor.W
open Go.ChangeShapes Go.WideShapes Go.ChangeAt Go.RowKit
set_option linter.unusedVariables false
def tabRows : List (List Int) := [[1, 0, 127, 0, 0, 0, 0, 0, 0], [2, 194, 223, 128, 191, 0, 0, 0, 0], [3, 224, 224, 160, 191, 128, 191, 0, 0], [3, 225, 236, 128, 191, 128, 191, 0, 0], [3, 237, 237, 128, 159, 128, 191, 0, 0], [3, 238, 239, 128, 191, 128, 191, 0, 0], [4, 240, 240, 144, 191, 128, 191, 128, 191], [4, 241, 243, 128, 191, 128, 191, 128, 191], [4, 244, 244, 128, 143, 128, 191, 128, 191]]
theorem chunks {α β : Type} (f : α → β) (n : Nat) : ∀ (rows : List (List α)) (cs : List β), cs.length = rows.length * n → (∀ j row, rows[j]? = some row → (cs.drop (j * n)).take n = row.map f) → cs = rows.flatten.map f := by
  intro rows
  induction rows with
  | nil =>
    intro cs hl _
    rw [List.length_nil, Nat.zero_mul] at hl
    rw [List.length_eq_zero_iff.1 hl]
    rfl
  | cons r rest ih =>
    intro cs hl h
    have h0 := h 0 r rfl
    rw [Nat.zero_mul, List.drop_zero] at h0
    rw [List.length_cons] at hl
    have h1 := ih (cs.drop n) (by rw [List.length_drop, hl, Nat.add_mul]; omega) fun j row hj => by
      have := h (j + 1) row (by simpa using hj)
      rwa [Nat.add_mul, Nat.one_mul, Nat.add_comm, ← List.drop_drop] at this
    rw [List.flatten_cons, List.map_append, ← h0, ← h1, List.take_append_drop]
theorem table {W : World} (h : laidMetH Tryd.prog [("roster/rosterref01.rows", Rows.laid_roster_rosterref01_rows)] W) : Lib.TabIs Tryd.prog W "roster/rosterref01.rows" .i64 tabRows.flatten := by
  have h' : laidMet Tryd.prog [("roster/rosterref01.rows", Rows.laid_roster_rosterref01_rows)] W := h
  obtain ⟨ps, ⟨g', t', cs, fuel, p, q, hg', ht', hvar, hd, _, _⟩, _⟩ := h'
  obtain rfl := Option.some.inj ((show Tryd.prog.globalNamed "roster/rosterref01.rows" = some 0 by kernel_rfl).symm.trans hg')
  obtain rfl := Option.some.inj ((show (Tryd.prog.globals[0]?).map (·.type) = some 93 by kernel_rfl).symm.trans ht')
  obtain ⟨xs, m, _, hx, hl, hn, hf⟩ := DataW.trod_array Tryd.underlying93 hd
  have hx' : Rows.laid_roster_rosterref01_rows = DataW.agg (xs.map (·.1)) := congrArg Prod.fst hx
  have hxs : (tabRows.map fun r => (Lib.tabData .i64 r : DataW Unit)) = xs.map (·.1) := by
    have e : Rows.laid_roster_rosterref01_rows = DataW.agg (tabRows.map fun r => (Lib.tabData .i64 r : DataW Unit)) := rfl
    rw [e] at hx'
    injection hx'
  have hcs : cs.toList = tabRows.flatten.map fun z => Value.int .i64 z := by
    refine chunks _ 9 tabRows cs.toList (hl.trans q13_) fun j row hj => ?_
    have hj9 : j < 9 := (List.getElem?_eq_some_iff.1 hj).1
    have e1 := hf j hj9
    rw [show Tryd.prog.cellsOf 92 = 9 by kernel_rfl] at e1
    have e2 : (xs.map (·.1))[j]? = some (Lib.tabData .i64 row) := by rw [← hxs, List.getElem?_map, hj]; rfl
    rw [List.getElem?_map] at e2
    obtain ⟨y, hy, hyd⟩ := Option.map_eq_some_iff.1 e2
    obtain ⟨yd, yp⟩ := y
    have hyd' : yd = Lib.tabData .i64 row := hyd
    subst hyd'
    rw [hy] at e1
    exact Lib.cells_of_tab Tryd.underlying92 Tryd.underlying3 q13_ q13_ e1
  unfold Lib.TabIs
  rw [hvar, ← hcs]
theorem table_cell {W : World} (h : laidMetH Tryd.prog [("roster/rosterref01.rows", Rows.laid_roster_rosterref01_rows)] W) (i : Nat) (hi : i < 81) : W.cell? ⟨0, i, none⟩ = some (.int .i64 (tabRows.flatten.getD i 0)) :=
  (table h).cell q13_ i hi
end Go.Proofs.YtogjljpncdmlkaaDoor.W
end
section
namespace Go.Proofs.YtogjljpncdmlkaaDoor.W
open Go.RowKit Go.Proofs.YtogjljpncdmlkaaDoorW.PrintWords Go.Proofs.YtogjljpncdmlkaaDoorW.PrintLast
set_option linter.unusedVariables false
set_option linter.unusedSimpArgs false
def T (k : Nat) : Int := tabRows.flatten.getD k 0
def Tab (w : World) : Prop := ∀ i, i < 81 → w.cell? ⟨0, i, none⟩ = some (.int .i64 (T i))
theorem Tab.below {B : Nat} {w w' : World} (h : Tab w) (hb : Below B w w') (hB : 0 < B) : Tab w' := fun i hi => by
  rw [← h i hi]
  have := hb.block 0 hB
  simp [World.cell?, this]
theorem _root_.Go.Proofs.YtogjljpncdmlkaaDoorW.PrintWords.Drawn0.trans' {a b c : World} (h : Drawn0 a b) (h' : Drawn0 b c) : Drawn0 a c := by
  obtain ⟨n, rfl⟩ := h'.out
  exact h.step n
theorem T_n : ∀ r : Fin 9, 1 ≤ T (r.val * 9) ∧ T (r.val * 9) ≤ 4 := by decide +kernel
def bt (s : ByteArray) (j : Nat) : Int := if h : j < s.size then (s[j].toNat : Int) else 0
def Fit (s : ByteArray) (i row : Nat) : Prop := (i : Int) + T (row * 9) ≤ s.size ∧ ∀ j : Nat, (j : Int) < T (row * 9) → T (row * 9 + (1 + 2 * j)) ≤ bt s (i + j) ∧ bt s (i + j) ≤ T (row * 9 + (2 + 2 * j))
def FitEnd (s : ByteArray) (i row : Nat) (w : World) (en : Ending) (w' : World) : Prop := ∃ r, en = .returned (.bool r) ∧ (r = true ↔ Fit s i row) ∧ Drawn0 w w'
theorem fits_any (s : ByteArray) (i row : Nat) (hr : row < 9) (hi : i ≤ s.size) (hs : s.size ≤ 140737488355328) (w : World) (hT : Tab w) (hw : 0 < w.heap.size) :
    Calls Tryd.prog 49 #[.string s, .int .i64 i, .int .i64 row] w fun en w' => FitEnd s i row w en w' := by
  have x0 : w.cell? ⟨0, row * 9, none⟩ = some (.int .i64 (T (row * 9))) := hT (row * 9) q2_
  have p0 : (0 : Int) ≤ row := by omega
  have p1 : (row : Int) < 9 := by omega
  obtain ⟨n, hn⟩ : ∃ n, n = T (row * 9) := ⟨_, rfl⟩
  rw [← hn] at x0
  have n1 : 1 ≤ n ∧ n ≤ 4 := by rw [hn]; exact T_n ⟨row, hr⟩
  have w0 : wrap64 ((i : Int) + n) = i + n := by unfold wrap64; omega
  have HN := Lib.hid hn
  have HT := Lib.hid hT
  clear hn hT
  by_cases h0 : (s.size : Int) < i + n
  · go_enter Tryd.func49, Tryd.ntmps49
    go_wp2
    go_ret
    refine ⟨false, rfl, ⟨fun h => (by cases h), fun h => ?_⟩, Drawn0.refl _⟩
    have := h.1
    rw [← HN.out] at this
    omega
  · go_enter Tryd.func49, Tryd.ntmps49
    go_wp2
    go_loopw [8] (fun v wr => ∃ k : Nat, v = .int .i64 k ∧ (k : Int) ≤ n ∧ Hid (∀ j : Nat, j < k → T (row * 9 + (1 + 2 * j)) ≤ bt s (i + j) ∧ bt s (i + j) ≤ T (row * 9 + (2 + 2 * j))) ∧ Drawn0 w wr) (fun v _ => 4 - (intOf v).toNat)
    case atStart => exact ⟨0, rfl, q2_, Lib.hid (fun j hj => by omega), Drawn0.refl _⟩
    case round =>
      obtain ⟨k, rfl, hk, HA, hb⟩ := hrel
      by_cases hkn : (k : Int) < n
      · have k1 : ((k + 1 : Nat) : Int) ≤ n := by omega
        have k2 : 4 - (k + 1) < 4 - k := by omega
        have kk : ∀ j : Nat, j < k + 1 → j ≠ k → j < k := fun j h1 h2 => by omega
        have w1 : wrap64 ((i : Int) + k) = (i : Int) + k := by unfold wrap64; omega
        have w2 : wrap64 (2 * (k : Int)) = 2 * (k : Int) := by unfold wrap64; omega
        have w3 : wrap64 (1 + 2 * (k : Int)) = 1 + 2 * (k : Int) := by unfold wrap64; omega
        have w4 : wrap64 (2 + 2 * (k : Int)) = 2 + 2 * (k : Int) := by unfold wrap64; omega
        have r0 : (0 : Int) ≤ (i : Int) + k := by omega
        have r1 : (i : Int) + k < s.size := by omega
        have r2 : (0 : Int) ≤ 1 + 2 * (k : Int) := by omega
        have r3 : 1 + 2 * (k : Int) < 9 := by omega
        have r4 : (0 : Int) ≤ 2 + 2 * (k : Int) := by omega
        have r5 : 2 + 2 * (k : Int) < 9 := by omega
        have g : i + k < s.size := by omega
        obtain ⟨b, hB⟩ : ∃ b, b = bt s (i + k) := ⟨_, rfl⟩
        have w5 : wrap64 ((s[i + k].toNat : Nat) : Int) = b := by
          have := (s[i + k]).toNat_lt
          rw [hB]
          unfold bt
          rw [dif_pos g]
          unfold wrap64
          omega
        obtain ⟨lo, hlo⟩ : ∃ x, x = T (row * 9 + (1 + 2 * k)) := ⟨_, rfl⟩
        obtain ⟨up, hup⟩ : ∃ x, x = T (row * 9 + (2 + 2 * k)) := ⟨_, rfl⟩
        have hT := HT.out.below hb.below hw
        have y1 : wr.cell? ⟨0, row * 9 + (1 + 2 * k), none⟩ = some (.int .i64 lo) := by rw [hlo]; exact hT _ q2_
        have y2 : wr.cell? ⟨0, row * 9 + (2 + 2 * k), none⟩ = some (.int .i64 up) := by rw [hup]; exact hT _ q2_
        have HB := Lib.hid hb
        have HBT := Lib.hid hB
        have HLO := Lib.hid hlo
        have HUP := Lib.hid hup
        clear hb hB hlo hup hT
        by_cases q1 : b < lo
        · go_wp2
          go_ret
          refine ⟨false, rfl, ⟨fun h => (by cases h), fun h => ?_⟩, HB.out⟩
          have := (h.2 k (by rw [← HN.out]; exact hkn)).1
          rw [← HLO.out, ← HBT.out] at this
          exact absurd q1 (Int.not_lt.2 this)
        · by_cases q2 : up < b
          · go_wp2
            go_ret
            refine ⟨false, rfl, ⟨fun h => (by cases h), fun h => ?_⟩, HB.out⟩
            have := (h.2 k (by rw [← HN.out]; exact hkn)).2
            rw [← HUP.out, ← HBT.out] at this
            exact absurd q2 (Int.not_lt.2 this)
          · have L1 : lo ≤ b := Int.not_lt.1 q1
            have L2 : b ≤ up := Int.not_lt.1 q2
            have K1 := Lib.hid k1
            have K2 := Lib.hid k2
            have KK := Lib.hid kk
            have LL := Lib.hid (And.intro L1 L2)
            clear k1 k2 kk L1 L2
            go_wp2
            clear w0 w1 w2 w3 w4 w5
            go_roundw
            case rel => exact ⟨k + 1, by go_num, K1.out, Lib.hid (fun j hj => by
              by_cases e : j = k
              · subst e
                rw [← HLO.out, ← HUP.out, ← HBT.out]
                exact LL.out
              · exact HA.out j (KK.out j hj e)), HB.out⟩
            case measure =>
              have := K2.out
              simp [intOf]
              omega
      · have HB := Lib.hid hb
        have hke := Lib.hid (show n = (k : Int) by omega)
        clear hb
        go_wp2
        go_ret
        refine ⟨true, rfl, ⟨fun _ => ⟨by rw [← HN.out]; omega, fun j hj => ?_⟩, fun _ => rfl⟩, HB.out⟩
        rw [← HN.out, hke.out] at hj
        exact HA.out j q2_
end Go.Proofs.YtogjljpncdmlkaaDoor.W
end
section
namespace Go.Proofs.YtogjljpncdmlkaaDoor.W
open Go.RowKit Go.Proofs.YtogjljpncdmlkaaDoorW.PrintWords Go.Proofs.YtogjljpncdmlkaaDoorW.PrintLast
set_option linter.unusedVariables false
set_option linter.unusedSimpArgs false
def SeqIs (s : ByteArray) (i : Nat) (n : Int) : Prop := (∃ r : Nat, r < 9 ∧ Fit s i r ∧ (∀ q : Nat, q < r → ¬ Fit s i q) ∧ n = T (r * 9)) ∨ ((∀ q : Nat, q < 9 → ¬ Fit s i q) ∧ n = 0)
def SeqEnd (s : ByteArray) (i : Nat) (w : World) (en : Ending) (w' : World) : Prop := ∃ n : Int, en = .returned (.int .i64 n) ∧ SeqIs s i n ∧ Drawn0 w w'
theorem seq_any (s : ByteArray) (i : Nat) (hi : i ≤ s.size) (hs : s.size ≤ 140737488355328) (w : World) (hT : Tab w) (hw : 0 < w.heap.size) :
    Calls Tryd.prog 37 #[.string s, .int .i64 i] w (SeqEnd s i w) := by
  have HT := Lib.hid hT
  clear hT
  go_enter Tryd.func37, Tryd.ntmps37
  go_wp2
  go_loopw [5] (fun v wr => ∃ r : Nat, v = .int .i64 r ∧ r ≤ 9 ∧ Hid (∀ q : Nat, q < r → ¬ Fit s i q) ∧ Drawn0 w wr) (fun v _ => 9 - (intOf v).toNat)
  case atStart => exact ⟨0, rfl, q2_, Lib.hid (fun q hq => by omega), Drawn0.refl _⟩
  case round =>
    obtain ⟨r, rfl, hr, HA, hb⟩ := hrel
    by_cases hr9 : r < 9
    · have p0 : (0 : Int) ≤ r := by omega
      have p1 : (r : Int) < 9 := by omega
      have hwr : 0 < wr.heap.size := Nat.lt_of_lt_of_le hw hb.below.size
      have HTr := Lib.hid (HT.out.below hb.below hw)
      have HB := Lib.hid hb
      clear hb
      go_wp2_with fail
      refine (fits_any s i r hr9 hi hs _ HTr.out hwr).mono ?_
      rintro en w2 ⟨b, rfl, hf, hb2⟩
      have x0 : w2.cell? ⟨0, r * 9, none⟩ = some (.int .i64 (T (r * 9))) := (HTr.out.below hb2.below hwr) _ q2_
      have HB2 := Lib.hid (HB.out.trans' hb2)
      have HF := Lib.hid hf
      clear hb2 hf
      cases b with
      | true =>
        have F := Lib.hid (HF.out.1 rfl)
        clear HF
        go_wp2
        go_ret
        exact ⟨_, rfl, Or.inl ⟨r, hr9, F.out, HA.out, rfl⟩, HB2.out⟩
      | false =>
        have F0 : ¬ Fit s i r := fun h => by
          have := HF.out.2 h
          cases this
        have F := Lib.hid F0
        clear F0
        clear HF
        go_wp2
        go_roundw
        case rel => exact ⟨r + 1, by go_num, q2_, Lib.hid (fun q hq => by
          by_cases e : q = r
          · subst e; exact F.out
          · exact HA.out q q2_), HB2.out⟩
        case measure => simp [intOf]; omega
    · obtain rfl : r = 9 := by omega
      have HB := Lib.hid hb
      clear hb
      go_wp2
      go_ret
      exact ⟨_, rfl, Or.inr ⟨HA.out, rfl⟩, HB.out⟩
end Go.Proofs.YtogjljpncdmlkaaDoor.W
end
section
namespace Go.Proofs.YtogjljpncdmlkaaDoor.W
open Go.RowKit Go.Proofs.YtogjljpncdmlkaaDoorW.PrintWords Go.Proofs.YtogjljpncdmlkaaDoorW.PrintLast
set_option linter.unusedVariables false
set_option linter.unusedSimpArgs false
theorem T_r : ∀ r : Fin 9, 1 ≤ T (r.val * 9) ∧ T (r.val * 9) ≤ 4 := T_n
theorem SeqIs.bound {s : ByteArray} {i : Nat} {n : Int} (h : SeqIs s i n) (hi : i ≤ s.size) : 0 ≤ n ∧ n ≤ 4 ∧ (i : Int) + n ≤ s.size := by
  rcases h with ⟨r, hr, hf, _, rfl⟩ | ⟨_, rfl⟩
  · have this : 1 ≤ T (r * 9) ∧ T (r * 9) ≤ 4 := T_r ⟨r, hr⟩
    exact ⟨by have := this.1; omega, this.2, hf.1⟩
  · exact ⟨q2_, q2_, q2_⟩
inductive To (s : ByteArray) : Nat → Prop
  | zero : To s 0
  | step {j : Nat} {n : Int} : To s j → SeqIs s j n → n ≠ 0 → To s (j + n.toNat)
def ChkIs (s : ByteArray) (e a : Int) : Prop := ∃ j, To s j ∧ ((e = 0 ∧ j = s.size ∧ a = s.size) ∨ (e = 10 ∧ SeqIs s j 0 ∧ j < s.size ∧ a = j))
def ChkEnd (s : ByteArray) (w : World) (en : Ending) (w' : World) : Prop := ∃ e a : Int, en = .returned (.tuple #[.int .i64 e, .int .i64 a]) ∧ ChkIs s e a ∧ Drawn0 w w'
theorem chk_any (s : ByteArray) (hs : s.size ≤ 140737488355328) (w : World) (hT : Tab w) (hw : 0 < w.heap.size) :
    Calls Tryd.prog 16 #[.string s] w (ChkEnd s w) := by
  have HT := Lib.hid hT
  clear hT
  go_enter Tryd.func16, Tryd.ntmps16
  go_wp2
  go_loopw [4] (fun v wr => ∃ i : Nat, v = .int .i64 i ∧ i ≤ s.size ∧ Hid (To s i) ∧ Drawn0 w wr) (fun v _ => s.size - (intOf v).toNat)
  case atStart => exact ⟨0, rfl, q2_, Lib.hid To.zero, Drawn0.refl _⟩
  case round =>
    obtain ⟨i, rfl, hi, HA, hb⟩ := hrel
    by_cases hil : i < s.size
    · have p1 : (i : Int) < s.size := by omega
      have hwr : 0 < wr.heap.size := Nat.lt_of_lt_of_le hw hb.below.size
      have HTr := Lib.hid (HT.out.below hb.below hw)
      have HB := Lib.hid hb
      clear hb
      go_wp2_with fail
      refine (seq_any s i hi hs _ HTr.out hwr).mono ?_
      rintro en w2 ⟨n, rfl, hn, hb2⟩
      have HB2 := Lib.hid (HB.out.trans' hb2)
      obtain ⟨n0, n4, nb⟩ := hn.bound hi
      have HN := Lib.hid hn
      clear hb2 hn
      by_cases hz : n = 0
      · subst hz
        go_wp2
        go_ret2
        exact ⟨10, i, rfl, ⟨i, HA.out, Or.inr ⟨rfl, HN.out, hil, rfl⟩⟩, HB2.out⟩
      · have hzb : (n == 0) = false := by simpa using hz
        obtain ⟨m, hm⟩ : ∃ m : Nat, (m : Int) = (i : Int) + n := ⟨i + n.toNat, q2_⟩
        have hmi : m = i + n.toNat := by omega
        have m1 : m ≤ s.size := by omega
        have m2 : s.size - m < s.size - i := by omega
        have w0 : wrap64 ((i : Int) + n) = m := by unfold wrap64; omega
        have HM := Lib.hid hmi
        have HMI := Lib.hid hm
        have HM1 := Lib.hid m1
        have HM2 := Lib.hid m2
        have HZ := Lib.hid hz
        clear hm hmi m1 m2 hz
        go_wp2
        clear w0
        go_roundw
        case rel => exact ⟨m, by rw [HMI.out], HM1.out, Lib.hid (by rw [HM.out]; exact To.step HA.out HN.out HZ.out), HB2.out⟩
        case measure =>
          have := HM2.out
          have := HMI.out
          simp [intOf]
          omega
    · obtain rfl : i = s.size := by omega
      have HB := Lib.hid hb
      clear hb
      go_wp2
      go_ret2
      exact ⟨0, s.size, rfl, ⟨s.size, HA.out, Or.inl ⟨rfl, rfl, rfl⟩⟩, HB.out⟩
end Go.Proofs.YtogjljpncdmlkaaDoor.W
end
section
namespace Go.Proofs.YtogjljpncdmlkaaDoor.W
open Go.RowKit Go.Proofs.YtogjljpncdmlkaaDoorW.PrintWords
set_option linter.unusedVariables false
def fitB (s : ByteArray) (i row : Nat) : Bool :=
  decide ((i : Int) + T (row * 9) ≤ s.size) && (List.range (T (row * 9)).toNat).all fun j => decide (T (row * 9 + (1 + 2 * j)) ≤ bt s (i + j)) && decide (bt s (i + j) ≤ T (row * 9 + (2 + 2 * j)))
theorem fitB_iff (s : ByteArray) (i row : Nat) : fitB s i row = true ↔ Fit s i row := by
  unfold fitB Fit
  rw [Bool.and_eq_true, decide_eq_true_iff, List.all_eq_true]
  constructor
  · rintro ⟨h1, h2⟩
    refine ⟨h1, fun j hj => ?_⟩
    have := h2 j (List.mem_range.2 q2_)
    rw [Bool.and_eq_true, decide_eq_true_iff, decide_eq_true_iff] at this
    exact this
  · rintro ⟨h1, h2⟩
    refine ⟨h1, fun j hj => ?_⟩
    have := h2 j (by have := List.mem_range.1 hj; omega)
    rw [Bool.and_eq_true, decide_eq_true_iff, decide_eq_true_iff]
    exact this
def seqFrom (s : ByteArray) (i : Nat) : Nat → Nat → Int
  | _, 0 => 0
  | r, c + 1 => if fitB s i r then T (r * 9) else seqFrom s i (r + 1) c
def seqB (s : ByteArray) (i : Nat) : Int := seqFrom s i 0 9
theorem seqFrom_eq (s : ByteArray) (i : Nat) (n : Int) (h : SeqIs s i n) : ∀ c r, r + c = 9 → (∀ q, q < r → ¬ Fit s i q) → seqFrom s i r c = n := by
  intro c
  induction c with
  | zero =>
    intro r hr hq
    rcases h with ⟨r', h1, h2, _, _⟩ | ⟨_, h2⟩
    · exact absurd h2 (hq r' q2_)
    · exact h2.symm
  | succ c ih =>
    intro r hr hq
    unfold seqFrom
    by_cases hf : fitB s i r = true
    · rw [if_pos hf]
      have hF := (fitB_iff s i r).1 hf
      rcases h with ⟨r', h1, h2, h3, h4⟩ | ⟨h1, _⟩
      · have e : r' = r := by
          by_cases a : r' < r
          · exact absurd h2 (hq r' a)
          · by_cases b : r < r'
            · exact absurd hF (h3 r b)
            · omega
        rw [h4, e]
      · exact absurd hF (h1 r q2_)
    · rw [if_neg hf]
      refine ih (r + 1) q2_ fun q hq' => ?_
      by_cases e : q = r
      · rw [e]; exact fun x => hf ((fitB_iff s i r).2 x)
      · exact hq q q2_
theorem seq_eq {s : ByteArray} {i : Nat} {n : Int} (h : SeqIs s i n) : n = seqB s i := (seqFrom_eq s i n h 9 0 rfl (fun q hq => by omega)).symm
def chkF (s : ByteArray) : Nat → Nat → Int × Int
  | 0, i => (10, i)
  | k + 1, i => if s.size ≤ i then (0, s.size) else if seqB s i = 0 then (10, i) else chkF s k (i + (seqB s i).toNat)
def chkB (s : ByteArray) : Int × Int := chkF s (s.size + 1) 0
theorem chk_step (s : ByteArray) (j k : Nat) (n : Int) (h : SeqIs s j n) (hz : n ≠ 0) : j + n.toNat ≤ s.size ∧ 1 ≤ n.toNat ∧ chkF s (k + 1) j = chkF s k (j + n.toNat) := by
  have e := seq_eq h
  have hb : 1 ≤ n ∧ (j : Int) + n ≤ s.size := by
    rcases h with ⟨r, hr, hf, _, rfl⟩ | ⟨_, h2⟩
    · have : 1 ≤ T (r * 9) ∧ T (r * 9) ≤ 4 := T_r ⟨r, hr⟩
      exact ⟨this.1, hf.1⟩
    · exact absurd h2 hz
  refine ⟨q2_, q2_, ?_⟩
  rw [chkF, if_neg q2_, ← e, if_neg hz]
theorem to_chk {s : ByteArray} {j : Nat} (h : To s j) : j ≤ s.size ∧ ∃ t, t ≤ j ∧ ∀ k, chkF s (k + t) 0 = chkF s k j := by
  induction h with
  | zero => exact ⟨Nat.zero_le _, 0, Nat.le_refl _, fun k => rfl⟩
  | @step j n h1 h2 h3 ih =>
    obtain ⟨_, t, ht, hk⟩ := ih
    have hs := fun k => chk_step s j k n h2 h3
    refine ⟨(hs 0).1, t + 1, by have := (hs 0).2.1; omega, fun k => ?_⟩
    rw [show k + (t + 1) = (k + 1) + t by omega, hk (k + 1), (hs k).2.2]
theorem chk_eq {s : ByteArray} {e a : Int} (h : ChkIs s e a) : (e, a) = chkB s := by
  obtain ⟨j, hj, h⟩ := h
  obtain ⟨hl, t, ht, hk⟩ := to_chk hj
  unfold chkB
  rw [show s.size + 1 = (s.size - t + 1) + t by omega, hk, chkF]
  rcases h with ⟨rfl, h2, rfl⟩ | ⟨rfl, h2, h3, rfl⟩
  · rw [if_pos q2_]
  · rw [if_neg q2_, ← seq_eq h2, if_pos rfl]
theorem check_any (s : ByteArray) (hs : s.size ≤ 140737488355328) (w : World) (hT : Tab w) (hw : 0 < w.heap.size) :
    Calls Tryd.prog 16 #[.string s] w fun en w' => en = .returned (.tuple #[.int .i64 (chkB s).1, .int .i64 (chkB s).2]) ∧ Drawn0 w w' := by
  refine (chk_any s hs w hT hw).mono ?_
  rintro en w' ⟨e, a, rfl, h, hb⟩
  have := chk_eq h
  rw [← this]
  exact ⟨rfl, hb⟩
structure TabW (w : World) : Prop where
  tab : Tab w
  pos : 0 < w.heap.size
theorem TabW.at {w w' : World} (h : TabW w) (hb : Below w.heap.size w w') : TabW w' := ⟨h.tab.below hb h.pos, Nat.lt_of_lt_of_le h.pos hb.size⟩
theorem TabW.of {w : World} (h : laidMetH Tryd.prog [("roster/rosterref01.rows", Rows.laid_roster_rosterref01_rows)] w) : TabW w :=
  have ht : Tab w := fun i hi => table_cell h i hi
  ⟨ht, World.block_lt_of_cell? w _ (ht 0 q14_)⟩
end Go.Proofs.YtogjljpncdmlkaaDoor.W
end
