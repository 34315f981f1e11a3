/- Texts of this claim in one: GXx2, Tx -/
import Derived.Test.YtogjljpncdmlkaaDoorB3
import Derived.Test.YtogjljpncdmlkaaDoorB14
import Derived.Test.YtogjljpncdmlkaaDoorB12
section
namespace Go.Proofs.YtogjljpncdmlkaaDoor.GX
open Go.RowKit Go.Proofs.YtogjljpncdmlkaaDoorW.PrintWords Go.Proofs.YtogjljpncdmlkaaDoorW.PrintLast Go.Proofs.YtogjljpncdmlkaaDoorW.PrintMore
attribute [local go_sem] max2_int min2_int max_two min_two max_three min_three max_four min_four   -- for this text's walks alone
set_option linter.unusedVariables false
set_option linter.unusedSimpArgs false
mutual
def text_sequence.j0 : Nat → ByteArray → Int → Bool → Int → Int → Option (Int)
 | 0, _, _, _, _, _ => none
 | k + 1, x0, x3, x21, x108000, x108001 => if x21 = true then (some 0) else (if x3 = 3 then (if 3 < (x0.size : Int) then ((text_goesOn.f (bt x0 3)).bind fun t108 => (if t108 = true then (text_sequence.j1 k x0 x3 x108000 x108001) else (some 0))) else (none)) else (if x3 = 2 then (text_sequence.j1 k x0 x3 x108000 x108001) else (if x3 = 1 then (if 1 < (x0.size : Int) then (if (bt x0 1) < x108000 then (some 0) else (if (bt x0 1) > x108001 then (some 0) else (some (wrap64 (x3 + 1))))) else (none)) else (some (wrap64 (x3 + 1))))))
def text_sequence.j1 : Nat → ByteArray → Int → Int → Int → Option (Int)
 | 0, _, _, _, _ => none
 | k + 1, x0, x3, x108000, x108001 => if 2 < (x0.size : Int) then ((text_goesOn.f (bt x0 2)).bind fun t109 => (if t109 = true then (if 1 < (x0.size : Int) then (if (bt x0 1) < x108000 then (some 0) else (if (bt x0 1) > x108001 then (some 0) else (some (wrap64 (x3 + 1))))) else (none)) else (some 0))) else (none)
end
def text_sequence.f (k : Nat) (a0 : ByteArray) : Option (Int) := if 0 < (a0.size : Int) then ((text_missing.f k (bt a0 0)).bind fun bt103 => (if bt103.2.2.2 = true then (text_sequence.j0 k a0 bt103.1 (decide ((a0.size : Int) < (wrap64 (bt103.1 + 1)))) bt103.2.1 bt103.2.2.1) else (text_sequence.j0 k a0 bt103.1 true bt103.2.1 bt103.2.2.1))) else (none)
set_option maxHeartbeats 8000000 in
set_option maxRecDepth 100000 in
theorem text_sequence.calls (k : Nat) (a0 : ByteArray) (r : Int) (w : World) (h : text_sequence.f k a0 = some r) :
  Calls Tryd.prog 51 #[.string a0] w fun e w' => e = .returned (.int .i64 r) ∧ Below w.heap.size w w' := by
 have hu107 := Tryd.underlying107
 have HB := Aside0.mk (Below.refl w.heap.size w)
 have H : (if 0 < (a0.size : Int) then ((text_missing.f k (bt a0 0)).bind fun bt103 => (if bt103.2.2.2 = true then (text_sequence.j0 k a0 bt103.1 (decide ((a0.size : Int) < (wrap64 (bt103.1 + 1)))) bt103.2.1 bt103.2.2.1) else (text_sequence.j0 k a0 bt103.1 true bt103.2.1 bt103.2.2.1))) else (none)) = some r := h
 clear h
 by_cases c2 : 0 < (a0.size : Int)
 ·rw [if_pos c2] at H
  have c2b0 : decide (0 < (a0.size : Int)) = true := decide_eq_true c2
  have c2b1 : decide (0 < a0.size) = true := decide_eq_true q2_
  have c2b2 : 0 < a0.size := by omega
  clear c2
  replace H := Option.bind_eq_some_iff.mp H
  obtain ⟨⟨t103, t104, t105, t106⟩, A40, H⟩ := H
  replace H : (if t106 = true then (text_sequence.j0 k a0 t103 (decide ((a0.size : Int) < (wrap64 (t103 + 1)))) t104 t105) else (text_sequence.j0 k a0 t103 true t104 t105)) = some r := H
  have A4 := Aside0.mk A40
  clear A40
  have HC5 := Aside0.mk H
  clear H
  have p3 : 0 ≤ (0 : Int) := q2_
  have q3 : 0 < a0.size := q103_
  have hx3 : ∀ h : 0 < a0.size, ((a0[0]'h).toNat : Int) = bt a0 0 := bt_at a0 0
  clear p3
  have qi3 : (0 < (a0.size : Int)) = True := eq_true (of_decide_eq_true q6_)
  replace q3 := eq_true q3
  go_enter Tryd.func51, Tryd.ntmps51
  go_upto_region 2 with (first | (go_at_call 58; (with_reducible refine (text_missing.calls k (bt a0 0) t103 t104 t105 t106 _ A4.out).mono ?_); rintro e w6 ⟨rfl, hb⟩; have n0_ := Aside0.mk (below_step q1_ hb); clear HB; have HB := n0_; clear n0_; (try clear hb); (try clear hb2); (try clear hk); (try clear hi)) | ((with_reducible refine gate_dst (N := 4) rfl ?_); (try (refine gate_guard q43_ ?_; dsimp only)); refine box_event ?hg (N := 4) ?hd (cs := #[.int .u8 0, .int .u8 0]) (t := 107) ?hr ?_; (case hd => rfl); (case hg => rfl); (case hr => first | (go_simp; done) | (go_simp; rfl)); intro gb107 hg w7 hbox hb; have n0_ := Aside0.mk (below_step q1_ hb); have n1_ := Aside0.mk (hbox); have n2_ := Aside0.mk ((by rw [hg]; exact (below_size q1_) : w.heap.size ≤ gb107)); have n3_ := Aside0.mk ((by rw [hg]; exact (below_size q1_) : w.heap.size ≤ gb107)); clear HB; have HB := n0_; have BK107 := n1_; have GW107 := n2_; have GE107 := n3_; clear n0_ n1_ n2_ n3_; clear hb hbox hg; have hcz8_0 : w7.cell? ⟨gb107, 0, none⟩ = some (.int .u8 0) := (blk_cell BK107.out 0).trans rfl; have hcz8_1 : w7.cell? ⟨gb107, 1, none⟩ = some (.int .u8 0) := (blk_cell BK107.out 1).trans rfl; have hfz8_0 := blk_frozen BK107.out 0; have hfz8_1 := blk_frozen BK107.out 1))
  repeat (go_quiet (fail); go_upto_region 2 with (first | (go_at_call 58; (with_reducible refine (text_missing.calls k (bt a0 0) t103 t104 t105 t106 _ A4.out).mono ?_); rintro e w6 ⟨rfl, hb⟩; have n0_ := Aside0.mk (below_step q1_ hb); clear HB; have HB := n0_; clear n0_; (try clear hb); (try clear hb2); (try clear hk); (try clear hi)) | ((with_reducible refine gate_dst (N := 4) rfl ?_); (try (refine gate_guard q43_ ?_; dsimp only)); refine box_event ?hg (N := 4) ?hd (cs := #[.int .u8 0, .int .u8 0]) (t := 107) ?hr ?_; (case hd => rfl); (case hg => rfl); (case hr => first | (go_simp; done) | (go_simp; rfl)); intro gb107 hg w7 hbox hb; have n0_ := Aside0.mk (below_step q1_ hb); have n1_ := Aside0.mk (hbox); have n2_ := Aside0.mk ((by rw [hg]; exact (below_size q1_) : w.heap.size ≤ gb107)); have n3_ := Aside0.mk ((by rw [hg]; exact (below_size q1_) : w.heap.size ≤ gb107)); clear HB; have HB := n0_; have BK107 := n1_; have GW107 := n2_; have GE107 := n3_; clear n0_ n1_ n2_ n3_; clear hb hbox hg; have hcz8_0 : w7.cell? ⟨gb107, 0, none⟩ = some (.int .u8 0) := (blk_cell BK107.out 0).trans rfl; have hcz8_1 : w7.cell? ⟨gb107, 1, none⟩ = some (.int .u8 0) := (blk_cell BK107.out 1).trans rfl; have hfz8_0 := blk_frozen BK107.out 0; have hfz8_1 := blk_frozen BK107.out 1)))
  (try simp only [Act.put, List.setIfInBounds_toArray, List.set_cons_zero, List.set_cons_succ])
  go_cut [21] (fun v21 wc => ∃ (kq : Nat) (x21_4 : Bool), v21 = .bool x21_4 ∧ Aside0 (text_sequence.j0 kq a0 t103 x21_4 t104 t105 = some r) ∧ Aside0 (kq ≤ k) ∧ Aside0 (wc.heap[gb107]? = some (.cells #[.int .u8 t104, .int .u8 t105] 107 (0, 0))) ∧ Aside0 (Below w.heap.size w wc))
  case first =>
   have H := HC5.out
   clear HC5
   by_cases c9 : t106 = true
   ·subst c9
    have H1 : (text_sequence.j0 k a0 t103 (decide ((a0.size : Int) < (wrap64 (t103 + 1)))) t104 t105) = some r := by rw [if_pos rfl] at H; exact H
    clear H
    have H := H1
    clear H1
    have H' := Aside0.mk H
    clear H
    go_wp2
    repeat (go_quiet (fail); try go_wp2)
    go_meet
    case rel => exact ⟨_, (decide ((a0.size : Int) < (wrap64 (t103 + 1)))), q3_, H', ⟨q42_⟩, ⟨q46_⟩, ⟨q22_⟩⟩
   ·replace c9 := Bool.eq_false_iff.mpr c9
    subst c9
    have H1 : (text_sequence.j0 k a0 t103 true t104 t105) = some r := by rw [if_neg (show ¬ (false = true) by decide)] at H; exact H
    clear H
    have H := H1
    clear H1
    have H' := Aside0.mk H
    clear H
    go_wp2
    repeat (go_quiet (fail); try go_wp2)
    go_meet
    case rel => exact ⟨_, (true), q3_, H', ⟨q42_⟩, ⟨q46_⟩, ⟨q22_⟩⟩
  case rest =>
   clear HC5
   try clear c2
   try clear c2b0
   try clear c2b1
   try clear c2b2
   try clear p2
   try clear p3
   try clear q3
   try clear hx3
   try clear qi3
   try clear c5
   try clear p6
   try clear c9
   try clear hcz8_0 hcz8_1
   try clear hfz8_0 hfz8_1
   try clear p3
   try clear q3
   obtain ⟨kq, x21_4, rfl, HA, HJ4, BK107, HB⟩ := hcut
   cases kq with
   | zero => exact absurd HA.out (by simp [text_sequence.j0])
   | succ kj4 =>
    have H := HA.out
    clear HA
    simp only [text_sequence.j0] at H
    by_cases c10 : x21_4 = true
    ·subst c10
     have H1 : (some 0) = some r := by rw [if_pos rfl] at H; exact H
     clear H
     have H := H1
     clear H1
     obtain rfl := Option.some.inj H
     go_wp2
     repeat (go_quiet (fail); try go_wp2)
     go_ret
     exact ⟨q4_, q22_⟩
    ·replace c10 := Bool.eq_false_iff.mpr c10
     subst c10
     have H1 : (if t103 = 3 then (if 3 < (a0.size : Int) then ((text_goesOn.f (bt a0 3)).bind fun t108 => (if t108 = true then (text_sequence.j1 kj4 a0 t103 t104 t105) else (some 0))) else (none)) else (if t103 = 2 then (text_sequence.j1 kj4 a0 t103 t104 t105) else (if t103 = 1 then (if 1 < (a0.size : Int) then (if (bt a0 1) < t104 then (some 0) else (if (bt a0 1) > t105 then (some 0) else (some (wrap64 (t103 + 1))))) else (none)) else (some (wrap64 (t103 + 1)))))) = some r := by rw [if_neg (show ¬ (false = true) by decide)] at H; exact H
     clear H
     have H := H1
     clear H1
     have HC11 := Aside0.mk H
     clear H
     go_upto_block 2 with (fail)
     repeat (go_quiet (fail); go_upto_block 2 with (fail))
     go_cut [] (fun wc => ∃ (kq : Nat), Aside0 (text_sequence.j1 kq a0 t103 t104 t105 = some r) ∧ Aside0 (kq ≤ kj4) ∧ Aside0 (wc.heap[gb107]? = some (.cells #[.int .u8 t104, .int .u8 t105] 107 (0, 0))) ∧ Aside0 (Below w.heap.size w wc))
     case first =>
      have H := HC11.out
      clear HC11
      by_cases c12 : t103 = 3
      ·rw [if_pos c12] at H
       have c12b0 : (t103 == 3) = true := beq_iff_eq.mpr c12
       have c12b1 : (t103 != 3) = false := bne_eq_false_iff_eq.mpr c12
       clear c12
       (first | rw [c12b0] | rw [c12be] | (simp only [i64_w, i32_w]; rw [c12b0]) | skip)
       by_cases c13 : 3 < (a0.size : Int)
       ·rw [if_pos c13] at H
        have c13b0 : decide (3 < (a0.size : Int)) = true := decide_eq_true c13
        have c13b1 : decide (3 < a0.size) = true := decide_eq_true q2_
        have c13b2 : 3 < a0.size := by omega
        clear c13
        replace H := Option.bind_eq_some_iff.mp H
        obtain ⟨t108, A150, H⟩ := H
        replace H : (if t108 = true then (text_sequence.j1 kj4 a0 t103 t104 t105) else (some 0)) = some r := H
        have A15 := Aside0.mk A150
        clear A150
        by_cases c16 : t108 = true
        ·subst c16
         have H1 : (text_sequence.j1 kj4 a0 t103 t104 t105) = some r := by rw [if_pos rfl] at H; exact H
         clear H
         have H := H1
         clear H1
         have H' := Aside0.mk H
         clear H
         have p14 : 0 ≤ (3 : Int) := q2_
         have q14 : 3 < a0.size := (by have : (3 : Int) < (a0.size : Int) := of_decide_eq_true q6_; omega)
         have hx14 : ∀ h : 3 < a0.size, ((a0[3]'h).toNat : Int) = bt a0 3 := bt_at a0 3
         clear p14
         have qi14 : (3 < (a0.size : Int)) = True := eq_true (of_decide_eq_true q6_)
         replace q14 := eq_true q14
         iterate 9 (try (first | go_quiet ((go_at_call 59; (with_reducible refine (text_goesOn.calls (bt a0 3) true _ A15.out).mono ?_); rintro e w' ⟨rfl, ⟨nd, rfl⟩⟩; (try first | exact ⟨rfl, _, World.drewN_drewN _ _ _⟩ | exact ⟨rfl, _, Eq.trans (World.drewN_drewN _ _ _) (congrArg (World.drewN _) (Nat.add_assoc _ _ _))⟩))) | go_wp2_with (first | (go_at_call 59; (with_reducible refine (text_goesOn.calls (bt a0 3) true _ A15.out).mono ?_); rintro e w' ⟨rfl, ⟨nd, rfl⟩⟩; (try first | exact ⟨rfl, _, World.drewN_drewN _ _ _⟩ | exact ⟨rfl, _, Eq.trans (World.drewN_drewN _ _ _) (congrArg (World.drewN _) (Nat.add_assoc _ _ _))⟩)))))
         go_meet
         case rel => exact ⟨_, H', ⟨by have := HJ4.out; first | omega | exact Nat.le_refl _⟩, ⟨q70_⟩, ⟨q22_⟩⟩
        ·replace c16 := Bool.eq_false_iff.mpr c16
         subst c16
         have H1 : (some 0) = some r := by rw [if_neg (show ¬ (false = true) by decide)] at H; exact H
         clear H
         have H := H1
         clear H1
         obtain rfl := Option.some.inj H
         have p14 : 0 ≤ (3 : Int) := q2_
         have q14 : 3 < a0.size := (by have : (3 : Int) < (a0.size : Int) := of_decide_eq_true q6_; omega)
         have hx14 : ∀ h : 3 < a0.size, ((a0[3]'h).toNat : Int) = bt a0 3 := bt_at a0 3
         clear p14
         have qi14 : (3 < (a0.size : Int)) = True := eq_true (of_decide_eq_true q6_)
         replace q14 := eq_true q14
         iterate 9 (try (first | go_quiet ((go_at_call 59; (with_reducible refine (text_goesOn.calls (bt a0 3) false _ A15.out).mono ?_); rintro e w' ⟨rfl, ⟨nd, rfl⟩⟩; (try first | exact ⟨rfl, _, World.drewN_drewN _ _ _⟩ | exact ⟨rfl, _, Eq.trans (World.drewN_drewN _ _ _) (congrArg (World.drewN _) (Nat.add_assoc _ _ _))⟩))) | go_wp2_with (first | (go_at_call 59; (with_reducible refine (text_goesOn.calls (bt a0 3) false _ A15.out).mono ?_); rintro e w' ⟨rfl, ⟨nd, rfl⟩⟩; (try first | exact ⟨rfl, _, World.drewN_drewN _ _ _⟩ | exact ⟨rfl, _, Eq.trans (World.drewN_drewN _ _ _) (congrArg (World.drewN _) (Nat.add_assoc _ _ _))⟩)))))
         go_ret
         exact ⟨q4_, q22_⟩
       ·rw [if_neg c13] at H
        exact absurd H q28_
      ·rw [if_neg c12] at H
       have c12b0 : (t103 == 3) = false := beq_eq_false_iff_ne.mpr c12
       have c12b1 : (t103 != 3) = true := bne_iff_ne.mpr c12
       (first | rw [c12b0] | rw [c12be] | (simp only [i64_w, i32_w]; rw [c12b0]) | skip)
       by_cases c17 : t103 = 2
       ·rw [if_pos c17] at H
        have c17b0 : (t103 == 2) = true := beq_iff_eq.mpr c17
        have c17b1 : (t103 != 2) = false := bne_eq_false_iff_eq.mpr c17
        clear c17
        have H' := Aside0.mk H
        clear H
        go_wp2
        repeat (go_quiet (fail); try go_wp2)
        go_meet
        case rel => exact ⟨_, H', ⟨by have := HJ4.out; first | omega | exact Nat.le_refl _⟩, ⟨q70_⟩, ⟨q22_⟩⟩
       ·rw [if_neg c17] at H
        have c17b0 : (t103 == 2) = false := beq_eq_false_iff_ne.mpr c17
        have c17b1 : (t103 != 2) = true := bne_iff_ne.mpr c17
        by_cases c18 : t103 = 1
        ·rw [if_pos c18] at H
         have c18b0 : (t103 == 1) = true := beq_iff_eq.mpr c18
         have c18b1 : (t103 != 1) = false := bne_eq_false_iff_eq.mpr c18
         clear c18
         by_cases c19 : 1 < (a0.size : Int)
         ·rw [if_pos c19] at H
          have c19b0 : decide (1 < (a0.size : Int)) = true := decide_eq_true c19
          have c19b1 : decide (1 < a0.size) = true := decide_eq_true q2_
          have c19b2 : 1 < a0.size := by omega
          clear c19
          by_cases c21 : (bt a0 1) < t104
          ·rw [if_pos c21] at H
           have c21b0 : decide ((bt a0 1) < t104) = true := decide_eq_true c21
           clear c21
           obtain rfl := Option.some.inj H
           have p20 : 0 ≤ (1 : Int) := q2_
           have q20 : 1 < a0.size := q87_
           have hx20 : ∀ h : 1 < a0.size, ((a0[1]'h).toNat : Int) = bt a0 1 := bt_at a0 1
           clear p20
           have qi20 : (1 < (a0.size : Int)) = True := eq_true (of_decide_eq_true q6_)
           replace q20 := eq_true q20
           have hcz22_0 : wc.cell? ⟨gb107, 0, none⟩ = some (.int .u8 t104) := (blk_cell BK107.out 0).trans rfl
           have hcz22_1 : wc.cell? ⟨gb107, 1, none⟩ = some (.int .u8 t105) := (blk_cell BK107.out 1).trans rfl
           have hfz22_0 := blk_frozen BK107.out 0
           have hfz22_1 := blk_frozen BK107.out 1
           go_wp2
           repeat (go_quiet (fail); try go_wp2)
           go_ret
           exact ⟨q4_, q22_⟩
          ·rw [if_neg c21] at H
           have c21b0 : decide ((bt a0 1) < t104) = false := decide_eq_false c21
           clear c21
           by_cases c24 : (bt a0 1) > t105
           ·rw [if_pos c24] at H
            have c24b0 : decide (t105 < (bt a0 1)) = true := decide_eq_true c24
            clear c24
            obtain rfl := Option.some.inj H
            have p20 : 0 ≤ (1 : Int) := q2_
            have q20 : 1 < a0.size := q87_
            have hx20 : ∀ h : 1 < a0.size, ((a0[1]'h).toNat : Int) = bt a0 1 := bt_at a0 1
            clear p20
            have qi20 : (1 < (a0.size : Int)) = True := eq_true (of_decide_eq_true q6_)
            replace q20 := eq_true q20
            have hcz25_0 : wc.cell? ⟨gb107, 0, none⟩ = some (.int .u8 t104) := (blk_cell BK107.out 0).trans rfl
            have hcz25_1 : wc.cell? ⟨gb107, 1, none⟩ = some (.int .u8 t105) := (blk_cell BK107.out 1).trans rfl
            have hfz25_0 := blk_frozen BK107.out 0
            have hfz25_1 := blk_frozen BK107.out 1
            have p23 : 0 ≤ (1 : Int) := q2_
            have q23 : 1 < a0.size := q87_
            have hx23 : ∀ h : 1 < a0.size, ((a0[1]'h).toNat : Int) = bt a0 1 := bt_at a0 1
            clear p23
            have qi23 : (1 < (a0.size : Int)) = True := eq_true (of_decide_eq_true q6_)
            replace q23 := eq_true q23
            go_wp2
            repeat (go_quiet (fail); try go_wp2)
            go_ret
            exact ⟨q4_, q22_⟩
           ·rw [if_neg c24] at H
            have c24b0 : decide (t105 < (bt a0 1)) = false := decide_eq_false c24
            clear c24
            obtain rfl := Option.some.inj H
            have p20 : 0 ≤ (1 : Int) := q2_
            have q20 : 1 < a0.size := q87_
            have hx20 : ∀ h : 1 < a0.size, ((a0[1]'h).toNat : Int) = bt a0 1 := bt_at a0 1
            clear p20
            have qi20 : (1 < (a0.size : Int)) = True := eq_true (of_decide_eq_true q6_)
            replace q20 := eq_true q20
            have hcz26_0 : wc.cell? ⟨gb107, 0, none⟩ = some (.int .u8 t104) := (blk_cell BK107.out 0).trans rfl
            have hcz26_1 : wc.cell? ⟨gb107, 1, none⟩ = some (.int .u8 t105) := (blk_cell BK107.out 1).trans rfl
            have hfz26_0 := blk_frozen BK107.out 0
            have hfz26_1 := blk_frozen BK107.out 1
            have p23 : 0 ≤ (1 : Int) := q2_
            have q23 : 1 < a0.size := q87_
            have hx23 : ∀ h : 1 < a0.size, ((a0[1]'h).toNat : Int) = bt a0 1 := bt_at a0 1
            clear p23
            have qi23 : (1 < (a0.size : Int)) = True := eq_true (of_decide_eq_true q6_)
            replace q23 := eq_true q23
            go_wp2
            repeat (go_quiet (fail); try go_wp2)
            go_ret
            exact ⟨q4_, q22_⟩
         ·rw [if_neg c19] at H
          exact absurd H q28_
        ·rw [if_neg c18] at H
         have c18b0 : (t103 == 1) = false := beq_eq_false_iff_ne.mpr c18
         have c18b1 : (t103 != 1) = true := bne_iff_ne.mpr c18
         obtain rfl := Option.some.inj H
         go_wp2
         repeat (go_quiet (fail); try go_wp2)
         go_ret
         exact ⟨q4_, q22_⟩
     case rest =>
      clear HC11
      try clear c1
      try clear p1
      try clear q1
      try clear hx1
      try clear qi1
      try clear c2
      try clear c2b0
      try clear c2b1
      try clear c2b2
      try clear p2
      try clear q2
      try clear hx2
      try clear qi2
      try clear p3
      try clear q3
      try clear hx3
      try clear qi3
      try clear c5
      try clear p6
      try clear c9
      try clear c10
      try clear c12
      try clear c12b0
      try clear c12b1
      try clear c13
      try clear c13b0
      try clear c13b1
      try clear c13b2
      try clear p14
      try clear q14
      try clear hx14
      try clear qi14
      try clear c16
      try clear c17
      try clear c17b0
      try clear c17b1
      try clear c18
      try clear c18b0
      try clear c18b1
      try clear c19
      try clear c19b0
      try clear c19b1
      try clear c19b2
      try clear p20
      try clear q20
      try clear hx20
      try clear qi20
      try clear c21
      try clear c21b0
      try clear p23
      try clear q23
      try clear hx23
      try clear qi23
      try clear c24
      try clear c24b0
      try clear hcz22_0 hcz22_1
      try clear hcz25_0 hcz25_1
      try clear hcz26_0 hcz26_1
      try clear hcz8_0 hcz8_1
      try clear hfz22_0 hfz22_1
      try clear hfz25_0 hfz25_1
      try clear hfz26_0 hfz26_1
      try clear hfz8_0 hfz8_1
      try clear p14
      try clear p2
      try clear p20
      try clear p23
      try clear p3
      try clear p6
      try clear q14
      try clear q20
      try clear q23
      try clear q3
      obtain ⟨kq, HA, HJ10, BK107, HB⟩ := hcut
      cases kq with
      | zero => exact absurd HA.out (by simp [text_sequence.j1])
      | succ kj10 =>
       have H := HA.out
       clear HA
       simp only [text_sequence.j1] at H
       by_cases c27 : 2 < (a0.size : Int)
       ·rw [if_pos c27] at H
        have c27b0 : decide (2 < (a0.size : Int)) = true := decide_eq_true c27
        have c27b1 : decide (2 < a0.size) = true := decide_eq_true q2_
        have c27b2 : 2 < a0.size := by omega
        clear c27
        replace H := Option.bind_eq_some_iff.mp H
        obtain ⟨t109, A290, H⟩ := H
        replace H : (if t109 = true then (if 1 < (a0.size : Int) then (if (bt a0 1) < t104 then (some 0) else (if (bt a0 1) > t105 then (some 0) else (some (wrap64 (t103 + 1))))) else (none)) else (some 0)) = some r := H
        have A29 := Aside0.mk A290
        clear A290
        by_cases c30 : t109 = true
        ·subst c30
         have H1 : (if 1 < (a0.size : Int) then (if (bt a0 1) < t104 then (some 0) else (if (bt a0 1) > t105 then (some 0) else (some (wrap64 (t103 + 1))))) else (none)) = some r := by rw [if_pos rfl] at H; exact H
         clear H
         have H := H1
         clear H1
         by_cases c31 : 1 < (a0.size : Int)
         ·rw [if_pos c31] at H
          have c31b0 : decide (1 < (a0.size : Int)) = true := decide_eq_true c31
          have c31b1 : decide (1 < a0.size) = true := decide_eq_true q2_
          have c31b2 : 1 < a0.size := by omega
          clear c31
          by_cases c33 : (bt a0 1) < t104
          ·rw [if_pos c33] at H
           have c33b0 : decide ((bt a0 1) < t104) = true := decide_eq_true c33
           clear c33
           obtain rfl := Option.some.inj H
           have p28 : 0 ≤ (2 : Int) := q2_
           have q28 : 2 < a0.size := q104_
           have hx28 : ∀ h : 2 < a0.size, ((a0[2]'h).toNat : Int) = bt a0 2 := bt_at a0 2
           clear p28
           have qi28 : (2 < (a0.size : Int)) = True := eq_true (of_decide_eq_true q6_)
           replace q28 := eq_true q28
           iterate 9 (try (first | go_quiet ((go_at_call 59; (with_reducible refine (text_goesOn.calls (bt a0 2) true _ A29.out).mono ?_); rintro e w' ⟨rfl, ⟨nd, rfl⟩⟩; (try first | exact ⟨rfl, _, World.drewN_drewN _ _ _⟩ | exact ⟨rfl, _, Eq.trans (World.drewN_drewN _ _ _) (congrArg (World.drewN _) (Nat.add_assoc _ _ _))⟩); have p32 : 0 ≤ (1 : Int) := q2_; have q32 : 1 < a0.size := q87_; have hx32 : ∀ h : 1 < a0.size, ((a0[1]'h).toNat : Int) = bt a0 1 := bt_at a0 1; clear p32; have qi32 : (1 < (a0.size : Int)) = True := eq_true (of_decide_eq_true q6_); replace q32 := eq_true q32; have hcz34_0 : wc.cell? ⟨gb107, 0, none⟩ = some (.int .u8 t104) := (blk_cell BK107.out 0).trans rfl; have hcz34_1 : wc.cell? ⟨gb107, 1, none⟩ = some (.int .u8 t105) := (blk_cell BK107.out 1).trans rfl; have hfz34_0 := blk_frozen BK107.out 0; have hfz34_1 := blk_frozen BK107.out 1)) | go_wp2_with (first | (go_at_call 59; (with_reducible refine (text_goesOn.calls (bt a0 2) true _ A29.out).mono ?_); rintro e w' ⟨rfl, ⟨nd, rfl⟩⟩; (try first | exact ⟨rfl, _, World.drewN_drewN _ _ _⟩ | exact ⟨rfl, _, Eq.trans (World.drewN_drewN _ _ _) (congrArg (World.drewN _) (Nat.add_assoc _ _ _))⟩); have p32 : 0 ≤ (1 : Int) := q2_; have q32 : 1 < a0.size := q87_; have hx32 : ∀ h : 1 < a0.size, ((a0[1]'h).toNat : Int) = bt a0 1 := bt_at a0 1; clear p32; have qi32 : (1 < (a0.size : Int)) = True := eq_true (of_decide_eq_true q6_); replace q32 := eq_true q32; have hcz34_0 : wc.cell? ⟨gb107, 0, none⟩ = some (.int .u8 t104) := (blk_cell BK107.out 0).trans rfl; have hcz34_1 : wc.cell? ⟨gb107, 1, none⟩ = some (.int .u8 t105) := (blk_cell BK107.out 1).trans rfl; have hfz34_0 := blk_frozen BK107.out 0; have hfz34_1 := blk_frozen BK107.out 1))))
           go_ret
           exact ⟨q4_, q22_⟩
          ·rw [if_neg c33] at H
           have c33b0 : decide ((bt a0 1) < t104) = false := decide_eq_false c33
           clear c33
           by_cases c36 : (bt a0 1) > t105
           ·rw [if_pos c36] at H
            have c36b0 : decide (t105 < (bt a0 1)) = true := decide_eq_true c36
            clear c36
            obtain rfl := Option.some.inj H
            have p28 : 0 ≤ (2 : Int) := q2_
            have q28 : 2 < a0.size := q104_
            have hx28 : ∀ h : 2 < a0.size, ((a0[2]'h).toNat : Int) = bt a0 2 := bt_at a0 2
            clear p28
            have qi28 : (2 < (a0.size : Int)) = True := eq_true (of_decide_eq_true q6_)
            replace q28 := eq_true q28
            iterate 9 (try (first | go_quiet ((go_at_call 59; (with_reducible refine (text_goesOn.calls (bt a0 2) true _ A29.out).mono ?_); rintro e w' ⟨rfl, ⟨nd, rfl⟩⟩; (try first | exact ⟨rfl, _, World.drewN_drewN _ _ _⟩ | exact ⟨rfl, _, Eq.trans (World.drewN_drewN _ _ _) (congrArg (World.drewN _) (Nat.add_assoc _ _ _))⟩); have p32 : 0 ≤ (1 : Int) := q2_; have q32 : 1 < a0.size := q87_; have hx32 : ∀ h : 1 < a0.size, ((a0[1]'h).toNat : Int) = bt a0 1 := bt_at a0 1; clear p32; have qi32 : (1 < (a0.size : Int)) = True := eq_true (of_decide_eq_true q6_); replace q32 := eq_true q32; have hcz37_0 : wc.cell? ⟨gb107, 0, none⟩ = some (.int .u8 t104) := (blk_cell BK107.out 0).trans rfl; have hcz37_1 : wc.cell? ⟨gb107, 1, none⟩ = some (.int .u8 t105) := (blk_cell BK107.out 1).trans rfl; have hfz37_0 := blk_frozen BK107.out 0; have hfz37_1 := blk_frozen BK107.out 1; have p35 : 0 ≤ (1 : Int) := q2_; have q35 : 1 < a0.size := q87_; have hx35 : ∀ h : 1 < a0.size, ((a0[1]'h).toNat : Int) = bt a0 1 := bt_at a0 1; clear p35; have qi35 : (1 < (a0.size : Int)) = True := eq_true (of_decide_eq_true q6_); replace q35 := eq_true q35)) | go_wp2_with (first | (go_at_call 59; (with_reducible refine (text_goesOn.calls (bt a0 2) true _ A29.out).mono ?_); rintro e w' ⟨rfl, ⟨nd, rfl⟩⟩; (try first | exact ⟨rfl, _, World.drewN_drewN _ _ _⟩ | exact ⟨rfl, _, Eq.trans (World.drewN_drewN _ _ _) (congrArg (World.drewN _) (Nat.add_assoc _ _ _))⟩); have p32 : 0 ≤ (1 : Int) := q2_; have q32 : 1 < a0.size := q87_; have hx32 : ∀ h : 1 < a0.size, ((a0[1]'h).toNat : Int) = bt a0 1 := bt_at a0 1; clear p32; have qi32 : (1 < (a0.size : Int)) = True := eq_true (of_decide_eq_true q6_); replace q32 := eq_true q32; have hcz37_0 : wc.cell? ⟨gb107, 0, none⟩ = some (.int .u8 t104) := (blk_cell BK107.out 0).trans rfl; have hcz37_1 : wc.cell? ⟨gb107, 1, none⟩ = some (.int .u8 t105) := (blk_cell BK107.out 1).trans rfl; have hfz37_0 := blk_frozen BK107.out 0; have hfz37_1 := blk_frozen BK107.out 1; have p35 : 0 ≤ (1 : Int) := q2_; have q35 : 1 < a0.size := q87_; have hx35 : ∀ h : 1 < a0.size, ((a0[1]'h).toNat : Int) = bt a0 1 := bt_at a0 1; clear p35; have qi35 : (1 < (a0.size : Int)) = True := eq_true (of_decide_eq_true q6_); replace q35 := eq_true q35))))
            go_ret
            exact ⟨q4_, q22_⟩
           ·rw [if_neg c36] at H
            have c36b0 : decide (t105 < (bt a0 1)) = false := decide_eq_false c36
            clear c36
            obtain rfl := Option.some.inj H
            have p28 : 0 ≤ (2 : Int) := q2_
            have q28 : 2 < a0.size := q104_
            have hx28 : ∀ h : 2 < a0.size, ((a0[2]'h).toNat : Int) = bt a0 2 := bt_at a0 2
            clear p28
            have qi28 : (2 < (a0.size : Int)) = True := eq_true (of_decide_eq_true q6_)
            replace q28 := eq_true q28
            iterate 9 (try (first | go_quiet ((go_at_call 59; (with_reducible refine (text_goesOn.calls (bt a0 2) true _ A29.out).mono ?_); rintro e w' ⟨rfl, ⟨nd, rfl⟩⟩; (try first | exact ⟨rfl, _, World.drewN_drewN _ _ _⟩ | exact ⟨rfl, _, Eq.trans (World.drewN_drewN _ _ _) (congrArg (World.drewN _) (Nat.add_assoc _ _ _))⟩); have p32 : 0 ≤ (1 : Int) := q2_; have q32 : 1 < a0.size := q87_; have hx32 : ∀ h : 1 < a0.size, ((a0[1]'h).toNat : Int) = bt a0 1 := bt_at a0 1; clear p32; have qi32 : (1 < (a0.size : Int)) = True := eq_true (of_decide_eq_true q6_); replace q32 := eq_true q32; have hcz38_0 : wc.cell? ⟨gb107, 0, none⟩ = some (.int .u8 t104) := (blk_cell BK107.out 0).trans rfl; have hcz38_1 : wc.cell? ⟨gb107, 1, none⟩ = some (.int .u8 t105) := (blk_cell BK107.out 1).trans rfl; have hfz38_0 := blk_frozen BK107.out 0; have hfz38_1 := blk_frozen BK107.out 1; have p35 : 0 ≤ (1 : Int) := q2_; have q35 : 1 < a0.size := q87_; have hx35 : ∀ h : 1 < a0.size, ((a0[1]'h).toNat : Int) = bt a0 1 := bt_at a0 1; clear p35; have qi35 : (1 < (a0.size : Int)) = True := eq_true (of_decide_eq_true q6_); replace q35 := eq_true q35)) | go_wp2_with (first | (go_at_call 59; (with_reducible refine (text_goesOn.calls (bt a0 2) true _ A29.out).mono ?_); rintro e w' ⟨rfl, ⟨nd, rfl⟩⟩; (try first | exact ⟨rfl, _, World.drewN_drewN _ _ _⟩ | exact ⟨rfl, _, Eq.trans (World.drewN_drewN _ _ _) (congrArg (World.drewN _) (Nat.add_assoc _ _ _))⟩); have p32 : 0 ≤ (1 : Int) := q2_; have q32 : 1 < a0.size := q87_; have hx32 : ∀ h : 1 < a0.size, ((a0[1]'h).toNat : Int) = bt a0 1 := bt_at a0 1; clear p32; have qi32 : (1 < (a0.size : Int)) = True := eq_true (of_decide_eq_true q6_); replace q32 := eq_true q32; have hcz38_0 : wc.cell? ⟨gb107, 0, none⟩ = some (.int .u8 t104) := (blk_cell BK107.out 0).trans rfl; have hcz38_1 : wc.cell? ⟨gb107, 1, none⟩ = some (.int .u8 t105) := (blk_cell BK107.out 1).trans rfl; have hfz38_0 := blk_frozen BK107.out 0; have hfz38_1 := blk_frozen BK107.out 1; have p35 : 0 ≤ (1 : Int) := q2_; have q35 : 1 < a0.size := q87_; have hx35 : ∀ h : 1 < a0.size, ((a0[1]'h).toNat : Int) = bt a0 1 := bt_at a0 1; clear p35; have qi35 : (1 < (a0.size : Int)) = True := eq_true (of_decide_eq_true q6_); replace q35 := eq_true q35))))
            go_ret
            exact ⟨q4_, q22_⟩
         ·rw [if_neg c31] at H
          exact absurd H q28_
        ·replace c30 := Bool.eq_false_iff.mpr c30
         subst c30
         have H1 : (some 0) = some r := by rw [if_neg (show ¬ (false = true) by decide)] at H; exact H
         clear H
         have H := H1
         clear H1
         obtain rfl := Option.some.inj H
         have p28 : 0 ≤ (2 : Int) := q2_
         have q28 : 2 < a0.size := q104_
         have hx28 : ∀ h : 2 < a0.size, ((a0[2]'h).toNat : Int) = bt a0 2 := bt_at a0 2
         clear p28
         have qi28 : (2 < (a0.size : Int)) = True := eq_true (of_decide_eq_true q6_)
         replace q28 := eq_true q28
         iterate 9 (try (first | go_quiet ((go_at_call 59; (with_reducible refine (text_goesOn.calls (bt a0 2) false _ A29.out).mono ?_); rintro e w' ⟨rfl, ⟨nd, rfl⟩⟩; (try first | exact ⟨rfl, _, World.drewN_drewN _ _ _⟩ | exact ⟨rfl, _, Eq.trans (World.drewN_drewN _ _ _) (congrArg (World.drewN _) (Nat.add_assoc _ _ _))⟩))) | go_wp2_with (first | (go_at_call 59; (with_reducible refine (text_goesOn.calls (bt a0 2) false _ A29.out).mono ?_); rintro e w' ⟨rfl, ⟨nd, rfl⟩⟩; (try first | exact ⟨rfl, _, World.drewN_drewN _ _ _⟩ | exact ⟨rfl, _, Eq.trans (World.drewN_drewN _ _ _) (congrArg (World.drewN _) (Nat.add_assoc _ _ _))⟩)))))
         go_ret
         exact ⟨q4_, q22_⟩
       ·rw [if_neg c27] at H
        exact absurd H q28_
 ·rw [if_neg c2] at H
  exact absurd H q28_
def text_Check.l0 : Nat → ByteArray → Int → Option (Int × Int)
 | 0, _, _ => none
 | k + 1, x0, x4 => if x4 < (x0.size : Int) then (if 0 ≤ x4 then (if x4 ≤ (x0.size : Int) then ((text_sequence.f k (x0.extract (x4 : Int).toNat x0.size)).bind fun t110 => (if t110 = 0 then (some (10, x4)) else (text_Check.l0 k x0 (wrap64 (x4 + t110))))) else (none)) else (none)) else (some (0, (x0.size : Int)))
def text_Check.f (k : Nat) (a0 : ByteArray) : Option (Int × Int) := text_Check.l0 k a0 0
set_option maxHeartbeats 8000000 in
set_option maxRecDepth 100000 in
theorem text_Check.calls (k : Nat) (a0 : ByteArray) (r1 : Int) (r2 : Int) (w : World) (h : text_Check.f k a0 = some (r1, r2)) :
  Calls Tryd.prog 40 #[.string a0] w fun e w' => e = .returned (.tuple #[.int .i64 r1, .int .i64 r2]) ∧ Below w.heap.size w w' := by
 have HB := Aside0.mk (Below.refl w.heap.size w)
 have H : (text_Check.l0 k a0 0) = some (r1, r2) := h
 clear h
 have H' := Aside0.mk H
 clear H
 go_enter Tryd.func40, Tryd.ntmps40
 go_wp2
 go_loopg [4] k (fun kq v4 w' => ∃ (x4_1 : Int), v4 = .int .i64 x4_1 ∧ Aside0 (text_Check.l0 kq a0 x4_1 = some (r1, r2)) ∧ Aside0 (kq ≤ k) ∧ Aside0 (Below w.heap.size w w'))
 case atStart => exact ⟨(0), q3_, H', ⟨Nat.le_refl _⟩, ⟨q1_⟩⟩
 case round =>
  clear H'
  obtain ⟨x4_1, rfl, HA, HK1, HB⟩ := hrel
  cases gk with
  | zero => exact absurd HA.out (by simp [text_Check.l0])
  | succ k1 =>
   have H := HA.out
   clear HA
   simp only [text_Check.l0] at H
   by_cases c2 : x4_1 < (a0.size : Int)
   ·rw [if_pos c2] at H
    have c2b0 : decide (x4_1 < (a0.size : Int)) = true := decide_eq_true c2
    clear c2
    by_cases c3 : 0 ≤ x4_1
    ·rw [if_pos c3] at H
     have c3b0 := eq_true c3
     have c3b1 : decide (0 ≤ x4_1) = true := decide_eq_true c3
     clear c3
     by_cases c4 : x4_1 ≤ (a0.size : Int)
     ·rw [if_pos c4] at H
      have c4b0 := eq_true c4
      have c4b1 : decide (x4_1 ≤ (a0.size : Int)) = true := decide_eq_true c4
      clear c4
      replace H := Option.bind_eq_some_iff.mp H
      obtain ⟨t110, A50, H⟩ := H
      replace H : (if t110 = 0 then (some (10, x4_1)) else (text_Check.l0 k1 a0 (wrap64 (x4_1 + t110)))) = some (r1, r2) := H
      have A5 := Aside0.mk A50
      clear A50
      by_cases c6 : t110 = 0
      ·rw [if_pos c6] at H
       have c6b0 : (t110 == 0) = true := beq_iff_eq.mpr c6
       have c6b1 : (t110 != 0) = false := bne_eq_false_iff_eq.mpr c6
       clear c6
       simp only [Option.some.injEq, Prod.mk.injEq] at H
       obtain ⟨rfl, rfl⟩ := H
       go_wp2_with (first | ((with_reducible refine gate_callee (f := 51) rfl ?_); refine goesL_ (some 13) rfl rfl Tryd.func51 q9_ rfl #[.string (a0.extract (x4_1 : Int).toNat a0.size)] rfl q84_ ?_; (with_reducible refine (text_sequence.calls k1 (a0.extract (x4_1 : Int).toNat a0.size) t110 _ A5.out).mono ?_); rintro e w7 ⟨rfl, hb⟩; refine ⟨_, rfl, ?_⟩; have n0_ := Aside0.mk (below_step q1_ hb); clear HB; have HB := n0_; clear n0_; (try clear hb); (try clear hb2); (try clear hk); (try clear hi)))
       go_ret2
       exact ⟨q4_, q1_⟩
      ·rw [if_neg c6] at H
       have c6b0 : (t110 == 0) = false := beq_eq_false_iff_ne.mpr c6
       have c6b1 : (t110 != 0) = true := bne_iff_ne.mpr c6
       have H' := Aside0.mk H
       clear H
       go_wp2_with (first | ((with_reducible refine gate_callee (f := 51) rfl ?_); refine goesL_ (some 13) rfl rfl Tryd.func51 q9_ rfl #[.string (a0.extract (x4_1 : Int).toNat a0.size)] rfl q84_ ?_; (with_reducible refine (text_sequence.calls k1 (a0.extract (x4_1 : Int).toNat a0.size) t110 _ A5.out).mono ?_); rintro e w8 ⟨rfl, hb⟩; refine ⟨_, rfl, ?_⟩; have n0_ := Aside0.mk (below_step q1_ hb); clear HB; have HB := n0_; clear n0_; (try clear hb); (try clear hb2); (try clear hk); (try clear hi)))
       go_roundg k1
       case measure => have := HK1.out; omega
       case rel => exact ⟨(wrap64 (x4_1 + t110)), q3_, H', ⟨q75_⟩, ⟨q1_⟩⟩
     ·rw [if_neg c4] at H
      exact absurd H q28_
    ·rw [if_neg c3] at H
     exact absurd H q28_
   ·rw [if_neg c2] at H
    have c2b0 : decide (x4_1 < (a0.size : Int)) = false := decide_eq_false c2
    clear c2
    simp only [Option.some.injEq, Prod.mk.injEq] at H
    obtain ⟨rfl, rfl⟩ := H
    go_wp2
    go_ret2
    exact ⟨q4_, q1_⟩
end Go.Proofs.YtogjljpncdmlkaaDoor.GX
end
section
namespace Go.Proofs.YtogjljpncdmlkaaDoor.Tx
open Go.RowKit Go.Proofs.YtogjljpncdmlkaaDoorW.PrintWords Go.Proofs.YtogjljpncdmlkaaDoor.GX
set_option linter.unusedVariables false
set_option linter.unusedSimpArgs false
theorem getD_bt (s : ByteArray) (j : Nat) : ((s.data.toList.getD j 0).toNat : Int) = W.bt s j := by
  unfold W.bt
  by_cases h : j < s.size
  · rw [dif_pos h, List.getD_eq_getElem?_getD, List.getElem?_eq_getElem (by simpa using h)]
    simp
    rfl
  · rw [dif_neg h, List.getD_eq_getElem?_getD, List.getElem?_eq_none (by simp; exact Nat.le_of_not_lt h)]
    rfl
theorem bt_W (s : ByteArray) (j : Nat) : bt s (j : Int) = W.bt s j := rfl
theorem bt_ex (s : ByteArray) (i j : Nat) : bt (s.extract i s.size) (j : Int) = W.bt s (i + j) := by
  rw [bt_W, ← getD_bt, ← getD_bt]
  have e : (s.extract i s.size).data = s.data.extract i s.size := by simp
  rw [e, List.getD_eq_getElem?_getD, List.getD_eq_getElem?_getD, Array.toList_extract]
  simp only [List.extract_eq_take_drop, List.getElem?_take, List.getElem?_drop]
  by_cases h : j < s.size - i
  · rw [if_pos h]
  · rw [if_neg h]
    have e : s.data.toList[i + j]? = none := List.getElem?_eq_none (by simp; show s.size ≤ i + j; omega)
    rw [e]
theorem W_range (s : ByteArray) (j : Nat) : 0 ≤ W.bt s j ∧ W.bt s j ≤ 255 := by
  unfold W.bt
  split
  · rename_i h
    have := (s[j]'h).toNat_lt
    omega
  · omega
def rowsOf (b0 b1 b2 b3 n : Int) : Int :=
  if 1 ≤ n ∧ 0 ≤ b0 ∧ b0 ≤ 127 then 1
  else if 2 ≤ n ∧ 194 ≤ b0 ∧ b0 ≤ 223 ∧ 128 ≤ b1 ∧ b1 ≤ 191 then 2
  else if 3 ≤ n ∧ 224 ≤ b0 ∧ b0 ≤ 224 ∧ 160 ≤ b1 ∧ b1 ≤ 191 ∧ 128 ≤ b2 ∧ b2 ≤ 191 then 3
  else if 3 ≤ n ∧ 225 ≤ b0 ∧ b0 ≤ 236 ∧ 128 ≤ b1 ∧ b1 ≤ 191 ∧ 128 ≤ b2 ∧ b2 ≤ 191 then 3
  else if 3 ≤ n ∧ 237 ≤ b0 ∧ b0 ≤ 237 ∧ 128 ≤ b1 ∧ b1 ≤ 159 ∧ 128 ≤ b2 ∧ b2 ≤ 191 then 3
  else if 3 ≤ n ∧ 238 ≤ b0 ∧ b0 ≤ 239 ∧ 128 ≤ b1 ∧ b1 ≤ 191 ∧ 128 ≤ b2 ∧ b2 ≤ 191 then 3
  else if 4 ≤ n ∧ 240 ≤ b0 ∧ b0 ≤ 240 ∧ 144 ≤ b1 ∧ b1 ≤ 191 ∧ 128 ≤ b2 ∧ b2 ≤ 191 ∧ 128 ≤ b3 ∧ b3 ≤ 191 then 4
  else if 4 ≤ n ∧ 241 ≤ b0 ∧ b0 ≤ 243 ∧ 128 ≤ b1 ∧ b1 ≤ 191 ∧ 128 ≤ b2 ∧ b2 ≤ 191 ∧ 128 ≤ b3 ∧ b3 ≤ 191 then 4
  else if 4 ≤ n ∧ 244 ≤ b0 ∧ b0 ≤ 244 ∧ 128 ≤ b1 ∧ b1 ≤ 143 ∧ 128 ≤ b2 ∧ b2 ≤ 191 ∧ 128 ≤ b3 ∧ b3 ≤ 191 then 4
  else 0
theorem fit_iff (s : ByteArray) (i r : Nat) (P : Prop) (h : W.Fit s i r ↔ P) : (W.fitB s i r = true) = P := propext ((W.fitB_iff s i r).trans h)
theorem f1 (s : ByteArray) (i r : Nat) (l0 u0 : Int) (e : W.T (r * 9) = 1) (e0 : W.T (r * 9 + 1) = l0) (e1 : W.T (r * 9 + 2) = u0) : W.Fit s i r ↔ (1 ≤ (s.size : Int) - i ∧ l0 ≤ W.bt s i ∧ W.bt s i ≤ u0) := by
  unfold W.Fit
  rw [e]
  constructor
  · rintro ⟨h, k⟩
    have k0 := k 0 q19_
    rw [show r * 9 + (1 + 2 * 0) = r * 9 + 1 by omega, show r * 9 + (2 + 2 * 0) = r * 9 + 2 by omega, e0, e1, Nat.add_zero] at k0
    exact ⟨q2_, k0.1, k0.2⟩
  · rintro ⟨h, a, b⟩
    refine ⟨q2_, fun j hj => ?_⟩
    obtain rfl : j = 0 := by omega
    rw [show r * 9 + (1 + 2 * 0) = r * 9 + 1 by omega, show r * 9 + (2 + 2 * 0) = r * 9 + 2 by omega, e0, e1, Nat.add_zero]
    exact ⟨a, b⟩
theorem f2 (s : ByteArray) (i r : Nat) (l0 u0 l1 u1 : Int) (e : W.T (r * 9) = 2) (e0 : W.T (r * 9 + 1) = l0) (e1 : W.T (r * 9 + 2) = u0) (e2 : W.T (r * 9 + 3) = l1) (e3 : W.T (r * 9 + 4) = u1) :
    W.Fit s i r ↔ (2 ≤ (s.size : Int) - i ∧ l0 ≤ W.bt s i ∧ W.bt s i ≤ u0 ∧ l1 ≤ W.bt s (i + 1) ∧ W.bt s (i + 1) ≤ u1) := by
  unfold W.Fit
  rw [e]
  have x0 : r * 9 + (1 + 2 * 0) = r * 9 + 1 := by omega
  have x1 : r * 9 + (2 + 2 * 0) = r * 9 + 2 := by omega
  have x2 : r * 9 + (1 + 2 * 1) = r * 9 + 3 := by omega
  have x3 : r * 9 + (2 + 2 * 1) = r * 9 + 4 := by omega
  constructor
  · rintro ⟨h, k⟩
    have k0 := k 0 q19_
    have k1 := k 1 q19_
    rw [x0, x1, e0, e1, Nat.add_zero] at k0
    rw [x2, x3, e2, e3] at k1
    exact ⟨q2_, k0.1, k0.2, k1.1, k1.2⟩
  · rintro ⟨h, a, b, c, d⟩
    refine ⟨q2_, fun j hj => ?_⟩
    rcases (show j = 0 ∨ j = 1 by omega) with rfl | rfl
    · rw [x0, x1, e0, e1, Nat.add_zero]; exact ⟨a, b⟩
    · rw [x2, x3, e2, e3]; exact ⟨c, d⟩
theorem f3 (s : ByteArray) (i r : Nat) (l0 u0 l1 u1 l2 u2 : Int) (e : W.T (r * 9) = 3) (e0 : W.T (r * 9 + 1) = l0) (e1 : W.T (r * 9 + 2) = u0) (e2 : W.T (r * 9 + 3) = l1) (e3 : W.T (r * 9 + 4) = u1) (e4 : W.T (r * 9 + 5) = l2) (e5 : W.T (r * 9 + 6) = u2) :
    W.Fit s i r ↔ (3 ≤ (s.size : Int) - i ∧ l0 ≤ W.bt s i ∧ W.bt s i ≤ u0 ∧ l1 ≤ W.bt s (i + 1) ∧ W.bt s (i + 1) ≤ u1 ∧ l2 ≤ W.bt s (i + 2) ∧ W.bt s (i + 2) ≤ u2) := by
  unfold W.Fit
  rw [e]
  have x0 : r * 9 + (1 + 2 * 0) = r * 9 + 1 := by omega
  have x1 : r * 9 + (2 + 2 * 0) = r * 9 + 2 := by omega
  have x2 : r * 9 + (1 + 2 * 1) = r * 9 + 3 := by omega
  have x3 : r * 9 + (2 + 2 * 1) = r * 9 + 4 := by omega
  have x4 : r * 9 + (1 + 2 * 2) = r * 9 + 5 := by omega
  have x5 : r * 9 + (2 + 2 * 2) = r * 9 + 6 := by omega
  constructor
  · rintro ⟨h, k⟩
    have k0 := k 0 q19_
    have k1 := k 1 q19_
    have k2 := k 2 q19_
    rw [x0, x1, e0, e1, Nat.add_zero] at k0
    rw [x2, x3, e2, e3] at k1
    rw [x4, x5, e4, e5] at k2
    exact ⟨q2_, k0.1, k0.2, k1.1, k1.2, k2.1, k2.2⟩
  · rintro ⟨h, a, b, c, d, f, g⟩
    refine ⟨q2_, fun j hj => ?_⟩
    rcases (show j = 0 ∨ j = 1 ∨ j = 2 by omega) with rfl | rfl | rfl
    · rw [x0, x1, e0, e1, Nat.add_zero]; exact ⟨a, b⟩
    · rw [x2, x3, e2, e3]; exact ⟨c, d⟩
    · rw [x4, x5, e4, e5]; exact ⟨f, g⟩
theorem f4 (s : ByteArray) (i r : Nat) (l0 u0 l1 u1 l2 u2 l3 u3 : Int) (e : W.T (r * 9) = 4) (e0 : W.T (r * 9 + 1) = l0) (e1 : W.T (r * 9 + 2) = u0) (e2 : W.T (r * 9 + 3) = l1) (e3 : W.T (r * 9 + 4) = u1) (e4 : W.T (r * 9 + 5) = l2) (e5 : W.T (r * 9 + 6) = u2) (e6 : W.T (r * 9 + 7) = l3) (e7 : W.T (r * 9 + 8) = u3) :
    W.Fit s i r ↔ (4 ≤ (s.size : Int) - i ∧ l0 ≤ W.bt s i ∧ W.bt s i ≤ u0 ∧ l1 ≤ W.bt s (i + 1) ∧ W.bt s (i + 1) ≤ u1 ∧ l2 ≤ W.bt s (i + 2) ∧ W.bt s (i + 2) ≤ u2 ∧ l3 ≤ W.bt s (i + 3) ∧ W.bt s (i + 3) ≤ u3) := by
  unfold W.Fit
  rw [e]
  have x0 : r * 9 + (1 + 2 * 0) = r * 9 + 1 := by omega
  have x1 : r * 9 + (2 + 2 * 0) = r * 9 + 2 := by omega
  have x2 : r * 9 + (1 + 2 * 1) = r * 9 + 3 := by omega
  have x3 : r * 9 + (2 + 2 * 1) = r * 9 + 4 := by omega
  have x4 : r * 9 + (1 + 2 * 2) = r * 9 + 5 := by omega
  have x5 : r * 9 + (2 + 2 * 2) = r * 9 + 6 := by omega
  have x6 : r * 9 + (1 + 2 * 3) = r * 9 + 7 := by omega
  have x7 : r * 9 + (2 + 2 * 3) = r * 9 + 8 := by omega
  constructor
  · rintro ⟨h, k⟩
    have k0 := k 0 q19_
    have k1 := k 1 q19_
    have k2 := k 2 q19_
    have k3 := k 3 q19_
    rw [x0, x1, e0, e1, Nat.add_zero] at k0
    rw [x2, x3, e2, e3] at k1
    rw [x4, x5, e4, e5] at k2
    rw [x6, x7, e6, e7] at k3
    exact ⟨q2_, k0.1, k0.2, k1.1, k1.2, k2.1, k2.2, k3.1, k3.2⟩
  · rintro ⟨h, a, b, c, d, f, g, p, q⟩
    refine ⟨q2_, fun j hj => ?_⟩
    rcases (show j = 0 ∨ j = 1 ∨ j = 2 ∨ j = 3 by omega) with rfl | rfl | rfl | rfl
    · rw [x0, x1, e0, e1, Nat.add_zero]; exact ⟨a, b⟩
    · rw [x2, x3, e2, e3]; exact ⟨c, d⟩
    · rw [x4, x5, e4, e5]; exact ⟨f, g⟩
    · rw [x6, x7, e6, e7]; exact ⟨p, q⟩
theorem seqB_rows (s : ByteArray) (i : Nat) : W.seqB s i = rowsOf (W.bt s i) (W.bt s (i + 1)) (W.bt s (i + 2)) (W.bt s (i + 3)) ((s.size : Int) - i) := by
  unfold W.seqB rowsOf
  simp only [W.seqFrom, fit_iff s i 0 _ (f1 s i 0 0 127 rfl rfl rfl), fit_iff s i (0 + 1) _ (f2 s i 1 194 223 128 191 rfl rfl rfl rfl rfl), fit_iff s i (0 + 1 + 1) _ (f3 s i 2 224 224 160 191 128 191 rfl rfl rfl rfl rfl rfl rfl),
    fit_iff s i (0 + 1 + 1 + 1) _ (f3 s i 3 225 236 128 191 128 191 rfl rfl rfl rfl rfl rfl rfl), fit_iff s i (0 + 1 + 1 + 1 + 1) _ (f3 s i 4 237 237 128 159 128 191 rfl rfl rfl rfl rfl rfl rfl), fit_iff s i (0 + 1 + 1 + 1 + 1 + 1) _ (f3 s i 5 238 239 128 191 128 191 rfl rfl rfl rfl rfl rfl rfl),
    fit_iff s i (0 + 1 + 1 + 1 + 1 + 1 + 1) _ (f4 s i 6 240 240 144 191 128 191 128 191 rfl rfl rfl rfl rfl rfl rfl rfl rfl), fit_iff s i (0 + 1 + 1 + 1 + 1 + 1 + 1 + 1) _ (f4 s i 7 241 243 128 191 128 191 128 191 rfl rfl rfl rfl rfl rfl rfl rfl rfl), fit_iff s i (0 + 1 + 1 + 1 + 1 + 1 + 1 + 1 + 1) _ (f4 s i 8 244 244 128 143 128 191 128 191 rfl rfl rfl rfl rfl rfl rfl rfl rfl)]
  rfl
theorem rows1 (b0 b1 b2 b3 n : Int) (hp : 0 < n) (h : 0 ≤ b0 ∧ b0 < 128) : rowsOf b0 b1 b2 b3 n = 1 := by
  unfold rowsOf
  rw [if_pos q2_]
theorem rows0 (b0 b1 b2 b3 n : Int) (h : 128 ≤ b0 ∧ b0 < 194 ∨ 244 < b0) : rowsOf b0 b1 b2 b3 n = 0 := by
  unfold rowsOf
  rw [if_neg q2_, if_neg q2_, if_neg q2_, if_neg q2_, if_neg q2_, if_neg q2_, if_neg q2_, if_neg q2_, if_neg q2_]
theorem rows2 (b0 b1 b2 b3 n : Int) (h : 194 ≤ b0 ∧ b0 ≤ 223) : rowsOf b0 b1 b2 b3 n = if 2 ≤ n ∧ 128 ≤ b1 ∧ b1 ≤ 191 then 2 else 0 := by
  unfold rowsOf
  rw [if_neg q2_]
  by_cases c : 2 ≤ n ∧ 128 ≤ b1 ∧ b1 ≤ 191
  · rw [if_pos c, if_pos q2_]
  · rw [if_neg c, if_neg (fun x => c ⟨x.1, x.2.2.2.1, x.2.2.2.2⟩), if_neg q2_, if_neg q2_, if_neg q2_, if_neg q2_, if_neg q2_, if_neg q2_, if_neg q2_]
theorem rows3 (b0 b1 b2 b3 n lo up : Int) (hc : (b0 = 224 ∧ lo = 160 ∧ up = 191) ∨ (b0 = 237 ∧ lo = 128 ∧ up = 159) ∨ (225 ≤ b0 ∧ b0 ≤ 239 ∧ b0 ≠ 237 ∧ lo = 128 ∧ up = 191)) : rowsOf b0 b1 b2 b3 n = if 3 ≤ n ∧ lo ≤ b1 ∧ b1 ≤ up ∧ 128 ≤ b2 ∧ b2 ≤ 191 then 3 else 0 := by
  unfold rowsOf
  by_cases c : 3 ≤ n ∧ lo ≤ b1 ∧ b1 ≤ up ∧ 128 ≤ b2 ∧ b2 ≤ 191
  · rw [if_pos c]
    rcases hc with ⟨h0, h1, h2⟩ | ⟨h0, h1, h2⟩ | ⟨h0, h0', h0'', h1, h2⟩
    · rw [if_neg q2_, if_neg q2_, if_pos q2_]
    · rw [if_neg q2_, if_neg q2_, if_neg q2_, if_neg q2_, if_pos q2_]
    · by_cases d : b0 ≤ 236
      · rw [if_neg q2_, if_neg q2_, if_neg q2_, if_pos q2_]
      · rw [if_neg q2_, if_neg q2_, if_neg q2_, if_neg q2_, if_neg q2_, if_pos q2_]
  · rw [if_neg c]
    have c' : ∀ l u : Int, l = lo → u = up → ¬ (3 ≤ n ∧ 1 = 1 ∧ 1 = 1 ∧ l ≤ b1 ∧ b1 ≤ u ∧ 128 ≤ b2 ∧ b2 ≤ 191) := fun l u e1 e2 x => c (by rw [← e1, ← e2]; exact ⟨x.1, x.2.2.2⟩)
    clear c
    rcases hc with ⟨h0, h1, h2⟩ | ⟨h0, h1, h2⟩ | ⟨h0, h0', h0'', h1, h2⟩
    · have c := c' 160 191 h1.symm h2.symm
      clear c'
      have e : ¬ (3 ≤ n ∧ 224 ≤ b0 ∧ b0 ≤ 224 ∧ 160 ≤ b1 ∧ b1 ≤ 191 ∧ 128 ≤ b2 ∧ b2 ≤ 191) := fun x => c ⟨x.1, rfl, rfl, x.2.2.2⟩
      clear c
      rw [if_neg q52_, if_neg q52_, if_neg e, if_neg q52_, if_neg q52_, if_neg q52_, if_neg q52_, if_neg q52_, if_neg q52_]
    · have c := c' 128 159 h1.symm h2.symm
      clear c'
      have e : ¬ (3 ≤ n ∧ 237 ≤ b0 ∧ b0 ≤ 237 ∧ 128 ≤ b1 ∧ b1 ≤ 159 ∧ 128 ≤ b2 ∧ b2 ≤ 191) := fun x => c ⟨x.1, rfl, rfl, x.2.2.2⟩
      clear c
      rw [if_neg q52_, if_neg q52_, if_neg q52_, if_neg q52_, if_neg e, if_neg q52_, if_neg q52_, if_neg q52_, if_neg q52_]
    · have c := c' 128 191 h1.symm h2.symm
      clear c'
      have e : ¬ (3 ≤ n ∧ 225 ≤ b0 ∧ b0 ≤ 236 ∧ 128 ≤ b1 ∧ b1 ≤ 191 ∧ 128 ≤ b2 ∧ b2 ≤ 191) := fun x => c ⟨x.1, rfl, rfl, x.2.2.2⟩
      have e' : ¬ (3 ≤ n ∧ 238 ≤ b0 ∧ b0 ≤ 239 ∧ 128 ≤ b1 ∧ b1 ≤ 191 ∧ 128 ≤ b2 ∧ b2 ≤ 191) := fun x => c ⟨x.1, rfl, rfl, x.2.2.2⟩
      clear c
      rw [if_neg (by clear e e'; omega), if_neg (by clear e e'; omega), if_neg (by clear e e'; omega), if_neg e, if_neg (by clear e e'; omega), if_neg e', if_neg (by clear e e'; omega), if_neg (by clear e e'; omega), if_neg (by clear e e'; omega)]
theorem rows4 (b0 b1 b2 b3 n lo up : Int) (hc : (b0 = 240 ∧ lo = 144 ∧ up = 191) ∨ (241 ≤ b0 ∧ b0 ≤ 243 ∧ lo = 128 ∧ up = 191) ∨ (b0 = 244 ∧ lo = 128 ∧ up = 143)) : rowsOf b0 b1 b2 b3 n = if 4 ≤ n ∧ lo ≤ b1 ∧ b1 ≤ up ∧ 128 ≤ b2 ∧ b2 ≤ 191 ∧ 128 ≤ b3 ∧ b3 ≤ 191 then 4 else 0 := by
  unfold rowsOf
  by_cases c : 4 ≤ n ∧ lo ≤ b1 ∧ b1 ≤ up ∧ 128 ≤ b2 ∧ b2 ≤ 191 ∧ 128 ≤ b3 ∧ b3 ≤ 191
  · rw [if_pos c]
    rcases hc with ⟨h0, h1, h2⟩ | ⟨h0, h0', h1, h2⟩ | ⟨h0, h1, h2⟩
    · rw [if_neg q2_, if_neg q2_, if_neg q2_, if_neg q2_, if_neg q2_, if_neg q2_, if_pos q2_]
    · rw [if_neg q2_, if_neg q2_, if_neg q2_, if_neg q2_, if_neg q2_, if_neg q2_, if_neg q2_, if_pos q2_]
    · rw [if_neg q2_, if_neg q2_, if_neg q2_, if_neg q2_, if_neg q2_, if_neg q2_, if_neg q2_, if_neg q2_, if_pos q2_]
  · rw [if_neg c]
    have c' : ∀ l u : Int, l = lo → u = up → ∀ p q : Int, ¬ (4 ≤ n ∧ p ≤ b0 ∧ b0 ≤ q ∧ l ≤ b1 ∧ b1 ≤ u ∧ 128 ≤ b2 ∧ b2 ≤ 191 ∧ 128 ≤ b3 ∧ b3 ≤ 191) := fun l u e1 e2 p q x => c (by rw [← e1, ← e2]; exact ⟨x.1, x.2.2.2⟩)
    clear c
    rcases hc with ⟨h0, h1, h2⟩ | ⟨h0, h0', h1, h2⟩ | ⟨h0, h1, h2⟩
    · have e := c' 144 191 h1.symm h2.symm 240 240
      clear c'
      rw [if_neg q52_, if_neg q52_, if_neg q52_, if_neg q52_, if_neg q52_, if_neg q52_, if_neg e, if_neg q52_, if_neg q52_]
    · have e := c' 128 191 h1.symm h2.symm 241 243
      clear c'
      rw [if_neg q52_, if_neg q52_, if_neg q52_, if_neg q52_, if_neg q52_, if_neg q52_, if_neg q52_, if_neg e, if_neg q52_]
    · have e := c' 128 143 h1.symm h2.symm 244 244
      clear c'
      rw [if_neg q52_, if_neg q52_, if_neg q52_, if_neg q52_, if_neg q52_, if_neg q52_, if_neg q52_, if_neg q52_, if_neg e]
theorem goesOn_f (b : Int) : text_goesOn.f b = some (decide (128 ≤ b ∧ b ≤ 191)) := by
  unfold text_goesOn.f
  by_cases c : b ≥ 128
  · rw [if_pos c]; congr 1; rw [decide_eq_decide]; exact ⟨fun x => ⟨c, x⟩, fun x => x.2⟩
  · rw [if_neg c]; congr 1; exact (decide_eq_false (fun x => c x.1)).symm
theorem seqj1 (kk : Nat) (t : ByteArray) (x3 lo up b1 b2 : Int) (h1 : bt t 1 = b1) (h2 : bt t 2 = b2) (hn : 3 ≤ (t.size : Int)) (hx : 0 ≤ x3 ∧ x3 ≤ 3) : text_sequence.j1 (kk + 1) t x3 lo up = some (if lo ≤ b1 ∧ b1 ≤ up ∧ 128 ≤ b2 ∧ b2 ≤ 191 then x3 + 1 else 0) := by
  have hw : wrap64 (x3 + 1) = x3 + 1 := by unfold wrap64; omega
  rw [text_sequence.j1, if_pos q2_, goesOn_f, Option.bind_some, h1, h2, hw]
  by_cases e0 : 128 ≤ b2 ∧ b2 ≤ 191
  rotate_left
  · rw [decide_eq_false e0, if_neg q19_, if_neg (fun x => e0 x.2.2)]
  rw [decide_eq_true e0, if_pos rfl, if_pos q2_]
  by_cases e1 : b1 < lo
  · rw [if_pos e1, if_neg (fun x => by omega)]
  rw [if_neg e1]
  by_cases e2 : b1 > up
  · rw [if_pos e2, if_neg (fun x => by omega)]
  rw [if_neg e2, if_pos ⟨q2_, q2_, e0⟩]
theorem seq_f (k : Nat) (t : ByteArray) (b0 b1 b2 b3 n : Int) (h0 : bt t 0 = b0) (h1 : bt t 1 = b1) (h2 : bt t 2 = b2) (h3 : bt t 3 = b3) (hn : (t.size : Int) = n) (hp : 0 < n)
    (r0 : 0 ≤ b0 ∧ b0 ≤ 255) : text_sequence.f (k + 4) t = some (rowsOf b0 b1 b2 b3 n) := by
  have w1 : wrap64 (0 + 1) = 1 := by kernel_rfl
  have w2 : wrap64 (1 + 1) = 2 := by kernel_rfl
  have w3 : wrap64 (2 + 1) = 3 := by kernel_rfl
  have w4 : wrap64 (3 + 1) = 4 := by kernel_rfl
  unfold text_sequence.f
  rw [hn, if_pos hp]
  unfold text_missing.f
  rw [h0]
  clear h0
  by_cases c0 : b0 < 128
  · rw [if_pos c0, Option.bind_some, if_pos rfl, w1, text_sequence.j0, decide_eq_false (by omega : ¬ n < 1), if_neg q19_, if_neg q2_, if_neg q2_, if_neg q2_, w1, rows1 _ _ _ _ _ hp ⟨r0.1, c0⟩]
  rw [if_neg c0]
  by_cases c1 : b0 ≥ 194
  rotate_left
  · rw [if_neg c1, text_missing.j0, if_neg q19_, if_neg q2_, if_neg q2_, if_neg q2_, text_missing.j1, if_neg q19_, if_neg q2_, if_neg q2_, text_missing.j2, if_neg q19_, if_neg q2_, Option.bind_some, if_neg q19_, text_sequence.j0, if_pos rfl, rows0 _ _ _ _ _ q2_]
  rw [if_pos c1, text_missing.j0]
  by_cases c2 : b0 ≤ 223
  · rw [decide_eq_true c2, if_pos rfl, Option.bind_some, if_pos rfl, w2, text_sequence.j0, rows2 _ _ _ _ _ ⟨c1, c2⟩]
    by_cases d : n < 2
    · rw [decide_eq_true d, if_pos rfl, if_neg q2_]
    rw [decide_eq_false d, if_neg q19_, if_neg q2_, if_neg q2_, if_pos q2_, hn, if_pos q2_, h1]
    by_cases e1 : b1 < 128
    · rw [if_pos e1, if_neg q2_]
    rw [if_neg e1]
    by_cases e2 : b1 > 191
    · rw [if_pos e2, if_neg q2_]
    rw [if_neg e2, w2, if_pos q2_]
  rw [decide_eq_false c2, if_neg q19_]
  have two : ∀ (lo up : Int), ((b0 = 224 ∧ lo = 160 ∧ up = 191) ∨ (b0 = 237 ∧ lo = 128 ∧ up = 159) ∨ (225 ≤ b0 ∧ b0 ≤ 239 ∧ b0 ≠ 237 ∧ lo = 128 ∧ up = 191)) →
      text_sequence.j0 (k + 4) t 2 (decide (n < wrap64 (2 + 1))) lo up = some (rowsOf b0 b1 b2 b3 n) := by
    intro lo up hc
    rw [w3, text_sequence.j0, rows3 _ _ _ _ _ lo up hc]
    clear hc
    by_cases d : n < 3
    · rw [decide_eq_true d, if_pos rfl, if_neg q2_]
    rw [decide_eq_false d, if_neg q19_, if_neg q19_, if_pos rfl, seqj1 _ t 2 lo up b1 b2 h1 h2 q2_ q19_]
    congr 1
    by_cases e : lo ≤ b1 ∧ b1 ≤ up ∧ 128 ≤ b2 ∧ b2 ≤ 191
    · rw [if_pos e, if_pos ⟨q2_, e⟩]; rfl
    · rw [if_neg e, if_neg (fun x => e x.2)]
  have three : ∀ (lo up : Int), ((b0 = 240 ∧ lo = 144 ∧ up = 191) ∨ (241 ≤ b0 ∧ b0 ≤ 243 ∧ lo = 128 ∧ up = 191) ∨ (b0 = 244 ∧ lo = 128 ∧ up = 143)) →
      text_sequence.j0 (k + 4) t 3 (decide (n < wrap64 (3 + 1))) lo up = some (rowsOf b0 b1 b2 b3 n) := by
    intro lo up hc
    rw [w4, text_sequence.j0, rows4 _ _ _ _ _ lo up hc]
    clear hc
    by_cases d : n < 4
    · rw [decide_eq_true d, if_pos rfl, if_neg q2_]
    rw [decide_eq_false d, if_neg q19_, if_pos rfl, hn, if_pos q2_, goesOn_f, Option.bind_some, h3]
    by_cases e0 : 128 ≤ b3 ∧ b3 ≤ 191
    rotate_left
    · rw [decide_eq_false e0, if_neg q19_, if_neg (fun x => e0 x.2.2.2.2.2)]
    rw [decide_eq_true e0, if_pos rfl, seqj1 _ t 3 lo up b1 b2 h1 h2 q2_ q19_]
    congr 1
    by_cases e : lo ≤ b1 ∧ b1 ≤ up ∧ 128 ≤ b2 ∧ b2 ≤ 191
    · rw [if_pos e, if_pos ⟨q2_, e.1, e.2.1, e.2.2.1, e.2.2.2, e0.1, e0.2⟩]; rfl
    · rw [if_neg e, if_neg (fun x => e ⟨x.2.1, x.2.2.1, x.2.2.2.1, x.2.2.2.2.1⟩)]
  by_cases c3 : b0 = 224
  · rw [if_pos c3, Option.bind_some, if_pos rfl]
    exact two 160 191 (Or.inl ⟨c3, rfl, rfl⟩)
  rw [if_neg c3]
  by_cases c4 : b0 = 237
  · rw [if_pos c4, Option.bind_some, if_pos rfl]
    exact two 128 159 (Or.inr (Or.inl ⟨c4, rfl, rfl⟩))
  rw [if_neg c4, if_pos q2_, text_missing.j1]
  by_cases c5 : b0 ≤ 239
  · rw [decide_eq_true c5, if_pos rfl, Option.bind_some, if_pos rfl]
    exact two 128 191 (Or.inr (Or.inr ⟨q2_, c5, c4, rfl, rfl⟩))
  rw [decide_eq_false c5, if_neg q19_]
  by_cases c6 : b0 = 240
  · rw [if_pos c6, Option.bind_some, if_pos rfl]
    exact three 144 191 (Or.inl ⟨c6, rfl, rfl⟩)
  rw [if_neg c6, if_pos q2_, text_missing.j2]
  by_cases c7 : b0 ≤ 243
  · rw [decide_eq_true c7, if_pos rfl, Option.bind_some, if_pos rfl]
    exact three 128 191 (Or.inr (Or.inl ⟨q2_, c7, rfl, rfl⟩))
  rw [decide_eq_false c7, if_neg q19_]
  by_cases c8 : b0 = 244
  · rw [if_pos c8, Option.bind_some, if_pos rfl]
    exact three 128 143 (Or.inr (Or.inr ⟨c8, rfl, rfl⟩))
  rw [if_neg c8, Option.bind_some, if_neg q19_, text_sequence.j0, if_pos rfl, rows0 _ _ _ _ _ q2_]
theorem seqB_range (s : ByteArray) (i : Nat) : 0 ≤ W.seqB s i ∧ W.seqB s i ≤ 4 ∧ (W.seqB s i ≠ 0 → (i : Int) + W.seqB s i ≤ s.size) := by
  rw [seqB_rows]
  have b1 : ∀ x : Int, (x = 0 ∨ 1 ≤ x ∧ x ≤ 4 ∧ x ≤ (s.size : Int) - i) → 0 ≤ x ∧ x ≤ 4 ∧ (x ≠ 0 → (i : Int) + x ≤ s.size) := fun x h => by omega
  apply b1
  clear b1
  unfold rowsOf
  split
  · rename_i h; exact Or.inr ⟨q19_, q19_, h.1⟩
  split
  · rename_i h; exact Or.inr ⟨q19_, q19_, h.1⟩
  split
  · rename_i h; exact Or.inr ⟨q19_, q19_, h.1⟩
  split
  · rename_i h; exact Or.inr ⟨q19_, q19_, h.1⟩
  split
  · rename_i h; exact Or.inr ⟨q19_, q19_, h.1⟩
  split
  · rename_i h; exact Or.inr ⟨q19_, q19_, h.1⟩
  split
  · rename_i h; exact Or.inr ⟨q19_, q19_, h.1⟩
  split
  · rename_i h; exact Or.inr ⟨q19_, q19_, h.1⟩
  split
  · rename_i h; exact Or.inr ⟨q19_, q19_, h.1⟩
  exact Or.inl rfl
theorem check_l (s : ByteArray) (hs : s.size ≤ 140737488355328) : ∀ (j i k : Nat), i + j = s.size → text_Check.l0 (k + j + 5) s (i : Int) = some (W.chkF s (k + j + 1) i) := by
  intro j
  induction j using Nat.strongRecOn with
  | _ j ih =>
    intro i k hi
    rw [show k + j + 5 = (k + j) + 4 + 1 by omega, text_Check.l0, W.chkF]
    by_cases h : i < s.size
    · have e0 : ((i : Int)).toNat = i := Int.toNat_natCast i
      have hz : ((s.extract i s.size).size : Int) = (s.size : Int) - i := by rw [ByteArray.size_extract]; omega
      rw [if_pos q2_, if_pos q2_, if_pos q2_, e0, seq_f (k + j) _ (W.bt s i) (W.bt s (i + 1)) (W.bt s (i + 2)) (W.bt s (i + 3)) ((s.size : Int) - i) (bt_ex s i 0) (bt_ex s i 1) (bt_ex s i 2) (bt_ex s i 3) hz q2_ (W_range s i), ← seqB_rows, Option.bind_some, if_neg (show ¬ s.size ≤ i by omega)]
      obtain ⟨r0, r1, r2⟩ := seqB_range s i
      by_cases z : W.seqB s i = 0
      · rw [if_pos z, if_pos z]
      · rw [if_neg z, if_neg z]
        have r3 := r2 z
        obtain ⟨m, hm⟩ : ∃ m : Nat, W.seqB s i = ((m + 1 : Nat) : Int) := ⟨(W.seqB s i).toNat - 1, q2_⟩
        rw [hm, show wrap64 ((i : Int) + ((m + 1 : Nat) : Int)) = ((i + (m + 1) : Nat) : Int) by unfold wrap64; omega, Int.toNat_natCast]
        have := ih (j - (m + 1)) q2_ (i + (m + 1)) (k + m) q2_
        rw [show k + m + (j - (m + 1)) + 5 = k + j + 4 by omega, show k + m + (j - (m + 1)) + 1 = k + j by omega] at this
        exact this
    · rw [if_neg q2_, if_pos q2_]
theorem check_f (s : ByteArray) (hs : s.size ≤ 140737488355328) : text_Check.f (s.size + 5) s = some (W.chkB s) := by
  unfold text_Check.f
  have h := check_l s hs s.size 0 0 q2_
  rw [Nat.zero_add] at h
  exact h
theorem check_any (s : ByteArray) (hs : s.size ≤ 140737488355328) (w : World) :
    Calls Tryd.prog 40 #[.string s] w fun en w' => en = .returned (.tuple #[.int .i64 (W.chkB s).1, .int .i64 (W.chkB s).2]) ∧ Below w.heap.size w w' :=
  text_Check.calls (s.size + 5) s _ _ w (check_f s hs)
def U (s : ByteArray) : Bool := (W.chkB s).1 == 0
end Go.Proofs.YtogjljpncdmlkaaDoor.Tx
end
