/- Texts of this claim in one: GJx1, Hj, So -/
import Derived.Test.YtogjljpncdmlkaaDoorB3
import Derived.Test.YtogjljpncdmlkaaDoorB8
import Derived.Test.YtogjljpncdmlkaaDoorB6
import Derived.Lib.Hide
section
namespace Go.Proofs.YtogjljpncdmlkaaDoor.GJ
open Go.RowKit Go.Proofs.YtogjljpncdmlkaaDoorW.PrintWords Go.Proofs.YtogjljpncdmlkaaDoorW.PrintLast Go.Proofs.YtogjljpncdmlkaaDoorW.PrintMore
attribute [local go_sem] max2_int min2_int max_two min_two max_three min_three max_four min_four   -- for this text's walks alone
set_option linter.unusedVariables false
set_option linter.unusedSimpArgs false
def rosterref02_fine.f (a0 : Int) (a1 : Int) : Option (Bool) := if a0 ≥ 0 then (if a0 ≤ 3 then (if a1 ≥ 0 then (some (decide (a1 ≤ 30))) else (some false)) else (some false)) else (some false)
set_option maxHeartbeats 8000000 in
set_option maxRecDepth 100000 in
theorem rosterref02_fine.calls (a0 : Int) (a1 : Int) (r : Bool) (w : World) (h : rosterref02_fine.f a0 a1 = some r) :
  Calls Tryd.prog 50 #[.int .i64 a0, .int .i64 a1] w fun e w' => e = .returned (.bool r) ∧ Drawn0 w w' := by
 have H : (if a0 ≥ 0 then (if a0 ≤ 3 then (if a1 ≥ 0 then (some (decide (a1 ≤ 30))) else (some false)) else (some false)) else (some false)) = some r := h
 clear h
 by_cases c3 : a0 ≥ 0
 ·rw [if_pos c3] at H
  have c3b0 : decide (0 ≤ a0) = true := decide_eq_true c3
  clear c3
  by_cases c4 : a0 ≤ 3
  ·rw [if_pos c4] at H
   have c4b0 : decide (a0 ≤ 3) = true := decide_eq_true c4
   clear c4
   by_cases c5 : a1 ≥ 0
   ·rw [if_pos c5] at H
    have c5b0 : decide (0 ≤ a1) = true := decide_eq_true c5
    clear c5
    obtain rfl := Option.some.inj H
    go_enter Tryd.func50, Tryd.ntmps50
    go_wp2
    go_ret
    exact ⟨q3_, q30_⟩
   ·rw [if_neg c5] at H
    have c5b0 : decide (0 ≤ a1) = false := decide_eq_false c5
    clear c5
    obtain rfl := Option.some.inj H
    go_enter Tryd.func50, Tryd.ntmps50
    go_wp2
    go_ret
    exact ⟨q3_, q30_⟩
  ·rw [if_neg c4] at H
   have c4b0 : decide (a0 ≤ 3) = false := decide_eq_false c4
   clear c4
   obtain rfl := Option.some.inj H
   go_enter Tryd.func50, Tryd.ntmps50
   go_wp2
   go_ret
   exact ⟨q3_, q30_⟩
 ·rw [if_neg c3] at H
  have c3b0 : decide (0 ≤ a0) = false := decide_eq_false c3
  clear c3
  obtain rfl := Option.some.inj H
  go_enter Tryd.func50, Tryd.ntmps50
  go_wp2
  go_ret
  exact ⟨q3_, q30_⟩
def rosterref02_front.j0 : Nat → List (S43) → Int → Bool → Int → Int → Bool → Int → ByteArray → Option (Bool)
 | 0, _, _, _, _, _, _, _, _ => none
 | k + 1, x0, x1, x25, x103000, x103001, x103002, x103003, x103004 => if x25 = true then (some false) else (if x1 = 0 then (some (x103000 == 1)) else (if 0 ≤ (wrap64 (x1 - 1)) then (if (wrap64 (x1 - 1)) < (x0.length : Int) then (if x103000 < 2 then (some false) else (if x103000 > (wrap64 (((rd_T43 x0 (wrap64 (x1 - 1))).f0) + 1)) then (some false) else (if x103000 ≤ ((rd_T43 x0 (wrap64 (x1 - 1))).f0) then (some true) else (some ((rd_T43 x0 (wrap64 (x1 - 1))).f2))))) else (none)) else (none)))
def rosterref02_front.f (k : Nat) (l0 : List (S43)) (a1 : Int) : Option (Bool) := if 0 ≤ a1 then (if a1 < (l0.length : Int) then ((rosterref02_fine.f ((rd_T43 l0 a1).f1) ((rd_T43 l0 a1).f3)).bind fun t103 => (if t103 = true then (if (rd_T43 l0 a1).f2 = true then (rosterref02_front.j0 k l0 a1 (((rd_T43 l0 a1).f4).toList != ([] : List UInt8)) ((rd_T43 l0 a1).f0) ((rd_T43 l0 a1).f1) ((rd_T43 l0 a1).f2) ((rd_T43 l0 a1).f3) ((rd_T43 l0 a1).f4)) else (rosterref02_front.j0 k l0 a1 false ((rd_T43 l0 a1).f0) ((rd_T43 l0 a1).f1) ((rd_T43 l0 a1).f2) ((rd_T43 l0 a1).f3) ((rd_T43 l0 a1).f4))) else (rosterref02_front.j0 k l0 a1 true ((rd_T43 l0 a1).f0) ((rd_T43 l0 a1).f1) ((rd_T43 l0 a1).f2) ((rd_T43 l0 a1).f3) ((rd_T43 l0 a1).f4)))) else (none)) else (none)
set_option maxHeartbeats 8000000 in
set_option maxRecDepth 100000 in
theorem rosterref02_front.calls (k : Nat) (A0 : Option Addr) (c0 : Nat) (l0 : List (S43)) (a1 : Int) (r : Bool) (w : World) (hr0 : Kd.C k43 w A0 l0.length l0) (hc0 : l0.length ≤ c0) (h : rosterref02_front.f k l0 a1 = some r) :
  Calls Tryd.prog 38 #[.slice A0 l0.length c0, .int .i64 a1] w fun e w' => e = .returned (.bool r) ∧ Below w.heap.size w w' := by
 have hu43 := Tryd.underlying43
 have HR0 := Aside0.mk hr0
 have HC0 := Aside0.mk hc0
 clear hr0 hc0
 have HB := Aside0.mk (Below.refl w.heap.size w)
 have H : (if 0 ≤ a1 then (if a1 < (l0.length : Int) then ((rosterref02_fine.f ((rd_T43 l0 a1).f1) ((rd_T43 l0 a1).f3)).bind fun t103 => (if t103 = true then (if (rd_T43 l0 a1).f2 = true then (rosterref02_front.j0 k l0 a1 (((rd_T43 l0 a1).f4).toList != ([] : List UInt8)) ((rd_T43 l0 a1).f0) ((rd_T43 l0 a1).f1) ((rd_T43 l0 a1).f2) ((rd_T43 l0 a1).f3) ((rd_T43 l0 a1).f4)) else (rosterref02_front.j0 k l0 a1 false ((rd_T43 l0 a1).f0) ((rd_T43 l0 a1).f1) ((rd_T43 l0 a1).f2) ((rd_T43 l0 a1).f3) ((rd_T43 l0 a1).f4))) else (rosterref02_front.j0 k l0 a1 true ((rd_T43 l0 a1).f0) ((rd_T43 l0 a1).f1) ((rd_T43 l0 a1).f2) ((rd_T43 l0 a1).f3) ((rd_T43 l0 a1).f4)))) else (none)) else (none)) = some r := h
 clear h
 by_cases c3 : 0 ≤ a1
 ·rw [if_pos c3] at H
  have c3b0 : decide (0 ≤ a1) = true := decide_eq_true c3
  clear c3
  by_cases c4 : a1 < (l0.length : Int)
  ·rw [if_pos c4] at H
   have c4b0 : decide (a1 < (l0.length : Int)) = true := decide_eq_true c4
   clear c4
   have HC5 := Aside0.mk H
   clear H
   have p101 : 0 ≤ (a1 : Int) := of_decide_eq_true q6_
   have q101 : a1 < (l0.length : Int) := of_decide_eq_true q6_
   obtain ⟨ad101, e101, hx101_0, hx101_1, hx101_2, hx101_3, hx101_4⟩ := at_T43 HR0.out a1 p101 q101
   cases e101
   replace p101 := eq_true p101
   replace q101 := eq_true q101
   go_enter Tryd.func38, Tryd.ntmps38
   go_upto_region 2 with (first | ((with_reducible refine gate_dst (N := 5) rfl ?_); refine box_event ?hg (N := 5) ?hd (cs := #[.int .i64 0, .int .i64 0, .bool false, .int .i64 0, .string (⟨#[]⟩ : ByteArray)]) (t := 43) ?hr ?_; (case hd => rfl); (case hg => rfl); (case hr => first | (go_simp; done) | (go_simp; rfl)); intro gb102 hg w6 hbox hb; have n0_ := Aside0.mk (below_step q1_ hb); have n1_ := Aside0.mk (hbox); have n2_ := Aside0.mk ((by rw [hg]; exact (below_size q1_) : w.heap.size ≤ gb102)); have n3_ := Aside0.mk ((by rw [hg]; exact (below_size q1_) : w.heap.size ≤ gb102)); clear HB; have HB := n0_; have BK102 := n1_; have GW102 := n2_; have GE102 := n3_; clear n0_ n1_ n2_ n3_; clear hb hbox hg; obtain ⟨hcz7_0, hcz7_1, hcz7_2, hcz7_3, hcz7_4⟩ := cells5_ BK102.out; obtain ⟨hfz7_0, hfz7_1, hfz7_2, hfz7_3, hfz7_4⟩ := frz5_ BK102.out))
   (try simp only [Act.put, List.setIfInBounds_toArray, List.set_cons_zero, List.set_cons_succ])
   go_cut [25] (fun v25 wc => ∃ (kq : Nat) (x25_4 : Bool), v25 = .bool x25_4 ∧ Aside0 (rosterref02_front.j0 kq l0 a1 x25_4 ((rd_T43 l0 a1).f0) ((rd_T43 l0 a1).f1) ((rd_T43 l0 a1).f2) ((rd_T43 l0 a1).f3) ((rd_T43 l0 a1).f4) = some r) ∧ Aside0 (kq ≤ k) ∧ Aside0 (wc.heap[gb102]? = some (.cells #[.int .i64 ((rd_T43 l0 a1).f0), .int .i64 ((rd_T43 l0 a1).f1), .bool ((rd_T43 l0 a1).f2), .int .i64 ((rd_T43 l0 a1).f3), .string ((rd_T43 l0 a1).f4)] 43 (0, 0))) ∧ Aside0 (Below w.heap.size w wc))
   case first =>
    have H := HC5.out
    clear HC5
    replace H := Option.bind_eq_some_iff.mp H
    obtain ⟨t103, A80, H⟩ := H
    replace H : (if t103 = true then (if (rd_T43 l0 a1).f2 = true then (rosterref02_front.j0 k l0 a1 (((rd_T43 l0 a1).f4).toList != ([] : List UInt8)) ((rd_T43 l0 a1).f0) ((rd_T43 l0 a1).f1) ((rd_T43 l0 a1).f2) ((rd_T43 l0 a1).f3) ((rd_T43 l0 a1).f4)) else (rosterref02_front.j0 k l0 a1 false ((rd_T43 l0 a1).f0) ((rd_T43 l0 a1).f1) ((rd_T43 l0 a1).f2) ((rd_T43 l0 a1).f3) ((rd_T43 l0 a1).f4))) else (rosterref02_front.j0 k l0 a1 true ((rd_T43 l0 a1).f0) ((rd_T43 l0 a1).f1) ((rd_T43 l0 a1).f2) ((rd_T43 l0 a1).f3) ((rd_T43 l0 a1).f4))) = some r := H
    have A8 := Aside0.mk A80
    clear A80
    by_cases c9 : t103 = true
    ·subst c9
     have H1 : (if (rd_T43 l0 a1).f2 = true then (rosterref02_front.j0 k l0 a1 (((rd_T43 l0 a1).f4).toList != ([] : List UInt8)) ((rd_T43 l0 a1).f0) ((rd_T43 l0 a1).f1) ((rd_T43 l0 a1).f2) ((rd_T43 l0 a1).f3) ((rd_T43 l0 a1).f4)) else (rosterref02_front.j0 k l0 a1 false ((rd_T43 l0 a1).f0) ((rd_T43 l0 a1).f1) ((rd_T43 l0 a1).f2) ((rd_T43 l0 a1).f3) ((rd_T43 l0 a1).f4))) = some r := by rw [if_pos rfl] at H; exact H
     clear H
     have H := H1
     clear H1
     obtain ⟨bq10, hbq10⟩ : ∃ b_ : Bool, b_ = ((rd_T43 l0 a1).f2) := ⟨_, rfl⟩
     replace H : (if bq10 = true then (rosterref02_front.j0 k l0 a1 (((rd_T43 l0 a1).f4).toList != ([] : List UInt8)) ((rd_T43 l0 a1).f0) ((rd_T43 l0 a1).f1) bq10 ((rd_T43 l0 a1).f3) ((rd_T43 l0 a1).f4)) else (rosterref02_front.j0 k l0 a1 false ((rd_T43 l0 a1).f0) ((rd_T43 l0 a1).f1) bq10 ((rd_T43 l0 a1).f3) ((rd_T43 l0 a1).f4))) = some r := by rw [← hbq10] at H; exact H
     have Nbq10 := Aside0.mk hbq10
     clear hbq10
     (try rw [← Nbq10.out])
     by_cases c11 : bq10 = true
     ·subst c11
      have H1 : (rosterref02_front.j0 k l0 a1 (((rd_T43 l0 a1).f4).toList != ([] : List UInt8)) ((rd_T43 l0 a1).f0) ((rd_T43 l0 a1).f1) true ((rd_T43 l0 a1).f3) ((rd_T43 l0 a1).f4)) = some r := by rw [if_pos rfl] at H; exact H
      clear H
      have H := H1
      clear H1
      have H' := Aside0.mk H
      clear H
      obtain ⟨hcz12_0, hcz12_1, hcz12_2, hcz12_3, hcz12_4⟩ := cells5_ BK102.out
      obtain ⟨hfz12_0, hfz12_1, hfz12_2, hfz12_3, hfz12_4⟩ := frz5_ BK102.out
      go_wp2_with (first | ((with_reducible refine gate_callee (f := 50) rfl ?_); refine goesL_ (some 15) rfl rfl Tryd.func50 q9_ rfl #[.int .i64 ((rd_T43 l0 a1).f1), .int .i64 ((rd_T43 l0 a1).f3)] rfl q84_ ?_; (with_reducible refine (rosterref02_fine.calls ((rd_T43 l0 a1).f1) ((rd_T43 l0 a1).f3) true _ A8.out).mono ?_); rintro e w' ⟨rfl, ⟨nd, rfl⟩⟩; refine ⟨_, rfl, ?_⟩))
      go_meet
      case rel => (try rw [← Nbq10.out]); exact ⟨_, ((((rd_T43 l0 a1).f4).toList != ([] : List UInt8))), q3_, H', ⟨q42_⟩, ⟨q96_⟩, ⟨q18_⟩⟩
     ·replace c11 := Bool.eq_false_iff.mpr c11
      subst c11
      have H1 : (rosterref02_front.j0 k l0 a1 false ((rd_T43 l0 a1).f0) ((rd_T43 l0 a1).f1) false ((rd_T43 l0 a1).f3) ((rd_T43 l0 a1).f4)) = some r := by rw [if_neg (show ¬ (false = true) by decide)] at H; exact H
      clear H
      have H := H1
      clear H1
      have H' := Aside0.mk H
      clear H
      obtain ⟨hcz13_0, hcz13_1, hcz13_2, hcz13_3, hcz13_4⟩ := cells5_ BK102.out
      obtain ⟨hfz13_0, hfz13_1, hfz13_2, hfz13_3, hfz13_4⟩ := frz5_ BK102.out
      go_wp2_with (first | ((with_reducible refine gate_callee (f := 50) rfl ?_); refine goesL_ (some 15) rfl rfl Tryd.func50 q9_ rfl #[.int .i64 ((rd_T43 l0 a1).f1), .int .i64 ((rd_T43 l0 a1).f3)] rfl q84_ ?_; (with_reducible refine (rosterref02_fine.calls ((rd_T43 l0 a1).f1) ((rd_T43 l0 a1).f3) true _ A8.out).mono ?_); rintro e w' ⟨rfl, ⟨nd, rfl⟩⟩; refine ⟨_, rfl, ?_⟩))
      go_meet
      case rel => (try rw [← Nbq10.out]); exact ⟨_, (false), q3_, H', ⟨q42_⟩, ⟨q96_⟩, ⟨q18_⟩⟩
    ·replace c9 := Bool.eq_false_iff.mpr c9
     subst c9
     have H1 : (rosterref02_front.j0 k l0 a1 true ((rd_T43 l0 a1).f0) ((rd_T43 l0 a1).f1) ((rd_T43 l0 a1).f2) ((rd_T43 l0 a1).f3) ((rd_T43 l0 a1).f4)) = some r := by rw [if_neg (show ¬ (false = true) by decide)] at H; exact H
     clear H
     have H := H1
     clear H1
     have H' := Aside0.mk H
     clear H
     obtain ⟨hcz14_0, hcz14_1, hcz14_2, hcz14_3, hcz14_4⟩ := cells5_ BK102.out
     obtain ⟨hfz14_0, hfz14_1, hfz14_2, hfz14_3, hfz14_4⟩ := frz5_ BK102.out
     go_wp2_with (first | ((with_reducible refine gate_callee (f := 50) rfl ?_); refine goesL_ (some 15) rfl rfl Tryd.func50 q9_ rfl #[.int .i64 ((rd_T43 l0 a1).f1), .int .i64 ((rd_T43 l0 a1).f3)] rfl q84_ ?_; (with_reducible refine (rosterref02_fine.calls ((rd_T43 l0 a1).f1) ((rd_T43 l0 a1).f3) false _ A8.out).mono ?_); rintro e w' ⟨rfl, ⟨nd, rfl⟩⟩; refine ⟨_, rfl, ?_⟩))
     go_meet
     case rel => exact ⟨_, (true), q3_, H', ⟨q42_⟩, ⟨q96_⟩, ⟨q18_⟩⟩
   case rest =>
    clear HC5
    try clear c1
    try clear p1
    try clear q1
    try clear hx1
    try clear p2
    try clear c3
    try clear c3b0
    try clear c4
    try clear c4b0
    try clear c5
    try clear c9
    try clear p10
    try clear q10
    try clear hx10
    try clear c11
    try clear hcz12_0 hcz12_1 hcz12_2 hcz12_3 hcz12_4
    try clear hcz13_0 hcz13_1 hcz13_2 hcz13_3 hcz13_4
    try clear hcz14_0 hcz14_1 hcz14_2 hcz14_3 hcz14_4
    try clear hcz7_0 hcz7_1 hcz7_2 hcz7_3 hcz7_4
    try clear hfz12_0 hfz12_1 hfz12_2 hfz12_3 hfz12_4
    try clear hfz13_0 hfz13_1 hfz13_2 hfz13_3 hfz13_4
    try clear hfz14_0 hfz14_1 hfz14_2 hfz14_3 hfz14_4
    try clear hfz7_0 hfz7_1 hfz7_2 hfz7_3 hfz7_4
    try clear hx101_0
    try clear hx101_1
    try clear hx101_2
    try clear hx101_3
    try clear hx101_4
    try clear p101
    try clear q101
    obtain ⟨kq, x25_4, rfl, HA, HJ4, BK102, HB⟩ := hcut
    cases kq with
    | zero => exact absurd HA.out (by simp [rosterref02_front.j0])
    | succ kj4 =>
     have H := HA.out
     clear HA
     simp only [rosterref02_front.j0] at H
     by_cases c15 : x25_4 = true
     ·subst c15
      have H1 : (some false) = some r := by rw [if_pos rfl] at H; exact H
      clear H
      have H := H1
      clear H1
      obtain rfl := Option.some.inj H
      go_wp2
      go_ret
      exact ⟨q4_, q18_⟩
     ·replace c15 := Bool.eq_false_iff.mpr c15
      subst c15
      have H1 : (if a1 = 0 then (some (((rd_T43 l0 a1).f0) == 1)) else (if 0 ≤ (wrap64 (a1 - 1)) then (if (wrap64 (a1 - 1)) < (l0.length : Int) then (if ((rd_T43 l0 a1).f0) < 2 then (some false) else (if ((rd_T43 l0 a1).f0) > (wrap64 (((rd_T43 l0 (wrap64 (a1 - 1))).f0) + 1)) then (some false) else (if ((rd_T43 l0 a1).f0) ≤ ((rd_T43 l0 (wrap64 (a1 - 1))).f0) then (some true) else (some ((rd_T43 l0 (wrap64 (a1 - 1))).f2))))) else (none)) else (none))) = some r := by rw [if_neg (show ¬ (false = true) by decide)] at H; exact H
      clear H
      have H := H1
      clear H1
      by_cases c16 : a1 = 0
      ·rw [if_pos c16] at H
       have c16b0 : (a1 == 0) = true := beq_iff_eq.mpr c16
       have c16b1 : (a1 != 0) = false := bne_eq_false_iff_eq.mpr c16
       clear c16
       obtain rfl := Option.some.inj H
       obtain ⟨hcz17_0, hcz17_1, hcz17_2, hcz17_3, hcz17_4⟩ := cells5_ BK102.out
       obtain ⟨hfz17_0, hfz17_1, hfz17_2, hfz17_3, hfz17_4⟩ := frz5_ BK102.out
       go_wp2
       go_ret
       exact ⟨q4_, q18_⟩
      ·rw [if_neg c16] at H
       have c16b0 : (a1 == 0) = false := beq_eq_false_iff_ne.mpr c16
       have c16b1 : (a1 != 0) = true := bne_iff_ne.mpr c16
       obtain ⟨ji18, hji18⟩ : ∃ j_ : Int, (wrap64 (a1 - 1)) = j_ := ⟨_, rfl⟩
       replace H : (if 0 ≤ (ji18) then (if (ji18) < (l0.length : Int) then (if ((rd_T43 l0 a1).f0) < 2 then (some false) else (if ((rd_T43 l0 a1).f0) > (wrap64 (((rd_T43 l0 (ji18)).f0) + 1)) then (some false) else (if ((rd_T43 l0 a1).f0) ≤ ((rd_T43 l0 (ji18)).f0) then (some true) else (some ((rd_T43 l0 (ji18)).f2))))) else (none)) else (none)) = some r := by first | (rw [hji18] at H; exact H) | (simp only [hji18] at H ⊢; exact H)
       have hji18w : (IntKind.i64.wrap (a1 - 1)) = ji18 := (i64_w _).trans hji18
       by_cases c19 : 0 ≤ (ji18)
       ·rw [if_pos c19] at H
        have c19b0 : decide (0 ≤ (ji18)) = true := decide_eq_true c19
        clear c19
        by_cases c20 : (ji18) < (l0.length : Int)
        ·rw [if_pos c20] at H
         have c20b0 : decide ((ji18) < (l0.length : Int)) = true := decide_eq_true c20
         clear c20
         by_cases c21 : ((rd_T43 l0 a1).f0) < 2
         ·rw [if_pos c21] at H
          have c21b0 : decide (((rd_T43 l0 a1).f0) < 2) = true := decide_eq_true c21
          clear c21
          obtain rfl := Option.some.inj H
          have p104 : 0 ≤ ((ji18) : Int) := of_decide_eq_true q6_
          have q104 : (ji18) < (l0.length : Int) := of_decide_eq_true q6_
          obtain ⟨ad104, e104, hx104_0, hx104_1, hx104_2, hx104_3, hx104_4⟩ := at_T43 HR0.out (ji18) p104 q104
          obtain rfl : ad101 = ad104 := (by injection e104)
          replace hx104_0 := cellB_ HB.out hx104_0
          replace hx104_1 := cellB_ HB.out hx104_1
          replace hx104_2 := cellB_ HB.out hx104_2
          replace hx104_3 := cellB_ HB.out hx104_3
          replace hx104_4 := cellB_ HB.out hx104_4
          replace p104 := eq_true p104
          replace q104 := eq_true q104
          go_wp2_with (first | ((with_reducible refine gate_dst (N := 6) rfl ?_); refine box_event ?hg (N := 6) ?hd (cs := #[.int .i64 0, .int .i64 0, .bool false, .int .i64 0, .string (⟨#[]⟩ : ByteArray)]) (t := 43) ?hr ?_; (case hd => rfl); (case hg => rfl); (case hr => first | (go_simp; done) | (go_simp; rfl)); intro gb105 hg w22 hbox hb; have n0_ := Aside0.mk (blk_below (g := gb102) (o := .cells #[.int .i64 ((rd_T43 l0 a1).f0), .int .i64 ((rd_T43 l0 a1).f1), .bool ((rd_T43 l0 a1).f2), .int .i64 ((rd_T43 l0 a1).f3), .string ((rd_T43 l0 a1).f4)] 43 (0, 0)) q23_ hb); have n1_ := Aside0.mk (below_step q18_ hb); have n2_ := Aside0.mk (hbox); have n3_ := Aside0.mk ((by rw [hg]; exact (below_size q18_) : w.heap.size ≤ gb105)); have n4_ := Aside0.mk ((by rw [hg]; exact (below_size q18_) : w.heap.size ≤ gb105)); have n5_ := Aside0.mk ((by rw [hg]; exact Nat.ne_of_lt (blk_lt (g := gb102) (o := .cells #[.int .i64 ((rd_T43 l0 a1).f0), .int .i64 ((rd_T43 l0 a1).f1), .bool ((rd_T43 l0 a1).f2), .int .i64 ((rd_T43 l0 a1).f3), .string ((rd_T43 l0 a1).f4)] 43 (0, 0)) q23_) : gb102 ≠ gb105)); have n6_ := Aside0.mk ((by rw [hg]; exact Nat.ne_of_gt (blk_lt (g := gb102) (o := .cells #[.int .i64 ((rd_T43 l0 a1).f0), .int .i64 ((rd_T43 l0 a1).f1), .bool ((rd_T43 l0 a1).f2), .int .i64 ((rd_T43 l0 a1).f3), .string ((rd_T43 l0 a1).f4)] 43 (0, 0)) q23_) : gb105 ≠ gb102)); clear BK102; clear HB; have BK102 := n0_; have HB := n1_; have BK105 := n2_; have GW105 := n3_; have GE105 := n4_; have NB102_105 := n5_; have NB105_102 := n6_; clear n0_ n1_ n2_ n3_ n4_ n5_ n6_; clear hb hbox hg; have hnb23 := NB105_102.out; have hnc23 := NB102_105.out; obtain ⟨hcz24_0, hcz24_1, hcz24_2, hcz24_3, hcz24_4⟩ := cells5_ BK105.out; obtain ⟨hfz24_0, hfz24_1, hfz24_2, hfz24_3, hfz24_4⟩ := frz5_ BK105.out; obtain ⟨hcz25_0, hcz25_1, hcz25_2, hcz25_3, hcz25_4⟩ := cells5_ BK102.out; obtain ⟨hfz25_0, hfz25_1, hfz25_2, hfz25_3, hfz25_4⟩ := frz5_ BK102.out))
          go_ret
          exact ⟨q47_, q49_⟩
         ·rw [if_neg c21] at H
          have c21b0 : decide (((rd_T43 l0 a1).f0) < 2) = false := decide_eq_false c21
          clear c21
          by_cases c26 : ((rd_T43 l0 a1).f0) > (wrap64 (((rd_T43 l0 (ji18)).f0) + 1))
          ·rw [if_pos c26] at H
           have c26b0 : decide ((wrap64 (((rd_T43 l0 (ji18)).f0) + 1)) < ((rd_T43 l0 a1).f0)) = true := decide_eq_true c26
           clear c26
           obtain rfl := Option.some.inj H
           have p104 : 0 ≤ ((ji18) : Int) := of_decide_eq_true q6_
           have q104 : (ji18) < (l0.length : Int) := of_decide_eq_true q6_
           obtain ⟨ad104, e104, hx104_0, hx104_1, hx104_2, hx104_3, hx104_4⟩ := at_T43 HR0.out (ji18) p104 q104
           obtain rfl : ad101 = ad104 := (by injection e104)
           replace hx104_0 := cellB_ HB.out hx104_0
           replace hx104_1 := cellB_ HB.out hx104_1
           replace hx104_2 := cellB_ HB.out hx104_2
           replace hx104_3 := cellB_ HB.out hx104_3
           replace hx104_4 := cellB_ HB.out hx104_4
           replace p104 := eq_true p104
           replace q104 := eq_true q104
           go_wp2_with (first | ((with_reducible refine gate_dst (N := 6) rfl ?_); refine box_event ?hg (N := 6) ?hd (cs := #[.int .i64 0, .int .i64 0, .bool false, .int .i64 0, .string (⟨#[]⟩ : ByteArray)]) (t := 43) ?hr ?_; (case hd => rfl); (case hg => rfl); (case hr => first | (go_simp; done) | (go_simp; rfl)); intro gb105 hg w27 hbox hb; have n0_ := Aside0.mk (blk_below (g := gb102) (o := .cells #[.int .i64 ((rd_T43 l0 a1).f0), .int .i64 ((rd_T43 l0 a1).f1), .bool ((rd_T43 l0 a1).f2), .int .i64 ((rd_T43 l0 a1).f3), .string ((rd_T43 l0 a1).f4)] 43 (0, 0)) q23_ hb); have n1_ := Aside0.mk (below_step q18_ hb); have n2_ := Aside0.mk (hbox); have n3_ := Aside0.mk ((by rw [hg]; exact (below_size q18_) : w.heap.size ≤ gb105)); have n4_ := Aside0.mk ((by rw [hg]; exact (below_size q18_) : w.heap.size ≤ gb105)); have n5_ := Aside0.mk ((by rw [hg]; exact Nat.ne_of_lt (blk_lt (g := gb102) (o := .cells #[.int .i64 ((rd_T43 l0 a1).f0), .int .i64 ((rd_T43 l0 a1).f1), .bool ((rd_T43 l0 a1).f2), .int .i64 ((rd_T43 l0 a1).f3), .string ((rd_T43 l0 a1).f4)] 43 (0, 0)) q23_) : gb102 ≠ gb105)); have n6_ := Aside0.mk ((by rw [hg]; exact Nat.ne_of_gt (blk_lt (g := gb102) (o := .cells #[.int .i64 ((rd_T43 l0 a1).f0), .int .i64 ((rd_T43 l0 a1).f1), .bool ((rd_T43 l0 a1).f2), .int .i64 ((rd_T43 l0 a1).f3), .string ((rd_T43 l0 a1).f4)] 43 (0, 0)) q23_) : gb105 ≠ gb102)); clear BK102; clear HB; have BK102 := n0_; have HB := n1_; have BK105 := n2_; have GW105 := n3_; have GE105 := n4_; have NB102_105 := n5_; have NB105_102 := n6_; clear n0_ n1_ n2_ n3_ n4_ n5_ n6_; clear hb hbox hg; have hnb28 := NB105_102.out; have hnc28 := NB102_105.out; obtain ⟨hcz29_0, hcz29_1, hcz29_2, hcz29_3, hcz29_4⟩ := cells5_ BK105.out; obtain ⟨hfz29_0, hfz29_1, hfz29_2, hfz29_3, hfz29_4⟩ := frz5_ BK105.out; obtain ⟨hcz30_0, hcz30_1, hcz30_2, hcz30_3, hcz30_4⟩ := cells5_ BK102.out; obtain ⟨hfz30_0, hfz30_1, hfz30_2, hfz30_3, hfz30_4⟩ := frz5_ BK102.out))
           go_ret
           exact ⟨q47_, q49_⟩
          ·rw [if_neg c26] at H
           have c26b0 : decide ((wrap64 (((rd_T43 l0 (ji18)).f0) + 1)) < ((rd_T43 l0 a1).f0)) = false := decide_eq_false c26
           clear c26
           by_cases c31 : ((rd_T43 l0 a1).f0) ≤ ((rd_T43 l0 (ji18)).f0)
           ·rw [if_pos c31] at H
            have c31b0 : decide (((rd_T43 l0 a1).f0) ≤ ((rd_T43 l0 (ji18)).f0)) = true := decide_eq_true c31
            clear c31
            obtain rfl := Option.some.inj H
            have p104 : 0 ≤ ((ji18) : Int) := of_decide_eq_true q6_
            have q104 : (ji18) < (l0.length : Int) := of_decide_eq_true q6_
            obtain ⟨ad104, e104, hx104_0, hx104_1, hx104_2, hx104_3, hx104_4⟩ := at_T43 HR0.out (ji18) p104 q104
            obtain rfl : ad101 = ad104 := (by injection e104)
            replace hx104_0 := cellB_ HB.out hx104_0
            replace hx104_1 := cellB_ HB.out hx104_1
            replace hx104_2 := cellB_ HB.out hx104_2
            replace hx104_3 := cellB_ HB.out hx104_3
            replace hx104_4 := cellB_ HB.out hx104_4
            replace p104 := eq_true p104
            replace q104 := eq_true q104
            go_wp2_with (first | ((with_reducible refine gate_dst (N := 6) rfl ?_); refine box_event ?hg (N := 6) ?hd (cs := #[.int .i64 0, .int .i64 0, .bool false, .int .i64 0, .string (⟨#[]⟩ : ByteArray)]) (t := 43) ?hr ?_; (case hd => rfl); (case hg => rfl); (case hr => first | (go_simp; done) | (go_simp; rfl)); intro gb105 hg w32 hbox hb; have n0_ := Aside0.mk (blk_below (g := gb102) (o := .cells #[.int .i64 ((rd_T43 l0 a1).f0), .int .i64 ((rd_T43 l0 a1).f1), .bool ((rd_T43 l0 a1).f2), .int .i64 ((rd_T43 l0 a1).f3), .string ((rd_T43 l0 a1).f4)] 43 (0, 0)) q23_ hb); have n1_ := Aside0.mk (below_step q18_ hb); have n2_ := Aside0.mk (hbox); have n3_ := Aside0.mk ((by rw [hg]; exact (below_size q18_) : w.heap.size ≤ gb105)); have n4_ := Aside0.mk ((by rw [hg]; exact (below_size q18_) : w.heap.size ≤ gb105)); have n5_ := Aside0.mk ((by rw [hg]; exact Nat.ne_of_lt (blk_lt (g := gb102) (o := .cells #[.int .i64 ((rd_T43 l0 a1).f0), .int .i64 ((rd_T43 l0 a1).f1), .bool ((rd_T43 l0 a1).f2), .int .i64 ((rd_T43 l0 a1).f3), .string ((rd_T43 l0 a1).f4)] 43 (0, 0)) q23_) : gb102 ≠ gb105)); have n6_ := Aside0.mk ((by rw [hg]; exact Nat.ne_of_gt (blk_lt (g := gb102) (o := .cells #[.int .i64 ((rd_T43 l0 a1).f0), .int .i64 ((rd_T43 l0 a1).f1), .bool ((rd_T43 l0 a1).f2), .int .i64 ((rd_T43 l0 a1).f3), .string ((rd_T43 l0 a1).f4)] 43 (0, 0)) q23_) : gb105 ≠ gb102)); clear BK102; clear HB; have BK102 := n0_; have HB := n1_; have BK105 := n2_; have GW105 := n3_; have GE105 := n4_; have NB102_105 := n5_; have NB105_102 := n6_; clear n0_ n1_ n2_ n3_ n4_ n5_ n6_; clear hb hbox hg; have hnb33 := NB105_102.out; have hnc33 := NB102_105.out; obtain ⟨hcz34_0, hcz34_1, hcz34_2, hcz34_3, hcz34_4⟩ := cells5_ BK105.out; obtain ⟨hfz34_0, hfz34_1, hfz34_2, hfz34_3, hfz34_4⟩ := frz5_ BK105.out; obtain ⟨hcz35_0, hcz35_1, hcz35_2, hcz35_3, hcz35_4⟩ := cells5_ BK102.out; obtain ⟨hfz35_0, hfz35_1, hfz35_2, hfz35_3, hfz35_4⟩ := frz5_ BK102.out))
            go_ret
            exact ⟨q47_, q49_⟩
           ·rw [if_neg c31] at H
            have c31b0 : decide (((rd_T43 l0 a1).f0) ≤ ((rd_T43 l0 (ji18)).f0)) = false := decide_eq_false c31
            clear c31
            obtain rfl := Option.some.inj H
            have p104 : 0 ≤ ((ji18) : Int) := of_decide_eq_true q6_
            have q104 : (ji18) < (l0.length : Int) := of_decide_eq_true q6_
            obtain ⟨ad104, e104, hx104_0, hx104_1, hx104_2, hx104_3, hx104_4⟩ := at_T43 HR0.out (ji18) p104 q104
            obtain rfl : ad101 = ad104 := (by injection e104)
            replace hx104_0 := cellB_ HB.out hx104_0
            replace hx104_1 := cellB_ HB.out hx104_1
            replace hx104_2 := cellB_ HB.out hx104_2
            replace hx104_3 := cellB_ HB.out hx104_3
            replace hx104_4 := cellB_ HB.out hx104_4
            replace p104 := eq_true p104
            replace q104 := eq_true q104
            go_wp2_with (first | ((with_reducible refine gate_dst (N := 6) rfl ?_); refine box_event ?hg (N := 6) ?hd (cs := #[.int .i64 0, .int .i64 0, .bool false, .int .i64 0, .string (⟨#[]⟩ : ByteArray)]) (t := 43) ?hr ?_; (case hd => rfl); (case hg => rfl); (case hr => first | (go_simp; done) | (go_simp; rfl)); intro gb105 hg w36 hbox hb; have n0_ := Aside0.mk (blk_below (g := gb102) (o := .cells #[.int .i64 ((rd_T43 l0 a1).f0), .int .i64 ((rd_T43 l0 a1).f1), .bool ((rd_T43 l0 a1).f2), .int .i64 ((rd_T43 l0 a1).f3), .string ((rd_T43 l0 a1).f4)] 43 (0, 0)) q23_ hb); have n1_ := Aside0.mk (below_step q18_ hb); have n2_ := Aside0.mk (hbox); have n3_ := Aside0.mk ((by rw [hg]; exact (below_size q18_) : w.heap.size ≤ gb105)); have n4_ := Aside0.mk ((by rw [hg]; exact (below_size q18_) : w.heap.size ≤ gb105)); have n5_ := Aside0.mk ((by rw [hg]; exact Nat.ne_of_lt (blk_lt (g := gb102) (o := .cells #[.int .i64 ((rd_T43 l0 a1).f0), .int .i64 ((rd_T43 l0 a1).f1), .bool ((rd_T43 l0 a1).f2), .int .i64 ((rd_T43 l0 a1).f3), .string ((rd_T43 l0 a1).f4)] 43 (0, 0)) q23_) : gb102 ≠ gb105)); have n6_ := Aside0.mk ((by rw [hg]; exact Nat.ne_of_gt (blk_lt (g := gb102) (o := .cells #[.int .i64 ((rd_T43 l0 a1).f0), .int .i64 ((rd_T43 l0 a1).f1), .bool ((rd_T43 l0 a1).f2), .int .i64 ((rd_T43 l0 a1).f3), .string ((rd_T43 l0 a1).f4)] 43 (0, 0)) q23_) : gb105 ≠ gb102)); clear BK102; clear HB; have BK102 := n0_; have HB := n1_; have BK105 := n2_; have GW105 := n3_; have GE105 := n4_; have NB102_105 := n5_; have NB105_102 := n6_; clear n0_ n1_ n2_ n3_ n4_ n5_ n6_; clear hb hbox hg; have hnb37 := NB105_102.out; have hnc37 := NB102_105.out; obtain ⟨hcz38_0, hcz38_1, hcz38_2, hcz38_3, hcz38_4⟩ := cells5_ BK105.out; obtain ⟨hfz38_0, hfz38_1, hfz38_2, hfz38_3, hfz38_4⟩ := frz5_ BK105.out; obtain ⟨hcz39_0, hcz39_1, hcz39_2, hcz39_3, hcz39_4⟩ := cells5_ BK102.out; obtain ⟨hfz39_0, hfz39_1, hfz39_2, hfz39_3, hfz39_4⟩ := frz5_ BK102.out))
            go_ret
            exact ⟨q47_, q49_⟩
        ·rw [if_neg c20] at H
         exact absurd H q28_
       ·rw [if_neg c19] at H
        exact absurd H q28_
  ·rw [if_neg c4] at H
   exact absurd H q28_
 ·rw [if_neg c3] at H
  exact absurd H q28_
mutual
def rosterref02_header.j0 : Nat → Int → Int → Option (List Int)
 | 0, _, _ => none
 | k + 1, x3, x9 => (some (([(x9) % 256] : List Int) : List Int)).bind fun y106 => (if x3 < 128 then (if y106.length < 140737488355328 then (some (y106 ++ [(x3) % 256])) else (none)) else (rosterref02_header.l0 k x3 y106 1 256))
def rosterref02_header.l0 : Nat → Int → List Int → Int → Int → Option (List Int)
 | 0, _, _, _, _ => none
 | k + 1, x3, x10, x11, x12 => if x3 ≥ x12 then (rosterref02_header.l0 k x3 x10 (wrap64 (x11 + 1)) (wrap64 (x12 * 256))) else (if x10.length < 140737488355328 then (rosterref02_header.l1 k x3 (x10 ++ [(wrap64 (128 + x11)) % 256]) (wrap64 (x11 - 1))) else (none))
def rosterref02_header.l1 : Nat → Int → List Int → Int → Option (List Int)
 | 0, _, _, _ => none
 | k + 1, x3, x10, x13 => if x13 ≥ 0 then (rosterref02_header.l2 k x3 x10 x13 x3 0) else (some x10)
def rosterref02_header.l2 : Nat → Int → List Int → Int → Int → Int → Option (List Int)
 | 0, _, _, _, _, _ => none
 | k + 1, x3, x10, x13, x14, x15 => if x15 < x13 then (rosterref02_header.l2 k x3 x10 x13 (wrap64 (Int.tdiv x14 256)) (wrap64 (x15 + 1))) else (if x10.length < 140737488355328 then (rosterref02_header.l1 k x3 (x10 ++ [(Int.tmod x14 256) % 256]) (wrap64 (x13 - 1))) else (none))
end
def rosterref02_header.f (k : Nat) (a0 : Int) (a1 : Bool) (a2 : Int) (a3 : Int) : Option (List Int) := if a1 = true then (rosterref02_header.j0 k a3 (wrap64 ((wrap64 ((wrap64 (a0 * 64)) + a2)) + 32))) else (rosterref02_header.j0 k a3 (wrap64 ((wrap64 (a0 * 64)) + a2)))
set_option maxHeartbeats 8000000 in
set_option maxRecDepth 100000 in
theorem rosterref02_header.calls (k : Nat) (a0 : Int) (a1 : Bool) (a2 : Int) (a3 : Int) (r : List Int) (w : World) (h : rosterref02_header.f k a0 a1 a2 a3 = some r) :
  Calls Tryd.prog 39 #[.int .i64 a0, .bool a1, .int .i64 a2, .int .i64 a3] w fun e w' => ∃ v0_ : Value, e = .returned (v0_) ∧ Kd.R (Kd.int .u8) 5 w' w.heap.size (fun _ => True) v0_ r ∧ Below w.heap.size w w' := by
 have HB := Aside0.mk (Below.refl w.heap.size w)
 have H : (if a1 = true then (rosterref02_header.j0 k a3 (wrap64 ((wrap64 ((wrap64 (a0 * 64)) + a2)) + 32))) else (rosterref02_header.j0 k a3 (wrap64 ((wrap64 (a0 * 64)) + a2)))) = some r := h
 clear h
 have HC5 := Aside0.mk H
 clear H
 go_enter Tryd.func39, Tryd.ntmps39
 go_upto_if 20 with (fail)
 go_cut [9] (fun v9 wc => ∃ (kq : Nat) (x9_4 : Int), v9 = .int .i64 x9_4 ∧ Aside0 (rosterref02_header.j0 kq a3 x9_4 = some r) ∧ Aside0 (kq ≤ k) ∧ Aside0 (Below w.heap.size w wc))
 case first =>
  have H := HC5.out
  clear HC5
  by_cases c6 : a1 = true
  ·subst c6
   have H1 : (rosterref02_header.j0 k a3 (wrap64 ((wrap64 ((wrap64 (a0 * 64)) + a2)) + 32))) = some r := by rw [if_pos rfl] at H; exact H
   clear H
   have H := H1
   clear H1
   have H' := Aside0.mk H
   clear H
   go_wp2
   go_meet
   case rel => exact ⟨_, (wrap64 ((wrap64 ((wrap64 (a0 * 64)) + a2)) + 32)), q3_, H', ⟨q42_⟩, ⟨q1_⟩⟩
  ·replace c6 := Bool.eq_false_iff.mpr c6
   subst c6
   have H1 : (rosterref02_header.j0 k a3 (wrap64 ((wrap64 (a0 * 64)) + a2))) = some r := by rw [if_neg (show ¬ (false = true) by decide)] at H; exact H
   clear H
   have H := H1
   clear H1
   have H' := Aside0.mk H
   clear H
   go_wp2
   go_meet
   case rel => exact ⟨_, (wrap64 ((wrap64 (a0 * 64)) + a2)), q3_, H', ⟨q42_⟩, ⟨q1_⟩⟩
 case rest =>
  clear HC5
  try clear p2
  try clear c3
  try clear c6
  try clear p6
  obtain ⟨kq, x9_4, rfl, HA, HJ4, HB⟩ := hcut
  cases kq with
  | zero => exact absurd HA.out (by simp [rosterref02_header.j0])
  | succ kj4 =>
   have H := HA.out
   clear HA
   simp only [rosterref02_header.j0] at H
   obtain ⟨y106, hy106⟩ : ∃ y_ : List Int, y_ = (([(x9_4) % 256] : List Int)) := ⟨_, rfl⟩
   replace H : (if a3 < 128 then (if y106.length < 140737488355328 then (some (y106 ++ [(a3) % 256])) else (none)) else (rosterref02_header.l0 kj4 a3 y106 1 256)) = some r := by first | (rw [hy106]; with_reducible exact H) | (have H2_ := (Option.bind_some _ _).symm.trans H; rw [hy106]; with_reducible exact H2_) | (have H2_ := (Option.bind_some _ _).symm.trans H; with_reducible exact H2_) | with_reducible exact H | (rw [hy106]; exact H) | exact H
   have Ny106 := Aside0.mk hy106
   clear hy106
   by_cases c7 : a3 < 128
   ·rw [if_pos c7] at H
    have c7b0 : decide (a3 < 128) = true := decide_eq_true c7
    clear c7
    by_cases c8 : y106.length < 140737488355328
    ·rw [if_pos c8] at H
     have LMc8 := Aside0.mk c8
     clear c8
     obtain ⟨y109, hy109⟩ : ∃ y_ : List Int, y_ = (y106 ++ [(a3) % 256]) := ⟨_, rfl⟩
     replace H : (some y109) = some r := by first | (rw [hy109]; with_reducible exact H) | (have H2_ := (Option.bind_some _ _).symm.trans H; rw [hy109]; with_reducible exact H2_) | (have H2_ := (Option.bind_some _ _).symm.trans H; with_reducible exact H2_) | with_reducible exact H | (rw [hy109]; exact H) | exact H
     have Ny109 := Aside0.mk hy109
     clear hy109
     obtain rfl := Option.some.inj H
     go_wp2_with (first | ((with_reducible refine gate_dst (N := 25) rfl ?_); refine Kd.R_lit (Kd.int .u8) _ 5 ?hg (N := 25) ?hd (xs := ([(x9_4) % 256] : List Int)) (inner := [.int .u8 ((x9_4) % 256)]) (ok := fun _ => True) (okp := fun _ => True) ?hr ?hp (fun _ hk => hk) trivial (Below.refl _ _) (Nat.le_refl _) q28_ ?_; (case hd => rfl); (case hg => rfl); (case hr => first | (go_simp; done) | (go_simp; rfl)); (case hp => exact (Reps.one (show Kd.M (Kd.int .u8) _ _ _ ((x9_4) % 256) [.int .u8 ((x9_4) % 256)] from rfl) (Reps.none _ _))); intro v107 w9 ho10 hb hg_ hnew_; clear hg_ hnew_; (first | rw [← Ny106.out] at ho10 | (simp only [Int.reduceToNat] at ho10; rw [← Ny106.out] at ho10)); have n0_ := Aside0.mk (Kd.R_lower ho10 (below_size q1_)); have n1_ := Aside0.mk (below_step q1_ hb); clear HB; have HO108 := n0_; have HB := n1_; clear n0_ n1_; clear hb ho10) | ((with_reducible refine gate_builtin (b := .append) (xs := #[.tmp 28, .tmp 31]) rfl ?_); at_builtin; refine Kd.R_append (Kd.int .u8) (w0 := w) w.heap.size rfl (.tmp 28) (.tmp 31) 39 5 (.int .u8 0) 1 rfl Tryd.underlying39 info5 rfl q19_ q2_ v107 y106 ((a3) % 256) [.int .u8 ((a3) % 256)] (fun _ => True) (fun _ => False) rfl rfl ?aP (fun _ hk => hk.elim) ?aF ?aO ?aB ?aS ?aL ?_; (case aP => exact rfl); (case aB => exact q1_); (case aF => exact (fun _ _ => trivial)); (case aO => exact (by (with_reducible repeat (first | apply Kd.R_alloc | apply Kd.R_drewN | apply Kd.R_drew)); exact HO108.out)); (case aS => exact (below_size q1_)); (case aL => have := LMc8.out; omega); intro v110 w11 ho hb hg hat; rw [← Ny109.out] at ho; have n0_ := Aside0.mk (hb); have n1_ := Aside0.mk (ho); clear HB; clear HO108; have HB := n0_; have HO111 := n1_; clear n0_ n1_; clear ho hb hg hat))
     go_ret
     exact ⟨_, q4_, by (with_reducible repeat (first | apply Kd.R_alloc | apply Kd.R_drewN | apply Kd.R_drew)); exact HO111.out, q1_⟩
    ·rw [if_neg c8] at H
     exact absurd H q28_
   ·rw [if_neg c7] at H
    have c7b0 : decide (a3 < 128) = false := decide_eq_false c7
    clear c7
    have H' := Aside0.mk H
    clear H
    go_wp2_with (first | ((with_reducible refine gate_dst (N := 25) rfl ?_); refine Kd.R_lit (Kd.int .u8) _ 5 ?hg (N := 25) ?hd (xs := ([(x9_4) % 256] : List Int)) (inner := [.int .u8 ((x9_4) % 256)]) (ok := fun _ => True) (okp := fun _ => True) ?hr ?hp (fun _ hk => hk) trivial (Below.refl _ _) (Nat.le_refl _) q28_ ?_; (case hd => rfl); (case hg => rfl); (case hr => first | (go_simp; done) | (go_simp; rfl)); (case hp => exact (Reps.one (show Kd.M (Kd.int .u8) _ _ _ ((x9_4) % 256) [.int .u8 ((x9_4) % 256)] from rfl) (Reps.none _ _))); intro v107 w12 ho13 hb hg_ hnew_; clear hg_ hnew_; (first | rw [← Ny106.out] at ho13 | (simp only [Int.reduceToNat] at ho13; rw [← Ny106.out] at ho13)); have n0_ := Aside0.mk (Kd.R_lower ho13 (below_size q1_)); have n1_ := Aside0.mk (below_step q1_ hb); clear HB; have HO108 := n0_; have HB := n1_; clear n0_ n1_; clear hb ho13))
    go_loopg [11, 12] kj4 (fun kq v11 v12 w' => ∃ (x11_2 : Int) (x12_2 : Int), v11 = .int .i64 x11_2 ∧ v12 = .int .i64 x12_2 ∧ Aside0 (rosterref02_header.l0 kq a3 y106 x11_2 x12_2 = some r) ∧ Aside0 (kq ≤ kj4) ∧ Aside0 (Kd.R (Kd.int .u8) 5 w' w.heap.size (fun _ => True) v107 y106) ∧ Aside0 (Below w.heap.size w w'))
    case atStart => exact ⟨(1), (256), q3_, q3_, H', ⟨Nat.le_refl _⟩, ⟨by (with_reducible repeat (first | apply Kd.R_alloc | apply Kd.R_drewN | apply Kd.R_drew)); exact HO108.out⟩, ⟨q1_⟩⟩
    case round =>
     clear H'
     try clear p2
     try clear c3
     try clear c6
     try clear p6
     try clear c7
     try clear c7b0
     try clear c8
     try clear p2
     try clear p6
     obtain ⟨x11_2, x12_2, rfl, rfl, HA, HK2, HO_10, HB⟩ := hrel
     cases gk with
     | zero => exact absurd HA.out (by simp [rosterref02_header.l0])
     | succ k2 =>
      have H := HA.out
      clear HA
      simp only [rosterref02_header.l0] at H
      by_cases c14 : a3 ≥ x12_2
      ·rw [if_pos c14] at H
       have c14b0 : decide (x12_2 ≤ a3) = true := decide_eq_true c14
       clear c14
       have H' := Aside0.mk H
       clear H
       go_wp2
       go_roundg k2
       case measure => have := HJ4.out; have := HK2.out; omega
       case rel => exact ⟨(wrap64 (x11_2 + 1)), (wrap64 (x12_2 * 256)), q3_, q3_, H', ⟨by have := HJ4.out; have := HK2.out; omega⟩, ⟨q54_⟩, ⟨q1_⟩⟩
      ·rw [if_neg c14] at H
       have c14b0 : decide (x12_2 ≤ a3) = false := decide_eq_false c14
       clear c14
       by_cases c15 : y106.length < 140737488355328
       ·rw [if_pos c15] at H
        have LMc15 := Aside0.mk c15
        clear c15
        obtain ⟨y112, hy112⟩ : ∃ y_ : List Int, y_ = (y106 ++ [(wrap64 (128 + x11_2)) % 256]) := ⟨_, rfl⟩
        replace H : (rosterref02_header.l1 k2 a3 y112 (wrap64 (x11_2 - 1))) = some r := by first | (rw [hy112]; with_reducible exact H) | (have H2_ := (Option.bind_some _ _).symm.trans H; rw [hy112]; with_reducible exact H2_) | (have H2_ := (Option.bind_some _ _).symm.trans H; with_reducible exact H2_) | with_reducible exact H | (rw [hy112]; exact H) | exact H
        have Ny112 := Aside0.mk hy112
        clear hy112
        have H' := Aside0.mk H
        clear H
        go_wp2_with (first | ((with_reducible refine gate_builtin (b := .append) (xs := #[.tmp 40, .tmp 44]) rfl ?_); at_builtin; refine Kd.R_append (Kd.int .u8) (w0 := w) w.heap.size rfl (.tmp 40) (.tmp 44) 39 5 (.int .u8 0) 1 rfl Tryd.underlying39 info5 rfl q19_ q2_ v107 y106 ((wrap64 (128 + x11_2)) % 256) [.int .u8 ((wrap64 (128 + x11_2)) % 256)] (fun _ => True) (fun _ => False) rfl rfl ?aP (fun _ hk => hk.elim) ?aF ?aO ?aB ?aS ?aL ?_; (case aP => exact rfl); (case aB => exact q1_); (case aF => exact (fun _ _ => trivial)); (case aO => exact q54_); (case aS => exact (below_size q1_)); (case aL => have := LMc15.out; omega); intro v113 w16 ho hb hg hat; rw [← Ny112.out] at ho; have n0_ := Aside0.mk (hb); have n1_ := Aside0.mk (ho); clear HB; clear HO_10; have HB := n0_; have HO114 := n1_; clear n0_ n1_; clear ho hb hg hat))
        go_loopg [10, 13] k2 (fun kq v10 v13 w' => ∃ (x10_3 : List Int) (x13_3 : Int), v13 = .int .i64 x13_3 ∧ Aside0 (rosterref02_header.l1 kq a3 x10_3 x13_3 = some r) ∧ Aside0 (kq ≤ k2) ∧ Aside0 (Kd.R (Kd.int .u8) 5 w' w.heap.size (fun _ => True) v10 x10_3) ∧ Aside0 (Below w.heap.size w w'))
        case atStart => exact ⟨(y112), (wrap64 (x11_2 - 1)), q3_, H', ⟨Nat.le_refl _⟩, ⟨by (with_reducible repeat (first | apply Kd.R_alloc | apply Kd.R_drewN | apply Kd.R_drew)); exact HO114.out⟩, ⟨q1_⟩⟩
        case round =>
         clear H'
         try clear c1
         try clear p2
         try clear c3
         try clear c6
         try clear p6
         try clear c7
         try clear c7b0
         try clear c8
         try clear c14
         try clear c14b0
         try clear c15
         try clear p2
         try clear p6
         obtain ⟨x10_3, x13_3, rfl, HA, HK3, HO_10, HB⟩ := hrel
         cases gk with
         | zero => exact absurd HA.out (by simp [rosterref02_header.l1])
         | succ k3 =>
          have H := HA.out
          clear HA
          simp only [rosterref02_header.l1] at H
          by_cases c17 : x13_3 ≥ 0
          ·rw [if_pos c17] at H
           have c17b0 : decide (0 ≤ x13_3) = true := decide_eq_true c17
           clear c17
           have H' := Aside0.mk H
           clear H
           go_wp2
           go_loopg [14, 15] k3 (fun kq v14 v15 w' => ∃ (x14_4 : Int) (x15_4 : Int), v14 = .int .i64 x14_4 ∧ v15 = .int .i64 x15_4 ∧ Aside0 (rosterref02_header.l2 kq a3 x10_3 x13_3 x14_4 x15_4 = some r) ∧ Aside0 (kq ≤ k3) ∧ Aside0 (Kd.R (Kd.int .u8) 5 w' w.heap.size (fun _ => True) u10 x10_3) ∧ Aside0 (Below w.heap.size w w'))
           case atStart => exact ⟨(a3), (0), q3_, q3_, H', ⟨Nat.le_refl _⟩, ⟨q54_⟩, ⟨q1_⟩⟩
           case round =>
            clear H'
            try clear c1
            try clear p2
            try clear c3
            try clear c6
            try clear p6
            try clear c7
            try clear c7b0
            try clear c8
            try clear c14
            try clear c14b0
            try clear c15
            try clear c17
            try clear c17b0
            try clear p2
            try clear p6
            obtain ⟨x14_4, x15_4, rfl, rfl, HA, HK4, HO_10, HB⟩ := hrel
            cases gk with
            | zero => exact absurd HA.out (by simp [rosterref02_header.l2])
            | succ k4 =>
             have H := HA.out
             clear HA
             simp only [rosterref02_header.l2] at H
             by_cases c18 : x15_4 < x13_3
             ·rw [if_pos c18] at H
              have c18b0 : decide (x15_4 < x13_3) = true := decide_eq_true c18
              clear c18
              have H' := Aside0.mk H
              clear H
              go_wp2
              go_roundg k4
              case measure => have := HJ4.out; have := HK2.out; have := HK3.out; have := HK4.out; omega
              case rel => exact ⟨(wrap64 (Int.tdiv x14_4 256)), (wrap64 (x15_4 + 1)), q3_, q3_, H', ⟨by have := HJ4.out; have := HK2.out; have := HK3.out; have := HK4.out; omega⟩, ⟨q54_⟩, ⟨q1_⟩⟩
             ·rw [if_neg c18] at H
              have c18b0 : decide (x15_4 < x13_3) = false := decide_eq_false c18
              clear c18
              by_cases c19 : x10_3.length < 140737488355328
              ·rw [if_pos c19] at H
               have LMc19 := Aside0.mk c19
               clear c19
               obtain ⟨y115, hy115⟩ : ∃ y_ : List Int, y_ = (x10_3 ++ [(Int.tmod x14_4 256) % 256]) := ⟨_, rfl⟩
               replace H : (rosterref02_header.l1 k4 a3 y115 (wrap64 (x13_3 - 1))) = some r := by first | (rw [hy115]; with_reducible exact H) | (have H2_ := (Option.bind_some _ _).symm.trans H; rw [hy115]; with_reducible exact H2_) | (have H2_ := (Option.bind_some _ _).symm.trans H; with_reducible exact H2_) | with_reducible exact H | (rw [hy115]; exact H) | exact H
               have Ny115 := Aside0.mk hy115
               clear hy115
               have H' := Aside0.mk H
               clear H
               go_wp2_with (first | ((with_reducible refine gate_builtin (b := .append) (xs := #[.tmp 60, .tmp 64]) rfl ?_); at_builtin; refine Kd.R_append (Kd.int .u8) (w0 := w) w.heap.size rfl (.tmp 60) (.tmp 64) 39 5 (.int .u8 0) 1 rfl Tryd.underlying39 info5 rfl q19_ q2_ u10 x10_3 ((Int.tmod x14_4 256) % 256) [.int .u8 ((Int.tmod x14_4 256) % 256)] (fun _ => True) (fun _ => False) rfl rfl ?aP (fun _ hk => hk.elim) ?aF ?aO ?aB ?aS ?aL ?_; (case aP => exact rfl); (case aB => exact q1_); (case aF => exact (fun _ _ => trivial)); (case aO => exact q54_); (case aS => exact (below_size q1_)); (case aL => have := LMc19.out; omega); intro v116 w20 ho hb hg hat; rw [← Ny115.out] at ho; have n0_ := Aside0.mk (hb); have n1_ := Aside0.mk (ho); clear HB; clear HO_10; have HB := n0_; have HO117 := n1_; clear n0_ n1_; clear ho hb hg hat))
               go_roundg k4
               case measure => have := HJ4.out; have := HK2.out; have := HK3.out; have := HK4.out; omega
               case rel => exact ⟨(y115), (wrap64 (x13_3 - 1)), q3_, H', ⟨by have := HJ4.out; have := HK2.out; have := HK3.out; have := HK4.out; omega⟩, ⟨by (with_reducible repeat (first | apply Kd.R_alloc | apply Kd.R_drewN | apply Kd.R_drew)); exact HO117.out⟩, ⟨q1_⟩⟩
              ·rw [if_neg c19] at H
               exact absurd H q28_
          ·rw [if_neg c17] at H
           have c17b0 : decide (0 ≤ x13_3) = false := decide_eq_false c17
           clear c17
           obtain rfl := Option.some.inj H
           go_wp2
           go_ret
           exact ⟨_, q4_, q54_, q1_⟩
       ·rw [if_neg c15] at H
        exact absurd H q28_
end Go.Proofs.YtogjljpncdmlkaaDoor.GJ
end
section
namespace Go.Proofs.YtogjljpncdmlkaaDoor.W
open Go.RowKit Go.Proofs.YtogjljpncdmlkaaDoor.GJ Go.Proofs.YtogjljpncdmlkaaDoorW.PrintWords
set_option linter.unusedVariables false
set_option linter.unusedSimpArgs false
theorem wr (x : Int) (h0 : 0 ≤ x) (h1 : x < 9223372036854775808) : wrap64 x = x := by unfold wrap64; omega
theorem wr64_sub (x : Int) (h0 : 0 ≤ x) (h1 : x < 9223372036854775808) : wrap64 (x - 1) = x - 1 := by unfold wrap64; omega
theorem tdn (x : Int) (h0 : 0 ≤ x) : Int.tdiv x 256 = x / 256 := Int.tdiv_eq_ediv_of_nonneg h0
theorem tmn (x : Int) (h0 : 0 ≤ x) : Int.tmod x 256 = x % 256 := Int.tmod_eq_emod_of_nonneg h0
theorem l0_more (k : Nat) (n x11 x12 : Int) (x : List Int) (h : x12 ≤ n) (a0 : 0 ≤ x11) (a1 : x11 ≤ 10) (b0 : 0 ≤ x12) (b1 : x12 ≤ 4294967296) :
    rosterref02_header.l0 (k + 1) n x x11 x12 = rosterref02_header.l0 k n x (x11 + 1) (x12 * 256) := by
  rw [rosterref02_header.l0, if_pos h, wr _ q2_ q2_, wr _ q2_ q2_]
theorem l0_end (k : Nat) (n x11 x12 : Int) (x : List Int) (h : n < x12) (a0 : 0 ≤ x11) (a1 : x11 ≤ 10) (hx : x.length < 100) :
    rosterref02_header.l0 (k + 1) n x x11 x12 = rosterref02_header.l1 k n (x ++ [128 + x11]) (x11 - 1) := by
  have e : (128 + x11) % 256 = 128 + x11 := by omega
  rw [rosterref02_header.l0, if_neg q2_, if_pos q2_, wr _ q2_ q2_, wr64_sub x11 q2_ q2_, e]
theorem l1_end (k : Nat) (n : Int) (x : List Int) : rosterref02_header.l1 (k + 1) n x (-1) = some x := by
  rw [rosterref02_header.l1, if_neg q2_]
theorem l1_in (k : Nat) (n i : Int) (x : List Int) (h : 0 ≤ i) : rosterref02_header.l1 (k + 1) n x i = rosterref02_header.l2 k n x i n 0 := by
  rw [rosterref02_header.l1, if_pos h]
theorem l2_more (k : Nat) (n i y j : Int) (x : List Int) (h : j < i) (hi : i ≤ 10) (hj : 0 ≤ j) (hy : 0 ≤ y) (hy1 : y ≤ 4294967296) :
    rosterref02_header.l2 (k + 1) n x i y j = rosterref02_header.l2 k n x i (y / 256) (j + 1) := by
  rw [rosterref02_header.l2, if_pos h, tdn y hy, wr _ q2_ q2_, wr _ q2_ q2_]
theorem l2_end (k : Nat) (n i y : Int) (x : List Int) (hi : 0 ≤ i) (hi1 : i ≤ 10) (hy : 0 ≤ y) (hx : x.length < 100) :
    rosterref02_header.l2 (k + 1) n x i y i = rosterref02_header.l1 k n (x ++ [y % 256]) (i - 1) := by
  have e : y % 256 % 256 = y % 256 := by omega
  rw [rosterref02_header.l2, if_neg q2_, if_pos q2_, tmn y hy, e, wr64_sub i q2_ q2_]
theorem l1_0 (k : Nat) (n : Int) (x : List Int) (h0 : 0 ≤ n) (h1 : n ≤ 4294967295) (hx : x.length < 50) : rosterref02_header.l1 (k + 3) n x 0 = some (x ++ [n % 256]) := by
  rw [l1_in _ _ _ _ q2_, l2_end _ _ _ _ _ q2_ q2_ h0 q2_]
  exact l1_end _ _ _
theorem l1_1 (k : Nat) (n : Int) (x : List Int) (h0 : 0 ≤ n) (h1 : n ≤ 4294967295) (hx : x.length < 40) : rosterref02_header.l1 (k + 6) n x 1 = some (x ++ [n / 256 % 256, n % 256]) := by
  rw [l1_in _ _ _ _ q2_, l2_more _ _ _ _ _ _ q2_ q2_ q2_ h0 q2_]
  show rosterref02_header.l2 (k + 3 + 1) n x 1 (n / 256) 1 = _
  rw [l2_end _ _ _ _ _ q2_ q2_ q2_ q2_]
  show rosterref02_header.l1 (k + 3) n (x ++ [n / 256 % 256]) 0 = _
  rw [l1_0 _ _ _ h0 h1 q39_]
  simp
theorem l1_2 (k : Nat) (n : Int) (x : List Int) (h0 : 0 ≤ n) (h1 : n ≤ 4294967295) (hx : x.length < 30) : rosterref02_header.l1 (k + 10) n x 2 = some (x ++ [n / 65536 % 256, n / 256 % 256, n % 256]) := by
  rw [l1_in _ _ _ _ q2_, l2_more _ _ _ _ _ _ q2_ q2_ q2_ h0 q2_, l2_more _ _ _ _ _ _ q2_ q2_ q2_ q2_ q2_]
  show rosterref02_header.l2 (k + 6 + 1) n x 2 (n / 256 / 256) 2 = _
  have e : n / 256 / 256 = n / 65536 := by omega
  rw [l2_end _ _ _ _ _ q2_ q2_ q2_ q2_, e]
  show rosterref02_header.l1 (k + 6) n (x ++ [n / 65536 % 256]) 1 = _
  rw [l1_1 _ _ _ h0 h1 q39_]
  simp
theorem l1_3 (k : Nat) (n : Int) (x : List Int) (h0 : 0 ≤ n) (h1 : n ≤ 4294967295) (hx : x.length < 20) : rosterref02_header.l1 (k + 15) n x 3 = some (x ++ [n / 16777216 % 256, n / 65536 % 256, n / 256 % 256, n % 256]) := by
  rw [l1_in _ _ _ _ q2_, l2_more _ _ _ _ _ _ q2_ q2_ q2_ h0 q2_, l2_more _ _ _ _ _ _ q2_ q2_ q2_ q2_ q2_, l2_more _ _ _ _ _ _ q2_ q2_ q2_ q2_ q2_]
  show rosterref02_header.l2 (k + 10 + 1) n x 3 (n / 256 / 256 / 256) 3 = _
  have e : n / 256 / 256 / 256 = n / 16777216 := by omega
  rw [l2_end _ _ _ _ _ q2_ q2_ q2_ q2_, e]
  show rosterref02_header.l1 (k + 10) n (x ++ [n / 16777216 % 256]) 2 = _
  rw [l1_2 _ _ _ h0 h1 q39_]
  simp
theorem header_j0 (n t : Int) (h0 : 0 ≤ n) (h1 : n ≤ 4294967295) (t0 : 0 ≤ t) (t1 : t < 256) : rosterref02_header.j0 40 n t = some (t :: lenNums n) := by
  have tt : t % 256 = t := by omega
  rw [rosterref02_header.j0]
  show (if n < 128 then (if [t % 256].length < 140737488355328 then some ([t % 256] ++ [n % 256]) else none) else rosterref02_header.l0 39 n [t % 256] 1 256) = _
  rw [tt]
  unfold lenNums
  by_cases c1 : n < 128
  · have e : n % 256 = n := by omega
    rw [if_pos c1, if_pos c1, if_pos q28_, e]
    rfl
  rw [if_neg c1, if_neg c1]
  by_cases c2 : n < 256
  · have e : n % 256 = n := by omega
    rw [if_pos c2, l0_end 38 _ _ _ _ c2 q2_ q2_ q28_]
    show rosterref02_header.l1 (35 + 3) n _ 0 = _
    rw [l1_0 _ _ _ h0 h1 q28_, e]
    rfl
  rw [if_neg c2, l0_more 38 _ _ _ _ q2_ q2_ q2_ q2_ q2_]
  by_cases c3 : n < 65536
  · have e : n / 256 % 256 = n / 256 := by omega
    rw [if_pos c3, l0_end 37 _ _ _ _ q2_ q2_ q2_ q28_]
    show rosterref02_header.l1 (31 + 6) n _ 1 = _
    rw [l1_1 _ _ _ h0 h1 q28_, e]
    rfl
  rw [if_neg c3, l0_more 37 _ _ _ _ q2_ q2_ q2_ q2_ q2_]
  by_cases c4 : n < 16777216
  · have e : n / 65536 % 256 = n / 65536 := by omega
    rw [if_pos c4, l0_end 36 _ _ _ _ q2_ q2_ q2_ q28_]
    show rosterref02_header.l1 (26 + 10) n _ 2 = _
    rw [l1_2 _ _ _ h0 h1 q28_, e]
    rfl
  rw [if_neg c4, l0_more 36 _ _ _ _ q2_ q2_ q2_ q2_ q2_]
  have e : n / 16777216 % 256 = n / 16777216 := by omega
  rw [l0_end 35 _ _ _ _ q2_ q2_ q2_ q28_]
  show rosterref02_header.l1 (20 + 15) n _ 3 = _
  rw [l1_3 _ _ _ h0 h1 q28_, e]
  rfl
theorem header_f (cls tag n : Int) (made : Bool) (c0 : 0 ≤ cls) (c1 : cls ≤ 3) (g0 : 0 ≤ tag) (g1 : tag ≤ 30) (h0 : 0 ≤ n) (h1 : n ≤ 4294967295) :
    rosterref02_header.f 40 cls made tag n = some (firstOf cls made tag :: lenNums n) := by
  rw [rosterref02_header.f, first_eq c0 c1 g0 q2_]
  cases made with
  | true =>
    rw [if_pos rfl, if_pos rfl, wr (cls * 64) q2_ q2_, wr (cls * 64 + tag) q2_ q2_, wr (cls * 64 + tag + 32) q2_ q2_]
    exact header_j0 n _ h0 h1 q2_ q2_
  | false =>
    rw [if_neg q28_, if_neg q28_, wr (cls * 64) q2_ q2_, wr (cls * 64 + tag) q2_ q2_, Int.add_zero]
    exact header_j0 n _ h0 h1 q2_ q2_
end Go.Proofs.YtogjljpncdmlkaaDoor.W
end
section
namespace Go.Proofs.YtogjljpncdmlkaaDoor.W
open Go.RowKit Go.Proofs.YtogjljpncdmlkaaDoorW.PrintWords Go.Proofs.YtogjljpncdmlkaaDoorW.PrintLast
set_option linter.unusedVariables false
set_option linter.unusedSimpArgs false
theorem wrI (x : Int) (h0 : -9223372036854775808 ≤ x) (h1 : x < 9223372036854775808) : wrap64 x = x := by unfold wrap64; omega
def goodAt (xs : List NodeT) (i : Nat) : Bool := follB (prevOf xs i) (nd xs i) && decide ((nd xs i).1 ≤ 64)
def soundN (xs : List NodeT) : Nat → Nat → Bool
  | 0, _ => true
  | n + 1, i => goodAt xs i && soundN xs n (i + 1)
def soundB (xs : List NodeT) : Bool := soundN xs xs.length 0 && decide (0 < xs.length)
theorem soundN_at (xs : List NodeT) : ∀ (n i : Nat), soundN xs n i = true → ∀ j, i ≤ j → j < i + n → goodAt xs j = true := by
  intro n
  induction n with
  | zero => intro i h j h1 h2; omega
  | succ n ih =>
    intro i h j h1 h2
    rw [soundN, Bool.and_eq_true] at h
    by_cases e : j = i
    · subst e; exact h.1
    · exact ih (i + 1) h.2 j q2_ q2_
theorem sound_bad (xs : List NodeT) : ∀ (n i : Nat), i + n = xs.length → (soundN xs n i = true ↔ badN xs (n + 1) i = none) := by
  intro n
  induction n with
  | zero => intro i h; rw [soundN, badN, if_neg q2_]; simp
  | succ n ih =>
    intro i h
    rw [soundN, badN, if_pos q2_, Bool.and_eq_true]
    unfold goodAt
    rw [Bool.and_eq_true, decide_eq_true_eq]
    by_cases c : follB (prevOf xs i) (nd xs i) = true
    · rw [if_pos c]
      by_cases c2 : 64 < (nd xs i).1
      · rw [if_pos c2]
        refine ⟨fun h => by omega, fun h => by cases h⟩
      · rw [if_neg c2]
        refine ⟨fun h => (ih (i + 1) q2_).1 h.2, fun h => ⟨⟨c, q2_⟩, (ih (i + 1) q2_).2 h⟩⟩
    · rw [if_neg c]
      exact ⟨fun h => absurd h.1.1 c, fun h => by cases h⟩
def fit (x : NodeT) : Prop := -9223372036854775808 ≤ x.1 ∧ x.1 ≤ 9223372036854775807
theorem nd_wt (xs : List NodeT) (i : Nat) : (nd xs i).2.2.2.2.size ≤ wt xs 0 xs.length := by
  by_cases hi : i < xs.length
  · have h1 := wt_one xs hi
    have h2 := wt_split xs (i := 0) (j := i) (k := i + 1) q2_ q2_
    have h3 := wt_all xs (i + 1)
    omega
  · have : nd xs i = zN := by
      unfold nd
      rw [List.getD_eq_getElem?_getD, List.getElem?_eq_none q2_]
      rfl
    rw [this]
    exact Nat.zero_le _
end Go.Proofs.YtogjljpncdmlkaaDoor.W
end
