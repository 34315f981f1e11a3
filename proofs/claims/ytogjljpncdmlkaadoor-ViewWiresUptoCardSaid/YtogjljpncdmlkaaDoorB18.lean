/- Texts of this claim in one: GRx1 -/
import Derived.Test.YtogjljpncdmlkaaDoorB3
import Derived.Test.YtogjljpncdmlkaaDoorB17
section
namespace Go.Proofs.YtogjljpncdmlkaaDoor.GR
open Go.RowKit Go.Proofs.YtogjljpncdmlkaaDoorW.PrintWords Go.Proofs.YtogjljpncdmlkaaDoorW.PrintLast Go.Proofs.YtogjljpncdmlkaaDoorW.PrintMore
attribute [local go_sem] max2_int min2_int max_two min_two max_three min_three max_four min_four   -- for this text's walks alone
set_option linter.unusedVariables false
set_option linter.unusedSimpArgs false
def rosterref02_headAt.f (a0 : ByteArray) (a1 a2 : Int) : Option (Int × Bool × Int × Int × Int × Int × Int) :=
 if 0 ≤ a1 ∧ a2 ≤ (a0.size : Int) ∧ a0.size ≤ 140737488351232 then some ((W.refOf a0 a1 a2).1.cls, (W.refOf a0 a1 a2).1.made, (W.refOf a0 a1 a2).1.tag, (W.refOf a0 a1 a2).1.len, (W.refOf a0 a1 a2).1.size, (W.refOf a0 a1 a2).2.1, (W.refOf a0 a1 a2).2.2) else none
theorem rosterref02_headAt.calls (a0 : ByteArray) (a1 a2 : Int) (r1 : Int) (r2 : Bool) (r3 : Int) (r4 : Int) (r5 : Int) (r6 : Int) (r7 : Int) (w : World) (h : rosterref02_headAt.f a0 a1 a2 = some (r1, r2, r3, r4, r5, r6, r7)) :
  Calls Tryd.prog 61 #[.string a0, .int .i64 a1, .int .i64 a2] w fun e w' => e = .returned (.tuple #[.agg #[.int .i64 r1, .bool r2, .int .i64 r3, .int .i64 r4, .int .i64 r5], .int .i64 r6, .int .i64 r7]) ∧ Below w.heap.size w w' := by
 unfold rosterref02_headAt.f at h
 by_cases c : 0 ≤ a1 ∧ a2 ≤ (a0.size : Int) ∧ a0.size ≤ 140737488351232
 ·rw [if_pos c] at h
  simp only [Option.some.injEq, Prod.mk.injEq] at h
  obtain ⟨rfl, rfl, rfl, rfl, rfl, rfl, rfl⟩ := h
  exact W.headAt_any a0 a1 a2 w c.1 c.2.1 c.2.2
 ·rw [if_neg c] at h
  cases h
def rosterref02_whole.f (a0 : ByteArray) (a1 : Int) (a2 : Int) : Option (Int × Bool × Int × Int × Int × Int × Int) := (rosterref02_headAt.f a0 a1 a2).bind fun bt102 => (if bt102.2.2.2.2.2.1 = 0 then (if (wrap64 ((wrap64 (a1 + bt102.2.2.2.2.1)) + bt102.2.2.2.1)) > a2 then (some (0, false, 0, 0, 0, (-1), a2)) else (some (bt102.1, bt102.2.1, bt102.2.2.1, bt102.2.2.2.1, bt102.2.2.2.2.1, bt102.2.2.2.2.2.1, bt102.2.2.2.2.2.2))) else (some (bt102.1, bt102.2.1, bt102.2.2.1, bt102.2.2.2.1, bt102.2.2.2.2.1, bt102.2.2.2.2.2.1, bt102.2.2.2.2.2.2)))
set_option maxHeartbeats 8000000 in
set_option maxRecDepth 100000 in
theorem rosterref02_whole.calls (a0 : ByteArray) (a1 : Int) (a2 : Int) (r1 : Int) (r2 : Bool) (r3 : Int) (r4 : Int) (r5 : Int) (r6 : Int) (r7 : Int) (w : World) (h : rosterref02_whole.f a0 a1 a2 = some (r1, r2, r3, r4, r5, r6, r7)) :
  Calls Tryd.prog 55 #[.string a0, .int .i64 a1, .int .i64 a2] w fun e w' => e = .returned (.tuple #[.agg #[.int .i64 r1, .bool r2, .int .i64 r3, .int .i64 r4, .int .i64 r5], .int .i64 r6, .int .i64 r7]) ∧ Below w.heap.size w w' := by
 have hu84 := Tryd.underlying84
 have HB := Aside0.mk (Below.refl w.heap.size w)
 have H : ((rosterref02_headAt.f a0 a1 a2).bind fun bt102 => (if bt102.2.2.2.2.2.1 = 0 then (if (wrap64 ((wrap64 (a1 + bt102.2.2.2.2.1)) + bt102.2.2.2.1)) > a2 then (some (0, false, 0, 0, 0, (-1), a2)) else (some (bt102.1, bt102.2.1, bt102.2.2.1, bt102.2.2.2.1, bt102.2.2.2.2.1, bt102.2.2.2.2.2.1, bt102.2.2.2.2.2.2))) else (some (bt102.1, bt102.2.1, bt102.2.2.1, bt102.2.2.2.1, bt102.2.2.2.2.1, bt102.2.2.2.2.2.1, bt102.2.2.2.2.2.2)))) = some (r1, r2, r3, r4, r5, r6, r7) := h
 clear h
 replace H := Option.bind_eq_some_iff.mp H
 obtain ⟨⟨t102, t103, t104, t105, t106, t107, t108⟩, A40, H⟩ := H
 replace H : (if t107 = 0 then (if (wrap64 ((wrap64 (a1 + t106)) + t105)) > a2 then (some (0, false, 0, 0, 0, (-1), a2)) else (some (t102, t103, t104, t105, t106, t107, t108))) else (some (t102, t103, t104, t105, t106, t107, t108))) = some (r1, r2, r3, r4, r5, r6, r7) := H
 have A4 := Aside0.mk A40
 clear A40
 by_cases c5 : t107 = 0
 ·rw [if_pos c5] at H
  have c5b0 : (t107 == 0) = true := beq_iff_eq.mpr c5
  have c5b1 : (t107 != 0) = false := bne_eq_false_iff_eq.mpr c5
  clear c5
  by_cases c6 : (wrap64 ((wrap64 (a1 + t106)) + t105)) > a2
  ·rw [if_pos c6] at H
   have c6b0 : decide (a2 < (wrap64 ((wrap64 (a1 + t106)) + t105))) = true := decide_eq_true c6
   clear c6
   simp only [Option.some.injEq, Prod.mk.injEq] at H
   obtain ⟨rfl, rfl, rfl, rfl, rfl, rfl, rfl⟩ := H
   go_enter Tryd.func55, Tryd.ntmps55
   go_wp2_with (first | ((with_reducible refine gate_dst (N := 6) rfl ?_); refine box_event ?hg (N := 6) ?hd (cs := #[.int .i64 0, .bool false, .int .i64 0, .int .i64 0, .int .i64 0]) (t := 84) ?hr ?_; (case hd => rfl); (case hg => rfl); (case hr => first | (go_simp; done) | (go_simp; rfl)); intro gb101 hg w7 hbox hb; have n0_ := Aside0.mk (below_step q1_ hb); have n1_ := Aside0.mk (hbox); have n2_ := Aside0.mk ((by rw [hg]; exact (below_size q1_) : w.heap.size ≤ gb101)); have n3_ := Aside0.mk ((by rw [hg]; exact (below_size q1_) : w.heap.size ≤ gb101)); clear HB; have HB := n0_; have BK101 := n1_; have GW101 := n2_; have GE101 := n3_; clear n0_ n1_ n2_ n3_; clear hb hbox hg) | ((with_reducible refine gate_callee (f := 61) rfl ?_); refine goesL_ (some 16) rfl rfl Tryd.func61 q9_ rfl #[.string a0, .int .i64 a1, .int .i64 a2] rfl q84_ ?_; (with_reducible refine (rosterref02_headAt.calls a0 a1 a2 t102 t103 t104 t105 t106 t107 t108 _ A4.out).mono ?_); rintro e w8 ⟨rfl, hb⟩; refine ⟨_, rfl, ?_⟩; have n0_ := Aside0.mk (blk_below (g := gb101) (o := .cells #[.int .i64 0, .bool false, .int .i64 0, .int .i64 0, .int .i64 0] 84 (0, 0)) q20_ hb); have n1_ := Aside0.mk (below_step q15_ hb); clear BK101; clear HB; have BK101 := n0_; have HB := n1_; clear n0_ n1_; (try clear hb); (try clear hb2); (try clear hk); (try clear hi)) | ((with_reducible refine gate_dst (N := 9) rfl ?_); refine box_event ?hg (N := 9) ?hd (cs := #[.int .i64 0, .bool false, .int .i64 0, .int .i64 0, .int .i64 0]) (t := 84) ?hr ?_; (case hd => rfl); (case hg => rfl); (case hr => first | (go_simp; done) | (go_simp; rfl)); intro gb109 hg w9 hbox hb; have n0_ := Aside0.mk (blk_below (g := gb101) (o := .cells #[.int .i64 0, .bool false, .int .i64 0, .int .i64 0, .int .i64 0] 84 (0, 0)) q20_ hb); have n1_ := Aside0.mk (below_step q15_ hb); have n2_ := Aside0.mk (hbox); have n3_ := Aside0.mk ((by rw [hg]; exact (below_size q15_) : w.heap.size ≤ gb109)); have n4_ := Aside0.mk ((by rw [hg]; exact (below_size q15_) : w.heap.size ≤ gb109)); have n5_ := Aside0.mk ((by rw [hg]; exact Nat.ne_of_lt (blk_lt (g := gb101) (o := .cells #[.int .i64 0, .bool false, .int .i64 0, .int .i64 0, .int .i64 0] 84 (0, 0)) q20_) : gb101 ≠ gb109)); have n6_ := Aside0.mk ((by rw [hg]; exact Nat.ne_of_gt (blk_lt (g := gb101) (o := .cells #[.int .i64 0, .bool false, .int .i64 0, .int .i64 0, .int .i64 0] 84 (0, 0)) q20_) : gb109 ≠ gb101)); clear BK101; clear HB; have BK101 := n0_; have HB := n1_; have BK109 := n2_; have GW109 := n3_; have GE109 := n4_; have NB101_109 := n5_; have NB109_101 := n6_; clear n0_ n1_ n2_ n3_ n4_ n5_ n6_; clear hb hbox hg; have hnb10 := NB109_101.out; have hnc10 := NB101_109.out; obtain ⟨hcz11_0, hcz11_1, hcz11_2, hcz11_3, hcz11_4⟩ := cells5_ BK109.out; obtain ⟨hfz11_0, hfz11_1, hfz11_2, hfz11_3, hfz11_4⟩ := frz5_ BK109.out; obtain ⟨hcz12_0, hcz12_1, hcz12_2, hcz12_3, hcz12_4⟩ := cells5_ BK101.out; obtain ⟨hfz12_0, hfz12_1, hfz12_2, hfz12_3, hfz12_4⟩ := frz5_ BK101.out))
   refine bodyPost_ret (results_ctt rfl _ _ gb101 84 #[.int .i64 0, .bool false, .int .i64 0, .int .i64 0, .int .i64 0] (0, 0) _ rfl (by (with_reducible repeat (first | refine blk_drewN ?_ _ | refine blk_drew ?_ | refine blk_alloc ?_ _)); refine blk_put (cs := #[.int .i64 0, .bool false, .int .i64 0, .int .i64 0, .int .i64 0]) ?_ 4 _ rfl; (with_reducible repeat (first | refine blk_drewN ?_ _ | refine blk_drew ?_ | refine blk_alloc ?_ _)); refine blk_put (cs := #[.int .i64 0, .bool false, .int .i64 0, .int .i64 0, .int .i64 0]) ?_ 3 _ rfl; (with_reducible repeat (first | refine blk_drewN ?_ _ | refine blk_drew ?_ | refine blk_alloc ?_ _)); refine blk_put (cs := #[.int .i64 0, .bool false, .int .i64 0, .int .i64 0, .int .i64 0]) ?_ 2 _ rfl; (with_reducible repeat (first | refine blk_drewN ?_ _ | refine blk_drew ?_ | refine blk_alloc ?_ _)); refine blk_put (cs := #[.int .i64 0, .bool false, .int .i64 0, .int .i64 0, .int .i64 0]) ?_ 1 _ rfl; (with_reducible repeat (first | refine blk_drewN ?_ _ | refine blk_drew ?_ | refine blk_alloc ?_ _)); refine blk_put (cs := #[.int .i64 0, .bool false, .int .i64 0, .int .i64 0, .int .i64 0]) ?_ 0 _ rfl; (with_reducible repeat (first | refine blk_drewN ?_ _ | refine blk_drew ?_ | refine blk_alloc ?_ _)); refine blk_far ?_ NB101_109.out _; (with_reducible repeat (first | refine blk_drewN ?_ _ | refine blk_drew ?_ | refine blk_alloc ?_ _)); refine blk_far ?_ NB101_109.out _; (with_reducible repeat (first | refine blk_drewN ?_ _ | refine blk_drew ?_ | refine blk_alloc ?_ _)); refine blk_far ?_ NB101_109.out _; (with_reducible repeat (first | refine blk_drewN ?_ _ | refine blk_drew ?_ | refine blk_alloc ?_ _)); refine blk_far ?_ NB101_109.out _; (with_reducible repeat (first | refine blk_drewN ?_ _ | refine blk_drew ?_ | refine blk_alloc ?_ _)); refine blk_far ?_ NB101_109.out _; (with_reducible repeat (first | refine blk_drewN ?_ _ | refine blk_drew ?_ | refine blk_alloc ?_ _)); exact BK101.out) Tryd.underlying84 rfl q9_) rfl ?_
   exact ⟨q4_, q59_⟩
  ·rw [if_neg c6] at H
   have c6b0 : decide (a2 < (wrap64 ((wrap64 (a1 + t106)) + t105))) = false := decide_eq_false c6
   clear c6
   simp only [Option.some.injEq, Prod.mk.injEq] at H
   obtain ⟨rfl, rfl, rfl, rfl, rfl, rfl, rfl⟩ := H
   go_enter Tryd.func55, Tryd.ntmps55
   go_wp2_with (first | ((with_reducible refine gate_dst (N := 6) rfl ?_); refine box_event ?hg (N := 6) ?hd (cs := #[.int .i64 0, .bool false, .int .i64 0, .int .i64 0, .int .i64 0]) (t := 84) ?hr ?_; (case hd => rfl); (case hg => rfl); (case hr => first | (go_simp; done) | (go_simp; rfl)); intro gb101 hg w13 hbox hb; have n0_ := Aside0.mk (below_step q1_ hb); have n1_ := Aside0.mk (hbox); have n2_ := Aside0.mk ((by rw [hg]; exact (below_size q1_) : w.heap.size ≤ gb101)); have n3_ := Aside0.mk ((by rw [hg]; exact (below_size q1_) : w.heap.size ≤ gb101)); clear HB; have HB := n0_; have BK101 := n1_; have GW101 := n2_; have GE101 := n3_; clear n0_ n1_ n2_ n3_; clear hb hbox hg) | ((with_reducible refine gate_callee (f := 61) rfl ?_); refine goesL_ (some 16) rfl rfl Tryd.func61 q9_ rfl #[.string a0, .int .i64 a1, .int .i64 a2] rfl q84_ ?_; (with_reducible refine (rosterref02_headAt.calls a0 a1 a2 t102 t103 t104 t105 t106 t107 t108 _ A4.out).mono ?_); rintro e w14 ⟨rfl, hb⟩; refine ⟨_, rfl, ?_⟩; have n0_ := Aside0.mk (blk_below (g := gb101) (o := .cells #[.int .i64 0, .bool false, .int .i64 0, .int .i64 0, .int .i64 0] 84 (0, 0)) q20_ hb); have n1_ := Aside0.mk (below_step q15_ hb); clear BK101; clear HB; have BK101 := n0_; have HB := n1_; clear n0_ n1_; (try clear hb); (try clear hb2); (try clear hk); (try clear hi)) | ((with_reducible refine gate_dst (N := 9) rfl ?_); refine box_event ?hg (N := 9) ?hd (cs := #[.int .i64 0, .bool false, .int .i64 0, .int .i64 0, .int .i64 0]) (t := 84) ?hr ?_; (case hd => rfl); (case hg => rfl); (case hr => first | (go_simp; done) | (go_simp; rfl)); intro gb109 hg w15 hbox hb; have n0_ := Aside0.mk (blk_below (g := gb101) (o := .cells #[.int .i64 0, .bool false, .int .i64 0, .int .i64 0, .int .i64 0] 84 (0, 0)) q20_ hb); have n1_ := Aside0.mk (below_step q15_ hb); have n2_ := Aside0.mk (hbox); have n3_ := Aside0.mk ((by rw [hg]; exact (below_size q15_) : w.heap.size ≤ gb109)); have n4_ := Aside0.mk ((by rw [hg]; exact (below_size q15_) : w.heap.size ≤ gb109)); have n5_ := Aside0.mk ((by rw [hg]; exact Nat.ne_of_lt (blk_lt (g := gb101) (o := .cells #[.int .i64 0, .bool false, .int .i64 0, .int .i64 0, .int .i64 0] 84 (0, 0)) q20_) : gb101 ≠ gb109)); have n6_ := Aside0.mk ((by rw [hg]; exact Nat.ne_of_gt (blk_lt (g := gb101) (o := .cells #[.int .i64 0, .bool false, .int .i64 0, .int .i64 0, .int .i64 0] 84 (0, 0)) q20_) : gb109 ≠ gb101)); clear BK101; clear HB; have BK101 := n0_; have HB := n1_; have BK109 := n2_; have GW109 := n3_; have GE109 := n4_; have NB101_109 := n5_; have NB109_101 := n6_; clear n0_ n1_ n2_ n3_ n4_ n5_ n6_; clear hb hbox hg; have hnb16 := NB109_101.out; have hnc16 := NB101_109.out; obtain ⟨hcz17_0, hcz17_1, hcz17_2, hcz17_3, hcz17_4⟩ := cells5_ BK109.out; obtain ⟨hfz17_0, hfz17_1, hfz17_2, hfz17_3, hfz17_4⟩ := frz5_ BK109.out; obtain ⟨hcz18_0, hcz18_1, hcz18_2, hcz18_3, hcz18_4⟩ := cells5_ BK101.out; obtain ⟨hfz18_0, hfz18_1, hfz18_2, hfz18_3, hfz18_4⟩ := frz5_ BK101.out))
   refine bodyPost_ret (results_ctt rfl _ _ gb101 84 #[.int .i64 t102, .bool t103, .int .i64 t104, .int .i64 t105, .int .i64 t106] (0, 0) _ rfl q10_ Tryd.underlying84 rfl q9_) rfl ?_
   exact ⟨q4_, q59_⟩
 ·rw [if_neg c5] at H
  have c5b0 : (t107 == 0) = false := beq_eq_false_iff_ne.mpr c5
  have c5b1 : (t107 != 0) = true := bne_iff_ne.mpr c5
  simp only [Option.some.injEq, Prod.mk.injEq] at H
  obtain ⟨rfl, rfl, rfl, rfl, rfl, rfl, rfl⟩ := H
  go_enter Tryd.func55, Tryd.ntmps55
  go_wp2_with (first | ((with_reducible refine gate_dst (N := 6) rfl ?_); refine box_event ?hg (N := 6) ?hd (cs := #[.int .i64 0, .bool false, .int .i64 0, .int .i64 0, .int .i64 0]) (t := 84) ?hr ?_; (case hd => rfl); (case hg => rfl); (case hr => first | (go_simp; done) | (go_simp; rfl)); intro gb101 hg w19 hbox hb; have n0_ := Aside0.mk (below_step q1_ hb); have n1_ := Aside0.mk (hbox); have n2_ := Aside0.mk ((by rw [hg]; exact (below_size q1_) : w.heap.size ≤ gb101)); have n3_ := Aside0.mk ((by rw [hg]; exact (below_size q1_) : w.heap.size ≤ gb101)); clear HB; have HB := n0_; have BK101 := n1_; have GW101 := n2_; have GE101 := n3_; clear n0_ n1_ n2_ n3_; clear hb hbox hg) | ((with_reducible refine gate_callee (f := 61) rfl ?_); refine goesL_ (some 16) rfl rfl Tryd.func61 q9_ rfl #[.string a0, .int .i64 a1, .int .i64 a2] rfl q84_ ?_; (with_reducible refine (rosterref02_headAt.calls a0 a1 a2 t102 t103 t104 t105 t106 t107 t108 _ A4.out).mono ?_); rintro e w20 ⟨rfl, hb⟩; refine ⟨_, rfl, ?_⟩; have n0_ := Aside0.mk (blk_below (g := gb101) (o := .cells #[.int .i64 0, .bool false, .int .i64 0, .int .i64 0, .int .i64 0] 84 (0, 0)) q20_ hb); have n1_ := Aside0.mk (below_step q15_ hb); clear BK101; clear HB; have BK101 := n0_; have HB := n1_; clear n0_ n1_; (try clear hb); (try clear hb2); (try clear hk); (try clear hi)) | ((with_reducible refine gate_dst (N := 9) rfl ?_); refine box_event ?hg (N := 9) ?hd (cs := #[.int .i64 0, .bool false, .int .i64 0, .int .i64 0, .int .i64 0]) (t := 84) ?hr ?_; (case hd => rfl); (case hg => rfl); (case hr => first | (go_simp; done) | (go_simp; rfl)); intro gb109 hg w21 hbox hb; have n0_ := Aside0.mk (blk_below (g := gb101) (o := .cells #[.int .i64 0, .bool false, .int .i64 0, .int .i64 0, .int .i64 0] 84 (0, 0)) q20_ hb); have n1_ := Aside0.mk (below_step q15_ hb); have n2_ := Aside0.mk (hbox); have n3_ := Aside0.mk ((by rw [hg]; exact (below_size q15_) : w.heap.size ≤ gb109)); have n4_ := Aside0.mk ((by rw [hg]; exact (below_size q15_) : w.heap.size ≤ gb109)); have n5_ := Aside0.mk ((by rw [hg]; exact Nat.ne_of_lt (blk_lt (g := gb101) (o := .cells #[.int .i64 0, .bool false, .int .i64 0, .int .i64 0, .int .i64 0] 84 (0, 0)) q20_) : gb101 ≠ gb109)); have n6_ := Aside0.mk ((by rw [hg]; exact Nat.ne_of_gt (blk_lt (g := gb101) (o := .cells #[.int .i64 0, .bool false, .int .i64 0, .int .i64 0, .int .i64 0] 84 (0, 0)) q20_) : gb109 ≠ gb101)); clear BK101; clear HB; have BK101 := n0_; have HB := n1_; have BK109 := n2_; have GW109 := n3_; have GE109 := n4_; have NB101_109 := n5_; have NB109_101 := n6_; clear n0_ n1_ n2_ n3_ n4_ n5_ n6_; clear hb hbox hg; have hnb22 := NB109_101.out; have hnc22 := NB101_109.out; obtain ⟨hcz23_0, hcz23_1, hcz23_2, hcz23_3, hcz23_4⟩ := cells5_ BK109.out; obtain ⟨hfz23_0, hfz23_1, hfz23_2, hfz23_3, hfz23_4⟩ := frz5_ BK109.out; obtain ⟨hcz24_0, hcz24_1, hcz24_2, hcz24_3, hcz24_4⟩ := cells5_ BK101.out; obtain ⟨hfz24_0, hfz24_1, hfz24_2, hfz24_3, hfz24_4⟩ := frz5_ BK101.out))
  refine bodyPost_ret (results_ctt rfl _ _ gb101 84 #[.int .i64 t102, .bool t103, .int .i64 t104, .int .i64 t105, .int .i64 t106] (0, 0) _ rfl q10_ Tryd.underlying84 rfl q9_) rfl ?_
  exact ⟨q4_, q59_⟩
mutual
def rosterref02_walk.l0 : Nat → ByteArray → List (S86) → List Int → List Int → Int → Option ((List (S86)) × List Int × Int × Int)
 | 0, _, _, _, _, _ => none
 | k + 1, x0, x6, x7, x8, x9 => rosterref02_walk.l1 k x0 x6 x7 x8 x9
def rosterref02_walk.j2 : Nat → ByteArray → List (S86) → List Int → List Int → Int → Option ((List (S86)) × List Int × Int × Int)
 | 0, _, _, _, _, _ => none
 | k + 1, x0, x6, x7, x8, x9 => if (x6.length : Int) > 0 then (rosterref02_walk.j3 k x0 x6 x7 x8 x9 ((x8.length : Int) == 0)) else (rosterref02_walk.j3 k x0 x6 x7 x8 x9 false)
def rosterref02_walk.j3 : Nat → ByteArray → List (S86) → List Int → List Int → Int → Bool → Option ((List (S86)) × List Int × Int × Int)
 | 0, _, _, _, _, _, _ => none
 | k + 1, x0, x6, x7, x8, x9, x39 => if x39 = true then (some (x6, x7, 0, x9)) else (if (x8.length : Int) > 0 then (if 0 ≤ (wrap64 ((x8.length : Int) - 1)) then (if (wrap64 ((x8.length : Int) - 1)) < (x8.length : Int) then (rosterref02_walk.j4 k x0 x6 x7 x8 x9 (rd x8 (wrap64 ((x8.length : Int) - 1)))) else (none)) else (none)) else (rosterref02_walk.j4 k x0 x6 x7 x8 x9 (x0.size : Int)))
def rosterref02_walk.j4 : Nat → ByteArray → List (S86) → List Int → List Int → Int → Int → Option ((List (S86)) × List Int × Int × Int)
 | 0, _, _, _, _, _, _ => none
 | k + 1, x0, x6, x7, x8, x9, x10 => if (wrap64 ((x8.length : Int) + 1)) > 64 then (some (x6, x7, 25, x9)) else ((rosterref02_whole.f x0 x9 x10).bind fun bt115 => (if bt115.2.2.2.2.2.1 = (-1) then (if (x6.length : Int) = 0 then (rosterref02_walk.j5 k x0 x6 x7 x8 x9 20 bt115.2.2.2.2.2.2 bt115.1 bt115.2.1 bt115.2.2.1 bt115.2.2.2.1 bt115.2.2.2.2.1) else (rosterref02_walk.j5 k x0 x6 x7 x8 x9 26 bt115.2.2.2.2.2.2 bt115.1 bt115.2.1 bt115.2.2.1 bt115.2.2.2.1 bt115.2.2.2.2.1)) else (rosterref02_walk.j5 k x0 x6 x7 x8 x9 bt115.2.2.2.2.2.1 bt115.2.2.2.2.2.2 bt115.1 bt115.2.1 bt115.2.2.1 bt115.2.2.2.1 bt115.2.2.2.2.1)))
def rosterref02_walk.j5 : Nat → ByteArray → List (S86) → List Int → List Int → Int → Int → Int → Int → Bool → Int → Int → Int → Option ((List (S86)) × List Int × Int × Int)
 | 0, _, _, _, _, _, _, _, _, _, _, _, _ => none
 | k + 1, x0, x6, x7, x8, x9, x12, x13, x123000, x123001, x123002, x123003, x123004 => if x12 = 0 then (if x6.length < 2932031007402 then ((some (x6 ++ [(⟨x9, (⟨x123000, x123001, x123002, x123003, x123004⟩ : S84)⟩ : S86)] : List (S86))).bind fun y123 => (if x7.length < 17592186044416 then ((some (x7 ++ [wrap64 ((x8.length : Int) + 1)] : List Int)).bind fun y126 => (if x8.length < 17592186044416 then ((some (x8 ++ [wrap64 ((wrap64 (x9 + x123004)) + x123003)] : List Int)).bind fun y129 => (if x123001 = true then (rosterref02_walk.l0 k x0 y123 y126 y129 (wrap64 (x9 + x123004))) else (rosterref02_walk.l0 k x0 y123 y126 y129 (wrap64 ((wrap64 (x9 + x123004)) + x123003))))) else (none))) else (none))) else (none)) else (some (x6, x7, x12, x13))
def rosterref02_walk.l1 : Nat → ByteArray → List (S86) → List Int → List Int → Int → Option ((List (S86)) × List Int × Int × Int)
 | 0, _, _, _, _, _ => none
 | k + 1, x0, x6, x7, x8, x9 => if (x8.length : Int) > 0 then (if 0 ≤ (wrap64 ((x8.length : Int) - 1)) then (if (wrap64 ((x8.length : Int) - 1)) < (x8.length : Int) then (if (rd x8 (wrap64 ((x8.length : Int) - 1))) = x9 then (if (wrap64 ((x8.length : Int) - 1)) ≤ (x8.length : Int) then (rosterref02_walk.l1 k x0 x6 x7 (x8.take ((wrap64 ((x8.length : Int) - 1)) : Int).toNat) x9) else (none)) else (rosterref02_walk.j2 k x0 x6 x7 x8 x9)) else (none)) else (none)) else (rosterref02_walk.j2 k x0 x6 x7 x8 x9)
end
def rosterref02_walk.f (k : Nat) (a0 : ByteArray) : Option ((List (S86)) × List Int × Int × Int) := rosterref02_walk.l0 k a0 ([] : List (S86)) ([] : List Int) ([] : List Int) 0
set_option maxHeartbeats 8000000 in
set_option maxRecDepth 100000 in
theorem rosterref02_walk.calls (k : Nat) (a0 : ByteArray) (r1 : List (S86)) (r2 : List Int) (r3 : Int) (r4 : Int) (w : World) (h : rosterref02_walk.f k a0 = some (r1, r2, r3, r4)) :
  Calls Tryd.prog 45 #[.string a0] w fun e w' => ∃ v0_ v1_ : Value, e = .returned (.tuple #[v0_, v1_, .int .i64 r3, .int .i64 r4]) ∧ Kd.R k86 86 w' w.heap.size (fun _ => True) v0_ r1 ∧ Kd.R (Kd.int .i64) 3 w' w.heap.size (fun _ => True) v1_ r2 ∧ Below w.heap.size w w' := by
 have hu84 := Tryd.underlying84
 have hu86 := Tryd.underlying86
 have HB := Aside0.mk (Below.refl w.heap.size w)
 have H : (rosterref02_walk.l0 k a0 ([] : List (S86)) ([] : List Int) ([] : List Int) 0) = some (r1, r2, r3, r4) := h
 clear h
 have H' := Aside0.mk H
 clear H
 go_enter Tryd.func45, Tryd.ntmps45
 go_wp2
 go_loopg [6, 7, 8, 9] k (fun kq v6 v7 v8 v9 w' => ∃ (x6_1 : List (S86)) (x7_1 : List Int) (x8_1 : List Int) (x9_1 : Int), v9 = .int .i64 x9_1 ∧ Aside0 (rosterref02_walk.l0 kq a0 x6_1 x7_1 x8_1 x9_1 = some (r1, r2, r3, r4)) ∧ Aside0 (kq ≤ k) ∧ Aside0 (Kd.R k86 86 w' w.heap.size (fun _ => True) v6 x6_1) ∧ Aside0 (Kd.R (Kd.int .i64) 3 w' w.heap.size (fun k_ => some k_ ≠ (v8 : Value).ownBlock) v7 x7_1) ∧ Aside0 (Kd.R (Kd.int .i64) 3 w' w.heap.size (fun k_ => some k_ ≠ (v7 : Value).ownBlock) v8 x8_1) ∧ Aside0 (Below w.heap.size w w'))
 case atStart => exact ⟨(([] : List (S86))), (([] : List Int)), (([] : List Int)), (0), q3_, H', ⟨Nat.le_refl _⟩, ⟨q27_⟩, ⟨q27_⟩, ⟨q27_⟩, ⟨q1_⟩⟩
 case round =>
  clear H'
  obtain ⟨x6_1, x7_1, x8_1, x9_1, rfl, HA, HK1, HO_6, HO_7, HO_8, HB⟩ := hrel
  cases gk with
  | zero => exact absurd HA.out (by simp [rosterref02_walk.l0])
  | succ k1 =>
   have H := HA.out
   clear HA
   simp only [rosterref02_walk.l0] at H
   have HC2 := Aside0.mk H
   clear H
   go_upto_block 2 with (fail)
   go_cut [8] (fun v8 wc => ∃ (kq : Nat) (x8_1 : List Int), Aside0 (rosterref02_walk.j2 kq a0 x6_1 x7_1 x8_1 x9_1 = some (r1, r2, r3, r4)) ∧ Aside0 (kq ≤ k1) ∧ Aside0 (Kd.R k86 86 wc w.heap.size (fun _ => True) u6 x6_1) ∧ Aside0 (Kd.R (Kd.int .i64) 3 wc w.heap.size (fun k_ => some k_ ≠ (v8 : Value).ownBlock) u7 x7_1) ∧ Aside0 (Kd.R (Kd.int .i64) 3 wc w.heap.size (fun k_ => some k_ ≠ (u7 : Value).ownBlock) v8 x8_1) ∧ Aside0 (Below w.heap.size w wc))
   case first =>
    have H := HC2.out
    clear HC2
    have H' := Aside0.mk H
    clear H
    go_wp2
    go_loopg [8] k1 (fun kq v8 w' => ∃ (x8_2 : List Int), Aside0 (rosterref02_walk.l1 kq a0 x6_1 x7_1 x8_2 x9_1 = some (r1, r2, r3, r4)) ∧ Aside0 (kq ≤ k1) ∧ Aside0 (Kd.R k86 86 w' w.heap.size (fun _ => True) u6 x6_1) ∧ Aside0 (Kd.R (Kd.int .i64) 3 w' w.heap.size (fun k_ => some k_ ≠ (v8 : Value).ownBlock) u7 x7_1) ∧ Aside0 (Kd.R (Kd.int .i64) 3 w' w.heap.size (fun k_ => some k_ ≠ (u7 : Value).ownBlock) v8 x8_2) ∧ Aside0 (Below w.heap.size w w'))
    case atStart => exact ⟨(x8_1), H', ⟨Nat.le_refl _⟩, ⟨q17_⟩, ⟨q21_⟩, ⟨q31_⟩, ⟨q1_⟩⟩
    case round =>
     clear H'
     try clear p2
     obtain ⟨x8_2, HA, HK2, HO_6, HO_7, HO_8, HB⟩ := hrel
     cases gk with
     | zero => exact absurd HA.out (by simp [rosterref02_walk.l1])
     | succ k2 =>
      have H := HA.out
      clear HA
      simp only [rosterref02_walk.l1] at H
      by_cases c3 : (x8_2.length : Int) > 0
      ·rw [if_pos c3] at H
       have c3b0 : decide (0 < (x8_2.length : Int)) = true := decide_eq_true c3
       have c3b1 : decide (0 < x8_2.length) = true := decide_eq_true q2_
       have c3b2 : 0 < x8_2.length := by omega
       clear c3
       (first | rw [c3b0] | rw [c3be] | (simp only [i64_w, i32_w]; rw [c3b0]) | skip)
       obtain ⟨ji4, hji4⟩ : ∃ j_ : Int, (wrap64 ((x8_2.length : Int) - 1)) = j_ := ⟨_, rfl⟩
       replace H : (if 0 ≤ (ji4) then (if (ji4) < (x8_2.length : Int) then (if (rd x8_2 (ji4)) = x9_1 then (if (ji4) ≤ (x8_2.length : Int) then (rosterref02_walk.l1 k2 a0 x6_1 x7_1 (x8_2.take ((ji4) : Int).toNat) x9_1) else (none)) else (rosterref02_walk.j2 k2 a0 x6_1 x7_1 x8_2 x9_1)) else (none)) else (none)) = some (r1, r2, r3, r4) := by first | (rw [hji4] at H; exact H) | (simp only [hji4] at H ⊢; exact H)
       have hji4w : (IntKind.i64.wrap ((x8_2.length : Int) - 1)) = ji4 := (i64_w _).trans hji4
       by_cases c5 : 0 ≤ (ji4)
       ·rw [if_pos c5] at H
        have c5b0 : decide (0 ≤ (ji4)) = true := decide_eq_true c5
        clear c5
        by_cases c6 : (ji4) < (x8_2.length : Int)
        ·rw [if_pos c6] at H
         have c6b0 : decide ((ji4) < (x8_2.length : Int)) = true := decide_eq_true c6
         clear c6
         by_cases c7 : (rd x8_2 (ji4)) = x9_1
         ·rw [if_pos c7] at H
          have c7b0 : ((rd x8_2 (ji4)) == x9_1) = true := beq_iff_eq.mpr c7
          have c7b1 : ((rd x8_2 (ji4)) != x9_1) = false := bne_eq_false_iff_eq.mpr c7
          clear c7
          by_cases c8 : (ji4) ≤ (x8_2.length : Int)
          ·rw [if_pos c8] at H
           have c8b0 := eq_true c8
           have c8b1 : decide ((ji4) ≤ (x8_2.length : Int)) = true := decide_eq_true c8
           clear c8
           obtain ⟨y111, hy111⟩ : ∃ y_ : List Int, y_ = (x8_2.take ((ji4) : Int).toNat) := ⟨_, rfl⟩
           replace H : (rosterref02_walk.l1 k2 a0 x6_1 x7_1 y111 x9_1) = some (r1, r2, r3, r4) := by first | (rw [hy111]; with_reducible exact H) | (have H2_ := (Option.bind_some _ _).symm.trans H; rw [hy111]; with_reducible exact H2_) | (have H2_ := (Option.bind_some _ _).symm.trans H; with_reducible exact H2_) | with_reducible exact H | (rw [hy111]; exact H) | exact H
           have Ny111 := Aside0.mk hy111
           clear hy111
           have H' := Aside0.mk H
           clear H
           obtain ⟨Ao9, co9, eo9⟩ := Kd.R_slice HO_8.out
           subst eo9
           have p110 : 0 ≤ ((ji4) : Int) := of_decide_eq_true q6_
           have q110 : (ji4) < (x8_2.length : Int) := of_decide_eq_true q6_
           obtain ⟨ad110, e110, hx110_0⟩ := Kd.at_int (Kd.R_reads' HO_8.out).2.2 (ji4) p110 q110
           cases e110
           replace p110 := eq_true p110
           replace q110 := eq_true q110
           have q10 : ((ji4) : Int) ≤ ((x8_2.length : Int) : Int) := of_decide_eq_true q6_
           obtain ⟨i010, hi010, _, hsz10, _⟩ := info_parts info3
           have hcut10 := cut_to (P := Tryd.prog) 70 3 .i64 Tryd.underlying70 hi010 (some ad110) x8_2.length co9 (ji4) (of_decide_eq_true q6_) q10 (Kd.R_reads' HO_8.out).2.1
           have hr10 := Kd.R_take (m := ((ji4) : Int).toNat) HO_8.out q2_
           have hy10 : y111.length = ((ji4) : Int).toNat := (by rw [Ny111.out, List.length_take]; omega)
           rw [← Ny111.out] at hr10
           rw [← hy10] at hr10 hcut10
           clear hy10 hi010 hsz10 HO_8
           have HO113 := Aside0.mk hr10
           clear hr10
           replace q10 := eq_true q10
           go_wp2
           go_roundg k2
           case measure => have := HK1.out; have := HK2.out; omega
           case rel => exact ⟨(y111), H', ⟨by have := HK1.out; have := HK2.out; omega⟩, ⟨q17_⟩, ⟨q21_⟩, ⟨by (with_reducible repeat (first | apply Kd.R_alloc | apply Kd.R_drewN | apply Kd.R_drew)); exact HO113.out⟩, ⟨q1_⟩⟩
          ·rw [if_neg c8] at H
           exact absurd H q28_
         ·rw [if_neg c7] at H
          have c7b0 : ((rd x8_2 (ji4)) == x9_1) = false := beq_eq_false_iff_ne.mpr c7
          have c7b1 : ((rd x8_2 (ji4)) != x9_1) = true := bne_iff_ne.mpr c7
          have H' := Aside0.mk H
          clear H
          obtain ⟨Ao11, co11, eo11⟩ := Kd.R_slice HO_8.out
          subst eo11
          have p110 : 0 ≤ ((ji4) : Int) := of_decide_eq_true q6_
          have q110 : (ji4) < (x8_2.length : Int) := of_decide_eq_true q6_
          obtain ⟨ad110, e110, hx110_0⟩ := Kd.at_int (Kd.R_reads' HO_8.out).2.2 (ji4) p110 q110
          cases e110
          replace p110 := eq_true p110
          replace q110 := eq_true q110
          go_wp2
          go_meet
          case rel => exact ⟨_, (x8_2), H', ⟨by have := HK1.out; have := HK2.out; first | omega | exact Nat.le_refl _⟩, ⟨q17_⟩, ⟨q21_⟩, ⟨q31_⟩, ⟨q1_⟩⟩
        ·rw [if_neg c6] at H
         exact absurd H q28_
       ·rw [if_neg c5] at H
        exact absurd H q28_
      ·rw [if_neg c3] at H
       have c3b0 : decide (0 < (x8_2.length : Int)) = false := decide_eq_false c3
       have c3b1 : decide (0 < x8_2.length) = false := decide_eq_false q2_
       have c3b2 : ¬ (0 < x8_2.length) := by omega
       clear c3
       (first | rw [c3b0] | rw [c3be] | (simp only [i64_w, i32_w]; rw [c3b0]) | skip)
       have H' := Aside0.mk H
       clear H
       obtain ⟨Ao12, co12, eo12⟩ := Kd.R_slice HO_8.out
       subst eo12
       go_wp2
       go_meet
       case rel => exact ⟨_, (x8_2), H', ⟨by have := HK1.out; have := HK2.out; first | omega | exact Nat.le_refl _⟩, ⟨q17_⟩, ⟨q21_⟩, ⟨q31_⟩, ⟨q1_⟩⟩
   case rest =>
    clear HC2
    try clear p1
    try clear q1
    try clear hx1
    try clear p2
    try clear c3
    try clear c3b0
    try clear c3b1
    try clear c3b2
    try clear c4
    try clear c5
    try clear c5b0
    try clear c6
    try clear c6b0
    try clear p6
    try clear c7
    try clear c7b0
    try clear c7b1
    try clear c8
    try clear c8b0
    try clear c8b1
    try clear q10
    try clear p11
    try clear q11
    try clear hx11
    try clear hx110_0
    try clear p110
    try clear p2
    try clear q10
    try clear q110
    obtain ⟨kq, x8_1, HA, HJ1, HO_6, HO_7, HO_8, HB⟩ := hcut
    cases kq with
    | zero => exact absurd HA.out (by simp [rosterref02_walk.j2])
    | succ kj1 =>
     have H := HA.out
     clear HA
     simp only [rosterref02_walk.j2] at H
     have HC13 := Aside0.mk H
     clear H
     go_upto_region 7 with (fail)
     go_cut [39] (fun v39 wc => ∃ (kq : Nat) (x39_12 : Bool), v39 = .bool x39_12 ∧ Aside0 (rosterref02_walk.j3 kq a0 x6_1 x7_1 x8_1 x9_1 x39_12 = some (r1, r2, r3, r4)) ∧ Aside0 (kq ≤ kj1) ∧ Aside0 (Kd.R k86 86 wc w.heap.size (fun _ => True) u6 x6_1) ∧ Aside0 (Kd.R (Kd.int .i64) 3 wc w.heap.size (fun k_ => some k_ ≠ (u8 : Value).ownBlock) u7 x7_1) ∧ Aside0 (Kd.R (Kd.int .i64) 3 wc w.heap.size (fun k_ => some k_ ≠ (u7 : Value).ownBlock) u8 x8_1) ∧ Aside0 (Below w.heap.size w wc))
     case first =>
      have H := HC13.out
      clear HC13
      by_cases c14 : (x6_1.length : Int) > 0
      ·rw [if_pos c14] at H
       have c14b0 : decide (0 < (x6_1.length : Int)) = true := decide_eq_true c14
       have c14b1 : decide (0 < x6_1.length) = true := decide_eq_true q2_
       have c14b2 : 0 < x6_1.length := by omega
       clear c14
       (first | rw [c14b0] | rw [c14be] | (simp only [i64_w, i32_w]; rw [c14b0]) | skip)
       have H' := Aside0.mk H
       clear H
       obtain ⟨Ao15, co15, eo15⟩ := Kd.R_slice HO_6.out
       subst eo15
       obtain ⟨Ao16, co16, eo16⟩ := Kd.R_slice HO_8.out
       subst eo16
       go_wp2
       go_meet
       case rel => exact ⟨_, (((x8_1.length : Int) == 0)), q3_, H', ⟨by have := HK1.out; have := HJ1.out; first | omega | exact Nat.le_refl _⟩, ⟨q17_⟩, ⟨q21_⟩, ⟨q31_⟩, ⟨q1_⟩⟩
      ·rw [if_neg c14] at H
       have c14b0 : decide (0 < (x6_1.length : Int)) = false := decide_eq_false c14
       have c14b1 : decide (0 < x6_1.length) = false := decide_eq_false q2_
       have c14b2 : ¬ (0 < x6_1.length) := by omega
       clear c14
       (first | rw [c14b0] | rw [c14be] | (simp only [i64_w, i32_w]; rw [c14b0]) | skip)
       have H' := Aside0.mk H
       clear H
       obtain ⟨Ao17, co17, eo17⟩ := Kd.R_slice HO_6.out
       subst eo17
       go_wp2
       go_meet
       case rel => exact ⟨_, (false), q3_, H', ⟨by have := HK1.out; have := HJ1.out; first | omega | exact Nat.le_refl _⟩, ⟨q17_⟩, ⟨q21_⟩, ⟨q31_⟩, ⟨q1_⟩⟩
     case rest =>
      clear HC13
      try clear c1
      try clear p1
      try clear q1
      try clear hx1
      try clear p2
      try clear c3
      try clear c3b0
      try clear c3b1
      try clear c3b2
      try clear c4
      try clear c5
      try clear c5b0
      try clear c6
      try clear c6b0
      try clear p6
      try clear c7
      try clear c7b0
      try clear c7b1
      try clear c8
      try clear c8b0
      try clear c8b1
      try clear q10
      try clear p11
      try clear q11
      try clear hx11
      try clear c14
      try clear c14b0
      try clear c14b1
      try clear c14b2
      try clear hx110_0
      try clear p1
      try clear p11
      try clear p110
      try clear p2
      try clear p6
      try clear q1
      try clear q10
      try clear q11
      try clear q110
      obtain ⟨kq, x39_12, rfl, HA, HJ12, HO_6, HO_7, HO_8, HB⟩ := hcut
      cases kq with
      | zero => exact absurd HA.out (by simp [rosterref02_walk.j3])
      | succ kj12 =>
       have H := HA.out
       clear HA
       simp only [rosterref02_walk.j3] at H
       by_cases c18 : x39_12 = true
       ·subst c18
        have H1 : (some (x6_1, x7_1, 0, x9_1)) = some (r1, r2, r3, r4) := by rw [if_pos rfl] at H; exact H
        clear H
        have H := H1
        clear H1
        simp only [Option.some.injEq, Prod.mk.injEq] at H
        obtain ⟨rfl, rfl, rfl, rfl⟩ := H
        go_wp2
        refine bodyPost_ret (results_list (rs := [.tmp 2, .tmp 3, .tmp 4, .tmp 5]) rfl q28_ (.tmp (.tmp (.tmp (.tmp .nil))))) rfl ?_
        exact ⟨_, _, q4_, q17_, q69_, q1_⟩
       ·replace c18 := Bool.eq_false_iff.mpr c18
        subst c18
        have H1 : (if (x8_1.length : Int) > 0 then (if 0 ≤ (wrap64 ((x8_1.length : Int) - 1)) then (if (wrap64 ((x8_1.length : Int) - 1)) < (x8_1.length : Int) then (rosterref02_walk.j4 kj12 a0 x6_1 x7_1 x8_1 x9_1 (rd x8_1 (wrap64 ((x8_1.length : Int) - 1)))) else (none)) else (none)) else (rosterref02_walk.j4 kj12 a0 x6_1 x7_1 x8_1 x9_1 (a0.size : Int))) = some (r1, r2, r3, r4) := by rw [if_neg (show ¬ (false = true) by decide)] at H; exact H
        clear H
        have H := H1
        clear H1
        have HC19 := Aside0.mk H
        clear H
        obtain ⟨Ao20, co20, eo20⟩ := Kd.R_slice HO_8.out
        subst eo20
        go_upto_if 47 with (fail)
        go_cut [10] (fun v10 wc => ∃ (kq : Nat) (x10_18 : Int), v10 = .int .i64 x10_18 ∧ Aside0 (rosterref02_walk.j4 kq a0 x6_1 x7_1 x8_1 x9_1 x10_18 = some (r1, r2, r3, r4)) ∧ Aside0 (kq ≤ kj12) ∧ Aside0 (Kd.R k86 86 wc w.heap.size (fun _ => True) u6 x6_1) ∧ Aside0 (Kd.R (Kd.int .i64) 3 wc w.heap.size (fun k_ => some k_ ≠ ((.slice Ao20 x8_1.length co20) : Value).ownBlock) u7 x7_1) ∧ Aside0 (Kd.R (Kd.int .i64) 3 wc w.heap.size (fun k_ => some k_ ≠ (u7 : Value).ownBlock) (.slice Ao20 x8_1.length co20) x8_1) ∧ Aside0 (Below w.heap.size w wc))
        case first =>
         have H := HC19.out
         clear HC19
         by_cases c21 : (x8_1.length : Int) > 0
         ·rw [if_pos c21] at H
          have c21b0 : decide (0 < (x8_1.length : Int)) = true := decide_eq_true c21
          have c21b1 : decide (0 < x8_1.length) = true := decide_eq_true q2_
          have c21b2 : 0 < x8_1.length := by omega
          clear c21
          (first | rw [c21b0] | rw [c21be] | (simp only [i64_w, i32_w]; rw [c21b0]) | skip)
          obtain ⟨ji22, hji22⟩ : ∃ j_ : Int, (wrap64 ((x8_1.length : Int) - 1)) = j_ := ⟨_, rfl⟩
          replace H : (if 0 ≤ (ji22) then (if (ji22) < (x8_1.length : Int) then (rosterref02_walk.j4 kj12 a0 x6_1 x7_1 x8_1 x9_1 (rd x8_1 (ji22))) else (none)) else (none)) = some (r1, r2, r3, r4) := by first | (rw [hji22] at H; exact H) | (simp only [hji22] at H ⊢; exact H)
          have hji22w : (IntKind.i64.wrap ((x8_1.length : Int) - 1)) = ji22 := (i64_w _).trans hji22
          by_cases c23 : 0 ≤ (ji22)
          ·rw [if_pos c23] at H
           have c23b0 : decide (0 ≤ (ji22)) = true := decide_eq_true c23
           clear c23
           by_cases c24 : (ji22) < (x8_1.length : Int)
           ·rw [if_pos c24] at H
            have c24b0 : decide ((ji22) < (x8_1.length : Int)) = true := decide_eq_true c24
            clear c24
            have H' := Aside0.mk H
            clear H
            have p114 : 0 ≤ ((ji22) : Int) := of_decide_eq_true q6_
            have q114 : (ji22) < (x8_1.length : Int) := of_decide_eq_true q6_
            obtain ⟨ad114, e114, hx114_0⟩ := Kd.at_int (Kd.R_reads' HO_8.out).2.2 (ji22) p114 q114
            cases e114
            replace p114 := eq_true p114
            replace q114 := eq_true q114
            go_wp2
            go_meet
            case rel => exact ⟨_, (rd x8_1 (ji22)), (by first | rfl | (simp; done) | (simp only [← hji22] <;> (first | rfl | simp)) | (simp [*]; done) | (simp [isEmpty_ne_]; done)), H', ⟨by have := HK1.out; have := HJ1.out; have := HJ12.out; first | omega | exact Nat.le_refl _⟩, ⟨q17_⟩, ⟨q21_⟩, ⟨q31_⟩, ⟨q1_⟩⟩
           ·rw [if_neg c24] at H
            exact absurd H q28_
          ·rw [if_neg c23] at H
           exact absurd H q28_
         ·rw [if_neg c21] at H
          have c21b0 : decide (0 < (x8_1.length : Int)) = false := decide_eq_false c21
          have c21b1 : decide (0 < x8_1.length) = false := decide_eq_false q2_
          have c21b2 : ¬ (0 < x8_1.length) := by omega
          clear c21
          (first | rw [c21b0] | rw [c21be] | (simp only [i64_w, i32_w]; rw [c21b0]) | skip)
          have H' := Aside0.mk H
          clear H
          go_wp2
          go_meet
          case rel => exact ⟨_, ((a0.size : Int)), q3_, H', ⟨by have := HK1.out; have := HJ1.out; have := HJ12.out; first | omega | exact Nat.le_refl _⟩, ⟨q17_⟩, ⟨q21_⟩, ⟨q31_⟩, ⟨q1_⟩⟩
        case rest =>
         clear HC19
         try clear c1
         try clear p1
         try clear q1
         try clear hx1
         try clear c2
         try clear p2
         try clear c3
         try clear c3b0
         try clear c3b1
         try clear c3b2
         try clear c4
         try clear c5
         try clear c5b0
         try clear c6
         try clear c6b0
         try clear p6
         try clear c7
         try clear c7b0
         try clear c7b1
         try clear c8
         try clear c8b0
         try clear c8b1
         try clear q10
         try clear p11
         try clear q11
         try clear hx11
         try clear c14
         try clear c14b0
         try clear c14b1
         try clear c14b2
         try clear c18
         try clear c21
         try clear c21b0
         try clear c21b1
         try clear c21b2
         try clear c23
         try clear c23b0
         try clear c24
         try clear c24b0
         try clear hx110_0
         try clear hx114_0
         try clear p1
         try clear p11
         try clear p110
         try clear p114
         try clear p2
         try clear p6
         try clear q1
         try clear q10
         try clear q11
         try clear q110
         try clear q114
         obtain ⟨kq, x10_18, rfl, HA, HJ18, HO_6, HO_7, HO_8, HB⟩ := hcut
         cases kq with
         | zero => exact absurd HA.out (by simp [rosterref02_walk.j4])
         | succ kj18 =>
          have H := HA.out
          clear HA
          simp only [rosterref02_walk.j4] at H
          by_cases c25 : (wrap64 ((x8_1.length : Int) + 1)) > 64
          ·rw [if_pos c25] at H
           have c25b0 : decide (64 < (wrap64 ((x8_1.length : Int) + 1))) = true := decide_eq_true c25
           clear c25
           simp only [Option.some.injEq, Prod.mk.injEq] at H
           obtain ⟨rfl, rfl, rfl, rfl⟩ := H
           go_wp2
           refine bodyPost_ret (results_list (rs := [.tmp 2, .tmp 3, .tmp 4, .tmp 5]) rfl q28_ (.tmp (.tmp (.tmp (.tmp .nil))))) rfl ?_
           exact ⟨_, _, q4_, q17_, q69_, q1_⟩
          ·rw [if_neg c25] at H
           have c25b0 : decide (64 < (wrap64 ((x8_1.length : Int) + 1))) = false := decide_eq_false c25
           clear c25
           replace H := Option.bind_eq_some_iff.mp H
           obtain ⟨⟨t115, t116, t117, t118, t119, t120, t121⟩, A260, H⟩ := H
           replace H : (if t120 = (-1) then (if (x6_1.length : Int) = 0 then (rosterref02_walk.j5 kj18 a0 x6_1 x7_1 x8_1 x9_1 20 t121 t115 t116 t117 t118 t119) else (rosterref02_walk.j5 kj18 a0 x6_1 x7_1 x8_1 x9_1 26 t121 t115 t116 t117 t118 t119)) else (rosterref02_walk.j5 kj18 a0 x6_1 x7_1 x8_1 x9_1 t120 t121 t115 t116 t117 t118 t119)) = some (r1, r2, r3, r4) := H
           have A26 := Aside0.mk A260
           clear A260
           have HC27 := Aside0.mk H
           clear H
           go_upto_if 70 with (first | ((with_reducible refine gate_callee (f := 55) rfl ?_); refine goesL_ (some 65) rfl rfl Tryd.func55 q9_ rfl #[.string a0, .int .i64 x9_1, .int .i64 x10_18] rfl q84_ ?_; (with_reducible refine (rosterref02_whole.calls a0 x9_1 x10_18 t115 t116 t117 t118 t119 t120 t121 _ A26.out).mono ?_); rintro e w28 ⟨rfl, hb⟩; refine ⟨_, rfl, ?_⟩; have n0_ := Aside0.mk (Kd.R_below q17_ hb); have n1_ := Aside0.mk (Kd.R_below q21_ hb); have n2_ := Aside0.mk (Kd.R_below q31_ hb); have n3_ := Aside0.mk (below_step q1_ hb); clear HO_6; clear HO_7; clear HO_8; clear HB; have HO_6 := n0_; have HO_7 := n1_; have HO_8 := n2_; have HB := n3_; clear n0_ n1_ n2_ n3_; (try clear hb); (try clear hb2); (try clear hk); (try clear hi)) | ((with_reducible refine gate_dst (N := 11) rfl ?_); (try (refine gate_guard q43_ ?_; dsimp only)); refine box_event ?hg (N := 11) ?hd (cs := #[.int .i64 0, .bool false, .int .i64 0, .int .i64 0, .int .i64 0]) (t := 84) ?hr ?_; (case hd => rfl); (case hg => rfl); (case hr => first | (go_simp; done) | (go_simp; rfl)); intro gb122 hg w29 hbox hb; have n0_ := Aside0.mk (Kd.R_below q17_ hb); have n1_ := Aside0.mk (Kd.R_below q21_ hb); have n2_ := Aside0.mk (Kd.R_below q31_ hb); have n3_ := Aside0.mk (below_step q1_ hb); have n4_ := Aside0.mk (hbox); have n5_ := Aside0.mk ((by rw [hg]; exact (below_size q1_) : w.heap.size ≤ gb122)); have n6_ := Aside0.mk ((by rw [hg]; exact (below_size q1_) : w.heap.size ≤ gb122)); clear HO_6; clear HO_7; clear HO_8; clear HB; have HO_6 := n0_; have HO_7 := n1_; have HO_8 := n2_; have HB := n3_; have BK122 := n4_; have GW122 := n5_; have GE122 := n6_; clear n0_ n1_ n2_ n3_ n4_ n5_ n6_; clear hb hbox hg; obtain ⟨hcz30_0, hcz30_1, hcz30_2, hcz30_3, hcz30_4⟩ := cells5_ BK122.out; obtain ⟨hfz30_0, hfz30_1, hfz30_2, hfz30_3, hfz30_4⟩ := frz5_ BK122.out))
           (try simp only [Act.put, List.setIfInBounds_toArray, List.set_cons_zero, List.set_cons_succ])
           go_cut [12] (fun v12 wc => ∃ (kq : Nat) (x12_26 : Int), v12 = .int .i64 x12_26 ∧ Aside0 (rosterref02_walk.j5 kq a0 x6_1 x7_1 x8_1 x9_1 x12_26 t121 t115 t116 t117 t118 t119 = some (r1, r2, r3, r4)) ∧ Aside0 (kq ≤ kj18) ∧ Aside0 (Kd.R k86 86 wc w.heap.size (fun _ => True) u6 x6_1) ∧ Aside0 (Kd.R (Kd.int .i64) 3 wc w.heap.size (fun k_ => some k_ ≠ ((.slice Ao20 x8_1.length co20) : Value).ownBlock) u7 x7_1) ∧ Aside0 (Kd.R (Kd.int .i64) 3 wc w.heap.size (fun k_ => some k_ ≠ (u7 : Value).ownBlock) (.slice Ao20 x8_1.length co20) x8_1) ∧ Aside0 (wc.heap[gb122]? = some (.cells #[.int .i64 t115, .bool t116, .int .i64 t117, .int .i64 t118, .int .i64 t119] 84 (0, 0))) ∧ Aside0 (Below w.heap.size w wc))
           case first =>
            have H := HC27.out
            clear HC27
            by_cases c31 : t120 = (-1)
            ·rw [if_pos c31] at H
             have c31b0 : (t120 == (-1)) = true := beq_iff_eq.mpr c31
             have c31b1 : (t120 != (-1)) = false := bne_eq_false_iff_eq.mpr c31
             clear c31
             (first | rw [c31b0] | rw [c31be] | (simp only [i64_w, i32_w]; rw [c31b0]) | skip)
             by_cases c32 : (x6_1.length : Int) = 0
             ·rw [if_pos c32] at H
              have c32b0 : ((x6_1.length : Int) == 0) = true := beq_iff_eq.mpr c32
              have c32b1 : ((x6_1.length : Int) != 0) = false := bne_eq_false_iff_eq.mpr c32
              clear c32
              have H' := Aside0.mk H
              clear H
              obtain ⟨Ao33, co33, eo33⟩ := Kd.R_slice HO_6.out
              subst eo33
              go_wp2
              go_meet
              case rel => exact ⟨_, (20), q3_, H', ⟨q73_⟩, ⟨q88_⟩, ⟨q89_⟩, ⟨q90_⟩, ⟨q97_⟩, ⟨q16_⟩⟩
             ·rw [if_neg c32] at H
              have c32b0 : ((x6_1.length : Int) == 0) = false := beq_eq_false_iff_ne.mpr c32
              have c32b1 : ((x6_1.length : Int) != 0) = true := bne_iff_ne.mpr c32
              have c32b2 : ¬ (x6_1 = []) := fun h_ => c32 (by rw [h_]; rfl)
              have H' := Aside0.mk H
              clear H
              obtain ⟨Ao34, co34, eo34⟩ := Kd.R_slice HO_6.out
              subst eo34
              go_wp2
              go_meet
              case rel => exact ⟨_, (26), q3_, H', ⟨q73_⟩, ⟨q88_⟩, ⟨q89_⟩, ⟨q90_⟩, ⟨q97_⟩, ⟨q16_⟩⟩
            ·rw [if_neg c31] at H
             have c31b0 : (t120 == (-1)) = false := beq_eq_false_iff_ne.mpr c31
             have c31b1 : (t120 != (-1)) = true := bne_iff_ne.mpr c31
             (first | rw [c31b0] | rw [c31be] | (simp only [i64_w, i32_w]; rw [c31b0]) | skip)
             have H' := Aside0.mk H
             clear H
             go_wp2
             go_meet
             case rel => exact ⟨_, (t120), q3_, H', ⟨q73_⟩, ⟨q88_⟩, ⟨q89_⟩, ⟨q90_⟩, ⟨q97_⟩, ⟨q16_⟩⟩
           case rest =>
            clear HC27
            try clear c1
            try clear p1
            try clear q1
            try clear hx1
            try clear c2
            try clear p2
            try clear c3
            try clear c3b0
            try clear c3b1
            try clear c3b2
            try clear c4
            try clear c5
            try clear c5b0
            try clear c6
            try clear c6b0
            try clear p6
            try clear c7
            try clear c7b0
            try clear c7b1
            try clear c8
            try clear c8b0
            try clear c8b1
            try clear q10
            try clear p11
            try clear q11
            try clear hx11
            try clear c14
            try clear c14b0
            try clear c14b1
            try clear c14b2
            try clear c18
            try clear c21
            try clear c21b0
            try clear c21b1
            try clear c21b2
            try clear c23
            try clear c23b0
            try clear c24
            try clear c24b0
            try clear c25
            try clear c25b0
            try clear c31
            try clear c31b0
            try clear c31b1
            try clear c32
            try clear c32b0
            try clear c32b1
            try clear c32b2
            try clear hcz30_0 hcz30_1 hcz30_2 hcz30_3 hcz30_4
            try clear hfz30_0 hfz30_1 hfz30_2 hfz30_3 hfz30_4
            try clear hx110_0
            try clear hx114_0
            try clear p1
            try clear p11
            try clear p110
            try clear p114
            try clear p2
            try clear p6
            try clear q1
            try clear q10
            try clear q11
            try clear q110
            try clear q114
            obtain ⟨kq, x12_26, rfl, HA, HJ26, HO_6, HO_7, HO_8, BK122, HB⟩ := hcut
            cases kq with
            | zero => exact absurd HA.out (by simp [rosterref02_walk.j5])
            | succ kj26 =>
             have H := HA.out
             clear HA
             simp only [rosterref02_walk.j5] at H
             by_cases c35 : x12_26 = 0
             ·rw [if_pos c35] at H
              have c35b0 : (x12_26 == 0) = true := beq_iff_eq.mpr c35
              have c35b1 : (x12_26 != 0) = false := bne_eq_false_iff_eq.mpr c35
              clear c35
              by_cases c36 : x6_1.length < 2932031007402
              ·rw [if_pos c36] at H
               have LMc36 := Aside0.mk c36
               clear c36
               obtain ⟨y123, hy123⟩ : ∃ y_ : List (S86), y_ = (x6_1 ++ [(⟨x9_1, (⟨t115, t116, t117, t118, t119⟩ : S84)⟩ : S86)]) := ⟨_, rfl⟩
               replace H : (if x7_1.length < 17592186044416 then ((some (x7_1 ++ [wrap64 ((x8_1.length : Int) + 1)] : List Int)).bind fun y126 => (if x8_1.length < 17592186044416 then ((some (x8_1 ++ [wrap64 ((wrap64 (x9_1 + t119)) + t118)] : List Int)).bind fun y129 => (if t116 = true then (rosterref02_walk.l0 kj26 a0 y123 y126 y129 (wrap64 (x9_1 + t119))) else (rosterref02_walk.l0 kj26 a0 y123 y126 y129 (wrap64 ((wrap64 (x9_1 + t119)) + t118))))) else (none))) else (none)) = some (r1, r2, r3, r4) := by first | (rw [hy123]; with_reducible exact H) | (have H2_ := (Option.bind_some _ _).symm.trans H; rw [hy123]; with_reducible exact H2_) | (have H2_ := (Option.bind_some _ _).symm.trans H; with_reducible exact H2_) | with_reducible exact H | (rw [hy123]; exact H) | exact H
               have Ny123 := Aside0.mk hy123
               clear hy123
               by_cases c37 : x7_1.length < 17592186044416
               ·rw [if_pos c37] at H
                have LMc37 := Aside0.mk c37
                clear c37
                obtain ⟨y126, hy126⟩ : ∃ y_ : List Int, y_ = (x7_1 ++ [wrap64 ((x8_1.length : Int) + 1)]) := ⟨_, rfl⟩
                replace H : (if x8_1.length < 17592186044416 then ((some (x8_1 ++ [wrap64 ((wrap64 (x9_1 + t119)) + t118)] : List Int)).bind fun y129 => (if t116 = true then (rosterref02_walk.l0 kj26 a0 y123 y126 y129 (wrap64 (x9_1 + t119))) else (rosterref02_walk.l0 kj26 a0 y123 y126 y129 (wrap64 ((wrap64 (x9_1 + t119)) + t118))))) else (none)) = some (r1, r2, r3, r4) := by first | (rw [hy126]; with_reducible exact H) | (have H2_ := (Option.bind_some _ _).symm.trans H; rw [hy126]; with_reducible exact H2_) | (have H2_ := (Option.bind_some _ _).symm.trans H; with_reducible exact H2_) | with_reducible exact H | (rw [hy126]; exact H) | exact H
                have Ny126 := Aside0.mk hy126
                clear hy126
                by_cases c38 : x8_1.length < 17592186044416
                ·rw [if_pos c38] at H
                 have LMc38 := Aside0.mk c38
                 clear c38
                 obtain ⟨y129, hy129⟩ : ∃ y_ : List Int, y_ = (x8_1 ++ [wrap64 ((wrap64 (x9_1 + t119)) + t118)]) := ⟨_, rfl⟩
                 replace H : (if t116 = true then (rosterref02_walk.l0 kj26 a0 y123 y126 y129 (wrap64 (x9_1 + t119))) else (rosterref02_walk.l0 kj26 a0 y123 y126 y129 (wrap64 ((wrap64 (x9_1 + t119)) + t118)))) = some (r1, r2, r3, r4) := by first | (rw [hy129]; with_reducible exact H) | (have H2_ := (Option.bind_some _ _).symm.trans H; rw [hy129]; with_reducible exact H2_) | (have H2_ := (Option.bind_some _ _).symm.trans H; with_reducible exact H2_) | with_reducible exact H | (rw [hy129]; exact H) | exact H
                 have Ny129 := Aside0.mk hy129
                 clear hy129
                 by_cases c39 : t116 = true
                 ·subst c39
                  have H1 : (rosterref02_walk.l0 kj26 a0 y123 y126 y129 (wrap64 (x9_1 + t119))) = some (r1, r2, r3, r4) := by rw [if_pos rfl] at H; exact H
                  clear H
                  have H := H1
                  clear H1
                  have H' := Aside0.mk H
                  clear H
                  obtain ⟨hcz40_0, hcz40_1, hcz40_2, hcz40_3, hcz40_4⟩ := cells5_ BK122.out
                  obtain ⟨hfz40_0, hfz40_1, hfz40_2, hfz40_3, hfz40_4⟩ := frz5_ BK122.out
                  go_wp2_with (first | ((with_reducible refine gate_builtin (b := .append) (xs := #[.tmp 80, .tmp 84]) rfl ?_); (try (refine gate_guard q43_ ?_; dsimp only)); at_builtin; refine Kd.R_append k86 (w0 := w) w.heap.size rfl (.tmp 80) (.tmp 84) 80 86 (.agg #[(.int .i64 0), (.int .i64 0), (.bool false), (.int .i64 0), (.int .i64 0), (.int .i64 0)]) 48 rfl Tryd.underlying80 info86 rfl q19_ q2_ u6 x6_1 (⟨x9_1, (⟨t115, true, t117, t118, t119⟩ : S84)⟩ : S86) [.int .i64 x9_1, .int .i64 t115, .bool true, .int .i64 t117, .int .i64 t118, .int .i64 t119] (fun _ => True) (fun _ => False) rfl rfl ?aP (fun _ hk => hk.elim) ?aF ?aO ?aB ?aS ?aL ?_; (case aP => exact k86_mkM _ _ _ (⟨x9_1, (⟨t115, true, t117, t118, t119⟩ : S84)⟩ : S86)); (case aB => exact q16_); (case aF => exact (fun _ _ => trivial)); (case aO => exact q17_); (case aS => exact (below_size q16_)); (case aL => have := LMc36.out; omega); intro v124 w41 ho hb hg hat; rw [← Ny123.out] at ho; have n0_ := Aside0.mk (Kd.R_over' q21_ (Kd.R_typed q17_) q19_ hg); have n1_ := Aside0.mk (Kd.R_over' q31_ (Kd.R_typed q17_) q19_ hg); have n2_ := Aside0.mk (blk_grown (g := gb122) (o := .cells #[.int .i64 t115, .bool true, .int .i64 t117, .int .i64 t118, .int .i64 t119] 84 (0, 0)) q41_ hg (Kd.R_ne HO_6.out BK122.out q19_)); have n3_ := Aside0.mk (hb); have n4_ := Aside0.mk (ho); clear HO_7; clear HO_8; clear BK122; clear HB; clear HO_6; have HO_7 := n0_; have HO_8 := n1_; have BK122 := n2_; have HB := n3_; have HO125 := n4_; clear n0_ n1_ n2_ n3_ n4_; clear ho hb hg hat) | ((with_reducible refine gate_builtin (b := .append) (xs := #[.tmp 86, .tmp 90]) rfl ?_); (try (refine gate_guard q43_ ?_; dsimp only)); at_builtin; refine Kd.R_append (Kd.int .i64) (w0 := w) w.heap.size rfl (.tmp 86) (.tmp 90) 70 3 (.int .i64 0) 8 rfl Tryd.underlying70 info3 rfl q19_ q2_ u7 x7_1 (wrap64 ((x8_1.length : Int) + 1)) [.int .i64 (wrap64 ((x8_1.length : Int) + 1))] (fun k_ => some k_ ≠ (.slice Ao20 x8_1.length co20 : Value).ownBlock) (fun _ => False) rfl rfl ?aP (fun _ hk => hk.elim) ?aF ?aO ?aB ?aS ?aL ?_; (case aP => exact rfl); (case aB => exact q16_); (case aF => exact (fun k_ hk => Kd.fresh' (Kd.R_lt q31_) k_ hk)); (case aO => exact q21_); (case aS => exact (below_size q16_)); (case aL => have := LMc37.out; omega); intro v127 w42 ho hb hg hat; rw [← Ny126.out] at ho; have n0_ := Aside0.mk (Kd.R_after (ok := (fun _ => True)) (by (with_reducible repeat (first | apply Kd.R_alloc | apply Kd.R_drewN | apply Kd.R_drew)); exact Kd.R_mono HO_8.out (fun _ hk => ⟨trivial, by first | exact hk | exact own_any_ hk⟩)) hg hat); have n1_ := Aside0.mk (blk_grown (g := gb122) (o := .cells #[.int .i64 t115, .bool true, .int .i64 t117, .int .i64 t118, .int .i64 t119] 84 (0, 0)) q41_ hg (Kd.R_ne HO_7.out BK122.out q19_)); have n2_ := Aside0.mk (Kd.R_over' q56_ (Kd.R_typed q21_) q19_ hg); have n3_ := Aside0.mk (hb); have n4_ := Aside0.mk (ho); clear HO_8; clear BK122; clear HO125; clear HB; clear HO_7; have HO_8 := n0_; have BK122 := n1_; have HO125 := n2_; have HB := n3_; have HO128 := n4_; clear n0_ n1_ n2_ n3_ n4_; clear ho hb hg hat; obtain ⟨hcz43_0, hcz43_1, hcz43_2, hcz43_3, hcz43_4⟩ := cells5_ BK122.out; obtain ⟨hfz43_0, hfz43_1, hfz43_2, hfz43_3, hfz43_4⟩ := frz5_ BK122.out) | ((with_reducible refine gate_builtin (b := .append) (xs := #[.tmp 96, .tmp 101]) rfl ?_); (try (refine gate_guard q43_ ?_; dsimp only)); at_builtin; refine Kd.R_append (Kd.int .i64) (w0 := w) w.heap.size rfl (.tmp 96) (.tmp 101) 70 3 (.int .i64 0) 8 rfl Tryd.underlying70 info3 rfl q19_ q2_ (.slice Ao20 x8_1.length co20) x8_1 (wrap64 ((wrap64 (x9_1 + t119)) + t118)) [.int .i64 (wrap64 ((wrap64 (x9_1 + t119)) + t118))] (fun k_ => some k_ ≠ (v127 : Value).ownBlock) (fun _ => False) rfl rfl ?aP (fun _ hk => hk.elim) ?aF ?aO ?aB ?aS ?aL ?_; (case aP => exact rfl); (case aB => exact q16_); (case aF => exact (fun k_ hk => Kd.fresh' (Kd.R_lt (by (with_reducible repeat (first | apply Kd.R_alloc | apply Kd.R_drewN | apply Kd.R_drew)); exact HO128.out)) k_ hk)); (case aO => exact q78_); (case aS => exact (below_size q16_)); (case aL => have := LMc38.out; omega); intro v130 w44 ho hb hg hat; rw [← Ny129.out] at ho; have n0_ := Aside0.mk (blk_grown (g := gb122) (o := .cells #[.int .i64 t115, .bool true, .int .i64 t117, .int .i64 t118, .int .i64 t119] 84 (0, 0)) q41_ hg (Kd.R_ne HO_8.out BK122.out q19_)); have n1_ := Aside0.mk (Kd.R_over' q56_ (Kd.R_typed q31_) q19_ hg); have n2_ := Aside0.mk (Kd.R_after (ok := (fun _ => True)) (by (with_reducible repeat (first | apply Kd.R_alloc | apply Kd.R_drewN | apply Kd.R_drew)); exact Kd.R_mono HO128.out (fun _ hk => ⟨trivial, by first | exact hk | exact own_any_ hk⟩)) hg hat); have n3_ := Aside0.mk (hb); have n4_ := Aside0.mk (ho); clear BK122; clear HO125; clear HO128; clear HB; clear HO_8; have BK122 := n0_; have HO125 := n1_; have HO128 := n2_; have HB := n3_; have HO131 := n4_; clear n0_ n1_ n2_ n3_ n4_; clear ho hb hg hat; obtain ⟨hcz45_0, hcz45_1, hcz45_2, hcz45_3, hcz45_4⟩ := cells5_ BK122.out; obtain ⟨hfz45_0, hfz45_1, hfz45_2, hfz45_3, hfz45_4⟩ := frz5_ BK122.out))
                  go_roundg kj26
                  case measure => have := HK1.out; have := HJ1.out; have := HJ12.out; have := HJ18.out; have := HJ26.out; omega
                  case rel => exact ⟨(y123), (y126), (y129), (wrap64 (x9_1 + t119)), q3_, H', ⟨by have := HK1.out; have := HJ1.out; have := HJ12.out; have := HJ18.out; have := HJ26.out; omega⟩, ⟨q56_⟩, ⟨q77_⟩, ⟨by (with_reducible repeat (first | apply Kd.R_alloc | apply Kd.R_drewN | apply Kd.R_drew)); exact HO131.out⟩, ⟨q16_⟩⟩
                 ·replace c39 := Bool.eq_false_iff.mpr c39
                  subst c39
                  have H1 : (rosterref02_walk.l0 kj26 a0 y123 y126 y129 (wrap64 ((wrap64 (x9_1 + t119)) + t118))) = some (r1, r2, r3, r4) := by rw [if_neg (show ¬ (false = true) by decide)] at H; exact H
                  clear H
                  have H := H1
                  clear H1
                  have H' := Aside0.mk H
                  clear H
                  obtain ⟨hcz46_0, hcz46_1, hcz46_2, hcz46_3, hcz46_4⟩ := cells5_ BK122.out
                  obtain ⟨hfz46_0, hfz46_1, hfz46_2, hfz46_3, hfz46_4⟩ := frz5_ BK122.out
                  go_wp2_with (first | ((with_reducible refine gate_builtin (b := .append) (xs := #[.tmp 80, .tmp 84]) rfl ?_); (try (refine gate_guard q43_ ?_; dsimp only)); at_builtin; refine Kd.R_append k86 (w0 := w) w.heap.size rfl (.tmp 80) (.tmp 84) 80 86 (.agg #[(.int .i64 0), (.int .i64 0), (.bool false), (.int .i64 0), (.int .i64 0), (.int .i64 0)]) 48 rfl Tryd.underlying80 info86 rfl q19_ q2_ u6 x6_1 (⟨x9_1, (⟨t115, false, t117, t118, t119⟩ : S84)⟩ : S86) [.int .i64 x9_1, .int .i64 t115, .bool false, .int .i64 t117, .int .i64 t118, .int .i64 t119] (fun _ => True) (fun _ => False) rfl rfl ?aP (fun _ hk => hk.elim) ?aF ?aO ?aB ?aS ?aL ?_; (case aP => exact k86_mkM _ _ _ (⟨x9_1, (⟨t115, false, t117, t118, t119⟩ : S84)⟩ : S86)); (case aB => exact q16_); (case aF => exact (fun _ _ => trivial)); (case aO => exact q17_); (case aS => exact (below_size q16_)); (case aL => have := LMc36.out; omega); intro v124 w47 ho hb hg hat; rw [← Ny123.out] at ho; have n0_ := Aside0.mk (Kd.R_over' q21_ (Kd.R_typed q17_) q19_ hg); have n1_ := Aside0.mk (Kd.R_over' q31_ (Kd.R_typed q17_) q19_ hg); have n2_ := Aside0.mk (blk_grown (g := gb122) (o := .cells #[.int .i64 t115, .bool false, .int .i64 t117, .int .i64 t118, .int .i64 t119] 84 (0, 0)) q41_ hg (Kd.R_ne HO_6.out BK122.out q19_)); have n3_ := Aside0.mk (hb); have n4_ := Aside0.mk (ho); clear HO_7; clear HO_8; clear BK122; clear HB; clear HO_6; have HO_7 := n0_; have HO_8 := n1_; have BK122 := n2_; have HB := n3_; have HO125 := n4_; clear n0_ n1_ n2_ n3_ n4_; clear ho hb hg hat) | ((with_reducible refine gate_builtin (b := .append) (xs := #[.tmp 86, .tmp 90]) rfl ?_); (try (refine gate_guard q43_ ?_; dsimp only)); at_builtin; refine Kd.R_append (Kd.int .i64) (w0 := w) w.heap.size rfl (.tmp 86) (.tmp 90) 70 3 (.int .i64 0) 8 rfl Tryd.underlying70 info3 rfl q19_ q2_ u7 x7_1 (wrap64 ((x8_1.length : Int) + 1)) [.int .i64 (wrap64 ((x8_1.length : Int) + 1))] (fun k_ => some k_ ≠ (.slice Ao20 x8_1.length co20 : Value).ownBlock) (fun _ => False) rfl rfl ?aP (fun _ hk => hk.elim) ?aF ?aO ?aB ?aS ?aL ?_; (case aP => exact rfl); (case aB => exact q16_); (case aF => exact (fun k_ hk => Kd.fresh' (Kd.R_lt q31_) k_ hk)); (case aO => exact q21_); (case aS => exact (below_size q16_)); (case aL => have := LMc37.out; omega); intro v127 w48 ho hb hg hat; rw [← Ny126.out] at ho; have n0_ := Aside0.mk (Kd.R_after (ok := (fun _ => True)) (by (with_reducible repeat (first | apply Kd.R_alloc | apply Kd.R_drewN | apply Kd.R_drew)); exact Kd.R_mono HO_8.out (fun _ hk => ⟨trivial, by first | exact hk | exact own_any_ hk⟩)) hg hat); have n1_ := Aside0.mk (blk_grown (g := gb122) (o := .cells #[.int .i64 t115, .bool false, .int .i64 t117, .int .i64 t118, .int .i64 t119] 84 (0, 0)) q41_ hg (Kd.R_ne HO_7.out BK122.out q19_)); have n2_ := Aside0.mk (Kd.R_over' q56_ (Kd.R_typed q21_) q19_ hg); have n3_ := Aside0.mk (hb); have n4_ := Aside0.mk (ho); clear HO_8; clear BK122; clear HO125; clear HB; clear HO_7; have HO_8 := n0_; have BK122 := n1_; have HO125 := n2_; have HB := n3_; have HO128 := n4_; clear n0_ n1_ n2_ n3_ n4_; clear ho hb hg hat; obtain ⟨hcz49_0, hcz49_1, hcz49_2, hcz49_3, hcz49_4⟩ := cells5_ BK122.out; obtain ⟨hfz49_0, hfz49_1, hfz49_2, hfz49_3, hfz49_4⟩ := frz5_ BK122.out) | ((with_reducible refine gate_builtin (b := .append) (xs := #[.tmp 96, .tmp 101]) rfl ?_); (try (refine gate_guard q43_ ?_; dsimp only)); at_builtin; refine Kd.R_append (Kd.int .i64) (w0 := w) w.heap.size rfl (.tmp 96) (.tmp 101) 70 3 (.int .i64 0) 8 rfl Tryd.underlying70 info3 rfl q19_ q2_ (.slice Ao20 x8_1.length co20) x8_1 (wrap64 ((wrap64 (x9_1 + t119)) + t118)) [.int .i64 (wrap64 ((wrap64 (x9_1 + t119)) + t118))] (fun k_ => some k_ ≠ (v127 : Value).ownBlock) (fun _ => False) rfl rfl ?aP (fun _ hk => hk.elim) ?aF ?aO ?aB ?aS ?aL ?_; (case aP => exact rfl); (case aB => exact q16_); (case aF => exact (fun k_ hk => Kd.fresh' (Kd.R_lt (by (with_reducible repeat (first | apply Kd.R_alloc | apply Kd.R_drewN | apply Kd.R_drew)); exact HO128.out)) k_ hk)); (case aO => exact q78_); (case aS => exact (below_size q16_)); (case aL => have := LMc38.out; omega); intro v130 w50 ho hb hg hat; rw [← Ny129.out] at ho; have n0_ := Aside0.mk (blk_grown (g := gb122) (o := .cells #[.int .i64 t115, .bool false, .int .i64 t117, .int .i64 t118, .int .i64 t119] 84 (0, 0)) q41_ hg (Kd.R_ne HO_8.out BK122.out q19_)); have n1_ := Aside0.mk (Kd.R_over' q56_ (Kd.R_typed q31_) q19_ hg); have n2_ := Aside0.mk (Kd.R_after (ok := (fun _ => True)) (by (with_reducible repeat (first | apply Kd.R_alloc | apply Kd.R_drewN | apply Kd.R_drew)); exact Kd.R_mono HO128.out (fun _ hk => ⟨trivial, by first | exact hk | exact own_any_ hk⟩)) hg hat); have n3_ := Aside0.mk (hb); have n4_ := Aside0.mk (ho); clear BK122; clear HO125; clear HO128; clear HB; clear HO_8; have BK122 := n0_; have HO125 := n1_; have HO128 := n2_; have HB := n3_; have HO131 := n4_; clear n0_ n1_ n2_ n3_ n4_; clear ho hb hg hat; obtain ⟨hcz51_0, hcz51_1, hcz51_2, hcz51_3, hcz51_4⟩ := cells5_ BK122.out; obtain ⟨hfz51_0, hfz51_1, hfz51_2, hfz51_3, hfz51_4⟩ := frz5_ BK122.out))
                  go_roundg kj26
                  case measure => have := HK1.out; have := HJ1.out; have := HJ12.out; have := HJ18.out; have := HJ26.out; omega
                  case rel => exact ⟨(y123), (y126), (y129), (wrap64 ((wrap64 (x9_1 + t119)) + t118)), q3_, H', ⟨by have := HK1.out; have := HJ1.out; have := HJ12.out; have := HJ18.out; have := HJ26.out; omega⟩, ⟨q56_⟩, ⟨q77_⟩, ⟨by (with_reducible repeat (first | apply Kd.R_alloc | apply Kd.R_drewN | apply Kd.R_drew)); exact HO131.out⟩, ⟨q16_⟩⟩
                ·rw [if_neg c38] at H
                 exact absurd H q28_
               ·rw [if_neg c37] at H
                exact absurd H q28_
              ·rw [if_neg c36] at H
               exact absurd H q28_
             ·rw [if_neg c35] at H
              have c35b0 : (x12_26 == 0) = false := beq_eq_false_iff_ne.mpr c35
              have c35b1 : (x12_26 != 0) = true := bne_iff_ne.mpr c35
              simp only [Option.some.injEq, Prod.mk.injEq] at H
              obtain ⟨rfl, rfl, rfl, rfl⟩ := H
              go_wp2
              refine bodyPost_ret (results_list (rs := [.tmp 2, .tmp 3, .tmp 4, .tmp 5]) rfl q28_ (.tmp (.tmp (.tmp (.tmp .nil))))) rfl ?_
              exact ⟨_, _, q4_, q17_, q69_, q16_⟩
end Go.Proofs.YtogjljpncdmlkaaDoor.GR
end
