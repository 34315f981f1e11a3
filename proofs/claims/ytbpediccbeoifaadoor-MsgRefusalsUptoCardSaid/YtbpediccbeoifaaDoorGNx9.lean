-- Written for this claim by a program of this session (wip/tools/p2.py).
import Derived.Test.YtbpediccbeoifaaDoorGNx0
import Derived.Test.YtbpediccbeoifaaDoorGNx2
import Derived.Test.YtbpediccbeoifaaDoorGNx4
namespace Go.Proofs.YtbpediccbeoifaaDoor.GN
open Go.RowKit Go.Proofs.YtbpediccbeoifaaDoorW.PrintWords Go.Proofs.YtbpediccbeoifaaDoorW.PrintLast Go.Proofs.YtbpediccbeoifaaDoorW.PrintMore
attribute [local go_sem] max2_int min2_int max_two min_two max_three min_three max_four min_four   -- for this text's walks alone
set_option linter.unusedVariables false
set_option linter.unusedSimpArgs false

attribute [local go_sem high] eqA40
/-! ### rosterref13_SameReply: function 7 -/
def rosterref13_SameReply.j0 : Nat → Bool → Int → Int → Int → ByteArray → ByteArray → ByteArray → List (S75) → ByteArray → Bool → List (S52) → Int → Int → Int → ByteArray → ByteArray → ByteArray → List (S75) → ByteArray → Bool → List (S52) → Option (Bool)
 | 0, _, _, _, _, _, _, _, _, _, _, _, _, _, _, _, _, _, _, _, _, _ => none
 | k + 1, x44, x135000, x135001, x135002, x135003, x135004, x135005, x135006, x135007, x135008, x135009, x136000, x136001, x136002, x136003, x136004, x136005, x136006, x136007, x136008, x136009 => if x44 = true then (some false) else ((rosterref13_sameAttrs.f k x135006 x136006).bind fun t136 => (if t136 = true then ((rosterref13_sameControls.f k x135009 x136009).bind fun t137 => (some t137)) else (some false)))
def rosterref13_SameReply.f (k : Nat) (a0_0 : Int) (a0_1 : Int) (a0_2 : Int) (a0_3 : ByteArray) (a0_4 : ByteArray) (a0_5 : ByteArray) (l0_6 : List (S75)) (a0_7 : ByteArray) (a0_8 : Bool) (l0_9 : List (S52)) (a1_0 : Int) (a1_1 : Int) (a1_2 : Int) (a1_3 : ByteArray) (a1_4 : ByteArray) (a1_5 : ByteArray) (l1_6 : List (S75)) (a1_7 : ByteArray) (a1_8 : Bool) (l1_9 : List (S52)) : Option (Bool) := if a0_0 = a1_0 then (if a0_1 = a1_1 then (if (!(a0_2 == a1_2) || (!(a0_3.toList == a1_3.toList) || (!(a0_4.toList == a1_4.toList)))) = true then (rosterref13_SameReply.j0 k true a0_0 a0_1 a0_2 a0_3 a0_4 a0_5 l0_6 a0_7 a0_8 l0_9 a1_0 a1_1 a1_2 a1_3 a1_4 a1_5 l1_6 a1_7 a1_8 l1_9) else (if a0_5.toList = a1_5.toList then (if a0_7.toList = a1_7.toList then (rosterref13_SameReply.j0 k (a0_8 != a1_8) a0_0 a0_1 a0_2 a0_3 a0_4 a0_5 l0_6 a0_7 a0_8 l0_9 a1_0 a1_1 a1_2 a1_3 a1_4 a1_5 l1_6 a1_7 a1_8 l1_9) else (rosterref13_SameReply.j0 k true a0_0 a0_1 a0_2 a0_3 a0_4 a0_5 l0_6 a0_7 a0_8 l0_9 a1_0 a1_1 a1_2 a1_3 a1_4 a1_5 l1_6 a1_7 a1_8 l1_9)) else (rosterref13_SameReply.j0 k true a0_0 a0_1 a0_2 a0_3 a0_4 a0_5 l0_6 a0_7 a0_8 l0_9 a1_0 a1_1 a1_2 a1_3 a1_4 a1_5 l1_6 a1_7 a1_8 l1_9))) else (rosterref13_SameReply.j0 k true a0_0 a0_1 a0_2 a0_3 a0_4 a0_5 l0_6 a0_7 a0_8 l0_9 a1_0 a1_1 a1_2 a1_3 a1_4 a1_5 l1_6 a1_7 a1_8 l1_9)) else (rosterref13_SameReply.j0 k true a0_0 a0_1 a0_2 a0_3 a0_4 a0_5 l0_6 a0_7 a0_8 l0_9 a1_0 a1_1 a1_2 a1_3 a1_4 a1_5 l1_6 a1_7 a1_8 l1_9)
theorem rosterref13_SameReply.mono_l : ∀ k, (∀ y0 y1 y2 y3 y4 y5 y6 y7 y8 y9 y10 y11 y12 y13 y14 y15 y16 y17 y18 y19 y20, LeO (rosterref13_SameReply.j0 k y0 y1 y2 y3 y4 y5 y6 y7 y8 y9 y10 y11 y12 y13 y14 y15 y16 y17 y18 y19 y20) (rosterref13_SameReply.j0 (k + 1) y0 y1 y2 y3 y4 y5 y6 y7 y8 y9 y10 y11 y12 y13 y14 y15 y16 y17 y18 y19 y20))
 | 0 => fun _ _ _ _ _ _ _ _ _ _ _ _ _ _ _ _ _ _ _ _ _ r h => by simp [rosterref13_SameReply.j0] at h
 | k + 1 => by
  have ih0 := rosterref13_SameReply.mono_l k
  ·intro y0 y1 y2 y3 y4 y5 y6 y7 y8 y9 y10 y11 y12 y13 y14 y15 y16 y17 y18 y19 y20
   unfold rosterref13_SameReply.j0
   repeat' first
   | (with_reducible exact ih0 _ _ _ _ _ _ _ _ _ _ _ _ _ _ _ _ _ _ _ _ _)
   | (with_reducible exact rosterref13_sameAttrs.mono _ _ _)
   | (with_reducible exact rosterref13_sameControls.mono _ _ _)
   | (with_reducible exact LeO.refl _)
   | (with_reducible exact LeO.none _)
   | (with_reducible refine LeO.ite ?_ ?_)
   | (with_reducible refine LeO.bind ?_ (fun _ => ?_))
   | exact ih0 _ _ _ _ _ _ _ _ _ _ _ _ _ _ _ _ _ _ _ _ _
   | exact rosterref13_sameAttrs.mono _ _ _
   | exact rosterref13_sameControls.mono _ _ _
   | exact LeO.none _
   | refine LeO.ite ?_ ?_
   | refine LeO.bind ?_ (fun _ => ?_)
theorem rosterref13_SameReply.mono : ∀ a0 a1 a2 a3 a4 a5 a6 a7 a8 a9 a10 a11 a12 a13 a14 a15 a16 a17 a18 a19 k, LeO (rosterref13_SameReply.f k a0 a1 a2 a3 a4 a5 a6 a7 a8 a9 a10 a11 a12 a13 a14 a15 a16 a17 a18 a19) (rosterref13_SameReply.f (k + 1) a0 a1 a2 a3 a4 a5 a6 a7 a8 a9 a10 a11 a12 a13 a14 a15 a16 a17 a18 a19) := by
 intro a0 a1 a2 a3 a4 a5 a6 a7 a8 a9 a10 a11 a12 a13 a14 a15 a16 a17 a18 a19 k
 have ih0 := rosterref13_SameReply.mono_l k
 unfold rosterref13_SameReply.f
 repeat' first
   | (with_reducible exact ih0 _ _ _ _ _ _ _ _ _ _ _ _ _ _ _ _ _ _ _ _ _)
   | (with_reducible exact rosterref13_sameAttrs.mono _ _ _)
   | (with_reducible exact rosterref13_sameControls.mono _ _ _)
   | (with_reducible exact LeO.refl _)
   | (with_reducible exact LeO.none _)
   | (with_reducible refine LeO.ite ?_ ?_)
   | (with_reducible refine LeO.bind ?_ (fun _ => ?_))
   | exact ih0 _ _ _ _ _ _ _ _ _ _ _ _ _ _ _ _ _ _ _ _ _
   | exact rosterref13_sameAttrs.mono _ _ _
   | exact rosterref13_sameControls.mono _ _ _
   | exact LeO.none _
   | refine LeO.ite ?_ ?_
   | refine LeO.bind ?_ (fun _ => ?_)
set_option maxHeartbeats 8000000 in
set_option maxRecDepth 100000 in
theorem rosterref13_SameReply.calls (k : Nat) (a0_0 : Int) (a0_1 : Int) (a0_2 : Int) (a0_3 : ByteArray) (a0_4 : ByteArray) (a0_5 : ByteArray) (A0_6 : Option Addr) (c0_6 : Nat) (l0_6 : List (S75)) (a0_7 : ByteArray) (a0_8 : Bool) (A0_9 : Option Addr) (c0_9 : Nat) (l0_9 : List (S52)) (a1_0 : Int) (a1_1 : Int) (a1_2 : Int) (a1_3 : ByteArray) (a1_4 : ByteArray) (a1_5 : ByteArray) (A1_6 : Option Addr) (c1_6 : Nat) (l1_6 : List (S75)) (a1_7 : ByteArray) (a1_8 : Bool) (A1_9 : Option Addr) (c1_9 : Nat) (l1_9 : List (S52)) (r : Bool) (w : World) (hr0_6 : Kd.C k75 w A0_6 l0_6.length l0_6) (hc0_6 : l0_6.length ≤ c0_6) (hr0_9 : Kd.C k52 w A0_9 l0_9.length l0_9) (hc0_9 : l0_9.length ≤ c0_9) (hr1_6 : Kd.C k75 w A1_6 l1_6.length l1_6) (hc1_6 : l1_6.length ≤ c1_6) (hr1_9 : Kd.C k52 w A1_9 l1_9.length l1_9) (hc1_9 : l1_9.length ≤ c1_9) (h : rosterref13_SameReply.f k a0_0 a0_1 a0_2 a0_3 a0_4 a0_5 l0_6 a0_7 a0_8 l0_9 a1_0 a1_1 a1_2 a1_3 a1_4 a1_5 l1_6 a1_7 a1_8 l1_9 = some r) :
  Calls Tryd.prog 7 #[.agg #[.int .i64 a0_0, .int .i64 a0_1, .int .i64 a0_2, .string a0_3, .string a0_4, .string a0_5, .slice A0_6 l0_6.length c0_6, .string a0_7, .bool a0_8, .slice A0_9 l0_9.length c0_9], .agg #[.int .i64 a1_0, .int .i64 a1_1, .int .i64 a1_2, .string a1_3, .string a1_4, .string a1_5, .slice A1_6 l1_6.length c1_6, .string a1_7, .bool a1_8, .slice A1_9 l1_9.length c1_9]] w fun e w' => e = .returned (.bool r) ∧ Below w.heap.size w w' := by
 have hu42 := Tryd.underlying42
 have hu40 := Tryd.underlying40
 have HR0_6 := Aside0.mk hr0_6
 have HC0_6 := Aside0.mk hc0_6
 clear hr0_6 hc0_6
 have HR0_9 := Aside0.mk hr0_9
 have HC0_9 := Aside0.mk hc0_9
 clear hr0_9 hc0_9
 have HR1_6 := Aside0.mk hr1_6
 have HC1_6 := Aside0.mk hc1_6
 clear hr1_6 hc1_6
 have HR1_9 := Aside0.mk hr1_9
 have HC1_9 := Aside0.mk hc1_9
 clear hr1_9 hc1_9
 have HB := Aside0.mk (Below.refl w.heap.size w)
 have H : (if a0_0 = a1_0 then (if a0_1 = a1_1 then (if (!(a0_2 == a1_2) || (!(a0_3.toList == a1_3.toList) || (!(a0_4.toList == a1_4.toList)))) = true then (rosterref13_SameReply.j0 k true a0_0 a0_1 a0_2 a0_3 a0_4 a0_5 l0_6 a0_7 a0_8 l0_9 a1_0 a1_1 a1_2 a1_3 a1_4 a1_5 l1_6 a1_7 a1_8 l1_9) else (if a0_5.toList = a1_5.toList then (if a0_7.toList = a1_7.toList then (rosterref13_SameReply.j0 k (a0_8 != a1_8) a0_0 a0_1 a0_2 a0_3 a0_4 a0_5 l0_6 a0_7 a0_8 l0_9 a1_0 a1_1 a1_2 a1_3 a1_4 a1_5 l1_6 a1_7 a1_8 l1_9) else (rosterref13_SameReply.j0 k true a0_0 a0_1 a0_2 a0_3 a0_4 a0_5 l0_6 a0_7 a0_8 l0_9 a1_0 a1_1 a1_2 a1_3 a1_4 a1_5 l1_6 a1_7 a1_8 l1_9)) else (rosterref13_SameReply.j0 k true a0_0 a0_1 a0_2 a0_3 a0_4 a0_5 l0_6 a0_7 a0_8 l0_9 a1_0 a1_1 a1_2 a1_3 a1_4 a1_5 l1_6 a1_7 a1_8 l1_9))) else (rosterref13_SameReply.j0 k true a0_0 a0_1 a0_2 a0_3 a0_4 a0_5 l0_6 a0_7 a0_8 l0_9 a1_0 a1_1 a1_2 a1_3 a1_4 a1_5 l1_6 a1_7 a1_8 l1_9)) else (rosterref13_SameReply.j0 k true a0_0 a0_1 a0_2 a0_3 a0_4 a0_5 l0_6 a0_7 a0_8 l0_9 a1_0 a1_1 a1_2 a1_3 a1_4 a1_5 l1_6 a1_7 a1_8 l1_9)) = some r := h
 clear h
 have HC3 := Aside0.mk H
 clear H
 go_enter Tryd.func7, Tryd.ntmps7
 go_upto_region 1 with (first | ((with_reducible refine gate_dst (N := 2) rfl ?_); refine box_event ?hg (N := 2) ?hd (cs := #[.int .i64 a0_0, .int .i64 a0_1, .int .i64 a0_2, .string a0_3, .string a0_4, .string a0_5, .slice A0_6 l0_6.length c0_6, .string a0_7, .bool a0_8, .slice A0_9 l0_9.length c0_9]) (t := 42) ?hr ?_; (case hd => rfl); (case hg => rfl); (case hr => first | (go_simp; done) | (go_simp; rfl)); intro gb134 hg w4 hbox hb; have n0_ := Aside0.mk (below_step (by repeat (first | (with_reducible first | exact HB.out | apply below_alloc | apply pw_below_drewN | apply below_drew1) | exact HB.out)) hb); have n1_ := Aside0.mk (hbox); have n2_ := Aside0.mk ((by rw [hg]; exact (below_size (by repeat (first | (with_reducible first | exact HB.out | apply below_alloc | apply pw_below_drewN | apply below_drew1) | exact HB.out))) : w.heap.size ≤ gb134)); have n3_ := Aside0.mk ((by rw [hg]; exact (below_size (by repeat (first | (with_reducible first | exact HB.out | apply below_alloc | apply pw_below_drewN | apply below_drew1) | exact HB.out))) : w.heap.size ≤ gb134)); clear HB; have HB := n0_; have BK134 := n1_; have GW134 := n2_; have GE134 := n3_; clear n0_ n1_ n2_ n3_; clear hb hbox hg) | ((with_reducible refine gate_dst (N := 3) rfl ?_); refine box_event ?hg (N := 3) ?hd (cs := #[.int .i64 a1_0, .int .i64 a1_1, .int .i64 a1_2, .string a1_3, .string a1_4, .string a1_5, .slice A1_6 l1_6.length c1_6, .string a1_7, .bool a1_8, .slice A1_9 l1_9.length c1_9]) (t := 42) ?hr ?_; (case hd => rfl); (case hg => rfl); (case hr => first | (go_simp; done) | (go_simp; rfl)); intro gb135 hg w5 hbox hb; have n0_ := Aside0.mk (blk_below (g := gb134) (o := .cells #[.int .i64 a0_0, .int .i64 a0_1, .int .i64 a0_2, .string a0_3, .string a0_4, .string a0_5, .slice A0_6 l0_6.length c0_6, .string a0_7, .bool a0_8, .slice A0_9 l0_9.length c0_9] 42 (0, 0)) (by (with_reducible repeat (first | refine blk_drewN ?_ _ | refine blk_drew ?_ | refine blk_alloc ?_ _)); exact BK134.out) hb); have n1_ := Aside0.mk (below_step (by repeat (first | (with_reducible first | exact HB.out | apply below_alloc | apply pw_below_drewN | apply below_drew1 | refine below_set ?_ GE134.out) | exact HB.out)) hb); have n2_ := Aside0.mk (hbox); have n3_ := Aside0.mk ((by rw [hg]; exact (below_size (by repeat (first | (with_reducible first | exact HB.out | apply below_alloc | apply pw_below_drewN | apply below_drew1 | refine below_set ?_ GE134.out) | exact HB.out))) : w.heap.size ≤ gb135)); have n4_ := Aside0.mk ((by rw [hg]; exact (below_size (by repeat (first | (with_reducible first | exact HB.out | apply below_alloc | apply pw_below_drewN | apply below_drew1 | refine below_set ?_ GE134.out) | exact HB.out))) : w.heap.size ≤ gb135)); have n5_ := Aside0.mk ((by rw [hg]; exact Nat.ne_of_lt (blk_lt (g := gb134) (o := .cells #[.int .i64 a0_0, .int .i64 a0_1, .int .i64 a0_2, .string a0_3, .string a0_4, .string a0_5, .slice A0_6 l0_6.length c0_6, .string a0_7, .bool a0_8, .slice A0_9 l0_9.length c0_9] 42 (0, 0)) (by (with_reducible repeat (first | refine blk_drewN ?_ _ | refine blk_drew ?_ | refine blk_alloc ?_ _)); exact BK134.out)) : gb134 ≠ gb135)); have n6_ := Aside0.mk ((by rw [hg]; exact Nat.ne_of_gt (blk_lt (g := gb134) (o := .cells #[.int .i64 a0_0, .int .i64 a0_1, .int .i64 a0_2, .string a0_3, .string a0_4, .string a0_5, .slice A0_6 l0_6.length c0_6, .string a0_7, .bool a0_8, .slice A0_9 l0_9.length c0_9] 42 (0, 0)) (by (with_reducible repeat (first | refine blk_drewN ?_ _ | refine blk_drew ?_ | refine blk_alloc ?_ _)); exact BK134.out)) : gb135 ≠ gb134)); clear BK134; clear HB; have BK134 := n0_; have HB := n1_; have BK135 := n2_; have GW135 := n3_; have GE135 := n4_; have NB134_135 := n5_; have NB135_134 := n6_; clear n0_ n1_ n2_ n3_ n4_ n5_ n6_; clear hb hbox hg))
 (try simp only [Act.put, List.setIfInBounds_toArray, List.set_cons_zero, List.set_cons_succ])
 go_cut [44] (fun v44 wc => ∃ (kq : Nat) (x44_2 : Bool), v44 = .bool x44_2 ∧ Aside0 (rosterref13_SameReply.j0 kq x44_2 a0_0 a0_1 a0_2 a0_3 a0_4 a0_5 l0_6 a0_7 a0_8 l0_9 a1_0 a1_1 a1_2 a1_3 a1_4 a1_5 l1_6 a1_7 a1_8 l1_9 = some r) ∧ Aside0 (kq ≤ k) ∧ Aside0 (wc.heap[gb134]? = some (.cells #[.int .i64 a0_0, .int .i64 a0_1, .int .i64 a0_2, .string a0_3, .string a0_4, .string a0_5, (.slice A0_6 l0_6.length c0_6), .string a0_7, .bool a0_8, (.slice A0_9 l0_9.length c0_9)] 42 (0, 0))) ∧ Aside0 (wc.heap[gb135]? = some (.cells #[.int .i64 a1_0, .int .i64 a1_1, .int .i64 a1_2, .string a1_3, .string a1_4, .string a1_5, (.slice A1_6 l1_6.length c1_6), .string a1_7, .bool a1_8, (.slice A1_9 l1_9.length c1_9)] 42 (0, 0))) ∧ Aside0 (Below w.heap.size w wc))
 case first =>
  have H := HC3.out
  clear HC3
  by_cases c6 : a0_0 = a1_0
  ·rw [if_pos c6] at H
   have c6b0 : (a0_0 == a1_0) = true := beq_iff_eq.mpr c6
   have c6b1 : (a0_0 != a1_0) = false := bne_eq_false_iff_eq.mpr c6
   clear c6
   (first | rw [c6b0] | (simp only [i64_w, i32_w]; rw [c6b0]) | skip)
   by_cases c7 : a0_1 = a1_1
   ·rw [if_pos c7] at H
    have c7b0 : (a0_1 == a1_1) = true := beq_iff_eq.mpr c7
    have c7b1 : (a0_1 != a1_1) = false := bne_eq_false_iff_eq.mpr c7
    clear c7
    by_cases c8 : (!(a0_2 == a1_2) || (!(a0_3.toList == a1_3.toList) || (!(a0_4.toList == a1_4.toList)))) = true
    ·rw [if_pos c8] at H
     have c8b0 : (!(a0_2 == a1_2) || (!(a0_3.toList == a1_3.toList) || (!(a0_4.toList == a1_4.toList)))) = true := c8
     clear c8
     have H' := Aside0.mk H
     clear H
     have hnb9 := NB134_135.out
     have hnc9 := NB135_134.out
     have hcz10_0 : w5.cell? ⟨gb134, 0, none⟩ = some (.int .i64 a0_0) := (blk_cell BK134.out 0).trans rfl
     have hcz10_1 : w5.cell? ⟨gb134, 1, none⟩ = some (.int .i64 a0_1) := (blk_cell BK134.out 1).trans rfl
     have hcz10_2 : w5.cell? ⟨gb134, 2, none⟩ = some (.int .i64 a0_2) := (blk_cell BK134.out 2).trans rfl
     have hcz10_3 : w5.cell? ⟨gb134, 3, none⟩ = some (.string a0_3) := (blk_cell BK134.out 3).trans rfl
     have hcz10_4 : w5.cell? ⟨gb134, 4, none⟩ = some (.string a0_4) := (blk_cell BK134.out 4).trans rfl
     have hcz10_5 : w5.cell? ⟨gb134, 5, none⟩ = some (.string a0_5) := (blk_cell BK134.out 5).trans rfl
     have hcz10_6 : w5.cell? ⟨gb134, 6, none⟩ = some (.slice A0_6 l0_6.length c0_6) := (blk_cell BK134.out 6).trans rfl
     have hcz10_7 : w5.cell? ⟨gb134, 7, none⟩ = some (.string a0_7) := (blk_cell BK134.out 7).trans rfl
     have hcz10_8 : w5.cell? ⟨gb134, 8, none⟩ = some (.bool a0_8) := (blk_cell BK134.out 8).trans rfl
     have hcz10_9 : w5.cell? ⟨gb134, 9, none⟩ = some (.slice A0_9 l0_9.length c0_9) := (blk_cell BK134.out 9).trans rfl
     have hfz10_0 := blk_frozen BK134.out 0
     have hfz10_1 := blk_frozen BK134.out 1
     have hfz10_2 := blk_frozen BK134.out 2
     have hfz10_3 := blk_frozen BK134.out 3
     have hfz10_4 := blk_frozen BK134.out 4
     have hfz10_5 := blk_frozen BK134.out 5
     have hfz10_6 := blk_frozen BK134.out 6
     have hfz10_7 := blk_frozen BK134.out 7
     have hfz10_8 := blk_frozen BK134.out 8
     have hfz10_9 := blk_frozen BK134.out 9
     have hcz11_0 : w5.cell? ⟨gb135, 0, none⟩ = some (.int .i64 a1_0) := (blk_cell BK135.out 0).trans rfl
     have hcz11_1 : w5.cell? ⟨gb135, 1, none⟩ = some (.int .i64 a1_1) := (blk_cell BK135.out 1).trans rfl
     have hcz11_2 : w5.cell? ⟨gb135, 2, none⟩ = some (.int .i64 a1_2) := (blk_cell BK135.out 2).trans rfl
     have hcz11_3 : w5.cell? ⟨gb135, 3, none⟩ = some (.string a1_3) := (blk_cell BK135.out 3).trans rfl
     have hcz11_4 : w5.cell? ⟨gb135, 4, none⟩ = some (.string a1_4) := (blk_cell BK135.out 4).trans rfl
     have hcz11_5 : w5.cell? ⟨gb135, 5, none⟩ = some (.string a1_5) := (blk_cell BK135.out 5).trans rfl
     have hcz11_6 : w5.cell? ⟨gb135, 6, none⟩ = some (.slice A1_6 l1_6.length c1_6) := (blk_cell BK135.out 6).trans rfl
     have hcz11_7 : w5.cell? ⟨gb135, 7, none⟩ = some (.string a1_7) := (blk_cell BK135.out 7).trans rfl
     have hcz11_8 : w5.cell? ⟨gb135, 8, none⟩ = some (.bool a1_8) := (blk_cell BK135.out 8).trans rfl
     have hcz11_9 : w5.cell? ⟨gb135, 9, none⟩ = some (.slice A1_9 l1_9.length c1_9) := (blk_cell BK135.out 9).trans rfl
     have hfz11_0 := blk_frozen BK135.out 0
     have hfz11_1 := blk_frozen BK135.out 1
     have hfz11_2 := blk_frozen BK135.out 2
     have hfz11_3 := blk_frozen BK135.out 3
     have hfz11_4 := blk_frozen BK135.out 4
     have hfz11_5 := blk_frozen BK135.out 5
     have hfz11_6 := blk_frozen BK135.out 6
     have hfz11_7 := blk_frozen BK135.out 7
     have hfz11_8 := blk_frozen BK135.out 8
     have hfz11_9 := blk_frozen BK135.out 9
     go_wp2
     go_meet
     case rel => exact ⟨_, (true), (by first | rfl | (simp; done) | (simp [*]; done) | (simp [isEmpty_ne_]; done)), H', ⟨by first | omega | exact Nat.le_refl _⟩, ⟨by (with_reducible repeat (first | refine blk_drewN ?_ _ | refine blk_drew ?_ | refine blk_alloc ?_ _)); exact BK134.out⟩, ⟨by (with_reducible repeat (first | refine blk_drewN ?_ _ | refine blk_drew ?_ | refine blk_alloc ?_ _)); exact BK135.out⟩, ⟨by repeat (first | (with_reducible first | exact HB.out | apply below_alloc | apply pw_below_drewN | apply below_drew1 | refine below_set ?_ GE134.out | refine below_set ?_ GE135.out) | exact HB.out)⟩⟩
    ·rw [if_neg c8] at H
     have c8b0 : (!(a0_2 == a1_2) || (!(a0_3.toList == a1_3.toList) || (!(a0_4.toList == a1_4.toList)))) = false := by simpa using c8
     clear c8
     by_cases c12 : a0_5.toList = a1_5.toList
     ·rw [if_pos c12] at H
      have c12b0 : (a0_5.toList == a1_5.toList) = true := beq_iff_eq.mpr c12
      have c12b1 : (a0_5.toList != a1_5.toList) = false := bne_eq_false_iff_eq.mpr c12
      clear c12
      by_cases c13 : a0_7.toList = a1_7.toList
      ·rw [if_pos c13] at H
       have c13b0 : (a0_7.toList == a1_7.toList) = true := beq_iff_eq.mpr c13
       have c13b1 : (a0_7.toList != a1_7.toList) = false := bne_eq_false_iff_eq.mpr c13
       clear c13
       have H' := Aside0.mk H
       clear H
       have hnb14 := NB134_135.out
       have hnc14 := NB135_134.out
       have hcz15_0 : w5.cell? ⟨gb134, 0, none⟩ = some (.int .i64 a0_0) := (blk_cell BK134.out 0).trans rfl
       have hcz15_1 : w5.cell? ⟨gb134, 1, none⟩ = some (.int .i64 a0_1) := (blk_cell BK134.out 1).trans rfl
       have hcz15_2 : w5.cell? ⟨gb134, 2, none⟩ = some (.int .i64 a0_2) := (blk_cell BK134.out 2).trans rfl
       have hcz15_3 : w5.cell? ⟨gb134, 3, none⟩ = some (.string a0_3) := (blk_cell BK134.out 3).trans rfl
       have hcz15_4 : w5.cell? ⟨gb134, 4, none⟩ = some (.string a0_4) := (blk_cell BK134.out 4).trans rfl
       have hcz15_5 : w5.cell? ⟨gb134, 5, none⟩ = some (.string a0_5) := (blk_cell BK134.out 5).trans rfl
       have hcz15_6 : w5.cell? ⟨gb134, 6, none⟩ = some (.slice A0_6 l0_6.length c0_6) := (blk_cell BK134.out 6).trans rfl
       have hcz15_7 : w5.cell? ⟨gb134, 7, none⟩ = some (.string a0_7) := (blk_cell BK134.out 7).trans rfl
       have hcz15_8 : w5.cell? ⟨gb134, 8, none⟩ = some (.bool a0_8) := (blk_cell BK134.out 8).trans rfl
       have hcz15_9 : w5.cell? ⟨gb134, 9, none⟩ = some (.slice A0_9 l0_9.length c0_9) := (blk_cell BK134.out 9).trans rfl
       have hfz15_0 := blk_frozen BK134.out 0
       have hfz15_1 := blk_frozen BK134.out 1
       have hfz15_2 := blk_frozen BK134.out 2
       have hfz15_3 := blk_frozen BK134.out 3
       have hfz15_4 := blk_frozen BK134.out 4
       have hfz15_5 := blk_frozen BK134.out 5
       have hfz15_6 := blk_frozen BK134.out 6
       have hfz15_7 := blk_frozen BK134.out 7
       have hfz15_8 := blk_frozen BK134.out 8
       have hfz15_9 := blk_frozen BK134.out 9
       have hcz16_0 : w5.cell? ⟨gb135, 0, none⟩ = some (.int .i64 a1_0) := (blk_cell BK135.out 0).trans rfl
       have hcz16_1 : w5.cell? ⟨gb135, 1, none⟩ = some (.int .i64 a1_1) := (blk_cell BK135.out 1).trans rfl
       have hcz16_2 : w5.cell? ⟨gb135, 2, none⟩ = some (.int .i64 a1_2) := (blk_cell BK135.out 2).trans rfl
       have hcz16_3 : w5.cell? ⟨gb135, 3, none⟩ = some (.string a1_3) := (blk_cell BK135.out 3).trans rfl
       have hcz16_4 : w5.cell? ⟨gb135, 4, none⟩ = some (.string a1_4) := (blk_cell BK135.out 4).trans rfl
       have hcz16_5 : w5.cell? ⟨gb135, 5, none⟩ = some (.string a1_5) := (blk_cell BK135.out 5).trans rfl
       have hcz16_6 : w5.cell? ⟨gb135, 6, none⟩ = some (.slice A1_6 l1_6.length c1_6) := (blk_cell BK135.out 6).trans rfl
       have hcz16_7 : w5.cell? ⟨gb135, 7, none⟩ = some (.string a1_7) := (blk_cell BK135.out 7).trans rfl
       have hcz16_8 : w5.cell? ⟨gb135, 8, none⟩ = some (.bool a1_8) := (blk_cell BK135.out 8).trans rfl
       have hcz16_9 : w5.cell? ⟨gb135, 9, none⟩ = some (.slice A1_9 l1_9.length c1_9) := (blk_cell BK135.out 9).trans rfl
       have hfz16_0 := blk_frozen BK135.out 0
       have hfz16_1 := blk_frozen BK135.out 1
       have hfz16_2 := blk_frozen BK135.out 2
       have hfz16_3 := blk_frozen BK135.out 3
       have hfz16_4 := blk_frozen BK135.out 4
       have hfz16_5 := blk_frozen BK135.out 5
       have hfz16_6 := blk_frozen BK135.out 6
       have hfz16_7 := blk_frozen BK135.out 7
       have hfz16_8 := blk_frozen BK135.out 8
       have hfz16_9 := blk_frozen BK135.out 9
       go_wp2
       go_meet
       case rel => exact ⟨_, ((a0_8 != a1_8)), (by first | rfl | (simp; done) | (simp [*]; done) | (simp [isEmpty_ne_]; done)), H', ⟨by first | omega | exact Nat.le_refl _⟩, ⟨by (with_reducible repeat (first | refine blk_drewN ?_ _ | refine blk_drew ?_ | refine blk_alloc ?_ _)); exact BK134.out⟩, ⟨by (with_reducible repeat (first | refine blk_drewN ?_ _ | refine blk_drew ?_ | refine blk_alloc ?_ _)); exact BK135.out⟩, ⟨by repeat (first | (with_reducible first | exact HB.out | apply below_alloc | apply pw_below_drewN | apply below_drew1 | refine below_set ?_ GE134.out | refine below_set ?_ GE135.out) | exact HB.out)⟩⟩
      ·rw [if_neg c13] at H
       have c13b0 : (a0_7.toList == a1_7.toList) = false := beq_eq_false_iff_ne.mpr c13
       have c13b1 : (a0_7.toList != a1_7.toList) = true := bne_iff_ne.mpr c13
       have H' := Aside0.mk H
       clear H
       have hnb17 := NB134_135.out
       have hnc17 := NB135_134.out
       have hcz18_0 : w5.cell? ⟨gb134, 0, none⟩ = some (.int .i64 a0_0) := (blk_cell BK134.out 0).trans rfl
       have hcz18_1 : w5.cell? ⟨gb134, 1, none⟩ = some (.int .i64 a0_1) := (blk_cell BK134.out 1).trans rfl
       have hcz18_2 : w5.cell? ⟨gb134, 2, none⟩ = some (.int .i64 a0_2) := (blk_cell BK134.out 2).trans rfl
       have hcz18_3 : w5.cell? ⟨gb134, 3, none⟩ = some (.string a0_3) := (blk_cell BK134.out 3).trans rfl
       have hcz18_4 : w5.cell? ⟨gb134, 4, none⟩ = some (.string a0_4) := (blk_cell BK134.out 4).trans rfl
       have hcz18_5 : w5.cell? ⟨gb134, 5, none⟩ = some (.string a0_5) := (blk_cell BK134.out 5).trans rfl
       have hcz18_6 : w5.cell? ⟨gb134, 6, none⟩ = some (.slice A0_6 l0_6.length c0_6) := (blk_cell BK134.out 6).trans rfl
       have hcz18_7 : w5.cell? ⟨gb134, 7, none⟩ = some (.string a0_7) := (blk_cell BK134.out 7).trans rfl
       have hcz18_8 : w5.cell? ⟨gb134, 8, none⟩ = some (.bool a0_8) := (blk_cell BK134.out 8).trans rfl
       have hcz18_9 : w5.cell? ⟨gb134, 9, none⟩ = some (.slice A0_9 l0_9.length c0_9) := (blk_cell BK134.out 9).trans rfl
       have hfz18_0 := blk_frozen BK134.out 0
       have hfz18_1 := blk_frozen BK134.out 1
       have hfz18_2 := blk_frozen BK134.out 2
       have hfz18_3 := blk_frozen BK134.out 3
       have hfz18_4 := blk_frozen BK134.out 4
       have hfz18_5 := blk_frozen BK134.out 5
       have hfz18_6 := blk_frozen BK134.out 6
       have hfz18_7 := blk_frozen BK134.out 7
       have hfz18_8 := blk_frozen BK134.out 8
       have hfz18_9 := blk_frozen BK134.out 9
       have hcz19_0 : w5.cell? ⟨gb135, 0, none⟩ = some (.int .i64 a1_0) := (blk_cell BK135.out 0).trans rfl
       have hcz19_1 : w5.cell? ⟨gb135, 1, none⟩ = some (.int .i64 a1_1) := (blk_cell BK135.out 1).trans rfl
       have hcz19_2 : w5.cell? ⟨gb135, 2, none⟩ = some (.int .i64 a1_2) := (blk_cell BK135.out 2).trans rfl
       have hcz19_3 : w5.cell? ⟨gb135, 3, none⟩ = some (.string a1_3) := (blk_cell BK135.out 3).trans rfl
       have hcz19_4 : w5.cell? ⟨gb135, 4, none⟩ = some (.string a1_4) := (blk_cell BK135.out 4).trans rfl
       have hcz19_5 : w5.cell? ⟨gb135, 5, none⟩ = some (.string a1_5) := (blk_cell BK135.out 5).trans rfl
       have hcz19_6 : w5.cell? ⟨gb135, 6, none⟩ = some (.slice A1_6 l1_6.length c1_6) := (blk_cell BK135.out 6).trans rfl
       have hcz19_7 : w5.cell? ⟨gb135, 7, none⟩ = some (.string a1_7) := (blk_cell BK135.out 7).trans rfl
       have hcz19_8 : w5.cell? ⟨gb135, 8, none⟩ = some (.bool a1_8) := (blk_cell BK135.out 8).trans rfl
       have hcz19_9 : w5.cell? ⟨gb135, 9, none⟩ = some (.slice A1_9 l1_9.length c1_9) := (blk_cell BK135.out 9).trans rfl
       have hfz19_0 := blk_frozen BK135.out 0
       have hfz19_1 := blk_frozen BK135.out 1
       have hfz19_2 := blk_frozen BK135.out 2
       have hfz19_3 := blk_frozen BK135.out 3
       have hfz19_4 := blk_frozen BK135.out 4
       have hfz19_5 := blk_frozen BK135.out 5
       have hfz19_6 := blk_frozen BK135.out 6
       have hfz19_7 := blk_frozen BK135.out 7
       have hfz19_8 := blk_frozen BK135.out 8
       have hfz19_9 := blk_frozen BK135.out 9
       go_wp2
       go_meet
       case rel => exact ⟨_, (true), (by first | rfl | (simp; done) | (simp [*]; done) | (simp [isEmpty_ne_]; done)), H', ⟨by first | omega | exact Nat.le_refl _⟩, ⟨by (with_reducible repeat (first | refine blk_drewN ?_ _ | refine blk_drew ?_ | refine blk_alloc ?_ _)); exact BK134.out⟩, ⟨by (with_reducible repeat (first | refine blk_drewN ?_ _ | refine blk_drew ?_ | refine blk_alloc ?_ _)); exact BK135.out⟩, ⟨by repeat (first | (with_reducible first | exact HB.out | apply below_alloc | apply pw_below_drewN | apply below_drew1 | refine below_set ?_ GE134.out | refine below_set ?_ GE135.out) | exact HB.out)⟩⟩
     ·rw [if_neg c12] at H
      have c12b0 : (a0_5.toList == a1_5.toList) = false := beq_eq_false_iff_ne.mpr c12
      have c12b1 : (a0_5.toList != a1_5.toList) = true := bne_iff_ne.mpr c12
      have H' := Aside0.mk H
      clear H
      have hnb20 := NB134_135.out
      have hnc20 := NB135_134.out
      have hcz21_0 : w5.cell? ⟨gb134, 0, none⟩ = some (.int .i64 a0_0) := (blk_cell BK134.out 0).trans rfl
      have hcz21_1 : w5.cell? ⟨gb134, 1, none⟩ = some (.int .i64 a0_1) := (blk_cell BK134.out 1).trans rfl
      have hcz21_2 : w5.cell? ⟨gb134, 2, none⟩ = some (.int .i64 a0_2) := (blk_cell BK134.out 2).trans rfl
      have hcz21_3 : w5.cell? ⟨gb134, 3, none⟩ = some (.string a0_3) := (blk_cell BK134.out 3).trans rfl
      have hcz21_4 : w5.cell? ⟨gb134, 4, none⟩ = some (.string a0_4) := (blk_cell BK134.out 4).trans rfl
      have hcz21_5 : w5.cell? ⟨gb134, 5, none⟩ = some (.string a0_5) := (blk_cell BK134.out 5).trans rfl
      have hcz21_6 : w5.cell? ⟨gb134, 6, none⟩ = some (.slice A0_6 l0_6.length c0_6) := (blk_cell BK134.out 6).trans rfl
      have hcz21_7 : w5.cell? ⟨gb134, 7, none⟩ = some (.string a0_7) := (blk_cell BK134.out 7).trans rfl
      have hcz21_8 : w5.cell? ⟨gb134, 8, none⟩ = some (.bool a0_8) := (blk_cell BK134.out 8).trans rfl
      have hcz21_9 : w5.cell? ⟨gb134, 9, none⟩ = some (.slice A0_9 l0_9.length c0_9) := (blk_cell BK134.out 9).trans rfl
      have hfz21_0 := blk_frozen BK134.out 0
      have hfz21_1 := blk_frozen BK134.out 1
      have hfz21_2 := blk_frozen BK134.out 2
      have hfz21_3 := blk_frozen BK134.out 3
      have hfz21_4 := blk_frozen BK134.out 4
      have hfz21_5 := blk_frozen BK134.out 5
      have hfz21_6 := blk_frozen BK134.out 6
      have hfz21_7 := blk_frozen BK134.out 7
      have hfz21_8 := blk_frozen BK134.out 8
      have hfz21_9 := blk_frozen BK134.out 9
      have hcz22_0 : w5.cell? ⟨gb135, 0, none⟩ = some (.int .i64 a1_0) := (blk_cell BK135.out 0).trans rfl
      have hcz22_1 : w5.cell? ⟨gb135, 1, none⟩ = some (.int .i64 a1_1) := (blk_cell BK135.out 1).trans rfl
      have hcz22_2 : w5.cell? ⟨gb135, 2, none⟩ = some (.int .i64 a1_2) := (blk_cell BK135.out 2).trans rfl
      have hcz22_3 : w5.cell? ⟨gb135, 3, none⟩ = some (.string a1_3) := (blk_cell BK135.out 3).trans rfl
      have hcz22_4 : w5.cell? ⟨gb135, 4, none⟩ = some (.string a1_4) := (blk_cell BK135.out 4).trans rfl
      have hcz22_5 : w5.cell? ⟨gb135, 5, none⟩ = some (.string a1_5) := (blk_cell BK135.out 5).trans rfl
      have hcz22_6 : w5.cell? ⟨gb135, 6, none⟩ = some (.slice A1_6 l1_6.length c1_6) := (blk_cell BK135.out 6).trans rfl
      have hcz22_7 : w5.cell? ⟨gb135, 7, none⟩ = some (.string a1_7) := (blk_cell BK135.out 7).trans rfl
      have hcz22_8 : w5.cell? ⟨gb135, 8, none⟩ = some (.bool a1_8) := (blk_cell BK135.out 8).trans rfl
      have hcz22_9 : w5.cell? ⟨gb135, 9, none⟩ = some (.slice A1_9 l1_9.length c1_9) := (blk_cell BK135.out 9).trans rfl
      have hfz22_0 := blk_frozen BK135.out 0
      have hfz22_1 := blk_frozen BK135.out 1
      have hfz22_2 := blk_frozen BK135.out 2
      have hfz22_3 := blk_frozen BK135.out 3
      have hfz22_4 := blk_frozen BK135.out 4
      have hfz22_5 := blk_frozen BK135.out 5
      have hfz22_6 := blk_frozen BK135.out 6
      have hfz22_7 := blk_frozen BK135.out 7
      have hfz22_8 := blk_frozen BK135.out 8
      have hfz22_9 := blk_frozen BK135.out 9
      go_wp2
      go_meet
      case rel => exact ⟨_, (true), (by first | rfl | (simp; done) | (simp [*]; done) | (simp [isEmpty_ne_]; done)), H', ⟨by first | omega | exact Nat.le_refl _⟩, ⟨by (with_reducible repeat (first | refine blk_drewN ?_ _ | refine blk_drew ?_ | refine blk_alloc ?_ _)); exact BK134.out⟩, ⟨by (with_reducible repeat (first | refine blk_drewN ?_ _ | refine blk_drew ?_ | refine blk_alloc ?_ _)); exact BK135.out⟩, ⟨by repeat (first | (with_reducible first | exact HB.out | apply below_alloc | apply pw_below_drewN | apply below_drew1 | refine below_set ?_ GE134.out | refine below_set ?_ GE135.out) | exact HB.out)⟩⟩
   ·rw [if_neg c7] at H
    have c7b0 : (a0_1 == a1_1) = false := beq_eq_false_iff_ne.mpr c7
    have c7b1 : (a0_1 != a1_1) = true := bne_iff_ne.mpr c7
    have H' := Aside0.mk H
    clear H
    have hnb23 := NB134_135.out
    have hnc23 := NB135_134.out
    have hcz24_0 : w5.cell? ⟨gb134, 0, none⟩ = some (.int .i64 a0_0) := (blk_cell BK134.out 0).trans rfl
    have hcz24_1 : w5.cell? ⟨gb134, 1, none⟩ = some (.int .i64 a0_1) := (blk_cell BK134.out 1).trans rfl
    have hcz24_2 : w5.cell? ⟨gb134, 2, none⟩ = some (.int .i64 a0_2) := (blk_cell BK134.out 2).trans rfl
    have hcz24_3 : w5.cell? ⟨gb134, 3, none⟩ = some (.string a0_3) := (blk_cell BK134.out 3).trans rfl
    have hcz24_4 : w5.cell? ⟨gb134, 4, none⟩ = some (.string a0_4) := (blk_cell BK134.out 4).trans rfl
    have hcz24_5 : w5.cell? ⟨gb134, 5, none⟩ = some (.string a0_5) := (blk_cell BK134.out 5).trans rfl
    have hcz24_6 : w5.cell? ⟨gb134, 6, none⟩ = some (.slice A0_6 l0_6.length c0_6) := (blk_cell BK134.out 6).trans rfl
    have hcz24_7 : w5.cell? ⟨gb134, 7, none⟩ = some (.string a0_7) := (blk_cell BK134.out 7).trans rfl
    have hcz24_8 : w5.cell? ⟨gb134, 8, none⟩ = some (.bool a0_8) := (blk_cell BK134.out 8).trans rfl
    have hcz24_9 : w5.cell? ⟨gb134, 9, none⟩ = some (.slice A0_9 l0_9.length c0_9) := (blk_cell BK134.out 9).trans rfl
    have hfz24_0 := blk_frozen BK134.out 0
    have hfz24_1 := blk_frozen BK134.out 1
    have hfz24_2 := blk_frozen BK134.out 2
    have hfz24_3 := blk_frozen BK134.out 3
    have hfz24_4 := blk_frozen BK134.out 4
    have hfz24_5 := blk_frozen BK134.out 5
    have hfz24_6 := blk_frozen BK134.out 6
    have hfz24_7 := blk_frozen BK134.out 7
    have hfz24_8 := blk_frozen BK134.out 8
    have hfz24_9 := blk_frozen BK134.out 9
    have hcz25_0 : w5.cell? ⟨gb135, 0, none⟩ = some (.int .i64 a1_0) := (blk_cell BK135.out 0).trans rfl
    have hcz25_1 : w5.cell? ⟨gb135, 1, none⟩ = some (.int .i64 a1_1) := (blk_cell BK135.out 1).trans rfl
    have hcz25_2 : w5.cell? ⟨gb135, 2, none⟩ = some (.int .i64 a1_2) := (blk_cell BK135.out 2).trans rfl
    have hcz25_3 : w5.cell? ⟨gb135, 3, none⟩ = some (.string a1_3) := (blk_cell BK135.out 3).trans rfl
    have hcz25_4 : w5.cell? ⟨gb135, 4, none⟩ = some (.string a1_4) := (blk_cell BK135.out 4).trans rfl
    have hcz25_5 : w5.cell? ⟨gb135, 5, none⟩ = some (.string a1_5) := (blk_cell BK135.out 5).trans rfl
    have hcz25_6 : w5.cell? ⟨gb135, 6, none⟩ = some (.slice A1_6 l1_6.length c1_6) := (blk_cell BK135.out 6).trans rfl
    have hcz25_7 : w5.cell? ⟨gb135, 7, none⟩ = some (.string a1_7) := (blk_cell BK135.out 7).trans rfl
    have hcz25_8 : w5.cell? ⟨gb135, 8, none⟩ = some (.bool a1_8) := (blk_cell BK135.out 8).trans rfl
    have hcz25_9 : w5.cell? ⟨gb135, 9, none⟩ = some (.slice A1_9 l1_9.length c1_9) := (blk_cell BK135.out 9).trans rfl
    have hfz25_0 := blk_frozen BK135.out 0
    have hfz25_1 := blk_frozen BK135.out 1
    have hfz25_2 := blk_frozen BK135.out 2
    have hfz25_3 := blk_frozen BK135.out 3
    have hfz25_4 := blk_frozen BK135.out 4
    have hfz25_5 := blk_frozen BK135.out 5
    have hfz25_6 := blk_frozen BK135.out 6
    have hfz25_7 := blk_frozen BK135.out 7
    have hfz25_8 := blk_frozen BK135.out 8
    have hfz25_9 := blk_frozen BK135.out 9
    go_wp2
    go_meet
    case rel => exact ⟨_, (true), (by first | rfl | (simp; done) | (simp [*]; done) | (simp [isEmpty_ne_]; done)), H', ⟨by first | omega | exact Nat.le_refl _⟩, ⟨by (with_reducible repeat (first | refine blk_drewN ?_ _ | refine blk_drew ?_ | refine blk_alloc ?_ _)); exact BK134.out⟩, ⟨by (with_reducible repeat (first | refine blk_drewN ?_ _ | refine blk_drew ?_ | refine blk_alloc ?_ _)); exact BK135.out⟩, ⟨by repeat (first | (with_reducible first | exact HB.out | apply below_alloc | apply pw_below_drewN | apply below_drew1 | refine below_set ?_ GE134.out | refine below_set ?_ GE135.out) | exact HB.out)⟩⟩
  ·rw [if_neg c6] at H
   have c6b0 : (a0_0 == a1_0) = false := beq_eq_false_iff_ne.mpr c6
   have c6b1 : (a0_0 != a1_0) = true := bne_iff_ne.mpr c6
   (first | rw [c6b0] | (simp only [i64_w, i32_w]; rw [c6b0]) | skip)
   have H' := Aside0.mk H
   clear H
   have hnb26 := NB134_135.out
   have hnc26 := NB135_134.out
   have hcz27_0 : w5.cell? ⟨gb134, 0, none⟩ = some (.int .i64 a0_0) := (blk_cell BK134.out 0).trans rfl
   have hcz27_1 : w5.cell? ⟨gb134, 1, none⟩ = some (.int .i64 a0_1) := (blk_cell BK134.out 1).trans rfl
   have hcz27_2 : w5.cell? ⟨gb134, 2, none⟩ = some (.int .i64 a0_2) := (blk_cell BK134.out 2).trans rfl
   have hcz27_3 : w5.cell? ⟨gb134, 3, none⟩ = some (.string a0_3) := (blk_cell BK134.out 3).trans rfl
   have hcz27_4 : w5.cell? ⟨gb134, 4, none⟩ = some (.string a0_4) := (blk_cell BK134.out 4).trans rfl
   have hcz27_5 : w5.cell? ⟨gb134, 5, none⟩ = some (.string a0_5) := (blk_cell BK134.out 5).trans rfl
   have hcz27_6 : w5.cell? ⟨gb134, 6, none⟩ = some (.slice A0_6 l0_6.length c0_6) := (blk_cell BK134.out 6).trans rfl
   have hcz27_7 : w5.cell? ⟨gb134, 7, none⟩ = some (.string a0_7) := (blk_cell BK134.out 7).trans rfl
   have hcz27_8 : w5.cell? ⟨gb134, 8, none⟩ = some (.bool a0_8) := (blk_cell BK134.out 8).trans rfl
   have hcz27_9 : w5.cell? ⟨gb134, 9, none⟩ = some (.slice A0_9 l0_9.length c0_9) := (blk_cell BK134.out 9).trans rfl
   have hfz27_0 := blk_frozen BK134.out 0
   have hfz27_1 := blk_frozen BK134.out 1
   have hfz27_2 := blk_frozen BK134.out 2
   have hfz27_3 := blk_frozen BK134.out 3
   have hfz27_4 := blk_frozen BK134.out 4
   have hfz27_5 := blk_frozen BK134.out 5
   have hfz27_6 := blk_frozen BK134.out 6
   have hfz27_7 := blk_frozen BK134.out 7
   have hfz27_8 := blk_frozen BK134.out 8
   have hfz27_9 := blk_frozen BK134.out 9
   have hcz28_0 : w5.cell? ⟨gb135, 0, none⟩ = some (.int .i64 a1_0) := (blk_cell BK135.out 0).trans rfl
   have hcz28_1 : w5.cell? ⟨gb135, 1, none⟩ = some (.int .i64 a1_1) := (blk_cell BK135.out 1).trans rfl
   have hcz28_2 : w5.cell? ⟨gb135, 2, none⟩ = some (.int .i64 a1_2) := (blk_cell BK135.out 2).trans rfl
   have hcz28_3 : w5.cell? ⟨gb135, 3, none⟩ = some (.string a1_3) := (blk_cell BK135.out 3).trans rfl
   have hcz28_4 : w5.cell? ⟨gb135, 4, none⟩ = some (.string a1_4) := (blk_cell BK135.out 4).trans rfl
   have hcz28_5 : w5.cell? ⟨gb135, 5, none⟩ = some (.string a1_5) := (blk_cell BK135.out 5).trans rfl
   have hcz28_6 : w5.cell? ⟨gb135, 6, none⟩ = some (.slice A1_6 l1_6.length c1_6) := (blk_cell BK135.out 6).trans rfl
   have hcz28_7 : w5.cell? ⟨gb135, 7, none⟩ = some (.string a1_7) := (blk_cell BK135.out 7).trans rfl
   have hcz28_8 : w5.cell? ⟨gb135, 8, none⟩ = some (.bool a1_8) := (blk_cell BK135.out 8).trans rfl
   have hcz28_9 : w5.cell? ⟨gb135, 9, none⟩ = some (.slice A1_9 l1_9.length c1_9) := (blk_cell BK135.out 9).trans rfl
   have hfz28_0 := blk_frozen BK135.out 0
   have hfz28_1 := blk_frozen BK135.out 1
   have hfz28_2 := blk_frozen BK135.out 2
   have hfz28_3 := blk_frozen BK135.out 3
   have hfz28_4 := blk_frozen BK135.out 4
   have hfz28_5 := blk_frozen BK135.out 5
   have hfz28_6 := blk_frozen BK135.out 6
   have hfz28_7 := blk_frozen BK135.out 7
   have hfz28_8 := blk_frozen BK135.out 8
   have hfz28_9 := blk_frozen BK135.out 9
   go_wp2
   go_meet
   case rel => exact ⟨_, (true), (by first | rfl | (simp; done) | (simp [*]; done) | (simp [isEmpty_ne_]; done)), H', ⟨by first | omega | exact Nat.le_refl _⟩, ⟨by (with_reducible repeat (first | refine blk_drewN ?_ _ | refine blk_drew ?_ | refine blk_alloc ?_ _)); exact BK134.out⟩, ⟨by (with_reducible repeat (first | refine blk_drewN ?_ _ | refine blk_drew ?_ | refine blk_alloc ?_ _)); exact BK135.out⟩, ⟨by repeat (first | (with_reducible first | exact HB.out | apply below_alloc | apply pw_below_drewN | apply below_drew1 | refine below_set ?_ GE134.out | refine below_set ?_ GE135.out) | exact HB.out)⟩⟩
 case rest =>
  clear HC3
  try clear c1
  try clear c2
  try clear p2
  try clear c6
  try clear c6b0
  try clear c6b1
  try clear c7
  try clear c7b0
  try clear c7b1
  try clear c8
  try clear c8b0
  try clear c9
  try clear c12
  try clear c12b0
  try clear c12b1
  try clear c13
  try clear c13b0
  try clear c13b1
  try clear c14
  try clear c17
  try clear c20
  try clear c23
  try clear c26
  try clear hcz10_0 hcz10_1 hcz10_2 hcz10_3 hcz10_4 hcz10_5 hcz10_6 hcz10_7 hcz10_8 hcz10_9
  try clear hcz11_0 hcz11_1 hcz11_2 hcz11_3 hcz11_4 hcz11_5 hcz11_6 hcz11_7 hcz11_8 hcz11_9
  try clear hcz15_0 hcz15_1 hcz15_2 hcz15_3 hcz15_4 hcz15_5 hcz15_6 hcz15_7 hcz15_8 hcz15_9
  try clear hcz16_0 hcz16_1 hcz16_2 hcz16_3 hcz16_4 hcz16_5 hcz16_6 hcz16_7 hcz16_8 hcz16_9
  try clear hcz18_0 hcz18_1 hcz18_2 hcz18_3 hcz18_4 hcz18_5 hcz18_6 hcz18_7 hcz18_8 hcz18_9
  try clear hcz19_0 hcz19_1 hcz19_2 hcz19_3 hcz19_4 hcz19_5 hcz19_6 hcz19_7 hcz19_8 hcz19_9
  try clear hcz21_0 hcz21_1 hcz21_2 hcz21_3 hcz21_4 hcz21_5 hcz21_6 hcz21_7 hcz21_8 hcz21_9
  try clear hcz22_0 hcz22_1 hcz22_2 hcz22_3 hcz22_4 hcz22_5 hcz22_6 hcz22_7 hcz22_8 hcz22_9
  try clear hcz24_0 hcz24_1 hcz24_2 hcz24_3 hcz24_4 hcz24_5 hcz24_6 hcz24_7 hcz24_8 hcz24_9
  try clear hcz25_0 hcz25_1 hcz25_2 hcz25_3 hcz25_4 hcz25_5 hcz25_6 hcz25_7 hcz25_8 hcz25_9
  try clear hcz27_0 hcz27_1 hcz27_2 hcz27_3 hcz27_4 hcz27_5 hcz27_6 hcz27_7 hcz27_8 hcz27_9
  try clear hcz28_0 hcz28_1 hcz28_2 hcz28_3 hcz28_4 hcz28_5 hcz28_6 hcz28_7 hcz28_8 hcz28_9
  try clear hfz10_0 hfz10_1 hfz10_2 hfz10_3 hfz10_4 hfz10_5 hfz10_6 hfz10_7 hfz10_8 hfz10_9
  try clear hfz11_0 hfz11_1 hfz11_2 hfz11_3 hfz11_4 hfz11_5 hfz11_6 hfz11_7 hfz11_8 hfz11_9
  try clear hfz15_0 hfz15_1 hfz15_2 hfz15_3 hfz15_4 hfz15_5 hfz15_6 hfz15_7 hfz15_8 hfz15_9
  try clear hfz16_0 hfz16_1 hfz16_2 hfz16_3 hfz16_4 hfz16_5 hfz16_6 hfz16_7 hfz16_8 hfz16_9
  try clear hfz18_0 hfz18_1 hfz18_2 hfz18_3 hfz18_4 hfz18_5 hfz18_6 hfz18_7 hfz18_8 hfz18_9
  try clear hfz19_0 hfz19_1 hfz19_2 hfz19_3 hfz19_4 hfz19_5 hfz19_6 hfz19_7 hfz19_8 hfz19_9
  try clear hfz21_0 hfz21_1 hfz21_2 hfz21_3 hfz21_4 hfz21_5 hfz21_6 hfz21_7 hfz21_8 hfz21_9
  try clear hfz22_0 hfz22_1 hfz22_2 hfz22_3 hfz22_4 hfz22_5 hfz22_6 hfz22_7 hfz22_8 hfz22_9
  try clear hfz24_0 hfz24_1 hfz24_2 hfz24_3 hfz24_4 hfz24_5 hfz24_6 hfz24_7 hfz24_8 hfz24_9
  try clear hfz25_0 hfz25_1 hfz25_2 hfz25_3 hfz25_4 hfz25_5 hfz25_6 hfz25_7 hfz25_8 hfz25_9
  try clear hfz27_0 hfz27_1 hfz27_2 hfz27_3 hfz27_4 hfz27_5 hfz27_6 hfz27_7 hfz27_8 hfz27_9
  try clear hfz28_0 hfz28_1 hfz28_2 hfz28_3 hfz28_4 hfz28_5 hfz28_6 hfz28_7 hfz28_8 hfz28_9
  obtain ⟨kq, x44_2, rfl, HA, HJ2, BK134, BK135, HB⟩ := hcut
  cases kq with
  | zero => exact absurd HA.out (by simp [rosterref13_SameReply.j0])
  | succ kj2 =>
   have H := HA.out
   clear HA
   simp only [rosterref13_SameReply.j0] at H
   by_cases c29 : x44_2 = true
   ·subst c29
    have H1 : (some false) = some r := by rw [if_pos rfl] at H; exact H
    clear H
    have H := H1
    clear H1
    obtain rfl := Option.some.inj H
    go_wp2
    go_ret
    exact ⟨by first | rfl | (simp [isEmpty_ne_]; done) | (simp [*, errW_none, errW_some] <;> rfl), by repeat (first | (with_reducible first | exact HB.out | apply below_alloc | apply pw_below_drewN | apply below_drew1 | refine below_set ?_ GE134.out | refine below_set ?_ GE135.out) | exact HB.out)⟩
   ·replace c29 := Bool.eq_false_iff.mpr c29
    subst c29
    have H1 : ((rosterref13_sameAttrs.f kj2 l0_6 l1_6).bind fun t136 => (if t136 = true then ((rosterref13_sameControls.f kj2 l0_9 l1_9).bind fun t137 => (some t137)) else (some false))) = some r := by rw [if_neg (show ¬ (false = true) by decide)] at H; exact H
    clear H
    have H := H1
    clear H1
    replace H := Option.bind_eq_some_iff.mp H
    obtain ⟨t136, A300, H⟩ := H
    replace H : (if t136 = true then ((rosterref13_sameControls.f kj2 l0_9 l1_9).bind fun t137 => (some t137)) else (some false)) = some r := H
    have A30 := Aside0.mk A300
    clear A300
    by_cases c31 : t136 = true
    ·subst c31
     have H1 : ((rosterref13_sameControls.f kj2 l0_9 l1_9).bind fun t137 => (some t137)) = some r := by rw [if_pos rfl] at H; exact H
     clear H
     have H := H1
     clear H1
     replace H := Option.bind_eq_some_iff.mp H
     obtain ⟨t137, A320, H⟩ := H
     replace H : (some t137) = some r := H
     have A32 := Aside0.mk A320
     clear A320
     obtain rfl := Option.some.inj H
     have hnb33 := NB134_135.out
     have hnc33 := NB135_134.out
     have hcz34_0 : wc.cell? ⟨gb134, 0, none⟩ = some (.int .i64 a0_0) := (blk_cell BK134.out 0).trans rfl
     have hcz34_1 : wc.cell? ⟨gb134, 1, none⟩ = some (.int .i64 a0_1) := (blk_cell BK134.out 1).trans rfl
     have hcz34_2 : wc.cell? ⟨gb134, 2, none⟩ = some (.int .i64 a0_2) := (blk_cell BK134.out 2).trans rfl
     have hcz34_3 : wc.cell? ⟨gb134, 3, none⟩ = some (.string a0_3) := (blk_cell BK134.out 3).trans rfl
     have hcz34_4 : wc.cell? ⟨gb134, 4, none⟩ = some (.string a0_4) := (blk_cell BK134.out 4).trans rfl
     have hcz34_5 : wc.cell? ⟨gb134, 5, none⟩ = some (.string a0_5) := (blk_cell BK134.out 5).trans rfl
     have hcz34_6 : wc.cell? ⟨gb134, 6, none⟩ = some (.slice A0_6 l0_6.length c0_6) := (blk_cell BK134.out 6).trans rfl
     have hcz34_7 : wc.cell? ⟨gb134, 7, none⟩ = some (.string a0_7) := (blk_cell BK134.out 7).trans rfl
     have hcz34_8 : wc.cell? ⟨gb134, 8, none⟩ = some (.bool a0_8) := (blk_cell BK134.out 8).trans rfl
     have hcz34_9 : wc.cell? ⟨gb134, 9, none⟩ = some (.slice A0_9 l0_9.length c0_9) := (blk_cell BK134.out 9).trans rfl
     have hfz34_0 := blk_frozen BK134.out 0
     have hfz34_1 := blk_frozen BK134.out 1
     have hfz34_2 := blk_frozen BK134.out 2
     have hfz34_3 := blk_frozen BK134.out 3
     have hfz34_4 := blk_frozen BK134.out 4
     have hfz34_5 := blk_frozen BK134.out 5
     have hfz34_6 := blk_frozen BK134.out 6
     have hfz34_7 := blk_frozen BK134.out 7
     have hfz34_8 := blk_frozen BK134.out 8
     have hfz34_9 := blk_frozen BK134.out 9
     have hcz35_0 : wc.cell? ⟨gb135, 0, none⟩ = some (.int .i64 a1_0) := (blk_cell BK135.out 0).trans rfl
     have hcz35_1 : wc.cell? ⟨gb135, 1, none⟩ = some (.int .i64 a1_1) := (blk_cell BK135.out 1).trans rfl
     have hcz35_2 : wc.cell? ⟨gb135, 2, none⟩ = some (.int .i64 a1_2) := (blk_cell BK135.out 2).trans rfl
     have hcz35_3 : wc.cell? ⟨gb135, 3, none⟩ = some (.string a1_3) := (blk_cell BK135.out 3).trans rfl
     have hcz35_4 : wc.cell? ⟨gb135, 4, none⟩ = some (.string a1_4) := (blk_cell BK135.out 4).trans rfl
     have hcz35_5 : wc.cell? ⟨gb135, 5, none⟩ = some (.string a1_5) := (blk_cell BK135.out 5).trans rfl
     have hcz35_6 : wc.cell? ⟨gb135, 6, none⟩ = some (.slice A1_6 l1_6.length c1_6) := (blk_cell BK135.out 6).trans rfl
     have hcz35_7 : wc.cell? ⟨gb135, 7, none⟩ = some (.string a1_7) := (blk_cell BK135.out 7).trans rfl
     have hcz35_8 : wc.cell? ⟨gb135, 8, none⟩ = some (.bool a1_8) := (blk_cell BK135.out 8).trans rfl
     have hcz35_9 : wc.cell? ⟨gb135, 9, none⟩ = some (.slice A1_9 l1_9.length c1_9) := (blk_cell BK135.out 9).trans rfl
     have hfz35_0 := blk_frozen BK135.out 0
     have hfz35_1 := blk_frozen BK135.out 1
     have hfz35_2 := blk_frozen BK135.out 2
     have hfz35_3 := blk_frozen BK135.out 3
     have hfz35_4 := blk_frozen BK135.out 4
     have hfz35_5 := blk_frozen BK135.out 5
     have hfz35_6 := blk_frozen BK135.out 6
     have hfz35_7 := blk_frozen BK135.out 7
     have hfz35_8 := blk_frozen BK135.out 8
     have hfz35_9 := blk_frozen BK135.out 9
     go_wp2_with (first | ((with_reducible refine gate_callee (f := 18) rfl ?_); refine goesL_ (some 49) rfl rfl Tryd.func18 (by kernel_rfl) rfl #[.slice A0_6 l0_6.length c0_6, .slice A1_6 l1_6.length c1_6] rfl (by (try simp only [List.map_toArray, List.map_cons, List.map_nil]); first | done | rfl | (simp only [List.length_drop, List.length_take]; rfl) | exact congrArg (fun n_ : Nat => #[Value.slice _ n_ _]) (Eq.trans (Aside0.out (by assumption)) (Eq.symm (Aside0.out (by assumption)))) | exact congrArg (fun n_ : Nat => #[Value.slice _ n_ _, Value.slice _ _ _]) (Eq.trans (Aside0.out (by assumption)) (Eq.symm (Aside0.out (by assumption))))) ?_; (with_reducible refine (rosterref13_sameAttrs.calls kj2 _ _ l0_6 _ _ l1_6 true _ ?side1 ?side2 ?side3 ?side4 A30.out).mono ?_); (case side1 => repeat (first | exact (Kd.C_below HR0_6.out HB.out) | exact (Kd.C_below (Aside0.out (by assumption)) HB.out) | (with_reducible refine Kd.C_alloc ?_ _) | (with_reducible refine Kd.C_drewN ?_ _) | (with_reducible refine Kd.C_drew ?_))); (case side2 => first | exact HC0_6.out | exact Aside0.out (by assumption)); (case side3 => repeat (first | exact (Kd.C_below HR1_6.out HB.out) | exact (Kd.C_below (Aside0.out (by assumption)) HB.out) | (with_reducible refine Kd.C_alloc ?_ _) | (with_reducible refine Kd.C_drewN ?_ _) | (with_reducible refine Kd.C_drew ?_))); (case side4 => first | exact HC1_6.out | exact Aside0.out (by assumption)); rintro e w' ⟨rfl, ⟨nd, rfl⟩⟩; refine ⟨_, rfl, ?_⟩) | (go_at_call 19; (with_reducible refine (rosterref13_sameControls.calls kj2 _ _ l0_9 _ _ l1_9 t137 _ ?side1 ?side2 ?side3 ?side4 A32.out).mono ?_); (case side1 => repeat (first | exact (Kd.C_below HR0_9.out (by repeat (first | (with_reducible first | exact HB.out | apply below_alloc | apply pw_below_drewN | apply below_drew1 | refine below_set ?_ GE134.out | refine below_set ?_ GE135.out) | exact HB.out))) | (with_reducible refine Kd.C_alloc ?_ _) | (with_reducible refine Kd.C_drewN ?_ _) | (with_reducible refine Kd.C_drew ?_))); (case side2 => first | exact HC0_9.out | exact Aside0.out (by assumption)); (case side3 => repeat (first | exact (Kd.C_below HR1_9.out (by repeat (first | (with_reducible first | exact HB.out | apply below_alloc | apply pw_below_drewN | apply below_drew1 | refine below_set ?_ GE134.out | refine below_set ?_ GE135.out) | exact HB.out))) | (with_reducible refine Kd.C_alloc ?_ _) | (with_reducible refine Kd.C_drewN ?_ _) | (with_reducible refine Kd.C_drew ?_))); (case side4 => first | exact HC1_9.out | exact Aside0.out (by assumption)); rintro e w' ⟨rfl, ⟨nd, rfl⟩⟩))
     go_ret
     exact ⟨by first | rfl | (simp [isEmpty_ne_]; done) | (simp [*, errW_none, errW_some] <;> rfl), by repeat (first | (with_reducible first | exact HB.out | apply below_alloc | apply pw_below_drewN | apply below_drew1 | refine below_set ?_ GE134.out | refine below_set ?_ GE135.out) | exact HB.out)⟩
    ·replace c31 := Bool.eq_false_iff.mpr c31
     subst c31
     have H1 : (some false) = some r := by rw [if_neg (show ¬ (false = true) by decide)] at H; exact H
     clear H
     have H := H1
     clear H1
     obtain rfl := Option.some.inj H
     have hnb36 := NB134_135.out
     have hnc36 := NB135_134.out
     have hcz37_0 : wc.cell? ⟨gb134, 0, none⟩ = some (.int .i64 a0_0) := (blk_cell BK134.out 0).trans rfl
     have hcz37_1 : wc.cell? ⟨gb134, 1, none⟩ = some (.int .i64 a0_1) := (blk_cell BK134.out 1).trans rfl
     have hcz37_2 : wc.cell? ⟨gb134, 2, none⟩ = some (.int .i64 a0_2) := (blk_cell BK134.out 2).trans rfl
     have hcz37_3 : wc.cell? ⟨gb134, 3, none⟩ = some (.string a0_3) := (blk_cell BK134.out 3).trans rfl
     have hcz37_4 : wc.cell? ⟨gb134, 4, none⟩ = some (.string a0_4) := (blk_cell BK134.out 4).trans rfl
     have hcz37_5 : wc.cell? ⟨gb134, 5, none⟩ = some (.string a0_5) := (blk_cell BK134.out 5).trans rfl
     have hcz37_6 : wc.cell? ⟨gb134, 6, none⟩ = some (.slice A0_6 l0_6.length c0_6) := (blk_cell BK134.out 6).trans rfl
     have hcz37_7 : wc.cell? ⟨gb134, 7, none⟩ = some (.string a0_7) := (blk_cell BK134.out 7).trans rfl
     have hcz37_8 : wc.cell? ⟨gb134, 8, none⟩ = some (.bool a0_8) := (blk_cell BK134.out 8).trans rfl
     have hcz37_9 : wc.cell? ⟨gb134, 9, none⟩ = some (.slice A0_9 l0_9.length c0_9) := (blk_cell BK134.out 9).trans rfl
     have hfz37_0 := blk_frozen BK134.out 0
     have hfz37_1 := blk_frozen BK134.out 1
     have hfz37_2 := blk_frozen BK134.out 2
     have hfz37_3 := blk_frozen BK134.out 3
     have hfz37_4 := blk_frozen BK134.out 4
     have hfz37_5 := blk_frozen BK134.out 5
     have hfz37_6 := blk_frozen BK134.out 6
     have hfz37_7 := blk_frozen BK134.out 7
     have hfz37_8 := blk_frozen BK134.out 8
     have hfz37_9 := blk_frozen BK134.out 9
     have hcz38_0 : wc.cell? ⟨gb135, 0, none⟩ = some (.int .i64 a1_0) := (blk_cell BK135.out 0).trans rfl
     have hcz38_1 : wc.cell? ⟨gb135, 1, none⟩ = some (.int .i64 a1_1) := (blk_cell BK135.out 1).trans rfl
     have hcz38_2 : wc.cell? ⟨gb135, 2, none⟩ = some (.int .i64 a1_2) := (blk_cell BK135.out 2).trans rfl
     have hcz38_3 : wc.cell? ⟨gb135, 3, none⟩ = some (.string a1_3) := (blk_cell BK135.out 3).trans rfl
     have hcz38_4 : wc.cell? ⟨gb135, 4, none⟩ = some (.string a1_4) := (blk_cell BK135.out 4).trans rfl
     have hcz38_5 : wc.cell? ⟨gb135, 5, none⟩ = some (.string a1_5) := (blk_cell BK135.out 5).trans rfl
     have hcz38_6 : wc.cell? ⟨gb135, 6, none⟩ = some (.slice A1_6 l1_6.length c1_6) := (blk_cell BK135.out 6).trans rfl
     have hcz38_7 : wc.cell? ⟨gb135, 7, none⟩ = some (.string a1_7) := (blk_cell BK135.out 7).trans rfl
     have hcz38_8 : wc.cell? ⟨gb135, 8, none⟩ = some (.bool a1_8) := (blk_cell BK135.out 8).trans rfl
     have hcz38_9 : wc.cell? ⟨gb135, 9, none⟩ = some (.slice A1_9 l1_9.length c1_9) := (blk_cell BK135.out 9).trans rfl
     have hfz38_0 := blk_frozen BK135.out 0
     have hfz38_1 := blk_frozen BK135.out 1
     have hfz38_2 := blk_frozen BK135.out 2
     have hfz38_3 := blk_frozen BK135.out 3
     have hfz38_4 := blk_frozen BK135.out 4
     have hfz38_5 := blk_frozen BK135.out 5
     have hfz38_6 := blk_frozen BK135.out 6
     have hfz38_7 := blk_frozen BK135.out 7
     have hfz38_8 := blk_frozen BK135.out 8
     have hfz38_9 := blk_frozen BK135.out 9
     go_wp2_with (first | ((with_reducible refine gate_callee (f := 18) rfl ?_); refine goesL_ (some 49) rfl rfl Tryd.func18 (by kernel_rfl) rfl #[.slice A0_6 l0_6.length c0_6, .slice A1_6 l1_6.length c1_6] rfl (by (try simp only [List.map_toArray, List.map_cons, List.map_nil]); first | done | rfl | (simp only [List.length_drop, List.length_take]; rfl) | exact congrArg (fun n_ : Nat => #[Value.slice _ n_ _]) (Eq.trans (Aside0.out (by assumption)) (Eq.symm (Aside0.out (by assumption)))) | exact congrArg (fun n_ : Nat => #[Value.slice _ n_ _, Value.slice _ _ _]) (Eq.trans (Aside0.out (by assumption)) (Eq.symm (Aside0.out (by assumption))))) ?_; (with_reducible refine (rosterref13_sameAttrs.calls kj2 _ _ l0_6 _ _ l1_6 false _ ?side1 ?side2 ?side3 ?side4 A30.out).mono ?_); (case side1 => repeat (first | exact (Kd.C_below HR0_6.out HB.out) | exact (Kd.C_below (Aside0.out (by assumption)) HB.out) | (with_reducible refine Kd.C_alloc ?_ _) | (with_reducible refine Kd.C_drewN ?_ _) | (with_reducible refine Kd.C_drew ?_))); (case side2 => first | exact HC0_6.out | exact Aside0.out (by assumption)); (case side3 => repeat (first | exact (Kd.C_below HR1_6.out HB.out) | exact (Kd.C_below (Aside0.out (by assumption)) HB.out) | (with_reducible refine Kd.C_alloc ?_ _) | (with_reducible refine Kd.C_drewN ?_ _) | (with_reducible refine Kd.C_drew ?_))); (case side4 => first | exact HC1_6.out | exact Aside0.out (by assumption)); rintro e w' ⟨rfl, ⟨nd, rfl⟩⟩; refine ⟨_, rfl, ?_⟩))
     go_ret
     exact ⟨by first | rfl | (simp [isEmpty_ne_]; done) | (simp [*, errW_none, errW_some] <;> rfl), by repeat (first | (with_reducible first | exact HB.out | apply below_alloc | apply pw_below_drewN | apply below_drew1 | refine below_set ?_ GE134.out | refine below_set ?_ GE135.out) | exact HB.out)⟩

/-! ### msg_bound: function 17 -/
def msg_bound.f (a0_0 : Int) (a0_1 : ByteArray) (a0_2 : Int) (a0_3 : ByteArray) (a0_4 : ByteArray) (a0_5 : ByteArray) (a0_6 : Bool) : Option (Int × ByteArray × ByteArray) := if a0_0 = 3 then (if a0_2 = 0 then (if a0_3.toList = ([] : List UInt8) then (if a0_1.toList = ([] : List UInt8) then (some (0, (⟨#[]⟩ : ByteArray), (⟨#[]⟩ : ByteArray))) else (some (53, (⟨#[]⟩ : ByteArray), (⟨#[110, 97, 109, 101, 32, 119, 105, 116, 104, 111, 117, 116, 32, 112, 97, 115, 115, 119, 111, 114, 100]⟩ : ByteArray)))) else (some (49, (⟨#[]⟩ : ByteArray), (⟨#[97, 110, 111, 110, 121, 109, 111, 117, 115, 32, 111, 110, 108, 121]⟩ : ByteArray)))) else (some (7, (⟨#[]⟩ : ByteArray), (⟨#[115, 105, 109, 112, 108, 101, 32, 111, 110, 108, 121]⟩ : ByteArray)))) else (some (2, (⟨#[]⟩ : ByteArray), (⟨#[118, 101, 114, 115, 105, 111, 110, 32, 51, 32, 111, 110, 108, 121]⟩ : ByteArray)))
set_option maxHeartbeats 8000000 in
set_option maxRecDepth 100000 in
theorem msg_bound.calls (a0_0 : Int) (a0_1 : ByteArray) (a0_2 : Int) (a0_3 : ByteArray) (a0_4 : ByteArray) (a0_5 : ByteArray) (a0_6 : Bool) (r1 : Int) (r2 : ByteArray) (r3 : ByteArray) (w : World) (h : msg_bound.f a0_0 a0_1 a0_2 a0_3 a0_4 a0_5 a0_6 = some (r1, r2, r3)) :
  Calls Tryd.prog 17 #[.agg #[.int .i64 a0_0, .string a0_1, .int .i64 a0_2, .string a0_3, .string a0_4, .string a0_5, .bool a0_6]] w fun e w' => e = .returned (.agg #[.int .i64 r1, .string r2, .string r3]) ∧ Below w.heap.size w w' := by
 have hu25 := Tryd.underlying25
 have hu40 := Tryd.underlying40
 have HB := Aside0.mk (Below.refl w.heap.size w)
 have H : (if a0_0 = 3 then (if a0_2 = 0 then (if a0_3.toList = ([] : List UInt8) then (if a0_1.toList = ([] : List UInt8) then (some (0, (⟨#[]⟩ : ByteArray), (⟨#[]⟩ : ByteArray))) else (some (53, (⟨#[]⟩ : ByteArray), (⟨#[110, 97, 109, 101, 32, 119, 105, 116, 104, 111, 117, 116, 32, 112, 97, 115, 115, 119, 111, 114, 100]⟩ : ByteArray)))) else (some (49, (⟨#[]⟩ : ByteArray), (⟨#[97, 110, 111, 110, 121, 109, 111, 117, 115, 32, 111, 110, 108, 121]⟩ : ByteArray)))) else (some (7, (⟨#[]⟩ : ByteArray), (⟨#[115, 105, 109, 112, 108, 101, 32, 111, 110, 108, 121]⟩ : ByteArray)))) else (some (2, (⟨#[]⟩ : ByteArray), (⟨#[118, 101, 114, 115, 105, 111, 110, 32, 51, 32, 111, 110, 108, 121]⟩ : ByteArray)))) = some (r1, r2, r3) := h
 clear h
 by_cases c2 : a0_0 = 3
 ·rw [if_pos c2] at H
  have c2b0 : (a0_0 == 3) = true := beq_iff_eq.mpr c2
  have c2b1 : (a0_0 != 3) = false := bne_eq_false_iff_eq.mpr c2
  clear c2
  by_cases c3 : a0_2 = 0
  ·rw [if_pos c3] at H
   have c3b0 : (a0_2 == 0) = true := beq_iff_eq.mpr c3
   have c3b1 : (a0_2 != 0) = false := bne_eq_false_iff_eq.mpr c3
   clear c3
   by_cases c4 : a0_3.toList = ([] : List UInt8)
   ·rw [if_pos c4] at H
    have c4b0 : (a0_3.toList == ([] : List UInt8)) = true := beq_iff_eq.mpr c4
    have c4b1 : (a0_3.toList != ([] : List UInt8)) = false := bne_eq_false_iff_eq.mpr c4
    clear c4
    by_cases c5 : a0_1.toList = ([] : List UInt8)
    ·rw [if_pos c5] at H
     have c5b0 : (a0_1.toList == ([] : List UInt8)) = true := beq_iff_eq.mpr c5
     have c5b1 : (a0_1.toList != ([] : List UInt8)) = false := bne_eq_false_iff_eq.mpr c5
     clear c5
     simp only [Option.some.injEq, Prod.mk.injEq] at H
     obtain ⟨rfl, rfl, rfl⟩ := H
     go_enter Tryd.func17, Tryd.ntmps17
     go_wp2_with (first | ((with_reducible refine gate_dst (N := 1) rfl ?_); refine box_event ?hg (N := 1) ?hd (cs := #[.int .i64 a0_0, .string a0_1, .int .i64 a0_2, .string a0_3, .string a0_4, .string a0_5, .bool a0_6]) (t := 25) ?hr ?_; (case hd => rfl); (case hg => rfl); (case hr => first | (go_simp; done) | (go_simp; rfl)); intro gb138 hg w6 hbox hb; have n0_ := Aside0.mk (below_step (by repeat (first | (with_reducible first | exact HB.out | apply below_alloc | apply pw_below_drewN | apply below_drew1) | exact HB.out)) hb); have n1_ := Aside0.mk (hbox); have n2_ := Aside0.mk ((by rw [hg]; exact (below_size (by repeat (first | (with_reducible first | exact HB.out | apply below_alloc | apply pw_below_drewN | apply below_drew1) | exact HB.out))) : w.heap.size ≤ gb138)); have n3_ := Aside0.mk ((by rw [hg]; exact (below_size (by repeat (first | (with_reducible first | exact HB.out | apply below_alloc | apply pw_below_drewN | apply below_drew1) | exact HB.out))) : w.heap.size ≤ gb138)); clear HB; have HB := n0_; have BK138 := n1_; have GW138 := n2_; have GE138 := n3_; clear n0_ n1_ n2_ n3_; clear hb hbox hg) | ((with_reducible refine gate_dst (N := 2) rfl ?_); refine box_event ?hg (N := 2) ?hd (cs := #[.int .i64 0, .string (⟨#[]⟩ : ByteArray), .string (⟨#[]⟩ : ByteArray)]) (t := 40) ?hr ?_; (case hd => rfl); (case hg => rfl); (case hr => first | (go_simp; done) | (go_simp; rfl)); intro gb139 hg w7 hbox hb; have n0_ := Aside0.mk (blk_below (g := gb138) (o := .cells #[.int .i64 a0_0, .string a0_1, .int .i64 a0_2, .string a0_3, .string a0_4, .string a0_5, .bool a0_6] 25 (0, 0)) (by (with_reducible repeat (first | refine blk_drewN ?_ _ | refine blk_drew ?_ | refine blk_alloc ?_ _)); exact BK138.out) hb); have n1_ := Aside0.mk (below_step (by repeat (first | (with_reducible first | exact HB.out | apply below_alloc | apply pw_below_drewN | apply below_drew1 | refine below_set ?_ GE138.out) | exact HB.out)) hb); have n2_ := Aside0.mk (hbox); have n3_ := Aside0.mk ((by rw [hg]; exact (below_size (by repeat (first | (with_reducible first | exact HB.out | apply below_alloc | apply pw_below_drewN | apply below_drew1 | refine below_set ?_ GE138.out) | exact HB.out))) : w.heap.size ≤ gb139)); have n4_ := Aside0.mk ((by rw [hg]; exact (below_size (by repeat (first | (with_reducible first | exact HB.out | apply below_alloc | apply pw_below_drewN | apply below_drew1 | refine below_set ?_ GE138.out) | exact HB.out))) : w.heap.size ≤ gb139)); have n5_ := Aside0.mk ((by rw [hg]; exact Nat.ne_of_lt (blk_lt (g := gb138) (o := .cells #[.int .i64 a0_0, .string a0_1, .int .i64 a0_2, .string a0_3, .string a0_4, .string a0_5, .bool a0_6] 25 (0, 0)) (by (with_reducible repeat (first | refine blk_drewN ?_ _ | refine blk_drew ?_ | refine blk_alloc ?_ _)); exact BK138.out)) : gb138 ≠ gb139)); have n6_ := Aside0.mk ((by rw [hg]; exact Nat.ne_of_gt (blk_lt (g := gb138) (o := .cells #[.int .i64 a0_0, .string a0_1, .int .i64 a0_2, .string a0_3, .string a0_4, .string a0_5, .bool a0_6] 25 (0, 0)) (by (with_reducible repeat (first | refine blk_drewN ?_ _ | refine blk_drew ?_ | refine blk_alloc ?_ _)); exact BK138.out)) : gb139 ≠ gb138)); clear BK138; clear HB; have BK138 := n0_; have HB := n1_; have BK139 := n2_; have GW139 := n3_; have GE139 := n4_; have NB138_139 := n5_; have NB139_138 := n6_; clear n0_ n1_ n2_ n3_ n4_ n5_ n6_; clear hb hbox hg; have hnb8 := NB138_139.out; have hnc8 := NB139_138.out; have hcz9_0 : w7.cell? ⟨gb138, 0, none⟩ = some (.int .i64 a0_0) := (blk_cell BK138.out 0).trans rfl; have hcz9_1 : w7.cell? ⟨gb138, 1, none⟩ = some (.string a0_1) := (blk_cell BK138.out 1).trans rfl; have hcz9_2 : w7.cell? ⟨gb138, 2, none⟩ = some (.int .i64 a0_2) := (blk_cell BK138.out 2).trans rfl; have hcz9_3 : w7.cell? ⟨gb138, 3, none⟩ = some (.string a0_3) := (blk_cell BK138.out 3).trans rfl; have hcz9_4 : w7.cell? ⟨gb138, 4, none⟩ = some (.string a0_4) := (blk_cell BK138.out 4).trans rfl; have hcz9_5 : w7.cell? ⟨gb138, 5, none⟩ = some (.string a0_5) := (blk_cell BK138.out 5).trans rfl; have hcz9_6 : w7.cell? ⟨gb138, 6, none⟩ = some (.bool a0_6) := (blk_cell BK138.out 6).trans rfl; have hfz9_0 := blk_frozen BK138.out 0; have hfz9_1 := blk_frozen BK138.out 1; have hfz9_2 := blk_frozen BK138.out 2; have hfz9_3 := blk_frozen BK138.out 3; have hfz9_4 := blk_frozen BK138.out 4; have hfz9_5 := blk_frozen BK138.out 5; have hfz9_6 := blk_frozen BK138.out 6; obtain ⟨hcz10_0, hcz10_1, hcz10_2⟩ := cells3_ BK139.out; obtain ⟨hfz10_0, hfz10_1, hfz10_2⟩ := frz3_ BK139.out))
     refine bodyPost_ret (results_cell_row rfl _ _ gb139 40 #[.int .i64 0, .string (⟨#[]⟩ : ByteArray), .string (⟨#[]⟩ : ByteArray)] (0, 0) _ rfl (by (with_reducible repeat (first | refine blk_drewN ?_ _ | refine blk_drew ?_ | refine blk_alloc ?_ _)); exact put3_ (by (with_reducible repeat (first | refine blk_drewN ?_ _ | refine blk_drew ?_ | refine blk_alloc ?_ _)); exact BK139.out)) Tryd.underlying40 rfl (by kernel_rfl)) rfl ?_
     exact ⟨by first | rfl | (simp [isEmpty_ne_]; done) | (simp [*, errW_none, errW_some] <;> rfl), by repeat (first | (with_reducible first | exact HB.out | apply below_alloc | apply pw_below_drewN | apply below_drew1 | refine below_set ?_ GE138.out | refine below_set ?_ GE139.out) | exact HB.out)⟩
    ·rw [if_neg c5] at H
     have c5b0 : (a0_1.toList == ([] : List UInt8)) = false := beq_eq_false_iff_ne.mpr c5
     have c5b1 : (a0_1.toList != ([] : List UInt8)) = true := bne_iff_ne.mpr c5
     simp only [Option.some.injEq, Prod.mk.injEq] at H
     obtain ⟨rfl, rfl, rfl⟩ := H
     go_enter Tryd.func17, Tryd.ntmps17
     go_wp2_with (first | ((with_reducible refine gate_dst (N := 1) rfl ?_); refine box_event ?hg (N := 1) ?hd (cs := #[.int .i64 a0_0, .string a0_1, .int .i64 a0_2, .string a0_3, .string a0_4, .string a0_5, .bool a0_6]) (t := 25) ?hr ?_; (case hd => rfl); (case hg => rfl); (case hr => first | (go_simp; done) | (go_simp; rfl)); intro gb138 hg w11 hbox hb; have n0_ := Aside0.mk (below_step (by repeat (first | (with_reducible first | exact HB.out | apply below_alloc | apply pw_below_drewN | apply below_drew1) | exact HB.out)) hb); have n1_ := Aside0.mk (hbox); have n2_ := Aside0.mk ((by rw [hg]; exact (below_size (by repeat (first | (with_reducible first | exact HB.out | apply below_alloc | apply pw_below_drewN | apply below_drew1) | exact HB.out))) : w.heap.size ≤ gb138)); have n3_ := Aside0.mk ((by rw [hg]; exact (below_size (by repeat (first | (with_reducible first | exact HB.out | apply below_alloc | apply pw_below_drewN | apply below_drew1) | exact HB.out))) : w.heap.size ≤ gb138)); clear HB; have HB := n0_; have BK138 := n1_; have GW138 := n2_; have GE138 := n3_; clear n0_ n1_ n2_ n3_; clear hb hbox hg) | ((with_reducible refine gate_dst (N := 2) rfl ?_); refine box_event ?hg (N := 2) ?hd (cs := #[.int .i64 0, .string (⟨#[]⟩ : ByteArray), .string (⟨#[]⟩ : ByteArray)]) (t := 40) ?hr ?_; (case hd => rfl); (case hg => rfl); (case hr => first | (go_simp; done) | (go_simp; rfl)); intro gb139 hg w12 hbox hb; have n0_ := Aside0.mk (blk_below (g := gb138) (o := .cells #[.int .i64 a0_0, .string a0_1, .int .i64 a0_2, .string a0_3, .string a0_4, .string a0_5, .bool a0_6] 25 (0, 0)) (by (with_reducible repeat (first | refine blk_drewN ?_ _ | refine blk_drew ?_ | refine blk_alloc ?_ _)); exact BK138.out) hb); have n1_ := Aside0.mk (below_step (by repeat (first | (with_reducible first | exact HB.out | apply below_alloc | apply pw_below_drewN | apply below_drew1 | refine below_set ?_ GE138.out) | exact HB.out)) hb); have n2_ := Aside0.mk (hbox); have n3_ := Aside0.mk ((by rw [hg]; exact (below_size (by repeat (first | (with_reducible first | exact HB.out | apply below_alloc | apply pw_below_drewN | apply below_drew1 | refine below_set ?_ GE138.out) | exact HB.out))) : w.heap.size ≤ gb139)); have n4_ := Aside0.mk ((by rw [hg]; exact (below_size (by repeat (first | (with_reducible first | exact HB.out | apply below_alloc | apply pw_below_drewN | apply below_drew1 | refine below_set ?_ GE138.out) | exact HB.out))) : w.heap.size ≤ gb139)); have n5_ := Aside0.mk ((by rw [hg]; exact Nat.ne_of_lt (blk_lt (g := gb138) (o := .cells #[.int .i64 a0_0, .string a0_1, .int .i64 a0_2, .string a0_3, .string a0_4, .string a0_5, .bool a0_6] 25 (0, 0)) (by (with_reducible repeat (first | refine blk_drewN ?_ _ | refine blk_drew ?_ | refine blk_alloc ?_ _)); exact BK138.out)) : gb138 ≠ gb139)); have n6_ := Aside0.mk ((by rw [hg]; exact Nat.ne_of_gt (blk_lt (g := gb138) (o := .cells #[.int .i64 a0_0, .string a0_1, .int .i64 a0_2, .string a0_3, .string a0_4, .string a0_5, .bool a0_6] 25 (0, 0)) (by (with_reducible repeat (first | refine blk_drewN ?_ _ | refine blk_drew ?_ | refine blk_alloc ?_ _)); exact BK138.out)) : gb139 ≠ gb138)); clear BK138; clear HB; have BK138 := n0_; have HB := n1_; have BK139 := n2_; have GW139 := n3_; have GE139 := n4_; have NB138_139 := n5_; have NB139_138 := n6_; clear n0_ n1_ n2_ n3_ n4_ n5_ n6_; clear hb hbox hg; have hnb13 := NB138_139.out; have hnc13 := NB139_138.out; have hcz14_0 : w12.cell? ⟨gb138, 0, none⟩ = some (.int .i64 a0_0) := (blk_cell BK138.out 0).trans rfl; have hcz14_1 : w12.cell? ⟨gb138, 1, none⟩ = some (.string a0_1) := (blk_cell BK138.out 1).trans rfl; have hcz14_2 : w12.cell? ⟨gb138, 2, none⟩ = some (.int .i64 a0_2) := (blk_cell BK138.out 2).trans rfl; have hcz14_3 : w12.cell? ⟨gb138, 3, none⟩ = some (.string a0_3) := (blk_cell BK138.out 3).trans rfl; have hcz14_4 : w12.cell? ⟨gb138, 4, none⟩ = some (.string a0_4) := (blk_cell BK138.out 4).trans rfl; have hcz14_5 : w12.cell? ⟨gb138, 5, none⟩ = some (.string a0_5) := (blk_cell BK138.out 5).trans rfl; have hcz14_6 : w12.cell? ⟨gb138, 6, none⟩ = some (.bool a0_6) := (blk_cell BK138.out 6).trans rfl; have hfz14_0 := blk_frozen BK138.out 0; have hfz14_1 := blk_frozen BK138.out 1; have hfz14_2 := blk_frozen BK138.out 2; have hfz14_3 := blk_frozen BK138.out 3; have hfz14_4 := blk_frozen BK138.out 4; have hfz14_5 := blk_frozen BK138.out 5; have hfz14_6 := blk_frozen BK138.out 6; obtain ⟨hcz15_0, hcz15_1, hcz15_2⟩ := cells3_ BK139.out; obtain ⟨hfz15_0, hfz15_1, hfz15_2⟩ := frz3_ BK139.out))
     refine bodyPost_ret (results_cell_row rfl _ _ gb139 40 #[.int .i64 53, .string (⟨#[]⟩ : ByteArray), .string (⟨#[110, 97, 109, 101, 32, 119, 105, 116, 104, 111, 117, 116, 32, 112, 97, 115, 115, 119, 111, 114, 100]⟩ : ByteArray)] (0, 0) _ rfl (by (with_reducible repeat (first | refine blk_drewN ?_ _ | refine blk_drew ?_ | refine blk_alloc ?_ _)); exact put3_ (by (with_reducible repeat (first | refine blk_drewN ?_ _ | refine blk_drew ?_ | refine blk_alloc ?_ _)); exact BK139.out)) Tryd.underlying40 rfl (by kernel_rfl)) rfl ?_
     exact ⟨by first | rfl | (simp [isEmpty_ne_]; done) | (simp [*, errW_none, errW_some] <;> rfl), by repeat (first | (with_reducible first | exact HB.out | apply below_alloc | apply pw_below_drewN | apply below_drew1 | refine below_set ?_ GE138.out | refine below_set ?_ GE139.out) | exact HB.out)⟩
   ·rw [if_neg c4] at H
    have c4b0 : (a0_3.toList == ([] : List UInt8)) = false := beq_eq_false_iff_ne.mpr c4
    have c4b1 : (a0_3.toList != ([] : List UInt8)) = true := bne_iff_ne.mpr c4
    simp only [Option.some.injEq, Prod.mk.injEq] at H
    obtain ⟨rfl, rfl, rfl⟩ := H
    go_enter Tryd.func17, Tryd.ntmps17
    go_wp2_with (first | ((with_reducible refine gate_dst (N := 1) rfl ?_); refine box_event ?hg (N := 1) ?hd (cs := #[.int .i64 a0_0, .string a0_1, .int .i64 a0_2, .string a0_3, .string a0_4, .string a0_5, .bool a0_6]) (t := 25) ?hr ?_; (case hd => rfl); (case hg => rfl); (case hr => first | (go_simp; done) | (go_simp; rfl)); intro gb138 hg w16 hbox hb; have n0_ := Aside0.mk (below_step (by repeat (first | (with_reducible first | exact HB.out | apply below_alloc | apply pw_below_drewN | apply below_drew1) | exact HB.out)) hb); have n1_ := Aside0.mk (hbox); have n2_ := Aside0.mk ((by rw [hg]; exact (below_size (by repeat (first | (with_reducible first | exact HB.out | apply below_alloc | apply pw_below_drewN | apply below_drew1) | exact HB.out))) : w.heap.size ≤ gb138)); have n3_ := Aside0.mk ((by rw [hg]; exact (below_size (by repeat (first | (with_reducible first | exact HB.out | apply below_alloc | apply pw_below_drewN | apply below_drew1) | exact HB.out))) : w.heap.size ≤ gb138)); clear HB; have HB := n0_; have BK138 := n1_; have GW138 := n2_; have GE138 := n3_; clear n0_ n1_ n2_ n3_; clear hb hbox hg) | ((with_reducible refine gate_dst (N := 2) rfl ?_); refine box_event ?hg (N := 2) ?hd (cs := #[.int .i64 0, .string (⟨#[]⟩ : ByteArray), .string (⟨#[]⟩ : ByteArray)]) (t := 40) ?hr ?_; (case hd => rfl); (case hg => rfl); (case hr => first | (go_simp; done) | (go_simp; rfl)); intro gb139 hg w17 hbox hb; have n0_ := Aside0.mk (blk_below (g := gb138) (o := .cells #[.int .i64 a0_0, .string a0_1, .int .i64 a0_2, .string a0_3, .string a0_4, .string a0_5, .bool a0_6] 25 (0, 0)) (by (with_reducible repeat (first | refine blk_drewN ?_ _ | refine blk_drew ?_ | refine blk_alloc ?_ _)); exact BK138.out) hb); have n1_ := Aside0.mk (below_step (by repeat (first | (with_reducible first | exact HB.out | apply below_alloc | apply pw_below_drewN | apply below_drew1 | refine below_set ?_ GE138.out) | exact HB.out)) hb); have n2_ := Aside0.mk (hbox); have n3_ := Aside0.mk ((by rw [hg]; exact (below_size (by repeat (first | (with_reducible first | exact HB.out | apply below_alloc | apply pw_below_drewN | apply below_drew1 | refine below_set ?_ GE138.out) | exact HB.out))) : w.heap.size ≤ gb139)); have n4_ := Aside0.mk ((by rw [hg]; exact (below_size (by repeat (first | (with_reducible first | exact HB.out | apply below_alloc | apply pw_below_drewN | apply below_drew1 | refine below_set ?_ GE138.out) | exact HB.out))) : w.heap.size ≤ gb139)); have n5_ := Aside0.mk ((by rw [hg]; exact Nat.ne_of_lt (blk_lt (g := gb138) (o := .cells #[.int .i64 a0_0, .string a0_1, .int .i64 a0_2, .string a0_3, .string a0_4, .string a0_5, .bool a0_6] 25 (0, 0)) (by (with_reducible repeat (first | refine blk_drewN ?_ _ | refine blk_drew ?_ | refine blk_alloc ?_ _)); exact BK138.out)) : gb138 ≠ gb139)); have n6_ := Aside0.mk ((by rw [hg]; exact Nat.ne_of_gt (blk_lt (g := gb138) (o := .cells #[.int .i64 a0_0, .string a0_1, .int .i64 a0_2, .string a0_3, .string a0_4, .string a0_5, .bool a0_6] 25 (0, 0)) (by (with_reducible repeat (first | refine blk_drewN ?_ _ | refine blk_drew ?_ | refine blk_alloc ?_ _)); exact BK138.out)) : gb139 ≠ gb138)); clear BK138; clear HB; have BK138 := n0_; have HB := n1_; have BK139 := n2_; have GW139 := n3_; have GE139 := n4_; have NB138_139 := n5_; have NB139_138 := n6_; clear n0_ n1_ n2_ n3_ n4_ n5_ n6_; clear hb hbox hg; have hnb18 := NB138_139.out; have hnc18 := NB139_138.out; have hcz19_0 : w17.cell? ⟨gb138, 0, none⟩ = some (.int .i64 a0_0) := (blk_cell BK138.out 0).trans rfl; have hcz19_1 : w17.cell? ⟨gb138, 1, none⟩ = some (.string a0_1) := (blk_cell BK138.out 1).trans rfl; have hcz19_2 : w17.cell? ⟨gb138, 2, none⟩ = some (.int .i64 a0_2) := (blk_cell BK138.out 2).trans rfl; have hcz19_3 : w17.cell? ⟨gb138, 3, none⟩ = some (.string a0_3) := (blk_cell BK138.out 3).trans rfl; have hcz19_4 : w17.cell? ⟨gb138, 4, none⟩ = some (.string a0_4) := (blk_cell BK138.out 4).trans rfl; have hcz19_5 : w17.cell? ⟨gb138, 5, none⟩ = some (.string a0_5) := (blk_cell BK138.out 5).trans rfl; have hcz19_6 : w17.cell? ⟨gb138, 6, none⟩ = some (.bool a0_6) := (blk_cell BK138.out 6).trans rfl; have hfz19_0 := blk_frozen BK138.out 0; have hfz19_1 := blk_frozen BK138.out 1; have hfz19_2 := blk_frozen BK138.out 2; have hfz19_3 := blk_frozen BK138.out 3; have hfz19_4 := blk_frozen BK138.out 4; have hfz19_5 := blk_frozen BK138.out 5; have hfz19_6 := blk_frozen BK138.out 6; obtain ⟨hcz20_0, hcz20_1, hcz20_2⟩ := cells3_ BK139.out; obtain ⟨hfz20_0, hfz20_1, hfz20_2⟩ := frz3_ BK139.out))
    refine bodyPost_ret (results_cell_row rfl _ _ gb139 40 #[.int .i64 49, .string (⟨#[]⟩ : ByteArray), .string (⟨#[97, 110, 111, 110, 121, 109, 111, 117, 115, 32, 111, 110, 108, 121]⟩ : ByteArray)] (0, 0) _ rfl (by (with_reducible repeat (first | refine blk_drewN ?_ _ | refine blk_drew ?_ | refine blk_alloc ?_ _)); exact put3_ (by (with_reducible repeat (first | refine blk_drewN ?_ _ | refine blk_drew ?_ | refine blk_alloc ?_ _)); exact BK139.out)) Tryd.underlying40 rfl (by kernel_rfl)) rfl ?_
    exact ⟨by first | rfl | (simp [isEmpty_ne_]; done) | (simp [*, errW_none, errW_some] <;> rfl), by repeat (first | (with_reducible first | exact HB.out | apply below_alloc | apply pw_below_drewN | apply below_drew1 | refine below_set ?_ GE138.out | refine below_set ?_ GE139.out) | exact HB.out)⟩
  ·rw [if_neg c3] at H
   have c3b0 : (a0_2 == 0) = false := beq_eq_false_iff_ne.mpr c3
   have c3b1 : (a0_2 != 0) = true := bne_iff_ne.mpr c3
   simp only [Option.some.injEq, Prod.mk.injEq] at H
   obtain ⟨rfl, rfl, rfl⟩ := H
   go_enter Tryd.func17, Tryd.ntmps17
   go_wp2_with (first | ((with_reducible refine gate_dst (N := 1) rfl ?_); refine box_event ?hg (N := 1) ?hd (cs := #[.int .i64 a0_0, .string a0_1, .int .i64 a0_2, .string a0_3, .string a0_4, .string a0_5, .bool a0_6]) (t := 25) ?hr ?_; (case hd => rfl); (case hg => rfl); (case hr => first | (go_simp; done) | (go_simp; rfl)); intro gb138 hg w21 hbox hb; have n0_ := Aside0.mk (below_step (by repeat (first | (with_reducible first | exact HB.out | apply below_alloc | apply pw_below_drewN | apply below_drew1) | exact HB.out)) hb); have n1_ := Aside0.mk (hbox); have n2_ := Aside0.mk ((by rw [hg]; exact (below_size (by repeat (first | (with_reducible first | exact HB.out | apply below_alloc | apply pw_below_drewN | apply below_drew1) | exact HB.out))) : w.heap.size ≤ gb138)); have n3_ := Aside0.mk ((by rw [hg]; exact (below_size (by repeat (first | (with_reducible first | exact HB.out | apply below_alloc | apply pw_below_drewN | apply below_drew1) | exact HB.out))) : w.heap.size ≤ gb138)); clear HB; have HB := n0_; have BK138 := n1_; have GW138 := n2_; have GE138 := n3_; clear n0_ n1_ n2_ n3_; clear hb hbox hg) | ((with_reducible refine gate_dst (N := 2) rfl ?_); refine box_event ?hg (N := 2) ?hd (cs := #[.int .i64 0, .string (⟨#[]⟩ : ByteArray), .string (⟨#[]⟩ : ByteArray)]) (t := 40) ?hr ?_; (case hd => rfl); (case hg => rfl); (case hr => first | (go_simp; done) | (go_simp; rfl)); intro gb139 hg w22 hbox hb; have n0_ := Aside0.mk (blk_below (g := gb138) (o := .cells #[.int .i64 a0_0, .string a0_1, .int .i64 a0_2, .string a0_3, .string a0_4, .string a0_5, .bool a0_6] 25 (0, 0)) (by (with_reducible repeat (first | refine blk_drewN ?_ _ | refine blk_drew ?_ | refine blk_alloc ?_ _)); exact BK138.out) hb); have n1_ := Aside0.mk (below_step (by repeat (first | (with_reducible first | exact HB.out | apply below_alloc | apply pw_below_drewN | apply below_drew1 | refine below_set ?_ GE138.out) | exact HB.out)) hb); have n2_ := Aside0.mk (hbox); have n3_ := Aside0.mk ((by rw [hg]; exact (below_size (by repeat (first | (with_reducible first | exact HB.out | apply below_alloc | apply pw_below_drewN | apply below_drew1 | refine below_set ?_ GE138.out) | exact HB.out))) : w.heap.size ≤ gb139)); have n4_ := Aside0.mk ((by rw [hg]; exact (below_size (by repeat (first | (with_reducible first | exact HB.out | apply below_alloc | apply pw_below_drewN | apply below_drew1 | refine below_set ?_ GE138.out) | exact HB.out))) : w.heap.size ≤ gb139)); have n5_ := Aside0.mk ((by rw [hg]; exact Nat.ne_of_lt (blk_lt (g := gb138) (o := .cells #[.int .i64 a0_0, .string a0_1, .int .i64 a0_2, .string a0_3, .string a0_4, .string a0_5, .bool a0_6] 25 (0, 0)) (by (with_reducible repeat (first | refine blk_drewN ?_ _ | refine blk_drew ?_ | refine blk_alloc ?_ _)); exact BK138.out)) : gb138 ≠ gb139)); have n6_ := Aside0.mk ((by rw [hg]; exact Nat.ne_of_gt (blk_lt (g := gb138) (o := .cells #[.int .i64 a0_0, .string a0_1, .int .i64 a0_2, .string a0_3, .string a0_4, .string a0_5, .bool a0_6] 25 (0, 0)) (by (with_reducible repeat (first | refine blk_drewN ?_ _ | refine blk_drew ?_ | refine blk_alloc ?_ _)); exact BK138.out)) : gb139 ≠ gb138)); clear BK138; clear HB; have BK138 := n0_; have HB := n1_; have BK139 := n2_; have GW139 := n3_; have GE139 := n4_; have NB138_139 := n5_; have NB139_138 := n6_; clear n0_ n1_ n2_ n3_ n4_ n5_ n6_; clear hb hbox hg; have hnb23 := NB138_139.out; have hnc23 := NB139_138.out; have hcz24_0 : w22.cell? ⟨gb138, 0, none⟩ = some (.int .i64 a0_0) := (blk_cell BK138.out 0).trans rfl; have hcz24_1 : w22.cell? ⟨gb138, 1, none⟩ = some (.string a0_1) := (blk_cell BK138.out 1).trans rfl; have hcz24_2 : w22.cell? ⟨gb138, 2, none⟩ = some (.int .i64 a0_2) := (blk_cell BK138.out 2).trans rfl; have hcz24_3 : w22.cell? ⟨gb138, 3, none⟩ = some (.string a0_3) := (blk_cell BK138.out 3).trans rfl; have hcz24_4 : w22.cell? ⟨gb138, 4, none⟩ = some (.string a0_4) := (blk_cell BK138.out 4).trans rfl; have hcz24_5 : w22.cell? ⟨gb138, 5, none⟩ = some (.string a0_5) := (blk_cell BK138.out 5).trans rfl; have hcz24_6 : w22.cell? ⟨gb138, 6, none⟩ = some (.bool a0_6) := (blk_cell BK138.out 6).trans rfl; have hfz24_0 := blk_frozen BK138.out 0; have hfz24_1 := blk_frozen BK138.out 1; have hfz24_2 := blk_frozen BK138.out 2; have hfz24_3 := blk_frozen BK138.out 3; have hfz24_4 := blk_frozen BK138.out 4; have hfz24_5 := blk_frozen BK138.out 5; have hfz24_6 := blk_frozen BK138.out 6; obtain ⟨hcz25_0, hcz25_1, hcz25_2⟩ := cells3_ BK139.out; obtain ⟨hfz25_0, hfz25_1, hfz25_2⟩ := frz3_ BK139.out))
   refine bodyPost_ret (results_cell_row rfl _ _ gb139 40 #[.int .i64 7, .string (⟨#[]⟩ : ByteArray), .string (⟨#[115, 105, 109, 112, 108, 101, 32, 111, 110, 108, 121]⟩ : ByteArray)] (0, 0) _ rfl (by (with_reducible repeat (first | refine blk_drewN ?_ _ | refine blk_drew ?_ | refine blk_alloc ?_ _)); exact put3_ (by (with_reducible repeat (first | refine blk_drewN ?_ _ | refine blk_drew ?_ | refine blk_alloc ?_ _)); exact BK139.out)) Tryd.underlying40 rfl (by kernel_rfl)) rfl ?_
   exact ⟨by first | rfl | (simp [isEmpty_ne_]; done) | (simp [*, errW_none, errW_some] <;> rfl), by repeat (first | (with_reducible first | exact HB.out | apply below_alloc | apply pw_below_drewN | apply below_drew1 | refine below_set ?_ GE138.out | refine below_set ?_ GE139.out) | exact HB.out)⟩
 ·rw [if_neg c2] at H
  have c2b0 : (a0_0 == 3) = false := beq_eq_false_iff_ne.mpr c2
  have c2b1 : (a0_0 != 3) = true := bne_iff_ne.mpr c2
  simp only [Option.some.injEq, Prod.mk.injEq] at H
  obtain ⟨rfl, rfl, rfl⟩ := H
  go_enter Tryd.func17, Tryd.ntmps17
  go_wp2_with (first | ((with_reducible refine gate_dst (N := 1) rfl ?_); refine box_event ?hg (N := 1) ?hd (cs := #[.int .i64 a0_0, .string a0_1, .int .i64 a0_2, .string a0_3, .string a0_4, .string a0_5, .bool a0_6]) (t := 25) ?hr ?_; (case hd => rfl); (case hg => rfl); (case hr => first | (go_simp; done) | (go_simp; rfl)); intro gb138 hg w26 hbox hb; have n0_ := Aside0.mk (below_step (by repeat (first | (with_reducible first | exact HB.out | apply below_alloc | apply pw_below_drewN | apply below_drew1) | exact HB.out)) hb); have n1_ := Aside0.mk (hbox); have n2_ := Aside0.mk ((by rw [hg]; exact (below_size (by repeat (first | (with_reducible first | exact HB.out | apply below_alloc | apply pw_below_drewN | apply below_drew1) | exact HB.out))) : w.heap.size ≤ gb138)); have n3_ := Aside0.mk ((by rw [hg]; exact (below_size (by repeat (first | (with_reducible first | exact HB.out | apply below_alloc | apply pw_below_drewN | apply below_drew1) | exact HB.out))) : w.heap.size ≤ gb138)); clear HB; have HB := n0_; have BK138 := n1_; have GW138 := n2_; have GE138 := n3_; clear n0_ n1_ n2_ n3_; clear hb hbox hg) | ((with_reducible refine gate_dst (N := 2) rfl ?_); refine box_event ?hg (N := 2) ?hd (cs := #[.int .i64 0, .string (⟨#[]⟩ : ByteArray), .string (⟨#[]⟩ : ByteArray)]) (t := 40) ?hr ?_; (case hd => rfl); (case hg => rfl); (case hr => first | (go_simp; done) | (go_simp; rfl)); intro gb139 hg w27 hbox hb; have n0_ := Aside0.mk (blk_below (g := gb138) (o := .cells #[.int .i64 a0_0, .string a0_1, .int .i64 a0_2, .string a0_3, .string a0_4, .string a0_5, .bool a0_6] 25 (0, 0)) (by (with_reducible repeat (first | refine blk_drewN ?_ _ | refine blk_drew ?_ | refine blk_alloc ?_ _)); exact BK138.out) hb); have n1_ := Aside0.mk (below_step (by repeat (first | (with_reducible first | exact HB.out | apply below_alloc | apply pw_below_drewN | apply below_drew1 | refine below_set ?_ GE138.out) | exact HB.out)) hb); have n2_ := Aside0.mk (hbox); have n3_ := Aside0.mk ((by rw [hg]; exact (below_size (by repeat (first | (with_reducible first | exact HB.out | apply below_alloc | apply pw_below_drewN | apply below_drew1 | refine below_set ?_ GE138.out) | exact HB.out))) : w.heap.size ≤ gb139)); have n4_ := Aside0.mk ((by rw [hg]; exact (below_size (by repeat (first | (with_reducible first | exact HB.out | apply below_alloc | apply pw_below_drewN | apply below_drew1 | refine below_set ?_ GE138.out) | exact HB.out))) : w.heap.size ≤ gb139)); have n5_ := Aside0.mk ((by rw [hg]; exact Nat.ne_of_lt (blk_lt (g := gb138) (o := .cells #[.int .i64 a0_0, .string a0_1, .int .i64 a0_2, .string a0_3, .string a0_4, .string a0_5, .bool a0_6] 25 (0, 0)) (by (with_reducible repeat (first | refine blk_drewN ?_ _ | refine blk_drew ?_ | refine blk_alloc ?_ _)); exact BK138.out)) : gb138 ≠ gb139)); have n6_ := Aside0.mk ((by rw [hg]; exact Nat.ne_of_gt (blk_lt (g := gb138) (o := .cells #[.int .i64 a0_0, .string a0_1, .int .i64 a0_2, .string a0_3, .string a0_4, .string a0_5, .bool a0_6] 25 (0, 0)) (by (with_reducible repeat (first | refine blk_drewN ?_ _ | refine blk_drew ?_ | refine blk_alloc ?_ _)); exact BK138.out)) : gb139 ≠ gb138)); clear BK138; clear HB; have BK138 := n0_; have HB := n1_; have BK139 := n2_; have GW139 := n3_; have GE139 := n4_; have NB138_139 := n5_; have NB139_138 := n6_; clear n0_ n1_ n2_ n3_ n4_ n5_ n6_; clear hb hbox hg; have hnb28 := NB138_139.out; have hnc28 := NB139_138.out; have hcz29_0 : w27.cell? ⟨gb138, 0, none⟩ = some (.int .i64 a0_0) := (blk_cell BK138.out 0).trans rfl; have hcz29_1 : w27.cell? ⟨gb138, 1, none⟩ = some (.string a0_1) := (blk_cell BK138.out 1).trans rfl; have hcz29_2 : w27.cell? ⟨gb138, 2, none⟩ = some (.int .i64 a0_2) := (blk_cell BK138.out 2).trans rfl; have hcz29_3 : w27.cell? ⟨gb138, 3, none⟩ = some (.string a0_3) := (blk_cell BK138.out 3).trans rfl; have hcz29_4 : w27.cell? ⟨gb138, 4, none⟩ = some (.string a0_4) := (blk_cell BK138.out 4).trans rfl; have hcz29_5 : w27.cell? ⟨gb138, 5, none⟩ = some (.string a0_5) := (blk_cell BK138.out 5).trans rfl; have hcz29_6 : w27.cell? ⟨gb138, 6, none⟩ = some (.bool a0_6) := (blk_cell BK138.out 6).trans rfl; have hfz29_0 := blk_frozen BK138.out 0; have hfz29_1 := blk_frozen BK138.out 1; have hfz29_2 := blk_frozen BK138.out 2; have hfz29_3 := blk_frozen BK138.out 3; have hfz29_4 := blk_frozen BK138.out 4; have hfz29_5 := blk_frozen BK138.out 5; have hfz29_6 := blk_frozen BK138.out 6; obtain ⟨hcz30_0, hcz30_1, hcz30_2⟩ := cells3_ BK139.out; obtain ⟨hfz30_0, hfz30_1, hfz30_2⟩ := frz3_ BK139.out))
  refine bodyPost_ret (results_cell_row rfl _ _ gb139 40 #[.int .i64 2, .string (⟨#[]⟩ : ByteArray), .string (⟨#[118, 101, 114, 115, 105, 111, 110, 32, 51, 32, 111, 110, 108, 121]⟩ : ByteArray)] (0, 0) _ rfl (by (with_reducible repeat (first | refine blk_drewN ?_ _ | refine blk_drew ?_ | refine blk_alloc ?_ _)); exact put3_ (by (with_reducible repeat (first | refine blk_drewN ?_ _ | refine blk_drew ?_ | refine blk_alloc ?_ _)); exact BK139.out)) Tryd.underlying40 rfl (by kernel_rfl)) rfl ?_
  exact ⟨by first | rfl | (simp [isEmpty_ne_]; done) | (simp [*, errW_none, errW_some] <;> rfl), by repeat (first | (with_reducible first | exact HB.out | apply below_alloc | apply pw_below_drewN | apply below_drew1 | refine below_set ?_ GE138.out | refine below_set ?_ GE139.out) | exact HB.out)⟩

/-! ### msg_Notice: function 9 -/
def msg_Notice.f (a0 : ByteArray) : Option (Int × Int × Int × ByteArray × ByteArray × ByteArray × (List (S75)) × ByteArray × Bool × (List (S52))) := some (0, 8, 2, (⟨#[]⟩ : ByteArray), a0, (⟨#[]⟩ : ByteArray), ([] : List (S75)), (⟨#[49, 46, 51, 46, 54, 46, 49, 46, 52, 46, 49, 46, 49, 52, 54, 54, 46, 50, 48, 48, 51, 54]⟩ : ByteArray), true, ([] : List (S52)))
set_option maxHeartbeats 8000000 in
set_option maxRecDepth 100000 in
theorem msg_Notice.calls (a0 : ByteArray) (r1 : Int) (r2 : Int) (r3 : Int) (r4 : ByteArray) (r5 : ByteArray) (r6 : ByteArray) (r7 : List (S75)) (r8 : ByteArray) (r9 : Bool) (r10 : List (S52)) (w : World) (h : msg_Notice.f a0 = some (r1, r2, r3, r4, r5, r6, r7, r8, r9, r10)) :
  Calls Tryd.prog 9 #[.string a0] w fun e w' => ∃ v6_ v9_ : Value, e = .returned (.agg #[.int .i64 r1, .int .i64 r2, .int .i64 r3, .string r4, .string r5, .string r6, v6_, .string r8, .bool r9, v9_]) ∧ Kd.S k75 75 w' w.heap.size (fun _ => True) v6_ r7 ∧ Kd.R k52 52 w' w.heap.size (fun _ => True) v9_ r10 ∧ Below w.heap.size w w' := by
 have hu42 := Tryd.underlying42
 have hu40 := Tryd.underlying40
 have HB := Aside0.mk (Below.refl w.heap.size w)
 have H : (some (0, 8, 2, (⟨#[]⟩ : ByteArray), a0, (⟨#[]⟩ : ByteArray), ([] : List (S75)), (⟨#[49, 46, 51, 46, 54, 46, 49, 46, 52, 46, 49, 46, 49, 52, 54, 54, 46, 50, 48, 48, 51, 54]⟩ : ByteArray), true, ([] : List (S52)))) = some (r1, r2, r3, r4, r5, r6, r7, r8, r9, r10) := h
 clear h
 simp only [Option.some.injEq, Prod.mk.injEq] at H
 obtain ⟨rfl, rfl, rfl, rfl, rfl, rfl, rfl, rfl, rfl, rfl⟩ := H
 go_enter Tryd.func9, Tryd.ntmps9
 go_wp2_with (first | ((with_reducible refine gate_dst (N := 2) rfl ?_); refine box_event ?hg (N := 2) ?hd (cs := #[.int .i64 0, .int .i64 0, .int .i64 0, .string (⟨#[]⟩ : ByteArray), .string (⟨#[]⟩ : ByteArray), .string (⟨#[]⟩ : ByteArray), .slice none 0 0, .string (⟨#[]⟩ : ByteArray), .bool false, .slice none 0 0]) (t := 42) ?hr ?_; (case hd => rfl); (case hg => rfl); (case hr => first | (go_simp; done) | (go_simp; rfl)); intro gb140 hg w2 hbox hb; have n0_ := Aside0.mk (below_step (by repeat (first | (with_reducible first | exact HB.out | apply below_alloc | apply pw_below_drewN | apply below_drew1) | exact HB.out)) hb); have n1_ := Aside0.mk (hbox); have n2_ := Aside0.mk ((by rw [hg]; exact (below_size (by repeat (first | (with_reducible first | exact HB.out | apply below_alloc | apply pw_below_drewN | apply below_drew1) | exact HB.out))) : w.heap.size ≤ gb140)); have n3_ := Aside0.mk ((by rw [hg]; exact (below_size (by repeat (first | (with_reducible first | exact HB.out | apply below_alloc | apply pw_below_drewN | apply below_drew1) | exact HB.out))) : w.heap.size ≤ gb140)); clear HB; have HB := n0_; have BK140 := n1_; have GW140 := n2_; have GE140 := n3_; clear n0_ n1_ n2_ n3_; clear hb hbox hg; have hcz3_0 : w2.cell? ⟨gb140, 0, none⟩ = some (.int .i64 0) := (blk_cell BK140.out 0).trans rfl; have hcz3_1 : w2.cell? ⟨gb140, 1, none⟩ = some (.int .i64 0) := (blk_cell BK140.out 1).trans rfl; have hcz3_2 : w2.cell? ⟨gb140, 2, none⟩ = some (.int .i64 0) := (blk_cell BK140.out 2).trans rfl; have hcz3_3 : w2.cell? ⟨gb140, 3, none⟩ = some (.string (⟨#[]⟩ : ByteArray)) := (blk_cell BK140.out 3).trans rfl; have hcz3_4 : w2.cell? ⟨gb140, 4, none⟩ = some (.string (⟨#[]⟩ : ByteArray)) := (blk_cell BK140.out 4).trans rfl; have hcz3_5 : w2.cell? ⟨gb140, 5, none⟩ = some (.string (⟨#[]⟩ : ByteArray)) := (blk_cell BK140.out 5).trans rfl; have hcz3_6 : w2.cell? ⟨gb140, 6, none⟩ = some (.slice none 0 0) := (blk_cell BK140.out 6).trans rfl; have hcz3_7 : w2.cell? ⟨gb140, 7, none⟩ = some (.string (⟨#[]⟩ : ByteArray)) := (blk_cell BK140.out 7).trans rfl; have hcz3_8 : w2.cell? ⟨gb140, 8, none⟩ = some (.bool false) := (blk_cell BK140.out 8).trans rfl; have hcz3_9 : w2.cell? ⟨gb140, 9, none⟩ = some (.slice none 0 0) := (blk_cell BK140.out 9).trans rfl; have hfz3_0 := blk_frozen BK140.out 0; have hfz3_1 := blk_frozen BK140.out 1; have hfz3_2 := blk_frozen BK140.out 2; have hfz3_3 := blk_frozen BK140.out 3; have hfz3_4 := blk_frozen BK140.out 4; have hfz3_5 := blk_frozen BK140.out 5; have hfz3_6 := blk_frozen BK140.out 6; have hfz3_7 := blk_frozen BK140.out 7; have hfz3_8 := blk_frozen BK140.out 8; have hfz3_9 := blk_frozen BK140.out 9))
 refine bodyPost_ret (results_cell_row rfl _ _ gb140 42 #[.int .i64 0, .int .i64 8, .int .i64 2, .string (⟨#[]⟩ : ByteArray), .string a0, .string (⟨#[]⟩ : ByteArray), .slice none 0 0, .string (⟨#[49, 46, 51, 46, 54, 46, 49, 46, 52, 46, 49, 46, 49, 52, 54, 54, 46, 50, 48, 48, 51, 54]⟩ : ByteArray), .bool true, .slice none 0 0] (0, 0) _ rfl (by (with_reducible repeat (first | refine blk_drewN ?_ _ | refine blk_drew ?_ | refine blk_alloc ?_ _)); refine blk_put (cs := #[.int .i64 0, .int .i64 8, .int .i64 2, .string (⟨#[]⟩ : ByteArray), .string a0, .string (⟨#[]⟩ : ByteArray), .slice none 0 0, .string (⟨#[49, 46, 51, 46, 54, 46, 49, 46, 52, 46, 49, 46, 49, 52, 54, 54, 46, 50, 48, 48, 51, 54]⟩ : ByteArray), .bool true, .slice none 0 0]) ?_ 9 _ rfl; (with_reducible repeat (first | refine blk_drewN ?_ _ | refine blk_drew ?_ | refine blk_alloc ?_ _)); refine blk_put (cs := #[.int .i64 0, .int .i64 8, .int .i64 2, .string (⟨#[]⟩ : ByteArray), .string a0, .string (⟨#[]⟩ : ByteArray), .slice none 0 0, .string (⟨#[49, 46, 51, 46, 54, 46, 49, 46, 52, 46, 49, 46, 49, 52, 54, 54, 46, 50, 48, 48, 51, 54]⟩ : ByteArray), .bool false, .slice none 0 0]) ?_ 8 _ rfl; (with_reducible repeat (first | refine blk_drewN ?_ _ | refine blk_drew ?_ | refine blk_alloc ?_ _)); refine blk_put (cs := #[.int .i64 0, .int .i64 8, .int .i64 2, .string (⟨#[]⟩ : ByteArray), .string a0, .string (⟨#[]⟩ : ByteArray), .slice none 0 0, .string (⟨#[]⟩ : ByteArray), .bool false, .slice none 0 0]) ?_ 7 _ rfl; (with_reducible repeat (first | refine blk_drewN ?_ _ | refine blk_drew ?_ | refine blk_alloc ?_ _)); refine blk_put (cs := #[.int .i64 0, .int .i64 8, .int .i64 2, .string (⟨#[]⟩ : ByteArray), .string a0, .string (⟨#[]⟩ : ByteArray), .slice none 0 0, .string (⟨#[]⟩ : ByteArray), .bool false, .slice none 0 0]) ?_ 6 _ rfl; (with_reducible repeat (first | refine blk_drewN ?_ _ | refine blk_drew ?_ | refine blk_alloc ?_ _)); refine blk_put (cs := #[.int .i64 0, .int .i64 8, .int .i64 2, .string (⟨#[]⟩ : ByteArray), .string a0, .string (⟨#[]⟩ : ByteArray), .slice none 0 0, .string (⟨#[]⟩ : ByteArray), .bool false, .slice none 0 0]) ?_ 5 _ rfl; (with_reducible repeat (first | refine blk_drewN ?_ _ | refine blk_drew ?_ | refine blk_alloc ?_ _)); refine blk_put (cs := #[.int .i64 0, .int .i64 8, .int .i64 2, .string (⟨#[]⟩ : ByteArray), .string (⟨#[]⟩ : ByteArray), .string (⟨#[]⟩ : ByteArray), .slice none 0 0, .string (⟨#[]⟩ : ByteArray), .bool false, .slice none 0 0]) ?_ 4 _ rfl; (with_reducible repeat (first | refine blk_drewN ?_ _ | refine blk_drew ?_ | refine blk_alloc ?_ _)); refine blk_put (cs := #[.int .i64 0, .int .i64 8, .int .i64 2, .string (⟨#[]⟩ : ByteArray), .string (⟨#[]⟩ : ByteArray), .string (⟨#[]⟩ : ByteArray), .slice none 0 0, .string (⟨#[]⟩ : ByteArray), .bool false, .slice none 0 0]) ?_ 3 _ rfl; (with_reducible repeat (first | refine blk_drewN ?_ _ | refine blk_drew ?_ | refine blk_alloc ?_ _)); refine blk_put (cs := #[.int .i64 0, .int .i64 8, .int .i64 0, .string (⟨#[]⟩ : ByteArray), .string (⟨#[]⟩ : ByteArray), .string (⟨#[]⟩ : ByteArray), .slice none 0 0, .string (⟨#[]⟩ : ByteArray), .bool false, .slice none 0 0]) ?_ 2 _ rfl; (with_reducible repeat (first | refine blk_drewN ?_ _ | refine blk_drew ?_ | refine blk_alloc ?_ _)); refine blk_put (cs := #[.int .i64 0, .int .i64 0, .int .i64 0, .string (⟨#[]⟩ : ByteArray), .string (⟨#[]⟩ : ByteArray), .string (⟨#[]⟩ : ByteArray), .slice none 0 0, .string (⟨#[]⟩ : ByteArray), .bool false, .slice none 0 0]) ?_ 1 _ rfl; (with_reducible repeat (first | refine blk_drewN ?_ _ | refine blk_drew ?_ | refine blk_alloc ?_ _)); refine blk_put (cs := #[.int .i64 0, .int .i64 0, .int .i64 0, .string (⟨#[]⟩ : ByteArray), .string (⟨#[]⟩ : ByteArray), .string (⟨#[]⟩ : ByteArray), .slice none 0 0, .string (⟨#[]⟩ : ByteArray), .bool false, .slice none 0 0]) ?_ 0 _ rfl; (with_reducible repeat (first | refine blk_drewN ?_ _ | refine blk_drew ?_ | refine blk_alloc ?_ _)); exact BK140.out) Tryd.underlying42 rfl (by kernel_rfl)) rfl ?_
 exact ⟨_, _, by first | rfl | (simp [isEmpty_ne_]; done) | (simp [*, errW_none, errW_some] <;> rfl), by first | exact Kd.S_nil _ _ _ _ _ | exact Kd.N_nil _ _ _ _ _ | exact Kd.V_nil _ _ _ _ _ | exact Kd.Q_nil _ _ _ _ _ | exact Kd.R_nil _ _ _ _ _, by first | exact Kd.R_nil _ _ _ _ _ | exact Kd.N_nil _ _ _ _ _ | exact Kd.V_nil _ _ _ _ _ | exact Kd.Q_nil _ _ _ _ _ | exact Kd.S_nil _ _ _ _ _, by repeat (first | (with_reducible first | exact HB.out | apply below_alloc | apply pw_below_drewN | apply below_drew1 | refine below_set ?_ GE140.out) | exact HB.out)⟩

end Go.Proofs.YtbpediccbeoifaaDoor.GN
