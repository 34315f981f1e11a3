-- Written for this claim by a program of this session (wip/tools/p2.py).
import Derived.Test.YtbpediccbeoifaaDoorGNx0
import Derived.Test.YtbpediccbeoifaaDoorGNx4
import Derived.Test.YtbpediccbeoifaaDoorGNx5
namespace Go.Proofs.YtbpediccbeoifaaDoor.GN
open Go.RowKit Go.Proofs.YtbpediccbeoifaaDoorW.PrintWords Go.Proofs.YtbpediccbeoifaaDoorW.PrintLast Go.Proofs.YtbpediccbeoifaaDoorW.PrintMore
attribute [local go_sem] max2_int min2_int max_two min_two max_three min_three max_four min_four   -- for this text's walks alone
set_option linter.unusedVariables false
set_option linter.unusedSimpArgs false

/-! ### rosterref13_sameSearch: function 25 -/
def rosterref13_sameSearch.j0 : Nat → Bool → ByteArray → Int → Int → Int → Int → Bool → List (S71) → List ByteArray → ByteArray → Int → Int → Int → Int → Bool → List (S71) → List ByteArray → Option (Bool)
 | 0, _, _, _, _, _, _, _, _, _, _, _, _, _, _, _, _, _ => none
 | k + 1, x44, x118000, x118001, x118002, x118003, x118004, x118005, x118006, x118007, x119000, x119001, x119002, x119003, x119004, x119005, x119006, x119007 => if x44 = true then (some false) else ((rosterref13_sameFilter.f k x118006 x119006).bind fun t119 => (if t119 = true then ((rosterref13_sameTexts.f k x118007 x119007).bind fun t120 => (some t120)) else (some false)))
def rosterref13_sameSearch.f (k : Nat) (a0_0 : ByteArray) (a0_1 : Int) (a0_2 : Int) (a0_3 : Int) (a0_4 : Int) (a0_5 : Bool) (l0_6 : List (S71)) (l0_7 : List ByteArray) (a1_0 : ByteArray) (a1_1 : Int) (a1_2 : Int) (a1_3 : Int) (a1_4 : Int) (a1_5 : Bool) (l1_6 : List (S71)) (l1_7 : List ByteArray) : Option (Bool) := if a0_0.toList = a1_0.toList then (if a0_1 = a1_1 then (if a0_2 = a1_2 then (if a0_3 = a1_3 then (if a0_4 = a1_4 then (rosterref13_sameSearch.j0 k (a0_5 != a1_5) a0_0 a0_1 a0_2 a0_3 a0_4 a0_5 l0_6 l0_7 a1_0 a1_1 a1_2 a1_3 a1_4 a1_5 l1_6 l1_7) else (rosterref13_sameSearch.j0 k true a0_0 a0_1 a0_2 a0_3 a0_4 a0_5 l0_6 l0_7 a1_0 a1_1 a1_2 a1_3 a1_4 a1_5 l1_6 l1_7)) else (rosterref13_sameSearch.j0 k true a0_0 a0_1 a0_2 a0_3 a0_4 a0_5 l0_6 l0_7 a1_0 a1_1 a1_2 a1_3 a1_4 a1_5 l1_6 l1_7)) else (rosterref13_sameSearch.j0 k true a0_0 a0_1 a0_2 a0_3 a0_4 a0_5 l0_6 l0_7 a1_0 a1_1 a1_2 a1_3 a1_4 a1_5 l1_6 l1_7)) else (rosterref13_sameSearch.j0 k true a0_0 a0_1 a0_2 a0_3 a0_4 a0_5 l0_6 l0_7 a1_0 a1_1 a1_2 a1_3 a1_4 a1_5 l1_6 l1_7)) else (rosterref13_sameSearch.j0 k true a0_0 a0_1 a0_2 a0_3 a0_4 a0_5 l0_6 l0_7 a1_0 a1_1 a1_2 a1_3 a1_4 a1_5 l1_6 l1_7)
theorem rosterref13_sameSearch.mono_l : ∀ k, (∀ y0 y1 y2 y3 y4 y5 y6 y7 y8 y9 y10 y11 y12 y13 y14 y15 y16, LeO (rosterref13_sameSearch.j0 k y0 y1 y2 y3 y4 y5 y6 y7 y8 y9 y10 y11 y12 y13 y14 y15 y16) (rosterref13_sameSearch.j0 (k + 1) y0 y1 y2 y3 y4 y5 y6 y7 y8 y9 y10 y11 y12 y13 y14 y15 y16))
 | 0 => fun _ _ _ _ _ _ _ _ _ _ _ _ _ _ _ _ _ r h => by simp [rosterref13_sameSearch.j0] at h
 | k + 1 => by
  have ih0 := rosterref13_sameSearch.mono_l k
  ·intro y0 y1 y2 y3 y4 y5 y6 y7 y8 y9 y10 y11 y12 y13 y14 y15 y16
   unfold rosterref13_sameSearch.j0
   repeat' first
   | (with_reducible exact ih0 _ _ _ _ _ _ _ _ _ _ _ _ _ _ _ _ _)
   | (with_reducible exact rosterref13_sameFilter.mono _ _ _)
   | (with_reducible exact rosterref13_sameTexts.mono _ _ _)
   | (with_reducible exact LeO.refl _)
   | (with_reducible exact LeO.none _)
   | (with_reducible refine LeO.ite ?_ ?_)
   | (with_reducible refine LeO.bind ?_ (fun _ => ?_))
   | exact ih0 _ _ _ _ _ _ _ _ _ _ _ _ _ _ _ _ _
   | exact rosterref13_sameFilter.mono _ _ _
   | exact rosterref13_sameTexts.mono _ _ _
   | exact LeO.none _
   | refine LeO.ite ?_ ?_
   | refine LeO.bind ?_ (fun _ => ?_)
theorem rosterref13_sameSearch.mono : ∀ a0 a1 a2 a3 a4 a5 a6 a7 a8 a9 a10 a11 a12 a13 a14 a15 k, LeO (rosterref13_sameSearch.f k a0 a1 a2 a3 a4 a5 a6 a7 a8 a9 a10 a11 a12 a13 a14 a15) (rosterref13_sameSearch.f (k + 1) a0 a1 a2 a3 a4 a5 a6 a7 a8 a9 a10 a11 a12 a13 a14 a15) := by
 intro a0 a1 a2 a3 a4 a5 a6 a7 a8 a9 a10 a11 a12 a13 a14 a15 k
 have ih0 := rosterref13_sameSearch.mono_l k
 unfold rosterref13_sameSearch.f
 repeat' first
   | (with_reducible exact ih0 _ _ _ _ _ _ _ _ _ _ _ _ _ _ _ _ _)
   | (with_reducible exact rosterref13_sameFilter.mono _ _ _)
   | (with_reducible exact rosterref13_sameTexts.mono _ _ _)
   | (with_reducible exact LeO.refl _)
   | (with_reducible exact LeO.none _)
   | (with_reducible refine LeO.ite ?_ ?_)
   | (with_reducible refine LeO.bind ?_ (fun _ => ?_))
   | exact ih0 _ _ _ _ _ _ _ _ _ _ _ _ _ _ _ _ _
   | exact rosterref13_sameFilter.mono _ _ _
   | exact rosterref13_sameTexts.mono _ _ _
   | exact LeO.none _
   | refine LeO.ite ?_ ?_
   | refine LeO.bind ?_ (fun _ => ?_)
set_option maxHeartbeats 8000000 in
set_option maxRecDepth 100000 in
theorem rosterref13_sameSearch.calls (k : Nat) (a0_0 : ByteArray) (a0_1 : Int) (a0_2 : Int) (a0_3 : Int) (a0_4 : Int) (a0_5 : Bool) (A0_6 : Option Addr) (c0_6 : Nat) (l0_6 : List (S71)) (A0_7 : Option Addr) (c0_7 : Nat) (l0_7 : List ByteArray) (a1_0 : ByteArray) (a1_1 : Int) (a1_2 : Int) (a1_3 : Int) (a1_4 : Int) (a1_5 : Bool) (A1_6 : Option Addr) (c1_6 : Nat) (l1_6 : List (S71)) (A1_7 : Option Addr) (c1_7 : Nat) (l1_7 : List ByteArray) (r : Bool) (w : World) (hr0_6 : Kd.C k71 w A0_6 l0_6.length l0_6) (hc0_6 : l0_6.length ≤ c0_6) (hr0_7 : Kd.C Kd.string w A0_7 l0_7.length l0_7) (hc0_7 : l0_7.length ≤ c0_7) (hr1_6 : Kd.C k71 w A1_6 l1_6.length l1_6) (hc1_6 : l1_6.length ≤ c1_6) (hr1_7 : Kd.C Kd.string w A1_7 l1_7.length l1_7) (hc1_7 : l1_7.length ≤ c1_7) (h : rosterref13_sameSearch.f k a0_0 a0_1 a0_2 a0_3 a0_4 a0_5 l0_6 l0_7 a1_0 a1_1 a1_2 a1_3 a1_4 a1_5 l1_6 l1_7 = some r) :
  Calls Tryd.prog 25 #[.agg #[.string a0_0, .int .i64 a0_1, .int .i64 a0_2, .int .i64 a0_3, .int .i64 a0_4, .bool a0_5, .slice A0_6 l0_6.length c0_6, .slice A0_7 l0_7.length c0_7], .agg #[.string a1_0, .int .i64 a1_1, .int .i64 a1_2, .int .i64 a1_3, .int .i64 a1_4, .bool a1_5, .slice A1_6 l1_6.length c1_6, .slice A1_7 l1_7.length c1_7]] w fun e w' => e = .returned (.bool r) ∧ Below w.heap.size w w' := by
 have hu31 := Tryd.underlying31
 have HR0_6 := Aside0.mk hr0_6
 have HC0_6 := Aside0.mk hc0_6
 clear hr0_6 hc0_6
 have HR0_7 := Aside0.mk hr0_7
 have HC0_7 := Aside0.mk hc0_7
 clear hr0_7 hc0_7
 have HR1_6 := Aside0.mk hr1_6
 have HC1_6 := Aside0.mk hc1_6
 clear hr1_6 hc1_6
 have HR1_7 := Aside0.mk hr1_7
 have HC1_7 := Aside0.mk hc1_7
 clear hr1_7 hc1_7
 have HB := Aside0.mk (Below.refl w.heap.size w)
 have H : (if a0_0.toList = a1_0.toList then (if a0_1 = a1_1 then (if a0_2 = a1_2 then (if a0_3 = a1_3 then (if a0_4 = a1_4 then (rosterref13_sameSearch.j0 k (a0_5 != a1_5) a0_0 a0_1 a0_2 a0_3 a0_4 a0_5 l0_6 l0_7 a1_0 a1_1 a1_2 a1_3 a1_4 a1_5 l1_6 l1_7) else (rosterref13_sameSearch.j0 k true a0_0 a0_1 a0_2 a0_3 a0_4 a0_5 l0_6 l0_7 a1_0 a1_1 a1_2 a1_3 a1_4 a1_5 l1_6 l1_7)) else (rosterref13_sameSearch.j0 k true a0_0 a0_1 a0_2 a0_3 a0_4 a0_5 l0_6 l0_7 a1_0 a1_1 a1_2 a1_3 a1_4 a1_5 l1_6 l1_7)) else (rosterref13_sameSearch.j0 k true a0_0 a0_1 a0_2 a0_3 a0_4 a0_5 l0_6 l0_7 a1_0 a1_1 a1_2 a1_3 a1_4 a1_5 l1_6 l1_7)) else (rosterref13_sameSearch.j0 k true a0_0 a0_1 a0_2 a0_3 a0_4 a0_5 l0_6 l0_7 a1_0 a1_1 a1_2 a1_3 a1_4 a1_5 l1_6 l1_7)) else (rosterref13_sameSearch.j0 k true a0_0 a0_1 a0_2 a0_3 a0_4 a0_5 l0_6 l0_7 a1_0 a1_1 a1_2 a1_3 a1_4 a1_5 l1_6 l1_7)) = some r := h
 clear h
 have HC3 := Aside0.mk H
 clear H
 go_enter Tryd.func25, Tryd.ntmps25
 go_upto_region 1 with (first | ((with_reducible refine gate_dst (N := 2) rfl ?_); refine box_event ?hg (N := 2) ?hd (cs := #[.string a0_0, .int .i64 a0_1, .int .i64 a0_2, .int .i64 a0_3, .int .i64 a0_4, .bool a0_5, .slice A0_6 l0_6.length c0_6, .slice A0_7 l0_7.length c0_7]) (t := 31) ?hr ?_; (case hd => rfl); (case hg => rfl); (case hr => first | (go_simp; done) | (go_simp; rfl)); intro gb117 hg w4 hbox hb; have n0_ := Aside0.mk (below_step (by repeat (first | (with_reducible first | exact HB.out | apply below_alloc | apply pw_below_drewN | apply below_drew1) | exact HB.out)) hb); have n1_ := Aside0.mk (hbox); have n2_ := Aside0.mk ((by rw [hg]; exact (below_size (by repeat (first | (with_reducible first | exact HB.out | apply below_alloc | apply pw_below_drewN | apply below_drew1) | exact HB.out))) : w.heap.size ≤ gb117)); have n3_ := Aside0.mk ((by rw [hg]; exact (below_size (by repeat (first | (with_reducible first | exact HB.out | apply below_alloc | apply pw_below_drewN | apply below_drew1) | exact HB.out))) : w.heap.size ≤ gb117)); clear HB; have HB := n0_; have BK117 := n1_; have GW117 := n2_; have GE117 := n3_; clear n0_ n1_ n2_ n3_; clear hb hbox hg) | ((with_reducible refine gate_dst (N := 3) rfl ?_); refine box_event ?hg (N := 3) ?hd (cs := #[.string a1_0, .int .i64 a1_1, .int .i64 a1_2, .int .i64 a1_3, .int .i64 a1_4, .bool a1_5, .slice A1_6 l1_6.length c1_6, .slice A1_7 l1_7.length c1_7]) (t := 31) ?hr ?_; (case hd => rfl); (case hg => rfl); (case hr => first | (go_simp; done) | (go_simp; rfl)); intro gb118 hg w5 hbox hb; have n0_ := Aside0.mk (blk_below (g := gb117) (o := .cells #[.string a0_0, .int .i64 a0_1, .int .i64 a0_2, .int .i64 a0_3, .int .i64 a0_4, .bool a0_5, .slice A0_6 l0_6.length c0_6, .slice A0_7 l0_7.length c0_7] 31 (0, 0)) (by (with_reducible repeat (first | refine blk_drewN ?_ _ | refine blk_drew ?_ | refine blk_alloc ?_ _)); exact BK117.out) hb); have n1_ := Aside0.mk (below_step (by repeat (first | (with_reducible first | exact HB.out | apply below_alloc | apply pw_below_drewN | apply below_drew1 | refine below_set ?_ GE117.out) | exact HB.out)) hb); have n2_ := Aside0.mk (hbox); have n3_ := Aside0.mk ((by rw [hg]; exact (below_size (by repeat (first | (with_reducible first | exact HB.out | apply below_alloc | apply pw_below_drewN | apply below_drew1 | refine below_set ?_ GE117.out) | exact HB.out))) : w.heap.size ≤ gb118)); have n4_ := Aside0.mk ((by rw [hg]; exact (below_size (by repeat (first | (with_reducible first | exact HB.out | apply below_alloc | apply pw_below_drewN | apply below_drew1 | refine below_set ?_ GE117.out) | exact HB.out))) : w.heap.size ≤ gb118)); have n5_ := Aside0.mk ((by rw [hg]; exact Nat.ne_of_lt (blk_lt (g := gb117) (o := .cells #[.string a0_0, .int .i64 a0_1, .int .i64 a0_2, .int .i64 a0_3, .int .i64 a0_4, .bool a0_5, .slice A0_6 l0_6.length c0_6, .slice A0_7 l0_7.length c0_7] 31 (0, 0)) (by (with_reducible repeat (first | refine blk_drewN ?_ _ | refine blk_drew ?_ | refine blk_alloc ?_ _)); exact BK117.out)) : gb117 ≠ gb118)); have n6_ := Aside0.mk ((by rw [hg]; exact Nat.ne_of_gt (blk_lt (g := gb117) (o := .cells #[.string a0_0, .int .i64 a0_1, .int .i64 a0_2, .int .i64 a0_3, .int .i64 a0_4, .bool a0_5, .slice A0_6 l0_6.length c0_6, .slice A0_7 l0_7.length c0_7] 31 (0, 0)) (by (with_reducible repeat (first | refine blk_drewN ?_ _ | refine blk_drew ?_ | refine blk_alloc ?_ _)); exact BK117.out)) : gb118 ≠ gb117)); clear BK117; clear HB; have BK117 := n0_; have HB := n1_; have BK118 := n2_; have GW118 := n3_; have GE118 := n4_; have NB117_118 := n5_; have NB118_117 := n6_; clear n0_ n1_ n2_ n3_ n4_ n5_ n6_; clear hb hbox hg))
 (try simp only [Act.put, List.setIfInBounds_toArray, List.set_cons_zero, List.set_cons_succ])
 go_cut [44] (fun v44 wc => ∃ (kq : Nat) (x44_2 : Bool), v44 = .bool x44_2 ∧ Aside0 (rosterref13_sameSearch.j0 kq x44_2 a0_0 a0_1 a0_2 a0_3 a0_4 a0_5 l0_6 l0_7 a1_0 a1_1 a1_2 a1_3 a1_4 a1_5 l1_6 l1_7 = some r) ∧ Aside0 (kq ≤ k) ∧ Aside0 (wc.heap[gb117]? = some (.cells #[.string a0_0, .int .i64 a0_1, .int .i64 a0_2, .int .i64 a0_3, .int .i64 a0_4, .bool a0_5, (.slice A0_6 l0_6.length c0_6), (.slice A0_7 l0_7.length c0_7)] 31 (0, 0))) ∧ Aside0 (wc.heap[gb118]? = some (.cells #[.string a1_0, .int .i64 a1_1, .int .i64 a1_2, .int .i64 a1_3, .int .i64 a1_4, .bool a1_5, (.slice A1_6 l1_6.length c1_6), (.slice A1_7 l1_7.length c1_7)] 31 (0, 0))) ∧ Aside0 (Below w.heap.size w wc))
 case first =>
  have H := HC3.out
  clear HC3
  by_cases c6 : a0_0.toList = a1_0.toList
  ·rw [if_pos c6] at H
   have c6b0 : (a0_0.toList == a1_0.toList) = true := beq_iff_eq.mpr c6
   have c6b1 : (a0_0.toList != a1_0.toList) = false := bne_eq_false_iff_eq.mpr c6
   clear c6
   (first | rw [c6b0] | (simp only [i64_w, i32_w]; rw [c6b0]) | skip)
   by_cases c7 : a0_1 = a1_1
   ·rw [if_pos c7] at H
    have c7b0 : (a0_1 == a1_1) = true := beq_iff_eq.mpr c7
    have c7b1 : (a0_1 != a1_1) = false := bne_eq_false_iff_eq.mpr c7
    clear c7
    by_cases c8 : a0_2 = a1_2
    ·rw [if_pos c8] at H
     have c8b0 : (a0_2 == a1_2) = true := beq_iff_eq.mpr c8
     have c8b1 : (a0_2 != a1_2) = false := bne_eq_false_iff_eq.mpr c8
     clear c8
     by_cases c9 : a0_3 = a1_3
     ·rw [if_pos c9] at H
      have c9b0 : (a0_3 == a1_3) = true := beq_iff_eq.mpr c9
      have c9b1 : (a0_3 != a1_3) = false := bne_eq_false_iff_eq.mpr c9
      clear c9
      by_cases c10 : a0_4 = a1_4
      ·rw [if_pos c10] at H
       have c10b0 : (a0_4 == a1_4) = true := beq_iff_eq.mpr c10
       have c10b1 : (a0_4 != a1_4) = false := bne_eq_false_iff_eq.mpr c10
       clear c10
       have H' := Aside0.mk H
       clear H
       have hnb11 := NB117_118.out
       have hnc11 := NB118_117.out
       have hcz12_0 : w5.cell? ⟨gb117, 0, none⟩ = some (.string a0_0) := (blk_cell BK117.out 0).trans rfl
       have hcz12_1 : w5.cell? ⟨gb117, 1, none⟩ = some (.int .i64 a0_1) := (blk_cell BK117.out 1).trans rfl
       have hcz12_2 : w5.cell? ⟨gb117, 2, none⟩ = some (.int .i64 a0_2) := (blk_cell BK117.out 2).trans rfl
       have hcz12_3 : w5.cell? ⟨gb117, 3, none⟩ = some (.int .i64 a0_3) := (blk_cell BK117.out 3).trans rfl
       have hcz12_4 : w5.cell? ⟨gb117, 4, none⟩ = some (.int .i64 a0_4) := (blk_cell BK117.out 4).trans rfl
       have hcz12_5 : w5.cell? ⟨gb117, 5, none⟩ = some (.bool a0_5) := (blk_cell BK117.out 5).trans rfl
       have hcz12_6 : w5.cell? ⟨gb117, 6, none⟩ = some (.slice A0_6 l0_6.length c0_6) := (blk_cell BK117.out 6).trans rfl
       have hcz12_7 : w5.cell? ⟨gb117, 7, none⟩ = some (.slice A0_7 l0_7.length c0_7) := (blk_cell BK117.out 7).trans rfl
       have hfz12_0 := blk_frozen BK117.out 0
       have hfz12_1 := blk_frozen BK117.out 1
       have hfz12_2 := blk_frozen BK117.out 2
       have hfz12_3 := blk_frozen BK117.out 3
       have hfz12_4 := blk_frozen BK117.out 4
       have hfz12_5 := blk_frozen BK117.out 5
       have hfz12_6 := blk_frozen BK117.out 6
       have hfz12_7 := blk_frozen BK117.out 7
       have hcz13_0 : w5.cell? ⟨gb118, 0, none⟩ = some (.string a1_0) := (blk_cell BK118.out 0).trans rfl
       have hcz13_1 : w5.cell? ⟨gb118, 1, none⟩ = some (.int .i64 a1_1) := (blk_cell BK118.out 1).trans rfl
       have hcz13_2 : w5.cell? ⟨gb118, 2, none⟩ = some (.int .i64 a1_2) := (blk_cell BK118.out 2).trans rfl
       have hcz13_3 : w5.cell? ⟨gb118, 3, none⟩ = some (.int .i64 a1_3) := (blk_cell BK118.out 3).trans rfl
       have hcz13_4 : w5.cell? ⟨gb118, 4, none⟩ = some (.int .i64 a1_4) := (blk_cell BK118.out 4).trans rfl
       have hcz13_5 : w5.cell? ⟨gb118, 5, none⟩ = some (.bool a1_5) := (blk_cell BK118.out 5).trans rfl
       have hcz13_6 : w5.cell? ⟨gb118, 6, none⟩ = some (.slice A1_6 l1_6.length c1_6) := (blk_cell BK118.out 6).trans rfl
       have hcz13_7 : w5.cell? ⟨gb118, 7, none⟩ = some (.slice A1_7 l1_7.length c1_7) := (blk_cell BK118.out 7).trans rfl
       have hfz13_0 := blk_frozen BK118.out 0
       have hfz13_1 := blk_frozen BK118.out 1
       have hfz13_2 := blk_frozen BK118.out 2
       have hfz13_3 := blk_frozen BK118.out 3
       have hfz13_4 := blk_frozen BK118.out 4
       have hfz13_5 := blk_frozen BK118.out 5
       have hfz13_6 := blk_frozen BK118.out 6
       have hfz13_7 := blk_frozen BK118.out 7
       go_wp2
       go_meet
       case rel => exact ⟨_, ((a0_5 != a1_5)), (by first | rfl | (simp; done) | (simp [*]; done) | (simp [isEmpty_ne_]; done)), H', ⟨by first | omega | exact Nat.le_refl _⟩, ⟨by (with_reducible repeat (first | refine blk_drewN ?_ _ | refine blk_drew ?_ | refine blk_alloc ?_ _)); exact BK117.out⟩, ⟨by (with_reducible repeat (first | refine blk_drewN ?_ _ | refine blk_drew ?_ | refine blk_alloc ?_ _)); exact BK118.out⟩, ⟨by repeat (first | (with_reducible first | exact HB.out | apply below_alloc | apply pw_below_drewN | apply below_drew1 | refine below_set ?_ GE117.out | refine below_set ?_ GE118.out) | exact HB.out)⟩⟩
      ·rw [if_neg c10] at H
       have c10b0 : (a0_4 == a1_4) = false := beq_eq_false_iff_ne.mpr c10
       have c10b1 : (a0_4 != a1_4) = true := bne_iff_ne.mpr c10
       have H' := Aside0.mk H
       clear H
       have hnb14 := NB117_118.out
       have hnc14 := NB118_117.out
       have hcz15_0 : w5.cell? ⟨gb117, 0, none⟩ = some (.string a0_0) := (blk_cell BK117.out 0).trans rfl
       have hcz15_1 : w5.cell? ⟨gb117, 1, none⟩ = some (.int .i64 a0_1) := (blk_cell BK117.out 1).trans rfl
       have hcz15_2 : w5.cell? ⟨gb117, 2, none⟩ = some (.int .i64 a0_2) := (blk_cell BK117.out 2).trans rfl
       have hcz15_3 : w5.cell? ⟨gb117, 3, none⟩ = some (.int .i64 a0_3) := (blk_cell BK117.out 3).trans rfl
       have hcz15_4 : w5.cell? ⟨gb117, 4, none⟩ = some (.int .i64 a0_4) := (blk_cell BK117.out 4).trans rfl
       have hcz15_5 : w5.cell? ⟨gb117, 5, none⟩ = some (.bool a0_5) := (blk_cell BK117.out 5).trans rfl
       have hcz15_6 : w5.cell? ⟨gb117, 6, none⟩ = some (.slice A0_6 l0_6.length c0_6) := (blk_cell BK117.out 6).trans rfl
       have hcz15_7 : w5.cell? ⟨gb117, 7, none⟩ = some (.slice A0_7 l0_7.length c0_7) := (blk_cell BK117.out 7).trans rfl
       have hfz15_0 := blk_frozen BK117.out 0
       have hfz15_1 := blk_frozen BK117.out 1
       have hfz15_2 := blk_frozen BK117.out 2
       have hfz15_3 := blk_frozen BK117.out 3
       have hfz15_4 := blk_frozen BK117.out 4
       have hfz15_5 := blk_frozen BK117.out 5
       have hfz15_6 := blk_frozen BK117.out 6
       have hfz15_7 := blk_frozen BK117.out 7
       have hcz16_0 : w5.cell? ⟨gb118, 0, none⟩ = some (.string a1_0) := (blk_cell BK118.out 0).trans rfl
       have hcz16_1 : w5.cell? ⟨gb118, 1, none⟩ = some (.int .i64 a1_1) := (blk_cell BK118.out 1).trans rfl
       have hcz16_2 : w5.cell? ⟨gb118, 2, none⟩ = some (.int .i64 a1_2) := (blk_cell BK118.out 2).trans rfl
       have hcz16_3 : w5.cell? ⟨gb118, 3, none⟩ = some (.int .i64 a1_3) := (blk_cell BK118.out 3).trans rfl
       have hcz16_4 : w5.cell? ⟨gb118, 4, none⟩ = some (.int .i64 a1_4) := (blk_cell BK118.out 4).trans rfl
       have hcz16_5 : w5.cell? ⟨gb118, 5, none⟩ = some (.bool a1_5) := (blk_cell BK118.out 5).trans rfl
       have hcz16_6 : w5.cell? ⟨gb118, 6, none⟩ = some (.slice A1_6 l1_6.length c1_6) := (blk_cell BK118.out 6).trans rfl
       have hcz16_7 : w5.cell? ⟨gb118, 7, none⟩ = some (.slice A1_7 l1_7.length c1_7) := (blk_cell BK118.out 7).trans rfl
       have hfz16_0 := blk_frozen BK118.out 0
       have hfz16_1 := blk_frozen BK118.out 1
       have hfz16_2 := blk_frozen BK118.out 2
       have hfz16_3 := blk_frozen BK118.out 3
       have hfz16_4 := blk_frozen BK118.out 4
       have hfz16_5 := blk_frozen BK118.out 5
       have hfz16_6 := blk_frozen BK118.out 6
       have hfz16_7 := blk_frozen BK118.out 7
       go_wp2
       go_meet
       case rel => exact ⟨_, (true), (by first | rfl | (simp; done) | (simp [*]; done) | (simp [isEmpty_ne_]; done)), H', ⟨by first | omega | exact Nat.le_refl _⟩, ⟨by (with_reducible repeat (first | refine blk_drewN ?_ _ | refine blk_drew ?_ | refine blk_alloc ?_ _)); exact BK117.out⟩, ⟨by (with_reducible repeat (first | refine blk_drewN ?_ _ | refine blk_drew ?_ | refine blk_alloc ?_ _)); exact BK118.out⟩, ⟨by repeat (first | (with_reducible first | exact HB.out | apply below_alloc | apply pw_below_drewN | apply below_drew1 | refine below_set ?_ GE117.out | refine below_set ?_ GE118.out) | exact HB.out)⟩⟩
     ·rw [if_neg c9] at H
      have c9b0 : (a0_3 == a1_3) = false := beq_eq_false_iff_ne.mpr c9
      have c9b1 : (a0_3 != a1_3) = true := bne_iff_ne.mpr c9
      have H' := Aside0.mk H
      clear H
      have hnb17 := NB117_118.out
      have hnc17 := NB118_117.out
      have hcz18_0 : w5.cell? ⟨gb117, 0, none⟩ = some (.string a0_0) := (blk_cell BK117.out 0).trans rfl
      have hcz18_1 : w5.cell? ⟨gb117, 1, none⟩ = some (.int .i64 a0_1) := (blk_cell BK117.out 1).trans rfl
      have hcz18_2 : w5.cell? ⟨gb117, 2, none⟩ = some (.int .i64 a0_2) := (blk_cell BK117.out 2).trans rfl
      have hcz18_3 : w5.cell? ⟨gb117, 3, none⟩ = some (.int .i64 a0_3) := (blk_cell BK117.out 3).trans rfl
      have hcz18_4 : w5.cell? ⟨gb117, 4, none⟩ = some (.int .i64 a0_4) := (blk_cell BK117.out 4).trans rfl
      have hcz18_5 : w5.cell? ⟨gb117, 5, none⟩ = some (.bool a0_5) := (blk_cell BK117.out 5).trans rfl
      have hcz18_6 : w5.cell? ⟨gb117, 6, none⟩ = some (.slice A0_6 l0_6.length c0_6) := (blk_cell BK117.out 6).trans rfl
      have hcz18_7 : w5.cell? ⟨gb117, 7, none⟩ = some (.slice A0_7 l0_7.length c0_7) := (blk_cell BK117.out 7).trans rfl
      have hfz18_0 := blk_frozen BK117.out 0
      have hfz18_1 := blk_frozen BK117.out 1
      have hfz18_2 := blk_frozen BK117.out 2
      have hfz18_3 := blk_frozen BK117.out 3
      have hfz18_4 := blk_frozen BK117.out 4
      have hfz18_5 := blk_frozen BK117.out 5
      have hfz18_6 := blk_frozen BK117.out 6
      have hfz18_7 := blk_frozen BK117.out 7
      have hcz19_0 : w5.cell? ⟨gb118, 0, none⟩ = some (.string a1_0) := (blk_cell BK118.out 0).trans rfl
      have hcz19_1 : w5.cell? ⟨gb118, 1, none⟩ = some (.int .i64 a1_1) := (blk_cell BK118.out 1).trans rfl
      have hcz19_2 : w5.cell? ⟨gb118, 2, none⟩ = some (.int .i64 a1_2) := (blk_cell BK118.out 2).trans rfl
      have hcz19_3 : w5.cell? ⟨gb118, 3, none⟩ = some (.int .i64 a1_3) := (blk_cell BK118.out 3).trans rfl
      have hcz19_4 : w5.cell? ⟨gb118, 4, none⟩ = some (.int .i64 a1_4) := (blk_cell BK118.out 4).trans rfl
      have hcz19_5 : w5.cell? ⟨gb118, 5, none⟩ = some (.bool a1_5) := (blk_cell BK118.out 5).trans rfl
      have hcz19_6 : w5.cell? ⟨gb118, 6, none⟩ = some (.slice A1_6 l1_6.length c1_6) := (blk_cell BK118.out 6).trans rfl
      have hcz19_7 : w5.cell? ⟨gb118, 7, none⟩ = some (.slice A1_7 l1_7.length c1_7) := (blk_cell BK118.out 7).trans rfl
      have hfz19_0 := blk_frozen BK118.out 0
      have hfz19_1 := blk_frozen BK118.out 1
      have hfz19_2 := blk_frozen BK118.out 2
      have hfz19_3 := blk_frozen BK118.out 3
      have hfz19_4 := blk_frozen BK118.out 4
      have hfz19_5 := blk_frozen BK118.out 5
      have hfz19_6 := blk_frozen BK118.out 6
      have hfz19_7 := blk_frozen BK118.out 7
      go_wp2
      go_meet
      case rel => exact ⟨_, (true), (by first | rfl | (simp; done) | (simp [*]; done) | (simp [isEmpty_ne_]; done)), H', ⟨by first | omega | exact Nat.le_refl _⟩, ⟨by (with_reducible repeat (first | refine blk_drewN ?_ _ | refine blk_drew ?_ | refine blk_alloc ?_ _)); exact BK117.out⟩, ⟨by (with_reducible repeat (first | refine blk_drewN ?_ _ | refine blk_drew ?_ | refine blk_alloc ?_ _)); exact BK118.out⟩, ⟨by repeat (first | (with_reducible first | exact HB.out | apply below_alloc | apply pw_below_drewN | apply below_drew1 | refine below_set ?_ GE117.out | refine below_set ?_ GE118.out) | exact HB.out)⟩⟩
    ·rw [if_neg c8] at H
     have c8b0 : (a0_2 == a1_2) = false := beq_eq_false_iff_ne.mpr c8
     have c8b1 : (a0_2 != a1_2) = true := bne_iff_ne.mpr c8
     have H' := Aside0.mk H
     clear H
     have hnb20 := NB117_118.out
     have hnc20 := NB118_117.out
     have hcz21_0 : w5.cell? ⟨gb117, 0, none⟩ = some (.string a0_0) := (blk_cell BK117.out 0).trans rfl
     have hcz21_1 : w5.cell? ⟨gb117, 1, none⟩ = some (.int .i64 a0_1) := (blk_cell BK117.out 1).trans rfl
     have hcz21_2 : w5.cell? ⟨gb117, 2, none⟩ = some (.int .i64 a0_2) := (blk_cell BK117.out 2).trans rfl
     have hcz21_3 : w5.cell? ⟨gb117, 3, none⟩ = some (.int .i64 a0_3) := (blk_cell BK117.out 3).trans rfl
     have hcz21_4 : w5.cell? ⟨gb117, 4, none⟩ = some (.int .i64 a0_4) := (blk_cell BK117.out 4).trans rfl
     have hcz21_5 : w5.cell? ⟨gb117, 5, none⟩ = some (.bool a0_5) := (blk_cell BK117.out 5).trans rfl
     have hcz21_6 : w5.cell? ⟨gb117, 6, none⟩ = some (.slice A0_6 l0_6.length c0_6) := (blk_cell BK117.out 6).trans rfl
     have hcz21_7 : w5.cell? ⟨gb117, 7, none⟩ = some (.slice A0_7 l0_7.length c0_7) := (blk_cell BK117.out 7).trans rfl
     have hfz21_0 := blk_frozen BK117.out 0
     have hfz21_1 := blk_frozen BK117.out 1
     have hfz21_2 := blk_frozen BK117.out 2
     have hfz21_3 := blk_frozen BK117.out 3
     have hfz21_4 := blk_frozen BK117.out 4
     have hfz21_5 := blk_frozen BK117.out 5
     have hfz21_6 := blk_frozen BK117.out 6
     have hfz21_7 := blk_frozen BK117.out 7
     have hcz22_0 : w5.cell? ⟨gb118, 0, none⟩ = some (.string a1_0) := (blk_cell BK118.out 0).trans rfl
     have hcz22_1 : w5.cell? ⟨gb118, 1, none⟩ = some (.int .i64 a1_1) := (blk_cell BK118.out 1).trans rfl
     have hcz22_2 : w5.cell? ⟨gb118, 2, none⟩ = some (.int .i64 a1_2) := (blk_cell BK118.out 2).trans rfl
     have hcz22_3 : w5.cell? ⟨gb118, 3, none⟩ = some (.int .i64 a1_3) := (blk_cell BK118.out 3).trans rfl
     have hcz22_4 : w5.cell? ⟨gb118, 4, none⟩ = some (.int .i64 a1_4) := (blk_cell BK118.out 4).trans rfl
     have hcz22_5 : w5.cell? ⟨gb118, 5, none⟩ = some (.bool a1_5) := (blk_cell BK118.out 5).trans rfl
     have hcz22_6 : w5.cell? ⟨gb118, 6, none⟩ = some (.slice A1_6 l1_6.length c1_6) := (blk_cell BK118.out 6).trans rfl
     have hcz22_7 : w5.cell? ⟨gb118, 7, none⟩ = some (.slice A1_7 l1_7.length c1_7) := (blk_cell BK118.out 7).trans rfl
     have hfz22_0 := blk_frozen BK118.out 0
     have hfz22_1 := blk_frozen BK118.out 1
     have hfz22_2 := blk_frozen BK118.out 2
     have hfz22_3 := blk_frozen BK118.out 3
     have hfz22_4 := blk_frozen BK118.out 4
     have hfz22_5 := blk_frozen BK118.out 5
     have hfz22_6 := blk_frozen BK118.out 6
     have hfz22_7 := blk_frozen BK118.out 7
     go_wp2
     go_meet
     case rel => exact ⟨_, (true), (by first | rfl | (simp; done) | (simp [*]; done) | (simp [isEmpty_ne_]; done)), H', ⟨by first | omega | exact Nat.le_refl _⟩, ⟨by (with_reducible repeat (first | refine blk_drewN ?_ _ | refine blk_drew ?_ | refine blk_alloc ?_ _)); exact BK117.out⟩, ⟨by (with_reducible repeat (first | refine blk_drewN ?_ _ | refine blk_drew ?_ | refine blk_alloc ?_ _)); exact BK118.out⟩, ⟨by repeat (first | (with_reducible first | exact HB.out | apply below_alloc | apply pw_below_drewN | apply below_drew1 | refine below_set ?_ GE117.out | refine below_set ?_ GE118.out) | exact HB.out)⟩⟩
   ·rw [if_neg c7] at H
    have c7b0 : (a0_1 == a1_1) = false := beq_eq_false_iff_ne.mpr c7
    have c7b1 : (a0_1 != a1_1) = true := bne_iff_ne.mpr c7
    have H' := Aside0.mk H
    clear H
    have hnb23 := NB117_118.out
    have hnc23 := NB118_117.out
    have hcz24_0 : w5.cell? ⟨gb117, 0, none⟩ = some (.string a0_0) := (blk_cell BK117.out 0).trans rfl
    have hcz24_1 : w5.cell? ⟨gb117, 1, none⟩ = some (.int .i64 a0_1) := (blk_cell BK117.out 1).trans rfl
    have hcz24_2 : w5.cell? ⟨gb117, 2, none⟩ = some (.int .i64 a0_2) := (blk_cell BK117.out 2).trans rfl
    have hcz24_3 : w5.cell? ⟨gb117, 3, none⟩ = some (.int .i64 a0_3) := (blk_cell BK117.out 3).trans rfl
    have hcz24_4 : w5.cell? ⟨gb117, 4, none⟩ = some (.int .i64 a0_4) := (blk_cell BK117.out 4).trans rfl
    have hcz24_5 : w5.cell? ⟨gb117, 5, none⟩ = some (.bool a0_5) := (blk_cell BK117.out 5).trans rfl
    have hcz24_6 : w5.cell? ⟨gb117, 6, none⟩ = some (.slice A0_6 l0_6.length c0_6) := (blk_cell BK117.out 6).trans rfl
    have hcz24_7 : w5.cell? ⟨gb117, 7, none⟩ = some (.slice A0_7 l0_7.length c0_7) := (blk_cell BK117.out 7).trans rfl
    have hfz24_0 := blk_frozen BK117.out 0
    have hfz24_1 := blk_frozen BK117.out 1
    have hfz24_2 := blk_frozen BK117.out 2
    have hfz24_3 := blk_frozen BK117.out 3
    have hfz24_4 := blk_frozen BK117.out 4
    have hfz24_5 := blk_frozen BK117.out 5
    have hfz24_6 := blk_frozen BK117.out 6
    have hfz24_7 := blk_frozen BK117.out 7
    have hcz25_0 : w5.cell? ⟨gb118, 0, none⟩ = some (.string a1_0) := (blk_cell BK118.out 0).trans rfl
    have hcz25_1 : w5.cell? ⟨gb118, 1, none⟩ = some (.int .i64 a1_1) := (blk_cell BK118.out 1).trans rfl
    have hcz25_2 : w5.cell? ⟨gb118, 2, none⟩ = some (.int .i64 a1_2) := (blk_cell BK118.out 2).trans rfl
    have hcz25_3 : w5.cell? ⟨gb118, 3, none⟩ = some (.int .i64 a1_3) := (blk_cell BK118.out 3).trans rfl
    have hcz25_4 : w5.cell? ⟨gb118, 4, none⟩ = some (.int .i64 a1_4) := (blk_cell BK118.out 4).trans rfl
    have hcz25_5 : w5.cell? ⟨gb118, 5, none⟩ = some (.bool a1_5) := (blk_cell BK118.out 5).trans rfl
    have hcz25_6 : w5.cell? ⟨gb118, 6, none⟩ = some (.slice A1_6 l1_6.length c1_6) := (blk_cell BK118.out 6).trans rfl
    have hcz25_7 : w5.cell? ⟨gb118, 7, none⟩ = some (.slice A1_7 l1_7.length c1_7) := (blk_cell BK118.out 7).trans rfl
    have hfz25_0 := blk_frozen BK118.out 0
    have hfz25_1 := blk_frozen BK118.out 1
    have hfz25_2 := blk_frozen BK118.out 2
    have hfz25_3 := blk_frozen BK118.out 3
    have hfz25_4 := blk_frozen BK118.out 4
    have hfz25_5 := blk_frozen BK118.out 5
    have hfz25_6 := blk_frozen BK118.out 6
    have hfz25_7 := blk_frozen BK118.out 7
    go_wp2
    go_meet
    case rel => exact ⟨_, (true), (by first | rfl | (simp; done) | (simp [*]; done) | (simp [isEmpty_ne_]; done)), H', ⟨by first | omega | exact Nat.le_refl _⟩, ⟨by (with_reducible repeat (first | refine blk_drewN ?_ _ | refine blk_drew ?_ | refine blk_alloc ?_ _)); exact BK117.out⟩, ⟨by (with_reducible repeat (first | refine blk_drewN ?_ _ | refine blk_drew ?_ | refine blk_alloc ?_ _)); exact BK118.out⟩, ⟨by repeat (first | (with_reducible first | exact HB.out | apply below_alloc | apply pw_below_drewN | apply below_drew1 | refine below_set ?_ GE117.out | refine below_set ?_ GE118.out) | exact HB.out)⟩⟩
  ·rw [if_neg c6] at H
   have c6b0 : (a0_0.toList == a1_0.toList) = false := beq_eq_false_iff_ne.mpr c6
   have c6b1 : (a0_0.toList != a1_0.toList) = true := bne_iff_ne.mpr c6
   (first | rw [c6b0] | (simp only [i64_w, i32_w]; rw [c6b0]) | skip)
   have H' := Aside0.mk H
   clear H
   have hnb26 := NB117_118.out
   have hnc26 := NB118_117.out
   have hcz27_0 : w5.cell? ⟨gb117, 0, none⟩ = some (.string a0_0) := (blk_cell BK117.out 0).trans rfl
   have hcz27_1 : w5.cell? ⟨gb117, 1, none⟩ = some (.int .i64 a0_1) := (blk_cell BK117.out 1).trans rfl
   have hcz27_2 : w5.cell? ⟨gb117, 2, none⟩ = some (.int .i64 a0_2) := (blk_cell BK117.out 2).trans rfl
   have hcz27_3 : w5.cell? ⟨gb117, 3, none⟩ = some (.int .i64 a0_3) := (blk_cell BK117.out 3).trans rfl
   have hcz27_4 : w5.cell? ⟨gb117, 4, none⟩ = some (.int .i64 a0_4) := (blk_cell BK117.out 4).trans rfl
   have hcz27_5 : w5.cell? ⟨gb117, 5, none⟩ = some (.bool a0_5) := (blk_cell BK117.out 5).trans rfl
   have hcz27_6 : w5.cell? ⟨gb117, 6, none⟩ = some (.slice A0_6 l0_6.length c0_6) := (blk_cell BK117.out 6).trans rfl
   have hcz27_7 : w5.cell? ⟨gb117, 7, none⟩ = some (.slice A0_7 l0_7.length c0_7) := (blk_cell BK117.out 7).trans rfl
   have hfz27_0 := blk_frozen BK117.out 0
   have hfz27_1 := blk_frozen BK117.out 1
   have hfz27_2 := blk_frozen BK117.out 2
   have hfz27_3 := blk_frozen BK117.out 3
   have hfz27_4 := blk_frozen BK117.out 4
   have hfz27_5 := blk_frozen BK117.out 5
   have hfz27_6 := blk_frozen BK117.out 6
   have hfz27_7 := blk_frozen BK117.out 7
   have hcz28_0 : w5.cell? ⟨gb118, 0, none⟩ = some (.string a1_0) := (blk_cell BK118.out 0).trans rfl
   have hcz28_1 : w5.cell? ⟨gb118, 1, none⟩ = some (.int .i64 a1_1) := (blk_cell BK118.out 1).trans rfl
   have hcz28_2 : w5.cell? ⟨gb118, 2, none⟩ = some (.int .i64 a1_2) := (blk_cell BK118.out 2).trans rfl
   have hcz28_3 : w5.cell? ⟨gb118, 3, none⟩ = some (.int .i64 a1_3) := (blk_cell BK118.out 3).trans rfl
   have hcz28_4 : w5.cell? ⟨gb118, 4, none⟩ = some (.int .i64 a1_4) := (blk_cell BK118.out 4).trans rfl
   have hcz28_5 : w5.cell? ⟨gb118, 5, none⟩ = some (.bool a1_5) := (blk_cell BK118.out 5).trans rfl
   have hcz28_6 : w5.cell? ⟨gb118, 6, none⟩ = some (.slice A1_6 l1_6.length c1_6) := (blk_cell BK118.out 6).trans rfl
   have hcz28_7 : w5.cell? ⟨gb118, 7, none⟩ = some (.slice A1_7 l1_7.length c1_7) := (blk_cell BK118.out 7).trans rfl
   have hfz28_0 := blk_frozen BK118.out 0
   have hfz28_1 := blk_frozen BK118.out 1
   have hfz28_2 := blk_frozen BK118.out 2
   have hfz28_3 := blk_frozen BK118.out 3
   have hfz28_4 := blk_frozen BK118.out 4
   have hfz28_5 := blk_frozen BK118.out 5
   have hfz28_6 := blk_frozen BK118.out 6
   have hfz28_7 := blk_frozen BK118.out 7
   go_wp2
   go_meet
   case rel => exact ⟨_, (true), (by first | rfl | (simp; done) | (simp [*]; done) | (simp [isEmpty_ne_]; done)), H', ⟨by first | omega | exact Nat.le_refl _⟩, ⟨by (with_reducible repeat (first | refine blk_drewN ?_ _ | refine blk_drew ?_ | refine blk_alloc ?_ _)); exact BK117.out⟩, ⟨by (with_reducible repeat (first | refine blk_drewN ?_ _ | refine blk_drew ?_ | refine blk_alloc ?_ _)); exact BK118.out⟩, ⟨by repeat (first | (with_reducible first | exact HB.out | apply below_alloc | apply pw_below_drewN | apply below_drew1 | refine below_set ?_ GE117.out | refine below_set ?_ GE118.out) | exact HB.out)⟩⟩
 case rest =>
  clear HC3
  try clear c1
  try clear c2
  try clear p2
  try clear c6
  try clear c6b0
  try clear c6b1
  try clear c7
  try clear c7b0
  try clear c7b1
  try clear c8
  try clear c8b0
  try clear c8b1
  try clear c9
  try clear c9b0
  try clear c9b1
  try clear c10
  try clear c10b0
  try clear c10b1
  try clear c11
  try clear c14
  try clear c17
  try clear c20
  try clear c23
  try clear c25
  try clear c26
  try clear hcz12_0 hcz12_1 hcz12_2 hcz12_3 hcz12_4 hcz12_5 hcz12_6 hcz12_7
  try clear hcz13_0 hcz13_1 hcz13_2 hcz13_3 hcz13_4 hcz13_5 hcz13_6 hcz13_7
  try clear hcz15_0 hcz15_1 hcz15_2 hcz15_3 hcz15_4 hcz15_5 hcz15_6 hcz15_7
  try clear hcz16_0 hcz16_1 hcz16_2 hcz16_3 hcz16_4 hcz16_5 hcz16_6 hcz16_7
  try clear hcz18_0 hcz18_1 hcz18_2 hcz18_3 hcz18_4 hcz18_5 hcz18_6 hcz18_7
  try clear hcz19_0 hcz19_1 hcz19_2 hcz19_3 hcz19_4 hcz19_5 hcz19_6 hcz19_7
  try clear hcz21_0 hcz21_1 hcz21_2 hcz21_3 hcz21_4 hcz21_5 hcz21_6 hcz21_7
  try clear hcz22_0 hcz22_1 hcz22_2 hcz22_3 hcz22_4 hcz22_5 hcz22_6 hcz22_7
  try clear hcz24_0 hcz24_1 hcz24_2 hcz24_3 hcz24_4 hcz24_5 hcz24_6 hcz24_7
  try clear hcz25_0 hcz25_1 hcz25_2 hcz25_3 hcz25_4 hcz25_5 hcz25_6 hcz25_7
  try clear hcz27_0 hcz27_1 hcz27_2 hcz27_3 hcz27_4 hcz27_5 hcz27_6 hcz27_7
  try clear hcz28_0 hcz28_1 hcz28_2 hcz28_3 hcz28_4 hcz28_5 hcz28_6 hcz28_7
  try clear hfz12_0 hfz12_1 hfz12_2 hfz12_3 hfz12_4 hfz12_5 hfz12_6 hfz12_7
  try clear hfz13_0 hfz13_1 hfz13_2 hfz13_3 hfz13_4 hfz13_5 hfz13_6 hfz13_7
  try clear hfz15_0 hfz15_1 hfz15_2 hfz15_3 hfz15_4 hfz15_5 hfz15_6 hfz15_7
  try clear hfz16_0 hfz16_1 hfz16_2 hfz16_3 hfz16_4 hfz16_5 hfz16_6 hfz16_7
  try clear hfz18_0 hfz18_1 hfz18_2 hfz18_3 hfz18_4 hfz18_5 hfz18_6 hfz18_7
  try clear hfz19_0 hfz19_1 hfz19_2 hfz19_3 hfz19_4 hfz19_5 hfz19_6 hfz19_7
  try clear hfz21_0 hfz21_1 hfz21_2 hfz21_3 hfz21_4 hfz21_5 hfz21_6 hfz21_7
  try clear hfz22_0 hfz22_1 hfz22_2 hfz22_3 hfz22_4 hfz22_5 hfz22_6 hfz22_7
  try clear hfz24_0 hfz24_1 hfz24_2 hfz24_3 hfz24_4 hfz24_5 hfz24_6 hfz24_7
  try clear hfz25_0 hfz25_1 hfz25_2 hfz25_3 hfz25_4 hfz25_5 hfz25_6 hfz25_7
  try clear hfz27_0 hfz27_1 hfz27_2 hfz27_3 hfz27_4 hfz27_5 hfz27_6 hfz27_7
  try clear hfz28_0 hfz28_1 hfz28_2 hfz28_3 hfz28_4 hfz28_5 hfz28_6 hfz28_7
  obtain ⟨kq, x44_2, rfl, HA, HJ2, BK117, BK118, HB⟩ := hcut
  cases kq with
  | zero => exact absurd HA.out (by simp [rosterref13_sameSearch.j0])
  | succ kj2 =>
   have H := HA.out
   clear HA
   simp only [rosterref13_sameSearch.j0] at H
   by_cases c29 : x44_2 = true
   ·subst c29
    have H1 : (some false) = some r := by rw [if_pos rfl] at H; exact H
    clear H
    have H := H1
    clear H1
    obtain rfl := Option.some.inj H
    go_wp2
    go_ret
    exact ⟨by first | rfl | (simp [isEmpty_ne_]; done) | (simp [*, errW_none, errW_some] <;> rfl), by repeat (first | (with_reducible first | exact HB.out | apply below_alloc | apply pw_below_drewN | apply below_drew1 | refine below_set ?_ GE117.out | refine below_set ?_ GE118.out) | exact HB.out)⟩
   ·replace c29 := Bool.eq_false_iff.mpr c29
    subst c29
    have H1 : ((rosterref13_sameFilter.f kj2 l0_6 l1_6).bind fun t119 => (if t119 = true then ((rosterref13_sameTexts.f kj2 l0_7 l1_7).bind fun t120 => (some t120)) else (some false))) = some r := by rw [if_neg (show ¬ (false = true) by decide)] at H; exact H
    clear H
    have H := H1
    clear H1
    replace H := Option.bind_eq_some_iff.mp H
    obtain ⟨t119, A300, H⟩ := H
    replace H : (if t119 = true then ((rosterref13_sameTexts.f kj2 l0_7 l1_7).bind fun t120 => (some t120)) else (some false)) = some r := H
    have A30 := Aside0.mk A300
    clear A300
    by_cases c31 : t119 = true
    ·subst c31
     have H1 : ((rosterref13_sameTexts.f kj2 l0_7 l1_7).bind fun t120 => (some t120)) = some r := by rw [if_pos rfl] at H; exact H
     clear H
     have H := H1
     clear H1
     replace H := Option.bind_eq_some_iff.mp H
     obtain ⟨t120, A320, H⟩ := H
     replace H : (some t120) = some r := H
     have A32 := Aside0.mk A320
     clear A320
     obtain rfl := Option.some.inj H
     have hnb33 := NB117_118.out
     have hnc33 := NB118_117.out
     have hcz34_0 : wc.cell? ⟨gb117, 0, none⟩ = some (.string a0_0) := (blk_cell BK117.out 0).trans rfl
     have hcz34_1 : wc.cell? ⟨gb117, 1, none⟩ = some (.int .i64 a0_1) := (blk_cell BK117.out 1).trans rfl
     have hcz34_2 : wc.cell? ⟨gb117, 2, none⟩ = some (.int .i64 a0_2) := (blk_cell BK117.out 2).trans rfl
     have hcz34_3 : wc.cell? ⟨gb117, 3, none⟩ = some (.int .i64 a0_3) := (blk_cell BK117.out 3).trans rfl
     have hcz34_4 : wc.cell? ⟨gb117, 4, none⟩ = some (.int .i64 a0_4) := (blk_cell BK117.out 4).trans rfl
     have hcz34_5 : wc.cell? ⟨gb117, 5, none⟩ = some (.bool a0_5) := (blk_cell BK117.out 5).trans rfl
     have hcz34_6 : wc.cell? ⟨gb117, 6, none⟩ = some (.slice A0_6 l0_6.length c0_6) := (blk_cell BK117.out 6).trans rfl
     have hcz34_7 : wc.cell? ⟨gb117, 7, none⟩ = some (.slice A0_7 l0_7.length c0_7) := (blk_cell BK117.out 7).trans rfl
     have hfz34_0 := blk_frozen BK117.out 0
     have hfz34_1 := blk_frozen BK117.out 1
     have hfz34_2 := blk_frozen BK117.out 2
     have hfz34_3 := blk_frozen BK117.out 3
     have hfz34_4 := blk_frozen BK117.out 4
     have hfz34_5 := blk_frozen BK117.out 5
     have hfz34_6 := blk_frozen BK117.out 6
     have hfz34_7 := blk_frozen BK117.out 7
     have hcz35_0 : wc.cell? ⟨gb118, 0, none⟩ = some (.string a1_0) := (blk_cell BK118.out 0).trans rfl
     have hcz35_1 : wc.cell? ⟨gb118, 1, none⟩ = some (.int .i64 a1_1) := (blk_cell BK118.out 1).trans rfl
     have hcz35_2 : wc.cell? ⟨gb118, 2, none⟩ = some (.int .i64 a1_2) := (blk_cell BK118.out 2).trans rfl
     have hcz35_3 : wc.cell? ⟨gb118, 3, none⟩ = some (.int .i64 a1_3) := (blk_cell BK118.out 3).trans rfl
     have hcz35_4 : wc.cell? ⟨gb118, 4, none⟩ = some (.int .i64 a1_4) := (blk_cell BK118.out 4).trans rfl
     have hcz35_5 : wc.cell? ⟨gb118, 5, none⟩ = some (.bool a1_5) := (blk_cell BK118.out 5).trans rfl
     have hcz35_6 : wc.cell? ⟨gb118, 6, none⟩ = some (.slice A1_6 l1_6.length c1_6) := (blk_cell BK118.out 6).trans rfl
     have hcz35_7 : wc.cell? ⟨gb118, 7, none⟩ = some (.slice A1_7 l1_7.length c1_7) := (blk_cell BK118.out 7).trans rfl
     have hfz35_0 := blk_frozen BK118.out 0
     have hfz35_1 := blk_frozen BK118.out 1
     have hfz35_2 := blk_frozen BK118.out 2
     have hfz35_3 := blk_frozen BK118.out 3
     have hfz35_4 := blk_frozen BK118.out 4
     have hfz35_5 := blk_frozen BK118.out 5
     have hfz35_6 := blk_frozen BK118.out 6
     have hfz35_7 := blk_frozen BK118.out 7
     go_wp2_with (first | ((with_reducible refine gate_callee (f := 27) rfl ?_); refine goesL_ (some 49) rfl rfl Tryd.func27 (by kernel_rfl) rfl #[.slice A0_6 l0_6.length c0_6, .slice A1_6 l1_6.length c1_6] rfl (by (try simp only [List.map_toArray, List.map_cons, List.map_nil]); first | done | rfl | (simp only [List.length_drop, List.length_take]; rfl) | exact congrArg (fun n_ : Nat => #[Value.slice _ n_ _]) (Eq.trans (Aside0.out (by assumption)) (Eq.symm (Aside0.out (by assumption)))) | exact congrArg (fun n_ : Nat => #[Value.slice _ n_ _, Value.slice _ _ _]) (Eq.trans (Aside0.out (by assumption)) (Eq.symm (Aside0.out (by assumption))))) ?_; (with_reducible refine (rosterref13_sameFilter.calls kj2 _ _ l0_6 _ _ l1_6 true _ ?side1 ?side2 ?side3 ?side4 A30.out).mono ?_); (case side1 => repeat (first | exact (Kd.C_below HR0_6.out HB.out) | exact (Kd.C_below (Aside0.out (by assumption)) HB.out) | (with_reducible refine Kd.C_alloc ?_ _) | (with_reducible refine Kd.C_drewN ?_ _) | (with_reducible refine Kd.C_drew ?_))); (case side2 => first | exact HC0_6.out | exact Aside0.out (by assumption)); (case side3 => repeat (first | exact (Kd.C_below HR1_6.out HB.out) | exact (Kd.C_below (Aside0.out (by assumption)) HB.out) | (with_reducible refine Kd.C_alloc ?_ _) | (with_reducible refine Kd.C_drewN ?_ _) | (with_reducible refine Kd.C_drew ?_))); (case side4 => first | exact HC1_6.out | exact Aside0.out (by assumption)); rintro e w36 ⟨rfl, hb⟩; refine ⟨_, rfl, ?_⟩; have n0_ := Aside0.mk (blk_below (g := gb117) (o := .cells #[.string a0_0, .int .i64 a0_1, .int .i64 a0_2, .int .i64 a0_3, .int .i64 a0_4, .bool a0_5, .slice A0_6 l0_6.length c0_6, .slice A0_7 l0_7.length c0_7] 31 (0, 0)) (by (with_reducible repeat (first | refine blk_drewN ?_ _ | refine blk_drew ?_ | refine blk_alloc ?_ _)); exact BK117.out) hb); have n1_ := Aside0.mk (blk_below (g := gb118) (o := .cells #[.string a1_0, .int .i64 a1_1, .int .i64 a1_2, .int .i64 a1_3, .int .i64 a1_4, .bool a1_5, .slice A1_6 l1_6.length c1_6, .slice A1_7 l1_7.length c1_7] 31 (0, 0)) (by (with_reducible repeat (first | refine blk_drewN ?_ _ | refine blk_drew ?_ | refine blk_alloc ?_ _)); exact BK118.out) hb); have n2_ := Aside0.mk (below_step (by repeat (first | (with_reducible first | exact HB.out | apply below_alloc | apply pw_below_drewN | apply below_drew1 | refine below_set ?_ GE117.out | refine below_set ?_ GE118.out) | exact HB.out)) hb); clear BK117; clear BK118; clear HB; have BK117 := n0_; have BK118 := n1_; have HB := n2_; clear n0_ n1_ n2_; (try clear hb); (try clear hb2); (try clear hk); (try clear hi); have hcz37_0 : w36.cell? ⟨gb117, 0, none⟩ = some (.string a0_0) := (blk_cell BK117.out 0).trans rfl; have hcz37_1 : w36.cell? ⟨gb117, 1, none⟩ = some (.int .i64 a0_1) := (blk_cell BK117.out 1).trans rfl; have hcz37_2 : w36.cell? ⟨gb117, 2, none⟩ = some (.int .i64 a0_2) := (blk_cell BK117.out 2).trans rfl; have hcz37_3 : w36.cell? ⟨gb117, 3, none⟩ = some (.int .i64 a0_3) := (blk_cell BK117.out 3).trans rfl; have hcz37_4 : w36.cell? ⟨gb117, 4, none⟩ = some (.int .i64 a0_4) := (blk_cell BK117.out 4).trans rfl; have hcz37_5 : w36.cell? ⟨gb117, 5, none⟩ = some (.bool a0_5) := (blk_cell BK117.out 5).trans rfl; have hcz37_6 : w36.cell? ⟨gb117, 6, none⟩ = some (.slice A0_6 l0_6.length c0_6) := (blk_cell BK117.out 6).trans rfl; have hcz37_7 : w36.cell? ⟨gb117, 7, none⟩ = some (.slice A0_7 l0_7.length c0_7) := (blk_cell BK117.out 7).trans rfl; have hfz37_0 := blk_frozen BK117.out 0; have hfz37_1 := blk_frozen BK117.out 1; have hfz37_2 := blk_frozen BK117.out 2; have hfz37_3 := blk_frozen BK117.out 3; have hfz37_4 := blk_frozen BK117.out 4; have hfz37_5 := blk_frozen BK117.out 5; have hfz37_6 := blk_frozen BK117.out 6; have hfz37_7 := blk_frozen BK117.out 7; have hcz38_0 : w36.cell? ⟨gb118, 0, none⟩ = some (.string a1_0) := (blk_cell BK118.out 0).trans rfl; have hcz38_1 : w36.cell? ⟨gb118, 1, none⟩ = some (.int .i64 a1_1) := (blk_cell BK118.out 1).trans rfl; have hcz38_2 : w36.cell? ⟨gb118, 2, none⟩ = some (.int .i64 a1_2) := (blk_cell BK118.out 2).trans rfl; have hcz38_3 : w36.cell? ⟨gb118, 3, none⟩ = some (.int .i64 a1_3) := (blk_cell BK118.out 3).trans rfl; have hcz38_4 : w36.cell? ⟨gb118, 4, none⟩ = some (.int .i64 a1_4) := (blk_cell BK118.out 4).trans rfl; have hcz38_5 : w36.cell? ⟨gb118, 5, none⟩ = some (.bool a1_5) := (blk_cell BK118.out 5).trans rfl; have hcz38_6 : w36.cell? ⟨gb118, 6, none⟩ = some (.slice A1_6 l1_6.length c1_6) := (blk_cell BK118.out 6).trans rfl; have hcz38_7 : w36.cell? ⟨gb118, 7, none⟩ = some (.slice A1_7 l1_7.length c1_7) := (blk_cell BK118.out 7).trans rfl; have hfz38_0 := blk_frozen BK118.out 0; have hfz38_1 := blk_frozen BK118.out 1; have hfz38_2 := blk_frozen BK118.out 2; have hfz38_3 := blk_frozen BK118.out 3; have hfz38_4 := blk_frozen BK118.out 4; have hfz38_5 := blk_frozen BK118.out 5; have hfz38_6 := blk_frozen BK118.out 6; have hfz38_7 := blk_frozen BK118.out 7) | (go_at_call 24; (with_reducible refine (rosterref13_sameTexts.calls kj2 _ _ l0_7 _ _ l1_7 t120 _ ?side1 ?side2 ?side3 ?side4 A32.out).mono ?_); (case side1 => repeat (first | exact (Kd.C_below HR0_7.out HB.out) | exact (Kd.C_below (Aside0.out (by assumption)) HB.out) | (with_reducible refine Kd.C_alloc ?_ _) | (with_reducible refine Kd.C_drewN ?_ _) | (with_reducible refine Kd.C_drew ?_))); (case side2 => first | exact HC0_7.out | exact Aside0.out (by assumption)); (case side3 => repeat (first | exact (Kd.C_below HR1_7.out HB.out) | exact (Kd.C_below (Aside0.out (by assumption)) HB.out) | (with_reducible refine Kd.C_alloc ?_ _) | (with_reducible refine Kd.C_drewN ?_ _) | (with_reducible refine Kd.C_drew ?_))); (case side4 => first | exact HC1_7.out | exact Aside0.out (by assumption)); rintro e w' ⟨rfl, ⟨nd, rfl⟩⟩))
     go_ret
     exact ⟨by first | rfl | (simp [isEmpty_ne_]; done) | (simp [*, errW_none, errW_some] <;> rfl), by repeat (first | (with_reducible first | exact HB.out | apply below_alloc | apply pw_below_drewN | apply below_drew1 | refine below_set ?_ GE117.out | refine below_set ?_ GE118.out) | exact HB.out)⟩
    ·replace c31 := Bool.eq_false_iff.mpr c31
     subst c31
     have H1 : (some false) = some r := by rw [if_neg (show ¬ (false = true) by decide)] at H; exact H
     clear H
     have H := H1
     clear H1
     obtain rfl := Option.some.inj H
     have hnb39 := NB117_118.out
     have hnc39 := NB118_117.out
     have hcz40_0 : wc.cell? ⟨gb117, 0, none⟩ = some (.string a0_0) := (blk_cell BK117.out 0).trans rfl
     have hcz40_1 : wc.cell? ⟨gb117, 1, none⟩ = some (.int .i64 a0_1) := (blk_cell BK117.out 1).trans rfl
     have hcz40_2 : wc.cell? ⟨gb117, 2, none⟩ = some (.int .i64 a0_2) := (blk_cell BK117.out 2).trans rfl
     have hcz40_3 : wc.cell? ⟨gb117, 3, none⟩ = some (.int .i64 a0_3) := (blk_cell BK117.out 3).trans rfl
     have hcz40_4 : wc.cell? ⟨gb117, 4, none⟩ = some (.int .i64 a0_4) := (blk_cell BK117.out 4).trans rfl
     have hcz40_5 : wc.cell? ⟨gb117, 5, none⟩ = some (.bool a0_5) := (blk_cell BK117.out 5).trans rfl
     have hcz40_6 : wc.cell? ⟨gb117, 6, none⟩ = some (.slice A0_6 l0_6.length c0_6) := (blk_cell BK117.out 6).trans rfl
     have hcz40_7 : wc.cell? ⟨gb117, 7, none⟩ = some (.slice A0_7 l0_7.length c0_7) := (blk_cell BK117.out 7).trans rfl
     have hfz40_0 := blk_frozen BK117.out 0
     have hfz40_1 := blk_frozen BK117.out 1
     have hfz40_2 := blk_frozen BK117.out 2
     have hfz40_3 := blk_frozen BK117.out 3
     have hfz40_4 := blk_frozen BK117.out 4
     have hfz40_5 := blk_frozen BK117.out 5
     have hfz40_6 := blk_frozen BK117.out 6
     have hfz40_7 := blk_frozen BK117.out 7
     have hcz41_0 : wc.cell? ⟨gb118, 0, none⟩ = some (.string a1_0) := (blk_cell BK118.out 0).trans rfl
     have hcz41_1 : wc.cell? ⟨gb118, 1, none⟩ = some (.int .i64 a1_1) := (blk_cell BK118.out 1).trans rfl
     have hcz41_2 : wc.cell? ⟨gb118, 2, none⟩ = some (.int .i64 a1_2) := (blk_cell BK118.out 2).trans rfl
     have hcz41_3 : wc.cell? ⟨gb118, 3, none⟩ = some (.int .i64 a1_3) := (blk_cell BK118.out 3).trans rfl
     have hcz41_4 : wc.cell? ⟨gb118, 4, none⟩ = some (.int .i64 a1_4) := (blk_cell BK118.out 4).trans rfl
     have hcz41_5 : wc.cell? ⟨gb118, 5, none⟩ = some (.bool a1_5) := (blk_cell BK118.out 5).trans rfl
     have hcz41_6 : wc.cell? ⟨gb118, 6, none⟩ = some (.slice A1_6 l1_6.length c1_6) := (blk_cell BK118.out 6).trans rfl
     have hcz41_7 : wc.cell? ⟨gb118, 7, none⟩ = some (.slice A1_7 l1_7.length c1_7) := (blk_cell BK118.out 7).trans rfl
     have hfz41_0 := blk_frozen BK118.out 0
     have hfz41_1 := blk_frozen BK118.out 1
     have hfz41_2 := blk_frozen BK118.out 2
     have hfz41_3 := blk_frozen BK118.out 3
     have hfz41_4 := blk_frozen BK118.out 4
     have hfz41_5 := blk_frozen BK118.out 5
     have hfz41_6 := blk_frozen BK118.out 6
     have hfz41_7 := blk_frozen BK118.out 7
     go_wp2_with (first | ((with_reducible refine gate_callee (f := 27) rfl ?_); refine goesL_ (some 49) rfl rfl Tryd.func27 (by kernel_rfl) rfl #[.slice A0_6 l0_6.length c0_6, .slice A1_6 l1_6.length c1_6] rfl (by (try simp only [List.map_toArray, List.map_cons, List.map_nil]); first | done | rfl | (simp only [List.length_drop, List.length_take]; rfl) | exact congrArg (fun n_ : Nat => #[Value.slice _ n_ _]) (Eq.trans (Aside0.out (by assumption)) (Eq.symm (Aside0.out (by assumption)))) | exact congrArg (fun n_ : Nat => #[Value.slice _ n_ _, Value.slice _ _ _]) (Eq.trans (Aside0.out (by assumption)) (Eq.symm (Aside0.out (by assumption))))) ?_; (with_reducible refine (rosterref13_sameFilter.calls kj2 _ _ l0_6 _ _ l1_6 false _ ?side1 ?side2 ?side3 ?side4 A30.out).mono ?_); (case side1 => repeat (first | exact (Kd.C_below HR0_6.out HB.out) | exact (Kd.C_below (Aside0.out (by assumption)) HB.out) | (with_reducible refine Kd.C_alloc ?_ _) | (with_reducible refine Kd.C_drewN ?_ _) | (with_reducible refine Kd.C_drew ?_))); (case side2 => first | exact HC0_6.out | exact Aside0.out (by assumption)); (case side3 => repeat (first | exact (Kd.C_below HR1_6.out HB.out) | exact (Kd.C_below (Aside0.out (by assumption)) HB.out) | (with_reducible refine Kd.C_alloc ?_ _) | (with_reducible refine Kd.C_drewN ?_ _) | (with_reducible refine Kd.C_drew ?_))); (case side4 => first | exact HC1_6.out | exact Aside0.out (by assumption)); rintro e w42 ⟨rfl, hb⟩; refine ⟨_, rfl, ?_⟩; have n0_ := Aside0.mk (blk_below (g := gb117) (o := .cells #[.string a0_0, .int .i64 a0_1, .int .i64 a0_2, .int .i64 a0_3, .int .i64 a0_4, .bool a0_5, .slice A0_6 l0_6.length c0_6, .slice A0_7 l0_7.length c0_7] 31 (0, 0)) (by (with_reducible repeat (first | refine blk_drewN ?_ _ | refine blk_drew ?_ | refine blk_alloc ?_ _)); exact BK117.out) hb); have n1_ := Aside0.mk (blk_below (g := gb118) (o := .cells #[.string a1_0, .int .i64 a1_1, .int .i64 a1_2, .int .i64 a1_3, .int .i64 a1_4, .bool a1_5, .slice A1_6 l1_6.length c1_6, .slice A1_7 l1_7.length c1_7] 31 (0, 0)) (by (with_reducible repeat (first | refine blk_drewN ?_ _ | refine blk_drew ?_ | refine blk_alloc ?_ _)); exact BK118.out) hb); have n2_ := Aside0.mk (below_step (by repeat (first | (with_reducible first | exact HB.out | apply below_alloc | apply pw_below_drewN | apply below_drew1 | refine below_set ?_ GE117.out | refine below_set ?_ GE118.out) | exact HB.out)) hb); clear BK117; clear BK118; clear HB; have BK117 := n0_; have BK118 := n1_; have HB := n2_; clear n0_ n1_ n2_; (try clear hb); (try clear hb2); (try clear hk); (try clear hi)))
     go_ret
     exact ⟨by first | rfl | (simp [isEmpty_ne_]; done) | (simp [*, errW_none, errW_some] <;> rfl), by repeat (first | (with_reducible first | exact HB.out | apply below_alloc | apply pw_below_drewN | apply below_drew1 | refine below_set ?_ GE117.out | refine below_set ?_ GE118.out) | exact HB.out)⟩

end Go.Proofs.YtbpediccbeoifaaDoor.GN
