-- Written for this claim by a program of this session (wip/tools/p2.py).
import Derived.Test.YtbloccjogadlmaaGSx0
namespace Go.Proofs.Ytbloccjogadlmaa.GS
open Go.RowKit Go.Proofs.YtbloccjogadlmaaW.PrintWords Go.Proofs.YtbloccjogadlmaaW.PrintLast Go.Proofs.YtbloccjogadlmaaW.PrintMore
attribute [local go_sem] max2_int min2_int max_two min_two max_three min_three max_four min_four   -- for this text's walks alone
set_option linter.unusedVariables false
set_option linter.unusedSimpArgs false

/-! ### rosterlaw02_sound: function 10 -/
mutual
def rosterlaw02_sound.l0 : Nat → List (S39) → Int → Option (Bool)
 | 0, _, _ => none
 | k + 1, x0, x3 => if x3 < (x0.length : Int) then (if 0 ≤ x3 then (if ((rd_T39 x0 x3).f1) < 0 then (rosterlaw02_sound.j1 k x0 x3 true ((rd_T39 x0 x3).f0) ((rd_T39 x0 x3).f1) ((rd_T39 x0 x3).f2) ((rd_T39 x0 x3).f3) ((rd_T39 x0 x3).f4)) else (if ((rd_T39 x0 x3).f1) > 3 then (rosterlaw02_sound.j1 k x0 x3 true ((rd_T39 x0 x3).f0) ((rd_T39 x0 x3).f1) ((rd_T39 x0 x3).f2) ((rd_T39 x0 x3).f3) ((rd_T39 x0 x3).f4)) else (if ((rd_T39 x0 x3).f3) < 0 then (rosterlaw02_sound.j1 k x0 x3 true ((rd_T39 x0 x3).f0) ((rd_T39 x0 x3).f1) ((rd_T39 x0 x3).f2) ((rd_T39 x0 x3).f3) ((rd_T39 x0 x3).f4)) else (if ((rd_T39 x0 x3).f3) > 30 then (rosterlaw02_sound.j1 k x0 x3 true ((rd_T39 x0 x3).f0) ((rd_T39 x0 x3).f1) ((rd_T39 x0 x3).f2) ((rd_T39 x0 x3).f3) ((rd_T39 x0 x3).f4)) else (rosterlaw02_sound.j1 k x0 x3 (decide (((rd_T39 x0 x3).f0) > 64)) ((rd_T39 x0 x3).f0) ((rd_T39 x0 x3).f1) ((rd_T39 x0 x3).f2) ((rd_T39 x0 x3).f3) ((rd_T39 x0 x3).f4)))))) else (none)) else (some (decide ((x0.length : Int) > 0)))
def rosterlaw02_sound.j1 : Nat → List (S39) → Int → Bool → Int → Int → Bool → Int → ByteArray → Option (Bool)
 | 0, _, _, _, _, _, _, _, _ => none
 | k + 1, x0, x3, x37, x103000, x103001, x103002, x103003, x103004 => if x37 = true then (some false) else (if x103002 = true then (rosterlaw02_sound.j2 k x0 x3 (x103004.toList != ([] : List UInt8)) x103000 x103001 x103002 x103003 x103004) else (rosterlaw02_sound.j2 k x0 x3 false x103000 x103001 x103002 x103003 x103004))
def rosterlaw02_sound.j2 : Nat → List (S39) → Int → Bool → Int → Int → Bool → Int → ByteArray → Option (Bool)
 | 0, _, _, _, _, _, _, _, _ => none
 | k + 1, x0, x3, x44, x103000, x103001, x103002, x103003, x103004 => if x44 = true then (some false) else (if x3 = 0 then (rosterlaw02_sound.j3 k x0 x3 (x103000 != 1) x103000 x103001 x103002 x103003 x103004) else (rosterlaw02_sound.j3 k x0 x3 false x103000 x103001 x103002 x103003 x103004))
def rosterlaw02_sound.j3 : Nat → List (S39) → Int → Bool → Int → Int → Bool → Int → ByteArray → Option (Bool)
 | 0, _, _, _, _, _, _, _, _ => none
 | k + 1, x0, x3, x51, x103000, x103001, x103002, x103003, x103004 => if x51 = true then (some false) else (if x3 > 0 then (if x103000 < 2 then (rosterlaw02_sound.j4 k x0 x3 true x103000 x103001 x103002 x103003 x103004) else (if 0 ≤ (wrap64 (x3 - 1)) then (if (wrap64 (x3 - 1)) < (x0.length : Int) then (rosterlaw02_sound.j4 k x0 x3 (decide (x103000 > (wrap64 (((rd_T39 x0 (wrap64 (x3 - 1))).f0) + 1)))) x103000 x103001 x103002 x103003 x103004) else (none)) else (none))) else (rosterlaw02_sound.j4 k x0 x3 false x103000 x103001 x103002 x103003 x103004))
def rosterlaw02_sound.j4 : Nat → List (S39) → Int → Bool → Int → Int → Bool → Int → ByteArray → Option (Bool)
 | 0, _, _, _, _, _, _, _, _ => none
 | k + 1, x0, x3, x70, x103000, x103001, x103002, x103003, x103004 => if x70 = true then (some false) else (if x3 > 0 then (if 0 ≤ (wrap64 (x3 - 1)) then (if (wrap64 (x3 - 1)) < (x0.length : Int) then (if x103000 > ((rd_T39 x0 (wrap64 (x3 - 1))).f0) then (if ((rd_T39 x0 (wrap64 (x3 - 1))).f2 = true) then (rosterlaw02_sound.l0 k x0 (wrap64 (x3 + 1))) else (some false)) else (rosterlaw02_sound.l0 k x0 (wrap64 (x3 + 1)))) else (none)) else (none)) else (rosterlaw02_sound.l0 k x0 (wrap64 (x3 + 1))))
end
def rosterlaw02_sound.f (k : Nat) (l0 : List (S39)) : Option (Bool) := rosterlaw02_sound.l0 k l0 0
theorem rosterlaw02_sound.mono_l : ∀ k, (∀ y0 y1, LeO (rosterlaw02_sound.l0 k y0 y1) (rosterlaw02_sound.l0 (k + 1) y0 y1)) ∧ (∀ y0 y1 y2 y3 y4 y5 y6 y7, LeO (rosterlaw02_sound.j1 k y0 y1 y2 y3 y4 y5 y6 y7) (rosterlaw02_sound.j1 (k + 1) y0 y1 y2 y3 y4 y5 y6 y7)) ∧ (∀ y0 y1 y2 y3 y4 y5 y6 y7, LeO (rosterlaw02_sound.j2 k y0 y1 y2 y3 y4 y5 y6 y7) (rosterlaw02_sound.j2 (k + 1) y0 y1 y2 y3 y4 y5 y6 y7)) ∧ (∀ y0 y1 y2 y3 y4 y5 y6 y7, LeO (rosterlaw02_sound.j3 k y0 y1 y2 y3 y4 y5 y6 y7) (rosterlaw02_sound.j3 (k + 1) y0 y1 y2 y3 y4 y5 y6 y7)) ∧ (∀ y0 y1 y2 y3 y4 y5 y6 y7, LeO (rosterlaw02_sound.j4 k y0 y1 y2 y3 y4 y5 y6 y7) (rosterlaw02_sound.j4 (k + 1) y0 y1 y2 y3 y4 y5 y6 y7))
 | 0 => ⟨fun _ _ r h => by simp [rosterlaw02_sound.l0] at h, fun _ _ _ _ _ _ _ _ r h => by simp [rosterlaw02_sound.j1] at h, fun _ _ _ _ _ _ _ _ r h => by simp [rosterlaw02_sound.j2] at h, fun _ _ _ _ _ _ _ _ r h => by simp [rosterlaw02_sound.j3] at h, fun _ _ _ _ _ _ _ _ r h => by simp [rosterlaw02_sound.j4] at h⟩
 | k + 1 => by
  obtain ⟨ih0, ih1, ih2, ih3, ih4⟩ := rosterlaw02_sound.mono_l k
  refine ⟨?_, ?_, ?_, ?_, ?_⟩
  ·intro y0 y1
   unfold rosterlaw02_sound.l0
   repeat' first
   | (with_reducible exact ih0 _ _)
   | (with_reducible exact ih1 _ _ _ _ _ _ _ _)
   | (with_reducible exact ih2 _ _ _ _ _ _ _ _)
   | (with_reducible exact ih3 _ _ _ _ _ _ _ _)
   | (with_reducible exact ih4 _ _ _ _ _ _ _ _)
   | (with_reducible exact LeO.refl _)
   | (with_reducible exact LeO.none _)
   | (with_reducible refine LeO.ite ?_ ?_)
   | (with_reducible refine LeO.bind ?_ (fun _ => ?_))
   | exact ih0 _ _
   | exact ih1 _ _ _ _ _ _ _ _
   | exact ih2 _ _ _ _ _ _ _ _
   | exact ih3 _ _ _ _ _ _ _ _
   | exact ih4 _ _ _ _ _ _ _ _
   | exact LeO.none _
   | refine LeO.ite ?_ ?_
   | refine LeO.bind ?_ (fun _ => ?_)
  ·intro y0 y1 y2 y3 y4 y5 y6 y7
   unfold rosterlaw02_sound.j1
   repeat' first
   | (with_reducible exact ih0 _ _)
   | (with_reducible exact ih1 _ _ _ _ _ _ _ _)
   | (with_reducible exact ih2 _ _ _ _ _ _ _ _)
   | (with_reducible exact ih3 _ _ _ _ _ _ _ _)
   | (with_reducible exact ih4 _ _ _ _ _ _ _ _)
   | (with_reducible exact LeO.refl _)
   | (with_reducible exact LeO.none _)
   | (with_reducible refine LeO.ite ?_ ?_)
   | (with_reducible refine LeO.bind ?_ (fun _ => ?_))
   | exact ih0 _ _
   | exact ih1 _ _ _ _ _ _ _ _
   | exact ih2 _ _ _ _ _ _ _ _
   | exact ih3 _ _ _ _ _ _ _ _
   | exact ih4 _ _ _ _ _ _ _ _
   | exact LeO.none _
   | refine LeO.ite ?_ ?_
   | refine LeO.bind ?_ (fun _ => ?_)
  ·intro y0 y1 y2 y3 y4 y5 y6 y7
   unfold rosterlaw02_sound.j2
   repeat' first
   | (with_reducible exact ih0 _ _)
   | (with_reducible exact ih1 _ _ _ _ _ _ _ _)
   | (with_reducible exact ih2 _ _ _ _ _ _ _ _)
   | (with_reducible exact ih3 _ _ _ _ _ _ _ _)
   | (with_reducible exact ih4 _ _ _ _ _ _ _ _)
   | (with_reducible exact LeO.refl _)
   | (with_reducible exact LeO.none _)
   | (with_reducible refine LeO.ite ?_ ?_)
   | (with_reducible refine LeO.bind ?_ (fun _ => ?_))
   | exact ih0 _ _
   | exact ih1 _ _ _ _ _ _ _ _
   | exact ih2 _ _ _ _ _ _ _ _
   | exact ih3 _ _ _ _ _ _ _ _
   | exact ih4 _ _ _ _ _ _ _ _
   | exact LeO.none _
   | refine LeO.ite ?_ ?_
   | refine LeO.bind ?_ (fun _ => ?_)
  ·intro y0 y1 y2 y3 y4 y5 y6 y7
   unfold rosterlaw02_sound.j3
   repeat' first
   | (with_reducible exact ih0 _ _)
   | (with_reducible exact ih1 _ _ _ _ _ _ _ _)
   | (with_reducible exact ih2 _ _ _ _ _ _ _ _)
   | (with_reducible exact ih3 _ _ _ _ _ _ _ _)
   | (with_reducible exact ih4 _ _ _ _ _ _ _ _)
   | (with_reducible exact LeO.refl _)
   | (with_reducible exact LeO.none _)
   | (with_reducible refine LeO.ite ?_ ?_)
   | (with_reducible refine LeO.bind ?_ (fun _ => ?_))
   | exact ih0 _ _
   | exact ih1 _ _ _ _ _ _ _ _
   | exact ih2 _ _ _ _ _ _ _ _
   | exact ih3 _ _ _ _ _ _ _ _
   | exact ih4 _ _ _ _ _ _ _ _
   | exact LeO.none _
   | refine LeO.ite ?_ ?_
   | refine LeO.bind ?_ (fun _ => ?_)
  ·intro y0 y1 y2 y3 y4 y5 y6 y7
   unfold rosterlaw02_sound.j4
   repeat' first
   | (with_reducible exact ih0 _ _)
   | (with_reducible exact ih1 _ _ _ _ _ _ _ _)
   | (with_reducible exact ih2 _ _ _ _ _ _ _ _)
   | (with_reducible exact ih3 _ _ _ _ _ _ _ _)
   | (with_reducible exact ih4 _ _ _ _ _ _ _ _)
   | (with_reducible exact LeO.refl _)
   | (with_reducible exact LeO.none _)
   | (with_reducible refine LeO.ite ?_ ?_)
   | (with_reducible refine LeO.bind ?_ (fun _ => ?_))
   | exact ih0 _ _
   | exact ih1 _ _ _ _ _ _ _ _
   | exact ih2 _ _ _ _ _ _ _ _
   | exact ih3 _ _ _ _ _ _ _ _
   | exact ih4 _ _ _ _ _ _ _ _
   | exact LeO.none _
   | refine LeO.ite ?_ ?_
   | refine LeO.bind ?_ (fun _ => ?_)
theorem rosterlaw02_sound.mono : ∀ a0 k, LeO (rosterlaw02_sound.f k a0) (rosterlaw02_sound.f (k + 1) a0) := by
 intro a0 k
 obtain ⟨ih0, ih1, ih2, ih3, ih4⟩ := rosterlaw02_sound.mono_l k
 unfold rosterlaw02_sound.f
 repeat' first
   | (with_reducible exact ih0 _ _)
   | (with_reducible exact ih1 _ _ _ _ _ _ _ _)
   | (with_reducible exact ih2 _ _ _ _ _ _ _ _)
   | (with_reducible exact ih3 _ _ _ _ _ _ _ _)
   | (with_reducible exact ih4 _ _ _ _ _ _ _ _)
   | (with_reducible exact LeO.refl _)
   | (with_reducible exact LeO.none _)
   | (with_reducible refine LeO.ite ?_ ?_)
   | (with_reducible refine LeO.bind ?_ (fun _ => ?_))
   | exact ih0 _ _
   | exact ih1 _ _ _ _ _ _ _ _
   | exact ih2 _ _ _ _ _ _ _ _
   | exact ih3 _ _ _ _ _ _ _ _
   | exact ih4 _ _ _ _ _ _ _ _
   | exact LeO.none _
   | refine LeO.ite ?_ ?_
   | refine LeO.bind ?_ (fun _ => ?_)
set_option maxHeartbeats 8000000 in
set_option maxRecDepth 100000 in
theorem rosterlaw02_sound.calls (k : Nat) (A0 : Option Addr) (c0 : Nat) (l0 : List (S39)) (r : Bool) (w : World) (hr0 : Kd.C k39 w A0 l0.length l0) (hc0 : l0.length ≤ c0) (h : rosterlaw02_sound.f k l0 = some r) :
  Calls Try.prog 10 #[.slice A0 l0.length c0] w fun e w' => e = .returned (.bool r) ∧ Below w.heap.size w w' := by
 have hu39 := Try.underlying39
 have HR0 := Aside0.mk hr0
 have HC0 := Aside0.mk hc0
 clear hr0 hc0
 have HB := Aside0.mk (Below.refl w.heap.size w)
 have H : (rosterlaw02_sound.l0 k l0 0) = some r := h
 clear h
 have H' := Aside0.mk H
 clear H
 go_enter Try.func10, Try.ntmps10
 go_wp2
 repeat (go_quiet (fail); try go_wp2)
 go_loopg [3] k (fun kq v3 w' => ∃ (x3_1 : Int), v3 = .int .i64 x3_1 ∧ Aside0 (rosterlaw02_sound.l0 kq l0 x3_1 = some r) ∧ Aside0 (kq ≤ k) ∧ Aside0 (Below w.heap.size w w'))
 case atStart => exact ⟨(0), (by first | rfl | (simp; done) | (simp [*]; done) | (simp [isEmpty_ne_]; done)), H', ⟨Nat.le_refl _⟩, ⟨by repeat (first | (with_reducible first | exact HB.out | apply below_alloc | apply pw_below_drewN | apply below_drew1) | exact HB.out)⟩⟩
 case round =>
  clear H'
  try clear c1
  obtain ⟨x3_1, rfl, HA, HK1, HB⟩ := hrel
  cases gk with
  | zero => exact absurd HA.out (by simp [rosterlaw02_sound.l0])
  | succ k1 =>
   have H := HA.out
   clear HA
   simp only [rosterlaw02_sound.l0] at H
   by_cases c2 : x3_1 < (l0.length : Int)
   ·rw [if_pos c2] at H
    have c2b0 : decide (x3_1 < (l0.length : Int)) = true := decide_eq_true c2
    clear c2
    by_cases c3 : 0 ≤ x3_1
    ·rw [if_pos c3] at H
     have c3b0 : decide (0 ≤ x3_1) = true := decide_eq_true c3
     clear c3
     have HC4 := Aside0.mk H
     clear H
     have p101 : 0 ≤ (x3_1 : Int) := of_decide_eq_true (by first | (with_reducible assumption) | assumption)
     have q101 : x3_1 < (l0.length : Int) := of_decide_eq_true (by first | (with_reducible assumption) | assumption)
     obtain ⟨ad101, e101, hx101_0, hx101_1, hx101_2, hx101_3, hx101_4⟩ := at_T39 HR0.out x3_1 p101 q101
     cases e101
     replace hx101_0 := cellB_ HB.out hx101_0
     replace hx101_1 := cellB_ HB.out hx101_1
     replace hx101_2 := cellB_ HB.out hx101_2
     replace hx101_3 := cellB_ HB.out hx101_3
     replace hx101_4 := cellB_ HB.out hx101_4
     replace p101 := eq_true p101
     replace q101 := eq_true q101
     go_upto_region 5 with (first | ((with_reducible refine gate_dst (N := 4) rfl ?_); refine box_event ?hg (N := 4) ?hd (cs := #[.int .i64 0, .int .i64 0, .bool false, .int .i64 0, .string (⟨#[]⟩ : ByteArray)]) (t := 39) ?hr ?_; (case hd => rfl); (case hg => rfl); (case hr => first | (go_simp; done) | (go_simp; rfl)); intro gb102 hg w5 hbox hb; have n0_ := Aside0.mk (below_step (by repeat (first | (with_reducible first | exact HB.out | apply below_alloc | apply pw_below_drewN | apply below_drew1) | exact HB.out)) hb); have n1_ := Aside0.mk (hbox); have n2_ := Aside0.mk ((by rw [hg]; exact (below_size (by repeat (first | (with_reducible first | exact HB.out | apply below_alloc | apply pw_below_drewN | apply below_drew1) | exact HB.out))) : w.heap.size ≤ gb102)); have n3_ := Aside0.mk ((by rw [hg]; exact (below_size (by repeat (first | (with_reducible first | exact HB.out | apply below_alloc | apply pw_below_drewN | apply below_drew1) | exact HB.out))) : w.heap.size ≤ gb102)); clear HB; have HB := n0_; have BK102 := n1_; have GW102 := n2_; have GE102 := n3_; clear n0_ n1_ n2_ n3_; clear hb hbox hg; obtain ⟨hcz6_0, hcz6_1, hcz6_2, hcz6_3, hcz6_4⟩ := cells5_ BK102.out; obtain ⟨hfz6_0, hfz6_1, hfz6_2, hfz6_3, hfz6_4⟩ := frz5_ BK102.out))
     repeat (go_quiet (fail); go_upto_region 5 with (first | ((with_reducible refine gate_dst (N := 4) rfl ?_); refine box_event ?hg (N := 4) ?hd (cs := #[.int .i64 0, .int .i64 0, .bool false, .int .i64 0, .string (⟨#[]⟩ : ByteArray)]) (t := 39) ?hr ?_; (case hd => rfl); (case hg => rfl); (case hr => first | (go_simp; done) | (go_simp; rfl)); intro gb102 hg w5 hbox hb; have n0_ := Aside0.mk (below_step (by repeat (first | (with_reducible first | exact HB.out | apply below_alloc | apply pw_below_drewN | apply below_drew1) | exact HB.out)) hb); have n1_ := Aside0.mk (hbox); have n2_ := Aside0.mk ((by rw [hg]; exact (below_size (by repeat (first | (with_reducible first | exact HB.out | apply below_alloc | apply pw_below_drewN | apply below_drew1) | exact HB.out))) : w.heap.size ≤ gb102)); have n3_ := Aside0.mk ((by rw [hg]; exact (below_size (by repeat (first | (with_reducible first | exact HB.out | apply below_alloc | apply pw_below_drewN | apply below_drew1) | exact HB.out))) : w.heap.size ≤ gb102)); clear HB; have HB := n0_; have BK102 := n1_; have GW102 := n2_; have GE102 := n3_; clear n0_ n1_ n2_ n3_; clear hb hbox hg; obtain ⟨hcz6_0, hcz6_1, hcz6_2, hcz6_3, hcz6_4⟩ := cells5_ BK102.out; obtain ⟨hfz6_0, hfz6_1, hfz6_2, hfz6_3, hfz6_4⟩ := frz5_ BK102.out)))
     (try simp only [Act.put, List.setIfInBounds_toArray, List.set_cons_zero, List.set_cons_succ])
     go_cut [37] (fun v37 wc => ∃ (kq : Nat) (x37_3 : Bool), v37 = .bool x37_3 ∧ Aside0 (rosterlaw02_sound.j1 kq l0 x3_1 x37_3 ((rd_T39 l0 x3_1).f0) ((rd_T39 l0 x3_1).f1) ((rd_T39 l0 x3_1).f2) ((rd_T39 l0 x3_1).f3) ((rd_T39 l0 x3_1).f4) = some r) ∧ Aside0 (kq ≤ k1) ∧ Aside0 (wc.heap[gb102]? = some (.cells #[.int .i64 ((rd_T39 l0 x3_1).f0), .int .i64 ((rd_T39 l0 x3_1).f1), .bool ((rd_T39 l0 x3_1).f2), .int .i64 ((rd_T39 l0 x3_1).f3), .string ((rd_T39 l0 x3_1).f4)] 39 (0, 0))) ∧ Aside0 (Below w.heap.size w wc))
     case first =>
      have H := HC4.out
      clear HC4
      by_cases c7 : ((rd_T39 l0 x3_1).f1) < 0
      ·rw [if_pos c7] at H
       have c7b0 : decide (((rd_T39 l0 x3_1).f1) < 0) = true := decide_eq_true c7
       clear c7
       (first | rw [c7b0] | (simp only [i64_w, i32_w]; rw [c7b0]) | skip)
       have H' := Aside0.mk H
       clear H
       obtain ⟨hcz8_0, hcz8_1, hcz8_2, hcz8_3, hcz8_4⟩ := cells5_ BK102.out
       obtain ⟨hfz8_0, hfz8_1, hfz8_2, hfz8_3, hfz8_4⟩ := frz5_ BK102.out
       go_wp2
       repeat (go_quiet (fail); try go_wp2)
       go_meet
       case rel => exact ⟨_, (true), (by first | rfl | (simp; done) | (simp [*]; done) | (simp [isEmpty_ne_]; done)), H', ⟨by have := HK1.out; first | omega | exact Nat.le_refl _⟩, ⟨by (with_reducible repeat (first | refine blk_drewN ?_ _ | refine blk_drew ?_ | refine blk_alloc ?_ _)); exact put5_ (by (with_reducible repeat (first | refine blk_drewN ?_ _ | refine blk_drew ?_ | refine blk_alloc ?_ _)); exact BK102.out)⟩, ⟨by repeat (first | (with_reducible first | exact HB.out | apply below_alloc | apply pw_below_drewN | apply below_drew1 | refine below_set ?_ GE102.out) | exact HB.out)⟩⟩
      ·rw [if_neg c7] at H
       have c7b0 : decide (((rd_T39 l0 x3_1).f1) < 0) = false := decide_eq_false c7
       clear c7
       (first | rw [c7b0] | (simp only [i64_w, i32_w]; rw [c7b0]) | skip)
       by_cases c9 : ((rd_T39 l0 x3_1).f1) > 3
       ·rw [if_pos c9] at H
        have c9b0 : decide (3 < ((rd_T39 l0 x3_1).f1)) = true := decide_eq_true c9
        clear c9
        have H' := Aside0.mk H
        clear H
        obtain ⟨hcz10_0, hcz10_1, hcz10_2, hcz10_3, hcz10_4⟩ := cells5_ BK102.out
        obtain ⟨hfz10_0, hfz10_1, hfz10_2, hfz10_3, hfz10_4⟩ := frz5_ BK102.out
        go_wp2
        repeat (go_quiet (fail); try go_wp2)
        go_meet
        case rel => exact ⟨_, (true), (by first | rfl | (simp; done) | (simp [*]; done) | (simp [isEmpty_ne_]; done)), H', ⟨by have := HK1.out; first | omega | exact Nat.le_refl _⟩, ⟨by (with_reducible repeat (first | refine blk_drewN ?_ _ | refine blk_drew ?_ | refine blk_alloc ?_ _)); exact put5_ (by (with_reducible repeat (first | refine blk_drewN ?_ _ | refine blk_drew ?_ | refine blk_alloc ?_ _)); exact BK102.out)⟩, ⟨by repeat (first | (with_reducible first | exact HB.out | apply below_alloc | apply pw_below_drewN | apply below_drew1 | refine below_set ?_ GE102.out) | exact HB.out)⟩⟩
       ·rw [if_neg c9] at H
        have c9b0 : decide (3 < ((rd_T39 l0 x3_1).f1)) = false := decide_eq_false c9
        clear c9
        by_cases c11 : ((rd_T39 l0 x3_1).f3) < 0
        ·rw [if_pos c11] at H
         have c11b0 : decide (((rd_T39 l0 x3_1).f3) < 0) = true := decide_eq_true c11
         clear c11
         have H' := Aside0.mk H
         clear H
         obtain ⟨hcz12_0, hcz12_1, hcz12_2, hcz12_3, hcz12_4⟩ := cells5_ BK102.out
         obtain ⟨hfz12_0, hfz12_1, hfz12_2, hfz12_3, hfz12_4⟩ := frz5_ BK102.out
         go_wp2
         repeat (go_quiet (fail); try go_wp2)
         go_meet
         case rel => exact ⟨_, (true), (by first | rfl | (simp; done) | (simp [*]; done) | (simp [isEmpty_ne_]; done)), H', ⟨by have := HK1.out; first | omega | exact Nat.le_refl _⟩, ⟨by (with_reducible repeat (first | refine blk_drewN ?_ _ | refine blk_drew ?_ | refine blk_alloc ?_ _)); exact put5_ (by (with_reducible repeat (first | refine blk_drewN ?_ _ | refine blk_drew ?_ | refine blk_alloc ?_ _)); exact BK102.out)⟩, ⟨by repeat (first | (with_reducible first | exact HB.out | apply below_alloc | apply pw_below_drewN | apply below_drew1 | refine below_set ?_ GE102.out) | exact HB.out)⟩⟩
        ·rw [if_neg c11] at H
         have c11b0 : decide (((rd_T39 l0 x3_1).f3) < 0) = false := decide_eq_false c11
         clear c11
         by_cases c13 : ((rd_T39 l0 x3_1).f3) > 30
         ·rw [if_pos c13] at H
          have c13b0 : decide (30 < ((rd_T39 l0 x3_1).f3)) = true := decide_eq_true c13
          clear c13
          have H' := Aside0.mk H
          clear H
          obtain ⟨hcz14_0, hcz14_1, hcz14_2, hcz14_3, hcz14_4⟩ := cells5_ BK102.out
          obtain ⟨hfz14_0, hfz14_1, hfz14_2, hfz14_3, hfz14_4⟩ := frz5_ BK102.out
          go_wp2
          repeat (go_quiet (fail); try go_wp2)
          go_meet
          case rel => exact ⟨_, (true), (by first | rfl | (simp; done) | (simp [*]; done) | (simp [isEmpty_ne_]; done)), H', ⟨by have := HK1.out; first | omega | exact Nat.le_refl _⟩, ⟨by (with_reducible repeat (first | refine blk_drewN ?_ _ | refine blk_drew ?_ | refine blk_alloc ?_ _)); exact put5_ (by (with_reducible repeat (first | refine blk_drewN ?_ _ | refine blk_drew ?_ | refine blk_alloc ?_ _)); exact BK102.out)⟩, ⟨by repeat (first | (with_reducible first | exact HB.out | apply below_alloc | apply pw_below_drewN | apply below_drew1 | refine below_set ?_ GE102.out) | exact HB.out)⟩⟩
         ·rw [if_neg c13] at H
          have c13b0 : decide (30 < ((rd_T39 l0 x3_1).f3)) = false := decide_eq_false c13
          clear c13
          have H' := Aside0.mk H
          clear H
          obtain ⟨hcz15_0, hcz15_1, hcz15_2, hcz15_3, hcz15_4⟩ := cells5_ BK102.out
          obtain ⟨hfz15_0, hfz15_1, hfz15_2, hfz15_3, hfz15_4⟩ := frz5_ BK102.out
          go_wp2
          repeat (go_quiet (fail); try go_wp2)
          go_meet
          case rel => exact ⟨_, (decide (((rd_T39 l0 x3_1).f0) > 64)), (by first | rfl | (simp; done) | (simp [*]; done) | (simp [isEmpty_ne_]; done)), H', ⟨by have := HK1.out; first | omega | exact Nat.le_refl _⟩, ⟨by (with_reducible repeat (first | refine blk_drewN ?_ _ | refine blk_drew ?_ | refine blk_alloc ?_ _)); exact put5_ (by (with_reducible repeat (first | refine blk_drewN ?_ _ | refine blk_drew ?_ | refine blk_alloc ?_ _)); exact BK102.out)⟩, ⟨by repeat (first | (with_reducible first | exact HB.out | apply below_alloc | apply pw_below_drewN | apply below_drew1 | refine below_set ?_ GE102.out) | exact HB.out)⟩⟩
     case rest =>
      clear HC4
      try clear c1
      try clear p1
      try clear q1
      try clear hx1
      try clear c2
      try clear c2b0
      try clear p2
      try clear c3
      try clear c3b0
      try clear c7
      try clear c7b0
      try clear c9
      try clear c9b0
      try clear c10
      try clear p10
      try clear q10
      try clear hx10
      try clear c11
      try clear c11b0
      try clear c13
      try clear c13b0
      try clear hcz10_0 hcz10_1 hcz10_2 hcz10_3 hcz10_4
      try clear hcz12_0 hcz12_1 hcz12_2 hcz12_3 hcz12_4
      try clear hcz14_0 hcz14_1 hcz14_2 hcz14_3 hcz14_4
      try clear hcz15_0 hcz15_1 hcz15_2 hcz15_3 hcz15_4
      try clear hcz6_0 hcz6_1 hcz6_2 hcz6_3 hcz6_4
      try clear hcz8_0 hcz8_1 hcz8_2 hcz8_3 hcz8_4
      try clear hfz10_0 hfz10_1 hfz10_2 hfz10_3 hfz10_4
      try clear hfz12_0 hfz12_1 hfz12_2 hfz12_3 hfz12_4
      try clear hfz14_0 hfz14_1 hfz14_2 hfz14_3 hfz14_4
      try clear hfz15_0 hfz15_1 hfz15_2 hfz15_3 hfz15_4
      try clear hfz6_0 hfz6_1 hfz6_2 hfz6_3 hfz6_4
      try clear hfz8_0 hfz8_1 hfz8_2 hfz8_3 hfz8_4
      try clear hx101_0
      try clear hx101_1
      try clear hx101_2
      try clear hx101_3
      try clear hx101_4
      try clear p101
      try clear q101
      obtain ⟨kq, x37_3, rfl, HA, HJ3, BK102, HB⟩ := hcut
      cases kq with
      | zero => exact absurd HA.out (by simp [rosterlaw02_sound.j1])
      | succ kj3 =>
       have H := HA.out
       clear HA
       simp only [rosterlaw02_sound.j1] at H
       by_cases c16 : x37_3 = true
       ·subst c16
        have H1 : (some false) = some r := by rw [if_pos rfl] at H; exact H
        clear H
        have H := H1
        clear H1
        obtain rfl := Option.some.inj H
        go_wp2
        repeat (go_quiet (fail); try go_wp2)
        go_ret
        exact ⟨by first | rfl | (simp [isEmpty_ne_]; done) | (simp [*, errW_none, errW_some] <;> rfl), by repeat (first | (with_reducible first | exact HB.out | apply below_alloc | apply pw_below_drewN | apply below_drew1 | refine below_set ?_ GE102.out) | exact HB.out)⟩
       ·replace c16 := Bool.eq_false_iff.mpr c16
        subst c16
        have H1 : (if ((rd_T39 l0 x3_1).f2) = true then (rosterlaw02_sound.j2 kj3 l0 x3_1 (((rd_T39 l0 x3_1).f4).toList != ([] : List UInt8)) ((rd_T39 l0 x3_1).f0) ((rd_T39 l0 x3_1).f1) ((rd_T39 l0 x3_1).f2) ((rd_T39 l0 x3_1).f3) ((rd_T39 l0 x3_1).f4)) else (rosterlaw02_sound.j2 kj3 l0 x3_1 false ((rd_T39 l0 x3_1).f0) ((rd_T39 l0 x3_1).f1) ((rd_T39 l0 x3_1).f2) ((rd_T39 l0 x3_1).f3) ((rd_T39 l0 x3_1).f4))) = some r := by rw [if_neg (show ¬ (false = true) by decide)] at H; exact H
        clear H
        have H := H1
        clear H1
        have HC17 := Aside0.mk H
        clear H
        go_upto_region 7 with (fail)
        repeat (go_quiet (fail); go_upto_region 7 with (fail))
        go_cut [44] (fun v44 wc => ∃ (kq : Nat) (x44_16 : Bool), v44 = .bool x44_16 ∧ Aside0 (rosterlaw02_sound.j2 kq l0 x3_1 x44_16 ((rd_T39 l0 x3_1).f0) ((rd_T39 l0 x3_1).f1) ((rd_T39 l0 x3_1).f2) ((rd_T39 l0 x3_1).f3) ((rd_T39 l0 x3_1).f4) = some r) ∧ Aside0 (kq ≤ kj3) ∧ Aside0 (wc.heap[gb102]? = some (.cells #[.int .i64 ((rd_T39 l0 x3_1).f0), .int .i64 ((rd_T39 l0 x3_1).f1), .bool ((rd_T39 l0 x3_1).f2), .int .i64 ((rd_T39 l0 x3_1).f3), .string ((rd_T39 l0 x3_1).f4)] 39 (0, 0))) ∧ Aside0 (Below w.heap.size w wc))
        case first =>
         have H := HC17.out
         clear HC17
         by_cases c18 : ((rd_T39 l0 x3_1).f2) = true
         ·rw [if_pos c18] at H
          have c18b0 : ((rd_T39 l0 x3_1).f2) = true := c18
          clear c18
          (first | rw [c18b0] | (simp only [i64_w, i32_w]; rw [c18b0]) | skip)
          have H' := Aside0.mk H
          clear H
          obtain ⟨hcz19_0, hcz19_1, hcz19_2, hcz19_3, hcz19_4⟩ := cells5_ BK102.out
          obtain ⟨hfz19_0, hfz19_1, hfz19_2, hfz19_3, hfz19_4⟩ := frz5_ BK102.out
          go_wp2
          repeat (go_quiet (fail); try go_wp2)
          go_meet
          case rel => exact ⟨_, ((((rd_T39 l0 x3_1).f4).toList != ([] : List UInt8))), (by first | rfl | (simp; done) | (simp [*]; done) | (simp [isEmpty_ne_]; done)), H', ⟨by have := HK1.out; have := HJ3.out; first | omega | exact Nat.le_refl _⟩, ⟨by (with_reducible repeat (first | refine blk_drewN ?_ _ | refine blk_drew ?_ | refine blk_alloc ?_ _)); exact BK102.out⟩, ⟨by repeat (first | (with_reducible first | exact HB.out | apply below_alloc | apply pw_below_drewN | apply below_drew1 | refine below_set ?_ GE102.out) | exact HB.out)⟩⟩
         ·rw [if_neg c18] at H
          have c18b0 : ((rd_T39 l0 x3_1).f2) = false := by simpa using c18
          clear c18
          (first | rw [c18b0] | (simp only [i64_w, i32_w]; rw [c18b0]) | skip)
          have H' := Aside0.mk H
          clear H
          obtain ⟨hcz20_0, hcz20_1, hcz20_2, hcz20_3, hcz20_4⟩ := cells5_ BK102.out
          obtain ⟨hfz20_0, hfz20_1, hfz20_2, hfz20_3, hfz20_4⟩ := frz5_ BK102.out
          go_wp2
          repeat (go_quiet (fail); try go_wp2)
          go_meet
          case rel => exact ⟨_, (false), (by first | rfl | (simp; done) | (simp [*]; done) | (simp [isEmpty_ne_]; done)), H', ⟨by have := HK1.out; have := HJ3.out; first | omega | exact Nat.le_refl _⟩, ⟨by (with_reducible repeat (first | refine blk_drewN ?_ _ | refine blk_drew ?_ | refine blk_alloc ?_ _)); exact BK102.out⟩, ⟨by repeat (first | (with_reducible first | exact HB.out | apply below_alloc | apply pw_below_drewN | apply below_drew1 | refine below_set ?_ GE102.out) | exact HB.out)⟩⟩
        case rest =>
         clear HC17
         try clear c1
         try clear p1
         try clear q1
         try clear hx1
         try clear c2
         try clear c2b0
         try clear p2
         try clear c3
         try clear c3b0
         try clear c7
         try clear c7b0
         try clear c9
         try clear c9b0
         try clear c10
         try clear p10
         try clear q10
         try clear hx10
         try clear c11
         try clear c11b0
         try clear c13
         try clear c13b0
         try clear c16
         try clear c18
         try clear c18b0
         try clear hcz10_0 hcz10_1 hcz10_2 hcz10_3 hcz10_4
         try clear hcz12_0 hcz12_1 hcz12_2 hcz12_3 hcz12_4
         try clear hcz14_0 hcz14_1 hcz14_2 hcz14_3 hcz14_4
         try clear hcz15_0 hcz15_1 hcz15_2 hcz15_3 hcz15_4
         try clear hcz19_0 hcz19_1 hcz19_2 hcz19_3 hcz19_4
         try clear hcz20_0 hcz20_1 hcz20_2 hcz20_3 hcz20_4
         try clear hcz6_0 hcz6_1 hcz6_2 hcz6_3 hcz6_4
         try clear hcz8_0 hcz8_1 hcz8_2 hcz8_3 hcz8_4
         try clear hfz10_0 hfz10_1 hfz10_2 hfz10_3 hfz10_4
         try clear hfz12_0 hfz12_1 hfz12_2 hfz12_3 hfz12_4
         try clear hfz14_0 hfz14_1 hfz14_2 hfz14_3 hfz14_4
         try clear hfz15_0 hfz15_1 hfz15_2 hfz15_3 hfz15_4
         try clear hfz19_0 hfz19_1 hfz19_2 hfz19_3 hfz19_4
         try clear hfz20_0 hfz20_1 hfz20_2 hfz20_3 hfz20_4
         try clear hfz6_0 hfz6_1 hfz6_2 hfz6_3 hfz6_4
         try clear hfz8_0 hfz8_1 hfz8_2 hfz8_3 hfz8_4
         try clear hx101_0
         try clear hx101_1
         try clear hx101_2
         try clear hx101_3
         try clear hx101_4
         try clear p1
         try clear p10
         try clear p101
         try clear p2
         try clear q1
         try clear q10
         try clear q101
         obtain ⟨kq, x44_16, rfl, HA, HJ16, BK102, HB⟩ := hcut
         cases kq with
         | zero => exact absurd HA.out (by simp [rosterlaw02_sound.j2])
         | succ kj16 =>
          have H := HA.out
          clear HA
          simp only [rosterlaw02_sound.j2] at H
          by_cases c21 : x44_16 = true
          ·subst c21
           have H1 : (some false) = some r := by rw [if_pos rfl] at H; exact H
           clear H
           have H := H1
           clear H1
           obtain rfl := Option.some.inj H
           go_wp2
           repeat (go_quiet (fail); try go_wp2)
           go_ret
           exact ⟨by first | rfl | (simp [isEmpty_ne_]; done) | (simp [*, errW_none, errW_some] <;> rfl), by repeat (first | (with_reducible first | exact HB.out | apply below_alloc | apply pw_below_drewN | apply below_drew1 | refine below_set ?_ GE102.out) | exact HB.out)⟩
          ·replace c21 := Bool.eq_false_iff.mpr c21
           subst c21
           have H1 : (if x3_1 = 0 then (rosterlaw02_sound.j3 kj16 l0 x3_1 (((rd_T39 l0 x3_1).f0) != 1) ((rd_T39 l0 x3_1).f0) ((rd_T39 l0 x3_1).f1) ((rd_T39 l0 x3_1).f2) ((rd_T39 l0 x3_1).f3) ((rd_T39 l0 x3_1).f4)) else (rosterlaw02_sound.j3 kj16 l0 x3_1 false ((rd_T39 l0 x3_1).f0) ((rd_T39 l0 x3_1).f1) ((rd_T39 l0 x3_1).f2) ((rd_T39 l0 x3_1).f3) ((rd_T39 l0 x3_1).f4))) = some r := by rw [if_neg (show ¬ (false = true) by decide)] at H; exact H
           clear H
           have H := H1
           clear H1
           have HC22 := Aside0.mk H
           clear H
           go_upto_region 9 with (fail)
           repeat (go_quiet (fail); go_upto_region 9 with (fail))
           go_cut [51] (fun v51 wc => ∃ (kq : Nat) (x51_21 : Bool), v51 = .bool x51_21 ∧ Aside0 (rosterlaw02_sound.j3 kq l0 x3_1 x51_21 ((rd_T39 l0 x3_1).f0) ((rd_T39 l0 x3_1).f1) ((rd_T39 l0 x3_1).f2) ((rd_T39 l0 x3_1).f3) ((rd_T39 l0 x3_1).f4) = some r) ∧ Aside0 (kq ≤ kj16) ∧ Aside0 (wc.heap[gb102]? = some (.cells #[.int .i64 ((rd_T39 l0 x3_1).f0), .int .i64 ((rd_T39 l0 x3_1).f1), .bool ((rd_T39 l0 x3_1).f2), .int .i64 ((rd_T39 l0 x3_1).f3), .string ((rd_T39 l0 x3_1).f4)] 39 (0, 0))) ∧ Aside0 (Below w.heap.size w wc))
           case first =>
            have H := HC22.out
            clear HC22
            by_cases c23 : x3_1 = 0
            ·rw [if_pos c23] at H
             have c23b0 : (x3_1 == 0) = true := beq_iff_eq.mpr c23
             have c23b1 : (x3_1 != 0) = false := bne_eq_false_iff_eq.mpr c23
             clear c23
             (first | rw [c23b0] | (simp only [i64_w, i32_w]; rw [c23b0]) | skip)
             have H' := Aside0.mk H
             clear H
             obtain ⟨hcz24_0, hcz24_1, hcz24_2, hcz24_3, hcz24_4⟩ := cells5_ BK102.out
             obtain ⟨hfz24_0, hfz24_1, hfz24_2, hfz24_3, hfz24_4⟩ := frz5_ BK102.out
             go_wp2
             repeat (go_quiet (fail); try go_wp2)
             go_meet
             case rel => exact ⟨_, ((((rd_T39 l0 x3_1).f0) != 1)), (by first | rfl | (simp; done) | (simp [*]; done) | (simp [isEmpty_ne_]; done)), H', ⟨by have := HK1.out; have := HJ3.out; have := HJ16.out; first | omega | exact Nat.le_refl _⟩, ⟨by (with_reducible repeat (first | refine blk_drewN ?_ _ | refine blk_drew ?_ | refine blk_alloc ?_ _)); exact BK102.out⟩, ⟨by repeat (first | (with_reducible first | exact HB.out | apply below_alloc | apply pw_below_drewN | apply below_drew1 | refine below_set ?_ GE102.out) | exact HB.out)⟩⟩
            ·rw [if_neg c23] at H
             have c23b0 : (x3_1 == 0) = false := beq_eq_false_iff_ne.mpr c23
             have c23b1 : (x3_1 != 0) = true := bne_iff_ne.mpr c23
             (first | rw [c23b0] | (simp only [i64_w, i32_w]; rw [c23b0]) | skip)
             have H' := Aside0.mk H
             clear H
             go_wp2
             repeat (go_quiet (fail); try go_wp2)
             go_meet
             case rel => exact ⟨_, (false), (by first | rfl | (simp; done) | (simp [*]; done) | (simp [isEmpty_ne_]; done)), H', ⟨by have := HK1.out; have := HJ3.out; have := HJ16.out; first | omega | exact Nat.le_refl _⟩, ⟨by (with_reducible repeat (first | refine blk_drewN ?_ _ | refine blk_drew ?_ | refine blk_alloc ?_ _)); exact BK102.out⟩, ⟨by repeat (first | (with_reducible first | exact HB.out | apply below_alloc | apply pw_below_drewN | apply below_drew1 | refine below_set ?_ GE102.out) | exact HB.out)⟩⟩
           case rest =>
            clear HC22
            try clear c1
            try clear p1
            try clear q1
            try clear hx1
            try clear c2
            try clear c2b0
            try clear p2
            try clear c3
            try clear c3b0
            try clear c7
            try clear c7b0
            try clear c9
            try clear c9b0
            try clear c10
            try clear p10
            try clear q10
            try clear hx10
            try clear c11
            try clear c11b0
            try clear c13
            try clear c13b0
            try clear c16
            try clear c18
            try clear c18b0
            try clear c21
            try clear c23
            try clear c23b0
            try clear c23b1
            try clear hcz10_0 hcz10_1 hcz10_2 hcz10_3 hcz10_4
            try clear hcz12_0 hcz12_1 hcz12_2 hcz12_3 hcz12_4
            try clear hcz14_0 hcz14_1 hcz14_2 hcz14_3 hcz14_4
            try clear hcz15_0 hcz15_1 hcz15_2 hcz15_3 hcz15_4
            try clear hcz19_0 hcz19_1 hcz19_2 hcz19_3 hcz19_4
            try clear hcz20_0 hcz20_1 hcz20_2 hcz20_3 hcz20_4
            try clear hcz24_0 hcz24_1 hcz24_2 hcz24_3 hcz24_4
            try clear hcz6_0 hcz6_1 hcz6_2 hcz6_3 hcz6_4
            try clear hcz8_0 hcz8_1 hcz8_2 hcz8_3 hcz8_4
            try clear hfz10_0 hfz10_1 hfz10_2 hfz10_3 hfz10_4
            try clear hfz12_0 hfz12_1 hfz12_2 hfz12_3 hfz12_4
            try clear hfz14_0 hfz14_1 hfz14_2 hfz14_3 hfz14_4
            try clear hfz15_0 hfz15_1 hfz15_2 hfz15_3 hfz15_4
            try clear hfz19_0 hfz19_1 hfz19_2 hfz19_3 hfz19_4
            try clear hfz20_0 hfz20_1 hfz20_2 hfz20_3 hfz20_4
            try clear hfz24_0 hfz24_1 hfz24_2 hfz24_3 hfz24_4
            try clear hfz6_0 hfz6_1 hfz6_2 hfz6_3 hfz6_4
            try clear hfz8_0 hfz8_1 hfz8_2 hfz8_3 hfz8_4
            try clear hx101_0
            try clear hx101_1
            try clear hx101_2
            try clear hx101_3
            try clear hx101_4
            try clear p1
            try clear p10
            try clear p101
            try clear p2
            try clear q1
            try clear q10
            try clear q101
            obtain ⟨kq, x51_21, rfl, HA, HJ21, BK102, HB⟩ := hcut
            cases kq with
            | zero => exact absurd HA.out (by simp [rosterlaw02_sound.j3])
            | succ kj21 =>
             have H := HA.out
             clear HA
             simp only [rosterlaw02_sound.j3] at H
             by_cases c25 : x51_21 = true
             ·subst c25
              have H1 : (some false) = some r := by rw [if_pos rfl] at H; exact H
              clear H
              have H := H1
              clear H1
              obtain rfl := Option.some.inj H
              go_wp2
              repeat (go_quiet (fail); try go_wp2)
              go_ret
              exact ⟨by first | rfl | (simp [isEmpty_ne_]; done) | (simp [*, errW_none, errW_some] <;> rfl), by repeat (first | (with_reducible first | exact HB.out | apply below_alloc | apply pw_below_drewN | apply below_drew1 | refine below_set ?_ GE102.out) | exact HB.out)⟩
             ·replace c25 := Bool.eq_false_iff.mpr c25
              subst c25
              have H1 : (if x3_1 > 0 then (if ((rd_T39 l0 x3_1).f0) < 2 then (rosterlaw02_sound.j4 kj21 l0 x3_1 true ((rd_T39 l0 x3_1).f0) ((rd_T39 l0 x3_1).f1) ((rd_T39 l0 x3_1).f2) ((rd_T39 l0 x3_1).f3) ((rd_T39 l0 x3_1).f4)) else (if 0 ≤ (wrap64 (x3_1 - 1)) then (if (wrap64 (x3_1 - 1)) < (l0.length : Int) then (rosterlaw02_sound.j4 kj21 l0 x3_1 (decide (((rd_T39 l0 x3_1).f0) > (wrap64 (((rd_T39 l0 (wrap64 (x3_1 - 1))).f0) + 1)))) ((rd_T39 l0 x3_1).f0) ((rd_T39 l0 x3_1).f1) ((rd_T39 l0 x3_1).f2) ((rd_T39 l0 x3_1).f3) ((rd_T39 l0 x3_1).f4)) else (none)) else (none))) else (rosterlaw02_sound.j4 kj21 l0 x3_1 false ((rd_T39 l0 x3_1).f0) ((rd_T39 l0 x3_1).f1) ((rd_T39 l0 x3_1).f2) ((rd_T39 l0 x3_1).f3) ((rd_T39 l0 x3_1).f4))) = some r := by rw [if_neg (show ¬ (false = true) by decide)] at H; exact H
              clear H
              have H := H1
              clear H1
              have HC26 := Aside0.mk H
              clear H
              go_upto_region 11 with (fail)
              repeat (go_quiet (fail); go_upto_region 11 with (fail))
              go_cut [70] (fun v70 wc => ∃ (kq : Nat) (x70_25 : Bool), v70 = .bool x70_25 ∧ Aside0 (rosterlaw02_sound.j4 kq l0 x3_1 x70_25 ((rd_T39 l0 x3_1).f0) ((rd_T39 l0 x3_1).f1) ((rd_T39 l0 x3_1).f2) ((rd_T39 l0 x3_1).f3) ((rd_T39 l0 x3_1).f4) = some r) ∧ Aside0 (kq ≤ kj21) ∧ Aside0 (wc.heap[gb102]? = some (.cells #[.int .i64 ((rd_T39 l0 x3_1).f0), .int .i64 ((rd_T39 l0 x3_1).f1), .bool ((rd_T39 l0 x3_1).f2), .int .i64 ((rd_T39 l0 x3_1).f3), .string ((rd_T39 l0 x3_1).f4)] 39 (0, 0))) ∧ Aside0 (Below w.heap.size w wc))
              case first =>
               have H := HC26.out
               clear HC26
               by_cases c27 : x3_1 > 0
               ·rw [if_pos c27] at H
                have c27b0 : decide (0 < x3_1) = true := decide_eq_true c27
                clear c27
                (first | rw [c27b0] | (simp only [i64_w, i32_w]; rw [c27b0]) | skip)
                by_cases c28 : ((rd_T39 l0 x3_1).f0) < 2
                ·rw [if_pos c28] at H
                 have c28b0 : decide (((rd_T39 l0 x3_1).f0) < 2) = true := decide_eq_true c28
                 clear c28
                 have H' := Aside0.mk H
                 clear H
                 obtain ⟨hcz29_0, hcz29_1, hcz29_2, hcz29_3, hcz29_4⟩ := cells5_ BK102.out
                 obtain ⟨hfz29_0, hfz29_1, hfz29_2, hfz29_3, hfz29_4⟩ := frz5_ BK102.out
                 go_wp2
                 repeat (go_quiet (fail); try go_wp2)
                 go_meet
                 case rel => exact ⟨_, (true), (by first | rfl | (simp; done) | (simp [*]; done) | (simp [isEmpty_ne_]; done)), H', ⟨by have := HK1.out; have := HJ3.out; have := HJ16.out; have := HJ21.out; first | omega | exact Nat.le_refl _⟩, ⟨by (with_reducible repeat (first | refine blk_drewN ?_ _ | refine blk_drew ?_ | refine blk_alloc ?_ _)); exact BK102.out⟩, ⟨by repeat (first | (with_reducible first | exact HB.out | apply below_alloc | apply pw_below_drewN | apply below_drew1 | refine below_set ?_ GE102.out) | exact HB.out)⟩⟩
                ·rw [if_neg c28] at H
                 have c28b0 : decide (((rd_T39 l0 x3_1).f0) < 2) = false := decide_eq_false c28
                 clear c28
                 obtain ⟨ji30, hji30⟩ : ∃ j_ : Int, (wrap64 (x3_1 - 1)) = j_ := ⟨_, rfl⟩
                 replace H : (if 0 ≤ (ji30) then (if (ji30) < (l0.length : Int) then (rosterlaw02_sound.j4 kj21 l0 x3_1 (decide (((rd_T39 l0 x3_1).f0) > (wrap64 (((rd_T39 l0 (ji30)).f0) + 1)))) ((rd_T39 l0 x3_1).f0) ((rd_T39 l0 x3_1).f1) ((rd_T39 l0 x3_1).f2) ((rd_T39 l0 x3_1).f3) ((rd_T39 l0 x3_1).f4)) else (none)) else (none)) = some r := by first | (rw [hji30] at H; exact H) | (simp only [hji30] at H ⊢; exact H)
                 have hji30w : (IntKind.i64.wrap (x3_1 - 1)) = ji30 := (i64_w _).trans hji30
                 by_cases c31 : 0 ≤ (ji30)
                 ·rw [if_pos c31] at H
                  have c31b0 : decide (0 ≤ (ji30)) = true := decide_eq_true c31
                  clear c31
                  by_cases c32 : (ji30) < (l0.length : Int)
                  ·rw [if_pos c32] at H
                   have c32b0 : decide ((ji30) < (l0.length : Int)) = true := decide_eq_true c32
                   clear c32
                   have H' := Aside0.mk H
                   clear H
                   obtain ⟨hcz33_0, hcz33_1, hcz33_2, hcz33_3, hcz33_4⟩ := cells5_ BK102.out
                   obtain ⟨hfz33_0, hfz33_1, hfz33_2, hfz33_3, hfz33_4⟩ := frz5_ BK102.out
                   have p103 : 0 ≤ ((ji30) : Int) := of_decide_eq_true (by first | (with_reducible assumption) | assumption)
                   have q103 : (ji30) < (l0.length : Int) := of_decide_eq_true (by first | (with_reducible assumption) | assumption)
                   obtain ⟨ad103, e103, hx103_0, hx103_1, hx103_2, hx103_3, hx103_4⟩ := at_T39 HR0.out (ji30) p103 q103
                   obtain rfl : ad101 = ad103 := (by injection e103)
                   replace hx103_0 := cellB_ HB.out hx103_0
                   replace hx103_1 := cellB_ HB.out hx103_1
                   replace hx103_2 := cellB_ HB.out hx103_2
                   replace hx103_3 := cellB_ HB.out hx103_3
                   replace hx103_4 := cellB_ HB.out hx103_4
                   replace p103 := eq_true p103
                   replace q103 := eq_true q103
                   go_wp2
                   repeat (go_quiet (fail); try go_wp2)
                   go_meet
                   case rel => exact ⟨_, (decide (((rd_T39 l0 x3_1).f0) > (wrap64 (((rd_T39 l0 (ji30)).f0) + 1)))), (by first | rfl | (simp; done) | (simp only [← hji30] <;> (first | rfl | simp)) | (simp [*]; done) | (simp [isEmpty_ne_]; done)), H', ⟨by have := HK1.out; have := HJ3.out; have := HJ16.out; have := HJ21.out; first | omega | exact Nat.le_refl _⟩, ⟨by (with_reducible repeat (first | refine blk_drewN ?_ _ | refine blk_drew ?_ | refine blk_alloc ?_ _)); exact BK102.out⟩, ⟨by repeat (first | (with_reducible first | exact HB.out | apply below_alloc | apply pw_below_drewN | apply below_drew1 | refine below_set ?_ GE102.out) | exact HB.out)⟩⟩
                  ·rw [if_neg c32] at H
                   exact absurd H (by simp)
                 ·rw [if_neg c31] at H
                  exact absurd H (by simp)
               ·rw [if_neg c27] at H
                have c27b0 : decide (0 < x3_1) = false := decide_eq_false c27
                clear c27
                (first | rw [c27b0] | (simp only [i64_w, i32_w]; rw [c27b0]) | skip)
                have H' := Aside0.mk H
                clear H
                go_wp2
                repeat (go_quiet (fail); try go_wp2)
                go_meet
                case rel => exact ⟨_, (false), (by first | rfl | (simp; done) | (simp [*]; done) | (simp [isEmpty_ne_]; done)), H', ⟨by have := HK1.out; have := HJ3.out; have := HJ16.out; have := HJ21.out; first | omega | exact Nat.le_refl _⟩, ⟨by (with_reducible repeat (first | refine blk_drewN ?_ _ | refine blk_drew ?_ | refine blk_alloc ?_ _)); exact BK102.out⟩, ⟨by repeat (first | (with_reducible first | exact HB.out | apply below_alloc | apply pw_below_drewN | apply below_drew1 | refine below_set ?_ GE102.out) | exact HB.out)⟩⟩
              case rest =>
               clear HC26
               try clear c1
               try clear p1
               try clear q1
               try clear hx1
               try clear c2
               try clear c2b0
               try clear p2
               try clear c3
               try clear c3b0
               try clear p6
               try clear c7
               try clear c7b0
               try clear c9
               try clear c9b0
               try clear c10
               try clear p10
               try clear q10
               try clear hx10
               try clear c11
               try clear c11b0
               try clear c13
               try clear c13b0
               try clear c16
               try clear c18
               try clear c18b0
               try clear c21
               try clear c23
               try clear c23b0
               try clear c23b1
               try clear c25
               try clear c27
               try clear c27b0
               try clear c28
               try clear c28b0
               try clear c31
               try clear c31b0
               try clear c32
               try clear c32b0
               try clear hcz10_0 hcz10_1 hcz10_2 hcz10_3 hcz10_4
               try clear hcz12_0 hcz12_1 hcz12_2 hcz12_3 hcz12_4
               try clear hcz14_0 hcz14_1 hcz14_2 hcz14_3 hcz14_4
               try clear hcz15_0 hcz15_1 hcz15_2 hcz15_3 hcz15_4
               try clear hcz19_0 hcz19_1 hcz19_2 hcz19_3 hcz19_4
               try clear hcz20_0 hcz20_1 hcz20_2 hcz20_3 hcz20_4
               try clear hcz24_0 hcz24_1 hcz24_2 hcz24_3 hcz24_4
               try clear hcz29_0 hcz29_1 hcz29_2 hcz29_3 hcz29_4
               try clear hcz33_0 hcz33_1 hcz33_2 hcz33_3 hcz33_4
               try clear hcz6_0 hcz6_1 hcz6_2 hcz6_3 hcz6_4
               try clear hcz8_0 hcz8_1 hcz8_2 hcz8_3 hcz8_4
               try clear hfz10_0 hfz10_1 hfz10_2 hfz10_3 hfz10_4
               try clear hfz12_0 hfz12_1 hfz12_2 hfz12_3 hfz12_4
               try clear hfz14_0 hfz14_1 hfz14_2 hfz14_3 hfz14_4
               try clear hfz15_0 hfz15_1 hfz15_2 hfz15_3 hfz15_4
               try clear hfz19_0 hfz19_1 hfz19_2 hfz19_3 hfz19_4
               try clear hfz20_0 hfz20_1 hfz20_2 hfz20_3 hfz20_4
               try clear hfz24_0 hfz24_1 hfz24_2 hfz24_3 hfz24_4
               try clear hfz29_0 hfz29_1 hfz29_2 hfz29_3 hfz29_4
               try clear hfz33_0 hfz33_1 hfz33_2 hfz33_3 hfz33_4
               try clear hfz6_0 hfz6_1 hfz6_2 hfz6_3 hfz6_4
               try clear hfz8_0 hfz8_1 hfz8_2 hfz8_3 hfz8_4
               try clear hx101_0
               try clear hx101_1
               try clear hx101_2
               try clear hx101_3
               try clear hx101_4
               try clear hx103_0
               try clear hx103_1
               try clear hx103_2
               try clear hx103_3
               try clear hx103_4
               try clear p1
               try clear p10
               try clear p101
               try clear p103
               try clear p2
               try clear q1
               try clear q10
               try clear q101
               try clear q103
               obtain ⟨kq, x70_25, rfl, HA, HJ25, BK102, HB⟩ := hcut
               cases kq with
               | zero => exact absurd HA.out (by simp [rosterlaw02_sound.j4])
               | succ kj25 =>
                have H := HA.out
                clear HA
                simp only [rosterlaw02_sound.j4] at H
                by_cases c34 : x70_25 = true
                ·subst c34
                 have H1 : (some false) = some r := by rw [if_pos rfl] at H; exact H
                 clear H
                 have H := H1
                 clear H1
                 obtain rfl := Option.some.inj H
                 go_wp2
                 repeat (go_quiet (fail); try go_wp2)
                 go_ret
                 exact ⟨by first | rfl | (simp [isEmpty_ne_]; done) | (simp [*, errW_none, errW_some] <;> rfl), by repeat (first | (with_reducible first | exact HB.out | apply below_alloc | apply pw_below_drewN | apply below_drew1 | refine below_set ?_ GE102.out) | exact HB.out)⟩
                ·replace c34 := Bool.eq_false_iff.mpr c34
                 subst c34
                 have H1 : (if x3_1 > 0 then (if 0 ≤ (wrap64 (x3_1 - 1)) then (if (wrap64 (x3_1 - 1)) < (l0.length : Int) then (if ((rd_T39 l0 x3_1).f0) > ((rd_T39 l0 (wrap64 (x3_1 - 1))).f0) then (if ((rd_T39 l0 (wrap64 (x3_1 - 1))).f2 = true) then (rosterlaw02_sound.l0 kj25 l0 (wrap64 (x3_1 + 1))) else (some false)) else (rosterlaw02_sound.l0 kj25 l0 (wrap64 (x3_1 + 1)))) else (none)) else (none)) else (rosterlaw02_sound.l0 kj25 l0 (wrap64 (x3_1 + 1)))) = some r := by rw [if_neg (show ¬ (false = true) by decide)] at H; exact H
                 clear H
                 have H := H1
                 clear H1
                 by_cases c35 : x3_1 > 0
                 ·rw [if_pos c35] at H
                  have c35b0 : decide (0 < x3_1) = true := decide_eq_true c35
                  clear c35
                  obtain ⟨ji36, hji36⟩ : ∃ j_ : Int, (wrap64 (x3_1 - 1)) = j_ := ⟨_, rfl⟩
                  replace H : (if 0 ≤ (ji36) then (if (ji36) < (l0.length : Int) then (if ((rd_T39 l0 x3_1).f0) > ((rd_T39 l0 (ji36)).f0) then (if ((rd_T39 l0 (ji36)).f2 = true) then (rosterlaw02_sound.l0 kj25 l0 (wrap64 (x3_1 + 1))) else (some false)) else (rosterlaw02_sound.l0 kj25 l0 (wrap64 (x3_1 + 1)))) else (none)) else (none)) = some r := by first | (rw [hji36] at H; exact H) | (simp only [hji36] at H ⊢; exact H)
                  have hji36w : (IntKind.i64.wrap (x3_1 - 1)) = ji36 := (i64_w _).trans hji36
                  by_cases c37 : 0 ≤ (ji36)
                  ·rw [if_pos c37] at H
                   have c37b0 : decide (0 ≤ (ji36)) = true := decide_eq_true c37
                   clear c37
                   by_cases c38 : (ji36) < (l0.length : Int)
                   ·rw [if_pos c38] at H
                    have c38b0 : decide ((ji36) < (l0.length : Int)) = true := decide_eq_true c38
                    clear c38
                    by_cases c39 : ((rd_T39 l0 x3_1).f0) > ((rd_T39 l0 (ji36)).f0)
                    ·rw [if_pos c39] at H
                     have c39b0 : decide (((rd_T39 l0 (ji36)).f0) < ((rd_T39 l0 x3_1).f0)) = true := decide_eq_true c39
                     clear c39
                     obtain ⟨bq40, hbq40⟩ : ∃ b_ : Bool, b_ = ((rd_T39 l0 (ji36)).f2) := ⟨_, rfl⟩
                     replace H : (if (bq40 = true) then (rosterlaw02_sound.l0 kj25 l0 (wrap64 (x3_1 + 1))) else (some false)) = some r := by rw [← hbq40] at H; exact H
                     have Nbq40 := Aside0.mk hbq40
                     clear hbq40
                     by_cases c41 : (bq40 = true)
                     ·subst c41
                      have H1 : (rosterlaw02_sound.l0 kj25 l0 (wrap64 (x3_1 + 1))) = some r := by rw [if_pos rfl] at H; exact H
                      clear H
                      have H := H1
                      clear H1
                      have H' := Aside0.mk H
                      clear H
                      obtain ⟨hcz42_0, hcz42_1, hcz42_2, hcz42_3, hcz42_4⟩ := cells5_ BK102.out
                      obtain ⟨hfz42_0, hfz42_1, hfz42_2, hfz42_3, hfz42_4⟩ := frz5_ BK102.out
                      have p104 : 0 ≤ ((ji36) : Int) := of_decide_eq_true (by first | (with_reducible assumption) | assumption)
                      have q104 : (ji36) < (l0.length : Int) := of_decide_eq_true (by first | (with_reducible assumption) | assumption)
                      obtain ⟨ad104, e104, hx104_0, hx104_1, hx104_2, hx104_3, hx104_4⟩ := at_T39 HR0.out (ji36) p104 q104
                      (try rw [← Nbq40.out] at hx104_2)
                      obtain rfl : ad101 = ad104 := (by injection e104)
                      replace hx104_0 := cellB_ HB.out hx104_0
                      replace hx104_1 := cellB_ HB.out hx104_1
                      replace hx104_2 := cellB_ HB.out hx104_2
                      replace hx104_3 := cellB_ HB.out hx104_3
                      replace hx104_4 := cellB_ HB.out hx104_4
                      replace p104 := eq_true p104
                      replace q104 := eq_true q104
                      have p105 : 0 ≤ ((ji36) : Int) := of_decide_eq_true (by first | (with_reducible assumption) | assumption)
                      have q105 : (ji36) < (l0.length : Int) := of_decide_eq_true (by first | (with_reducible assumption) | assumption)
                      obtain ⟨ad105, e105, hx105_0, hx105_1, hx105_2, hx105_3, hx105_4⟩ := at_T39 HR0.out (ji36) p105 q105
                      (try rw [← Nbq40.out] at hx105_2)
                      obtain rfl : ad101 = ad105 := (by injection e105)
                      replace hx105_0 := cellB_ HB.out hx105_0
                      replace hx105_1 := cellB_ HB.out hx105_1
                      replace hx105_2 := cellB_ HB.out hx105_2
                      replace hx105_3 := cellB_ HB.out hx105_3
                      replace hx105_4 := cellB_ HB.out hx105_4
                      replace p105 := eq_true p105
                      replace q105 := eq_true q105
                      go_wp2
                      repeat (go_quiet (fail); try go_wp2)
                      go_roundg kj25
                      case measure => have := HK1.out; have := HJ3.out; have := HJ16.out; have := HJ21.out; have := HJ25.out; omega
                      case rel => (try rw [← Nbq40.out]); exact ⟨(wrap64 (x3_1 + 1)), (by first | rfl | (simp; done) | (simp [*]; done) | (simp [isEmpty_ne_]; done)), H', ⟨by have := HK1.out; have := HJ3.out; have := HJ16.out; have := HJ21.out; have := HJ25.out; omega⟩, ⟨by repeat (first | (with_reducible first | exact HB.out | apply below_alloc | apply pw_below_drewN | apply below_drew1 | refine below_set ?_ GE102.out) | exact HB.out)⟩⟩
                     ·replace c41 := Bool.eq_false_iff.mpr c41
                      subst c41
                      have H1 : (some false) = some r := by rw [if_neg (show ¬ (false = true) by decide)] at H; exact H
                      clear H
                      have H := H1
                      clear H1
                      obtain rfl := Option.some.inj H
                      obtain ⟨hcz43_0, hcz43_1, hcz43_2, hcz43_3, hcz43_4⟩ := cells5_ BK102.out
                      obtain ⟨hfz43_0, hfz43_1, hfz43_2, hfz43_3, hfz43_4⟩ := frz5_ BK102.out
                      have p104 : 0 ≤ ((ji36) : Int) := of_decide_eq_true (by first | (with_reducible assumption) | assumption)
                      have q104 : (ji36) < (l0.length : Int) := of_decide_eq_true (by first | (with_reducible assumption) | assumption)
                      obtain ⟨ad104, e104, hx104_0, hx104_1, hx104_2, hx104_3, hx104_4⟩ := at_T39 HR0.out (ji36) p104 q104
                      (try rw [← Nbq40.out] at hx104_2)
                      obtain rfl : ad101 = ad104 := (by injection e104)
                      replace hx104_0 := cellB_ HB.out hx104_0
                      replace hx104_1 := cellB_ HB.out hx104_1
                      replace hx104_2 := cellB_ HB.out hx104_2
                      replace hx104_3 := cellB_ HB.out hx104_3
                      replace hx104_4 := cellB_ HB.out hx104_4
                      replace p104 := eq_true p104
                      replace q104 := eq_true q104
                      have p105 : 0 ≤ ((ji36) : Int) := of_decide_eq_true (by first | (with_reducible assumption) | assumption)
                      have q105 : (ji36) < (l0.length : Int) := of_decide_eq_true (by first | (with_reducible assumption) | assumption)
                      obtain ⟨ad105, e105, hx105_0, hx105_1, hx105_2, hx105_3, hx105_4⟩ := at_T39 HR0.out (ji36) p105 q105
                      (try rw [← Nbq40.out] at hx105_2)
                      obtain rfl : ad101 = ad105 := (by injection e105)
                      replace hx105_0 := cellB_ HB.out hx105_0
                      replace hx105_1 := cellB_ HB.out hx105_1
                      replace hx105_2 := cellB_ HB.out hx105_2
                      replace hx105_3 := cellB_ HB.out hx105_3
                      replace hx105_4 := cellB_ HB.out hx105_4
                      replace p105 := eq_true p105
                      replace q105 := eq_true q105
                      go_wp2
                      repeat (go_quiet (fail); try go_wp2)
                      go_ret
                      exact ⟨by first | rfl | (simp [isEmpty_ne_]; done) | (simp [errW_none, errW_some] <;> rfl) | (simp only [← hji36]; first | rfl | (simp [errW_none, errW_some] <;> rfl)) | (simp [*, errW_none, errW_some] <;> rfl), by repeat (first | (with_reducible first | exact HB.out | apply below_alloc | apply pw_below_drewN | apply below_drew1 | refine below_set ?_ GE102.out) | exact HB.out)⟩
                    ·rw [if_neg c39] at H
                     have c39b0 : decide (((rd_T39 l0 (ji36)).f0) < ((rd_T39 l0 x3_1).f0)) = false := decide_eq_false c39
                     clear c39
                     have H' := Aside0.mk H
                     clear H
                     obtain ⟨hcz44_0, hcz44_1, hcz44_2, hcz44_3, hcz44_4⟩ := cells5_ BK102.out
                     obtain ⟨hfz44_0, hfz44_1, hfz44_2, hfz44_3, hfz44_4⟩ := frz5_ BK102.out
                     have p104 : 0 ≤ ((ji36) : Int) := of_decide_eq_true (by first | (with_reducible assumption) | assumption)
                     have q104 : (ji36) < (l0.length : Int) := of_decide_eq_true (by first | (with_reducible assumption) | assumption)
                     obtain ⟨ad104, e104, hx104_0, hx104_1, hx104_2, hx104_3, hx104_4⟩ := at_T39 HR0.out (ji36) p104 q104
                     obtain rfl : ad101 = ad104 := (by injection e104)
                     replace hx104_0 := cellB_ HB.out hx104_0
                     replace hx104_1 := cellB_ HB.out hx104_1
                     replace hx104_2 := cellB_ HB.out hx104_2
                     replace hx104_3 := cellB_ HB.out hx104_3
                     replace hx104_4 := cellB_ HB.out hx104_4
                     replace p104 := eq_true p104
                     replace q104 := eq_true q104
                     go_wp2
                     repeat (go_quiet (fail); try go_wp2)
                     go_roundg kj25
                     case measure => have := HK1.out; have := HJ3.out; have := HJ16.out; have := HJ21.out; have := HJ25.out; omega
                     case rel => exact ⟨(wrap64 (x3_1 + 1)), (by first | rfl | (simp; done) | (simp [*]; done) | (simp [isEmpty_ne_]; done)), H', ⟨by have := HK1.out; have := HJ3.out; have := HJ16.out; have := HJ21.out; have := HJ25.out; omega⟩, ⟨by repeat (first | (with_reducible first | exact HB.out | apply below_alloc | apply pw_below_drewN | apply below_drew1 | refine below_set ?_ GE102.out) | exact HB.out)⟩⟩
                   ·rw [if_neg c38] at H
                    exact absurd H (by simp)
                  ·rw [if_neg c37] at H
                   exact absurd H (by simp)
                 ·rw [if_neg c35] at H
                  have c35b0 : decide (0 < x3_1) = false := decide_eq_false c35
                  clear c35
                  have H' := Aside0.mk H
                  clear H
                  go_wp2
                  repeat (go_quiet (fail); try go_wp2)
                  go_roundg kj25
                  case measure => have := HK1.out; have := HJ3.out; have := HJ16.out; have := HJ21.out; have := HJ25.out; omega
                  case rel => exact ⟨(wrap64 (x3_1 + 1)), (by first | rfl | (simp; done) | (simp [*]; done) | (simp [isEmpty_ne_]; done)), H', ⟨by have := HK1.out; have := HJ3.out; have := HJ16.out; have := HJ21.out; have := HJ25.out; omega⟩, ⟨by repeat (first | (with_reducible first | exact HB.out | apply below_alloc | apply pw_below_drewN | apply below_drew1 | refine below_set ?_ GE102.out) | exact HB.out)⟩⟩
    ·rw [if_neg c3] at H
     exact absurd H (by simp)
   ·rw [if_neg c2] at H
    have c2b0 : decide (x3_1 < (l0.length : Int)) = false := decide_eq_false c2
    clear c2
    obtain rfl := Option.some.inj H
    go_wp2
    repeat (go_quiet (fail); try go_wp2)
    go_ret
    exact ⟨by first | rfl | (simp [isEmpty_ne_]; done) | (simp [*, errW_none, errW_some] <;> rfl), by repeat (first | (with_reducible first | exact HB.out | apply below_alloc | apply pw_below_drewN | apply below_drew1) | exact HB.out)⟩

end Go.Proofs.Ytbloccjogadlmaa.GS
