-- Written for this claim by a program of this session (wip/tools/p2.py).
import Derived.Test.YtakcnckiakjpiaaGJx0
namespace Go.Proofs.Ytakcnckiakjpiaa.GJ
open Go.RowKit Go.Proofs.YtakcnckiakjpiaaW.PrintWords Go.Proofs.YtakcnckiakjpiaaW.PrintLast Go.Proofs.YtakcnckiakjpiaaW.PrintMore
attribute [local go_sem] max2_int min2_int max_two min_two max_three min_three max_four min_four   -- for this text's walks alone
set_option linter.unusedVariables false
set_option linter.unusedSimpArgs false

/-! ### rosterref02_header: function 24 -/
mutual
def rosterref02_header.j0 : Nat → Int → Int → Option (List Int)
 | 0, _, _ => none
 | k + 1, x3, x9 => (some (([(x9) % 256] : List Int) : List Int)).bind fun y101 => (if x3 < 128 then (if y101.length < 140737488355328 then (some (y101 ++ [(x3) % 256])) else (none)) else (rosterref02_header.l0 k x3 y101 1 256))
def rosterref02_header.l0 : Nat → Int → List Int → Int → Int → Option (List Int)
 | 0, _, _, _, _ => none
 | k + 1, x3, x10, x11, x12 => if x3 ≥ x12 then (rosterref02_header.l0 k x3 x10 (wrap64 (x11 + 1)) (wrap64 (x12 * 256))) else (if x10.length < 140737488355328 then (rosterref02_header.l1 k x3 (x10 ++ [(wrap64 (128 + x11)) % 256]) (wrap64 (x11 - 1))) else (none))
def rosterref02_header.l1 : Nat → Int → List Int → Int → Option (List Int)
 | 0, _, _, _ => none
 | k + 1, x3, x10, x13 => if x13 ≥ 0 then (rosterref02_header.l2 k x3 x10 x13 x3 0) else (some x10)
def rosterref02_header.l2 : Nat → Int → List Int → Int → Int → Int → Option (List Int)
 | 0, _, _, _, _, _ => none
 | k + 1, x3, x10, x13, x14, x15 => if x15 < x13 then (rosterref02_header.l2 k x3 x10 x13 (wrap64 (Int.tdiv x14 256)) (wrap64 (x15 + 1))) else (if x10.length < 140737488355328 then (rosterref02_header.l1 k x3 (x10 ++ [(Int.tmod x14 256) % 256]) (wrap64 (x13 - 1))) else (none))
end
def rosterref02_header.f (k : Nat) (a0 : Int) (a1 : Bool) (a2 : Int) (a3 : Int) : Option (List Int) := if a1 = true then (rosterref02_header.j0 k a3 (wrap64 ((wrap64 ((wrap64 (a0 * 64)) + a2)) + 32))) else (rosterref02_header.j0 k a3 (wrap64 ((wrap64 (a0 * 64)) + a2)))
theorem rosterref02_header.mono_l : ∀ k, (∀ y0 y1, LeO (rosterref02_header.j0 k y0 y1) (rosterref02_header.j0 (k + 1) y0 y1)) ∧ (∀ y0 y1 y2 y3, LeO (rosterref02_header.l0 k y0 y1 y2 y3) (rosterref02_header.l0 (k + 1) y0 y1 y2 y3)) ∧ (∀ y0 y1 y2, LeO (rosterref02_header.l1 k y0 y1 y2) (rosterref02_header.l1 (k + 1) y0 y1 y2)) ∧ (∀ y0 y1 y2 y3 y4, LeO (rosterref02_header.l2 k y0 y1 y2 y3 y4) (rosterref02_header.l2 (k + 1) y0 y1 y2 y3 y4))
 | 0 => ⟨fun _ _ r h => by simp [rosterref02_header.j0] at h, fun _ _ _ _ r h => by simp [rosterref02_header.l0] at h, fun _ _ _ r h => by simp [rosterref02_header.l1] at h, fun _ _ _ _ _ r h => by simp [rosterref02_header.l2] at h⟩
 | k + 1 => by
  obtain ⟨ih0, ih1, ih2, ih3⟩ := rosterref02_header.mono_l k
  refine ⟨?_, ?_, ?_, ?_⟩
  ·intro y0 y1
   unfold rosterref02_header.j0
   repeat' first
   | (with_reducible exact ih0 _ _)
   | (with_reducible exact ih1 _ _ _ _)
   | (with_reducible exact ih2 _ _ _)
   | (with_reducible exact ih3 _ _ _ _ _)
   | (with_reducible exact LeO.refl _)
   | (with_reducible exact LeO.none _)
   | (with_reducible refine LeO.ite ?_ ?_)
   | (with_reducible refine LeO.bind ?_ (fun _ => ?_))
   | exact ih0 _ _
   | exact ih1 _ _ _ _
   | exact ih2 _ _ _
   | exact ih3 _ _ _ _ _
   | exact LeO.none _
   | refine LeO.ite ?_ ?_
   | refine LeO.bind ?_ (fun _ => ?_)
  ·intro y0 y1 y2 y3
   unfold rosterref02_header.l0
   repeat' first
   | (with_reducible exact ih0 _ _)
   | (with_reducible exact ih1 _ _ _ _)
   | (with_reducible exact ih2 _ _ _)
   | (with_reducible exact ih3 _ _ _ _ _)
   | (with_reducible exact LeO.refl _)
   | (with_reducible exact LeO.none _)
   | (with_reducible refine LeO.ite ?_ ?_)
   | (with_reducible refine LeO.bind ?_ (fun _ => ?_))
   | exact ih0 _ _
   | exact ih1 _ _ _ _
   | exact ih2 _ _ _
   | exact ih3 _ _ _ _ _
   | exact LeO.none _
   | refine LeO.ite ?_ ?_
   | refine LeO.bind ?_ (fun _ => ?_)
  ·intro y0 y1 y2
   unfold rosterref02_header.l1
   repeat' first
   | (with_reducible exact ih0 _ _)
   | (with_reducible exact ih1 _ _ _ _)
   | (with_reducible exact ih2 _ _ _)
   | (with_reducible exact ih3 _ _ _ _ _)
   | (with_reducible exact LeO.refl _)
   | (with_reducible exact LeO.none _)
   | (with_reducible refine LeO.ite ?_ ?_)
   | (with_reducible refine LeO.bind ?_ (fun _ => ?_))
   | exact ih0 _ _
   | exact ih1 _ _ _ _
   | exact ih2 _ _ _
   | exact ih3 _ _ _ _ _
   | exact LeO.none _
   | refine LeO.ite ?_ ?_
   | refine LeO.bind ?_ (fun _ => ?_)
  ·intro y0 y1 y2 y3 y4
   unfold rosterref02_header.l2
   repeat' first
   | (with_reducible exact ih0 _ _)
   | (with_reducible exact ih1 _ _ _ _)
   | (with_reducible exact ih2 _ _ _)
   | (with_reducible exact ih3 _ _ _ _ _)
   | (with_reducible exact LeO.refl _)
   | (with_reducible exact LeO.none _)
   | (with_reducible refine LeO.ite ?_ ?_)
   | (with_reducible refine LeO.bind ?_ (fun _ => ?_))
   | exact ih0 _ _
   | exact ih1 _ _ _ _
   | exact ih2 _ _ _
   | exact ih3 _ _ _ _ _
   | exact LeO.none _
   | refine LeO.ite ?_ ?_
   | refine LeO.bind ?_ (fun _ => ?_)
theorem rosterref02_header.mono : ∀ a0 a1 a2 a3 k, LeO (rosterref02_header.f k a0 a1 a2 a3) (rosterref02_header.f (k + 1) a0 a1 a2 a3) := by
 intro a0 a1 a2 a3 k
 obtain ⟨ih0, ih1, ih2, ih3⟩ := rosterref02_header.mono_l k
 unfold rosterref02_header.f
 repeat' first
   | (with_reducible exact ih0 _ _)
   | (with_reducible exact ih1 _ _ _ _)
   | (with_reducible exact ih2 _ _ _)
   | (with_reducible exact ih3 _ _ _ _ _)
   | (with_reducible exact LeO.refl _)
   | (with_reducible exact LeO.none _)
   | (with_reducible refine LeO.ite ?_ ?_)
   | (with_reducible refine LeO.bind ?_ (fun _ => ?_))
   | exact ih0 _ _
   | exact ih1 _ _ _ _
   | exact ih2 _ _ _
   | exact ih3 _ _ _ _ _
   | exact LeO.none _
   | refine LeO.ite ?_ ?_
   | refine LeO.bind ?_ (fun _ => ?_)
set_option maxHeartbeats 8000000 in
set_option maxRecDepth 100000 in
theorem rosterref02_header.calls (k : Nat) (a0 : Int) (a1 : Bool) (a2 : Int) (a3 : Int) (r : List Int) (w : World) (h : rosterref02_header.f k a0 a1 a2 a3 = some r) :
  Calls Try.prog 24 #[.int .i64 a0, .bool a1, .int .i64 a2, .int .i64 a3] w fun e w' => ∃ v0_ : Value, e = .returned (v0_) ∧ Kd.R (Kd.int .u8) 5 w' w.heap.size (fun _ => True) v0_ r ∧ Below w.heap.size w w' := by
 have HB := Aside0.mk (Below.refl w.heap.size w)
 have H : (if a1 = true then (rosterref02_header.j0 k a3 (wrap64 ((wrap64 ((wrap64 (a0 * 64)) + a2)) + 32))) else (rosterref02_header.j0 k a3 (wrap64 ((wrap64 (a0 * 64)) + a2)))) = some r := h
 clear h
 have HC5 := Aside0.mk H
 clear H
 go_enter Try.func24, Try.ntmps24
 go_upto_if 20 with (fail)
 go_cut [9] (fun v9 wc => ∃ (kq : Nat) (x9_4 : Int), v9 = .int .i64 x9_4 ∧ Aside0 (rosterref02_header.j0 kq a3 x9_4 = some r) ∧ Aside0 (kq ≤ k) ∧ Aside0 (Below w.heap.size w wc))
 case first =>
  have H := HC5.out
  clear HC5
  by_cases c6 : a1 = true
  ·subst c6
   have H1 : (rosterref02_header.j0 k a3 (wrap64 ((wrap64 ((wrap64 (a0 * 64)) + a2)) + 32))) = some r := by rw [if_pos rfl] at H; exact H
   clear H
   have H := H1
   clear H1
   have H' := Aside0.mk H
   clear H
   go_wp2
   go_meet
   case rel => exact ⟨_, (wrap64 ((wrap64 ((wrap64 (a0 * 64)) + a2)) + 32)), (by first | rfl | (simp; done) | (simp [*]; done) | (simp [isEmpty_ne_]; done)), H', ⟨by first | omega | exact Nat.le_refl _⟩, ⟨by repeat (first | (with_reducible first | exact HB.out | apply below_alloc | apply pw_below_drewN | apply below_drew1) | exact HB.out)⟩⟩
  ·replace c6 := Bool.eq_false_iff.mpr c6
   subst c6
   have H1 : (rosterref02_header.j0 k a3 (wrap64 ((wrap64 (a0 * 64)) + a2))) = some r := by rw [if_neg (show ¬ (false = true) by decide)] at H; exact H
   clear H
   have H := H1
   clear H1
   have H' := Aside0.mk H
   clear H
   go_wp2
   go_meet
   case rel => exact ⟨_, (wrap64 ((wrap64 (a0 * 64)) + a2)), (by first | rfl | (simp; done) | (simp [*]; done) | (simp [isEmpty_ne_]; done)), H', ⟨by first | omega | exact Nat.le_refl _⟩, ⟨by repeat (first | (with_reducible first | exact HB.out | apply below_alloc | apply pw_below_drewN | apply below_drew1) | exact HB.out)⟩⟩
 case rest =>
  clear HC5
  try clear c2
  try clear p2
  try clear c6
  try clear p6
  obtain ⟨kq, x9_4, rfl, HA, HJ4, HB⟩ := hcut
  cases kq with
  | zero => exact absurd HA.out (by simp [rosterref02_header.j0])
  | succ kj4 =>
   have H := HA.out
   clear HA
   simp only [rosterref02_header.j0] at H
   obtain ⟨y101, hy101⟩ : ∃ y_ : List Int, y_ = (([(x9_4) % 256] : List Int)) := ⟨_, rfl⟩
   replace H : (if a3 < 128 then (if y101.length < 140737488355328 then (some (y101 ++ [(a3) % 256])) else (none)) else (rosterref02_header.l0 kj4 a3 y101 1 256)) = some r := by first | (rw [hy101]; with_reducible exact H) | (have H2_ := (Option.bind_some _ _).symm.trans H; rw [hy101]; with_reducible exact H2_) | (have H2_ := (Option.bind_some _ _).symm.trans H; with_reducible exact H2_) | with_reducible exact H | (rw [hy101]; exact H) | exact H
   have Ny101 := Aside0.mk hy101
   clear hy101
   by_cases c7 : a3 < 128
   ·rw [if_pos c7] at H
    have c7b0 : decide (a3 < 128) = true := decide_eq_true c7
    clear c7
    by_cases c8 : y101.length < 140737488355328
    ·rw [if_pos c8] at H
     have LMc8 := Aside0.mk c8
     clear c8
     obtain ⟨y104, hy104⟩ : ∃ y_ : List Int, y_ = (y101 ++ [(a3) % 256]) := ⟨_, rfl⟩
     replace H : (some y104) = some r := by first | (rw [hy104]; with_reducible exact H) | (have H2_ := (Option.bind_some _ _).symm.trans H; rw [hy104]; with_reducible exact H2_) | (have H2_ := (Option.bind_some _ _).symm.trans H; with_reducible exact H2_) | with_reducible exact H | (rw [hy104]; exact H) | exact H
     have Ny104 := Aside0.mk hy104
     clear hy104
     obtain rfl := Option.some.inj H
     go_wp2_with (first | ((with_reducible refine gate_dst (N := 25) rfl ?_); refine Kd.R_lit (Kd.int .u8) _ 5 ?hg (N := 25) ?hd (xs := ([(x9_4) % 256] : List Int)) (inner := [.int .u8 ((x9_4) % 256)]) (ok := fun _ => True) (okp := fun _ => True) ?hr ?hp (fun _ hk => hk) trivial (Below.refl _ _) (Nat.le_refl _) (by simp) ?_; (case hd => rfl); (case hg => rfl); (case hr => first | (go_simp; done) | (go_simp; rfl)); (case hp => exact (Reps.one (show Kd.M (Kd.int .u8) _ _ _ ((x9_4) % 256) [.int .u8 ((x9_4) % 256)] from rfl) (Reps.none _ _))); intro v102 w9 ho10 hb hg_ hnew_; clear hg_ hnew_; (first | rw [← Ny101.out] at ho10 | (simp only [Int.reduceToNat] at ho10; rw [← Ny101.out] at ho10)); have n0_ := Aside0.mk (Kd.R_lower ho10 (below_size (by repeat (first | (with_reducible first | exact HB.out | apply below_alloc | apply pw_below_drewN | apply below_drew1) | exact HB.out)))); have n1_ := Aside0.mk (below_step (by repeat (first | (with_reducible first | exact HB.out | apply below_alloc | apply pw_below_drewN | apply below_drew1) | exact HB.out)) hb); clear HB; have HO103 := n0_; have HB := n1_; clear n0_ n1_; clear hb ho10) | ((with_reducible refine gate_builtin (b := .append) (xs := #[.tmp 28, .tmp 31]) rfl ?_); at_builtin; refine Kd.R_append (Kd.int .u8) (w0 := w) w.heap.size rfl (.tmp 28) (.tmp 31) 43 5 (.int .u8 0) 1 rfl Try.underlying43 info5 rfl (by decide) (by omega) v102 y101 ((a3) % 256) [.int .u8 ((a3) % 256)] (fun _ => True) (fun _ => False) rfl rfl ?aP (fun _ hk => hk.elim) ?aF ?aO ?aB ?aS ?aL ?_; (case aP => exact rfl); (case aB => exact (by repeat (first | (with_reducible first | exact HB.out | apply below_alloc | apply pw_below_drewN | apply below_drew1) | exact HB.out))); (case aF => exact (fun _ _ => trivial)); (case aO => exact (by (with_reducible repeat (first | apply Kd.R_alloc | apply Kd.R_drewN | apply Kd.R_drew)); exact HO103.out)); (case aS => exact (below_size (by repeat (first | (with_reducible first | exact HB.out | apply below_alloc | apply pw_below_drewN | apply below_drew1) | exact HB.out)))); (case aL => have := LMc8.out; omega); intro v105 w11 ho hb hg hat; rw [← Ny104.out] at ho; have n0_ := Aside0.mk (hb); have n1_ := Aside0.mk (ho); clear HB; clear HO103; have HB := n0_; have HO106 := n1_; clear n0_ n1_; clear ho hb hg hat))
     go_ret
     exact ⟨_, by first | rfl | (simp [isEmpty_ne_]; done) | (simp [*, errW_none, errW_some] <;> rfl), by (with_reducible repeat (first | apply Kd.R_alloc | apply Kd.R_drewN | apply Kd.R_drew)); exact HO106.out, by repeat (first | (with_reducible first | exact HB.out | apply below_alloc | apply pw_below_drewN | apply below_drew1) | exact HB.out)⟩
    ·rw [if_neg c8] at H
     exact absurd H (by simp)
   ·rw [if_neg c7] at H
    have c7b0 : decide (a3 < 128) = false := decide_eq_false c7
    clear c7
    have H' := Aside0.mk H
    clear H
    go_wp2_with (first | ((with_reducible refine gate_dst (N := 25) rfl ?_); refine Kd.R_lit (Kd.int .u8) _ 5 ?hg (N := 25) ?hd (xs := ([(x9_4) % 256] : List Int)) (inner := [.int .u8 ((x9_4) % 256)]) (ok := fun _ => True) (okp := fun _ => True) ?hr ?hp (fun _ hk => hk) trivial (Below.refl _ _) (Nat.le_refl _) (by simp) ?_; (case hd => rfl); (case hg => rfl); (case hr => first | (go_simp; done) | (go_simp; rfl)); (case hp => exact (Reps.one (show Kd.M (Kd.int .u8) _ _ _ ((x9_4) % 256) [.int .u8 ((x9_4) % 256)] from rfl) (Reps.none _ _))); intro v102 w12 ho13 hb hg_ hnew_; clear hg_ hnew_; (first | rw [← Ny101.out] at ho13 | (simp only [Int.reduceToNat] at ho13; rw [← Ny101.out] at ho13)); have n0_ := Aside0.mk (Kd.R_lower ho13 (below_size (by repeat (first | (with_reducible first | exact HB.out | apply below_alloc | apply pw_below_drewN | apply below_drew1) | exact HB.out)))); have n1_ := Aside0.mk (below_step (by repeat (first | (with_reducible first | exact HB.out | apply below_alloc | apply pw_below_drewN | apply below_drew1) | exact HB.out)) hb); clear HB; have HO103 := n0_; have HB := n1_; clear n0_ n1_; clear hb ho13))
    go_loopg [11, 12] kj4 (fun kq v11 v12 w' => ∃ (x11_2 : Int) (x12_2 : Int), v11 = .int .i64 x11_2 ∧ v12 = .int .i64 x12_2 ∧ Aside0 (rosterref02_header.l0 kq a3 y101 x11_2 x12_2 = some r) ∧ Aside0 (kq ≤ kj4) ∧ Aside0 (Kd.R (Kd.int .u8) 5 w' w.heap.size (fun _ => True) v102 y101) ∧ Aside0 (Below w.heap.size w w'))
    case atStart => exact ⟨(1), (256), (by first | rfl | (simp; done) | (simp [*]; done) | (simp [isEmpty_ne_]; done)), (by first | rfl | (simp; done) | (simp [*]; done) | (simp [isEmpty_ne_]; done)), H', ⟨Nat.le_refl _⟩, ⟨by (with_reducible repeat (first | apply Kd.R_alloc | apply Kd.R_drewN | apply Kd.R_drew)); exact HO103.out⟩, ⟨by repeat (first | (with_reducible first | exact HB.out | apply below_alloc | apply pw_below_drewN | apply below_drew1) | exact HB.out)⟩⟩
    case round =>
     clear H'
     try clear c2
     try clear p2
     try clear c6
     try clear p6
     try clear c7
     try clear c7b0
     try clear c8
     try clear p2
     try clear p6
     obtain ⟨x11_2, x12_2, rfl, rfl, HA, HK2, HO_10, HB⟩ := hrel
     cases gk with
     | zero => exact absurd HA.out (by simp [rosterref02_header.l0])
     | succ k2 =>
      have H := HA.out
      clear HA
      simp only [rosterref02_header.l0] at H
      by_cases c14 : a3 ≥ x12_2
      ·rw [if_pos c14] at H
       have c14b0 : decide (x12_2 ≤ a3) = true := decide_eq_true c14
       clear c14
       have H' := Aside0.mk H
       clear H
       go_wp2
       go_roundg k2
       case measure => have := HJ4.out; have := HK2.out; omega
       case rel => exact ⟨(wrap64 (x11_2 + 1)), (wrap64 (x12_2 * 256)), (by first | rfl | (simp; done) | (simp [*]; done) | (simp [isEmpty_ne_]; done)), (by first | rfl | (simp; done) | (simp [*]; done) | (simp [isEmpty_ne_]; done)), H', ⟨by have := HJ4.out; have := HK2.out; omega⟩, ⟨by (with_reducible repeat (first | apply Kd.R_alloc | apply Kd.R_drewN | apply Kd.R_drew)); exact HO_10.out⟩, ⟨by repeat (first | (with_reducible first | exact HB.out | apply below_alloc | apply pw_below_drewN | apply below_drew1) | exact HB.out)⟩⟩
      ·rw [if_neg c14] at H
       have c14b0 : decide (x12_2 ≤ a3) = false := decide_eq_false c14
       clear c14
       by_cases c15 : y101.length < 140737488355328
       ·rw [if_pos c15] at H
        have LMc15 := Aside0.mk c15
        clear c15
        obtain ⟨y107, hy107⟩ : ∃ y_ : List Int, y_ = (y101 ++ [(wrap64 (128 + x11_2)) % 256]) := ⟨_, rfl⟩
        replace H : (rosterref02_header.l1 k2 a3 y107 (wrap64 (x11_2 - 1))) = some r := by first | (rw [hy107]; with_reducible exact H) | (have H2_ := (Option.bind_some _ _).symm.trans H; rw [hy107]; with_reducible exact H2_) | (have H2_ := (Option.bind_some _ _).symm.trans H; with_reducible exact H2_) | with_reducible exact H | (rw [hy107]; exact H) | exact H
        have Ny107 := Aside0.mk hy107
        clear hy107
        have H' := Aside0.mk H
        clear H
        go_wp2_with (first | ((with_reducible refine gate_builtin (b := .append) (xs := #[.tmp 40, .tmp 44]) rfl ?_); at_builtin; refine Kd.R_append (Kd.int .u8) (w0 := w) w.heap.size rfl (.tmp 40) (.tmp 44) 43 5 (.int .u8 0) 1 rfl Try.underlying43 info5 rfl (by decide) (by omega) v102 y101 ((wrap64 (128 + x11_2)) % 256) [.int .u8 ((wrap64 (128 + x11_2)) % 256)] (fun _ => True) (fun _ => False) rfl rfl ?aP (fun _ hk => hk.elim) ?aF ?aO ?aB ?aS ?aL ?_; (case aP => exact rfl); (case aB => exact (by repeat (first | (with_reducible first | exact HB.out | apply below_alloc | apply pw_below_drewN | apply below_drew1) | exact HB.out))); (case aF => exact (fun _ _ => trivial)); (case aO => exact (by (with_reducible repeat (first | apply Kd.R_alloc | apply Kd.R_drewN | apply Kd.R_drew)); exact HO_10.out)); (case aS => exact (below_size (by repeat (first | (with_reducible first | exact HB.out | apply below_alloc | apply pw_below_drewN | apply below_drew1) | exact HB.out)))); (case aL => have := LMc15.out; omega); intro v108 w16 ho hb hg hat; rw [← Ny107.out] at ho; have n0_ := Aside0.mk (hb); have n1_ := Aside0.mk (ho); clear HB; clear HO_10; have HB := n0_; have HO109 := n1_; clear n0_ n1_; clear ho hb hg hat))
        go_loopg [10, 13] k2 (fun kq v10 v13 w' => ∃ (x10_3 : List Int) (x13_3 : Int), v13 = .int .i64 x13_3 ∧ Aside0 (rosterref02_header.l1 kq a3 x10_3 x13_3 = some r) ∧ Aside0 (kq ≤ k2) ∧ Aside0 (Kd.R (Kd.int .u8) 5 w' w.heap.size (fun _ => True) v10 x10_3) ∧ Aside0 (Below w.heap.size w w'))
        case atStart => exact ⟨(y107), (wrap64 (x11_2 - 1)), (by first | rfl | (simp; done) | (simp [*]; done) | (simp [isEmpty_ne_]; done)), H', ⟨Nat.le_refl _⟩, ⟨by (with_reducible repeat (first | apply Kd.R_alloc | apply Kd.R_drewN | apply Kd.R_drew)); exact HO109.out⟩, ⟨by repeat (first | (with_reducible first | exact HB.out | apply below_alloc | apply pw_below_drewN | apply below_drew1) | exact HB.out)⟩⟩
        case round =>
         clear H'
         try clear c1
         try clear c2
         try clear p2
         try clear c6
         try clear p6
         try clear c7
         try clear c7b0
         try clear c8
         try clear c14
         try clear c14b0
         try clear c15
         try clear p2
         try clear p6
         obtain ⟨x10_3, x13_3, rfl, HA, HK3, HO_10, HB⟩ := hrel
         cases gk with
         | zero => exact absurd HA.out (by simp [rosterref02_header.l1])
         | succ k3 =>
          have H := HA.out
          clear HA
          simp only [rosterref02_header.l1] at H
          by_cases c17 : x13_3 ≥ 0
          ·rw [if_pos c17] at H
           have c17b0 : decide (0 ≤ x13_3) = true := decide_eq_true c17
           clear c17
           have H' := Aside0.mk H
           clear H
           go_wp2
           go_loopg [14, 15] k3 (fun kq v14 v15 w' => ∃ (x14_4 : Int) (x15_4 : Int), v14 = .int .i64 x14_4 ∧ v15 = .int .i64 x15_4 ∧ Aside0 (rosterref02_header.l2 kq a3 x10_3 x13_3 x14_4 x15_4 = some r) ∧ Aside0 (kq ≤ k3) ∧ Aside0 (Kd.R (Kd.int .u8) 5 w' w.heap.size (fun _ => True) u10 x10_3) ∧ Aside0 (Below w.heap.size w w'))
           case atStart => exact ⟨(a3), (0), (by first | rfl | (simp; done) | (simp [*]; done) | (simp [isEmpty_ne_]; done)), (by first | rfl | (simp; done) | (simp [*]; done) | (simp [isEmpty_ne_]; done)), H', ⟨Nat.le_refl _⟩, ⟨by (with_reducible repeat (first | apply Kd.R_alloc | apply Kd.R_drewN | apply Kd.R_drew)); exact HO_10.out⟩, ⟨by repeat (first | (with_reducible first | exact HB.out | apply below_alloc | apply pw_below_drewN | apply below_drew1) | exact HB.out)⟩⟩
           case round =>
            clear H'
            try clear c1
            try clear c2
            try clear p2
            try clear c6
            try clear p6
            try clear c7
            try clear c7b0
            try clear c8
            try clear c14
            try clear c14b0
            try clear c15
            try clear c17
            try clear c17b0
            try clear p2
            try clear p6
            obtain ⟨x14_4, x15_4, rfl, rfl, HA, HK4, HO_10, HB⟩ := hrel
            cases gk with
            | zero => exact absurd HA.out (by simp [rosterref02_header.l2])
            | succ k4 =>
             have H := HA.out
             clear HA
             simp only [rosterref02_header.l2] at H
             by_cases c18 : x15_4 < x13_3
             ·rw [if_pos c18] at H
              have c18b0 : decide (x15_4 < x13_3) = true := decide_eq_true c18
              clear c18
              have H' := Aside0.mk H
              clear H
              go_wp2
              go_roundg k4
              case measure => have := HJ4.out; have := HK2.out; have := HK3.out; have := HK4.out; omega
              case rel => exact ⟨(wrap64 (Int.tdiv x14_4 256)), (wrap64 (x15_4 + 1)), (by first | rfl | (simp; done) | (simp [*]; done) | (simp [isEmpty_ne_]; done)), (by first | rfl | (simp; done) | (simp [*]; done) | (simp [isEmpty_ne_]; done)), H', ⟨by have := HJ4.out; have := HK2.out; have := HK3.out; have := HK4.out; omega⟩, ⟨by (with_reducible repeat (first | apply Kd.R_alloc | apply Kd.R_drewN | apply Kd.R_drew)); exact HO_10.out⟩, ⟨by repeat (first | (with_reducible first | exact HB.out | apply below_alloc | apply pw_below_drewN | apply below_drew1) | exact HB.out)⟩⟩
             ·rw [if_neg c18] at H
              have c18b0 : decide (x15_4 < x13_3) = false := decide_eq_false c18
              clear c18
              by_cases c19 : x10_3.length < 140737488355328
              ·rw [if_pos c19] at H
               have LMc19 := Aside0.mk c19
               clear c19
               obtain ⟨y110, hy110⟩ : ∃ y_ : List Int, y_ = (x10_3 ++ [(Int.tmod x14_4 256) % 256]) := ⟨_, rfl⟩
               replace H : (rosterref02_header.l1 k4 a3 y110 (wrap64 (x13_3 - 1))) = some r := by first | (rw [hy110]; with_reducible exact H) | (have H2_ := (Option.bind_some _ _).symm.trans H; rw [hy110]; with_reducible exact H2_) | (have H2_ := (Option.bind_some _ _).symm.trans H; with_reducible exact H2_) | with_reducible exact H | (rw [hy110]; exact H) | exact H
               have Ny110 := Aside0.mk hy110
               clear hy110
               have H' := Aside0.mk H
               clear H
               go_wp2_with (first | ((with_reducible refine gate_builtin (b := .append) (xs := #[.tmp 60, .tmp 64]) rfl ?_); at_builtin; refine Kd.R_append (Kd.int .u8) (w0 := w) w.heap.size rfl (.tmp 60) (.tmp 64) 43 5 (.int .u8 0) 1 rfl Try.underlying43 info5 rfl (by decide) (by omega) u10 x10_3 ((Int.tmod x14_4 256) % 256) [.int .u8 ((Int.tmod x14_4 256) % 256)] (fun _ => True) (fun _ => False) rfl rfl ?aP (fun _ hk => hk.elim) ?aF ?aO ?aB ?aS ?aL ?_; (case aP => exact rfl); (case aB => exact (by repeat (first | (with_reducible first | exact HB.out | apply below_alloc | apply pw_below_drewN | apply below_drew1) | exact HB.out))); (case aF => exact (fun _ _ => trivial)); (case aO => exact (by (with_reducible repeat (first | apply Kd.R_alloc | apply Kd.R_drewN | apply Kd.R_drew)); exact HO_10.out)); (case aS => exact (below_size (by repeat (first | (with_reducible first | exact HB.out | apply below_alloc | apply pw_below_drewN | apply below_drew1) | exact HB.out)))); (case aL => have := LMc19.out; omega); intro v111 w20 ho hb hg hat; rw [← Ny110.out] at ho; have n0_ := Aside0.mk (hb); have n1_ := Aside0.mk (ho); clear HB; clear HO_10; have HB := n0_; have HO112 := n1_; clear n0_ n1_; clear ho hb hg hat))
               go_roundg k4
               case measure => have := HJ4.out; have := HK2.out; have := HK3.out; have := HK4.out; omega
               case rel => exact ⟨(y110), (wrap64 (x13_3 - 1)), (by first | rfl | (simp; done) | (simp [*]; done) | (simp [isEmpty_ne_]; done)), H', ⟨by have := HJ4.out; have := HK2.out; have := HK3.out; have := HK4.out; omega⟩, ⟨by (with_reducible repeat (first | apply Kd.R_alloc | apply Kd.R_drewN | apply Kd.R_drew)); exact HO112.out⟩, ⟨by repeat (first | (with_reducible first | exact HB.out | apply below_alloc | apply pw_below_drewN | apply below_drew1) | exact HB.out)⟩⟩
              ·rw [if_neg c19] at H
               exact absurd H (by simp)
          ·rw [if_neg c17] at H
           have c17b0 : decide (0 ≤ x13_3) = false := decide_eq_false c17
           clear c17
           obtain rfl := Option.some.inj H
           go_wp2
           go_ret
           exact ⟨_, by first | rfl | (simp [isEmpty_ne_]; done) | (simp [*, errW_none, errW_some] <;> rfl), by (with_reducible repeat (first | apply Kd.R_alloc | apply Kd.R_drewN | apply Kd.R_drew)); exact HO_10.out, by repeat (first | (with_reducible first | exact HB.out | apply below_alloc | apply pw_below_drewN | apply below_drew1) | exact HB.out)⟩
       ·rw [if_neg c15] at H
        exact absurd H (by simp)

/-! ### rosterref02_fine: function 28 -/
def rosterref02_fine.f (a0 : Int) (a1 : Int) : Option (Bool) := if a0 ≥ 0 then (if a0 ≤ 3 then (if a1 ≥ 0 then (some (decide (a1 ≤ 30))) else (some false)) else (some false)) else (some false)
set_option maxHeartbeats 8000000 in
set_option maxRecDepth 100000 in
theorem rosterref02_fine.calls (a0 : Int) (a1 : Int) (r : Bool) (w : World) (h : rosterref02_fine.f a0 a1 = some r) :
  Calls Try.prog 28 #[.int .i64 a0, .int .i64 a1] w fun e w' => e = .returned (.bool r) ∧ Drawn0 w w' := by
 have H : (if a0 ≥ 0 then (if a0 ≤ 3 then (if a1 ≥ 0 then (some (decide (a1 ≤ 30))) else (some false)) else (some false)) else (some false)) = some r := h
 clear h
 by_cases c3 : a0 ≥ 0
 ·rw [if_pos c3] at H
  have c3b0 : decide (0 ≤ a0) = true := decide_eq_true c3
  clear c3
  by_cases c4 : a0 ≤ 3
  ·rw [if_pos c4] at H
   have c4b0 : decide (a0 ≤ 3) = true := decide_eq_true c4
   clear c4
   by_cases c5 : a1 ≥ 0
   ·rw [if_pos c5] at H
    have c5b0 : decide (0 ≤ a1) = true := decide_eq_true c5
    clear c5
    obtain rfl := Option.some.inj H
    go_enter Try.func28, Try.ntmps28
    go_wp2
    go_ret
    exact ⟨by first | rfl | (simp; done) | (simp [*]; done) | (simp [isEmpty_ne_]; done), by repeat (first | exact Drawn0.refl _ | apply Drawn0.step)⟩
   ·rw [if_neg c5] at H
    have c5b0 : decide (0 ≤ a1) = false := decide_eq_false c5
    clear c5
    obtain rfl := Option.some.inj H
    go_enter Try.func28, Try.ntmps28
    go_wp2
    go_ret
    exact ⟨by first | rfl | (simp; done) | (simp [*]; done) | (simp [isEmpty_ne_]; done), by repeat (first | exact Drawn0.refl _ | apply Drawn0.step)⟩
  ·rw [if_neg c4] at H
   have c4b0 : decide (a0 ≤ 3) = false := decide_eq_false c4
   clear c4
   obtain rfl := Option.some.inj H
   go_enter Try.func28, Try.ntmps28
   go_wp2
   go_ret
   exact ⟨by first | rfl | (simp; done) | (simp [*]; done) | (simp [isEmpty_ne_]; done), by repeat (first | exact Drawn0.refl _ | apply Drawn0.step)⟩
 ·rw [if_neg c3] at H
  have c3b0 : decide (0 ≤ a0) = false := decide_eq_false c3
  clear c3
  obtain rfl := Option.some.inj H
  go_enter Try.func28, Try.ntmps28
  go_wp2
  go_ret
  exact ⟨by first | rfl | (simp; done) | (simp [*]; done) | (simp [isEmpty_ne_]; done), by repeat (first | exact Drawn0.refl _ | apply Drawn0.step)⟩

/-! ### rosterref02_front: function 23 -/
def rosterref02_front.j0 : Nat → List (S26) → Int → Bool → Int → Int → Bool → Int → ByteArray → Option (Bool)
 | 0, _, _, _, _, _, _, _, _ => none
 | k + 1, x0, x1, x25, x115000, x115001, x115002, x115003, x115004 => if x25 = true then (some false) else (if x1 = 0 then (some (x115000 == 1)) else (if 0 ≤ (wrap64 (x1 - 1)) then (if (wrap64 (x1 - 1)) < (x0.length : Int) then (if x115000 < 2 then (some false) else (if x115000 > (wrap64 (((rd_T26 x0 (wrap64 (x1 - 1))).f0) + 1)) then (some false) else (if x115000 ≤ ((rd_T26 x0 (wrap64 (x1 - 1))).f0) then (some true) else (some ((rd_T26 x0 (wrap64 (x1 - 1))).f2))))) else (none)) else (none)))
def rosterref02_front.f (k : Nat) (l0 : List (S26)) (a1 : Int) : Option (Bool) := if 0 ≤ a1 then (if a1 < (l0.length : Int) then ((rosterref02_fine.f ((rd_T26 l0 a1).f1) ((rd_T26 l0 a1).f3)).bind fun t115 => (if t115 = true then (if (rd_T26 l0 a1).f2 = true then (rosterref02_front.j0 k l0 a1 (((rd_T26 l0 a1).f4).toList != ([] : List UInt8)) ((rd_T26 l0 a1).f0) ((rd_T26 l0 a1).f1) ((rd_T26 l0 a1).f2) ((rd_T26 l0 a1).f3) ((rd_T26 l0 a1).f4)) else (rosterref02_front.j0 k l0 a1 false ((rd_T26 l0 a1).f0) ((rd_T26 l0 a1).f1) ((rd_T26 l0 a1).f2) ((rd_T26 l0 a1).f3) ((rd_T26 l0 a1).f4))) else (rosterref02_front.j0 k l0 a1 true ((rd_T26 l0 a1).f0) ((rd_T26 l0 a1).f1) ((rd_T26 l0 a1).f2) ((rd_T26 l0 a1).f3) ((rd_T26 l0 a1).f4)))) else (none)) else (none)
theorem rosterref02_front.mono_l : ∀ k, (∀ y0 y1 y2 y3 y4 y5 y6 y7, LeO (rosterref02_front.j0 k y0 y1 y2 y3 y4 y5 y6 y7) (rosterref02_front.j0 (k + 1) y0 y1 y2 y3 y4 y5 y6 y7))
 | 0 => fun _ _ _ _ _ _ _ _ r h => by simp [rosterref02_front.j0] at h
 | k + 1 => by
  have ih0 := rosterref02_front.mono_l k
  ·intro y0 y1 y2 y3 y4 y5 y6 y7
   unfold rosterref02_front.j0
   repeat' first
   | (with_reducible exact ih0 _ _ _ _ _ _ _ _)
   | (with_reducible exact LeO.refl _)
   | (with_reducible exact LeO.none _)
   | (with_reducible refine LeO.ite ?_ ?_)
   | (with_reducible refine LeO.bind ?_ (fun _ => ?_))
   | exact ih0 _ _ _ _ _ _ _ _
   | exact LeO.none _
   | refine LeO.ite ?_ ?_
   | refine LeO.bind ?_ (fun _ => ?_)
theorem rosterref02_front.mono : ∀ a0 a1 k, LeO (rosterref02_front.f k a0 a1) (rosterref02_front.f (k + 1) a0 a1) := by
 intro a0 a1 k
 have ih0 := rosterref02_front.mono_l k
 unfold rosterref02_front.f
 repeat' first
   | (with_reducible exact ih0 _ _ _ _ _ _ _ _)
   | (with_reducible exact LeO.refl _)
   | (with_reducible exact LeO.none _)
   | (with_reducible refine LeO.ite ?_ ?_)
   | (with_reducible refine LeO.bind ?_ (fun _ => ?_))
   | exact ih0 _ _ _ _ _ _ _ _
   | exact LeO.none _
   | refine LeO.ite ?_ ?_
   | refine LeO.bind ?_ (fun _ => ?_)
set_option maxHeartbeats 8000000 in
set_option maxRecDepth 100000 in
theorem rosterref02_front.calls (k : Nat) (A0 : Option Addr) (c0 : Nat) (l0 : List (S26)) (a1 : Int) (r : Bool) (w : World) (hr0 : Kd.C k26 w A0 l0.length l0) (hc0 : l0.length ≤ c0) (h : rosterref02_front.f k l0 a1 = some r) :
  Calls Try.prog 23 #[.slice A0 l0.length c0, .int .i64 a1] w fun e w' => e = .returned (.bool r) ∧ Below w.heap.size w w' := by
 have hu26 := Try.underlying26
 have HR0 := Aside0.mk hr0
 have HC0 := Aside0.mk hc0
 clear hr0 hc0
 have HB := Aside0.mk (Below.refl w.heap.size w)
 have H : (if 0 ≤ a1 then (if a1 < (l0.length : Int) then ((rosterref02_fine.f ((rd_T26 l0 a1).f1) ((rd_T26 l0 a1).f3)).bind fun t115 => (if t115 = true then (if (rd_T26 l0 a1).f2 = true then (rosterref02_front.j0 k l0 a1 (((rd_T26 l0 a1).f4).toList != ([] : List UInt8)) ((rd_T26 l0 a1).f0) ((rd_T26 l0 a1).f1) ((rd_T26 l0 a1).f2) ((rd_T26 l0 a1).f3) ((rd_T26 l0 a1).f4)) else (rosterref02_front.j0 k l0 a1 false ((rd_T26 l0 a1).f0) ((rd_T26 l0 a1).f1) ((rd_T26 l0 a1).f2) ((rd_T26 l0 a1).f3) ((rd_T26 l0 a1).f4))) else (rosterref02_front.j0 k l0 a1 true ((rd_T26 l0 a1).f0) ((rd_T26 l0 a1).f1) ((rd_T26 l0 a1).f2) ((rd_T26 l0 a1).f3) ((rd_T26 l0 a1).f4)))) else (none)) else (none)) = some r := h
 clear h
 by_cases c3 : 0 ≤ a1
 ·rw [if_pos c3] at H
  have c3b0 : decide (0 ≤ a1) = true := decide_eq_true c3
  clear c3
  by_cases c4 : a1 < (l0.length : Int)
  ·rw [if_pos c4] at H
   have c4b0 : decide (a1 < (l0.length : Int)) = true := decide_eq_true c4
   clear c4
   have HC5 := Aside0.mk H
   clear H
   have p113 : 0 ≤ (a1 : Int) := of_decide_eq_true (by first | (with_reducible assumption) | assumption)
   have q113 : a1 < (l0.length : Int) := of_decide_eq_true (by first | (with_reducible assumption) | assumption)
   obtain ⟨ad113, e113, hx113_0, hx113_1, hx113_2, hx113_3, hx113_4⟩ := at_T26 HR0.out a1 p113 q113
   cases e113
   replace p113 := eq_true p113
   replace q113 := eq_true q113
   go_enter Try.func23, Try.ntmps23
   go_upto_region 2 with (first | ((with_reducible refine gate_dst (N := 5) rfl ?_); refine box_event ?hg (N := 5) ?hd (cs := #[.int .i64 0, .int .i64 0, .bool false, .int .i64 0, .string (⟨#[]⟩ : ByteArray)]) (t := 26) ?hr ?_; (case hd => rfl); (case hg => rfl); (case hr => first | (go_simp; done) | (go_simp; rfl)); intro gb114 hg w6 hbox hb; have n0_ := Aside0.mk (below_step (by repeat (first | (with_reducible first | exact HB.out | apply below_alloc | apply pw_below_drewN | apply below_drew1) | exact HB.out)) hb); have n1_ := Aside0.mk (hbox); have n2_ := Aside0.mk ((by rw [hg]; exact (below_size (by repeat (first | (with_reducible first | exact HB.out | apply below_alloc | apply pw_below_drewN | apply below_drew1) | exact HB.out))) : w.heap.size ≤ gb114)); have n3_ := Aside0.mk ((by rw [hg]; exact (below_size (by repeat (first | (with_reducible first | exact HB.out | apply below_alloc | apply pw_below_drewN | apply below_drew1) | exact HB.out))) : w.heap.size ≤ gb114)); clear HB; have HB := n0_; have BK114 := n1_; have GW114 := n2_; have GE114 := n3_; clear n0_ n1_ n2_ n3_; clear hb hbox hg; have hcz7_0 : w6.cell? ⟨gb114, 0, none⟩ = some (.int .i64 0) := (blk_cell BK114.out 0).trans rfl; have hcz7_1 : w6.cell? ⟨gb114, 1, none⟩ = some (.int .i64 0) := (blk_cell BK114.out 1).trans rfl; have hcz7_2 : w6.cell? ⟨gb114, 2, none⟩ = some (.bool false) := (blk_cell BK114.out 2).trans rfl; have hcz7_3 : w6.cell? ⟨gb114, 3, none⟩ = some (.int .i64 0) := (blk_cell BK114.out 3).trans rfl; have hcz7_4 : w6.cell? ⟨gb114, 4, none⟩ = some (.string (⟨#[]⟩ : ByteArray)) := (blk_cell BK114.out 4).trans rfl; have hfz7_0 := blk_frozen BK114.out 0; have hfz7_1 := blk_frozen BK114.out 1; have hfz7_2 := blk_frozen BK114.out 2; have hfz7_3 := blk_frozen BK114.out 3; have hfz7_4 := blk_frozen BK114.out 4))
   (try simp only [Act.put, List.setIfInBounds_toArray, List.set_cons_zero, List.set_cons_succ])
   go_cut [25] (fun v25 wc => ∃ (kq : Nat) (x25_4 : Bool), v25 = .bool x25_4 ∧ Aside0 (rosterref02_front.j0 kq l0 a1 x25_4 ((rd_T26 l0 a1).f0) ((rd_T26 l0 a1).f1) ((rd_T26 l0 a1).f2) ((rd_T26 l0 a1).f3) ((rd_T26 l0 a1).f4) = some r) ∧ Aside0 (kq ≤ k) ∧ Aside0 (wc.heap[gb114]? = some (.cells #[.int .i64 ((rd_T26 l0 a1).f0), .int .i64 ((rd_T26 l0 a1).f1), .bool ((rd_T26 l0 a1).f2), .int .i64 ((rd_T26 l0 a1).f3), .string ((rd_T26 l0 a1).f4)] 26 (0, 0))) ∧ Aside0 (Below w.heap.size w wc))
   case first =>
    have H := HC5.out
    clear HC5
    replace H := Option.bind_eq_some_iff.mp H
    obtain ⟨t115, A80, H⟩ := H
    replace H : (if t115 = true then (if (rd_T26 l0 a1).f2 = true then (rosterref02_front.j0 k l0 a1 (((rd_T26 l0 a1).f4).toList != ([] : List UInt8)) ((rd_T26 l0 a1).f0) ((rd_T26 l0 a1).f1) ((rd_T26 l0 a1).f2) ((rd_T26 l0 a1).f3) ((rd_T26 l0 a1).f4)) else (rosterref02_front.j0 k l0 a1 false ((rd_T26 l0 a1).f0) ((rd_T26 l0 a1).f1) ((rd_T26 l0 a1).f2) ((rd_T26 l0 a1).f3) ((rd_T26 l0 a1).f4))) else (rosterref02_front.j0 k l0 a1 true ((rd_T26 l0 a1).f0) ((rd_T26 l0 a1).f1) ((rd_T26 l0 a1).f2) ((rd_T26 l0 a1).f3) ((rd_T26 l0 a1).f4))) = some r := H
    have A8 := Aside0.mk A80
    clear A80
    by_cases c9 : t115 = true
    ·subst c9
     have H1 : (if (rd_T26 l0 a1).f2 = true then (rosterref02_front.j0 k l0 a1 (((rd_T26 l0 a1).f4).toList != ([] : List UInt8)) ((rd_T26 l0 a1).f0) ((rd_T26 l0 a1).f1) ((rd_T26 l0 a1).f2) ((rd_T26 l0 a1).f3) ((rd_T26 l0 a1).f4)) else (rosterref02_front.j0 k l0 a1 false ((rd_T26 l0 a1).f0) ((rd_T26 l0 a1).f1) ((rd_T26 l0 a1).f2) ((rd_T26 l0 a1).f3) ((rd_T26 l0 a1).f4))) = some r := by rw [if_pos rfl] at H; exact H
     clear H
     have H := H1
     clear H1
     obtain ⟨bq10, hbq10⟩ : ∃ b_ : Bool, b_ = ((rd_T26 l0 a1).f2) := ⟨_, rfl⟩
     replace H : (if bq10 = true then (rosterref02_front.j0 k l0 a1 (((rd_T26 l0 a1).f4).toList != ([] : List UInt8)) ((rd_T26 l0 a1).f0) ((rd_T26 l0 a1).f1) bq10 ((rd_T26 l0 a1).f3) ((rd_T26 l0 a1).f4)) else (rosterref02_front.j0 k l0 a1 false ((rd_T26 l0 a1).f0) ((rd_T26 l0 a1).f1) bq10 ((rd_T26 l0 a1).f3) ((rd_T26 l0 a1).f4))) = some r := by rw [← hbq10] at H; exact H
     have Nbq10 := Aside0.mk hbq10
     clear hbq10
     (try rw [← Nbq10.out])
     by_cases c11 : bq10 = true
     ·subst c11
      have H1 : (rosterref02_front.j0 k l0 a1 (((rd_T26 l0 a1).f4).toList != ([] : List UInt8)) ((rd_T26 l0 a1).f0) ((rd_T26 l0 a1).f1) true ((rd_T26 l0 a1).f3) ((rd_T26 l0 a1).f4)) = some r := by rw [if_pos rfl] at H; exact H
      clear H
      have H := H1
      clear H1
      have H' := Aside0.mk H
      clear H
      have hcz12_0 : w6.cell? ⟨gb114, 0, none⟩ = some (.int .i64 0) := (blk_cell BK114.out 0).trans rfl
      have hcz12_1 : w6.cell? ⟨gb114, 1, none⟩ = some (.int .i64 0) := (blk_cell BK114.out 1).trans rfl
      have hcz12_2 : w6.cell? ⟨gb114, 2, none⟩ = some (.bool false) := (blk_cell BK114.out 2).trans rfl
      have hcz12_3 : w6.cell? ⟨gb114, 3, none⟩ = some (.int .i64 0) := (blk_cell BK114.out 3).trans rfl
      have hcz12_4 : w6.cell? ⟨gb114, 4, none⟩ = some (.string (⟨#[]⟩ : ByteArray)) := (blk_cell BK114.out 4).trans rfl
      have hfz12_0 := blk_frozen BK114.out 0
      have hfz12_1 := blk_frozen BK114.out 1
      have hfz12_2 := blk_frozen BK114.out 2
      have hfz12_3 := blk_frozen BK114.out 3
      have hfz12_4 := blk_frozen BK114.out 4
      go_wp2_with (first | ((with_reducible refine gate_callee (f := 28) rfl ?_); refine goesL_ (some 15) rfl rfl Try.func28 (by kernel_rfl) rfl #[.int .i64 ((rd_T26 l0 a1).f1), .int .i64 ((rd_T26 l0 a1).f3)] rfl (by (try simp only [List.map_toArray, List.map_cons, List.map_nil]); first | done | rfl | (simp only [List.length_drop, List.length_take]; rfl) | exact congrArg (fun n_ : Nat => #[Value.slice _ n_ _]) (Eq.trans (Aside0.out (by assumption)) (Eq.symm (Aside0.out (by assumption))))) ?_; (with_reducible refine (rosterref02_fine.calls ((rd_T26 l0 a1).f1) ((rd_T26 l0 a1).f3) true _ A8.out).mono ?_); rintro e w' ⟨rfl, ⟨nd, rfl⟩⟩; refine ⟨_, rfl, ?_⟩))
      go_meet
      case rel => (try rw [← Nbq10.out]); exact ⟨_, ((((rd_T26 l0 a1).f4).toList != ([] : List UInt8))), (by first | rfl | (simp; done) | (simp [*]; done) | (simp [isEmpty_ne_]; done)), H', ⟨by first | omega | exact Nat.le_refl _⟩, ⟨by (with_reducible repeat (first | refine blk_drewN ?_ _ | refine blk_drew ?_ | refine blk_alloc ?_ _)); refine blk_put (cs := #[.int .i64 ((rd_T26 l0 a1).f0), .int .i64 ((rd_T26 l0 a1).f1), .bool (true), .int .i64 ((rd_T26 l0 a1).f3), .string (⟨#[]⟩ : ByteArray)]) ?_ 4 _ rfl; (with_reducible repeat (first | refine blk_drewN ?_ _ | refine blk_drew ?_ | refine blk_alloc ?_ _)); refine blk_put (cs := #[.int .i64 ((rd_T26 l0 a1).f0), .int .i64 ((rd_T26 l0 a1).f1), .bool (true), .int .i64 0, .string (⟨#[]⟩ : ByteArray)]) ?_ 3 _ rfl; (with_reducible repeat (first | refine blk_drewN ?_ _ | refine blk_drew ?_ | refine blk_alloc ?_ _)); refine blk_put (cs := #[.int .i64 ((rd_T26 l0 a1).f0), .int .i64 ((rd_T26 l0 a1).f1), .bool false, .int .i64 0, .string (⟨#[]⟩ : ByteArray)]) ?_ 2 _ rfl; (with_reducible repeat (first | refine blk_drewN ?_ _ | refine blk_drew ?_ | refine blk_alloc ?_ _)); refine blk_put (cs := #[.int .i64 ((rd_T26 l0 a1).f0), .int .i64 0, .bool false, .int .i64 0, .string (⟨#[]⟩ : ByteArray)]) ?_ 1 _ rfl; (with_reducible repeat (first | refine blk_drewN ?_ _ | refine blk_drew ?_ | refine blk_alloc ?_ _)); refine blk_put (cs := #[.int .i64 0, .int .i64 0, .bool false, .int .i64 0, .string (⟨#[]⟩ : ByteArray)]) ?_ 0 _ rfl; (with_reducible repeat (first | refine blk_drewN ?_ _ | refine blk_drew ?_ | refine blk_alloc ?_ _)); exact BK114.out⟩, ⟨by repeat (first | (with_reducible first | exact HB.out | apply below_alloc | apply pw_below_drewN | apply below_drew1 | refine below_set ?_ GE114.out) | exact HB.out)⟩⟩
     ·replace c11 := Bool.eq_false_iff.mpr c11
      subst c11
      have H1 : (rosterref02_front.j0 k l0 a1 false ((rd_T26 l0 a1).f0) ((rd_T26 l0 a1).f1) false ((rd_T26 l0 a1).f3) ((rd_T26 l0 a1).f4)) = some r := by rw [if_neg (show ¬ (false = true) by decide)] at H; exact H
      clear H
      have H := H1
      clear H1
      have H' := Aside0.mk H
      clear H
      have hcz13_0 : w6.cell? ⟨gb114, 0, none⟩ = some (.int .i64 0) := (blk_cell BK114.out 0).trans rfl
      have hcz13_1 : w6.cell? ⟨gb114, 1, none⟩ = some (.int .i64 0) := (blk_cell BK114.out 1).trans rfl
      have hcz13_2 : w6.cell? ⟨gb114, 2, none⟩ = some (.bool false) := (blk_cell BK114.out 2).trans rfl
      have hcz13_3 : w6.cell? ⟨gb114, 3, none⟩ = some (.int .i64 0) := (blk_cell BK114.out 3).trans rfl
      have hcz13_4 : w6.cell? ⟨gb114, 4, none⟩ = some (.string (⟨#[]⟩ : ByteArray)) := (blk_cell BK114.out 4).trans rfl
      have hfz13_0 := blk_frozen BK114.out 0
      have hfz13_1 := blk_frozen BK114.out 1
      have hfz13_2 := blk_frozen BK114.out 2
      have hfz13_3 := blk_frozen BK114.out 3
      have hfz13_4 := blk_frozen BK114.out 4
      go_wp2_with (first | ((with_reducible refine gate_callee (f := 28) rfl ?_); refine goesL_ (some 15) rfl rfl Try.func28 (by kernel_rfl) rfl #[.int .i64 ((rd_T26 l0 a1).f1), .int .i64 ((rd_T26 l0 a1).f3)] rfl (by (try simp only [List.map_toArray, List.map_cons, List.map_nil]); first | done | rfl | (simp only [List.length_drop, List.length_take]; rfl) | exact congrArg (fun n_ : Nat => #[Value.slice _ n_ _]) (Eq.trans (Aside0.out (by assumption)) (Eq.symm (Aside0.out (by assumption))))) ?_; (with_reducible refine (rosterref02_fine.calls ((rd_T26 l0 a1).f1) ((rd_T26 l0 a1).f3) true _ A8.out).mono ?_); rintro e w' ⟨rfl, ⟨nd, rfl⟩⟩; refine ⟨_, rfl, ?_⟩))
      go_meet
      case rel => (try rw [← Nbq10.out]); exact ⟨_, (false), (by first | rfl | (simp; done) | (simp [*]; done) | (simp [isEmpty_ne_]; done)), H', ⟨by first | omega | exact Nat.le_refl _⟩, ⟨by (with_reducible repeat (first | refine blk_drewN ?_ _ | refine blk_drew ?_ | refine blk_alloc ?_ _)); refine blk_put (cs := #[.int .i64 ((rd_T26 l0 a1).f0), .int .i64 ((rd_T26 l0 a1).f1), .bool (false), .int .i64 ((rd_T26 l0 a1).f3), .string (⟨#[]⟩ : ByteArray)]) ?_ 4 _ rfl; (with_reducible repeat (first | refine blk_drewN ?_ _ | refine blk_drew ?_ | refine blk_alloc ?_ _)); refine blk_put (cs := #[.int .i64 ((rd_T26 l0 a1).f0), .int .i64 ((rd_T26 l0 a1).f1), .bool (false), .int .i64 0, .string (⟨#[]⟩ : ByteArray)]) ?_ 3 _ rfl; (with_reducible repeat (first | refine blk_drewN ?_ _ | refine blk_drew ?_ | refine blk_alloc ?_ _)); refine blk_put (cs := #[.int .i64 ((rd_T26 l0 a1).f0), .int .i64 ((rd_T26 l0 a1).f1), .bool false, .int .i64 0, .string (⟨#[]⟩ : ByteArray)]) ?_ 2 _ rfl; (with_reducible repeat (first | refine blk_drewN ?_ _ | refine blk_drew ?_ | refine blk_alloc ?_ _)); refine blk_put (cs := #[.int .i64 ((rd_T26 l0 a1).f0), .int .i64 0, .bool false, .int .i64 0, .string (⟨#[]⟩ : ByteArray)]) ?_ 1 _ rfl; (with_reducible repeat (first | refine blk_drewN ?_ _ | refine blk_drew ?_ | refine blk_alloc ?_ _)); refine blk_put (cs := #[.int .i64 0, .int .i64 0, .bool false, .int .i64 0, .string (⟨#[]⟩ : ByteArray)]) ?_ 0 _ rfl; (with_reducible repeat (first | refine blk_drewN ?_ _ | refine blk_drew ?_ | refine blk_alloc ?_ _)); exact BK114.out⟩, ⟨by repeat (first | (with_reducible first | exact HB.out | apply below_alloc | apply pw_below_drewN | apply below_drew1 | refine below_set ?_ GE114.out) | exact HB.out)⟩⟩
    ·replace c9 := Bool.eq_false_iff.mpr c9
     subst c9
     have H1 : (rosterref02_front.j0 k l0 a1 true ((rd_T26 l0 a1).f0) ((rd_T26 l0 a1).f1) ((rd_T26 l0 a1).f2) ((rd_T26 l0 a1).f3) ((rd_T26 l0 a1).f4)) = some r := by rw [if_neg (show ¬ (false = true) by decide)] at H; exact H
     clear H
     have H := H1
     clear H1
     have H' := Aside0.mk H
     clear H
     have hcz14_0 : w6.cell? ⟨gb114, 0, none⟩ = some (.int .i64 0) := (blk_cell BK114.out 0).trans rfl
     have hcz14_1 : w6.cell? ⟨gb114, 1, none⟩ = some (.int .i64 0) := (blk_cell BK114.out 1).trans rfl
     have hcz14_2 : w6.cell? ⟨gb114, 2, none⟩ = some (.bool false) := (blk_cell BK114.out 2).trans rfl
     have hcz14_3 : w6.cell? ⟨gb114, 3, none⟩ = some (.int .i64 0) := (blk_cell BK114.out 3).trans rfl
     have hcz14_4 : w6.cell? ⟨gb114, 4, none⟩ = some (.string (⟨#[]⟩ : ByteArray)) := (blk_cell BK114.out 4).trans rfl
     have hfz14_0 := blk_frozen BK114.out 0
     have hfz14_1 := blk_frozen BK114.out 1
     have hfz14_2 := blk_frozen BK114.out 2
     have hfz14_3 := blk_frozen BK114.out 3
     have hfz14_4 := blk_frozen BK114.out 4
     go_wp2_with (first | ((with_reducible refine gate_callee (f := 28) rfl ?_); refine goesL_ (some 15) rfl rfl Try.func28 (by kernel_rfl) rfl #[.int .i64 ((rd_T26 l0 a1).f1), .int .i64 ((rd_T26 l0 a1).f3)] rfl (by (try simp only [List.map_toArray, List.map_cons, List.map_nil]); first | done | rfl | (simp only [List.length_drop, List.length_take]; rfl) | exact congrArg (fun n_ : Nat => #[Value.slice _ n_ _]) (Eq.trans (Aside0.out (by assumption)) (Eq.symm (Aside0.out (by assumption))))) ?_; (with_reducible refine (rosterref02_fine.calls ((rd_T26 l0 a1).f1) ((rd_T26 l0 a1).f3) false _ A8.out).mono ?_); rintro e w' ⟨rfl, ⟨nd, rfl⟩⟩; refine ⟨_, rfl, ?_⟩))
     go_meet
     case rel => exact ⟨_, (true), (by first | rfl | (simp; done) | (simp [*]; done) | (simp [isEmpty_ne_]; done)), H', ⟨by first | omega | exact Nat.le_refl _⟩, ⟨by (with_reducible repeat (first | refine blk_drewN ?_ _ | refine blk_drew ?_ | refine blk_alloc ?_ _)); refine blk_put (cs := #[.int .i64 ((rd_T26 l0 a1).f0), .int .i64 ((rd_T26 l0 a1).f1), .bool ((rd_T26 l0 a1).f2), .int .i64 ((rd_T26 l0 a1).f3), .string (⟨#[]⟩ : ByteArray)]) ?_ 4 _ rfl; (with_reducible repeat (first | refine blk_drewN ?_ _ | refine blk_drew ?_ | refine blk_alloc ?_ _)); refine blk_put (cs := #[.int .i64 ((rd_T26 l0 a1).f0), .int .i64 ((rd_T26 l0 a1).f1), .bool ((rd_T26 l0 a1).f2), .int .i64 0, .string (⟨#[]⟩ : ByteArray)]) ?_ 3 _ rfl; (with_reducible repeat (first | refine blk_drewN ?_ _ | refine blk_drew ?_ | refine blk_alloc ?_ _)); refine blk_put (cs := #[.int .i64 ((rd_T26 l0 a1).f0), .int .i64 ((rd_T26 l0 a1).f1), .bool false, .int .i64 0, .string (⟨#[]⟩ : ByteArray)]) ?_ 2 _ rfl; (with_reducible repeat (first | refine blk_drewN ?_ _ | refine blk_drew ?_ | refine blk_alloc ?_ _)); refine blk_put (cs := #[.int .i64 ((rd_T26 l0 a1).f0), .int .i64 0, .bool false, .int .i64 0, .string (⟨#[]⟩ : ByteArray)]) ?_ 1 _ rfl; (with_reducible repeat (first | refine blk_drewN ?_ _ | refine blk_drew ?_ | refine blk_alloc ?_ _)); refine blk_put (cs := #[.int .i64 0, .int .i64 0, .bool false, .int .i64 0, .string (⟨#[]⟩ : ByteArray)]) ?_ 0 _ rfl; (with_reducible repeat (first | refine blk_drewN ?_ _ | refine blk_drew ?_ | refine blk_alloc ?_ _)); exact BK114.out⟩, ⟨by repeat (first | (with_reducible first | exact HB.out | apply below_alloc | apply pw_below_drewN | apply below_drew1 | refine below_set ?_ GE114.out) | exact HB.out)⟩⟩
   case rest =>
    clear HC5
    try clear c1
    try clear p1
    try clear q1
    try clear hx1
    try clear c2
    try clear p2
    try clear c3
    try clear c3b0
    try clear c4
    try clear c4b0
    try clear c9
    try clear q10
    try clear c11
    try clear p11
    try clear q11
    try clear hx11
    try clear hcz12_0 hcz12_1 hcz12_2 hcz12_3 hcz12_4
    try clear hcz13_0 hcz13_1 hcz13_2 hcz13_3 hcz13_4
    try clear hcz14_0 hcz14_1 hcz14_2 hcz14_3 hcz14_4
    try clear hcz7_0 hcz7_1 hcz7_2 hcz7_3 hcz7_4
    try clear hfz12_0 hfz12_1 hfz12_2 hfz12_3 hfz12_4
    try clear hfz13_0 hfz13_1 hfz13_2 hfz13_3 hfz13_4
    try clear hfz14_0 hfz14_1 hfz14_2 hfz14_3 hfz14_4
    try clear hfz7_0 hfz7_1 hfz7_2 hfz7_3 hfz7_4
    try clear hx113_0
    try clear hx113_1
    try clear hx113_2
    try clear hx113_3
    try clear hx113_4
    try clear p113
    try clear q113
    obtain ⟨kq, x25_4, rfl, HA, HJ4, BK114, HB⟩ := hcut
    cases kq with
    | zero => exact absurd HA.out (by simp [rosterref02_front.j0])
    | succ kj4 =>
     have H := HA.out
     clear HA
     simp only [rosterref02_front.j0] at H
     by_cases c15 : x25_4 = true
     ·subst c15
      have H1 : (some false) = some r := by rw [if_pos rfl] at H; exact H
      clear H
      have H := H1
      clear H1
      obtain rfl := Option.some.inj H
      go_wp2
      go_ret
      exact ⟨by first | rfl | (simp [isEmpty_ne_]; done) | (simp [*, errW_none, errW_some] <;> rfl), by repeat (first | (with_reducible first | exact HB.out | apply below_alloc | apply pw_below_drewN | apply below_drew1 | refine below_set ?_ GE114.out) | exact HB.out)⟩
     ·replace c15 := Bool.eq_false_iff.mpr c15
      subst c15
      have H1 : (if a1 = 0 then (some (((rd_T26 l0 a1).f0) == 1)) else (if 0 ≤ (wrap64 (a1 - 1)) then (if (wrap64 (a1 - 1)) < (l0.length : Int) then (if ((rd_T26 l0 a1).f0) < 2 then (some false) else (if ((rd_T26 l0 a1).f0) > (wrap64 (((rd_T26 l0 (wrap64 (a1 - 1))).f0) + 1)) then (some false) else (if ((rd_T26 l0 a1).f0) ≤ ((rd_T26 l0 (wrap64 (a1 - 1))).f0) then (some true) else (some ((rd_T26 l0 (wrap64 (a1 - 1))).f2))))) else (none)) else (none))) = some r := by rw [if_neg (show ¬ (false = true) by decide)] at H; exact H
      clear H
      have H := H1
      clear H1
      by_cases c16 : a1 = 0
      ·rw [if_pos c16] at H
       have c16b0 : (a1 == 0) = true := beq_iff_eq.mpr c16
       have c16b1 : (a1 != 0) = false := bne_eq_false_iff_eq.mpr c16
       clear c16
       obtain rfl := Option.some.inj H
       have hcz17_0 : wc.cell? ⟨gb114, 0, none⟩ = some (.int .i64 ((rd_T26 l0 a1).f0)) := (blk_cell BK114.out 0).trans rfl
       have hcz17_1 : wc.cell? ⟨gb114, 1, none⟩ = some (.int .i64 ((rd_T26 l0 a1).f1)) := (blk_cell BK114.out 1).trans rfl
       have hcz17_2 : wc.cell? ⟨gb114, 2, none⟩ = some (.bool ((rd_T26 l0 a1).f2)) := (blk_cell BK114.out 2).trans rfl
       have hcz17_3 : wc.cell? ⟨gb114, 3, none⟩ = some (.int .i64 ((rd_T26 l0 a1).f3)) := (blk_cell BK114.out 3).trans rfl
       have hcz17_4 : wc.cell? ⟨gb114, 4, none⟩ = some (.string ((rd_T26 l0 a1).f4)) := (blk_cell BK114.out 4).trans rfl
       have hfz17_0 := blk_frozen BK114.out 0
       have hfz17_1 := blk_frozen BK114.out 1
       have hfz17_2 := blk_frozen BK114.out 2
       have hfz17_3 := blk_frozen BK114.out 3
       have hfz17_4 := blk_frozen BK114.out 4
       go_wp2
       go_ret
       exact ⟨by first | rfl | (simp [isEmpty_ne_]; done) | (simp [*, errW_none, errW_some] <;> rfl), by repeat (first | (with_reducible first | exact HB.out | apply below_alloc | apply pw_below_drewN | apply below_drew1 | refine below_set ?_ GE114.out) | exact HB.out)⟩
      ·rw [if_neg c16] at H
       have c16b0 : (a1 == 0) = false := beq_eq_false_iff_ne.mpr c16
       have c16b1 : (a1 != 0) = true := bne_iff_ne.mpr c16
       obtain ⟨ji18, hji18⟩ : ∃ j_ : Int, (wrap64 (a1 - 1)) = j_ := ⟨_, rfl⟩
       replace H : (if 0 ≤ (ji18) then (if (ji18) < (l0.length : Int) then (if ((rd_T26 l0 a1).f0) < 2 then (some false) else (if ((rd_T26 l0 a1).f0) > (wrap64 (((rd_T26 l0 (ji18)).f0) + 1)) then (some false) else (if ((rd_T26 l0 a1).f0) ≤ ((rd_T26 l0 (ji18)).f0) then (some true) else (some ((rd_T26 l0 (ji18)).f2))))) else (none)) else (none)) = some r := by first | (rw [hji18] at H; exact H) | (simp only [hji18] at H ⊢; exact H)
       have hji18w : (IntKind.i64.wrap (a1 - 1)) = ji18 := (i64_w _).trans hji18
       by_cases c19 : 0 ≤ (ji18)
       ·rw [if_pos c19] at H
        have c19b0 : decide (0 ≤ (ji18)) = true := decide_eq_true c19
        clear c19
        by_cases c20 : (ji18) < (l0.length : Int)
        ·rw [if_pos c20] at H
         have c20b0 : decide ((ji18) < (l0.length : Int)) = true := decide_eq_true c20
         clear c20
         by_cases c21 : ((rd_T26 l0 a1).f0) < 2
         ·rw [if_pos c21] at H
          have c21b0 : decide (((rd_T26 l0 a1).f0) < 2) = true := decide_eq_true c21
          clear c21
          obtain rfl := Option.some.inj H
          have p116 : 0 ≤ ((ji18) : Int) := of_decide_eq_true (by first | (with_reducible assumption) | assumption)
          have q116 : (ji18) < (l0.length : Int) := of_decide_eq_true (by first | (with_reducible assumption) | assumption)
          obtain ⟨ad116, e116, hx116_0, hx116_1, hx116_2, hx116_3, hx116_4⟩ := at_T26 HR0.out (ji18) p116 q116
          obtain rfl : ad113 = ad116 := (by injection e116)
          replace hx116_0 := cellB_ HB.out hx116_0
          replace hx116_1 := cellB_ HB.out hx116_1
          replace hx116_2 := cellB_ HB.out hx116_2
          replace hx116_3 := cellB_ HB.out hx116_3
          replace hx116_4 := cellB_ HB.out hx116_4
          replace p116 := eq_true p116
          replace q116 := eq_true q116
          go_wp2_with (first | ((with_reducible refine gate_dst (N := 6) rfl ?_); refine box_event ?hg (N := 6) ?hd (cs := #[.int .i64 0, .int .i64 0, .bool false, .int .i64 0, .string (⟨#[]⟩ : ByteArray)]) (t := 26) ?hr ?_; (case hd => rfl); (case hg => rfl); (case hr => first | (go_simp; done) | (go_simp; rfl)); intro gb117 hg w22 hbox hb; have n0_ := Aside0.mk (blk_below (g := gb114) (o := .cells #[.int .i64 ((rd_T26 l0 a1).f0), .int .i64 ((rd_T26 l0 a1).f1), .bool ((rd_T26 l0 a1).f2), .int .i64 ((rd_T26 l0 a1).f3), .string ((rd_T26 l0 a1).f4)] 26 (0, 0)) (by (with_reducible repeat (first | refine blk_drewN ?_ _ | refine blk_drew ?_ | refine blk_alloc ?_ _)); exact BK114.out) hb); have n1_ := Aside0.mk (below_step (by repeat (first | (with_reducible first | exact HB.out | apply below_alloc | apply pw_below_drewN | apply below_drew1 | refine below_set ?_ GE114.out) | exact HB.out)) hb); have n2_ := Aside0.mk (hbox); have n3_ := Aside0.mk ((by rw [hg]; exact (below_size (by repeat (first | (with_reducible first | exact HB.out | apply below_alloc | apply pw_below_drewN | apply below_drew1 | refine below_set ?_ GE114.out) | exact HB.out))) : w.heap.size ≤ gb117)); have n4_ := Aside0.mk ((by rw [hg]; exact (below_size (by repeat (first | (with_reducible first | exact HB.out | apply below_alloc | apply pw_below_drewN | apply below_drew1 | refine below_set ?_ GE114.out) | exact HB.out))) : w.heap.size ≤ gb117)); have n5_ := Aside0.mk ((by rw [hg]; exact Nat.ne_of_lt (blk_lt (g := gb114) (o := .cells #[.int .i64 ((rd_T26 l0 a1).f0), .int .i64 ((rd_T26 l0 a1).f1), .bool ((rd_T26 l0 a1).f2), .int .i64 ((rd_T26 l0 a1).f3), .string ((rd_T26 l0 a1).f4)] 26 (0, 0)) (by (with_reducible repeat (first | refine blk_drewN ?_ _ | refine blk_drew ?_ | refine blk_alloc ?_ _)); exact BK114.out)) : gb114 ≠ gb117)); have n6_ := Aside0.mk ((by rw [hg]; exact Nat.ne_of_gt (blk_lt (g := gb114) (o := .cells #[.int .i64 ((rd_T26 l0 a1).f0), .int .i64 ((rd_T26 l0 a1).f1), .bool ((rd_T26 l0 a1).f2), .int .i64 ((rd_T26 l0 a1).f3), .string ((rd_T26 l0 a1).f4)] 26 (0, 0)) (by (with_reducible repeat (first | refine blk_drewN ?_ _ | refine blk_drew ?_ | refine blk_alloc ?_ _)); exact BK114.out)) : gb117 ≠ gb114)); clear BK114; clear HB; have BK114 := n0_; have HB := n1_; have BK117 := n2_; have GW117 := n3_; have GE117 := n4_; have NB114_117 := n5_; have NB117_114 := n6_; clear n0_ n1_ n2_ n3_ n4_ n5_ n6_; clear hb hbox hg; have hnb23 := NB117_114.out; have hnc23 := NB114_117.out; have hcz24_0 : w22.cell? ⟨gb117, 0, none⟩ = some (.int .i64 0) := (blk_cell BK117.out 0).trans rfl; have hcz24_1 : w22.cell? ⟨gb117, 1, none⟩ = some (.int .i64 0) := (blk_cell BK117.out 1).trans rfl; have hcz24_2 : w22.cell? ⟨gb117, 2, none⟩ = some (.bool false) := (blk_cell BK117.out 2).trans rfl; have hcz24_3 : w22.cell? ⟨gb117, 3, none⟩ = some (.int .i64 0) := (blk_cell BK117.out 3).trans rfl; have hcz24_4 : w22.cell? ⟨gb117, 4, none⟩ = some (.string (⟨#[]⟩ : ByteArray)) := (blk_cell BK117.out 4).trans rfl; have hfz24_0 := blk_frozen BK117.out 0; have hfz24_1 := blk_frozen BK117.out 1; have hfz24_2 := blk_frozen BK117.out 2; have hfz24_3 := blk_frozen BK117.out 3; have hfz24_4 := blk_frozen BK117.out 4; have hcz25_0 : w22.cell? ⟨gb114, 0, none⟩ = some (.int .i64 ((rd_T26 l0 a1).f0)) := (blk_cell BK114.out 0).trans rfl; have hcz25_1 : w22.cell? ⟨gb114, 1, none⟩ = some (.int .i64 ((rd_T26 l0 a1).f1)) := (blk_cell BK114.out 1).trans rfl; have hcz25_2 : w22.cell? ⟨gb114, 2, none⟩ = some (.bool ((rd_T26 l0 a1).f2)) := (blk_cell BK114.out 2).trans rfl; have hcz25_3 : w22.cell? ⟨gb114, 3, none⟩ = some (.int .i64 ((rd_T26 l0 a1).f3)) := (blk_cell BK114.out 3).trans rfl; have hcz25_4 : w22.cell? ⟨gb114, 4, none⟩ = some (.string ((rd_T26 l0 a1).f4)) := (blk_cell BK114.out 4).trans rfl; have hfz25_0 := blk_frozen BK114.out 0; have hfz25_1 := blk_frozen BK114.out 1; have hfz25_2 := blk_frozen BK114.out 2; have hfz25_3 := blk_frozen BK114.out 3; have hfz25_4 := blk_frozen BK114.out 4))
          go_ret
          exact ⟨by first | rfl | (simp [isEmpty_ne_]; done) | (simp [errW_none, errW_some] <;> rfl) | (simp only [← hji18]; first | rfl | (simp [errW_none, errW_some] <;> rfl)) | (simp [*, errW_none, errW_some] <;> rfl), by repeat (first | (with_reducible first | exact HB.out | apply below_alloc | apply pw_below_drewN | apply below_drew1 | refine below_set ?_ GE114.out | refine below_set ?_ GE117.out) | exact HB.out)⟩
         ·rw [if_neg c21] at H
          have c21b0 : decide (((rd_T26 l0 a1).f0) < 2) = false := decide_eq_false c21
          clear c21
          by_cases c26 : ((rd_T26 l0 a1).f0) > (wrap64 (((rd_T26 l0 (ji18)).f0) + 1))
          ·rw [if_pos c26] at H
           have c26b0 : decide ((wrap64 (((rd_T26 l0 (ji18)).f0) + 1)) < ((rd_T26 l0 a1).f0)) = true := decide_eq_true c26
           clear c26
           obtain rfl := Option.some.inj H
           have p116 : 0 ≤ ((ji18) : Int) := of_decide_eq_true (by first | (with_reducible assumption) | assumption)
           have q116 : (ji18) < (l0.length : Int) := of_decide_eq_true (by first | (with_reducible assumption) | assumption)
           obtain ⟨ad116, e116, hx116_0, hx116_1, hx116_2, hx116_3, hx116_4⟩ := at_T26 HR0.out (ji18) p116 q116
           obtain rfl : ad113 = ad116 := (by injection e116)
           replace hx116_0 := cellB_ HB.out hx116_0
           replace hx116_1 := cellB_ HB.out hx116_1
           replace hx116_2 := cellB_ HB.out hx116_2
           replace hx116_3 := cellB_ HB.out hx116_3
           replace hx116_4 := cellB_ HB.out hx116_4
           replace p116 := eq_true p116
           replace q116 := eq_true q116
           go_wp2_with (first | ((with_reducible refine gate_dst (N := 6) rfl ?_); refine box_event ?hg (N := 6) ?hd (cs := #[.int .i64 0, .int .i64 0, .bool false, .int .i64 0, .string (⟨#[]⟩ : ByteArray)]) (t := 26) ?hr ?_; (case hd => rfl); (case hg => rfl); (case hr => first | (go_simp; done) | (go_simp; rfl)); intro gb117 hg w27 hbox hb; have n0_ := Aside0.mk (blk_below (g := gb114) (o := .cells #[.int .i64 ((rd_T26 l0 a1).f0), .int .i64 ((rd_T26 l0 a1).f1), .bool ((rd_T26 l0 a1).f2), .int .i64 ((rd_T26 l0 a1).f3), .string ((rd_T26 l0 a1).f4)] 26 (0, 0)) (by (with_reducible repeat (first | refine blk_drewN ?_ _ | refine blk_drew ?_ | refine blk_alloc ?_ _)); exact BK114.out) hb); have n1_ := Aside0.mk (below_step (by repeat (first | (with_reducible first | exact HB.out | apply below_alloc | apply pw_below_drewN | apply below_drew1 | refine below_set ?_ GE114.out) | exact HB.out)) hb); have n2_ := Aside0.mk (hbox); have n3_ := Aside0.mk ((by rw [hg]; exact (below_size (by repeat (first | (with_reducible first | exact HB.out | apply below_alloc | apply pw_below_drewN | apply below_drew1 | refine below_set ?_ GE114.out) | exact HB.out))) : w.heap.size ≤ gb117)); have n4_ := Aside0.mk ((by rw [hg]; exact (below_size (by repeat (first | (with_reducible first | exact HB.out | apply below_alloc | apply pw_below_drewN | apply below_drew1 | refine below_set ?_ GE114.out) | exact HB.out))) : w.heap.size ≤ gb117)); have n5_ := Aside0.mk ((by rw [hg]; exact Nat.ne_of_lt (blk_lt (g := gb114) (o := .cells #[.int .i64 ((rd_T26 l0 a1).f0), .int .i64 ((rd_T26 l0 a1).f1), .bool ((rd_T26 l0 a1).f2), .int .i64 ((rd_T26 l0 a1).f3), .string ((rd_T26 l0 a1).f4)] 26 (0, 0)) (by (with_reducible repeat (first | refine blk_drewN ?_ _ | refine blk_drew ?_ | refine blk_alloc ?_ _)); exact BK114.out)) : gb114 ≠ gb117)); have n6_ := Aside0.mk ((by rw [hg]; exact Nat.ne_of_gt (blk_lt (g := gb114) (o := .cells #[.int .i64 ((rd_T26 l0 a1).f0), .int .i64 ((rd_T26 l0 a1).f1), .bool ((rd_T26 l0 a1).f2), .int .i64 ((rd_T26 l0 a1).f3), .string ((rd_T26 l0 a1).f4)] 26 (0, 0)) (by (with_reducible repeat (first | refine blk_drewN ?_ _ | refine blk_drew ?_ | refine blk_alloc ?_ _)); exact BK114.out)) : gb117 ≠ gb114)); clear BK114; clear HB; have BK114 := n0_; have HB := n1_; have BK117 := n2_; have GW117 := n3_; have GE117 := n4_; have NB114_117 := n5_; have NB117_114 := n6_; clear n0_ n1_ n2_ n3_ n4_ n5_ n6_; clear hb hbox hg; have hnb28 := NB117_114.out; have hnc28 := NB114_117.out; have hcz29_0 : w27.cell? ⟨gb117, 0, none⟩ = some (.int .i64 0) := (blk_cell BK117.out 0).trans rfl; have hcz29_1 : w27.cell? ⟨gb117, 1, none⟩ = some (.int .i64 0) := (blk_cell BK117.out 1).trans rfl; have hcz29_2 : w27.cell? ⟨gb117, 2, none⟩ = some (.bool false) := (blk_cell BK117.out 2).trans rfl; have hcz29_3 : w27.cell? ⟨gb117, 3, none⟩ = some (.int .i64 0) := (blk_cell BK117.out 3).trans rfl; have hcz29_4 : w27.cell? ⟨gb117, 4, none⟩ = some (.string (⟨#[]⟩ : ByteArray)) := (blk_cell BK117.out 4).trans rfl; have hfz29_0 := blk_frozen BK117.out 0; have hfz29_1 := blk_frozen BK117.out 1; have hfz29_2 := blk_frozen BK117.out 2; have hfz29_3 := blk_frozen BK117.out 3; have hfz29_4 := blk_frozen BK117.out 4; have hcz30_0 : w27.cell? ⟨gb114, 0, none⟩ = some (.int .i64 ((rd_T26 l0 a1).f0)) := (blk_cell BK114.out 0).trans rfl; have hcz30_1 : w27.cell? ⟨gb114, 1, none⟩ = some (.int .i64 ((rd_T26 l0 a1).f1)) := (blk_cell BK114.out 1).trans rfl; have hcz30_2 : w27.cell? ⟨gb114, 2, none⟩ = some (.bool ((rd_T26 l0 a1).f2)) := (blk_cell BK114.out 2).trans rfl; have hcz30_3 : w27.cell? ⟨gb114, 3, none⟩ = some (.int .i64 ((rd_T26 l0 a1).f3)) := (blk_cell BK114.out 3).trans rfl; have hcz30_4 : w27.cell? ⟨gb114, 4, none⟩ = some (.string ((rd_T26 l0 a1).f4)) := (blk_cell BK114.out 4).trans rfl; have hfz30_0 := blk_frozen BK114.out 0; have hfz30_1 := blk_frozen BK114.out 1; have hfz30_2 := blk_frozen BK114.out 2; have hfz30_3 := blk_frozen BK114.out 3; have hfz30_4 := blk_frozen BK114.out 4))
           go_ret
           exact ⟨by first | rfl | (simp [isEmpty_ne_]; done) | (simp [errW_none, errW_some] <;> rfl) | (simp only [← hji18]; first | rfl | (simp [errW_none, errW_some] <;> rfl)) | (simp [*, errW_none, errW_some] <;> rfl), by repeat (first | (with_reducible first | exact HB.out | apply below_alloc | apply pw_below_drewN | apply below_drew1 | refine below_set ?_ GE114.out | refine below_set ?_ GE117.out) | exact HB.out)⟩
          ·rw [if_neg c26] at H
           have c26b0 : decide ((wrap64 (((rd_T26 l0 (ji18)).f0) + 1)) < ((rd_T26 l0 a1).f0)) = false := decide_eq_false c26
           clear c26
           by_cases c31 : ((rd_T26 l0 a1).f0) ≤ ((rd_T26 l0 (ji18)).f0)
           ·rw [if_pos c31] at H
            have c31b0 : decide (((rd_T26 l0 a1).f0) ≤ ((rd_T26 l0 (ji18)).f0)) = true := decide_eq_true c31
            clear c31
            obtain rfl := Option.some.inj H
            have p116 : 0 ≤ ((ji18) : Int) := of_decide_eq_true (by first | (with_reducible assumption) | assumption)
            have q116 : (ji18) < (l0.length : Int) := of_decide_eq_true (by first | (with_reducible assumption) | assumption)
            obtain ⟨ad116, e116, hx116_0, hx116_1, hx116_2, hx116_3, hx116_4⟩ := at_T26 HR0.out (ji18) p116 q116
            obtain rfl : ad113 = ad116 := (by injection e116)
            replace hx116_0 := cellB_ HB.out hx116_0
            replace hx116_1 := cellB_ HB.out hx116_1
            replace hx116_2 := cellB_ HB.out hx116_2
            replace hx116_3 := cellB_ HB.out hx116_3
            replace hx116_4 := cellB_ HB.out hx116_4
            replace p116 := eq_true p116
            replace q116 := eq_true q116
            go_wp2_with (first | ((with_reducible refine gate_dst (N := 6) rfl ?_); refine box_event ?hg (N := 6) ?hd (cs := #[.int .i64 0, .int .i64 0, .bool false, .int .i64 0, .string (⟨#[]⟩ : ByteArray)]) (t := 26) ?hr ?_; (case hd => rfl); (case hg => rfl); (case hr => first | (go_simp; done) | (go_simp; rfl)); intro gb117 hg w32 hbox hb; have n0_ := Aside0.mk (blk_below (g := gb114) (o := .cells #[.int .i64 ((rd_T26 l0 a1).f0), .int .i64 ((rd_T26 l0 a1).f1), .bool ((rd_T26 l0 a1).f2), .int .i64 ((rd_T26 l0 a1).f3), .string ((rd_T26 l0 a1).f4)] 26 (0, 0)) (by (with_reducible repeat (first | refine blk_drewN ?_ _ | refine blk_drew ?_ | refine blk_alloc ?_ _)); exact BK114.out) hb); have n1_ := Aside0.mk (below_step (by repeat (first | (with_reducible first | exact HB.out | apply below_alloc | apply pw_below_drewN | apply below_drew1 | refine below_set ?_ GE114.out) | exact HB.out)) hb); have n2_ := Aside0.mk (hbox); have n3_ := Aside0.mk ((by rw [hg]; exact (below_size (by repeat (first | (with_reducible first | exact HB.out | apply below_alloc | apply pw_below_drewN | apply below_drew1 | refine below_set ?_ GE114.out) | exact HB.out))) : w.heap.size ≤ gb117)); have n4_ := Aside0.mk ((by rw [hg]; exact (below_size (by repeat (first | (with_reducible first | exact HB.out | apply below_alloc | apply pw_below_drewN | apply below_drew1 | refine below_set ?_ GE114.out) | exact HB.out))) : w.heap.size ≤ gb117)); have n5_ := Aside0.mk ((by rw [hg]; exact Nat.ne_of_lt (blk_lt (g := gb114) (o := .cells #[.int .i64 ((rd_T26 l0 a1).f0), .int .i64 ((rd_T26 l0 a1).f1), .bool ((rd_T26 l0 a1).f2), .int .i64 ((rd_T26 l0 a1).f3), .string ((rd_T26 l0 a1).f4)] 26 (0, 0)) (by (with_reducible repeat (first | refine blk_drewN ?_ _ | refine blk_drew ?_ | refine blk_alloc ?_ _)); exact BK114.out)) : gb114 ≠ gb117)); have n6_ := Aside0.mk ((by rw [hg]; exact Nat.ne_of_gt (blk_lt (g := gb114) (o := .cells #[.int .i64 ((rd_T26 l0 a1).f0), .int .i64 ((rd_T26 l0 a1).f1), .bool ((rd_T26 l0 a1).f2), .int .i64 ((rd_T26 l0 a1).f3), .string ((rd_T26 l0 a1).f4)] 26 (0, 0)) (by (with_reducible repeat (first | refine blk_drewN ?_ _ | refine blk_drew ?_ | refine blk_alloc ?_ _)); exact BK114.out)) : gb117 ≠ gb114)); clear BK114; clear HB; have BK114 := n0_; have HB := n1_; have BK117 := n2_; have GW117 := n3_; have GE117 := n4_; have NB114_117 := n5_; have NB117_114 := n6_; clear n0_ n1_ n2_ n3_ n4_ n5_ n6_; clear hb hbox hg; have hnb33 := NB117_114.out; have hnc33 := NB114_117.out; have hcz34_0 : w32.cell? ⟨gb117, 0, none⟩ = some (.int .i64 0) := (blk_cell BK117.out 0).trans rfl; have hcz34_1 : w32.cell? ⟨gb117, 1, none⟩ = some (.int .i64 0) := (blk_cell BK117.out 1).trans rfl; have hcz34_2 : w32.cell? ⟨gb117, 2, none⟩ = some (.bool false) := (blk_cell BK117.out 2).trans rfl; have hcz34_3 : w32.cell? ⟨gb117, 3, none⟩ = some (.int .i64 0) := (blk_cell BK117.out 3).trans rfl; have hcz34_4 : w32.cell? ⟨gb117, 4, none⟩ = some (.string (⟨#[]⟩ : ByteArray)) := (blk_cell BK117.out 4).trans rfl; have hfz34_0 := blk_frozen BK117.out 0; have hfz34_1 := blk_frozen BK117.out 1; have hfz34_2 := blk_frozen BK117.out 2; have hfz34_3 := blk_frozen BK117.out 3; have hfz34_4 := blk_frozen BK117.out 4; have hcz35_0 : w32.cell? ⟨gb114, 0, none⟩ = some (.int .i64 ((rd_T26 l0 a1).f0)) := (blk_cell BK114.out 0).trans rfl; have hcz35_1 : w32.cell? ⟨gb114, 1, none⟩ = some (.int .i64 ((rd_T26 l0 a1).f1)) := (blk_cell BK114.out 1).trans rfl; have hcz35_2 : w32.cell? ⟨gb114, 2, none⟩ = some (.bool ((rd_T26 l0 a1).f2)) := (blk_cell BK114.out 2).trans rfl; have hcz35_3 : w32.cell? ⟨gb114, 3, none⟩ = some (.int .i64 ((rd_T26 l0 a1).f3)) := (blk_cell BK114.out 3).trans rfl; have hcz35_4 : w32.cell? ⟨gb114, 4, none⟩ = some (.string ((rd_T26 l0 a1).f4)) := (blk_cell BK114.out 4).trans rfl; have hfz35_0 := blk_frozen BK114.out 0; have hfz35_1 := blk_frozen BK114.out 1; have hfz35_2 := blk_frozen BK114.out 2; have hfz35_3 := blk_frozen BK114.out 3; have hfz35_4 := blk_frozen BK114.out 4))
            go_ret
            exact ⟨by first | rfl | (simp [isEmpty_ne_]; done) | (simp [errW_none, errW_some] <;> rfl) | (simp only [← hji18]; first | rfl | (simp [errW_none, errW_some] <;> rfl)) | (simp [*, errW_none, errW_some] <;> rfl), by repeat (first | (with_reducible first | exact HB.out | apply below_alloc | apply pw_below_drewN | apply below_drew1 | refine below_set ?_ GE114.out | refine below_set ?_ GE117.out) | exact HB.out)⟩
           ·rw [if_neg c31] at H
            have c31b0 : decide (((rd_T26 l0 a1).f0) ≤ ((rd_T26 l0 (ji18)).f0)) = false := decide_eq_false c31
            clear c31
            obtain rfl := Option.some.inj H
            have p116 : 0 ≤ ((ji18) : Int) := of_decide_eq_true (by first | (with_reducible assumption) | assumption)
            have q116 : (ji18) < (l0.length : Int) := of_decide_eq_true (by first | (with_reducible assumption) | assumption)
            obtain ⟨ad116, e116, hx116_0, hx116_1, hx116_2, hx116_3, hx116_4⟩ := at_T26 HR0.out (ji18) p116 q116
            obtain rfl : ad113 = ad116 := (by injection e116)
            replace hx116_0 := cellB_ HB.out hx116_0
            replace hx116_1 := cellB_ HB.out hx116_1
            replace hx116_2 := cellB_ HB.out hx116_2
            replace hx116_3 := cellB_ HB.out hx116_3
            replace hx116_4 := cellB_ HB.out hx116_4
            replace p116 := eq_true p116
            replace q116 := eq_true q116
            go_wp2_with (first | ((with_reducible refine gate_dst (N := 6) rfl ?_); refine box_event ?hg (N := 6) ?hd (cs := #[.int .i64 0, .int .i64 0, .bool false, .int .i64 0, .string (⟨#[]⟩ : ByteArray)]) (t := 26) ?hr ?_; (case hd => rfl); (case hg => rfl); (case hr => first | (go_simp; done) | (go_simp; rfl)); intro gb117 hg w36 hbox hb; have n0_ := Aside0.mk (blk_below (g := gb114) (o := .cells #[.int .i64 ((rd_T26 l0 a1).f0), .int .i64 ((rd_T26 l0 a1).f1), .bool ((rd_T26 l0 a1).f2), .int .i64 ((rd_T26 l0 a1).f3), .string ((rd_T26 l0 a1).f4)] 26 (0, 0)) (by (with_reducible repeat (first | refine blk_drewN ?_ _ | refine blk_drew ?_ | refine blk_alloc ?_ _)); exact BK114.out) hb); have n1_ := Aside0.mk (below_step (by repeat (first | (with_reducible first | exact HB.out | apply below_alloc | apply pw_below_drewN | apply below_drew1 | refine below_set ?_ GE114.out) | exact HB.out)) hb); have n2_ := Aside0.mk (hbox); have n3_ := Aside0.mk ((by rw [hg]; exact (below_size (by repeat (first | (with_reducible first | exact HB.out | apply below_alloc | apply pw_below_drewN | apply below_drew1 | refine below_set ?_ GE114.out) | exact HB.out))) : w.heap.size ≤ gb117)); have n4_ := Aside0.mk ((by rw [hg]; exact (below_size (by repeat (first | (with_reducible first | exact HB.out | apply below_alloc | apply pw_below_drewN | apply below_drew1 | refine below_set ?_ GE114.out) | exact HB.out))) : w.heap.size ≤ gb117)); have n5_ := Aside0.mk ((by rw [hg]; exact Nat.ne_of_lt (blk_lt (g := gb114) (o := .cells #[.int .i64 ((rd_T26 l0 a1).f0), .int .i64 ((rd_T26 l0 a1).f1), .bool ((rd_T26 l0 a1).f2), .int .i64 ((rd_T26 l0 a1).f3), .string ((rd_T26 l0 a1).f4)] 26 (0, 0)) (by (with_reducible repeat (first | refine blk_drewN ?_ _ | refine blk_drew ?_ | refine blk_alloc ?_ _)); exact BK114.out)) : gb114 ≠ gb117)); have n6_ := Aside0.mk ((by rw [hg]; exact Nat.ne_of_gt (blk_lt (g := gb114) (o := .cells #[.int .i64 ((rd_T26 l0 a1).f0), .int .i64 ((rd_T26 l0 a1).f1), .bool ((rd_T26 l0 a1).f2), .int .i64 ((rd_T26 l0 a1).f3), .string ((rd_T26 l0 a1).f4)] 26 (0, 0)) (by (with_reducible repeat (first | refine blk_drewN ?_ _ | refine blk_drew ?_ | refine blk_alloc ?_ _)); exact BK114.out)) : gb117 ≠ gb114)); clear BK114; clear HB; have BK114 := n0_; have HB := n1_; have BK117 := n2_; have GW117 := n3_; have GE117 := n4_; have NB114_117 := n5_; have NB117_114 := n6_; clear n0_ n1_ n2_ n3_ n4_ n5_ n6_; clear hb hbox hg; have hnb37 := NB117_114.out; have hnc37 := NB114_117.out; have hcz38_0 : w36.cell? ⟨gb117, 0, none⟩ = some (.int .i64 0) := (blk_cell BK117.out 0).trans rfl; have hcz38_1 : w36.cell? ⟨gb117, 1, none⟩ = some (.int .i64 0) := (blk_cell BK117.out 1).trans rfl; have hcz38_2 : w36.cell? ⟨gb117, 2, none⟩ = some (.bool false) := (blk_cell BK117.out 2).trans rfl; have hcz38_3 : w36.cell? ⟨gb117, 3, none⟩ = some (.int .i64 0) := (blk_cell BK117.out 3).trans rfl; have hcz38_4 : w36.cell? ⟨gb117, 4, none⟩ = some (.string (⟨#[]⟩ : ByteArray)) := (blk_cell BK117.out 4).trans rfl; have hfz38_0 := blk_frozen BK117.out 0; have hfz38_1 := blk_frozen BK117.out 1; have hfz38_2 := blk_frozen BK117.out 2; have hfz38_3 := blk_frozen BK117.out 3; have hfz38_4 := blk_frozen BK117.out 4; have hcz39_0 : w36.cell? ⟨gb114, 0, none⟩ = some (.int .i64 ((rd_T26 l0 a1).f0)) := (blk_cell BK114.out 0).trans rfl; have hcz39_1 : w36.cell? ⟨gb114, 1, none⟩ = some (.int .i64 ((rd_T26 l0 a1).f1)) := (blk_cell BK114.out 1).trans rfl; have hcz39_2 : w36.cell? ⟨gb114, 2, none⟩ = some (.bool ((rd_T26 l0 a1).f2)) := (blk_cell BK114.out 2).trans rfl; have hcz39_3 : w36.cell? ⟨gb114, 3, none⟩ = some (.int .i64 ((rd_T26 l0 a1).f3)) := (blk_cell BK114.out 3).trans rfl; have hcz39_4 : w36.cell? ⟨gb114, 4, none⟩ = some (.string ((rd_T26 l0 a1).f4)) := (blk_cell BK114.out 4).trans rfl; have hfz39_0 := blk_frozen BK114.out 0; have hfz39_1 := blk_frozen BK114.out 1; have hfz39_2 := blk_frozen BK114.out 2; have hfz39_3 := blk_frozen BK114.out 3; have hfz39_4 := blk_frozen BK114.out 4))
            go_ret
            exact ⟨by first | rfl | (simp [isEmpty_ne_]; done) | (simp [errW_none, errW_some] <;> rfl) | (simp only [← hji18]; first | rfl | (simp [errW_none, errW_some] <;> rfl)) | (simp [*, errW_none, errW_some] <;> rfl), by repeat (first | (with_reducible first | exact HB.out | apply below_alloc | apply pw_below_drewN | apply below_drew1 | refine below_set ?_ GE114.out | refine below_set ?_ GE117.out) | exact HB.out)⟩
        ·rw [if_neg c20] at H
         exact absurd H (by simp)
       ·rw [if_neg c19] at H
        exact absurd H (by simp)
  ·rw [if_neg c4] at H
   exact absurd H (by simp)
 ·rw [if_neg c3] at H
  exact absurd H (by simp)

end Go.Proofs.Ytakcnckiakjpiaa.GJ
