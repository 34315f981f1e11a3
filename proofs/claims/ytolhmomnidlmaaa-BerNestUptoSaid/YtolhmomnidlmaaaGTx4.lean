-- Written for this claim by a program of this session (wip/tools/p2.py).
import Derived.Test.YtolhmomnidlmaaaGTx0
import Derived.Test.YtolhmomnidlmaaaGTx2
import Derived.Test.YtolhmomnidlmaaaGTx3
namespace Go.Proofs.Ytolhmomnidlmaaa.GT
open Go.RowKit Go.Proofs.YtolhmomnidlmaaaW.PrintWords Go.Proofs.YtolhmomnidlmaaaW.PrintLast Go.Proofs.YtolhmomnidlmaaaW.PrintMore
attribute [local go_sem] max2_int min2_int max_two min_two max_three min_three max_four min_four   -- for this text's walks alone
set_option linter.unusedVariables false
set_option linter.unusedSimpArgs false

attribute [local go_sem high] eqA49
/-! ### rosterlaw02_BerNest: function 16 -/
mutual
def rosterlaw02_BerNest.j0 : Nat → ByteArray → Int → Int → Bool → Option (Bool)
  | 0, _, _, _, _ => none
  | k + 1, x0, x1, x2, x25 => if x25 = true then (some true) else ((ber_Join.f (Go.bits .and .i64 x1 3) false 4 x0).bind fun bt127 => (if bt127.2 = 0 then (rosterlaw02_BerNest.l0 k x0 x1 x2 bt127.1 (([(bt127.1.size : Int)] : List Int)) 0) else (some false)))
def rosterlaw02_BerNest.l0 : Nat → ByteArray → Int → Int → ByteArray → List Int → Int → Option (Bool)
  | 0, _, _, _, _, _, _ => none
  | k + 1, x0, x1, x2, x7, x9, x10 => if x10 < x2 then ((ber_Join.f 0 true 16 x7).bind fun bt132 => (if bt132.2 = 0 then (if x9.length < 17592186044416 then (rosterlaw02_BerNest.l0 k x0 x1 x2 bt132.1 (x9 ++ [(bt132.1.size : Int)]) (wrap64 (x10 + 1))) else (none)) else (some false))) else ((ber_Tree.f x7).bind fun bt137 => (if (wrap64 (x2 + 1)) > 64 then (if bt137.2.1 = 25 then (if (bt137.1.length : Int) = 0 then (if 0 ≤ (wrap64 (x2 - 64)) then (if (wrap64 (x2 - 64)) < (x9.length : Int) then (some (bt137.2.2 == (wrap64 ((x7.size : Int) - (rd x9 (wrap64 (x2 - 64))))))) else (none)) else (none)) else (some false)) else (some false)) else (if bt137.2.1 = 0 then (rosterlaw02_BerNest.j2 k x0 x1 x2 bt137.1 ((bt137.1.length : Int) != (wrap64 (x2 + 1)))) else (rosterlaw02_BerNest.j2 k x0 x1 x2 bt137.1 true))))
def rosterlaw02_BerNest.j2 : Nat → ByteArray → Int → Int → List (S49) → Bool → Option (Bool)
  | 0, _, _, _, _, _ => none
  | k + 1, x0, x1, x2, x11, x93 => if x93 = true then (some false) else (rosterlaw02_BerNest.l1 k x0 x1 x2 x11 0)
def rosterlaw02_BerNest.l1 : Nat → ByteArray → Int → Int → List (S49) → Int → Option (Bool)
  | 0, _, _, _, _, _ => none
  | k + 1, x0, x1, x2, x11, x14 => if x14 < x2 then (if 0 ≤ x14 then (if x14 < (x11.length : Int) then (if (!(((rd_T49 x11 x14).f0) == (wrap64 (x14 + 1))) || (!(((rd_T49 x11 x14).f1) == 0) || (!((rd_T49 x11 x14).f2) || (!(((rd_T49 x11 x14).f3) == 16) || (!((((rd_T49 x11 x14).f4).toList) == ([] : List UInt8))))))) = true then (some false) else (rosterlaw02_BerNest.l1 k x0 x1 x2 x11 (wrap64 (x14 + 1)))) else (none)) else (none)) else (if 0 ≤ x2 then (if x2 < (x11.length : Int) then (some (((rd_T49 x11 x2).f0) == (wrap64 (x2 + 1)) && (((rd_T49 x11 x2).f1) == (Go.bits .and .i64 x1 3) && (!((rd_T49 x11 x2).f2) && (((rd_T49 x11 x2).f3) == 4 && ((((rd_T49 x11 x2).f4).toList) == x0.toList)))))) else (none)) else (none))
end
def rosterlaw02_BerNest.f (k : Nat) (a0 : ByteArray) (a1 : Int) (a2 : Int) : Option (Bool) := if a2 < 0 then (rosterlaw02_BerNest.j0 k a0 a1 a2 true) else (if a2 > 200 then (rosterlaw02_BerNest.j0 k a0 a1 a2 true) else (rosterlaw02_BerNest.j0 k a0 a1 a2 (decide ((a0.size : Int) > 1048576))))
theorem rosterlaw02_BerNest.mono_l : ∀ k, (∀ y0 y1 y2 y3, LeO (rosterlaw02_BerNest.j0 k y0 y1 y2 y3) (rosterlaw02_BerNest.j0 (k + 1) y0 y1 y2 y3)) ∧ (∀ y0 y1 y2 y3 y4 y5, LeO (rosterlaw02_BerNest.l0 k y0 y1 y2 y3 y4 y5) (rosterlaw02_BerNest.l0 (k + 1) y0 y1 y2 y3 y4 y5)) ∧ (∀ y0 y1 y2 y3 y4, LeO (rosterlaw02_BerNest.j2 k y0 y1 y2 y3 y4) (rosterlaw02_BerNest.j2 (k + 1) y0 y1 y2 y3 y4)) ∧ (∀ y0 y1 y2 y3 y4, LeO (rosterlaw02_BerNest.l1 k y0 y1 y2 y3 y4) (rosterlaw02_BerNest.l1 (k + 1) y0 y1 y2 y3 y4))
  | 0 => ⟨fun _ _ _ _ r h => by simp [rosterlaw02_BerNest.j0] at h, fun _ _ _ _ _ _ r h => by simp [rosterlaw02_BerNest.l0] at h, fun _ _ _ _ _ r h => by simp [rosterlaw02_BerNest.j2] at h, fun _ _ _ _ _ r h => by simp [rosterlaw02_BerNest.l1] at h⟩
  | k + 1 => by
    obtain ⟨ih0, ih1, ih2, ih3⟩ := rosterlaw02_BerNest.mono_l k
    refine ⟨?_, ?_, ?_, ?_⟩
    · intro y0 y1 y2 y3
      unfold rosterlaw02_BerNest.j0
      repeat' first
      | (with_reducible exact ih0 _ _ _ _)
      | (with_reducible exact ih1 _ _ _ _ _ _)
      | (with_reducible exact ih2 _ _ _ _ _)
      | (with_reducible exact ih3 _ _ _ _ _)
      | (with_reducible exact LeO.refl _)
      | (with_reducible exact LeO.none _)
      | (with_reducible refine LeO.ite ?_ ?_)
      | (with_reducible refine LeO.bind ?_ (fun _ => ?_))
      | exact ih0 _ _ _ _
      | exact ih1 _ _ _ _ _ _
      | exact ih2 _ _ _ _ _
      | exact ih3 _ _ _ _ _
      | exact LeO.none _
      | refine LeO.ite ?_ ?_
      | refine LeO.bind ?_ (fun _ => ?_)
    · intro y0 y1 y2 y3 y4 y5
      unfold rosterlaw02_BerNest.l0
      repeat' first
      | (with_reducible exact ih0 _ _ _ _)
      | (with_reducible exact ih1 _ _ _ _ _ _)
      | (with_reducible exact ih2 _ _ _ _ _)
      | (with_reducible exact ih3 _ _ _ _ _)
      | (with_reducible exact LeO.refl _)
      | (with_reducible exact LeO.none _)
      | (with_reducible refine LeO.ite ?_ ?_)
      | (with_reducible refine LeO.bind ?_ (fun _ => ?_))
      | exact ih0 _ _ _ _
      | exact ih1 _ _ _ _ _ _
      | exact ih2 _ _ _ _ _
      | exact ih3 _ _ _ _ _
      | exact LeO.none _
      | refine LeO.ite ?_ ?_
      | refine LeO.bind ?_ (fun _ => ?_)
    · intro y0 y1 y2 y3 y4
      unfold rosterlaw02_BerNest.j2
      repeat' first
      | (with_reducible exact ih0 _ _ _ _)
      | (with_reducible exact ih1 _ _ _ _ _ _)
      | (with_reducible exact ih2 _ _ _ _ _)
      | (with_reducible exact ih3 _ _ _ _ _)
      | (with_reducible exact LeO.refl _)
      | (with_reducible exact LeO.none _)
      | (with_reducible refine LeO.ite ?_ ?_)
      | (with_reducible refine LeO.bind ?_ (fun _ => ?_))
      | exact ih0 _ _ _ _
      | exact ih1 _ _ _ _ _ _
      | exact ih2 _ _ _ _ _
      | exact ih3 _ _ _ _ _
      | exact LeO.none _
      | refine LeO.ite ?_ ?_
      | refine LeO.bind ?_ (fun _ => ?_)
    · intro y0 y1 y2 y3 y4
      unfold rosterlaw02_BerNest.l1
      repeat' first
      | (with_reducible exact ih0 _ _ _ _)
      | (with_reducible exact ih1 _ _ _ _ _ _)
      | (with_reducible exact ih2 _ _ _ _ _)
      | (with_reducible exact ih3 _ _ _ _ _)
      | (with_reducible exact LeO.refl _)
      | (with_reducible exact LeO.none _)
      | (with_reducible refine LeO.ite ?_ ?_)
      | (with_reducible refine LeO.bind ?_ (fun _ => ?_))
      | exact ih0 _ _ _ _
      | exact ih1 _ _ _ _ _ _
      | exact ih2 _ _ _ _ _
      | exact ih3 _ _ _ _ _
      | exact LeO.none _
      | refine LeO.ite ?_ ?_
      | refine LeO.bind ?_ (fun _ => ?_)
theorem rosterlaw02_BerNest.mono : ∀ a0 a1 a2 k, LeO (rosterlaw02_BerNest.f k a0 a1 a2) (rosterlaw02_BerNest.f (k + 1) a0 a1 a2) := by
  intro a0 a1 a2 k
  obtain ⟨ih0, ih1, ih2, ih3⟩ := rosterlaw02_BerNest.mono_l k
  unfold rosterlaw02_BerNest.f
  repeat' first
      | (with_reducible exact ih0 _ _ _ _)
      | (with_reducible exact ih1 _ _ _ _ _ _)
      | (with_reducible exact ih2 _ _ _ _ _)
      | (with_reducible exact ih3 _ _ _ _ _)
      | (with_reducible exact LeO.refl _)
      | (with_reducible exact LeO.none _)
      | (with_reducible refine LeO.ite ?_ ?_)
      | (with_reducible refine LeO.bind ?_ (fun _ => ?_))
      | exact ih0 _ _ _ _
      | exact ih1 _ _ _ _ _ _
      | exact ih2 _ _ _ _ _
      | exact ih3 _ _ _ _ _
      | exact LeO.none _
      | refine LeO.ite ?_ ?_
      | refine LeO.bind ?_ (fun _ => ?_)
set_option maxHeartbeats 8000000 in
set_option maxRecDepth 100000 in
theorem rosterlaw02_BerNest.calls (k : Nat) (a0 : ByteArray) (a1 : Int) (a2 : Int) (r : Bool) (w : World) (h : rosterlaw02_BerNest.f k a0 a1 a2 = some r) :
    Calls Try.prog 16 #[.string a0, .int .i64 a1, .int .i64 a2] w fun e w' => e = .returned (.bool r) ∧ Below w.heap.size w w' := by
  have hu35 := Try.underlying35
  have hu49 := Try.underlying49
  have HB := Aside0.mk (Below.refl w.heap.size w)
  have H : (if a2 < 0 then (rosterlaw02_BerNest.j0 k a0 a1 a2 true) else (if a2 > 200 then (rosterlaw02_BerNest.j0 k a0 a1 a2 true) else (rosterlaw02_BerNest.j0 k a0 a1 a2 (decide ((a0.size : Int) > 1048576))))) = some r := h
  clear h
  have HC4 := Aside0.mk H
  clear H
  go_enter Try.func16, Try.ntmps16
  go_upto_region 1 with (fail)
  go_cut [25] (fun v25 wc => ∃ (kq : Nat) (x25_3 : Bool), v25 = .bool x25_3 ∧ Aside0 (rosterlaw02_BerNest.j0 kq a0 a1 a2 x25_3 = some r) ∧ Aside0 (kq ≤ k) ∧ Aside0 (Below w.heap.size w wc))
  case first =>
    have H := HC4.out
    clear HC4
    by_cases c5 : a2 < 0
    · rw [if_pos c5] at H
      have c5b0 : decide (a2 < 0) = true := decide_eq_true c5
      clear c5
      (first | rw [c5b0] | (simp only [i64_w, i32_w]; rw [c5b0]) | skip)
      have H' := Aside0.mk H
      clear H
      go_wp2
      go_meet
      case rel => exact ⟨_, (true), (by first | rfl | (simp; done) | (simp [*]; done) | (simp [show ∀ l_ : List UInt8, l_.isEmpty = !(l_ != []) from fun l_ => by cases l_ <;> rfl]; done)), H', ⟨by first | omega | exact Nat.le_refl _⟩, ⟨by repeat (first | (with_reducible first | exact HB.out | apply below_alloc | apply pw_below_drewN | apply below_drew1) | exact HB.out)⟩⟩
    · rw [if_neg c5] at H
      have c5b0 : decide (a2 < 0) = false := decide_eq_false c5
      clear c5
      (first | rw [c5b0] | (simp only [i64_w, i32_w]; rw [c5b0]) | skip)
      by_cases c6 : a2 > 200
      · rw [if_pos c6] at H
        have c6b0 : decide (200 < a2) = true := decide_eq_true c6
        clear c6
        have H' := Aside0.mk H
        clear H
        go_wp2
        go_meet
        case rel => exact ⟨_, (true), (by first | rfl | (simp; done) | (simp [*]; done) | (simp [show ∀ l_ : List UInt8, l_.isEmpty = !(l_ != []) from fun l_ => by cases l_ <;> rfl]; done)), H', ⟨by first | omega | exact Nat.le_refl _⟩, ⟨by repeat (first | (with_reducible first | exact HB.out | apply below_alloc | apply pw_below_drewN | apply below_drew1) | exact HB.out)⟩⟩
      · rw [if_neg c6] at H
        have c6b0 : decide (200 < a2) = false := decide_eq_false c6
        clear c6
        have H' := Aside0.mk H
        clear H
        go_wp2
        go_meet
        case rel => exact ⟨_, (decide ((a0.size : Int) > 1048576)), (by first | rfl | (simp; done) | (simp [*]; done) | (simp [show ∀ l_ : List UInt8, l_.isEmpty = !(l_ != []) from fun l_ => by cases l_ <;> rfl]; done)), H', ⟨by first | omega | exact Nat.le_refl _⟩, ⟨by repeat (first | (with_reducible first | exact HB.out | apply below_alloc | apply pw_below_drewN | apply below_drew1) | exact HB.out)⟩⟩
  case rest =>
    clear HC4
    try clear c1
    try clear p2
    try clear c5
    try clear c5b0
    try clear c6
    try clear c6b0
    obtain ⟨kq, x25_3, rfl, HA, HJ3, HB⟩ := hcut
    cases kq with
    | zero => exact absurd HA.out (by simp [rosterlaw02_BerNest.j0])
    | succ kj3 =>
      have H := HA.out
      clear HA
      simp only [rosterlaw02_BerNest.j0] at H
      by_cases c7 : x25_3 = true
      · subst c7
        have H1 : (some true) = some r := by rw [if_pos rfl] at H; exact H
        clear H
        have H := H1
        clear H1
        obtain rfl := Option.some.inj H
        go_wp2
        go_ret
        exact ⟨by first | rfl | (simp [errW_none, errW_some] <;> rfl) | (simp [*, errW_none, errW_some] <;> rfl), by repeat (first | (with_reducible first | exact HB.out | apply below_alloc | apply pw_below_drewN | apply below_drew1) | exact HB.out)⟩
      · replace c7 := Bool.eq_false_iff.mpr c7
        subst c7
        have H1 : ((ber_Join.f (Go.bits .and .i64 a1 3) false 4 a0).bind fun bt127 => (if bt127.2 = 0 then (rosterlaw02_BerNest.l0 kj3 a0 a1 a2 bt127.1 (([(bt127.1.size : Int)] : List Int)) 0) else (some false))) = some r := by rw [if_neg (show ¬ (false = true) by decide)] at H; exact H
        clear H
        have H := H1
        clear H1
        replace H := Option.bind_eq_some_iff.mp H
        obtain ⟨⟨t127, t128⟩, A80, H⟩ := H
        replace H : (if t128 = 0 then (rosterlaw02_BerNest.l0 kj3 a0 a1 a2 t127 (([(t127.size : Int)] : List Int)) 0) else (some false)) = some r := H
        have A8 := Aside0.mk A80
        clear A80
        by_cases c9 : t128 = 0
        · rw [if_pos c9] at H
          have c9b0 : (t128 == 0) = true := beq_iff_eq.mpr c9
          have c9b1 : (t128 != 0) = false := bne_eq_false_iff_eq.mpr c9
          clear c9
          obtain ⟨y129, hy129⟩ : ∃ y_ : List Int, y_ = (([(t127.size : Int)] : List Int)) := ⟨_, rfl⟩
          replace H : (rosterlaw02_BerNest.l0 kj3 a0 a1 a2 t127 y129 0) = some r := by first | (rw [hy129]; with_reducible exact H) | (have H2_ := (Option.bind_some _ _).symm.trans H; rw [hy129]; with_reducible exact H2_) | (have H2_ := (Option.bind_some _ _).symm.trans H; with_reducible exact H2_) | with_reducible exact H | (rw [hy129]; exact H) | exact H
          have Ny129 := Aside0.mk hy129
          clear hy129
          have H' := Aside0.mk H
          clear H
          go_wp2_with (first | ((with_reducible refine gate_callee (f := 28) rfl ?_); refine goesL_ (some 31) rfl rfl Try.func28 (by kernel_rfl) rfl #[.agg #[.int .i64 (Go.bits .and .i64 a1 3), .bool false, .int .i64 4, .string a0]] rfl (by (try simp only [List.map_toArray, List.map_cons, List.map_nil]); first | done | rfl | (simp only [List.length_drop, List.length_take]; rfl)) ?_; (with_reducible refine (ber_Join.calls (Go.bits .and .i64 a1 3) false 4 a0 t127 t128 _ A8.out).mono ?_); rintro e w10 ⟨rfl, hb⟩; refine ⟨_, rfl, ?_⟩; have n0_ := Aside0.mk (below_step (by repeat (first | (with_reducible first | exact HB.out | apply below_alloc | apply pw_below_drewN | apply below_drew1) | exact HB.out)) hb); clear HB; have HB := n0_; clear n0_; (try clear hb); (try clear hb2); (try clear hk); (try clear hi)) | ((with_reducible refine gate_dst (N := 38) rfl ?_); (try (refine gate_guard (by rfl) ?_; dsimp only)); refine Kd.R_lit (Kd.int .i64) _ 3 ?hg (N := 38) ?hd (xs := ([(t127.size : Int)] : List Int)) (inner := [.int .i64 (t127.size : Int)]) (ok := fun _ => True) (okp := fun _ => True) ?hr ?hp (fun _ hk => hk) trivial (Below.refl _ _) (Nat.le_refl _) (by simp) ?_; (case hd => rfl); (case hg => rfl); (case hr => first | (go_simp; done) | (go_simp; rfl)); (case hp => exact (Reps.one (show Kd.M (Kd.int .i64) _ _ _ (t127.size : Int) [.int .i64 (t127.size : Int)] from rfl) (Reps.none _ _))); intro v130 w11 ho12 hb hg_ hnew_; clear hg_ hnew_; (first | rw [← Ny129.out] at ho12 | (simp only [Int.reduceToNat] at ho12; rw [← Ny129.out] at ho12)); have n0_ := Aside0.mk (Kd.R_lower ho12 (below_size (by repeat (first | (with_reducible first | exact HB.out | apply below_alloc | apply pw_below_drewN | apply below_drew1) | exact HB.out)))); have n1_ := Aside0.mk (below_step (by repeat (first | (with_reducible first | exact HB.out | apply below_alloc | apply pw_below_drewN | apply below_drew1) | exact HB.out)) hb); clear HB; have HO131 := n0_; have HB := n1_; clear n0_ n1_; clear hb ho12))
          go_loopg [7, 9, 10] kj3 (fun kq v7 v9 v10 w' => ∃ (x7_2 : ByteArray) (x9_2 : List Int) (x10_2 : Int), v7 = .string x7_2 ∧ v10 = .int .i64 x10_2 ∧ Aside0 (rosterlaw02_BerNest.l0 kq a0 a1 a2 x7_2 x9_2 x10_2 = some r) ∧ Aside0 (kq ≤ kj3) ∧ Aside0 (Kd.R (Kd.int .i64) 3 w' w.heap.size (fun _ => True) v9 x9_2) ∧ Aside0 (Below w.heap.size w w'))
          case atStart => exact ⟨(t127), (y129), (0), (by first | rfl | (simp; done) | (simp [*]; done) | (simp [show ∀ l_ : List UInt8, l_.isEmpty = !(l_ != []) from fun l_ => by cases l_ <;> rfl]; done)), (by first | rfl | (simp; done) | (simp [*]; done) | (simp [show ∀ l_ : List UInt8, l_.isEmpty = !(l_ != []) from fun l_ => by cases l_ <;> rfl]; done)), H', ⟨Nat.le_refl _⟩, ⟨by (with_reducible repeat (first | apply Kd.R_alloc | apply Kd.R_drewN | apply Kd.R_drew)); exact HO131.out⟩, ⟨by repeat (first | (with_reducible first | exact HB.out | apply below_alloc | apply pw_below_drewN | apply below_drew1) | exact HB.out)⟩⟩
          case round =>
            clear H'
            try clear c1
            try clear c2
            try clear p2
            try clear c5
            try clear c5b0
            try clear c6
            try clear c6b0
            try clear c7
            try clear c9
            try clear c9b0
            try clear c9b1
            try clear p2
            obtain ⟨x7_2, x9_2, x10_2, rfl, rfl, HA, HK2, HO_9, HB⟩ := hrel
            cases gk with
            | zero => exact absurd HA.out (by simp [rosterlaw02_BerNest.l0])
            | succ k2 =>
              have H := HA.out
              clear HA
              simp only [rosterlaw02_BerNest.l0] at H
              by_cases c13 : x10_2 < a2
              · rw [if_pos c13] at H
                have c13b0 : decide (x10_2 < a2) = true := decide_eq_true c13
                clear c13
                replace H := Option.bind_eq_some_iff.mp H
                obtain ⟨⟨t132, t133⟩, A140, H⟩ := H
                replace H : (if t133 = 0 then (if x9_2.length < 17592186044416 then (rosterlaw02_BerNest.l0 k2 a0 a1 a2 t132 (x9_2 ++ [(t132.size : Int)]) (wrap64 (x10_2 + 1))) else (none)) else (some false)) = some r := H
                have A14 := Aside0.mk A140
                clear A140
                by_cases c15 : t133 = 0
                · rw [if_pos c15] at H
                  have c15b0 : (t133 == 0) = true := beq_iff_eq.mpr c15
                  have c15b1 : (t133 != 0) = false := bne_eq_false_iff_eq.mpr c15
                  clear c15
                  by_cases c16 : x9_2.length < 17592186044416
                  · rw [if_pos c16] at H
                    have LMc16 := Aside0.mk c16
                    clear c16
                    obtain ⟨y134, hy134⟩ : ∃ y_ : List Int, y_ = (x9_2 ++ [(t132.size : Int)]) := ⟨_, rfl⟩
                    replace H : (rosterlaw02_BerNest.l0 k2 a0 a1 a2 t132 y134 (wrap64 (x10_2 + 1))) = some r := by first | (rw [hy134]; with_reducible exact H) | (have H2_ := (Option.bind_some _ _).symm.trans H; rw [hy134]; with_reducible exact H2_) | (have H2_ := (Option.bind_some _ _).symm.trans H; with_reducible exact H2_) | with_reducible exact H | (rw [hy134]; exact H) | exact H
                    have Ny134 := Aside0.mk hy134
                    clear hy134
                    have H' := Aside0.mk H
                    clear H
                    go_wp2_with (first | ((with_reducible refine gate_callee (f := 28) rfl ?_); refine goesL_ (some 47) rfl rfl Try.func28 (by kernel_rfl) rfl #[.agg #[.int .i64 0, .bool true, .int .i64 16, .string x7_2]] rfl (by (try simp only [List.map_toArray, List.map_cons, List.map_nil]); first | done | rfl | (simp only [List.length_drop, List.length_take]; rfl)) ?_; (with_reducible refine (ber_Join.calls 0 true 16 x7_2 t132 t133 _ A14.out).mono ?_); rintro e w17 ⟨rfl, hb⟩; refine ⟨_, rfl, ?_⟩; have n0_ := Aside0.mk (Kd.R_below (by (with_reducible repeat (first | apply Kd.R_alloc | apply Kd.R_drewN | apply Kd.R_drew)); exact HO_9.out) hb); have n1_ := Aside0.mk (below_step (by repeat (first | (with_reducible first | exact HB.out | apply below_alloc | apply pw_below_drewN | apply below_drew1) | exact HB.out)) hb); clear HO_9; clear HB; have HO_9 := n0_; have HB := n1_; clear n0_ n1_; (try clear hb); (try clear hb2); (try clear hk); (try clear hi)) | ((with_reducible refine gate_builtin (b := .append) (xs := #[.tmp 52, .tmp 55]) rfl ?_); (try (refine gate_guard (by rfl) ?_; dsimp only)); at_builtin; refine Kd.R_append (Kd.int .i64) (w0 := w) w.heap.size rfl (.tmp 52) (.tmp 55) 44 3 (.int .i64 0) 8 rfl Try.underlying44 info3 rfl (by decide) (by omega) u9 x9_2 (t132.size : Int) [.int .i64 (t132.size : Int)] (fun _ => True) (fun _ => False) rfl rfl ?aP (fun _ hk => hk.elim) ?aF ?aO ?aB ?aS ?aL ?_; (case aP => exact rfl); (case aB => exact (by repeat (first | (with_reducible first | exact HB.out | apply below_alloc | apply pw_below_drewN | apply below_drew1) | exact HB.out))); (case aF => exact (fun _ _ => trivial)); (case aO => exact (by (with_reducible repeat (first | apply Kd.R_alloc | apply Kd.R_drewN | apply Kd.R_drew)); exact HO_9.out)); (case aS => exact (below_size (by repeat (first | (with_reducible first | exact HB.out | apply below_alloc | apply pw_below_drewN | apply below_drew1) | exact HB.out)))); (case aL => have := LMc16.out; omega); intro v135 w18 ho hb hg hat; rw [← Ny134.out] at ho; have n0_ := Aside0.mk (hb); have n1_ := Aside0.mk (ho); clear HB; clear HO_9; have HB := n0_; have HO136 := n1_; clear n0_ n1_; clear ho hb hg hat))
                    go_roundg k2
                    case measure => have := HJ3.out; have := HK2.out; omega
                    case rel => exact ⟨(t132), (y134), (wrap64 (x10_2 + 1)), (by first | rfl | (simp; done) | (simp [*]; done) | (simp [show ∀ l_ : List UInt8, l_.isEmpty = !(l_ != []) from fun l_ => by cases l_ <;> rfl]; done)), (by first | rfl | (simp; done) | (simp [*]; done) | (simp [show ∀ l_ : List UInt8, l_.isEmpty = !(l_ != []) from fun l_ => by cases l_ <;> rfl]; done)), H', ⟨by have := HJ3.out; have := HK2.out; omega⟩, ⟨by (with_reducible repeat (first | apply Kd.R_alloc | apply Kd.R_drewN | apply Kd.R_drew)); exact HO136.out⟩, ⟨by repeat (first | (with_reducible first | exact HB.out | apply below_alloc | apply pw_below_drewN | apply below_drew1) | exact HB.out)⟩⟩
                  · rw [if_neg c16] at H
                    exact absurd H (by simp)
                · rw [if_neg c15] at H
                  have c15b0 : (t133 == 0) = false := beq_eq_false_iff_ne.mpr c15
                  have c15b1 : (t133 != 0) = true := bne_iff_ne.mpr c15
                  obtain rfl := Option.some.inj H
                  go_wp2_with (first | ((with_reducible refine gate_callee (f := 28) rfl ?_); refine goesL_ (some 47) rfl rfl Try.func28 (by kernel_rfl) rfl #[.agg #[.int .i64 0, .bool true, .int .i64 16, .string x7_2]] rfl (by (try simp only [List.map_toArray, List.map_cons, List.map_nil]); first | done | rfl | (simp only [List.length_drop, List.length_take]; rfl)) ?_; (with_reducible refine (ber_Join.calls 0 true 16 x7_2 t132 t133 _ A14.out).mono ?_); rintro e w19 ⟨rfl, hb⟩; refine ⟨_, rfl, ?_⟩; have n0_ := Aside0.mk (Kd.R_below (by (with_reducible repeat (first | apply Kd.R_alloc | apply Kd.R_drewN | apply Kd.R_drew)); exact HO_9.out) hb); have n1_ := Aside0.mk (below_step (by repeat (first | (with_reducible first | exact HB.out | apply below_alloc | apply pw_below_drewN | apply below_drew1) | exact HB.out)) hb); clear HO_9; clear HB; have HO_9 := n0_; have HB := n1_; clear n0_ n1_; (try clear hb); (try clear hb2); (try clear hk); (try clear hi)))
                  go_ret
                  exact ⟨by first | rfl | (simp [errW_none, errW_some] <;> rfl) | (simp [*, errW_none, errW_some] <;> rfl), by repeat (first | (with_reducible first | exact HB.out | apply below_alloc | apply pw_below_drewN | apply below_drew1) | exact HB.out)⟩
              · rw [if_neg c13] at H
                have c13b0 : decide (x10_2 < a2) = false := decide_eq_false c13
                clear c13
                replace H := Option.bind_eq_some_iff.mp H
                obtain ⟨⟨t137, t138, t139⟩, A200, H⟩ := H
                replace H : (if (wrap64 (a2 + 1)) > 64 then (if t138 = 25 then (if (t137.length : Int) = 0 then (if 0 ≤ (wrap64 (a2 - 64)) then (if (wrap64 (a2 - 64)) < (x9_2.length : Int) then (some (t139 == (wrap64 ((x7_2.size : Int) - (rd x9_2 (wrap64 (a2 - 64))))))) else (none)) else (none)) else (some false)) else (some false)) else (if t138 = 0 then (rosterlaw02_BerNest.j2 k2 a0 a1 a2 t137 ((t137.length : Int) != (wrap64 (a2 + 1)))) else (rosterlaw02_BerNest.j2 k2 a0 a1 a2 t137 true))) = some r := H
                have A20 := Aside0.mk A200
                clear A200
                by_cases c21 : (wrap64 (a2 + 1)) > 64
                · rw [if_pos c21] at H
                  have c21b0 : decide (64 < (wrap64 (a2 + 1))) = true := decide_eq_true c21
                  clear c21
                  by_cases c22 : t138 = 25
                  · rw [if_pos c22] at H
                    have c22b0 : (t138 == 25) = true := beq_iff_eq.mpr c22
                    have c22b1 : (t138 != 25) = false := bne_eq_false_iff_eq.mpr c22
                    clear c22
                    by_cases c23 : (t137.length : Int) = 0
                    · rw [if_pos c23] at H
                      have c23b0 : ((t137.length : Int) == 0) = true := beq_iff_eq.mpr c23
                      have c23b1 : ((t137.length : Int) != 0) = false := bne_eq_false_iff_eq.mpr c23
                      clear c23
                      obtain ⟨ji24, hji24⟩ : ∃ j_ : Int, (wrap64 (a2 - 64)) = j_ := ⟨_, rfl⟩
                      replace H : (if 0 ≤ (ji24) then (if (ji24) < (x9_2.length : Int) then (some (t139 == (wrap64 ((x7_2.size : Int) - (rd x9_2 (ji24)))))) else (none)) else (none)) = some r := by first | (rw [hji24] at H; exact H) | (simp only [hji24] at H ⊢; exact H)
                      (try rw [hji24] at A20)
                      have hji24w : (IntKind.i64.wrap (a2 - 64)) = ji24 := (i64_w _).trans hji24
                      by_cases c25 : 0 ≤ (ji24)
                      · rw [if_pos c25] at H
                        have c25b0 : decide (0 ≤ (ji24)) = true := decide_eq_true c25
                        clear c25
                        by_cases c26 : (ji24) < (x9_2.length : Int)
                        · rw [if_pos c26] at H
                          have c26b0 : decide ((ji24) < (x9_2.length : Int)) = true := decide_eq_true c26
                          clear c26
                          obtain rfl := Option.some.inj H
                          go_wp2_with (first | ((with_reducible refine gate_callee (f := 43) rfl ?_); refine goesL_ (some 59) rfl rfl Try.func43 (by kernel_rfl) rfl #[.string x7_2] rfl (by (try simp only [List.map_toArray, List.map_cons, List.map_nil]); first | done | rfl | (simp only [List.length_drop, List.length_take]; rfl)) ?_; (with_reducible refine (ber_Tree.calls x7_2 t137 t138 t139 _ A20.out).mono ?_); rintro e w27 ⟨v140, rfl, ho0, hb⟩; refine ⟨_, rfl, ?_⟩; have n0_ := Aside0.mk (Kd.R_below (by (with_reducible repeat (first | apply Kd.R_alloc | apply Kd.R_drewN | apply Kd.R_drew)); exact HO_9.out) hb); have n1_ := Aside0.mk (Kd.R_lower ho0 (below_size (by repeat (first | (with_reducible first | exact HB.out | apply below_alloc | apply pw_below_drewN | apply below_drew1) | exact HB.out)))); have n2_ := Aside0.mk (below_step (by repeat (first | (with_reducible first | exact HB.out | apply below_alloc | apply pw_below_drewN | apply below_drew1) | exact HB.out)) hb); clear HO_9; clear HB; have HO_9 := n0_; have HO141 := n1_; have HB := n2_; clear n0_ n1_ n2_; (try clear hb); (try clear hb2); (try clear hk); (try clear hi); (try clear ho0); obtain ⟨Ao28, co28, eo28⟩ := Kd.R_slice HO141.out; subst eo28; obtain ⟨Ao29, co29, eo29⟩ := Kd.R_slice HO_9.out; subst eo29; have p142 : 0 ≤ ((ji24) : Int) := of_decide_eq_true (by first | (with_reducible assumption) | assumption); have q142 : (ji24) < (x9_2.length : Int) := of_decide_eq_true (by first | (with_reducible assumption) | assumption); obtain ⟨ad142, e142, hx142_0⟩ := Kd.at_int (Kd.R_reads' HO_9.out).2.2 (ji24) p142 q142; cases e142; replace p142 := eq_true p142; replace q142 := eq_true q142))
                          go_ret
                          exact ⟨by first | rfl | (simp [errW_none, errW_some] <;> rfl) | (simp only [← hji24]; first | rfl | (simp [errW_none, errW_some] <;> rfl)) | (simp [*, errW_none, errW_some] <;> rfl), by repeat (first | (with_reducible first | exact HB.out | apply below_alloc | apply pw_below_drewN | apply below_drew1) | exact HB.out)⟩
                        · rw [if_neg c26] at H
                          exact absurd H (by simp)
                      · rw [if_neg c25] at H
                        exact absurd H (by simp)
                    · rw [if_neg c23] at H
                      have c23b0 : ((t137.length : Int) == 0) = false := beq_eq_false_iff_ne.mpr c23
                      have c23b1 : ((t137.length : Int) != 0) = true := bne_iff_ne.mpr c23
                      have c23b2 : ¬ (t137 = []) := fun h_ => c23 (by rw [h_]; rfl)
                      obtain rfl := Option.some.inj H
                      go_wp2_with (first | ((with_reducible refine gate_callee (f := 43) rfl ?_); refine goesL_ (some 59) rfl rfl Try.func43 (by kernel_rfl) rfl #[.string x7_2] rfl (by (try simp only [List.map_toArray, List.map_cons, List.map_nil]); first | done | rfl | (simp only [List.length_drop, List.length_take]; rfl)) ?_; (with_reducible refine (ber_Tree.calls x7_2 t137 t138 t139 _ A20.out).mono ?_); rintro e w30 ⟨v140, rfl, ho0, hb⟩; refine ⟨_, rfl, ?_⟩; have n0_ := Aside0.mk (Kd.R_below (by (with_reducible repeat (first | apply Kd.R_alloc | apply Kd.R_drewN | apply Kd.R_drew)); exact HO_9.out) hb); have n1_ := Aside0.mk (Kd.R_lower ho0 (below_size (by repeat (first | (with_reducible first | exact HB.out | apply below_alloc | apply pw_below_drewN | apply below_drew1) | exact HB.out)))); have n2_ := Aside0.mk (below_step (by repeat (first | (with_reducible first | exact HB.out | apply below_alloc | apply pw_below_drewN | apply below_drew1) | exact HB.out)) hb); clear HO_9; clear HB; have HO_9 := n0_; have HO141 := n1_; have HB := n2_; clear n0_ n1_ n2_; (try clear hb); (try clear hb2); (try clear hk); (try clear hi); (try clear ho0); obtain ⟨Ao31, co31, eo31⟩ := Kd.R_slice HO141.out; subst eo31))
                      go_ret
                      exact ⟨by first | rfl | (simp [errW_none, errW_some] <;> rfl) | (simp [*, errW_none, errW_some] <;> rfl), by repeat (first | (with_reducible first | exact HB.out | apply below_alloc | apply pw_below_drewN | apply below_drew1) | exact HB.out)⟩
                  · rw [if_neg c22] at H
                    have c22b0 : (t138 == 25) = false := beq_eq_false_iff_ne.mpr c22
                    have c22b1 : (t138 != 25) = true := bne_iff_ne.mpr c22
                    obtain rfl := Option.some.inj H
                    go_wp2_with (first | ((with_reducible refine gate_callee (f := 43) rfl ?_); refine goesL_ (some 59) rfl rfl Try.func43 (by kernel_rfl) rfl #[.string x7_2] rfl (by (try simp only [List.map_toArray, List.map_cons, List.map_nil]); first | done | rfl | (simp only [List.length_drop, List.length_take]; rfl)) ?_; (with_reducible refine (ber_Tree.calls x7_2 t137 t138 t139 _ A20.out).mono ?_); rintro e w32 ⟨v140, rfl, ho0, hb⟩; refine ⟨_, rfl, ?_⟩; have n0_ := Aside0.mk (Kd.R_below (by (with_reducible repeat (first | apply Kd.R_alloc | apply Kd.R_drewN | apply Kd.R_drew)); exact HO_9.out) hb); have n1_ := Aside0.mk (Kd.R_lower ho0 (below_size (by repeat (first | (with_reducible first | exact HB.out | apply below_alloc | apply pw_below_drewN | apply below_drew1) | exact HB.out)))); have n2_ := Aside0.mk (below_step (by repeat (first | (with_reducible first | exact HB.out | apply below_alloc | apply pw_below_drewN | apply below_drew1) | exact HB.out)) hb); clear HO_9; clear HB; have HO_9 := n0_; have HO141 := n1_; have HB := n2_; clear n0_ n1_ n2_; (try clear hb); (try clear hb2); (try clear hk); (try clear hi); (try clear ho0)))
                    go_ret
                    exact ⟨by first | rfl | (simp [errW_none, errW_some] <;> rfl) | (simp [*, errW_none, errW_some] <;> rfl), by repeat (first | (with_reducible first | exact HB.out | apply below_alloc | apply pw_below_drewN | apply below_drew1) | exact HB.out)⟩
                · rw [if_neg c21] at H
                  have c21b0 : decide (64 < (wrap64 (a2 + 1))) = false := decide_eq_false c21
                  clear c21
                  have HC33 := Aside0.mk H
                  clear H
                  go_upto_region 17 with (first | ((with_reducible refine gate_callee (f := 43) rfl ?_); refine goesL_ (some 59) rfl rfl Try.func43 (by kernel_rfl) rfl #[.string x7_2] rfl (by (try simp only [List.map_toArray, List.map_cons, List.map_nil]); first | done | rfl | (simp only [List.length_drop, List.length_take]; rfl)) ?_; (with_reducible refine (ber_Tree.calls x7_2 t137 t138 t139 _ A20.out).mono ?_); rintro e w34 ⟨v140, rfl, ho0, hb⟩; refine ⟨_, rfl, ?_⟩; have n0_ := Aside0.mk (Kd.R_below (by (with_reducible repeat (first | apply Kd.R_alloc | apply Kd.R_drewN | apply Kd.R_drew)); exact HO_9.out) hb); have n1_ := Aside0.mk (Kd.R_lower ho0 (below_size (by repeat (first | (with_reducible first | exact HB.out | apply below_alloc | apply pw_below_drewN | apply below_drew1) | exact HB.out)))); have n2_ := Aside0.mk (below_step (by repeat (first | (with_reducible first | exact HB.out | apply below_alloc | apply pw_below_drewN | apply below_drew1) | exact HB.out)) hb); clear HO_9; clear HB; have HO_9 := n0_; have HO141 := n1_; have HB := n2_; clear n0_ n1_ n2_; (try clear hb); (try clear hb2); (try clear hk); (try clear hi); (try clear ho0)))
                  (try simp only [Act.put, List.setIfInBounds_toArray, List.set_cons_zero, List.set_cons_succ])
                  go_cut [93] (fun v93 wc => ∃ (kq : Nat) (x93_32 : Bool), v93 = .bool x93_32 ∧ Aside0 (rosterlaw02_BerNest.j2 kq a0 a1 a2 t137 x93_32 = some r) ∧ Aside0 (kq ≤ k2) ∧ Aside0 (Kd.R k49 49 wc w.heap.size (fun _ => True) v140 t137) ∧ Aside0 (Below w.heap.size w wc))
                  case first =>
                    have H := HC33.out
                    clear HC33
                    by_cases c35 : t138 = 0
                    · rw [if_pos c35] at H
                      have c35b0 : (t138 == 0) = true := beq_iff_eq.mpr c35
                      have c35b1 : (t138 != 0) = false := bne_eq_false_iff_eq.mpr c35
                      clear c35
                      (first | rw [c35b0] | (simp only [i64_w, i32_w]; rw [c35b0]) | skip)
                      have H' := Aside0.mk H
                      clear H
                      obtain ⟨Ao36, co36, eo36⟩ := Kd.R_slice HO141.out
                      subst eo36
                      go_wp2
                      go_meet
                      case rel => exact ⟨_, (((t137.length : Int) != (wrap64 (a2 + 1)))), (by first | rfl | (simp; done) | (simp [*]; done) | (simp [show ∀ l_ : List UInt8, l_.isEmpty = !(l_ != []) from fun l_ => by cases l_ <;> rfl]; done)), H', ⟨by have := HJ3.out; have := HK2.out; first | omega | exact Nat.le_refl _⟩, ⟨by (with_reducible repeat (first | apply Kd.R_alloc | apply Kd.R_drewN | apply Kd.R_drew)); exact HO141.out⟩, ⟨by repeat (first | (with_reducible first | exact HB.out | apply below_alloc | apply pw_below_drewN | apply below_drew1) | exact HB.out)⟩⟩
                    · rw [if_neg c35] at H
                      have c35b0 : (t138 == 0) = false := beq_eq_false_iff_ne.mpr c35
                      have c35b1 : (t138 != 0) = true := bne_iff_ne.mpr c35
                      (first | rw [c35b0] | (simp only [i64_w, i32_w]; rw [c35b0]) | skip)
                      have H' := Aside0.mk H
                      clear H
                      go_wp2
                      go_meet
                      case rel => exact ⟨_, (true), (by first | rfl | (simp; done) | (simp [*]; done) | (simp [show ∀ l_ : List UInt8, l_.isEmpty = !(l_ != []) from fun l_ => by cases l_ <;> rfl]; done)), H', ⟨by have := HJ3.out; have := HK2.out; first | omega | exact Nat.le_refl _⟩, ⟨by (with_reducible repeat (first | apply Kd.R_alloc | apply Kd.R_drewN | apply Kd.R_drew)); exact HO141.out⟩, ⟨by repeat (first | (with_reducible first | exact HB.out | apply below_alloc | apply pw_below_drewN | apply below_drew1) | exact HB.out)⟩⟩
                  case rest =>
                    clear HC33
                    try clear c1
                    try clear p1
                    try clear q1
                    try clear hx1
                    try clear c2
                    try clear p2
                    try clear c3
                    try clear c4
                    try clear c5
                    try clear c5b0
                    try clear c6
                    try clear c6b0
                    try clear p6
                    try clear c7
                    try clear c9
                    try clear c9b0
                    try clear c9b1
                    try clear c13
                    try clear c13b0
                    try clear p14
                    try clear q14
                    try clear hx14
                    try clear c15
                    try clear c15b0
                    try clear c15b1
                    try clear c16
                    try clear c21
                    try clear c21b0
                    try clear c22
                    try clear c22b0
                    try clear c22b1
                    try clear c23
                    try clear c23b0
                    try clear c23b1
                    try clear c23b2
                    try clear c25
                    try clear c25b0
                    try clear c26
                    try clear c26b0
                    try clear c28
                    try clear c35
                    try clear c35b0
                    try clear c35b1
                    try clear hx142_0
                    try clear p142
                    try clear p2
                    try clear q142
                    obtain ⟨kq, x93_32, rfl, HA, HJ32, HO_11, HB⟩ := hcut
                    cases kq with
                    | zero => exact absurd HA.out (by simp [rosterlaw02_BerNest.j2])
                    | succ kj32 =>
                      have H := HA.out
                      clear HA
                      simp only [rosterlaw02_BerNest.j2] at H
                      by_cases c37 : x93_32 = true
                      · subst c37
                        have H1 : (some false) = some r := by rw [if_pos rfl] at H; exact H
                        clear H
                        have H := H1
                        clear H1
                        obtain rfl := Option.some.inj H
                        go_wp2
                        go_ret
                        exact ⟨by first | rfl | (simp [errW_none, errW_some] <;> rfl) | (simp [*, errW_none, errW_some] <;> rfl), by repeat (first | (with_reducible first | exact HB.out | apply below_alloc | apply pw_below_drewN | apply below_drew1) | exact HB.out)⟩
                      · replace c37 := Bool.eq_false_iff.mpr c37
                        subst c37
                        have H1 : (rosterlaw02_BerNest.l1 kj32 a0 a1 a2 t137 0) = some r := by rw [if_neg (show ¬ (false = true) by decide)] at H; exact H
                        clear H
                        have H := H1
                        clear H1
                        have H' := Aside0.mk H
                        clear H
                        go_wp2
                        go_loopg [14] kj32 (fun kq v14 w' => ∃ (x14_4 : Int), v14 = .int .i64 x14_4 ∧ Aside0 (rosterlaw02_BerNest.l1 kq a0 a1 a2 t137 x14_4 = some r) ∧ Aside0 (kq ≤ kj32) ∧ Aside0 (Kd.R k49 49 w' w.heap.size (fun _ => True) v140 t137) ∧ Aside0 (Below w.heap.size w w'))
                        case atStart => exact ⟨(0), (by first | rfl | (simp; done) | (simp [*]; done) | (simp [show ∀ l_ : List UInt8, l_.isEmpty = !(l_ != []) from fun l_ => by cases l_ <;> rfl]; done)), H', ⟨Nat.le_refl _⟩, ⟨by (with_reducible repeat (first | apply Kd.R_alloc | apply Kd.R_drewN | apply Kd.R_drew)); exact HO_11.out⟩, ⟨by repeat (first | (with_reducible first | exact HB.out | apply below_alloc | apply pw_below_drewN | apply below_drew1) | exact HB.out)⟩⟩
                        case round =>
                          clear H'
                          try clear c1
                          try clear p1
                          try clear q1
                          try clear hx1
                          try clear c2
                          try clear p2
                          try clear c3
                          try clear c4
                          try clear c5
                          try clear c5b0
                          try clear c6
                          try clear c6b0
                          try clear p6
                          try clear c7
                          try clear c9
                          try clear c9b0
                          try clear c9b1
                          try clear c13
                          try clear c13b0
                          try clear p14
                          try clear q14
                          try clear hx14
                          try clear c15
                          try clear c15b0
                          try clear c15b1
                          try clear c16
                          try clear c21
                          try clear c21b0
                          try clear c22
                          try clear c22b0
                          try clear c22b1
                          try clear c23
                          try clear c23b0
                          try clear c23b1
                          try clear c23b2
                          try clear c25
                          try clear c25b0
                          try clear c26
                          try clear c26b0
                          try clear c28
                          try clear c35
                          try clear c35b0
                          try clear c35b1
                          try clear c37
                          try clear hx142_0
                          try clear p1
                          try clear p14
                          try clear p142
                          try clear p2
                          try clear p6
                          try clear q1
                          try clear q14
                          try clear q142
                          obtain ⟨x14_4, rfl, HA, HK4, HO_11, HB⟩ := hrel
                          cases gk with
                          | zero => exact absurd HA.out (by simp [rosterlaw02_BerNest.l1])
                          | succ k4 =>
                            have H := HA.out
                            clear HA
                            simp only [rosterlaw02_BerNest.l1] at H
                            by_cases c38 : x14_4 < a2
                            · rw [if_pos c38] at H
                              have c38b0 : decide (x14_4 < a2) = true := decide_eq_true c38
                              clear c38
                              by_cases c39 : 0 ≤ x14_4
                              · rw [if_pos c39] at H
                                have c39b0 : decide (0 ≤ x14_4) = true := decide_eq_true c39
                                clear c39
                                by_cases c40 : x14_4 < (t137.length : Int)
                                · rw [if_pos c40] at H
                                  have c40b0 : decide (x14_4 < (t137.length : Int)) = true := decide_eq_true c40
                                  clear c40
                                  by_cases c41 : (!(((rd_T49 t137 x14_4).f0) == (wrap64 (x14_4 + 1))) || (!(((rd_T49 t137 x14_4).f1) == 0) || (!((rd_T49 t137 x14_4).f2) || (!(((rd_T49 t137 x14_4).f3) == 16) || (!((((rd_T49 t137 x14_4).f4).toList) == ([] : List UInt8))))))) = true
                                  · rw [if_pos c41] at H
                                    have c41b0 : (!(((rd_T49 t137 x14_4).f0) == (wrap64 (x14_4 + 1))) || (!(((rd_T49 t137 x14_4).f1) == 0) || (!((rd_T49 t137 x14_4).f2) || (!(((rd_T49 t137 x14_4).f3) == 16) || (!((((rd_T49 t137 x14_4).f4).toList) == ([] : List UInt8))))))) = true := c41
                                    (try (have c41b1 : (!(((rd_T49 t137 x14_4).f0) == (wrap64 (x14_4 + 1))) || (!(((rd_T49 t137 x14_4).f1) == 0) || (!((rd_T49 t137 x14_4).f2) || (!(((rd_T49 t137 x14_4).f3) == 16) || (!((((rd_T49 t137 x14_4).f4).toList.isEmpty))))))) = true := by simpa [show ∀ l_ : List UInt8, (l_ == []) = l_.isEmpty from fun l_ => by cases l_ <;> rfl] using c41))
                                    clear c41
                                    obtain rfl := Option.some.inj H
                                    obtain ⟨Ao42, co42, eo42⟩ := Kd.R_slice HO_11.out
                                    subst eo42
                                    have p143 : 0 ≤ (x14_4 : Int) := of_decide_eq_true (by first | (with_reducible assumption) | assumption)
                                    have q143 : x14_4 < (t137.length : Int) := of_decide_eq_true (by first | (with_reducible assumption) | assumption)
                                    obtain ⟨ad143, e143, hx143_0, hx143_1, hx143_2, hx143_3, hx143_4⟩ := at_T49 (Kd.R_reads' HO_11.out).2.2 x14_4 p143 q143
                                    cases e143
                                    replace p143 := eq_true p143
                                    replace q143 := eq_true q143
                                    go_wp2
                                    go_ret
                                    exact ⟨by first | rfl | (simp [errW_none, errW_some] <;> rfl) | (simp [*, errW_none, errW_some] <;> rfl), by repeat (first | (with_reducible first | exact HB.out | apply below_alloc | apply pw_below_drewN | apply below_drew1) | exact HB.out)⟩
                                  · rw [if_neg c41] at H
                                    have c41b0 : (!(((rd_T49 t137 x14_4).f0) == (wrap64 (x14_4 + 1))) || (!(((rd_T49 t137 x14_4).f1) == 0) || (!((rd_T49 t137 x14_4).f2) || (!(((rd_T49 t137 x14_4).f3) == 16) || (!((((rd_T49 t137 x14_4).f4).toList) == ([] : List UInt8))))))) = false := by simpa using c41
                                    (try (have c41b1 : (!(((rd_T49 t137 x14_4).f0) == (wrap64 (x14_4 + 1))) || (!(((rd_T49 t137 x14_4).f1) == 0) || (!((rd_T49 t137 x14_4).f2) || (!(((rd_T49 t137 x14_4).f3) == 16) || (!((((rd_T49 t137 x14_4).f4).toList.isEmpty))))))) = false := by simpa [show ∀ l_ : List UInt8, (l_ == []) = l_.isEmpty from fun l_ => by cases l_ <;> rfl] using c41))
                                    clear c41
                                    have H' := Aside0.mk H
                                    clear H
                                    obtain ⟨Ao43, co43, eo43⟩ := Kd.R_slice HO_11.out
                                    subst eo43
                                    have p143 : 0 ≤ (x14_4 : Int) := of_decide_eq_true (by first | (with_reducible assumption) | assumption)
                                    have q143 : x14_4 < (t137.length : Int) := of_decide_eq_true (by first | (with_reducible assumption) | assumption)
                                    obtain ⟨ad143, e143, hx143_0, hx143_1, hx143_2, hx143_3, hx143_4⟩ := at_T49 (Kd.R_reads' HO_11.out).2.2 x14_4 p143 q143
                                    cases e143
                                    replace p143 := eq_true p143
                                    replace q143 := eq_true q143
                                    go_wp2
                                    go_roundg k4
                                    case measure => have := HJ3.out; have := HK2.out; have := HJ32.out; have := HK4.out; omega
                                    case rel => exact ⟨(wrap64 (x14_4 + 1)), (by first | rfl | (simp; done) | (simp [*]; done) | (simp [show ∀ l_ : List UInt8, l_.isEmpty = !(l_ != []) from fun l_ => by cases l_ <;> rfl]; done)), H', ⟨by have := HJ3.out; have := HK2.out; have := HJ32.out; have := HK4.out; omega⟩, ⟨by (with_reducible repeat (first | apply Kd.R_alloc | apply Kd.R_drewN | apply Kd.R_drew)); exact HO_11.out⟩, ⟨by repeat (first | (with_reducible first | exact HB.out | apply below_alloc | apply pw_below_drewN | apply below_drew1) | exact HB.out)⟩⟩
                                · rw [if_neg c40] at H
                                  exact absurd H (by simp)
                              · rw [if_neg c39] at H
                                exact absurd H (by simp)
                            · rw [if_neg c38] at H
                              have c38b0 : decide (x14_4 < a2) = false := decide_eq_false c38
                              clear c38
                              by_cases c44 : 0 ≤ a2
                              · rw [if_pos c44] at H
                                have c44b0 : decide (0 ≤ a2) = true := decide_eq_true c44
                                clear c44
                                by_cases c45 : a2 < (t137.length : Int)
                                · rw [if_pos c45] at H
                                  have c45b0 : decide (a2 < (t137.length : Int)) = true := decide_eq_true c45
                                  clear c45
                                  obtain rfl := Option.some.inj H
                                  obtain ⟨Ao46, co46, eo46⟩ := Kd.R_slice HO_11.out
                                  subst eo46
                                  have p144 : 0 ≤ (a2 : Int) := of_decide_eq_true (by first | (with_reducible assumption) | assumption)
                                  have q144 : a2 < (t137.length : Int) := of_decide_eq_true (by first | (with_reducible assumption) | assumption)
                                  obtain ⟨ad144, e144, hx144_0, hx144_1, hx144_2, hx144_3, hx144_4⟩ := at_T49 (Kd.R_reads' HO_11.out).2.2 a2 p144 q144
                                  cases e144
                                  replace p144 := eq_true p144
                                  replace q144 := eq_true q144
                                  go_wp2
                                  go_ret
                                  exact ⟨by first | rfl | (simp [errW_none, errW_some] <;> rfl) | (simp [*, errW_none, errW_some] <;> rfl), by repeat (first | (with_reducible first | exact HB.out | apply below_alloc | apply pw_below_drewN | apply below_drew1) | exact HB.out)⟩
                                · rw [if_neg c45] at H
                                  exact absurd H (by simp)
                              · rw [if_neg c44] at H
                                exact absurd H (by simp)
        · rw [if_neg c9] at H
          have c9b0 : (t128 == 0) = false := beq_eq_false_iff_ne.mpr c9
          have c9b1 : (t128 != 0) = true := bne_iff_ne.mpr c9
          obtain rfl := Option.some.inj H
          go_wp2_with (first | ((with_reducible refine gate_callee (f := 28) rfl ?_); refine goesL_ (some 31) rfl rfl Try.func28 (by kernel_rfl) rfl #[.agg #[.int .i64 (Go.bits .and .i64 a1 3), .bool false, .int .i64 4, .string a0]] rfl (by (try simp only [List.map_toArray, List.map_cons, List.map_nil]); first | done | rfl | (simp only [List.length_drop, List.length_take]; rfl)) ?_; (with_reducible refine (ber_Join.calls (Go.bits .and .i64 a1 3) false 4 a0 t127 t128 _ A8.out).mono ?_); rintro e w47 ⟨rfl, hb⟩; refine ⟨_, rfl, ?_⟩; have n0_ := Aside0.mk (below_step (by repeat (first | (with_reducible first | exact HB.out | apply below_alloc | apply pw_below_drewN | apply below_drew1) | exact HB.out)) hb); clear HB; have HB := n0_; clear n0_; (try clear hb); (try clear hb2); (try clear hk); (try clear hi)))
          go_ret
          exact ⟨by first | rfl | (simp [errW_none, errW_some] <;> rfl) | (simp [*, errW_none, errW_some] <;> rfl), by repeat (first | (with_reducible first | exact HB.out | apply below_alloc | apply pw_below_drewN | apply below_drew1) | exact HB.out)⟩

/-- THE ONE PURE STATEMENT of rosterlaw02_BerNest: yours. -/
def rosterlaw02_BerNest.Pure : Prop := ∀ (a0 : ByteArray) (a1 : Int) (a2 : Int), a0.size ≤ 140737488351232 → (Lit.int .i64 a1).wf = true → (Lit.int .i64 a2).wf = true → ∃ k, rosterlaw02_BerNest.f k a0 a1 a2 = some true
theorem rosterlaw02_BerNest.walk (P : rosterlaw02_BerNest.Pure) (a0 : ByteArray) (a1 : Int) (a2 : Int) (w : World) (w0 : a0.size ≤ 140737488351232) (w1 : (Lit.int .i64 a1).wf = true) (w2 : (Lit.int .i64 a2).wf = true) :
    Calls Try.prog 16 #[.string a0, .int .i64 a1, .int .i64 a2] w fun e w' => e = .returned (.bool true) ∧ Below w.heap.size w w' := by
  obtain ⟨k, h⟩ := P a0 a1 a2 w0 w1 w2
  refine (rosterlaw02_BerNest.calls k a0 a1 a2 true w h).mono ?_
  rintro e w' ⟨rfl, hd⟩
  exact ⟨rfl, hd⟩

end Go.Proofs.Ytolhmomnidlmaaa.GT
