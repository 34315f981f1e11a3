-- Written for this claim by a program of this session (wip/tools/p2.py).
import Derived.Test.YtolhmomnidlmaaaGIx0
import Derived.Test.YtolhmomnidlmaaaGIx1
import Derived.Test.YtolhmomnidlmaaaGIx3
namespace Go.Proofs.Ytolhmomnidlmaaa.GI
open Go.RowKit Go.Proofs.YtolhmomnidlmaaaW.PrintWords Go.Proofs.YtolhmomnidlmaaaW.PrintLast Go.Proofs.YtolhmomnidlmaaaW.PrintMore
attribute [local go_sem] max2_int min2_int max_two min_two max_three min_three max_four min_four   -- for this text's walks alone
set_option linter.unusedVariables false
set_option linter.unusedSimpArgs false

/-! ### rosterlaw02_BerInt: function 5 -/
def rosterlaw02_BerInt.j0 : Nat → Int → Bool → Bool → Option (Bool)
  | 0, _, _, _ => none
  | k + 1, x1, x2, x56 => if x56 = true then (some false) else ((ber_PutInt.f x1).bind fun t125 => ((rosterref02_PutInt.f k x1).bind fun t126 => ((ber_PutBool.f x2).bind fun t127 => ((rosterref02_PutBool.f x2).bind fun t128 => (if t125.toList = t126.toList then (some (t127.toList == t128.toList)) else (some false))))))
def rosterlaw02_BerInt.f (k : Nat) (a0 : ByteArray) (a1 : Int) (a2 : Bool) : Option (Bool) := (ber_Int.f a0).bind fun bt117 => ((rosterref02_Int.f k a0).bind fun bt119 => ((ber_Bool.f a0).bind fun bt121 => ((rosterref02_Bool.f a0).bind fun bt123 => (if bt117.1 = bt119.1 then (if bt117.2 = bt119.2 then (if (bt121.1 != bt123.1) = true then (rosterlaw02_BerInt.j0 k a1 a2 true) else (rosterlaw02_BerInt.j0 k a1 a2 (bt121.2 != bt123.2))) else (rosterlaw02_BerInt.j0 k a1 a2 true)) else (rosterlaw02_BerInt.j0 k a1 a2 true)))))
theorem rosterlaw02_BerInt.mono_l : ∀ k, (∀ y0 y1 y2, LeO (rosterlaw02_BerInt.j0 k y0 y1 y2) (rosterlaw02_BerInt.j0 (k + 1) y0 y1 y2))
  | 0 => fun _ _ _ r h => by simp [rosterlaw02_BerInt.j0] at h
  | k + 1 => by
    have ih0 := rosterlaw02_BerInt.mono_l k
    · intro y0 y1 y2
      unfold rosterlaw02_BerInt.j0
      repeat' first
      | (with_reducible exact ih0 _ _ _)
      | (with_reducible exact rosterref02_Int.mono _ _)
      | (with_reducible exact rosterref02_PutInt.mono _ _)
      | (with_reducible exact LeO.refl _)
      | (with_reducible exact LeO.none _)
      | (with_reducible refine LeO.ite ?_ ?_)
      | (with_reducible refine LeO.bind ?_ (fun _ => ?_))
      | exact ih0 _ _ _
      | exact rosterref02_Int.mono _ _
      | exact rosterref02_PutInt.mono _ _
      | exact LeO.none _
      | refine LeO.ite ?_ ?_
      | refine LeO.bind ?_ (fun _ => ?_)
theorem rosterlaw02_BerInt.mono : ∀ a0 a1 a2 k, LeO (rosterlaw02_BerInt.f k a0 a1 a2) (rosterlaw02_BerInt.f (k + 1) a0 a1 a2) := by
  intro a0 a1 a2 k
  have ih0 := rosterlaw02_BerInt.mono_l k
  unfold rosterlaw02_BerInt.f
  repeat' first
      | (with_reducible exact ih0 _ _ _)
      | (with_reducible exact rosterref02_Int.mono _ _)
      | (with_reducible exact rosterref02_PutInt.mono _ _)
      | (with_reducible exact LeO.refl _)
      | (with_reducible exact LeO.none _)
      | (with_reducible refine LeO.ite ?_ ?_)
      | (with_reducible refine LeO.bind ?_ (fun _ => ?_))
      | exact ih0 _ _ _
      | exact rosterref02_Int.mono _ _
      | exact rosterref02_PutInt.mono _ _
      | exact LeO.none _
      | refine LeO.ite ?_ ?_
      | refine LeO.bind ?_ (fun _ => ?_)
set_option maxHeartbeats 8000000 in
set_option maxRecDepth 100000 in
theorem rosterlaw02_BerInt.calls (k : Nat) (a0 : ByteArray) (a1 : Int) (a2 : Bool) (r : Bool) (w : World) (h : rosterlaw02_BerInt.f k a0 a1 a2 = some r) :
    Calls Try.prog 5 #[.string a0, .int .i64 a1, .bool a2] w fun e w' => e = .returned (.bool r) ∧ Below w.heap.size w w' := by
  have HB := Aside0.mk (Below.refl w.heap.size w)
  have H : ((ber_Int.f a0).bind fun bt117 => ((rosterref02_Int.f k a0).bind fun bt119 => ((ber_Bool.f a0).bind fun bt121 => ((rosterref02_Bool.f a0).bind fun bt123 => (if bt117.1 = bt119.1 then (if bt117.2 = bt119.2 then (if (bt121.1 != bt123.1) = true then (rosterlaw02_BerInt.j0 k a1 a2 true) else (rosterlaw02_BerInt.j0 k a1 a2 (bt121.2 != bt123.2))) else (rosterlaw02_BerInt.j0 k a1 a2 true)) else (rosterlaw02_BerInt.j0 k a1 a2 true)))))) = some r := h
  clear h
  replace H := Option.bind_eq_some_iff.mp H
  obtain ⟨⟨t117, t118⟩, A40, H⟩ := H
  replace H : ((rosterref02_Int.f k a0).bind fun bt119 => ((ber_Bool.f a0).bind fun bt121 => ((rosterref02_Bool.f a0).bind fun bt123 => (if t117 = bt119.1 then (if t118 = bt119.2 then (if (bt121.1 != bt123.1) = true then (rosterlaw02_BerInt.j0 k a1 a2 true) else (rosterlaw02_BerInt.j0 k a1 a2 (bt121.2 != bt123.2))) else (rosterlaw02_BerInt.j0 k a1 a2 true)) else (rosterlaw02_BerInt.j0 k a1 a2 true))))) = some r := H
  have A4 := Aside0.mk A40
  clear A40
  replace H := Option.bind_eq_some_iff.mp H
  obtain ⟨⟨t119, t120⟩, A50, H⟩ := H
  replace H : ((ber_Bool.f a0).bind fun bt121 => ((rosterref02_Bool.f a0).bind fun bt123 => (if t117 = t119 then (if t118 = t120 then (if (bt121.1 != bt123.1) = true then (rosterlaw02_BerInt.j0 k a1 a2 true) else (rosterlaw02_BerInt.j0 k a1 a2 (bt121.2 != bt123.2))) else (rosterlaw02_BerInt.j0 k a1 a2 true)) else (rosterlaw02_BerInt.j0 k a1 a2 true)))) = some r := H
  have A5 := Aside0.mk A50
  clear A50
  replace H := Option.bind_eq_some_iff.mp H
  obtain ⟨⟨t121, t122⟩, A60, H⟩ := H
  replace H : ((rosterref02_Bool.f a0).bind fun bt123 => (if t117 = t119 then (if t118 = t120 then (if (t121 != bt123.1) = true then (rosterlaw02_BerInt.j0 k a1 a2 true) else (rosterlaw02_BerInt.j0 k a1 a2 (t122 != bt123.2))) else (rosterlaw02_BerInt.j0 k a1 a2 true)) else (rosterlaw02_BerInt.j0 k a1 a2 true))) = some r := H
  have A6 := Aside0.mk A60
  clear A60
  replace H := Option.bind_eq_some_iff.mp H
  obtain ⟨⟨t123, t124⟩, A70, H⟩ := H
  replace H : (if t117 = t119 then (if t118 = t120 then (if (t121 != t123) = true then (rosterlaw02_BerInt.j0 k a1 a2 true) else (rosterlaw02_BerInt.j0 k a1 a2 (t122 != t124))) else (rosterlaw02_BerInt.j0 k a1 a2 true)) else (rosterlaw02_BerInt.j0 k a1 a2 true)) = some r := H
  have A7 := Aside0.mk A70
  clear A70
  have HC8 := Aside0.mk H
  clear H
  go_enter Try.func5, Try.ntmps5
  go_upto_region 5 with (first | ((with_reducible refine gate_callee (f := 21) rfl ?_); refine goesL_ (some 21) rfl rfl Try.func21 (by kernel_rfl) rfl #[.string a0] rfl (by (try simp only [List.map_toArray, List.map_cons, List.map_nil]); first | done | rfl | (simp only [List.length_drop, List.length_take]; rfl)) ?_; (with_reducible refine (ber_Int.calls a0 t117 t118 _ A4.out).mono ?_); rintro e w9 ⟨rfl, hb⟩; refine ⟨_, rfl, ?_⟩; have n0_ := Aside0.mk (below_step (by repeat (first | (with_reducible first | exact HB.out | apply below_alloc | apply pw_below_drewN | apply below_drew1) | exact HB.out)) hb); clear HB; have HB := n0_; clear n0_; (try clear hb); (try clear hb2); (try clear hk); (try clear hi)) | ((with_reducible refine gate_callee (f := 22) rfl ?_); refine goesL_ (some 26) rfl rfl Try.func22 (by kernel_rfl) rfl #[.string a0] rfl (by (try simp only [List.map_toArray, List.map_cons, List.map_nil]); first | done | rfl | (simp only [List.length_drop, List.length_take]; rfl)) ?_; (with_reducible refine (rosterref02_Int.calls k a0 t119 t120 _ A5.out).mono ?_); rintro e w10 ⟨rfl, hb⟩; refine ⟨_, rfl, ?_⟩; have n0_ := Aside0.mk (below_step (by repeat (first | (with_reducible first | exact HB.out | apply below_alloc | apply pw_below_drewN | apply below_drew1) | exact HB.out)) hb); clear HB; have HB := n0_; clear n0_; (try clear hb); (try clear hb2); (try clear hk); (try clear hi)) | ((with_reducible refine gate_callee (f := 23) rfl ?_); refine goesL_ (some 31) rfl rfl Try.func23 (by kernel_rfl) rfl #[.string a0] rfl (by (try simp only [List.map_toArray, List.map_cons, List.map_nil]); first | done | rfl | (simp only [List.length_drop, List.length_take]; rfl)) ?_; (with_reducible refine (ber_Bool.calls a0 t121 t122 _ A6.out).mono ?_); rintro e w' ⟨rfl, ⟨nd, rfl⟩⟩; refine ⟨_, rfl, ?_⟩) | ((with_reducible refine gate_callee (f := 24) rfl ?_); refine goesL_ (some 36) rfl rfl Try.func24 (by kernel_rfl) rfl #[.string a0] rfl (by (try simp only [List.map_toArray, List.map_cons, List.map_nil]); first | done | rfl | (simp only [List.length_drop, List.length_take]; rfl)) ?_; (with_reducible refine (rosterref02_Bool.calls a0 t123 t124 _ A7.out).mono ?_); rintro e w' ⟨rfl, ⟨nd, rfl⟩⟩; refine ⟨_, rfl, ?_⟩))
  (try simp only [Act.put, List.setIfInBounds_toArray, List.set_cons_zero, List.set_cons_succ])
  go_cut [56] (fun v56 wc => ∃ (kq : Nat) (x56_7 : Bool), v56 = .bool x56_7 ∧ Aside0 (rosterlaw02_BerInt.j0 kq a1 a2 x56_7 = some r) ∧ Aside0 (kq ≤ k) ∧ Aside0 (Below w.heap.size w wc))
  case first =>
    have H := HC8.out
    clear HC8
    by_cases c11 : t117 = t119
    · rw [if_pos c11] at H
      have c11b0 : (t117 == t119) = true := beq_iff_eq.mpr c11
      have c11b1 : (t117 != t119) = false := bne_eq_false_iff_eq.mpr c11
      clear c11
      (first | rw [c11b0] | (simp only [i64_w, i32_w]; rw [c11b0]) | skip)
      by_cases c12 : t118 = t120
      · rw [if_pos c12] at H
        have c12b0 : (t118 == t120) = true := beq_iff_eq.mpr c12
        have c12b1 : (t118 != t120) = false := bne_eq_false_iff_eq.mpr c12
        clear c12
        by_cases c13 : (t121 != t123) = true
        · rw [if_pos c13] at H
          have c13b0 : (t121 != t123) = true := c13
          (try (have c13b1 : decide (t121 = t123) = false := by simpa using c13))
          (try (have c13b2 : (t121 == t123) = false := by simpa using c13))
          (try (have c13b3 : ¬ (t121 = t123) := by simpa using c13))
          clear c13
          have H' := Aside0.mk H
          clear H
          go_wp2
          go_meet
          case rel => exact ⟨_, (true), (by first | rfl | (simp; done) | (simp [*]; done)), H', ⟨by first | omega | exact Nat.le_refl _⟩, ⟨by repeat (first | (with_reducible first | exact HB.out | apply below_alloc | apply pw_below_drewN | apply below_drew1) | exact HB.out)⟩⟩
        · rw [if_neg c13] at H
          have c13b0 : (t121 != t123) = false := by simpa using c13
          (try (have c13b1 : decide (t121 = t123) = true := by simpa using c13))
          (try (have c13b2 : (t121 == t123) = true := by simpa using c13))
          clear c13
          have H' := Aside0.mk H
          clear H
          go_wp2
          go_meet
          case rel => exact ⟨_, ((t122 != t124)), (by first | rfl | (simp; done) | (simp [*]; done)), H', ⟨by first | omega | exact Nat.le_refl _⟩, ⟨by repeat (first | (with_reducible first | exact HB.out | apply below_alloc | apply pw_below_drewN | apply below_drew1) | exact HB.out)⟩⟩
      · rw [if_neg c12] at H
        have c12b0 : (t118 == t120) = false := beq_eq_false_iff_ne.mpr c12
        have c12b1 : (t118 != t120) = true := bne_iff_ne.mpr c12
        have H' := Aside0.mk H
        clear H
        go_wp2
        go_meet
        case rel => exact ⟨_, (true), (by first | rfl | (simp; done) | (simp [*]; done)), H', ⟨by first | omega | exact Nat.le_refl _⟩, ⟨by repeat (first | (with_reducible first | exact HB.out | apply below_alloc | apply pw_below_drewN | apply below_drew1) | exact HB.out)⟩⟩
    · rw [if_neg c11] at H
      have c11b0 : (t117 == t119) = false := beq_eq_false_iff_ne.mpr c11
      have c11b1 : (t117 != t119) = true := bne_iff_ne.mpr c11
      (first | rw [c11b0] | (simp only [i64_w, i32_w]; rw [c11b0]) | skip)
      have H' := Aside0.mk H
      clear H
      go_wp2
      go_meet
      case rel => exact ⟨_, (true), (by first | rfl | (simp; done) | (simp [*]; done)), H', ⟨by first | omega | exact Nat.le_refl _⟩, ⟨by repeat (first | (with_reducible first | exact HB.out | apply below_alloc | apply pw_below_drewN | apply below_drew1) | exact HB.out)⟩⟩
  case rest =>
    clear HC8
    try clear c1
    try clear c2
    try clear p2
    try clear c5
    try clear c11
    try clear c11b0
    try clear c11b1
    try clear c12
    try clear c12b0
    try clear c12b1
    try clear c13
    try clear c13b0
    try clear c13b1
    try clear c13b2
    obtain ⟨kq, x56_7, rfl, HA, HJ7, HB⟩ := hcut
    cases kq with
    | zero => exact absurd HA.out (by simp [rosterlaw02_BerInt.j0])
    | succ kj7 =>
      have H := HA.out
      clear HA
      simp only [rosterlaw02_BerInt.j0] at H
      by_cases c14 : x56_7 = true
      · subst c14
        have H1 : (some false) = some r := by rw [if_pos rfl] at H; exact H
        clear H
        have H := H1
        clear H1
        obtain rfl := Option.some.inj H
        go_wp2
        go_ret
        exact ⟨by first | rfl | (simp [errW_none, errW_some] <;> rfl) | (simp [*, errW_none, errW_some] <;> rfl), by repeat (first | (with_reducible first | exact HB.out | apply below_alloc | apply pw_below_drewN | apply below_drew1) | exact HB.out)⟩
      · replace c14 := Bool.eq_false_iff.mpr c14
        subst c14
        have H1 : ((ber_PutInt.f a1).bind fun t125 => ((rosterref02_PutInt.f kj7 a1).bind fun t126 => ((ber_PutBool.f a2).bind fun t127 => ((rosterref02_PutBool.f a2).bind fun t128 => (if t125.toList = t126.toList then (some (t127.toList == t128.toList)) else (some false)))))) = some r := by rw [if_neg (show ¬ (false = true) by decide)] at H; exact H
        clear H
        have H := H1
        clear H1
        replace H := Option.bind_eq_some_iff.mp H
        obtain ⟨t125, A150, H⟩ := H
        replace H : ((rosterref02_PutInt.f kj7 a1).bind fun t126 => ((ber_PutBool.f a2).bind fun t127 => ((rosterref02_PutBool.f a2).bind fun t128 => (if t125.toList = t126.toList then (some (t127.toList == t128.toList)) else (some false))))) = some r := H
        have A15 := Aside0.mk A150
        clear A150
        replace H := Option.bind_eq_some_iff.mp H
        obtain ⟨t126, A160, H⟩ := H
        replace H : ((ber_PutBool.f a2).bind fun t127 => ((rosterref02_PutBool.f a2).bind fun t128 => (if t125.toList = t126.toList then (some (t127.toList == t128.toList)) else (some false)))) = some r := H
        have A16 := Aside0.mk A160
        clear A160
        replace H := Option.bind_eq_some_iff.mp H
        obtain ⟨t127, A170, H⟩ := H
        replace H : ((rosterref02_PutBool.f a2).bind fun t128 => (if t125.toList = t126.toList then (some (t127.toList == t128.toList)) else (some false))) = some r := H
        have A17 := Aside0.mk A170
        clear A170
        replace H := Option.bind_eq_some_iff.mp H
        obtain ⟨t128, A180, H⟩ := H
        replace H : (if t125.toList = t126.toList then (some (t127.toList == t128.toList)) else (some false)) = some r := H
        have A18 := Aside0.mk A180
        clear A180
        by_cases c19 : t125.toList = t126.toList
        · rw [if_pos c19] at H
          have c19b0 : (t125.toList == t126.toList) = true := beq_iff_eq.mpr c19
          have c19b1 : (t125.toList != t126.toList) = false := bne_eq_false_iff_eq.mpr c19
          clear c19
          obtain rfl := Option.some.inj H
          go_wp2_with (first | ((with_reducible refine gate_callee (f := 20) rfl ?_); refine goesL_ (some 58) rfl rfl Try.func20 (by kernel_rfl) rfl #[.int .i64 a1] rfl (by (try simp only [List.map_toArray, List.map_cons, List.map_nil]); first | done | rfl | (simp only [List.length_drop, List.length_take]; rfl)) ?_; (with_reducible refine (ber_PutInt.calls a1 t125 _ A15.out).mono ?_); rintro e w20 ⟨rfl, hb⟩; refine ⟨_, rfl, ?_⟩; have n0_ := Aside0.mk (below_step (by repeat (first | (with_reducible first | exact HB.out | apply below_alloc | apply pw_below_drewN | apply below_drew1) | exact HB.out)) hb); clear HB; have HB := n0_; clear n0_; (try clear hb); (try clear hb2); (try clear hk); (try clear hi)) | ((with_reducible refine gate_callee (f := 25) rfl ?_); refine goesL_ (some 60) rfl rfl Try.func25 (by kernel_rfl) rfl #[.int .i64 a1] rfl (by (try simp only [List.map_toArray, List.map_cons, List.map_nil]); first | done | rfl | (simp only [List.length_drop, List.length_take]; rfl)) ?_; (with_reducible refine (rosterref02_PutInt.calls kj7 a1 t126 _ A16.out).mono ?_); rintro e w21 ⟨rfl, hb⟩; refine ⟨_, rfl, ?_⟩; have n0_ := Aside0.mk (below_step (by repeat (first | (with_reducible first | exact HB.out | apply below_alloc | apply pw_below_drewN | apply below_drew1) | exact HB.out)) hb); clear HB; have HB := n0_; clear n0_; (try clear hb); (try clear hb2); (try clear hk); (try clear hi)) | ((with_reducible refine gate_callee (f := 26) rfl ?_); refine goesL_ (some 62) rfl rfl Try.func26 (by kernel_rfl) rfl #[.bool a2] rfl (by (try simp only [List.map_toArray, List.map_cons, List.map_nil]); first | done | rfl | (simp only [List.length_drop, List.length_take]; rfl)) ?_; (with_reducible refine (ber_PutBool.calls a2 t127 _ A17.out).mono ?_); rintro e w' ⟨rfl, ⟨nd, rfl⟩⟩; refine ⟨_, rfl, ?_⟩) | ((with_reducible refine gate_callee (f := 27) rfl ?_); refine goesL_ (some 64) rfl rfl Try.func27 (by kernel_rfl) rfl #[.bool a2] rfl (by (try simp only [List.map_toArray, List.map_cons, List.map_nil]); first | done | rfl | (simp only [List.length_drop, List.length_take]; rfl)) ?_; (with_reducible refine (rosterref02_PutBool.calls a2 t128 _ A18.out).mono ?_); rintro e w' ⟨rfl, ⟨nd, rfl⟩⟩; refine ⟨_, rfl, ?_⟩))
          go_ret
          exact ⟨by first | rfl | (simp [errW_none, errW_some] <;> rfl) | (simp [*, errW_none, errW_some] <;> rfl), by repeat (first | (with_reducible first | exact HB.out | apply below_alloc | apply pw_below_drewN | apply below_drew1) | exact HB.out)⟩
        · rw [if_neg c19] at H
          have c19b0 : (t125.toList == t126.toList) = false := beq_eq_false_iff_ne.mpr c19
          have c19b1 : (t125.toList != t126.toList) = true := bne_iff_ne.mpr c19
          obtain rfl := Option.some.inj H
          go_wp2_with (first | ((with_reducible refine gate_callee (f := 20) rfl ?_); refine goesL_ (some 58) rfl rfl Try.func20 (by kernel_rfl) rfl #[.int .i64 a1] rfl (by (try simp only [List.map_toArray, List.map_cons, List.map_nil]); first | done | rfl | (simp only [List.length_drop, List.length_take]; rfl)) ?_; (with_reducible refine (ber_PutInt.calls a1 t125 _ A15.out).mono ?_); rintro e w22 ⟨rfl, hb⟩; refine ⟨_, rfl, ?_⟩; have n0_ := Aside0.mk (below_step (by repeat (first | (with_reducible first | exact HB.out | apply below_alloc | apply pw_below_drewN | apply below_drew1) | exact HB.out)) hb); clear HB; have HB := n0_; clear n0_; (try clear hb); (try clear hb2); (try clear hk); (try clear hi)) | ((with_reducible refine gate_callee (f := 25) rfl ?_); refine goesL_ (some 60) rfl rfl Try.func25 (by kernel_rfl) rfl #[.int .i64 a1] rfl (by (try simp only [List.map_toArray, List.map_cons, List.map_nil]); first | done | rfl | (simp only [List.length_drop, List.length_take]; rfl)) ?_; (with_reducible refine (rosterref02_PutInt.calls kj7 a1 t126 _ A16.out).mono ?_); rintro e w23 ⟨rfl, hb⟩; refine ⟨_, rfl, ?_⟩; have n0_ := Aside0.mk (below_step (by repeat (first | (with_reducible first | exact HB.out | apply below_alloc | apply pw_below_drewN | apply below_drew1) | exact HB.out)) hb); clear HB; have HB := n0_; clear n0_; (try clear hb); (try clear hb2); (try clear hk); (try clear hi)) | ((with_reducible refine gate_callee (f := 26) rfl ?_); refine goesL_ (some 62) rfl rfl Try.func26 (by kernel_rfl) rfl #[.bool a2] rfl (by (try simp only [List.map_toArray, List.map_cons, List.map_nil]); first | done | rfl | (simp only [List.length_drop, List.length_take]; rfl)) ?_; (with_reducible refine (ber_PutBool.calls a2 t127 _ A17.out).mono ?_); rintro e w' ⟨rfl, ⟨nd, rfl⟩⟩; refine ⟨_, rfl, ?_⟩) | ((with_reducible refine gate_callee (f := 27) rfl ?_); refine goesL_ (some 64) rfl rfl Try.func27 (by kernel_rfl) rfl #[.bool a2] rfl (by (try simp only [List.map_toArray, List.map_cons, List.map_nil]); first | done | rfl | (simp only [List.length_drop, List.length_take]; rfl)) ?_; (with_reducible refine (rosterref02_PutBool.calls a2 t128 _ A18.out).mono ?_); rintro e w' ⟨rfl, ⟨nd, rfl⟩⟩; refine ⟨_, rfl, ?_⟩))
          go_ret
          exact ⟨by first | rfl | (simp [errW_none, errW_some] <;> rfl) | (simp [*, errW_none, errW_some] <;> rfl), by repeat (first | (with_reducible first | exact HB.out | apply below_alloc | apply pw_below_drewN | apply below_drew1) | exact HB.out)⟩

/-- THE ONE PURE STATEMENT of rosterlaw02_BerInt: yours. -/
def rosterlaw02_BerInt.Pure : Prop := ∀ (a0 : ByteArray) (a1 : Int) (a2 : Bool), a0.size ≤ 140737488351232 → (Lit.int .i64 a1).wf = true → ∃ k, rosterlaw02_BerInt.f k a0 a1 a2 = some true
theorem rosterlaw02_BerInt.walk (P : rosterlaw02_BerInt.Pure) (a0 : ByteArray) (a1 : Int) (a2 : Bool) (w : World) (w0 : a0.size ≤ 140737488351232) (w1 : (Lit.int .i64 a1).wf = true) :
    Calls Try.prog 5 #[.string a0, .int .i64 a1, .bool a2] w fun e w' => e = .returned (.bool true) ∧ Below w.heap.size w w' := by
  obtain ⟨k, h⟩ := P a0 a1 a2 w0 w1
  refine (rosterlaw02_BerInt.calls k a0 a1 a2 true w h).mono ?_
  rintro e w' ⟨rfl, hd⟩
  exact ⟨rfl, hd⟩

end Go.Proofs.Ytolhmomnidlmaaa.GI
