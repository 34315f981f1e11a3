-- Written for this claim by a program of this session (wip/tools/p2.py).
import Derived.Test.YtolhmomnidlmaaaGIx0
import Derived.Test.YtolhmomnidlmaaaBIn
import Derived.Test.YtolhmomnidlmaaaBPi
namespace Go.Proofs.Ytolhmomnidlmaaa.GI
open Go.RowKit Go.Proofs.YtolhmomnidlmaaaW.PrintWords Go.Proofs.YtolhmomnidlmaaaW.PrintLast Go.Proofs.YtolhmomnidlmaaaW.PrintMore
attribute [local go_sem] max2_int min2_int max_two min_two max_three min_three max_four min_four   -- for this text's walks alone
set_option linter.unusedVariables false
set_option linter.unusedSimpArgs false

/-! ### ber_PutInt: function 20, by hand -/
-- BY HAND: BPi
def ber_PutInt.f (a0 : Int) : Option ByteArray :=
  if -9223372036854775808 ≤ a0 ∧ a0 ≤ 9223372036854775807 then some (W.putS a0) else none
theorem ber_PutInt.calls (a0 : Int) (r : ByteArray) (w : World) (h : ber_PutInt.f a0 = some r) :
    Calls Try.prog 20 #[.int .i64 a0] w fun e w' => e = .returned (.string r) ∧ Below w.heap.size w w' := by
  unfold ber_PutInt.f at h
  by_cases c : -9223372036854775808 ≤ a0 ∧ a0 ≤ 9223372036854775807
  · rw [if_pos c] at h
    obtain rfl := Option.some.inj h
    exact W.PutInt_any a0 w c.1 c.2
  · rw [if_neg c] at h
    cases h

/-! ### ber_Int: function 21, by hand -/
-- BY HAND: BIn
def ber_Int.f (a0 : ByteArray) : Option (Int × Int) := some ((W.intS a0).1, (W.intS a0).2)
theorem ber_Int.calls (a0 : ByteArray) (r1 r2 : Int) (w : World) (h : ber_Int.f a0 = some (r1, r2)) :
    Calls Try.prog 21 #[.string a0] w fun e w' => e = .returned (.tuple #[.int .i64 r1, .int .i64 r2]) ∧ Below w.heap.size w w' := by
  unfold ber_Int.f at h
  simp only [Option.some.injEq, Prod.mk.injEq] at h
  obtain ⟨rfl, rfl⟩ := h
  exact W.Int_any a0 w

/-! ### rosterlaw02_BerIntBack: function 3 -/
def rosterlaw02_BerIntBack.j0 : Nat → Int → Int → ByteArray → Bool → Option (Bool)
  | 0, _, _, _, _ => none
  | k + 1, x0, x1, x5, x32 => if x32 = true then (some false) else (if 0 < (x5.size : Int) then (if ((decide ((bt x5 0) ≥ 128)) != (decide (x0 < 0))) = true then (some false) else ((ber_PutInt.f x1).bind fun t104 => (some ((x5.toList == t104.toList) == (x0 == x1))))) else (none))
def rosterlaw02_BerIntBack.f (k : Nat) (a0 : Int) (a1 : Int) : Option (Bool) := (ber_PutInt.f a0).bind fun t101 => ((ber_Int.f t101).bind fun bt102 => (if bt102.2 = 0 then (if bt102.1 = a0 then (if (t101.size : Int) < 1 then (rosterlaw02_BerIntBack.j0 k a0 a1 t101 true) else (rosterlaw02_BerIntBack.j0 k a0 a1 t101 (decide ((t101.size : Int) > 8)))) else (rosterlaw02_BerIntBack.j0 k a0 a1 t101 true)) else (rosterlaw02_BerIntBack.j0 k a0 a1 t101 true)))
theorem rosterlaw02_BerIntBack.mono_l : ∀ k, (∀ y0 y1 y2 y3, LeO (rosterlaw02_BerIntBack.j0 k y0 y1 y2 y3) (rosterlaw02_BerIntBack.j0 (k + 1) y0 y1 y2 y3))
  | 0 => fun _ _ _ _ r h => by simp [rosterlaw02_BerIntBack.j0] at h
  | k + 1 => by
    have ih0 := rosterlaw02_BerIntBack.mono_l k
    · intro y0 y1 y2 y3
      unfold rosterlaw02_BerIntBack.j0
      repeat' first
      | (with_reducible exact ih0 _ _ _ _)
      | (with_reducible exact LeO.refl _)
      | (with_reducible exact LeO.none _)
      | (with_reducible refine LeO.ite ?_ ?_)
      | (with_reducible refine LeO.bind ?_ (fun _ => ?_))
      | exact ih0 _ _ _ _
      | exact LeO.none _
      | refine LeO.ite ?_ ?_
      | refine LeO.bind ?_ (fun _ => ?_)
theorem rosterlaw02_BerIntBack.mono : ∀ a0 a1 k, LeO (rosterlaw02_BerIntBack.f k a0 a1) (rosterlaw02_BerIntBack.f (k + 1) a0 a1) := by
  intro a0 a1 k
  have ih0 := rosterlaw02_BerIntBack.mono_l k
  unfold rosterlaw02_BerIntBack.f
  repeat' first
      | (with_reducible exact ih0 _ _ _ _)
      | (with_reducible exact LeO.refl _)
      | (with_reducible exact LeO.none _)
      | (with_reducible refine LeO.ite ?_ ?_)
      | (with_reducible refine LeO.bind ?_ (fun _ => ?_))
      | exact ih0 _ _ _ _
      | exact LeO.none _
      | refine LeO.ite ?_ ?_
      | refine LeO.bind ?_ (fun _ => ?_)
set_option maxHeartbeats 8000000 in
set_option maxRecDepth 100000 in
theorem rosterlaw02_BerIntBack.calls (k : Nat) (a0 : Int) (a1 : Int) (r : Bool) (w : World) (h : rosterlaw02_BerIntBack.f k a0 a1 = some r) :
    Calls Try.prog 3 #[.int .i64 a0, .int .i64 a1] w fun e w' => e = .returned (.bool r) ∧ Below w.heap.size w w' := by
  have HB := Aside0.mk (Below.refl w.heap.size w)
  have H : ((ber_PutInt.f a0).bind fun t101 => ((ber_Int.f t101).bind fun bt102 => (if bt102.2 = 0 then (if bt102.1 = a0 then (if (t101.size : Int) < 1 then (rosterlaw02_BerIntBack.j0 k a0 a1 t101 true) else (rosterlaw02_BerIntBack.j0 k a0 a1 t101 (decide ((t101.size : Int) > 8)))) else (rosterlaw02_BerIntBack.j0 k a0 a1 t101 true)) else (rosterlaw02_BerIntBack.j0 k a0 a1 t101 true)))) = some r := h
  clear h
  replace H := Option.bind_eq_some_iff.mp H
  obtain ⟨t101, A30, H⟩ := H
  replace H : ((ber_Int.f t101).bind fun bt102 => (if bt102.2 = 0 then (if bt102.1 = a0 then (if (t101.size : Int) < 1 then (rosterlaw02_BerIntBack.j0 k a0 a1 t101 true) else (rosterlaw02_BerIntBack.j0 k a0 a1 t101 (decide ((t101.size : Int) > 8)))) else (rosterlaw02_BerIntBack.j0 k a0 a1 t101 true)) else (rosterlaw02_BerIntBack.j0 k a0 a1 t101 true))) = some r := H
  have A3 := Aside0.mk A30
  clear A30
  replace H := Option.bind_eq_some_iff.mp H
  obtain ⟨⟨t102, t103⟩, A40, H⟩ := H
  replace H : (if t103 = 0 then (if t102 = a0 then (if (t101.size : Int) < 1 then (rosterlaw02_BerIntBack.j0 k a0 a1 t101 true) else (rosterlaw02_BerIntBack.j0 k a0 a1 t101 (decide ((t101.size : Int) > 8)))) else (rosterlaw02_BerIntBack.j0 k a0 a1 t101 true)) else (rosterlaw02_BerIntBack.j0 k a0 a1 t101 true)) = some r := H
  have A4 := Aside0.mk A40
  clear A40
  have HC5 := Aside0.mk H
  clear H
  go_enter Try.func3, Try.ntmps3
  go_upto_region 3 with (first | ((with_reducible refine gate_callee (f := 20) rfl ?_); refine goesL_ (some 10) rfl rfl Try.func20 (by kernel_rfl) rfl #[.int .i64 a0] rfl (by (try simp only [List.map_toArray, List.map_cons, List.map_nil]); first | done | rfl | (simp only [List.length_drop, List.length_take]; rfl)) ?_; (with_reducible refine (ber_PutInt.calls a0 t101 _ A3.out).mono ?_); rintro e w6 ⟨rfl, hb⟩; refine ⟨_, rfl, ?_⟩; have n0_ := Aside0.mk (below_step (by repeat (first | (with_reducible first | exact HB.out | apply below_alloc | apply pw_below_drewN | apply below_drew1) | exact HB.out)) hb); clear HB; have HB := n0_; clear n0_; (try clear hb); (try clear hb2); (try clear hk); (try clear hi)) | ((with_reducible refine gate_callee (f := 21) rfl ?_); refine goesL_ (some 13) rfl rfl Try.func21 (by kernel_rfl) rfl #[.string t101] rfl (by (try simp only [List.map_toArray, List.map_cons, List.map_nil]); first | done | rfl | (simp only [List.length_drop, List.length_take]; rfl)) ?_; (with_reducible refine (ber_Int.calls t101 t102 t103 _ A4.out).mono ?_); rintro e w7 ⟨rfl, hb⟩; refine ⟨_, rfl, ?_⟩; have n0_ := Aside0.mk (below_step (by repeat (first | (with_reducible first | exact HB.out | apply below_alloc | apply pw_below_drewN | apply below_drew1) | exact HB.out)) hb); clear HB; have HB := n0_; clear n0_; (try clear hb); (try clear hb2); (try clear hk); (try clear hi)))
  (try simp only [Act.put, List.setIfInBounds_toArray, List.set_cons_zero, List.set_cons_succ])
  go_cut [32] (fun v32 wc => ∃ (kq : Nat) (x32_4 : Bool), v32 = .bool x32_4 ∧ Aside0 (rosterlaw02_BerIntBack.j0 kq a0 a1 t101 x32_4 = some r) ∧ Aside0 (kq ≤ k) ∧ Aside0 (Below w.heap.size w wc))
  case first =>
    have H := HC5.out
    clear HC5
    by_cases c8 : t103 = 0
    · rw [if_pos c8] at H
      have c8b0 : (t103 == 0) = true := beq_iff_eq.mpr c8
      have c8b1 : (t103 != 0) = false := bne_eq_false_iff_eq.mpr c8
      clear c8
      (first | rw [c8b0] | (simp only [i64_w, i32_w]; rw [c8b0]) | skip)
      by_cases c9 : t102 = a0
      · rw [if_pos c9] at H
        have c9b0 : (t102 == a0) = true := beq_iff_eq.mpr c9
        have c9b1 : (t102 != a0) = false := bne_eq_false_iff_eq.mpr c9
        clear c9
        by_cases c10 : (t101.size : Int) < 1
        · rw [if_pos c10] at H
          have c10b0 : decide ((t101.size : Int) < 1) = true := decide_eq_true c10
          have c10b1 : decide (t101.size < 1) = true := decide_eq_true (by omega)
          clear c10
          have H' := Aside0.mk H
          clear H
          go_wp2
          go_meet
          case rel => exact ⟨_, (true), (by first | rfl | (simp; done) | (simp [*]; done)), H', ⟨by first | omega | exact Nat.le_refl _⟩, ⟨by repeat (first | (with_reducible first | exact HB.out | apply below_alloc | apply pw_below_drewN | apply below_drew1) | exact HB.out)⟩⟩
        · rw [if_neg c10] at H
          have c10b0 : decide ((t101.size : Int) < 1) = false := decide_eq_false c10
          have c10b1 : decide (t101.size < 1) = false := decide_eq_false (by omega)
          clear c10
          have H' := Aside0.mk H
          clear H
          go_wp2
          go_meet
          case rel => exact ⟨_, (decide ((t101.size : Int) > 8)), (by first | rfl | (simp; done) | (simp [*]; done)), H', ⟨by first | omega | exact Nat.le_refl _⟩, ⟨by repeat (first | (with_reducible first | exact HB.out | apply below_alloc | apply pw_below_drewN | apply below_drew1) | exact HB.out)⟩⟩
      · rw [if_neg c9] at H
        have c9b0 : (t102 == a0) = false := beq_eq_false_iff_ne.mpr c9
        have c9b1 : (t102 != a0) = true := bne_iff_ne.mpr c9
        have H' := Aside0.mk H
        clear H
        go_wp2
        go_meet
        case rel => exact ⟨_, (true), (by first | rfl | (simp; done) | (simp [*]; done)), H', ⟨by first | omega | exact Nat.le_refl _⟩, ⟨by repeat (first | (with_reducible first | exact HB.out | apply below_alloc | apply pw_below_drewN | apply below_drew1) | exact HB.out)⟩⟩
    · rw [if_neg c8] at H
      have c8b0 : (t103 == 0) = false := beq_eq_false_iff_ne.mpr c8
      have c8b1 : (t103 != 0) = true := bne_iff_ne.mpr c8
      (first | rw [c8b0] | (simp only [i64_w, i32_w]; rw [c8b0]) | skip)
      have H' := Aside0.mk H
      clear H
      go_wp2
      go_meet
      case rel => exact ⟨_, (true), (by first | rfl | (simp; done) | (simp [*]; done)), H', ⟨by first | omega | exact Nat.le_refl _⟩, ⟨by repeat (first | (with_reducible first | exact HB.out | apply below_alloc | apply pw_below_drewN | apply below_drew1) | exact HB.out)⟩⟩
  case rest =>
    clear HC5
    try clear c1
    try clear c2
    try clear p2
    try clear c3
    try clear c8
    try clear c8b0
    try clear c8b1
    try clear c9
    try clear c9b0
    try clear c9b1
    try clear c10
    try clear c10b0
    try clear c10b1
    obtain ⟨kq, x32_4, rfl, HA, HJ4, HB⟩ := hcut
    cases kq with
    | zero => exact absurd HA.out (by simp [rosterlaw02_BerIntBack.j0])
    | succ kj4 =>
      have H := HA.out
      clear HA
      simp only [rosterlaw02_BerIntBack.j0] at H
      by_cases c11 : x32_4 = true
      · subst c11
        have H1 : (some false) = some r := by rw [if_pos rfl] at H; exact H
        clear H
        have H := H1
        clear H1
        obtain rfl := Option.some.inj H
        go_wp2
        go_ret
        exact ⟨by first | rfl | (simp [errW_none, errW_some] <;> rfl) | (simp [*, errW_none, errW_some] <;> rfl), by repeat (first | (with_reducible first | exact HB.out | apply below_alloc | apply pw_below_drewN | apply below_drew1) | exact HB.out)⟩
      · replace c11 := Bool.eq_false_iff.mpr c11
        subst c11
        have H1 : (if 0 < (t101.size : Int) then (if ((decide ((bt t101 0) ≥ 128)) != (decide (a0 < 0))) = true then (some false) else ((ber_PutInt.f a1).bind fun t104 => (some ((t101.toList == t104.toList) == (a0 == a1))))) else (none)) = some r := by rw [if_neg (show ¬ (false = true) by decide)] at H; exact H
        clear H
        have H := H1
        clear H1
        by_cases c12 : 0 < (t101.size : Int)
        · rw [if_pos c12] at H
          have c12b0 : decide (0 < (t101.size : Int)) = true := decide_eq_true c12
          have c12b1 : decide (0 < t101.size) = true := decide_eq_true (by omega)
          clear c12
          by_cases c14 : ((decide ((bt t101 0) ≥ 128)) != (decide (a0 < 0))) = true
          · rw [if_pos c14] at H
            have c14b0 : ((decide ((bt t101 0) ≥ 128)) != (decide (a0 < 0))) = true := c14
            (try (have c14b1 : decide ((decide ((bt t101 0) ≥ 128)) = (decide (a0 < 0))) = false := by simpa using c14))
            (try (have c14b2 : ((decide ((bt t101 0) ≥ 128)) == (decide (a0 < 0))) = false := by simpa using c14))
            (try (have c14b3 : ¬ ((decide ((bt t101 0) ≥ 128)) = (decide (a0 < 0))) := by simpa using c14))
            clear c14
            obtain rfl := Option.some.inj H
            have p13 : 0 ≤ (0 : Int) := (by omega)
            have q13 : 0 < t101.size := (by have : (0 : Int) < (t101.size : Int) := of_decide_eq_true (by first | (with_reducible assumption) | assumption); omega)
            have hx13 : ∀ h : 0 < t101.size, ((t101[0]'h).toNat : Int) = bt t101 0 := bt_at t101 0
            clear p13
            have qi13 : (0 < (t101.size : Int)) = True := eq_true (of_decide_eq_true (by first | (with_reducible assumption) | assumption))
            replace q13 := eq_true q13
            go_wp2
            go_ret
            exact ⟨by first | rfl | (simp [errW_none, errW_some] <;> rfl) | (simp [*, errW_none, errW_some] <;> rfl), by repeat (first | (with_reducible first | exact HB.out | apply below_alloc | apply pw_below_drewN | apply below_drew1) | exact HB.out)⟩
          · rw [if_neg c14] at H
            have c14b0 : ((decide ((bt t101 0) ≥ 128)) != (decide (a0 < 0))) = false := by simpa using c14
            (try (have c14b1 : decide ((decide ((bt t101 0) ≥ 128)) = (decide (a0 < 0))) = true := by simpa using c14))
            (try (have c14b2 : ((decide ((bt t101 0) ≥ 128)) == (decide (a0 < 0))) = true := by simpa using c14))
            clear c14
            replace H := Option.bind_eq_some_iff.mp H
            obtain ⟨t104, A150, H⟩ := H
            replace H : (some ((t101.toList == t104.toList) == (a0 == a1))) = some r := H
            have A15 := Aside0.mk A150
            clear A150
            obtain rfl := Option.some.inj H
            have p13 : 0 ≤ (0 : Int) := (by omega)
            have q13 : 0 < t101.size := (by have : (0 : Int) < (t101.size : Int) := of_decide_eq_true (by first | (with_reducible assumption) | assumption); omega)
            have hx13 : ∀ h : 0 < t101.size, ((t101[0]'h).toNat : Int) = bt t101 0 := bt_at t101 0
            clear p13
            have qi13 : (0 < (t101.size : Int)) = True := eq_true (of_decide_eq_true (by first | (with_reducible assumption) | assumption))
            replace q13 := eq_true q13
            go_wp2_with (first | ((with_reducible refine gate_callee (f := 20) rfl ?_); refine goesL_ (some 40) rfl rfl Try.func20 (by kernel_rfl) rfl #[.int .i64 a1] rfl (by (try simp only [List.map_toArray, List.map_cons, List.map_nil]); first | done | rfl | (simp only [List.length_drop, List.length_take]; rfl)) ?_; (with_reducible refine (ber_PutInt.calls a1 t104 _ A15.out).mono ?_); rintro e w16 ⟨rfl, hb⟩; refine ⟨_, rfl, ?_⟩; have n0_ := Aside0.mk (below_step (by repeat (first | (with_reducible first | exact HB.out | apply below_alloc | apply pw_below_drewN | apply below_drew1) | exact HB.out)) hb); clear HB; have HB := n0_; clear n0_; (try clear hb); (try clear hb2); (try clear hk); (try clear hi)))
            go_ret
            exact ⟨by first | rfl | (simp [errW_none, errW_some] <;> rfl) | (simp [*, errW_none, errW_some] <;> rfl), by repeat (first | (with_reducible first | exact HB.out | apply below_alloc | apply pw_below_drewN | apply below_drew1) | exact HB.out)⟩
        · rw [if_neg c12] at H
          exact absurd H (by simp)

/-- THE ONE PURE STATEMENT of rosterlaw02_BerIntBack: yours. -/
def rosterlaw02_BerIntBack.Pure : Prop := ∀ (a0 : Int) (a1 : Int), (Lit.int .i64 a0).wf = true → (Lit.int .i64 a1).wf = true → ∃ k, rosterlaw02_BerIntBack.f k a0 a1 = some true
theorem rosterlaw02_BerIntBack.walk (P : rosterlaw02_BerIntBack.Pure) (a0 : Int) (a1 : Int) (w : World) (w0 : (Lit.int .i64 a0).wf = true) (w1 : (Lit.int .i64 a1).wf = true) :
    Calls Try.prog 3 #[.int .i64 a0, .int .i64 a1] w fun e w' => e = .returned (.bool true) ∧ Below w.heap.size w w' := by
  obtain ⟨k, h⟩ := P a0 a1 w0 w1
  refine (rosterlaw02_BerIntBack.calls k a0 a1 true w h).mono ?_
  rintro e w' ⟨rfl, hd⟩
  exact ⟨rfl, hd⟩

end Go.Proofs.Ytolhmomnidlmaaa.GI
