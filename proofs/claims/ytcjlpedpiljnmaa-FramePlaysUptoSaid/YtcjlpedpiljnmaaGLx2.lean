-- Written for this claim by a program of this session (wip/tools/p2.py).
import Derived.Test.YtcjlpedpiljnmaaGLx0
import Derived.Test.YtcjlpedpiljnmaaGLx1
namespace Go.Proofs.Ytcjlpedpiljnmaa.GL
open Go.RowKit Go.Proofs.YtcjlpedpiljnmaaW.PrintWords Go.Proofs.YtcjlpedpiljnmaaW.PrintLast Go.Proofs.YtcjlpedpiljnmaaW.PrintMore
attribute [local go_sem] max2_int min2_int max_two min_two max_three min_three max_four min_four   -- for this text's walks alone
set_option linter.unusedVariables false
set_option linter.unusedSimpArgs false

/-! ### rosterref03_Need: function 16 -/
def rosterref03_Need.l0 : Nat → ByteArray → Int → Int → Int → Int → Option (Int)
  | 0, _, _, _, _, _ => none
  | k + 1, x1, x7, x8, x9, x10 => if x10 < (wrap64 (2 + x7)) then (if x10 < (x1.size : Int) then (if 0 ≤ x10 then (rosterref03_Need.l0 k x1 x7 x8 (wrap64 ((wrap64 (x9 * 256)) + (wrap64 (bt x1 x10)))) (wrap64 (x10 + 1))) else (none)) else (rosterref03_Need.l0 k x1 x7 x8 (wrap64 (x9 * 256)) (wrap64 (x10 + 1)))) else (some (wrap64 (x8 + x9)))
def rosterref03_Need.f (k : Nat) (a0 : Int) (a1 : ByteArray) : Option (Int) := (rosterref03_Head.f k a0 a1).bind fun bt109 => (if bt109.2 = 0 then (if bt109.1 > 0 then (if (a1.size : Int) ≥ bt109.1 then (some 0) else (some (wrap64 (bt109.1 - (a1.size : Int))))) else (if (a1.size : Int) < 2 then (some (wrap64 (2 - (a1.size : Int)))) else (if 1 < (a1.size : Int) then ((rosterref03_further.f (bt a1 1)).bind fun t111 => (rosterref03_Need.l0 k a1 t111 (wrap64 ((wrap64 (2 + t111)) - (a1.size : Int))) 0 2)) else (none)))) else (some 0))
theorem rosterref03_Need.mono_l : ∀ k, (∀ y0 y1 y2 y3 y4, LeO (rosterref03_Need.l0 k y0 y1 y2 y3 y4) (rosterref03_Need.l0 (k + 1) y0 y1 y2 y3 y4))
  | 0 => fun _ _ _ _ _ r h => by simp [rosterref03_Need.l0] at h
  | k + 1 => by
    have ih0 := rosterref03_Need.mono_l k
    · intro y0 y1 y2 y3 y4
      unfold rosterref03_Need.l0
      repeat' first
      | (with_reducible exact ih0 _ _ _ _ _)
      | (with_reducible exact rosterref03_Head.mono _ _ _)
      | (with_reducible exact LeO.refl _)
      | (with_reducible exact LeO.none _)
      | (with_reducible refine LeO.ite ?_ ?_)
      | (with_reducible refine LeO.bind ?_ (fun _ => ?_))
      | exact ih0 _ _ _ _ _
      | exact rosterref03_Head.mono _ _ _
      | exact LeO.none _
      | refine LeO.ite ?_ ?_
      | refine LeO.bind ?_ (fun _ => ?_)
theorem rosterref03_Need.mono : ∀ a0 a1 k, LeO (rosterref03_Need.f k a0 a1) (rosterref03_Need.f (k + 1) a0 a1) := by
  intro a0 a1 k
  have ih0 := rosterref03_Need.mono_l k
  unfold rosterref03_Need.f
  repeat' first
      | (with_reducible exact ih0 _ _ _ _ _)
      | (with_reducible exact rosterref03_Head.mono _ _ _)
      | (with_reducible exact LeO.refl _)
      | (with_reducible exact LeO.none _)
      | (with_reducible refine LeO.ite ?_ ?_)
      | (with_reducible refine LeO.bind ?_ (fun _ => ?_))
      | exact ih0 _ _ _ _ _
      | exact rosterref03_Head.mono _ _ _
      | exact LeO.none _
      | refine LeO.ite ?_ ?_
      | refine LeO.bind ?_ (fun _ => ?_)
set_option maxHeartbeats 8000000 in
set_option maxRecDepth 100000 in
theorem rosterref03_Need.calls (k : Nat) (a0 : Int) (a1 : ByteArray) (r : Int) (w : World) (h : rosterref03_Need.f k a0 a1 = some r) :
    Calls Try.prog 16 #[.int .i64 a0, .string a1] w fun e w' => e = .returned (.int .i64 r) ∧ Drawn0 w w' := by
  have H : ((rosterref03_Head.f k a0 a1).bind fun bt109 => (if bt109.2 = 0 then (if bt109.1 > 0 then (if (a1.size : Int) ≥ bt109.1 then (some 0) else (some (wrap64 (bt109.1 - (a1.size : Int))))) else (if (a1.size : Int) < 2 then (some (wrap64 (2 - (a1.size : Int)))) else (if 1 < (a1.size : Int) then ((rosterref03_further.f (bt a1 1)).bind fun t111 => (rosterref03_Need.l0 k a1 t111 (wrap64 ((wrap64 (2 + t111)) - (a1.size : Int))) 0 2)) else (none)))) else (some 0))) = some r := h
  clear h
  replace H := Option.bind_eq_some_iff.mp H
  obtain ⟨⟨t109, t110⟩, A30, H⟩ := H
  replace H : (if t110 = 0 then (if t109 > 0 then (if (a1.size : Int) ≥ t109 then (some 0) else (some (wrap64 (t109 - (a1.size : Int))))) else (if (a1.size : Int) < 2 then (some (wrap64 (2 - (a1.size : Int)))) else (if 1 < (a1.size : Int) then ((rosterref03_further.f (bt a1 1)).bind fun t111 => (rosterref03_Need.l0 k a1 t111 (wrap64 ((wrap64 (2 + t111)) - (a1.size : Int))) 0 2)) else (none)))) else (some 0)) = some r := H
  have A3 := Aside0.mk A30
  clear A30
  by_cases c4 : t110 = 0
  · rw [if_pos c4] at H
    have c4b0 : (t110 == 0) = true := beq_iff_eq.mpr c4
    have c4b1 : (t110 != 0) = false := bne_eq_false_iff_eq.mpr c4
    clear c4
    by_cases c5 : t109 > 0
    · rw [if_pos c5] at H
      have c5b0 : decide (0 < t109) = true := decide_eq_true c5
      clear c5
      by_cases c6 : (a1.size : Int) ≥ t109
      · rw [if_pos c6] at H
        have c6b0 : decide (t109 ≤ (a1.size : Int)) = true := decide_eq_true c6
        clear c6
        obtain rfl := Option.some.inj H
        go_enter Try.func16, Try.ntmps16
        go_wp2_with (first | ((with_reducible refine gate_callee (f := 51) rfl ?_); refine goesL_ (some 14) rfl rfl Try.func51 (by kernel_rfl) rfl #[.int .i64 a0, .string a1] rfl (by (try simp only [List.map_toArray, List.map_cons, List.map_nil]); first | done | rfl | (simp only [List.length_drop, List.length_take]; rfl)) ?_; (with_reducible refine (rosterref03_Head.calls k a0 a1 t109 t110 _ A3.out).mono ?_); rintro e w' ⟨rfl, ⟨nd, rfl⟩⟩; refine ⟨_, rfl, ?_⟩))
        go_ret
        exact ⟨by first | rfl | (simp; done) | (simp [*]; done) | (simp [show ∀ l_ : List UInt8, l_.isEmpty = !(l_ != []) from fun l_ => by cases l_ <;> rfl]; done), by repeat (first | exact Drawn0.refl _ | apply Drawn0.step)⟩
      · rw [if_neg c6] at H
        have c6b0 : decide (t109 ≤ (a1.size : Int)) = false := decide_eq_false c6
        clear c6
        obtain rfl := Option.some.inj H
        go_enter Try.func16, Try.ntmps16
        go_wp2_with (first | ((with_reducible refine gate_callee (f := 51) rfl ?_); refine goesL_ (some 14) rfl rfl Try.func51 (by kernel_rfl) rfl #[.int .i64 a0, .string a1] rfl (by (try simp only [List.map_toArray, List.map_cons, List.map_nil]); first | done | rfl | (simp only [List.length_drop, List.length_take]; rfl)) ?_; (with_reducible refine (rosterref03_Head.calls k a0 a1 t109 t110 _ A3.out).mono ?_); rintro e w' ⟨rfl, ⟨nd, rfl⟩⟩; refine ⟨_, rfl, ?_⟩))
        go_ret
        exact ⟨by first | rfl | (simp; done) | (simp [*]; done) | (simp [show ∀ l_ : List UInt8, l_.isEmpty = !(l_ != []) from fun l_ => by cases l_ <;> rfl]; done), by repeat (first | exact Drawn0.refl _ | apply Drawn0.step)⟩
    · rw [if_neg c5] at H
      have c5b0 : decide (0 < t109) = false := decide_eq_false c5
      clear c5
      by_cases c7 : (a1.size : Int) < 2
      · rw [if_pos c7] at H
        have c7b0 : decide ((a1.size : Int) < 2) = true := decide_eq_true c7
        have c7b1 : decide (a1.size < 2) = true := decide_eq_true (by omega)
        clear c7
        obtain rfl := Option.some.inj H
        go_enter Try.func16, Try.ntmps16
        go_wp2_with (first | ((with_reducible refine gate_callee (f := 51) rfl ?_); refine goesL_ (some 14) rfl rfl Try.func51 (by kernel_rfl) rfl #[.int .i64 a0, .string a1] rfl (by (try simp only [List.map_toArray, List.map_cons, List.map_nil]); first | done | rfl | (simp only [List.length_drop, List.length_take]; rfl)) ?_; (with_reducible refine (rosterref03_Head.calls k a0 a1 t109 t110 _ A3.out).mono ?_); rintro e w' ⟨rfl, ⟨nd, rfl⟩⟩; refine ⟨_, rfl, ?_⟩))
        go_ret
        exact ⟨by first | rfl | (simp; done) | (simp [*]; done) | (simp [show ∀ l_ : List UInt8, l_.isEmpty = !(l_ != []) from fun l_ => by cases l_ <;> rfl]; done), by repeat (first | exact Drawn0.refl _ | apply Drawn0.step)⟩
      · rw [if_neg c7] at H
        have c7b0 : decide ((a1.size : Int) < 2) = false := decide_eq_false c7
        have c7b1 : decide (a1.size < 2) = false := decide_eq_false (by omega)
        clear c7
        by_cases c8 : 1 < (a1.size : Int)
        · rw [if_pos c8] at H
          have c8b0 : decide (1 < (a1.size : Int)) = true := decide_eq_true c8
          have c8b1 : decide (1 < a1.size) = true := decide_eq_true (by omega)
          clear c8
          replace H := Option.bind_eq_some_iff.mp H
          obtain ⟨t111, A100, H⟩ := H
          replace H : (rosterref03_Need.l0 k a1 t111 (wrap64 ((wrap64 (2 + t111)) - (a1.size : Int))) 0 2) = some r := H
          have A10 := Aside0.mk A100
          clear A100
          have H' := Aside0.mk H
          clear H
          go_enter Try.func16, Try.ntmps16
          go_wp2_with (first | ((with_reducible refine gate_callee (f := 51) rfl ?_); refine goesL_ (some 14) rfl rfl Try.func51 (by kernel_rfl) rfl #[.int .i64 a0, .string a1] rfl (by (try simp only [List.map_toArray, List.map_cons, List.map_nil]); first | done | rfl | (simp only [List.length_drop, List.length_take]; rfl)) ?_; (with_reducible refine (rosterref03_Head.calls k a0 a1 t109 t110 _ A3.out).mono ?_); rintro e w' ⟨rfl, ⟨nd, rfl⟩⟩; refine ⟨_, rfl, ?_⟩; have p9 : 0 ≤ (1 : Int) := (by omega); have q9 : 1 < a1.size := (by have : (1 : Int) < (a1.size : Int) := of_decide_eq_true (by first | (with_reducible assumption) | assumption); omega); have hx9 : ∀ h : 1 < a1.size, ((a1[1]'h).toNat : Int) = bt a1 1 := bt_at a1 1; clear p9; have qi9 : (1 < (a1.size : Int)) = True := eq_true (of_decide_eq_true (by first | (with_reducible assumption) | assumption)); replace q9 := eq_true q9) | ((with_reducible refine gate_callee (f := 52) rfl ?_); refine goesL_ (some 37) rfl rfl Try.func52 (by kernel_rfl) rfl #[.int .u8 (bt a1 1)] rfl (by (try simp only [List.map_toArray, List.map_cons, List.map_nil]); first | done | rfl | (simp only [List.length_drop, List.length_take]; rfl)) ?_; (with_reducible refine (rosterref03_further.calls (bt a1 1) t111 _ A10.out).mono ?_); rintro e w' ⟨rfl, ⟨nd, rfl⟩⟩; refine ⟨_, rfl, ?_⟩))
          go_loopg [9, 10] k (fun kq v9 v10 w' => ∃ (x9_1 : Int) (x10_1 : Int), v9 = .int .i64 x9_1 ∧ v10 = .int .i64 x10_1 ∧ Aside0 (rosterref03_Need.l0 kq a1 t111 (wrap64 ((wrap64 (2 + t111)) - (a1.size : Int))) x9_1 x10_1 = some r) ∧ Aside0 (kq ≤ k) ∧ Drawn0 w w')
          case atStart => exact ⟨(0), (2), (by first | rfl | (simp; done) | (simp [*]; done) | (simp [show ∀ l_ : List UInt8, l_.isEmpty = !(l_ != []) from fun l_ => by cases l_ <;> rfl]; done)), (by first | rfl | (simp; done) | (simp [*]; done) | (simp [show ∀ l_ : List UInt8, l_.isEmpty = !(l_ != []) from fun l_ => by cases l_ <;> rfl]; done)), H', ⟨Nat.le_refl _⟩, by repeat (first | exact Drawn0.refl _ | apply Drawn0.step)⟩
          case round =>
            clear H'
            try clear c1
            try clear p2
            try clear c4
            try clear c4b0
            try clear c4b1
            try clear c5
            try clear c5b0
            try clear c6
            try clear c6b0
            try clear p6
            try clear c7
            try clear c7b0
            try clear c7b1
            try clear c8
            try clear c8b0
            try clear c8b1
            try clear p9
            try clear q9
            try clear hx9
            try clear qi9
            try clear p9
            try clear q9
            obtain ⟨x9_1, x10_1, rfl, rfl, HA, HK1, ⟨m1, rfl⟩⟩ := hrel
            cases gk with
            | zero => exact absurd HA.out (by simp [rosterref03_Need.l0])
            | succ k1 =>
              have H := HA.out
              clear HA
              simp only [rosterref03_Need.l0] at H
              by_cases c11 : x10_1 < (wrap64 (2 + t111))
              · rw [if_pos c11] at H
                have c11b0 : decide (x10_1 < (wrap64 (2 + t111))) = true := decide_eq_true c11
                clear c11
                by_cases c12 : x10_1 < (a1.size : Int)
                · rw [if_pos c12] at H
                  have c12b0 : decide (x10_1 < (a1.size : Int)) = true := decide_eq_true c12
                  clear c12
                  by_cases c13 : 0 ≤ x10_1
                  · rw [if_pos c13] at H
                    have c13b0 : decide (0 ≤ x10_1) = true := decide_eq_true c13
                    clear c13
                    have H' := Aside0.mk H
                    clear H
                    have p14 : 0 ≤ (x10_1 : Int) := of_decide_eq_true (by first | (with_reducible assumption) | assumption)
                    have q14 : x10_1 < (a1.size : Int) := of_decide_eq_true (by first | (with_reducible assumption) | assumption)
                    have hx14 := bt_at a1 x10_1
                    replace p14 := eq_true p14
                    replace q14 := eq_true q14
                    go_wp2
                    go_roundg k1
                    case measure => have := HK1.out; omega
                    case rel => exact ⟨(wrap64 ((wrap64 (x9_1 * 256)) + (wrap64 (bt a1 x10_1)))), (wrap64 (x10_1 + 1)), (by first | rfl | (simp; done) | (simp [*]; done) | (simp [show ∀ l_ : List UInt8, l_.isEmpty = !(l_ != []) from fun l_ => by cases l_ <;> rfl]; done)), (by first | rfl | (simp; done) | (simp [*]; done) | (simp [show ∀ l_ : List UInt8, l_.isEmpty = !(l_ != []) from fun l_ => by cases l_ <;> rfl]; done)), H', ⟨by have := HK1.out; omega⟩, by repeat (first | exact Drawn0.refl _ | apply Drawn0.step)⟩
                  · rw [if_neg c13] at H
                    exact absurd H (by simp)
                · rw [if_neg c12] at H
                  have c12b0 : decide (x10_1 < (a1.size : Int)) = false := decide_eq_false c12
                  clear c12
                  have H' := Aside0.mk H
                  clear H
                  go_wp2
                  go_roundg k1
                  case measure => have := HK1.out; omega
                  case rel => exact ⟨(wrap64 (x9_1 * 256)), (wrap64 (x10_1 + 1)), (by first | rfl | (simp; done) | (simp [*]; done) | (simp [show ∀ l_ : List UInt8, l_.isEmpty = !(l_ != []) from fun l_ => by cases l_ <;> rfl]; done)), (by first | rfl | (simp; done) | (simp [*]; done) | (simp [show ∀ l_ : List UInt8, l_.isEmpty = !(l_ != []) from fun l_ => by cases l_ <;> rfl]; done)), H', ⟨by have := HK1.out; omega⟩, by repeat (first | exact Drawn0.refl _ | apply Drawn0.step)⟩
              · rw [if_neg c11] at H
                have c11b0 : decide (x10_1 < (wrap64 (2 + t111))) = false := decide_eq_false c11
                clear c11
                obtain rfl := Option.some.inj H
                go_wp2
                go_ret
                exact ⟨by first | rfl | (simp; done) | (simp [*]; done) | (simp [show ∀ l_ : List UInt8, l_.isEmpty = !(l_ != []) from fun l_ => by cases l_ <;> rfl]; done), by repeat (first | exact Drawn0.refl _ | apply Drawn0.step)⟩
        · rw [if_neg c8] at H
          exact absurd H (by simp)
  · rw [if_neg c4] at H
    have c4b0 : (t110 == 0) = false := beq_eq_false_iff_ne.mpr c4
    have c4b1 : (t110 != 0) = true := bne_iff_ne.mpr c4
    obtain rfl := Option.some.inj H
    go_enter Try.func16, Try.ntmps16
    go_wp2_with (first | ((with_reducible refine gate_callee (f := 51) rfl ?_); refine goesL_ (some 14) rfl rfl Try.func51 (by kernel_rfl) rfl #[.int .i64 a0, .string a1] rfl (by (try simp only [List.map_toArray, List.map_cons, List.map_nil]); first | done | rfl | (simp only [List.length_drop, List.length_take]; rfl)) ?_; (with_reducible refine (rosterref03_Head.calls k a0 a1 t109 t110 _ A3.out).mono ?_); rintro e w' ⟨rfl, ⟨nd, rfl⟩⟩; refine ⟨_, rfl, ?_⟩))
    go_ret
    exact ⟨by first | rfl | (simp; done) | (simp [*]; done) | (simp [show ∀ l_ : List UInt8, l_.isEmpty = !(l_ != []) from fun l_ => by cases l_ <;> rfl]; done), by repeat (first | exact Drawn0.refl _ | apply Drawn0.step)⟩

end Go.Proofs.Ytcjlpedpiljnmaa.GL
