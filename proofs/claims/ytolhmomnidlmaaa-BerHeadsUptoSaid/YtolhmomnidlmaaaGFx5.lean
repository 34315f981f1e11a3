-- Written for this claim by a program of this session (wip/tools/p2.py).
import Derived.Test.YtolhmomnidlmaaaGFx0
import Derived.Test.YtolhmomnidlmaaaGFx1
import Derived.Test.YtolhmomnidlmaaaGFx3
import Derived.Test.YtolhmomnidlmaaaGFx4
namespace Go.Proofs.Ytolhmomnidlmaaa.GF
open Go.RowKit Go.Proofs.YtolhmomnidlmaaaW.PrintWords Go.Proofs.YtolhmomnidlmaaaW.PrintLast Go.Proofs.YtolhmomnidlmaaaW.PrintMore
attribute [local go_sem] max2_int min2_int max_two min_two max_three min_three max_four min_four   -- for this text's walks alone
set_option linter.unusedVariables false
set_option linter.unusedSimpArgs false

attribute [local go_sem high] eqA40
/-! ### rosterlaw02_BerHeads: function 8 -/
mutual
def rosterlaw02_BerHeads.j0 : Nat → List (S49) → List Int → Int → ByteArray → Bool → Option (Bool)
  | 0, _, _, _, _, _ => none
  | k + 1, x0, x1, x2, x3, x27 => if x27 = true then (some true) else ((rosterlaw02_spelt.f x0 x1).bind fun bt137 => (if bt137.1.size + x3.size ≤ 9223372036854775807 then ((ber_Head.f (bt137.1 ++ x3)).bind fun bt139 => (if 0 < (x0.length : Int) then (if bt139.2.2.2.2.2 = 0 then (if bt139.1 = ((rd_T49 x0 0).f1) then (if (bt139.2.1 != ((rd_T49 x0 0).f2)) = true then (rosterlaw02_BerHeads.j1 k x2 bt137.1 true bt139.1 bt139.2.1 bt139.2.2.1 bt139.2.2.2.1 bt139.2.2.2.2.1) else (if bt139.2.2.1 = ((rd_T49 x0 0).f3) then (if (wrap64 (bt139.2.2.2.2.1 + bt139.2.2.2.1)) = (bt137.1.size : Int) then (if bt139.2.2.2.2.1 < 2 then (rosterlaw02_BerHeads.j1 k x2 bt137.1 true bt139.1 bt139.2.1 bt139.2.2.1 bt139.2.2.2.1 bt139.2.2.2.2.1) else (rosterlaw02_BerHeads.j1 k x2 bt137.1 (decide (bt139.2.2.2.2.1 > 6)) bt139.1 bt139.2.1 bt139.2.2.1 bt139.2.2.2.1 bt139.2.2.2.2.1)) else (rosterlaw02_BerHeads.j1 k x2 bt137.1 true bt139.1 bt139.2.1 bt139.2.2.1 bt139.2.2.2.1 bt139.2.2.2.2.1)) else (rosterlaw02_BerHeads.j1 k x2 bt137.1 true bt139.1 bt139.2.1 bt139.2.2.1 bt139.2.2.2.1 bt139.2.2.2.2.1))) else (rosterlaw02_BerHeads.j1 k x2 bt137.1 true bt139.1 bt139.2.1 bt139.2.2.1 bt139.2.2.2.1 bt139.2.2.2.2.1)) else (rosterlaw02_BerHeads.j1 k x2 bt137.1 true bt139.1 bt139.2.1 bt139.2.2.1 bt139.2.2.2.1 bt139.2.2.2.2.1)) else (none))) else (none)))
def rosterlaw02_BerHeads.j1 : Nat → Int → ByteArray → Bool → Int → Bool → Int → Int → Int → Option (Bool)
  | 0, _, _, _, _, _, _, _, _ => none
  | k + 1, x2, x11, x86, x146000, x146001, x146002, x146003, x146004 => if x86 = true then (some false) else (if x2 < 0 then (rosterlaw02_BerHeads.j2 k x2 x11 true x146000 x146001 x146002 x146003 x146004) else (rosterlaw02_BerHeads.j2 k x2 x11 (decide (x2 ≥ (x11.size : Int))) x146000 x146001 x146002 x146003 x146004))
def rosterlaw02_BerHeads.j2 : Nat → Int → ByteArray → Bool → Int → Bool → Int → Int → Int → Option (Bool)
  | 0, _, _, _, _, _, _, _, _ => none
  | k + 1, x2, x11, x94, x146000, x146001, x146002, x146003, x146004 => if x94 = true then (some true) else (if 0 ≤ x2 then (if x2 ≤ (x11.size : Int) then ((ber_Head.f (x11.extract 0 (x2 : Int).toNat)).bind fun bt148 => (if x2 < x146004 then (if bt148.2.2.2.2.2 = 20 then (some (bt148.1 == 0 && (!bt148.2.1 && (bt148.2.2.1 == 0 && (bt148.2.2.2.1 == 0 && (bt148.2.2.2.2.1 == 0)))))) else (some false)) else (if bt148.2.2.2.2.2 = 0 then (some (bt148.1 == x146000 && (bt148.2.1 == x146001 && (bt148.2.2.1 == x146002 && (bt148.2.2.2.1 == x146003 && (bt148.2.2.2.2.1 == x146004)))))) else (some false)))) else (none)) else (none))
end
def rosterlaw02_BerHeads.f (k : Nat) (l0 : List (S49)) (l1 : List Int) (a2 : Int) (a3 : ByteArray) : Option (Bool) := (rosterlaw02_sound.f l0).bind fun t135 => ((rosterlaw02_small.f l0).bind fun t136 => (if t135 = true then (rosterlaw02_BerHeads.j0 k l0 l1 a2 a3 (!t136)) else (rosterlaw02_BerHeads.j0 k l0 l1 a2 a3 true)))
theorem rosterlaw02_BerHeads.mono_l : ∀ k, (∀ y0 y1 y2 y3 y4, LeO (rosterlaw02_BerHeads.j0 k y0 y1 y2 y3 y4) (rosterlaw02_BerHeads.j0 (k + 1) y0 y1 y2 y3 y4)) ∧ (∀ y0 y1 y2 y3 y4 y5 y6 y7, LeO (rosterlaw02_BerHeads.j1 k y0 y1 y2 y3 y4 y5 y6 y7) (rosterlaw02_BerHeads.j1 (k + 1) y0 y1 y2 y3 y4 y5 y6 y7)) ∧ (∀ y0 y1 y2 y3 y4 y5 y6 y7, LeO (rosterlaw02_BerHeads.j2 k y0 y1 y2 y3 y4 y5 y6 y7) (rosterlaw02_BerHeads.j2 (k + 1) y0 y1 y2 y3 y4 y5 y6 y7))
  | 0 => ⟨fun _ _ _ _ _ r h => by simp [rosterlaw02_BerHeads.j0] at h, fun _ _ _ _ _ _ _ _ r h => by simp [rosterlaw02_BerHeads.j1] at h, fun _ _ _ _ _ _ _ _ r h => by simp [rosterlaw02_BerHeads.j2] at h⟩
  | k + 1 => by
    obtain ⟨ih0, ih1, ih2⟩ := rosterlaw02_BerHeads.mono_l k
    refine ⟨?_, ?_, ?_⟩
    · intro y0 y1 y2 y3 y4
      unfold rosterlaw02_BerHeads.j0
      repeat' first
      | (with_reducible exact ih0 _ _ _ _ _)
      | (with_reducible exact ih1 _ _ _ _ _ _ _ _)
      | (with_reducible exact ih2 _ _ _ _ _ _ _ _)
      | (with_reducible exact LeO.refl _)
      | (with_reducible exact LeO.none _)
      | (with_reducible refine LeO.ite ?_ ?_)
      | (with_reducible refine LeO.bind ?_ (fun _ => ?_))
      | exact ih0 _ _ _ _ _
      | exact ih1 _ _ _ _ _ _ _ _
      | exact ih2 _ _ _ _ _ _ _ _
      | exact LeO.none _
      | refine LeO.ite ?_ ?_
      | refine LeO.bind ?_ (fun _ => ?_)
    · intro y0 y1 y2 y3 y4 y5 y6 y7
      unfold rosterlaw02_BerHeads.j1
      repeat' first
      | (with_reducible exact ih0 _ _ _ _ _)
      | (with_reducible exact ih1 _ _ _ _ _ _ _ _)
      | (with_reducible exact ih2 _ _ _ _ _ _ _ _)
      | (with_reducible exact LeO.refl _)
      | (with_reducible exact LeO.none _)
      | (with_reducible refine LeO.ite ?_ ?_)
      | (with_reducible refine LeO.bind ?_ (fun _ => ?_))
      | exact ih0 _ _ _ _ _
      | exact ih1 _ _ _ _ _ _ _ _
      | exact ih2 _ _ _ _ _ _ _ _
      | exact LeO.none _
      | refine LeO.ite ?_ ?_
      | refine LeO.bind ?_ (fun _ => ?_)
    · intro y0 y1 y2 y3 y4 y5 y6 y7
      unfold rosterlaw02_BerHeads.j2
      repeat' first
      | (with_reducible exact ih0 _ _ _ _ _)
      | (with_reducible exact ih1 _ _ _ _ _ _ _ _)
      | (with_reducible exact ih2 _ _ _ _ _ _ _ _)
      | (with_reducible exact LeO.refl _)
      | (with_reducible exact LeO.none _)
      | (with_reducible refine LeO.ite ?_ ?_)
      | (with_reducible refine LeO.bind ?_ (fun _ => ?_))
      | exact ih0 _ _ _ _ _
      | exact ih1 _ _ _ _ _ _ _ _
      | exact ih2 _ _ _ _ _ _ _ _
      | exact LeO.none _
      | refine LeO.ite ?_ ?_
      | refine LeO.bind ?_ (fun _ => ?_)
theorem rosterlaw02_BerHeads.mono : ∀ a0 a1 a2 a3 k, LeO (rosterlaw02_BerHeads.f k a0 a1 a2 a3) (rosterlaw02_BerHeads.f (k + 1) a0 a1 a2 a3) := by
  intro a0 a1 a2 a3 k
  obtain ⟨ih0, ih1, ih2⟩ := rosterlaw02_BerHeads.mono_l k
  unfold rosterlaw02_BerHeads.f
  repeat' first
      | (with_reducible exact ih0 _ _ _ _ _)
      | (with_reducible exact ih1 _ _ _ _ _ _ _ _)
      | (with_reducible exact ih2 _ _ _ _ _ _ _ _)
      | (with_reducible exact LeO.refl _)
      | (with_reducible exact LeO.none _)
      | (with_reducible refine LeO.ite ?_ ?_)
      | (with_reducible refine LeO.bind ?_ (fun _ => ?_))
      | exact ih0 _ _ _ _ _
      | exact ih1 _ _ _ _ _ _ _ _
      | exact ih2 _ _ _ _ _ _ _ _
      | exact LeO.none _
      | refine LeO.ite ?_ ?_
      | refine LeO.bind ?_ (fun _ => ?_)
set_option maxHeartbeats 8000000 in
set_option maxRecDepth 100000 in
theorem rosterlaw02_BerHeads.calls (k : Nat) (A0 : Option Addr) (c0 : Nat) (l0 : List (S49)) (A1 : Option Addr) (c1 : Nat) (l1 : List Int) (a2 : Int) (a3 : ByteArray) (r : Bool) (w : World) (hr0 : Kd.C k49 w A0 l0.length l0) (hc0 : l0.length ≤ c0) (hr1 : Kd.C (Kd.int .i64) w A1 l1.length l1) (hc1 : l1.length ≤ c1) (h : rosterlaw02_BerHeads.f k l0 l1 a2 a3 = some r) :
    Calls Try.prog 8 #[.slice A0 l0.length c0, .slice A1 l1.length c1, .int .i64 a2, .string a3] w fun e w' => e = .returned (.bool r) ∧ Below w.heap.size w w' := by
  have hu40 := Try.underlying40
  have hu49 := Try.underlying49
  have HR0 := Aside0.mk hr0
  have HC0 := Aside0.mk hc0
  clear hr0 hc0
  have HR1 := Aside0.mk hr1
  have HC1 := Aside0.mk hc1
  clear hr1 hc1
  have HB := Aside0.mk (Below.refl w.heap.size w)
  have H : ((rosterlaw02_sound.f l0).bind fun t135 => ((rosterlaw02_small.f l0).bind fun t136 => (if t135 = true then (rosterlaw02_BerHeads.j0 k l0 l1 a2 a3 (!t136)) else (rosterlaw02_BerHeads.j0 k l0 l1 a2 a3 true)))) = some r := h
  clear h
  replace H := Option.bind_eq_some_iff.mp H
  obtain ⟨t135, A50, H⟩ := H
  replace H : ((rosterlaw02_small.f l0).bind fun t136 => (if t135 = true then (rosterlaw02_BerHeads.j0 k l0 l1 a2 a3 (!t136)) else (rosterlaw02_BerHeads.j0 k l0 l1 a2 a3 true))) = some r := H
  have A5 := Aside0.mk A50
  clear A50
  replace H := Option.bind_eq_some_iff.mp H
  obtain ⟨t136, A60, H⟩ := H
  replace H : (if t135 = true then (rosterlaw02_BerHeads.j0 k l0 l1 a2 a3 (!t136)) else (rosterlaw02_BerHeads.j0 k l0 l1 a2 a3 true)) = some r := H
  have A6 := Aside0.mk A60
  clear A60
  have HC7 := Aside0.mk H
  clear H
  go_enter Try.func8, Try.ntmps8
  go_upto_region 3 with (first | ((with_reducible refine gate_callee (f := 32) rfl ?_); refine goesL_ (some 19) rfl rfl Try.func32 (by kernel_rfl) rfl #[.slice A0 l0.length c0] rfl (by (try simp only [List.map_toArray, List.map_cons, List.map_nil]); first | done | rfl | (simp only [List.length_drop, List.length_take]; rfl)) ?_; (with_reducible refine (rosterlaw02_sound.calls _ _ l0 t135 _ ?side1 ?side2 A5.out).mono ?_); (case side1 => repeat (first | exact HR0.out | (with_reducible refine Kd.C_alloc ?_ _) | (with_reducible refine Kd.C_drewN ?_ _) | (with_reducible refine Kd.C_drew ?_))); (case side2 => exact HC0.out); rintro e w8 ⟨rfl, hb⟩; refine ⟨_, rfl, ?_⟩; have n0_ := Aside0.mk (below_step (by repeat (first | (with_reducible first | exact HB.out | apply below_alloc | apply pw_below_drewN | apply below_drew1) | exact HB.out)) hb); clear HB; have HB := n0_; clear n0_; (try clear hb); (try clear hb2); (try clear hk); (try clear hi)) | ((with_reducible refine gate_callee (f := 33) rfl ?_); refine goesL_ (some 21) rfl rfl Try.func33 (by kernel_rfl) rfl #[.slice A0 l0.length c0] rfl (by (try simp only [List.map_toArray, List.map_cons, List.map_nil]); first | done | rfl | (simp only [List.length_drop, List.length_take]; rfl)) ?_; (with_reducible refine (rosterlaw02_small.calls _ _ l0 t136 _ ?side1 ?side2 A6.out).mono ?_); (case side1 => repeat (first | exact (Kd.C_below HR0.out HB.out) | (with_reducible refine Kd.C_alloc ?_ _) | (with_reducible refine Kd.C_drewN ?_ _) | (with_reducible refine Kd.C_drew ?_))); (case side2 => exact HC0.out); rintro e w9 ⟨rfl, hb⟩; refine ⟨_, rfl, ?_⟩; have n0_ := Aside0.mk (below_step (by repeat (first | (with_reducible first | exact HB.out | apply below_alloc | apply pw_below_drewN | apply below_drew1) | exact HB.out)) hb); clear HB; have HB := n0_; clear n0_; (try clear hb); (try clear hb2); (try clear hk); (try clear hi)))
  (try simp only [Act.put, List.setIfInBounds_toArray, List.set_cons_zero, List.set_cons_succ])
  go_cut [27] (fun v27 wc => ∃ (kq : Nat) (x27_6 : Bool), v27 = .bool x27_6 ∧ Aside0 (rosterlaw02_BerHeads.j0 kq l0 l1 a2 a3 x27_6 = some r) ∧ Aside0 (kq ≤ k) ∧ Aside0 (Below w.heap.size w wc))
  case first =>
    have H := HC7.out
    clear HC7
    by_cases c10 : t135 = true
    · subst c10
      have H1 : (rosterlaw02_BerHeads.j0 k l0 l1 a2 a3 (!t136)) = some r := by rw [if_pos rfl] at H; exact H
      clear H
      have H := H1
      clear H1
      have H' := Aside0.mk H
      clear H
      go_wp2
      go_meet
      case rel => exact ⟨_, (!t136), (by first | rfl | (simp; done) | (simp [*]; done) | (simp [show ∀ l_ : List UInt8, l_.isEmpty = !(l_ != []) from fun l_ => by cases l_ <;> rfl]; done)), H', ⟨by first | omega | exact Nat.le_refl _⟩, ⟨by repeat (first | (with_reducible first | exact HB.out | apply below_alloc | apply pw_below_drewN | apply below_drew1) | exact HB.out)⟩⟩
    · replace c10 := Bool.eq_false_iff.mpr c10
      subst c10
      have H1 : (rosterlaw02_BerHeads.j0 k l0 l1 a2 a3 true) = some r := by rw [if_neg (show ¬ (false = true) by decide)] at H; exact H
      clear H
      have H := H1
      clear H1
      have H' := Aside0.mk H
      clear H
      go_wp2
      go_meet
      case rel => exact ⟨_, (true), (by first | rfl | (simp; done) | (simp [*]; done) | (simp [show ∀ l_ : List UInt8, l_.isEmpty = !(l_ != []) from fun l_ => by cases l_ <;> rfl]; done)), H', ⟨by first | omega | exact Nat.le_refl _⟩, ⟨by repeat (first | (with_reducible first | exact HB.out | apply below_alloc | apply pw_below_drewN | apply below_drew1) | exact HB.out)⟩⟩
  case rest =>
    clear HC7
    try clear c1
    try clear p2
    try clear c3
    try clear c8
    try clear c10
    obtain ⟨kq, x27_6, rfl, HA, HJ6, HB⟩ := hcut
    cases kq with
    | zero => exact absurd HA.out (by simp [rosterlaw02_BerHeads.j0])
    | succ kj6 =>
      have H := HA.out
      clear HA
      simp only [rosterlaw02_BerHeads.j0] at H
      by_cases c11 : x27_6 = true
      · subst c11
        have H1 : (some true) = some r := by rw [if_pos rfl] at H; exact H
        clear H
        have H := H1
        clear H1
        obtain rfl := Option.some.inj H
        go_wp2
        go_ret
        exact ⟨by first | rfl | (simp [errW_none, errW_some] <;> rfl) | (simp [*, errW_none, errW_some] <;> rfl), by repeat (first | (with_reducible first | exact HB.out | apply below_alloc | apply pw_below_drewN | apply below_drew1) | exact HB.out)⟩
      · replace c11 := Bool.eq_false_iff.mpr c11
        subst c11
        have H1 : ((rosterlaw02_spelt.f l0 l1).bind fun bt137 => (if bt137.1.size + a3.size ≤ 9223372036854775807 then ((ber_Head.f (bt137.1 ++ a3)).bind fun bt139 => (if 0 < (l0.length : Int) then (if bt139.2.2.2.2.2 = 0 then (if bt139.1 = ((rd_T49 l0 0).f1) then (if (bt139.2.1 != ((rd_T49 l0 0).f2)) = true then (rosterlaw02_BerHeads.j1 kj6 a2 bt137.1 true bt139.1 bt139.2.1 bt139.2.2.1 bt139.2.2.2.1 bt139.2.2.2.2.1) else (if bt139.2.2.1 = ((rd_T49 l0 0).f3) then (if (wrap64 (bt139.2.2.2.2.1 + bt139.2.2.2.1)) = (bt137.1.size : Int) then (if bt139.2.2.2.2.1 < 2 then (rosterlaw02_BerHeads.j1 kj6 a2 bt137.1 true bt139.1 bt139.2.1 bt139.2.2.1 bt139.2.2.2.1 bt139.2.2.2.2.1) else (rosterlaw02_BerHeads.j1 kj6 a2 bt137.1 (decide (bt139.2.2.2.2.1 > 6)) bt139.1 bt139.2.1 bt139.2.2.1 bt139.2.2.2.1 bt139.2.2.2.2.1)) else (rosterlaw02_BerHeads.j1 kj6 a2 bt137.1 true bt139.1 bt139.2.1 bt139.2.2.1 bt139.2.2.2.1 bt139.2.2.2.2.1)) else (rosterlaw02_BerHeads.j1 kj6 a2 bt137.1 true bt139.1 bt139.2.1 bt139.2.2.1 bt139.2.2.2.1 bt139.2.2.2.2.1))) else (rosterlaw02_BerHeads.j1 kj6 a2 bt137.1 true bt139.1 bt139.2.1 bt139.2.2.1 bt139.2.2.2.1 bt139.2.2.2.2.1)) else (rosterlaw02_BerHeads.j1 kj6 a2 bt137.1 true bt139.1 bt139.2.1 bt139.2.2.1 bt139.2.2.2.1 bt139.2.2.2.2.1)) else (none))) else (none))) = some r := by rw [if_neg (show ¬ (false = true) by decide)] at H; exact H
        clear H
        have H := H1
        clear H1
        replace H := Option.bind_eq_some_iff.mp H
        obtain ⟨⟨t137, t138⟩, A120, H⟩ := H
        replace H : (if t137.size + a3.size ≤ 9223372036854775807 then ((ber_Head.f (t137 ++ a3)).bind fun bt139 => (if 0 < (l0.length : Int) then (if bt139.2.2.2.2.2 = 0 then (if bt139.1 = ((rd_T49 l0 0).f1) then (if (bt139.2.1 != ((rd_T49 l0 0).f2)) = true then (rosterlaw02_BerHeads.j1 kj6 a2 t137 true bt139.1 bt139.2.1 bt139.2.2.1 bt139.2.2.2.1 bt139.2.2.2.2.1) else (if bt139.2.2.1 = ((rd_T49 l0 0).f3) then (if (wrap64 (bt139.2.2.2.2.1 + bt139.2.2.2.1)) = (t137.size : Int) then (if bt139.2.2.2.2.1 < 2 then (rosterlaw02_BerHeads.j1 kj6 a2 t137 true bt139.1 bt139.2.1 bt139.2.2.1 bt139.2.2.2.1 bt139.2.2.2.2.1) else (rosterlaw02_BerHeads.j1 kj6 a2 t137 (decide (bt139.2.2.2.2.1 > 6)) bt139.1 bt139.2.1 bt139.2.2.1 bt139.2.2.2.1 bt139.2.2.2.2.1)) else (rosterlaw02_BerHeads.j1 kj6 a2 t137 true bt139.1 bt139.2.1 bt139.2.2.1 bt139.2.2.2.1 bt139.2.2.2.2.1)) else (rosterlaw02_BerHeads.j1 kj6 a2 t137 true bt139.1 bt139.2.1 bt139.2.2.1 bt139.2.2.2.1 bt139.2.2.2.2.1))) else (rosterlaw02_BerHeads.j1 kj6 a2 t137 true bt139.1 bt139.2.1 bt139.2.2.1 bt139.2.2.2.1 bt139.2.2.2.2.1)) else (rosterlaw02_BerHeads.j1 kj6 a2 t137 true bt139.1 bt139.2.1 bt139.2.2.1 bt139.2.2.2.1 bt139.2.2.2.2.1)) else (none))) else (none)) = some r := H
        have A12 := Aside0.mk A120
        clear A120
        by_cases c13 : t137.size + a3.size ≤ 9223372036854775807
        · rw [if_pos c13] at H
          have c13b0 := eq_true c13
          have c13b1 : decide (t137.size + a3.size ≤ 9223372036854775807) = true := decide_eq_true c13
          try have c13b2 : (9223372036854775807 < t137.size + a3.size) = False := eq_false (Nat.not_lt.2 c13)
          replace H := Option.bind_eq_some_iff.mp H
          obtain ⟨⟨t139, t140, t141, t142, t143, t144⟩, A140, H⟩ := H
          replace H : (if 0 < (l0.length : Int) then (if t144 = 0 then (if t139 = ((rd_T49 l0 0).f1) then (if (t140 != ((rd_T49 l0 0).f2)) = true then (rosterlaw02_BerHeads.j1 kj6 a2 t137 true t139 t140 t141 t142 t143) else (if t141 = ((rd_T49 l0 0).f3) then (if (wrap64 (t143 + t142)) = (t137.size : Int) then (if t143 < 2 then (rosterlaw02_BerHeads.j1 kj6 a2 t137 true t139 t140 t141 t142 t143) else (rosterlaw02_BerHeads.j1 kj6 a2 t137 (decide (t143 > 6)) t139 t140 t141 t142 t143)) else (rosterlaw02_BerHeads.j1 kj6 a2 t137 true t139 t140 t141 t142 t143)) else (rosterlaw02_BerHeads.j1 kj6 a2 t137 true t139 t140 t141 t142 t143))) else (rosterlaw02_BerHeads.j1 kj6 a2 t137 true t139 t140 t141 t142 t143)) else (rosterlaw02_BerHeads.j1 kj6 a2 t137 true t139 t140 t141 t142 t143)) else (none)) = some r := H
          have A14 := Aside0.mk A140
          clear A140
          by_cases c15 : 0 < (l0.length : Int)
          · rw [if_pos c15] at H
            have c15b0 : decide (0 < (l0.length : Int)) = true := decide_eq_true c15
            have c15b1 : decide (0 < l0.length) = true := decide_eq_true (by omega)
            have c15b2 : 0 < l0.length := by omega
            clear c15
            have HC16 := Aside0.mk H
            clear H
            go_upto_region 8 with (first | ((with_reducible refine gate_callee (f := 34) rfl ?_); refine goesL_ (some 31) rfl rfl Try.func34 (by kernel_rfl) rfl #[.slice A0 l0.length c0, .slice A1 l1.length c1] rfl (by (try simp only [List.map_toArray, List.map_cons, List.map_nil]); first | done | rfl | (simp only [List.length_drop, List.length_take]; rfl)) ?_; (with_reducible refine (rosterlaw02_spelt.calls _ _ l0 _ _ l1 t137 t138 _ ?side1 ?side2 ?side3 ?side4 A12.out).mono ?_); (case side1 => repeat (first | exact (Kd.C_below HR0.out HB.out) | (with_reducible refine Kd.C_alloc ?_ _) | (with_reducible refine Kd.C_drewN ?_ _) | (with_reducible refine Kd.C_drew ?_))); (case side2 => exact HC0.out); (case side3 => repeat (first | exact (Kd.C_below HR1.out HB.out) | (with_reducible refine Kd.C_alloc ?_ _) | (with_reducible refine Kd.C_drewN ?_ _) | (with_reducible refine Kd.C_drew ?_))); (case side4 => exact HC1.out); rintro e w17 ⟨rfl, hb⟩; refine ⟨_, rfl, ?_⟩; have n0_ := Aside0.mk (below_step (by repeat (first | (with_reducible first | exact HB.out | apply below_alloc | apply pw_below_drewN | apply below_drew1) | exact HB.out)) hb); clear HB; have HB := n0_; clear n0_; (try clear hb); (try clear hb2); (try clear hk); (try clear hi)) | ((with_reducible refine gate_callee (f := 30) rfl ?_); refine goesL_ (some 38) rfl rfl Try.func30 (by kernel_rfl) rfl #[.string (t137 ++ a3)] rfl (by (try simp only [List.map_toArray, List.map_cons, List.map_nil]); first | done | rfl | (simp only [List.length_drop, List.length_take]; rfl)) ?_; (with_reducible refine (ber_Head.calls (t137 ++ a3) t139 t140 t141 t142 t143 t144 _ A14.out).mono ?_); rintro e w18 ⟨rfl, hb⟩; refine ⟨_, rfl, ?_⟩; have n0_ := Aside0.mk (below_step (by repeat (first | (with_reducible first | exact HB.out | apply below_alloc | apply pw_below_drewN | apply below_drew1) | exact HB.out)) hb); clear HB; have HB := n0_; clear n0_; (try clear hb); (try clear hb2); (try clear hk); (try clear hi)) | ((with_reducible refine gate_dst (N := 13) rfl ?_); (try (refine gate_guard (by rfl) ?_; dsimp only)); refine box_event ?hg (N := 13) ?hd (cs := #[.int .i64 0, .bool false, .int .i64 0, .int .i64 0, .int .i64 0]) (t := 40) ?hr ?_; (case hd => rfl); (case hg => rfl); (case hr => first | (go_simp; done) | (go_simp; rfl)); intro gb145 hg w19 hbox hb; have n0_ := Aside0.mk (below_step (by repeat (first | (with_reducible first | exact HB.out | apply below_alloc | apply pw_below_drewN | apply below_drew1) | exact HB.out)) hb); have n1_ := Aside0.mk (hbox); have n2_ := Aside0.mk ((by rw [hg]; exact (below_size (by repeat (first | (with_reducible first | exact HB.out | apply below_alloc | apply pw_below_drewN | apply below_drew1) | exact HB.out))) : w.heap.size ≤ gb145)); have n3_ := Aside0.mk ((by rw [hg]; exact (below_size (by repeat (first | (with_reducible first | exact HB.out | apply below_alloc | apply pw_below_drewN | apply below_drew1) | exact HB.out))) : w.heap.size ≤ gb145)); clear HB; have HB := n0_; have BK145 := n1_; have GW145 := n2_; have GE145 := n3_; clear n0_ n1_ n2_ n3_; clear hb hbox hg; have hcz20_0 : w19.cell? ⟨gb145, 0, none⟩ = some (.int .i64 0) := (blk_cell BK145.out 0).trans rfl; have hcz20_1 : w19.cell? ⟨gb145, 1, none⟩ = some (.bool false) := (blk_cell BK145.out 1).trans rfl; have hcz20_2 : w19.cell? ⟨gb145, 2, none⟩ = some (.int .i64 0) := (blk_cell BK145.out 2).trans rfl; have hcz20_3 : w19.cell? ⟨gb145, 3, none⟩ = some (.int .i64 0) := (blk_cell BK145.out 3).trans rfl; have hcz20_4 : w19.cell? ⟨gb145, 4, none⟩ = some (.int .i64 0) := (blk_cell BK145.out 4).trans rfl; have hfz20_0 := blk_frozen BK145.out 0; have hfz20_1 := blk_frozen BK145.out 1; have hfz20_2 := blk_frozen BK145.out 2; have hfz20_3 := blk_frozen BK145.out 3; have hfz20_4 := blk_frozen BK145.out 4; have p146 : 0 ≤ (0 : Int) := (by omega); have q146 : 0 < (l0.length : Int) := of_decide_eq_true (by first | (with_reducible assumption) | assumption); obtain ⟨ad146, e146, hx146_0, hx146_1, hx146_2, hx146_3, hx146_4⟩ := at_T49 HR0.out 0 p146 q146; cases e146; have qi146 : (0 < l0.length) = True := eq_true (by omega); (try rw [show ((0 : Int)).toNat = 0 from rfl] at hx146_0); (try rw [show 0 * 5 = 0 from rfl] at hx146_0); (try rw [Addr.add_zero'] at hx146_0); (try rw [show ((0 : Int)).toNat = 0 from rfl] at hx146_1); (try rw [show 0 * 5 = 0 from rfl] at hx146_1); (try rw [Addr.add_zero'] at hx146_1); (try rw [show ((0 : Int)).toNat = 0 from rfl] at hx146_2); (try rw [show 0 * 5 = 0 from rfl] at hx146_2); (try rw [Addr.add_zero'] at hx146_2); (try rw [show ((0 : Int)).toNat = 0 from rfl] at hx146_3); (try rw [show 0 * 5 = 0 from rfl] at hx146_3); (try rw [Addr.add_zero'] at hx146_3); (try rw [show ((0 : Int)).toNat = 0 from rfl] at hx146_4); (try rw [show 0 * 5 = 0 from rfl] at hx146_4); (try rw [Addr.add_zero'] at hx146_4); have hn146_0 : ad146.block ≠ gb145 := Nat.ne_of_lt (Nat.lt_of_lt_of_le (by have := World.block_lt_of_cell? _ _ hx146_0; first | rwa [add_block] at this | exact this) GW145.out); have hn146_1 : ad146.block ≠ gb145 := Nat.ne_of_lt (Nat.lt_of_lt_of_le (by have := World.block_lt_of_cell? _ _ hx146_0; first | rwa [add_block] at this | exact this) GW145.out); have hn146_2 : ad146.block ≠ gb145 := Nat.ne_of_lt (Nat.lt_of_lt_of_le (by have := World.block_lt_of_cell? _ _ hx146_0; first | rwa [add_block] at this | exact this) GW145.out); have hn146_3 : ad146.block ≠ gb145 := Nat.ne_of_lt (Nat.lt_of_lt_of_le (by have := World.block_lt_of_cell? _ _ hx146_0; first | rwa [add_block] at this | exact this) GW145.out); have hn146_4 : ad146.block ≠ gb145 := Nat.ne_of_lt (Nat.lt_of_lt_of_le (by have := World.block_lt_of_cell? _ _ hx146_0; first | rwa [add_block] at this | exact this) GW145.out); replace hx146_0 := (HB.out.cell (World.block_lt_of_cell? w _ hx146_0)).trans hx146_0; replace hx146_1 := (HB.out.cell (World.block_lt_of_cell? w _ hx146_1)).trans hx146_1; replace hx146_2 := (HB.out.cell (World.block_lt_of_cell? w _ hx146_2)).trans hx146_2; replace hx146_3 := (HB.out.cell (World.block_lt_of_cell? w _ hx146_3)).trans hx146_3; replace hx146_4 := (HB.out.cell (World.block_lt_of_cell? w _ hx146_4)).trans hx146_4; replace hx146_0 := (cell_far (p := ⟨gb145, 0, none⟩) (by first | (rw [add_block]; exact hn146_0) | (show (Addr.add _ _).block ≠ _; rw [add_block]; exact hn146_0) | exact hn146_0) (.int .i64 t139)).trans hx146_0; replace hx146_1 := (cell_far (p := ⟨gb145, 0, none⟩) (by first | (rw [add_block]; exact hn146_0) | (show (Addr.add _ _).block ≠ _; rw [add_block]; exact hn146_0) | exact hn146_0) (.int .i64 t139)).trans hx146_1; replace hx146_2 := (cell_far (p := ⟨gb145, 0, none⟩) (by first | (rw [add_block]; exact hn146_0) | (show (Addr.add _ _).block ≠ _; rw [add_block]; exact hn146_0) | exact hn146_0) (.int .i64 t139)).trans hx146_2; replace hx146_3 := (cell_far (p := ⟨gb145, 0, none⟩) (by first | (rw [add_block]; exact hn146_0) | (show (Addr.add _ _).block ≠ _; rw [add_block]; exact hn146_0) | exact hn146_0) (.int .i64 t139)).trans hx146_3; replace hx146_4 := (cell_far (p := ⟨gb145, 0, none⟩) (by first | (rw [add_block]; exact hn146_0) | (show (Addr.add _ _).block ≠ _; rw [add_block]; exact hn146_0) | exact hn146_0) (.int .i64 t139)).trans hx146_4; replace hx146_0 := (cell_far (p := ⟨gb145, 1, none⟩) (by first | (rw [add_block]; exact hn146_1) | (show (Addr.add _ _).block ≠ _; rw [add_block]; exact hn146_1) | exact hn146_1) (.bool t140)).trans hx146_0; replace hx146_1 := (cell_far (p := ⟨gb145, 1, none⟩) (by first | (rw [add_block]; exact hn146_1) | (show (Addr.add _ _).block ≠ _; rw [add_block]; exact hn146_1) | exact hn146_1) (.bool t140)).trans hx146_1; replace hx146_2 := (cell_far (p := ⟨gb145, 1, none⟩) (by first | (rw [add_block]; exact hn146_1) | (show (Addr.add _ _).block ≠ _; rw [add_block]; exact hn146_1) | exact hn146_1) (.bool t140)).trans hx146_2; replace hx146_3 := (cell_far (p := ⟨gb145, 1, none⟩) (by first | (rw [add_block]; exact hn146_1) | (show (Addr.add _ _).block ≠ _; rw [add_block]; exact hn146_1) | exact hn146_1) (.bool t140)).trans hx146_3; replace hx146_4 := (cell_far (p := ⟨gb145, 1, none⟩) (by first | (rw [add_block]; exact hn146_1) | (show (Addr.add _ _).block ≠ _; rw [add_block]; exact hn146_1) | exact hn146_1) (.bool t140)).trans hx146_4; replace hx146_0 := (cell_far (p := ⟨gb145, 2, none⟩) (by first | (rw [add_block]; exact hn146_2) | (show (Addr.add _ _).block ≠ _; rw [add_block]; exact hn146_2) | exact hn146_2) (.int .i64 t141)).trans hx146_0; replace hx146_1 := (cell_far (p := ⟨gb145, 2, none⟩) (by first | (rw [add_block]; exact hn146_2) | (show (Addr.add _ _).block ≠ _; rw [add_block]; exact hn146_2) | exact hn146_2) (.int .i64 t141)).trans hx146_1; replace hx146_2 := (cell_far (p := ⟨gb145, 2, none⟩) (by first | (rw [add_block]; exact hn146_2) | (show (Addr.add _ _).block ≠ _; rw [add_block]; exact hn146_2) | exact hn146_2) (.int .i64 t141)).trans hx146_2; replace hx146_3 := (cell_far (p := ⟨gb145, 2, none⟩) (by first | (rw [add_block]; exact hn146_2) | (show (Addr.add _ _).block ≠ _; rw [add_block]; exact hn146_2) | exact hn146_2) (.int .i64 t141)).trans hx146_3; replace hx146_4 := (cell_far (p := ⟨gb145, 2, none⟩) (by first | (rw [add_block]; exact hn146_2) | (show (Addr.add _ _).block ≠ _; rw [add_block]; exact hn146_2) | exact hn146_2) (.int .i64 t141)).trans hx146_4; replace hx146_0 := (cell_far (p := ⟨gb145, 3, none⟩) (by first | (rw [add_block]; exact hn146_3) | (show (Addr.add _ _).block ≠ _; rw [add_block]; exact hn146_3) | exact hn146_3) (.int .i64 t142)).trans hx146_0; replace hx146_1 := (cell_far (p := ⟨gb145, 3, none⟩) (by first | (rw [add_block]; exact hn146_3) | (show (Addr.add _ _).block ≠ _; rw [add_block]; exact hn146_3) | exact hn146_3) (.int .i64 t142)).trans hx146_1; replace hx146_2 := (cell_far (p := ⟨gb145, 3, none⟩) (by first | (rw [add_block]; exact hn146_3) | (show (Addr.add _ _).block ≠ _; rw [add_block]; exact hn146_3) | exact hn146_3) (.int .i64 t142)).trans hx146_2; replace hx146_3 := (cell_far (p := ⟨gb145, 3, none⟩) (by first | (rw [add_block]; exact hn146_3) | (show (Addr.add _ _).block ≠ _; rw [add_block]; exact hn146_3) | exact hn146_3) (.int .i64 t142)).trans hx146_3; replace hx146_4 := (cell_far (p := ⟨gb145, 3, none⟩) (by first | (rw [add_block]; exact hn146_3) | (show (Addr.add _ _).block ≠ _; rw [add_block]; exact hn146_3) | exact hn146_3) (.int .i64 t142)).trans hx146_4; replace hx146_0 := (cell_far (p := ⟨gb145, 4, none⟩) (by first | (rw [add_block]; exact hn146_4) | (show (Addr.add _ _).block ≠ _; rw [add_block]; exact hn146_4) | exact hn146_4) (.int .i64 t143)).trans hx146_0; replace hx146_1 := (cell_far (p := ⟨gb145, 4, none⟩) (by first | (rw [add_block]; exact hn146_4) | (show (Addr.add _ _).block ≠ _; rw [add_block]; exact hn146_4) | exact hn146_4) (.int .i64 t143)).trans hx146_1; replace hx146_2 := (cell_far (p := ⟨gb145, 4, none⟩) (by first | (rw [add_block]; exact hn146_4) | (show (Addr.add _ _).block ≠ _; rw [add_block]; exact hn146_4) | exact hn146_4) (.int .i64 t143)).trans hx146_2; replace hx146_3 := (cell_far (p := ⟨gb145, 4, none⟩) (by first | (rw [add_block]; exact hn146_4) | (show (Addr.add _ _).block ≠ _; rw [add_block]; exact hn146_4) | exact hn146_4) (.int .i64 t143)).trans hx146_3; replace hx146_4 := (cell_far (p := ⟨gb145, 4, none⟩) (by first | (rw [add_block]; exact hn146_4) | (show (Addr.add _ _).block ≠ _; rw [add_block]; exact hn146_4) | exact hn146_4) (.int .i64 t143)).trans hx146_4; clear hn146_0; clear hn146_1; clear hn146_2; clear hn146_3; clear hn146_4; replace p146 := eq_true p146; replace q146 := eq_true q146) | ((with_reducible refine gate_dst (N := 15) rfl ?_); (try (refine gate_guard (by rfl) ?_; dsimp only)); refine box_event ?hg (N := 15) ?hd (cs := #[.int .i64 0, .int .i64 0, .bool false, .int .i64 0, .string (⟨#[]⟩ : ByteArray)]) (t := 49) ?hr ?_; (case hd => rfl); (case hg => rfl); (case hr => first | (go_simp; done) | (go_simp; rfl)); intro gb147 hg w21 hbox hb; have n0_ := Aside0.mk (blk_below (g := gb145) (o := .cells #[.int .i64 t139, .bool t140, .int .i64 t141, .int .i64 t142, .int .i64 t143] 40 (0, 0)) (by (with_reducible repeat (first | refine blk_drewN ?_ _ | refine blk_drew ?_ | refine blk_alloc ?_ _)); refine blk_put (cs := #[.int .i64 t139, .bool t140, .int .i64 t141, .int .i64 t142, .int .i64 0]) ?_ 4 _ rfl; (with_reducible repeat (first | refine blk_drewN ?_ _ | refine blk_drew ?_ | refine blk_alloc ?_ _)); refine blk_put (cs := #[.int .i64 t139, .bool t140, .int .i64 t141, .int .i64 0, .int .i64 0]) ?_ 3 _ rfl; (with_reducible repeat (first | refine blk_drewN ?_ _ | refine blk_drew ?_ | refine blk_alloc ?_ _)); refine blk_put (cs := #[.int .i64 t139, .bool t140, .int .i64 0, .int .i64 0, .int .i64 0]) ?_ 2 _ rfl; (with_reducible repeat (first | refine blk_drewN ?_ _ | refine blk_drew ?_ | refine blk_alloc ?_ _)); refine blk_put (cs := #[.int .i64 t139, .bool false, .int .i64 0, .int .i64 0, .int .i64 0]) ?_ 1 _ rfl; (with_reducible repeat (first | refine blk_drewN ?_ _ | refine blk_drew ?_ | refine blk_alloc ?_ _)); refine blk_put (cs := #[.int .i64 0, .bool false, .int .i64 0, .int .i64 0, .int .i64 0]) ?_ 0 _ rfl; (with_reducible repeat (first | refine blk_drewN ?_ _ | refine blk_drew ?_ | refine blk_alloc ?_ _)); exact BK145.out) hb); have n1_ := Aside0.mk (below_step (by repeat (first | (with_reducible first | exact HB.out | apply below_alloc | apply pw_below_drewN | apply below_drew1 | refine below_set ?_ GE145.out) | exact HB.out)) hb); have n2_ := Aside0.mk (hbox); have n3_ := Aside0.mk ((by rw [hg]; exact (below_size (by repeat (first | (with_reducible first | exact HB.out | apply below_alloc | apply pw_below_drewN | apply below_drew1 | refine below_set ?_ GE145.out) | exact HB.out))) : w.heap.size ≤ gb147)); have n4_ := Aside0.mk ((by rw [hg]; exact (below_size (by repeat (first | (with_reducible first | exact HB.out | apply below_alloc | apply pw_below_drewN | apply below_drew1 | refine below_set ?_ GE145.out) | exact HB.out))) : w.heap.size ≤ gb147)); have n5_ := Aside0.mk ((by rw [hg]; exact Nat.ne_of_lt (blk_lt (g := gb145) (o := .cells #[.int .i64 t139, .bool t140, .int .i64 t141, .int .i64 t142, .int .i64 t143] 40 (0, 0)) (by (with_reducible repeat (first | refine blk_drewN ?_ _ | refine blk_drew ?_ | refine blk_alloc ?_ _)); refine blk_put (cs := #[.int .i64 t139, .bool t140, .int .i64 t141, .int .i64 t142, .int .i64 0]) ?_ 4 _ rfl; (with_reducible repeat (first | refine blk_drewN ?_ _ | refine blk_drew ?_ | refine blk_alloc ?_ _)); refine blk_put (cs := #[.int .i64 t139, .bool t140, .int .i64 t141, .int .i64 0, .int .i64 0]) ?_ 3 _ rfl; (with_reducible repeat (first | refine blk_drewN ?_ _ | refine blk_drew ?_ | refine blk_alloc ?_ _)); refine blk_put (cs := #[.int .i64 t139, .bool t140, .int .i64 0, .int .i64 0, .int .i64 0]) ?_ 2 _ rfl; (with_reducible repeat (first | refine blk_drewN ?_ _ | refine blk_drew ?_ | refine blk_alloc ?_ _)); refine blk_put (cs := #[.int .i64 t139, .bool false, .int .i64 0, .int .i64 0, .int .i64 0]) ?_ 1 _ rfl; (with_reducible repeat (first | refine blk_drewN ?_ _ | refine blk_drew ?_ | refine blk_alloc ?_ _)); refine blk_put (cs := #[.int .i64 0, .bool false, .int .i64 0, .int .i64 0, .int .i64 0]) ?_ 0 _ rfl; (with_reducible repeat (first | refine blk_drewN ?_ _ | refine blk_drew ?_ | refine blk_alloc ?_ _)); exact BK145.out)) : gb145 ≠ gb147)); have n6_ := Aside0.mk ((by rw [hg]; exact Nat.ne_of_gt (blk_lt (g := gb145) (o := .cells #[.int .i64 t139, .bool t140, .int .i64 t141, .int .i64 t142, .int .i64 t143] 40 (0, 0)) (by (with_reducible repeat (first | refine blk_drewN ?_ _ | refine blk_drew ?_ | refine blk_alloc ?_ _)); refine blk_put (cs := #[.int .i64 t139, .bool t140, .int .i64 t141, .int .i64 t142, .int .i64 0]) ?_ 4 _ rfl; (with_reducible repeat (first | refine blk_drewN ?_ _ | refine blk_drew ?_ | refine blk_alloc ?_ _)); refine blk_put (cs := #[.int .i64 t139, .bool t140, .int .i64 t141, .int .i64 0, .int .i64 0]) ?_ 3 _ rfl; (with_reducible repeat (first | refine blk_drewN ?_ _ | refine blk_drew ?_ | refine blk_alloc ?_ _)); refine blk_put (cs := #[.int .i64 t139, .bool t140, .int .i64 0, .int .i64 0, .int .i64 0]) ?_ 2 _ rfl; (with_reducible repeat (first | refine blk_drewN ?_ _ | refine blk_drew ?_ | refine blk_alloc ?_ _)); refine blk_put (cs := #[.int .i64 t139, .bool false, .int .i64 0, .int .i64 0, .int .i64 0]) ?_ 1 _ rfl; (with_reducible repeat (first | refine blk_drewN ?_ _ | refine blk_drew ?_ | refine blk_alloc ?_ _)); refine blk_put (cs := #[.int .i64 0, .bool false, .int .i64 0, .int .i64 0, .int .i64 0]) ?_ 0 _ rfl; (with_reducible repeat (first | refine blk_drewN ?_ _ | refine blk_drew ?_ | refine blk_alloc ?_ _)); exact BK145.out)) : gb147 ≠ gb145)); clear BK145; clear HB; have BK145 := n0_; have HB := n1_; have BK147 := n2_; have GW147 := n3_; have GE147 := n4_; have NB145_147 := n5_; have NB147_145 := n6_; clear n0_ n1_ n2_ n3_ n4_ n5_ n6_; clear hb hbox hg; have hnb22 := NB147_145.out; have hnc22 := NB145_147.out; have hcz23_0 : w21.cell? ⟨gb147, 0, none⟩ = some (.int .i64 0) := (blk_cell BK147.out 0).trans rfl; have hcz23_1 : w21.cell? ⟨gb147, 1, none⟩ = some (.int .i64 0) := (blk_cell BK147.out 1).trans rfl; have hcz23_2 : w21.cell? ⟨gb147, 2, none⟩ = some (.bool false) := (blk_cell BK147.out 2).trans rfl; have hcz23_3 : w21.cell? ⟨gb147, 3, none⟩ = some (.int .i64 0) := (blk_cell BK147.out 3).trans rfl; have hcz23_4 : w21.cell? ⟨gb147, 4, none⟩ = some (.string (⟨#[]⟩ : ByteArray)) := (blk_cell BK147.out 4).trans rfl; have hfz23_0 := blk_frozen BK147.out 0; have hfz23_1 := blk_frozen BK147.out 1; have hfz23_2 := blk_frozen BK147.out 2; have hfz23_3 := blk_frozen BK147.out 3; have hfz23_4 := blk_frozen BK147.out 4))
            (try simp only [Act.put, List.setIfInBounds_toArray, List.set_cons_zero, List.set_cons_succ])
            go_cut [86] (fun v86 wc => ∃ (kq : Nat) (x86_15 : Bool), v86 = .bool x86_15 ∧ Aside0 (rosterlaw02_BerHeads.j1 kq a2 t137 x86_15 t139 t140 t141 t142 t143 = some r) ∧ Aside0 (kq ≤ kj6) ∧ Aside0 (wc.heap[gb145]? = some (.cells #[.int .i64 t139, .bool t140, .int .i64 t141, .int .i64 t142, .int .i64 t143] 40 (0, 0))) ∧ Aside0 (wc.heap[gb147]? = some (.cells #[.int .i64 ((rd_T49 l0 0).f0), .int .i64 ((rd_T49 l0 0).f1), .bool ((rd_T49 l0 0).f2), .int .i64 ((rd_T49 l0 0).f3), .string ((rd_T49 l0 0).f4)] 49 (0, 0))) ∧ Aside0 (Below w.heap.size w wc))
            case first =>
              have H := HC16.out
              clear HC16
              by_cases c24 : t144 = 0
              · rw [if_pos c24] at H
                have c24b0 : (t144 == 0) = true := beq_iff_eq.mpr c24
                have c24b1 : (t144 != 0) = false := bne_eq_false_iff_eq.mpr c24
                clear c24
                (first | rw [c24b0] | (simp only [i64_w, i32_w]; rw [c24b0]) | skip)
                by_cases c25 : t139 = ((rd_T49 l0 0).f1)
                · rw [if_pos c25] at H
                  have c25b0 : (t139 == ((rd_T49 l0 0).f1)) = true := beq_iff_eq.mpr c25
                  have c25b1 : (t139 != ((rd_T49 l0 0).f1)) = false := bne_eq_false_iff_eq.mpr c25
                  clear c25
                  by_cases c26 : (t140 != ((rd_T49 l0 0).f2)) = true
                  · rw [if_pos c26] at H
                    have c26b0 : (t140 != ((rd_T49 l0 0).f2)) = true := c26
                    (try (have c26b1 : decide (t140 = ((rd_T49 l0 0).f2)) = false := by simpa using c26))
                    (try (have c26b2 : (t140 == ((rd_T49 l0 0).f2)) = false := by simpa using c26))
                    (try (have c26b3 : ¬ (t140 = ((rd_T49 l0 0).f2)) := by simpa using c26))
                    clear c26
                    have H' := Aside0.mk H
                    clear H
                    have hnb27 := NB145_147.out
                    have hnc27 := NB147_145.out
                    have hcz28_0 : w21.cell? ⟨gb145, 0, none⟩ = some (.int .i64 t139) := (blk_cell BK145.out 0).trans rfl
                    have hcz28_1 : w21.cell? ⟨gb145, 1, none⟩ = some (.bool t140) := (blk_cell BK145.out 1).trans rfl
                    have hcz28_2 : w21.cell? ⟨gb145, 2, none⟩ = some (.int .i64 t141) := (blk_cell BK145.out 2).trans rfl
                    have hcz28_3 : w21.cell? ⟨gb145, 3, none⟩ = some (.int .i64 t142) := (blk_cell BK145.out 3).trans rfl
                    have hcz28_4 : w21.cell? ⟨gb145, 4, none⟩ = some (.int .i64 t143) := (blk_cell BK145.out 4).trans rfl
                    have hfz28_0 := blk_frozen BK145.out 0
                    have hfz28_1 := blk_frozen BK145.out 1
                    have hfz28_2 := blk_frozen BK145.out 2
                    have hfz28_3 := blk_frozen BK145.out 3
                    have hfz28_4 := blk_frozen BK145.out 4
                    have hcz29_0 : w21.cell? ⟨gb147, 0, none⟩ = some (.int .i64 0) := (blk_cell BK147.out 0).trans rfl
                    have hcz29_1 : w21.cell? ⟨gb147, 1, none⟩ = some (.int .i64 0) := (blk_cell BK147.out 1).trans rfl
                    have hcz29_2 : w21.cell? ⟨gb147, 2, none⟩ = some (.bool false) := (blk_cell BK147.out 2).trans rfl
                    have hcz29_3 : w21.cell? ⟨gb147, 3, none⟩ = some (.int .i64 0) := (blk_cell BK147.out 3).trans rfl
                    have hcz29_4 : w21.cell? ⟨gb147, 4, none⟩ = some (.string (⟨#[]⟩ : ByteArray)) := (blk_cell BK147.out 4).trans rfl
                    have hfz29_0 := blk_frozen BK147.out 0
                    have hfz29_1 := blk_frozen BK147.out 1
                    have hfz29_2 := blk_frozen BK147.out 2
                    have hfz29_3 := blk_frozen BK147.out 3
                    have hfz29_4 := blk_frozen BK147.out 4
                    go_wp2
                    go_meet
                    case rel => exact ⟨_, (true), (by first | rfl | (simp; done) | (simp [*]; done) | (simp [show ∀ l_ : List UInt8, l_.isEmpty = !(l_ != []) from fun l_ => by cases l_ <;> rfl]; done)), H', ⟨by have := HJ6.out; first | omega | exact Nat.le_refl _⟩, ⟨by (with_reducible repeat (first | refine blk_drewN ?_ _ | refine blk_drew ?_ | refine blk_alloc ?_ _)); refine blk_far ?_ NB145_147.out _; (with_reducible repeat (first | refine blk_drewN ?_ _ | refine blk_drew ?_ | refine blk_alloc ?_ _)); refine blk_far ?_ NB145_147.out _; (with_reducible repeat (first | refine blk_drewN ?_ _ | refine blk_drew ?_ | refine blk_alloc ?_ _)); refine blk_far ?_ NB145_147.out _; (with_reducible repeat (first | refine blk_drewN ?_ _ | refine blk_drew ?_ | refine blk_alloc ?_ _)); refine blk_far ?_ NB145_147.out _; (with_reducible repeat (first | refine blk_drewN ?_ _ | refine blk_drew ?_ | refine blk_alloc ?_ _)); refine blk_far ?_ NB145_147.out _; (with_reducible repeat (first | refine blk_drewN ?_ _ | refine blk_drew ?_ | refine blk_alloc ?_ _)); exact BK145.out⟩, ⟨by (with_reducible repeat (first | refine blk_drewN ?_ _ | refine blk_drew ?_ | refine blk_alloc ?_ _)); refine blk_put (cs := #[.int .i64 ((rd_T49 l0 0).f0), .int .i64 ((rd_T49 l0 0).f1), .bool ((rd_T49 l0 0).f2), .int .i64 ((rd_T49 l0 0).f3), .string (⟨#[]⟩ : ByteArray)]) ?_ 4 _ rfl; (with_reducible repeat (first | refine blk_drewN ?_ _ | refine blk_drew ?_ | refine blk_alloc ?_ _)); refine blk_put (cs := #[.int .i64 ((rd_T49 l0 0).f0), .int .i64 ((rd_T49 l0 0).f1), .bool ((rd_T49 l0 0).f2), .int .i64 0, .string (⟨#[]⟩ : ByteArray)]) ?_ 3 _ rfl; (with_reducible repeat (first | refine blk_drewN ?_ _ | refine blk_drew ?_ | refine blk_alloc ?_ _)); refine blk_put (cs := #[.int .i64 ((rd_T49 l0 0).f0), .int .i64 ((rd_T49 l0 0).f1), .bool false, .int .i64 0, .string (⟨#[]⟩ : ByteArray)]) ?_ 2 _ rfl; (with_reducible repeat (first | refine blk_drewN ?_ _ | refine blk_drew ?_ | refine blk_alloc ?_ _)); refine blk_put (cs := #[.int .i64 ((rd_T49 l0 0).f0), .int .i64 0, .bool false, .int .i64 0, .string (⟨#[]⟩ : ByteArray)]) ?_ 1 _ rfl; (with_reducible repeat (first | refine blk_drewN ?_ _ | refine blk_drew ?_ | refine blk_alloc ?_ _)); refine blk_put (cs := #[.int .i64 0, .int .i64 0, .bool false, .int .i64 0, .string (⟨#[]⟩ : ByteArray)]) ?_ 0 _ rfl; (with_reducible repeat (first | refine blk_drewN ?_ _ | refine blk_drew ?_ | refine blk_alloc ?_ _)); exact BK147.out⟩, ⟨by repeat (first | (with_reducible first | exact HB.out | apply below_alloc | apply pw_below_drewN | apply below_drew1 | refine below_set ?_ GE145.out | refine below_set ?_ GE147.out) | exact HB.out)⟩⟩
                  · rw [if_neg c26] at H
                    have c26b0 : (t140 != ((rd_T49 l0 0).f2)) = false := by simpa using c26
                    (try (have c26b1 : decide (t140 = ((rd_T49 l0 0).f2)) = true := by simpa using c26))
                    (try (have c26b2 : (t140 == ((rd_T49 l0 0).f2)) = true := by simpa using c26))
                    clear c26
                    by_cases c30 : t141 = ((rd_T49 l0 0).f3)
                    · rw [if_pos c30] at H
                      have c30b0 : (t141 == ((rd_T49 l0 0).f3)) = true := beq_iff_eq.mpr c30
                      have c30b1 : (t141 != ((rd_T49 l0 0).f3)) = false := bne_eq_false_iff_eq.mpr c30
                      clear c30
                      by_cases c31 : (wrap64 (t143 + t142)) = (t137.size : Int)
                      · rw [if_pos c31] at H
                        have c31b0 : ((wrap64 (t143 + t142)) == (t137.size : Int)) = true := beq_iff_eq.mpr c31
                        have c31b1 : ((wrap64 (t143 + t142)) != (t137.size : Int)) = false := bne_eq_false_iff_eq.mpr c31
                        clear c31
                        by_cases c32 : t143 < 2
                        · rw [if_pos c32] at H
                          have c32b0 : decide (t143 < 2) = true := decide_eq_true c32
                          clear c32
                          have H' := Aside0.mk H
                          clear H
                          have hnb33 := NB145_147.out
                          have hnc33 := NB147_145.out
                          have hcz34_0 : w21.cell? ⟨gb145, 0, none⟩ = some (.int .i64 t139) := (blk_cell BK145.out 0).trans rfl
                          have hcz34_1 : w21.cell? ⟨gb145, 1, none⟩ = some (.bool t140) := (blk_cell BK145.out 1).trans rfl
                          have hcz34_2 : w21.cell? ⟨gb145, 2, none⟩ = some (.int .i64 t141) := (blk_cell BK145.out 2).trans rfl
                          have hcz34_3 : w21.cell? ⟨gb145, 3, none⟩ = some (.int .i64 t142) := (blk_cell BK145.out 3).trans rfl
                          have hcz34_4 : w21.cell? ⟨gb145, 4, none⟩ = some (.int .i64 t143) := (blk_cell BK145.out 4).trans rfl
                          have hfz34_0 := blk_frozen BK145.out 0
                          have hfz34_1 := blk_frozen BK145.out 1
                          have hfz34_2 := blk_frozen BK145.out 2
                          have hfz34_3 := blk_frozen BK145.out 3
                          have hfz34_4 := blk_frozen BK145.out 4
                          have hcz35_0 : w21.cell? ⟨gb147, 0, none⟩ = some (.int .i64 0) := (blk_cell BK147.out 0).trans rfl
                          have hcz35_1 : w21.cell? ⟨gb147, 1, none⟩ = some (.int .i64 0) := (blk_cell BK147.out 1).trans rfl
                          have hcz35_2 : w21.cell? ⟨gb147, 2, none⟩ = some (.bool false) := (blk_cell BK147.out 2).trans rfl
                          have hcz35_3 : w21.cell? ⟨gb147, 3, none⟩ = some (.int .i64 0) := (blk_cell BK147.out 3).trans rfl
                          have hcz35_4 : w21.cell? ⟨gb147, 4, none⟩ = some (.string (⟨#[]⟩ : ByteArray)) := (blk_cell BK147.out 4).trans rfl
                          have hfz35_0 := blk_frozen BK147.out 0
                          have hfz35_1 := blk_frozen BK147.out 1
                          have hfz35_2 := blk_frozen BK147.out 2
                          have hfz35_3 := blk_frozen BK147.out 3
                          have hfz35_4 := blk_frozen BK147.out 4
                          go_wp2
                          go_meet
                          case rel => exact ⟨_, (true), (by first | rfl | (simp; done) | (simp [*]; done) | (simp [show ∀ l_ : List UInt8, l_.isEmpty = !(l_ != []) from fun l_ => by cases l_ <;> rfl]; done)), H', ⟨by have := HJ6.out; first | omega | exact Nat.le_refl _⟩, ⟨by (with_reducible repeat (first | refine blk_drewN ?_ _ | refine blk_drew ?_ | refine blk_alloc ?_ _)); refine blk_far ?_ NB145_147.out _; (with_reducible repeat (first | refine blk_drewN ?_ _ | refine blk_drew ?_ | refine blk_alloc ?_ _)); refine blk_far ?_ NB145_147.out _; (with_reducible repeat (first | refine blk_drewN ?_ _ | refine blk_drew ?_ | refine blk_alloc ?_ _)); refine blk_far ?_ NB145_147.out _; (with_reducible repeat (first | refine blk_drewN ?_ _ | refine blk_drew ?_ | refine blk_alloc ?_ _)); refine blk_far ?_ NB145_147.out _; (with_reducible repeat (first | refine blk_drewN ?_ _ | refine blk_drew ?_ | refine blk_alloc ?_ _)); refine blk_far ?_ NB145_147.out _; (with_reducible repeat (first | refine blk_drewN ?_ _ | refine blk_drew ?_ | refine blk_alloc ?_ _)); exact BK145.out⟩, ⟨by (with_reducible repeat (first | refine blk_drewN ?_ _ | refine blk_drew ?_ | refine blk_alloc ?_ _)); refine blk_put (cs := #[.int .i64 ((rd_T49 l0 0).f0), .int .i64 ((rd_T49 l0 0).f1), .bool ((rd_T49 l0 0).f2), .int .i64 ((rd_T49 l0 0).f3), .string (⟨#[]⟩ : ByteArray)]) ?_ 4 _ rfl; (with_reducible repeat (first | refine blk_drewN ?_ _ | refine blk_drew ?_ | refine blk_alloc ?_ _)); refine blk_put (cs := #[.int .i64 ((rd_T49 l0 0).f0), .int .i64 ((rd_T49 l0 0).f1), .bool ((rd_T49 l0 0).f2), .int .i64 0, .string (⟨#[]⟩ : ByteArray)]) ?_ 3 _ rfl; (with_reducible repeat (first | refine blk_drewN ?_ _ | refine blk_drew ?_ | refine blk_alloc ?_ _)); refine blk_put (cs := #[.int .i64 ((rd_T49 l0 0).f0), .int .i64 ((rd_T49 l0 0).f1), .bool false, .int .i64 0, .string (⟨#[]⟩ : ByteArray)]) ?_ 2 _ rfl; (with_reducible repeat (first | refine blk_drewN ?_ _ | refine blk_drew ?_ | refine blk_alloc ?_ _)); refine blk_put (cs := #[.int .i64 ((rd_T49 l0 0).f0), .int .i64 0, .bool false, .int .i64 0, .string (⟨#[]⟩ : ByteArray)]) ?_ 1 _ rfl; (with_reducible repeat (first | refine blk_drewN ?_ _ | refine blk_drew ?_ | refine blk_alloc ?_ _)); refine blk_put (cs := #[.int .i64 0, .int .i64 0, .bool false, .int .i64 0, .string (⟨#[]⟩ : ByteArray)]) ?_ 0 _ rfl; (with_reducible repeat (first | refine blk_drewN ?_ _ | refine blk_drew ?_ | refine blk_alloc ?_ _)); exact BK147.out⟩, ⟨by repeat (first | (with_reducible first | exact HB.out | apply below_alloc | apply pw_below_drewN | apply below_drew1 | refine below_set ?_ GE145.out | refine below_set ?_ GE147.out) | exact HB.out)⟩⟩
                        · rw [if_neg c32] at H
                          have c32b0 : decide (t143 < 2) = false := decide_eq_false c32
                          clear c32
                          have H' := Aside0.mk H
                          clear H
                          have hnb36 := NB145_147.out
                          have hnc36 := NB147_145.out
                          have hcz37_0 : w21.cell? ⟨gb145, 0, none⟩ = some (.int .i64 t139) := (blk_cell BK145.out 0).trans rfl
                          have hcz37_1 : w21.cell? ⟨gb145, 1, none⟩ = some (.bool t140) := (blk_cell BK145.out 1).trans rfl
                          have hcz37_2 : w21.cell? ⟨gb145, 2, none⟩ = some (.int .i64 t141) := (blk_cell BK145.out 2).trans rfl
                          have hcz37_3 : w21.cell? ⟨gb145, 3, none⟩ = some (.int .i64 t142) := (blk_cell BK145.out 3).trans rfl
                          have hcz37_4 : w21.cell? ⟨gb145, 4, none⟩ = some (.int .i64 t143) := (blk_cell BK145.out 4).trans rfl
                          have hfz37_0 := blk_frozen BK145.out 0
                          have hfz37_1 := blk_frozen BK145.out 1
                          have hfz37_2 := blk_frozen BK145.out 2
                          have hfz37_3 := blk_frozen BK145.out 3
                          have hfz37_4 := blk_frozen BK145.out 4
                          have hcz38_0 : w21.cell? ⟨gb147, 0, none⟩ = some (.int .i64 0) := (blk_cell BK147.out 0).trans rfl
                          have hcz38_1 : w21.cell? ⟨gb147, 1, none⟩ = some (.int .i64 0) := (blk_cell BK147.out 1).trans rfl
                          have hcz38_2 : w21.cell? ⟨gb147, 2, none⟩ = some (.bool false) := (blk_cell BK147.out 2).trans rfl
                          have hcz38_3 : w21.cell? ⟨gb147, 3, none⟩ = some (.int .i64 0) := (blk_cell BK147.out 3).trans rfl
                          have hcz38_4 : w21.cell? ⟨gb147, 4, none⟩ = some (.string (⟨#[]⟩ : ByteArray)) := (blk_cell BK147.out 4).trans rfl
                          have hfz38_0 := blk_frozen BK147.out 0
                          have hfz38_1 := blk_frozen BK147.out 1
                          have hfz38_2 := blk_frozen BK147.out 2
                          have hfz38_3 := blk_frozen BK147.out 3
                          have hfz38_4 := blk_frozen BK147.out 4
                          go_wp2
                          go_meet
                          case rel => exact ⟨_, (decide (t143 > 6)), (by first | rfl | (simp; done) | (simp [*]; done) | (simp [show ∀ l_ : List UInt8, l_.isEmpty = !(l_ != []) from fun l_ => by cases l_ <;> rfl]; done)), H', ⟨by have := HJ6.out; first | omega | exact Nat.le_refl _⟩, ⟨by (with_reducible repeat (first | refine blk_drewN ?_ _ | refine blk_drew ?_ | refine blk_alloc ?_ _)); refine blk_far ?_ NB145_147.out _; (with_reducible repeat (first | refine blk_drewN ?_ _ | refine blk_drew ?_ | refine blk_alloc ?_ _)); refine blk_far ?_ NB145_147.out _; (with_reducible repeat (first | refine blk_drewN ?_ _ | refine blk_drew ?_ | refine blk_alloc ?_ _)); refine blk_far ?_ NB145_147.out _; (with_reducible repeat (first | refine blk_drewN ?_ _ | refine blk_drew ?_ | refine blk_alloc ?_ _)); refine blk_far ?_ NB145_147.out _; (with_reducible repeat (first | refine blk_drewN ?_ _ | refine blk_drew ?_ | refine blk_alloc ?_ _)); refine blk_far ?_ NB145_147.out _; (with_reducible repeat (first | refine blk_drewN ?_ _ | refine blk_drew ?_ | refine blk_alloc ?_ _)); exact BK145.out⟩, ⟨by (with_reducible repeat (first | refine blk_drewN ?_ _ | refine blk_drew ?_ | refine blk_alloc ?_ _)); refine blk_put (cs := #[.int .i64 ((rd_T49 l0 0).f0), .int .i64 ((rd_T49 l0 0).f1), .bool ((rd_T49 l0 0).f2), .int .i64 ((rd_T49 l0 0).f3), .string (⟨#[]⟩ : ByteArray)]) ?_ 4 _ rfl; (with_reducible repeat (first | refine blk_drewN ?_ _ | refine blk_drew ?_ | refine blk_alloc ?_ _)); refine blk_put (cs := #[.int .i64 ((rd_T49 l0 0).f0), .int .i64 ((rd_T49 l0 0).f1), .bool ((rd_T49 l0 0).f2), .int .i64 0, .string (⟨#[]⟩ : ByteArray)]) ?_ 3 _ rfl; (with_reducible repeat (first | refine blk_drewN ?_ _ | refine blk_drew ?_ | refine blk_alloc ?_ _)); refine blk_put (cs := #[.int .i64 ((rd_T49 l0 0).f0), .int .i64 ((rd_T49 l0 0).f1), .bool false, .int .i64 0, .string (⟨#[]⟩ : ByteArray)]) ?_ 2 _ rfl; (with_reducible repeat (first | refine blk_drewN ?_ _ | refine blk_drew ?_ | refine blk_alloc ?_ _)); refine blk_put (cs := #[.int .i64 ((rd_T49 l0 0).f0), .int .i64 0, .bool false, .int .i64 0, .string (⟨#[]⟩ : ByteArray)]) ?_ 1 _ rfl; (with_reducible repeat (first | refine blk_drewN ?_ _ | refine blk_drew ?_ | refine blk_alloc ?_ _)); refine blk_put (cs := #[.int .i64 0, .int .i64 0, .bool false, .int .i64 0, .string (⟨#[]⟩ : ByteArray)]) ?_ 0 _ rfl; (with_reducible repeat (first | refine blk_drewN ?_ _ | refine blk_drew ?_ | refine blk_alloc ?_ _)); exact BK147.out⟩, ⟨by repeat (first | (with_reducible first | exact HB.out | apply below_alloc | apply pw_below_drewN | apply below_drew1 | refine below_set ?_ GE145.out | refine below_set ?_ GE147.out) | exact HB.out)⟩⟩
                      · rw [if_neg c31] at H
                        have c31b0 : ((wrap64 (t143 + t142)) == (t137.size : Int)) = false := beq_eq_false_iff_ne.mpr c31
                        have c31b1 : ((wrap64 (t143 + t142)) != (t137.size : Int)) = true := bne_iff_ne.mpr c31
                        have H' := Aside0.mk H
                        clear H
                        have hnb39 := NB145_147.out
                        have hnc39 := NB147_145.out
                        have hcz40_0 : w21.cell? ⟨gb145, 0, none⟩ = some (.int .i64 t139) := (blk_cell BK145.out 0).trans rfl
                        have hcz40_1 : w21.cell? ⟨gb145, 1, none⟩ = some (.bool t140) := (blk_cell BK145.out 1).trans rfl
                        have hcz40_2 : w21.cell? ⟨gb145, 2, none⟩ = some (.int .i64 t141) := (blk_cell BK145.out 2).trans rfl
                        have hcz40_3 : w21.cell? ⟨gb145, 3, none⟩ = some (.int .i64 t142) := (blk_cell BK145.out 3).trans rfl
                        have hcz40_4 : w21.cell? ⟨gb145, 4, none⟩ = some (.int .i64 t143) := (blk_cell BK145.out 4).trans rfl
                        have hfz40_0 := blk_frozen BK145.out 0
                        have hfz40_1 := blk_frozen BK145.out 1
                        have hfz40_2 := blk_frozen BK145.out 2
                        have hfz40_3 := blk_frozen BK145.out 3
                        have hfz40_4 := blk_frozen BK145.out 4
                        have hcz41_0 : w21.cell? ⟨gb147, 0, none⟩ = some (.int .i64 0) := (blk_cell BK147.out 0).trans rfl
                        have hcz41_1 : w21.cell? ⟨gb147, 1, none⟩ = some (.int .i64 0) := (blk_cell BK147.out 1).trans rfl
                        have hcz41_2 : w21.cell? ⟨gb147, 2, none⟩ = some (.bool false) := (blk_cell BK147.out 2).trans rfl
                        have hcz41_3 : w21.cell? ⟨gb147, 3, none⟩ = some (.int .i64 0) := (blk_cell BK147.out 3).trans rfl
                        have hcz41_4 : w21.cell? ⟨gb147, 4, none⟩ = some (.string (⟨#[]⟩ : ByteArray)) := (blk_cell BK147.out 4).trans rfl
                        have hfz41_0 := blk_frozen BK147.out 0
                        have hfz41_1 := blk_frozen BK147.out 1
                        have hfz41_2 := blk_frozen BK147.out 2
                        have hfz41_3 := blk_frozen BK147.out 3
                        have hfz41_4 := blk_frozen BK147.out 4
                        go_wp2
                        go_meet
                        case rel => exact ⟨_, (true), (by first | rfl | (simp; done) | (simp [*]; done) | (simp [show ∀ l_ : List UInt8, l_.isEmpty = !(l_ != []) from fun l_ => by cases l_ <;> rfl]; done)), H', ⟨by have := HJ6.out; first | omega | exact Nat.le_refl _⟩, ⟨by (with_reducible repeat (first | refine blk_drewN ?_ _ | refine blk_drew ?_ | refine blk_alloc ?_ _)); refine blk_far ?_ NB145_147.out _; (with_reducible repeat (first | refine blk_drewN ?_ _ | refine blk_drew ?_ | refine blk_alloc ?_ _)); refine blk_far ?_ NB145_147.out _; (with_reducible repeat (first | refine blk_drewN ?_ _ | refine blk_drew ?_ | refine blk_alloc ?_ _)); refine blk_far ?_ NB145_147.out _; (with_reducible repeat (first | refine blk_drewN ?_ _ | refine blk_drew ?_ | refine blk_alloc ?_ _)); refine blk_far ?_ NB145_147.out _; (with_reducible repeat (first | refine blk_drewN ?_ _ | refine blk_drew ?_ | refine blk_alloc ?_ _)); refine blk_far ?_ NB145_147.out _; (with_reducible repeat (first | refine blk_drewN ?_ _ | refine blk_drew ?_ | refine blk_alloc ?_ _)); exact BK145.out⟩, ⟨by (with_reducible repeat (first | refine blk_drewN ?_ _ | refine blk_drew ?_ | refine blk_alloc ?_ _)); refine blk_put (cs := #[.int .i64 ((rd_T49 l0 0).f0), .int .i64 ((rd_T49 l0 0).f1), .bool ((rd_T49 l0 0).f2), .int .i64 ((rd_T49 l0 0).f3), .string (⟨#[]⟩ : ByteArray)]) ?_ 4 _ rfl; (with_reducible repeat (first | refine blk_drewN ?_ _ | refine blk_drew ?_ | refine blk_alloc ?_ _)); refine blk_put (cs := #[.int .i64 ((rd_T49 l0 0).f0), .int .i64 ((rd_T49 l0 0).f1), .bool ((rd_T49 l0 0).f2), .int .i64 0, .string (⟨#[]⟩ : ByteArray)]) ?_ 3 _ rfl; (with_reducible repeat (first | refine blk_drewN ?_ _ | refine blk_drew ?_ | refine blk_alloc ?_ _)); refine blk_put (cs := #[.int .i64 ((rd_T49 l0 0).f0), .int .i64 ((rd_T49 l0 0).f1), .bool false, .int .i64 0, .string (⟨#[]⟩ : ByteArray)]) ?_ 2 _ rfl; (with_reducible repeat (first | refine blk_drewN ?_ _ | refine blk_drew ?_ | refine blk_alloc ?_ _)); refine blk_put (cs := #[.int .i64 ((rd_T49 l0 0).f0), .int .i64 0, .bool false, .int .i64 0, .string (⟨#[]⟩ : ByteArray)]) ?_ 1 _ rfl; (with_reducible repeat (first | refine blk_drewN ?_ _ | refine blk_drew ?_ | refine blk_alloc ?_ _)); refine blk_put (cs := #[.int .i64 0, .int .i64 0, .bool false, .int .i64 0, .string (⟨#[]⟩ : ByteArray)]) ?_ 0 _ rfl; (with_reducible repeat (first | refine blk_drewN ?_ _ | refine blk_drew ?_ | refine blk_alloc ?_ _)); exact BK147.out⟩, ⟨by repeat (first | (with_reducible first | exact HB.out | apply below_alloc | apply pw_below_drewN | apply below_drew1 | refine below_set ?_ GE145.out | refine below_set ?_ GE147.out) | exact HB.out)⟩⟩
                    · rw [if_neg c30] at H
                      have c30b0 : (t141 == ((rd_T49 l0 0).f3)) = false := beq_eq_false_iff_ne.mpr c30
                      have c30b1 : (t141 != ((rd_T49 l0 0).f3)) = true := bne_iff_ne.mpr c30
                      have H' := Aside0.mk H
                      clear H
                      have hnb42 := NB145_147.out
                      have hnc42 := NB147_145.out
                      have hcz43_0 : w21.cell? ⟨gb145, 0, none⟩ = some (.int .i64 t139) := (blk_cell BK145.out 0).trans rfl
                      have hcz43_1 : w21.cell? ⟨gb145, 1, none⟩ = some (.bool t140) := (blk_cell BK145.out 1).trans rfl
                      have hcz43_2 : w21.cell? ⟨gb145, 2, none⟩ = some (.int .i64 t141) := (blk_cell BK145.out 2).trans rfl
                      have hcz43_3 : w21.cell? ⟨gb145, 3, none⟩ = some (.int .i64 t142) := (blk_cell BK145.out 3).trans rfl
                      have hcz43_4 : w21.cell? ⟨gb145, 4, none⟩ = some (.int .i64 t143) := (blk_cell BK145.out 4).trans rfl
                      have hfz43_0 := blk_frozen BK145.out 0
                      have hfz43_1 := blk_frozen BK145.out 1
                      have hfz43_2 := blk_frozen BK145.out 2
                      have hfz43_3 := blk_frozen BK145.out 3
                      have hfz43_4 := blk_frozen BK145.out 4
                      have hcz44_0 : w21.cell? ⟨gb147, 0, none⟩ = some (.int .i64 0) := (blk_cell BK147.out 0).trans rfl
                      have hcz44_1 : w21.cell? ⟨gb147, 1, none⟩ = some (.int .i64 0) := (blk_cell BK147.out 1).trans rfl
                      have hcz44_2 : w21.cell? ⟨gb147, 2, none⟩ = some (.bool false) := (blk_cell BK147.out 2).trans rfl
                      have hcz44_3 : w21.cell? ⟨gb147, 3, none⟩ = some (.int .i64 0) := (blk_cell BK147.out 3).trans rfl
                      have hcz44_4 : w21.cell? ⟨gb147, 4, none⟩ = some (.string (⟨#[]⟩ : ByteArray)) := (blk_cell BK147.out 4).trans rfl
                      have hfz44_0 := blk_frozen BK147.out 0
                      have hfz44_1 := blk_frozen BK147.out 1
                      have hfz44_2 := blk_frozen BK147.out 2
                      have hfz44_3 := blk_frozen BK147.out 3
                      have hfz44_4 := blk_frozen BK147.out 4
                      go_wp2
                      go_meet
                      case rel => exact ⟨_, (true), (by first | rfl | (simp; done) | (simp [*]; done) | (simp [show ∀ l_ : List UInt8, l_.isEmpty = !(l_ != []) from fun l_ => by cases l_ <;> rfl]; done)), H', ⟨by have := HJ6.out; first | omega | exact Nat.le_refl _⟩, ⟨by (with_reducible repeat (first | refine blk_drewN ?_ _ | refine blk_drew ?_ | refine blk_alloc ?_ _)); refine blk_far ?_ NB145_147.out _; (with_reducible repeat (first | refine blk_drewN ?_ _ | refine blk_drew ?_ | refine blk_alloc ?_ _)); refine blk_far ?_ NB145_147.out _; (with_reducible repeat (first | refine blk_drewN ?_ _ | refine blk_drew ?_ | refine blk_alloc ?_ _)); refine blk_far ?_ NB145_147.out _; (with_reducible repeat (first | refine blk_drewN ?_ _ | refine blk_drew ?_ | refine blk_alloc ?_ _)); refine blk_far ?_ NB145_147.out _; (with_reducible repeat (first | refine blk_drewN ?_ _ | refine blk_drew ?_ | refine blk_alloc ?_ _)); refine blk_far ?_ NB145_147.out _; (with_reducible repeat (first | refine blk_drewN ?_ _ | refine blk_drew ?_ | refine blk_alloc ?_ _)); exact BK145.out⟩, ⟨by (with_reducible repeat (first | refine blk_drewN ?_ _ | refine blk_drew ?_ | refine blk_alloc ?_ _)); refine blk_put (cs := #[.int .i64 ((rd_T49 l0 0).f0), .int .i64 ((rd_T49 l0 0).f1), .bool ((rd_T49 l0 0).f2), .int .i64 ((rd_T49 l0 0).f3), .string (⟨#[]⟩ : ByteArray)]) ?_ 4 _ rfl; (with_reducible repeat (first | refine blk_drewN ?_ _ | refine blk_drew ?_ | refine blk_alloc ?_ _)); refine blk_put (cs := #[.int .i64 ((rd_T49 l0 0).f0), .int .i64 ((rd_T49 l0 0).f1), .bool ((rd_T49 l0 0).f2), .int .i64 0, .string (⟨#[]⟩ : ByteArray)]) ?_ 3 _ rfl; (with_reducible repeat (first | refine blk_drewN ?_ _ | refine blk_drew ?_ | refine blk_alloc ?_ _)); refine blk_put (cs := #[.int .i64 ((rd_T49 l0 0).f0), .int .i64 ((rd_T49 l0 0).f1), .bool false, .int .i64 0, .string (⟨#[]⟩ : ByteArray)]) ?_ 2 _ rfl; (with_reducible repeat (first | refine blk_drewN ?_ _ | refine blk_drew ?_ | refine blk_alloc ?_ _)); refine blk_put (cs := #[.int .i64 ((rd_T49 l0 0).f0), .int .i64 0, .bool false, .int .i64 0, .string (⟨#[]⟩ : ByteArray)]) ?_ 1 _ rfl; (with_reducible repeat (first | refine blk_drewN ?_ _ | refine blk_drew ?_ | refine blk_alloc ?_ _)); refine blk_put (cs := #[.int .i64 0, .int .i64 0, .bool false, .int .i64 0, .string (⟨#[]⟩ : ByteArray)]) ?_ 0 _ rfl; (with_reducible repeat (first | refine blk_drewN ?_ _ | refine blk_drew ?_ | refine blk_alloc ?_ _)); exact BK147.out⟩, ⟨by repeat (first | (with_reducible first | exact HB.out | apply below_alloc | apply pw_below_drewN | apply below_drew1 | refine below_set ?_ GE145.out | refine below_set ?_ GE147.out) | exact HB.out)⟩⟩
                · rw [if_neg c25] at H
                  have c25b0 : (t139 == ((rd_T49 l0 0).f1)) = false := beq_eq_false_iff_ne.mpr c25
                  have c25b1 : (t139 != ((rd_T49 l0 0).f1)) = true := bne_iff_ne.mpr c25
                  have H' := Aside0.mk H
                  clear H
                  have hnb45 := NB145_147.out
                  have hnc45 := NB147_145.out
                  have hcz46_0 : w21.cell? ⟨gb145, 0, none⟩ = some (.int .i64 t139) := (blk_cell BK145.out 0).trans rfl
                  have hcz46_1 : w21.cell? ⟨gb145, 1, none⟩ = some (.bool t140) := (blk_cell BK145.out 1).trans rfl
                  have hcz46_2 : w21.cell? ⟨gb145, 2, none⟩ = some (.int .i64 t141) := (blk_cell BK145.out 2).trans rfl
                  have hcz46_3 : w21.cell? ⟨gb145, 3, none⟩ = some (.int .i64 t142) := (blk_cell BK145.out 3).trans rfl
                  have hcz46_4 : w21.cell? ⟨gb145, 4, none⟩ = some (.int .i64 t143) := (blk_cell BK145.out 4).trans rfl
                  have hfz46_0 := blk_frozen BK145.out 0
                  have hfz46_1 := blk_frozen BK145.out 1
                  have hfz46_2 := blk_frozen BK145.out 2
                  have hfz46_3 := blk_frozen BK145.out 3
                  have hfz46_4 := blk_frozen BK145.out 4
                  have hcz47_0 : w21.cell? ⟨gb147, 0, none⟩ = some (.int .i64 0) := (blk_cell BK147.out 0).trans rfl
                  have hcz47_1 : w21.cell? ⟨gb147, 1, none⟩ = some (.int .i64 0) := (blk_cell BK147.out 1).trans rfl
                  have hcz47_2 : w21.cell? ⟨gb147, 2, none⟩ = some (.bool false) := (blk_cell BK147.out 2).trans rfl
                  have hcz47_3 : w21.cell? ⟨gb147, 3, none⟩ = some (.int .i64 0) := (blk_cell BK147.out 3).trans rfl
                  have hcz47_4 : w21.cell? ⟨gb147, 4, none⟩ = some (.string (⟨#[]⟩ : ByteArray)) := (blk_cell BK147.out 4).trans rfl
                  have hfz47_0 := blk_frozen BK147.out 0
                  have hfz47_1 := blk_frozen BK147.out 1
                  have hfz47_2 := blk_frozen BK147.out 2
                  have hfz47_3 := blk_frozen BK147.out 3
                  have hfz47_4 := blk_frozen BK147.out 4
                  go_wp2
                  go_meet
                  case rel => exact ⟨_, (true), (by first | rfl | (simp; done) | (simp [*]; done) | (simp [show ∀ l_ : List UInt8, l_.isEmpty = !(l_ != []) from fun l_ => by cases l_ <;> rfl]; done)), H', ⟨by have := HJ6.out; first | omega | exact Nat.le_refl _⟩, ⟨by (with_reducible repeat (first | refine blk_drewN ?_ _ | refine blk_drew ?_ | refine blk_alloc ?_ _)); refine blk_far ?_ NB145_147.out _; (with_reducible repeat (first | refine blk_drewN ?_ _ | refine blk_drew ?_ | refine blk_alloc ?_ _)); refine blk_far ?_ NB145_147.out _; (with_reducible repeat (first | refine blk_drewN ?_ _ | refine blk_drew ?_ | refine blk_alloc ?_ _)); refine blk_far ?_ NB145_147.out _; (with_reducible repeat (first | refine blk_drewN ?_ _ | refine blk_drew ?_ | refine blk_alloc ?_ _)); refine blk_far ?_ NB145_147.out _; (with_reducible repeat (first | refine blk_drewN ?_ _ | refine blk_drew ?_ | refine blk_alloc ?_ _)); refine blk_far ?_ NB145_147.out _; (with_reducible repeat (first | refine blk_drewN ?_ _ | refine blk_drew ?_ | refine blk_alloc ?_ _)); exact BK145.out⟩, ⟨by (with_reducible repeat (first | refine blk_drewN ?_ _ | refine blk_drew ?_ | refine blk_alloc ?_ _)); refine blk_put (cs := #[.int .i64 ((rd_T49 l0 0).f0), .int .i64 ((rd_T49 l0 0).f1), .bool ((rd_T49 l0 0).f2), .int .i64 ((rd_T49 l0 0).f3), .string (⟨#[]⟩ : ByteArray)]) ?_ 4 _ rfl; (with_reducible repeat (first | refine blk_drewN ?_ _ | refine blk_drew ?_ | refine blk_alloc ?_ _)); refine blk_put (cs := #[.int .i64 ((rd_T49 l0 0).f0), .int .i64 ((rd_T49 l0 0).f1), .bool ((rd_T49 l0 0).f2), .int .i64 0, .string (⟨#[]⟩ : ByteArray)]) ?_ 3 _ rfl; (with_reducible repeat (first | refine blk_drewN ?_ _ | refine blk_drew ?_ | refine blk_alloc ?_ _)); refine blk_put (cs := #[.int .i64 ((rd_T49 l0 0).f0), .int .i64 ((rd_T49 l0 0).f1), .bool false, .int .i64 0, .string (⟨#[]⟩ : ByteArray)]) ?_ 2 _ rfl; (with_reducible repeat (first | refine blk_drewN ?_ _ | refine blk_drew ?_ | refine blk_alloc ?_ _)); refine blk_put (cs := #[.int .i64 ((rd_T49 l0 0).f0), .int .i64 0, .bool false, .int .i64 0, .string (⟨#[]⟩ : ByteArray)]) ?_ 1 _ rfl; (with_reducible repeat (first | refine blk_drewN ?_ _ | refine blk_drew ?_ | refine blk_alloc ?_ _)); refine blk_put (cs := #[.int .i64 0, .int .i64 0, .bool false, .int .i64 0, .string (⟨#[]⟩ : ByteArray)]) ?_ 0 _ rfl; (with_reducible repeat (first | refine blk_drewN ?_ _ | refine blk_drew ?_ | refine blk_alloc ?_ _)); exact BK147.out⟩, ⟨by repeat (first | (with_reducible first | exact HB.out | apply below_alloc | apply pw_below_drewN | apply below_drew1 | refine below_set ?_ GE145.out | refine below_set ?_ GE147.out) | exact HB.out)⟩⟩
              · rw [if_neg c24] at H
                have c24b0 : (t144 == 0) = false := beq_eq_false_iff_ne.mpr c24
                have c24b1 : (t144 != 0) = true := bne_iff_ne.mpr c24
                (first | rw [c24b0] | (simp only [i64_w, i32_w]; rw [c24b0]) | skip)
                have H' := Aside0.mk H
                clear H
                go_wp2
                go_meet
                case rel => exact ⟨_, (true), (by first | rfl | (simp; done) | (simp [*]; done) | (simp [show ∀ l_ : List UInt8, l_.isEmpty = !(l_ != []) from fun l_ => by cases l_ <;> rfl]; done)), H', ⟨by have := HJ6.out; first | omega | exact Nat.le_refl _⟩, ⟨by (with_reducible repeat (first | refine blk_drewN ?_ _ | refine blk_drew ?_ | refine blk_alloc ?_ _)); refine blk_far ?_ NB145_147.out _; (with_reducible repeat (first | refine blk_drewN ?_ _ | refine blk_drew ?_ | refine blk_alloc ?_ _)); refine blk_far ?_ NB145_147.out _; (with_reducible repeat (first | refine blk_drewN ?_ _ | refine blk_drew ?_ | refine blk_alloc ?_ _)); refine blk_far ?_ NB145_147.out _; (with_reducible repeat (first | refine blk_drewN ?_ _ | refine blk_drew ?_ | refine blk_alloc ?_ _)); refine blk_far ?_ NB145_147.out _; (with_reducible repeat (first | refine blk_drewN ?_ _ | refine blk_drew ?_ | refine blk_alloc ?_ _)); refine blk_far ?_ NB145_147.out _; (with_reducible repeat (first | refine blk_drewN ?_ _ | refine blk_drew ?_ | refine blk_alloc ?_ _)); exact BK145.out⟩, ⟨by (with_reducible repeat (first | refine blk_drewN ?_ _ | refine blk_drew ?_ | refine blk_alloc ?_ _)); refine blk_put (cs := #[.int .i64 ((rd_T49 l0 0).f0), .int .i64 ((rd_T49 l0 0).f1), .bool ((rd_T49 l0 0).f2), .int .i64 ((rd_T49 l0 0).f3), .string (⟨#[]⟩ : ByteArray)]) ?_ 4 _ rfl; (with_reducible repeat (first | refine blk_drewN ?_ _ | refine blk_drew ?_ | refine blk_alloc ?_ _)); refine blk_put (cs := #[.int .i64 ((rd_T49 l0 0).f0), .int .i64 ((rd_T49 l0 0).f1), .bool ((rd_T49 l0 0).f2), .int .i64 0, .string (⟨#[]⟩ : ByteArray)]) ?_ 3 _ rfl; (with_reducible repeat (first | refine blk_drewN ?_ _ | refine blk_drew ?_ | refine blk_alloc ?_ _)); refine blk_put (cs := #[.int .i64 ((rd_T49 l0 0).f0), .int .i64 ((rd_T49 l0 0).f1), .bool false, .int .i64 0, .string (⟨#[]⟩ : ByteArray)]) ?_ 2 _ rfl; (with_reducible repeat (first | refine blk_drewN ?_ _ | refine blk_drew ?_ | refine blk_alloc ?_ _)); refine blk_put (cs := #[.int .i64 ((rd_T49 l0 0).f0), .int .i64 0, .bool false, .int .i64 0, .string (⟨#[]⟩ : ByteArray)]) ?_ 1 _ rfl; (with_reducible repeat (first | refine blk_drewN ?_ _ | refine blk_drew ?_ | refine blk_alloc ?_ _)); refine blk_put (cs := #[.int .i64 0, .int .i64 0, .bool false, .int .i64 0, .string (⟨#[]⟩ : ByteArray)]) ?_ 0 _ rfl; (with_reducible repeat (first | refine blk_drewN ?_ _ | refine blk_drew ?_ | refine blk_alloc ?_ _)); exact BK147.out⟩, ⟨by repeat (first | (with_reducible first | exact HB.out | apply below_alloc | apply pw_below_drewN | apply below_drew1 | refine below_set ?_ GE145.out | refine below_set ?_ GE147.out) | exact HB.out)⟩⟩
            case rest =>
              clear HC16
              try clear c1
              try clear p1
              try clear q1
              try clear hx1
              try clear qi1
              try clear c2
              try clear p2
              try clear c3
              try clear c4
              try clear p6
              try clear c8
              try clear c10
              try clear c11
              try clear c13
              try clear c13b0
              try clear c13b1
              try clear c13b2
              try clear p14
              try clear q14
              try clear hx14
              try clear qi14
              try clear c15
              try clear c15b0
              try clear c15b1
              try clear c15b2
              try clear c22
              try clear c24
              try clear c24b0
              try clear c24b1
              try clear c25
              try clear c25b0
              try clear c25b1
              try clear c26
              try clear c26b0
              try clear c26b1
              try clear c26b2
              try clear c27
              try clear c30
              try clear c30b0
              try clear c30b1
              try clear c31
              try clear c31b0
              try clear c31b1
              try clear c32
              try clear c32b0
              try clear c33
              try clear c34
              try clear c36
              try clear c39
              try clear c42
              try clear c45
              try clear hcz20_0
              try clear hcz20_1
              try clear hcz20_2
              try clear hcz20_3
              try clear hcz20_4
              try clear hcz23_0
              try clear hcz23_1
              try clear hcz23_2
              try clear hcz23_3
              try clear hcz23_4
              try clear hcz28_0
              try clear hcz28_1
              try clear hcz28_2
              try clear hcz28_3
              try clear hcz28_4
              try clear hcz29_0
              try clear hcz29_1
              try clear hcz29_2
              try clear hcz29_3
              try clear hcz29_4
              try clear hcz34_0
              try clear hcz34_1
              try clear hcz34_2
              try clear hcz34_3
              try clear hcz34_4
              try clear hcz35_0
              try clear hcz35_1
              try clear hcz35_2
              try clear hcz35_3
              try clear hcz35_4
              try clear hcz37_0
              try clear hcz37_1
              try clear hcz37_2
              try clear hcz37_3
              try clear hcz37_4
              try clear hcz38_0
              try clear hcz38_1
              try clear hcz38_2
              try clear hcz38_3
              try clear hcz38_4
              try clear hcz40_0
              try clear hcz40_1
              try clear hcz40_2
              try clear hcz40_3
              try clear hcz40_4
              try clear hcz41_0
              try clear hcz41_1
              try clear hcz41_2
              try clear hcz41_3
              try clear hcz41_4
              try clear hcz43_0
              try clear hcz43_1
              try clear hcz43_2
              try clear hcz43_3
              try clear hcz43_4
              try clear hcz44_0
              try clear hcz44_1
              try clear hcz44_2
              try clear hcz44_3
              try clear hcz44_4
              try clear hcz46_0
              try clear hcz46_1
              try clear hcz46_2
              try clear hcz46_3
              try clear hcz46_4
              try clear hcz47_0
              try clear hcz47_1
              try clear hcz47_2
              try clear hcz47_3
              try clear hcz47_4
              try clear hfz20_0
              try clear hfz20_1
              try clear hfz20_2
              try clear hfz20_3
              try clear hfz20_4
              try clear hfz23_0
              try clear hfz23_1
              try clear hfz23_2
              try clear hfz23_3
              try clear hfz23_4
              try clear hfz28_0
              try clear hfz28_1
              try clear hfz28_2
              try clear hfz28_3
              try clear hfz28_4
              try clear hfz29_0
              try clear hfz29_1
              try clear hfz29_2
              try clear hfz29_3
              try clear hfz29_4
              try clear hfz34_0
              try clear hfz34_1
              try clear hfz34_2
              try clear hfz34_3
              try clear hfz34_4
              try clear hfz35_0
              try clear hfz35_1
              try clear hfz35_2
              try clear hfz35_3
              try clear hfz35_4
              try clear hfz37_0
              try clear hfz37_1
              try clear hfz37_2
              try clear hfz37_3
              try clear hfz37_4
              try clear hfz38_0
              try clear hfz38_1
              try clear hfz38_2
              try clear hfz38_3
              try clear hfz38_4
              try clear hfz40_0
              try clear hfz40_1
              try clear hfz40_2
              try clear hfz40_3
              try clear hfz40_4
              try clear hfz41_0
              try clear hfz41_1
              try clear hfz41_2
              try clear hfz41_3
              try clear hfz41_4
              try clear hfz43_0
              try clear hfz43_1
              try clear hfz43_2
              try clear hfz43_3
              try clear hfz43_4
              try clear hfz44_0
              try clear hfz44_1
              try clear hfz44_2
              try clear hfz44_3
              try clear hfz44_4
              try clear hfz46_0
              try clear hfz46_1
              try clear hfz46_2
              try clear hfz46_3
              try clear hfz46_4
              try clear hfz47_0
              try clear hfz47_1
              try clear hfz47_2
              try clear hfz47_3
              try clear hfz47_4
              try clear hx146_0
              try clear hx146_1
              try clear hx146_2
              try clear hx146_3
              try clear hx146_4
              try clear p146
              try clear p2
              try clear q146
              obtain ⟨kq, x86_15, rfl, HA, HJ15, BK145, BK147, HB⟩ := hcut
              cases kq with
              | zero => exact absurd HA.out (by simp [rosterlaw02_BerHeads.j1])
              | succ kj15 =>
                have H := HA.out
                clear HA
                simp only [rosterlaw02_BerHeads.j1] at H
                by_cases c48 : x86_15 = true
                · subst c48
                  have H1 : (some false) = some r := by rw [if_pos rfl] at H; exact H
                  clear H
                  have H := H1
                  clear H1
                  obtain rfl := Option.some.inj H
                  go_wp2
                  go_ret
                  exact ⟨by first | rfl | (simp [errW_none, errW_some] <;> rfl) | (simp [*, errW_none, errW_some] <;> rfl), by repeat (first | (with_reducible first | exact HB.out | apply below_alloc | apply pw_below_drewN | apply below_drew1 | refine below_set ?_ GE145.out | refine below_set ?_ GE147.out) | exact HB.out)⟩
                · replace c48 := Bool.eq_false_iff.mpr c48
                  subst c48
                  have H1 : (if a2 < 0 then (rosterlaw02_BerHeads.j2 kj15 a2 t137 true t139 t140 t141 t142 t143) else (rosterlaw02_BerHeads.j2 kj15 a2 t137 (decide (a2 ≥ (t137.size : Int))) t139 t140 t141 t142 t143)) = some r := by rw [if_neg (show ¬ (false = true) by decide)] at H; exact H
                  clear H
                  have H := H1
                  clear H1
                  have HC49 := Aside0.mk H
                  clear H
                  go_upto_region 10 with (fail)
                  go_cut [94] (fun v94 wc => ∃ (kq : Nat) (x94_48 : Bool), v94 = .bool x94_48 ∧ Aside0 (rosterlaw02_BerHeads.j2 kq a2 t137 x94_48 t139 t140 t141 t142 t143 = some r) ∧ Aside0 (kq ≤ kj15) ∧ Aside0 (wc.heap[gb145]? = some (.cells #[.int .i64 t139, .bool t140, .int .i64 t141, .int .i64 t142, .int .i64 t143] 40 (0, 0))) ∧ Aside0 (wc.heap[gb147]? = some (.cells #[.int .i64 ((rd_T49 l0 0).f0), .int .i64 ((rd_T49 l0 0).f1), .bool ((rd_T49 l0 0).f2), .int .i64 ((rd_T49 l0 0).f3), .string ((rd_T49 l0 0).f4)] 49 (0, 0))) ∧ Aside0 (Below w.heap.size w wc))
                  case first =>
                    have H := HC49.out
                    clear HC49
                    by_cases c50 : a2 < 0
                    · rw [if_pos c50] at H
                      have c50b0 : decide (a2 < 0) = true := decide_eq_true c50
                      clear c50
                      (first | rw [c50b0] | (simp only [i64_w, i32_w]; rw [c50b0]) | skip)
                      have H' := Aside0.mk H
                      clear H
                      go_wp2
                      go_meet
                      case rel => exact ⟨_, (true), (by first | rfl | (simp; done) | (simp [*]; done) | (simp [show ∀ l_ : List UInt8, l_.isEmpty = !(l_ != []) from fun l_ => by cases l_ <;> rfl]; done)), H', ⟨by have := HJ6.out; have := HJ15.out; first | omega | exact Nat.le_refl _⟩, ⟨by (with_reducible repeat (first | refine blk_drewN ?_ _ | refine blk_drew ?_ | refine blk_alloc ?_ _)); exact BK145.out⟩, ⟨by (with_reducible repeat (first | refine blk_drewN ?_ _ | refine blk_drew ?_ | refine blk_alloc ?_ _)); exact BK147.out⟩, ⟨by repeat (first | (with_reducible first | exact HB.out | apply below_alloc | apply pw_below_drewN | apply below_drew1 | refine below_set ?_ GE145.out | refine below_set ?_ GE147.out) | exact HB.out)⟩⟩
                    · rw [if_neg c50] at H
                      have c50b0 : decide (a2 < 0) = false := decide_eq_false c50
                      clear c50
                      (first | rw [c50b0] | (simp only [i64_w, i32_w]; rw [c50b0]) | skip)
                      have H' := Aside0.mk H
                      clear H
                      go_wp2
                      go_meet
                      case rel => exact ⟨_, (decide (a2 ≥ (t137.size : Int))), (by first | rfl | (simp; done) | (simp [*]; done) | (simp [show ∀ l_ : List UInt8, l_.isEmpty = !(l_ != []) from fun l_ => by cases l_ <;> rfl]; done)), H', ⟨by have := HJ6.out; have := HJ15.out; first | omega | exact Nat.le_refl _⟩, ⟨by (with_reducible repeat (first | refine blk_drewN ?_ _ | refine blk_drew ?_ | refine blk_alloc ?_ _)); exact BK145.out⟩, ⟨by (with_reducible repeat (first | refine blk_drewN ?_ _ | refine blk_drew ?_ | refine blk_alloc ?_ _)); exact BK147.out⟩, ⟨by repeat (first | (with_reducible first | exact HB.out | apply below_alloc | apply pw_below_drewN | apply below_drew1 | refine below_set ?_ GE145.out | refine below_set ?_ GE147.out) | exact HB.out)⟩⟩
                  case rest =>
                    clear HC49
                    try clear c1
                    try clear p1
                    try clear q1
                    try clear hx1
                    try clear qi1
                    try clear c2
                    try clear p2
                    try clear c3
                    try clear c4
                    try clear c5
                    try clear p6
                    try clear c8
                    try clear c10
                    try clear c11
                    try clear c13
                    try clear c13b0
                    try clear c13b1
                    try clear c13b2
                    try clear p14
                    try clear q14
                    try clear hx14
                    try clear qi14
                    try clear c15
                    try clear c15b0
                    try clear c15b1
                    try clear c15b2
                    try clear c22
                    try clear c24
                    try clear c24b0
                    try clear c24b1
                    try clear c25
                    try clear c25b0
                    try clear c25b1
                    try clear c26
                    try clear c26b0
                    try clear c26b1
                    try clear c26b2
                    try clear c27
                    try clear c30
                    try clear c30b0
                    try clear c30b1
                    try clear c31
                    try clear c31b0
                    try clear c31b1
                    try clear c32
                    try clear c32b0
                    try clear c33
                    try clear c34
                    try clear c36
                    try clear c39
                    try clear c42
                    try clear c45
                    try clear c48
                    try clear c50
                    try clear c50b0
                    try clear hcz20_0
                    try clear hcz20_1
                    try clear hcz20_2
                    try clear hcz20_3
                    try clear hcz20_4
                    try clear hcz23_0
                    try clear hcz23_1
                    try clear hcz23_2
                    try clear hcz23_3
                    try clear hcz23_4
                    try clear hcz28_0
                    try clear hcz28_1
                    try clear hcz28_2
                    try clear hcz28_3
                    try clear hcz28_4
                    try clear hcz29_0
                    try clear hcz29_1
                    try clear hcz29_2
                    try clear hcz29_3
                    try clear hcz29_4
                    try clear hcz34_0
                    try clear hcz34_1
                    try clear hcz34_2
                    try clear hcz34_3
                    try clear hcz34_4
                    try clear hcz35_0
                    try clear hcz35_1
                    try clear hcz35_2
                    try clear hcz35_3
                    try clear hcz35_4
                    try clear hcz37_0
                    try clear hcz37_1
                    try clear hcz37_2
                    try clear hcz37_3
                    try clear hcz37_4
                    try clear hcz38_0
                    try clear hcz38_1
                    try clear hcz38_2
                    try clear hcz38_3
                    try clear hcz38_4
                    try clear hcz40_0
                    try clear hcz40_1
                    try clear hcz40_2
                    try clear hcz40_3
                    try clear hcz40_4
                    try clear hcz41_0
                    try clear hcz41_1
                    try clear hcz41_2
                    try clear hcz41_3
                    try clear hcz41_4
                    try clear hcz43_0
                    try clear hcz43_1
                    try clear hcz43_2
                    try clear hcz43_3
                    try clear hcz43_4
                    try clear hcz44_0
                    try clear hcz44_1
                    try clear hcz44_2
                    try clear hcz44_3
                    try clear hcz44_4
                    try clear hcz46_0
                    try clear hcz46_1
                    try clear hcz46_2
                    try clear hcz46_3
                    try clear hcz46_4
                    try clear hcz47_0
                    try clear hcz47_1
                    try clear hcz47_2
                    try clear hcz47_3
                    try clear hcz47_4
                    try clear hfz20_0
                    try clear hfz20_1
                    try clear hfz20_2
                    try clear hfz20_3
                    try clear hfz20_4
                    try clear hfz23_0
                    try clear hfz23_1
                    try clear hfz23_2
                    try clear hfz23_3
                    try clear hfz23_4
                    try clear hfz28_0
                    try clear hfz28_1
                    try clear hfz28_2
                    try clear hfz28_3
                    try clear hfz28_4
                    try clear hfz29_0
                    try clear hfz29_1
                    try clear hfz29_2
                    try clear hfz29_3
                    try clear hfz29_4
                    try clear hfz34_0
                    try clear hfz34_1
                    try clear hfz34_2
                    try clear hfz34_3
                    try clear hfz34_4
                    try clear hfz35_0
                    try clear hfz35_1
                    try clear hfz35_2
                    try clear hfz35_3
                    try clear hfz35_4
                    try clear hfz37_0
                    try clear hfz37_1
                    try clear hfz37_2
                    try clear hfz37_3
                    try clear hfz37_4
                    try clear hfz38_0
                    try clear hfz38_1
                    try clear hfz38_2
                    try clear hfz38_3
                    try clear hfz38_4
                    try clear hfz40_0
                    try clear hfz40_1
                    try clear hfz40_2
                    try clear hfz40_3
                    try clear hfz40_4
                    try clear hfz41_0
                    try clear hfz41_1
                    try clear hfz41_2
                    try clear hfz41_3
                    try clear hfz41_4
                    try clear hfz43_0
                    try clear hfz43_1
                    try clear hfz43_2
                    try clear hfz43_3
                    try clear hfz43_4
                    try clear hfz44_0
                    try clear hfz44_1
                    try clear hfz44_2
                    try clear hfz44_3
                    try clear hfz44_4
                    try clear hfz46_0
                    try clear hfz46_1
                    try clear hfz46_2
                    try clear hfz46_3
                    try clear hfz46_4
                    try clear hfz47_0
                    try clear hfz47_1
                    try clear hfz47_2
                    try clear hfz47_3
                    try clear hfz47_4
                    try clear hx146_0
                    try clear hx146_1
                    try clear hx146_2
                    try clear hx146_3
                    try clear hx146_4
                    try clear p1
                    try clear p14
                    try clear p146
                    try clear p2
                    try clear p6
                    try clear q1
                    try clear q14
                    try clear q146
                    obtain ⟨kq, x94_48, rfl, HA, HJ48, BK145, BK147, HB⟩ := hcut
                    cases kq with
                    | zero => exact absurd HA.out (by simp [rosterlaw02_BerHeads.j2])
                    | succ kj48 =>
                      have H := HA.out
                      clear HA
                      simp only [rosterlaw02_BerHeads.j2] at H
                      by_cases c51 : x94_48 = true
                      · subst c51
                        have H1 : (some true) = some r := by rw [if_pos rfl] at H; exact H
                        clear H
                        have H := H1
                        clear H1
                        obtain rfl := Option.some.inj H
                        go_wp2
                        go_ret
                        exact ⟨by first | rfl | (simp [errW_none, errW_some] <;> rfl) | (simp [*, errW_none, errW_some] <;> rfl), by repeat (first | (with_reducible first | exact HB.out | apply below_alloc | apply pw_below_drewN | apply below_drew1 | refine below_set ?_ GE145.out | refine below_set ?_ GE147.out) | exact HB.out)⟩
                      · replace c51 := Bool.eq_false_iff.mpr c51
                        subst c51
                        have H1 : (if 0 ≤ a2 then (if a2 ≤ (t137.size : Int) then ((ber_Head.f (t137.extract 0 (a2 : Int).toNat)).bind fun bt148 => (if a2 < t143 then (if bt148.2.2.2.2.2 = 20 then (some (bt148.1 == 0 && (!bt148.2.1 && (bt148.2.2.1 == 0 && (bt148.2.2.2.1 == 0 && (bt148.2.2.2.2.1 == 0)))))) else (some false)) else (if bt148.2.2.2.2.2 = 0 then (some (bt148.1 == t139 && (bt148.2.1 == t140 && (bt148.2.2.1 == t141 && (bt148.2.2.2.1 == t142 && (bt148.2.2.2.2.1 == t143)))))) else (some false)))) else (none)) else (none)) = some r := by rw [if_neg (show ¬ (false = true) by decide)] at H; exact H
                        clear H
                        have H := H1
                        clear H1
                        by_cases c52 : 0 ≤ a2
                        · rw [if_pos c52] at H
                          have c52b0 := eq_true c52
                          have c52b1 : decide (0 ≤ a2) = true := decide_eq_true c52
                          clear c52
                          by_cases c53 : a2 ≤ (t137.size : Int)
                          · rw [if_pos c53] at H
                            have c53b0 := eq_true c53
                            have c53b1 : decide (a2 ≤ (t137.size : Int)) = true := decide_eq_true c53
                            clear c53
                            replace H := Option.bind_eq_some_iff.mp H
                            obtain ⟨⟨t148, t149, t150, t151, t152, t153⟩, A540, H⟩ := H
                            replace H : (if a2 < t143 then (if t153 = 20 then (some (t148 == 0 && (!t149 && (t150 == 0 && (t151 == 0 && (t152 == 0)))))) else (some false)) else (if t153 = 0 then (some (t148 == t139 && (t149 == t140 && (t150 == t141 && (t151 == t142 && (t152 == t143)))))) else (some false))) = some r := H
                            have A54 := Aside0.mk A540
                            clear A540
                            by_cases c55 : a2 < t143
                            · rw [if_pos c55] at H
                              have c55b0 : decide (a2 < t143) = true := decide_eq_true c55
                              clear c55
                              by_cases c56 : t153 = 20
                              · rw [if_pos c56] at H
                                have c56b0 : (t153 == 20) = true := beq_iff_eq.mpr c56
                                have c56b1 : (t153 != 20) = false := bne_eq_false_iff_eq.mpr c56
                                clear c56
                                obtain rfl := Option.some.inj H
                                go_wp2_with (first | ((with_reducible refine gate_callee (f := 30) rfl ?_); refine goesL_ (some 99) rfl rfl Try.func30 (by kernel_rfl) rfl #[.string (t137.extract 0 (a2 : Int).toNat)] rfl (by (try simp only [List.map_toArray, List.map_cons, List.map_nil]); first | done | rfl | (simp only [List.length_drop, List.length_take]; rfl)) ?_; (with_reducible refine (ber_Head.calls (t137.extract 0 (a2 : Int).toNat) t148 t149 t150 t151 t152 t153 _ A54.out).mono ?_); rintro e w57 ⟨rfl, hb⟩; refine ⟨_, rfl, ?_⟩; have n0_ := Aside0.mk (blk_below (g := gb145) (o := .cells #[.int .i64 t139, .bool t140, .int .i64 t141, .int .i64 t142, .int .i64 t143] 40 (0, 0)) (by (with_reducible repeat (first | refine blk_drewN ?_ _ | refine blk_drew ?_ | refine blk_alloc ?_ _)); exact BK145.out) hb); have n1_ := Aside0.mk (blk_below (g := gb147) (o := .cells #[.int .i64 ((rd_T49 l0 0).f0), .int .i64 ((rd_T49 l0 0).f1), .bool ((rd_T49 l0 0).f2), .int .i64 ((rd_T49 l0 0).f3), .string ((rd_T49 l0 0).f4)] 49 (0, 0)) (by (with_reducible repeat (first | refine blk_drewN ?_ _ | refine blk_drew ?_ | refine blk_alloc ?_ _)); exact BK147.out) hb); have n2_ := Aside0.mk (below_step (by repeat (first | (with_reducible first | exact HB.out | apply below_alloc | apply pw_below_drewN | apply below_drew1 | refine below_set ?_ GE145.out | refine below_set ?_ GE147.out) | exact HB.out)) hb); clear BK145; clear BK147; clear HB; have BK145 := n0_; have BK147 := n1_; have HB := n2_; clear n0_ n1_ n2_; (try clear hb); (try clear hb2); (try clear hk); (try clear hi)) | ((with_reducible refine gate_dst (N := 16) rfl ?_); (try (refine gate_guard (by rfl) ?_; dsimp only)); refine box_event ?hg (N := 16) ?hd (cs := #[.int .i64 0, .bool false, .int .i64 0, .int .i64 0, .int .i64 0]) (t := 40) ?hr ?_; (case hd => rfl); (case hg => rfl); (case hr => first | (go_simp; done) | (go_simp; rfl)); intro gb154 hg w58 hbox hb; have n0_ := Aside0.mk (blk_below (g := gb145) (o := .cells #[.int .i64 t139, .bool t140, .int .i64 t141, .int .i64 t142, .int .i64 t143] 40 (0, 0)) (by (with_reducible repeat (first | refine blk_drewN ?_ _ | refine blk_drew ?_ | refine blk_alloc ?_ _)); exact BK145.out) hb); have n1_ := Aside0.mk (blk_below (g := gb147) (o := .cells #[.int .i64 ((rd_T49 l0 0).f0), .int .i64 ((rd_T49 l0 0).f1), .bool ((rd_T49 l0 0).f2), .int .i64 ((rd_T49 l0 0).f3), .string ((rd_T49 l0 0).f4)] 49 (0, 0)) (by (with_reducible repeat (first | refine blk_drewN ?_ _ | refine blk_drew ?_ | refine blk_alloc ?_ _)); exact BK147.out) hb); have n2_ := Aside0.mk (below_step (by repeat (first | (with_reducible first | exact HB.out | apply below_alloc | apply pw_below_drewN | apply below_drew1 | refine below_set ?_ GE145.out | refine below_set ?_ GE147.out) | exact HB.out)) hb); have n3_ := Aside0.mk (hbox); have n4_ := Aside0.mk ((by rw [hg]; exact (below_size (by repeat (first | (with_reducible first | exact HB.out | apply below_alloc | apply pw_below_drewN | apply below_drew1 | refine below_set ?_ GE145.out | refine below_set ?_ GE147.out) | exact HB.out))) : w.heap.size ≤ gb154)); have n5_ := Aside0.mk ((by rw [hg]; exact (below_size (by repeat (first | (with_reducible first | exact HB.out | apply below_alloc | apply pw_below_drewN | apply below_drew1 | refine below_set ?_ GE145.out | refine below_set ?_ GE147.out) | exact HB.out))) : w.heap.size ≤ gb154)); have n6_ := Aside0.mk ((by rw [hg]; exact Nat.ne_of_lt (blk_lt (g := gb145) (o := .cells #[.int .i64 t139, .bool t140, .int .i64 t141, .int .i64 t142, .int .i64 t143] 40 (0, 0)) (by (with_reducible repeat (first | refine blk_drewN ?_ _ | refine blk_drew ?_ | refine blk_alloc ?_ _)); exact BK145.out)) : gb145 ≠ gb154)); have n7_ := Aside0.mk ((by rw [hg]; exact Nat.ne_of_gt (blk_lt (g := gb145) (o := .cells #[.int .i64 t139, .bool t140, .int .i64 t141, .int .i64 t142, .int .i64 t143] 40 (0, 0)) (by (with_reducible repeat (first | refine blk_drewN ?_ _ | refine blk_drew ?_ | refine blk_alloc ?_ _)); exact BK145.out)) : gb154 ≠ gb145)); have n8_ := Aside0.mk ((by rw [hg]; exact Nat.ne_of_lt (blk_lt (g := gb147) (o := .cells #[.int .i64 ((rd_T49 l0 0).f0), .int .i64 ((rd_T49 l0 0).f1), .bool ((rd_T49 l0 0).f2), .int .i64 ((rd_T49 l0 0).f3), .string ((rd_T49 l0 0).f4)] 49 (0, 0)) (by (with_reducible repeat (first | refine blk_drewN ?_ _ | refine blk_drew ?_ | refine blk_alloc ?_ _)); exact BK147.out)) : gb147 ≠ gb154)); have n9_ := Aside0.mk ((by rw [hg]; exact Nat.ne_of_gt (blk_lt (g := gb147) (o := .cells #[.int .i64 ((rd_T49 l0 0).f0), .int .i64 ((rd_T49 l0 0).f1), .bool ((rd_T49 l0 0).f2), .int .i64 ((rd_T49 l0 0).f3), .string ((rd_T49 l0 0).f4)] 49 (0, 0)) (by (with_reducible repeat (first | refine blk_drewN ?_ _ | refine blk_drew ?_ | refine blk_alloc ?_ _)); exact BK147.out)) : gb154 ≠ gb147)); clear BK145; clear BK147; clear HB; have BK145 := n0_; have BK147 := n1_; have HB := n2_; have BK154 := n3_; have GW154 := n4_; have GE154 := n5_; have NB145_154 := n6_; have NB154_145 := n7_; have NB147_154 := n8_; have NB154_147 := n9_; clear n0_ n1_ n2_ n3_ n4_ n5_ n6_ n7_ n8_ n9_; clear hb hbox hg; have hnb59 := NB154_145.out; have hnc59 := NB145_154.out; have hnb60 := NB154_147.out; have hnc60 := NB147_154.out; have hcz61_0 : w58.cell? ⟨gb154, 0, none⟩ = some (.int .i64 0) := (blk_cell BK154.out 0).trans rfl; have hcz61_1 : w58.cell? ⟨gb154, 1, none⟩ = some (.bool false) := (blk_cell BK154.out 1).trans rfl; have hcz61_2 : w58.cell? ⟨gb154, 2, none⟩ = some (.int .i64 0) := (blk_cell BK154.out 2).trans rfl; have hcz61_3 : w58.cell? ⟨gb154, 3, none⟩ = some (.int .i64 0) := (blk_cell BK154.out 3).trans rfl; have hcz61_4 : w58.cell? ⟨gb154, 4, none⟩ = some (.int .i64 0) := (blk_cell BK154.out 4).trans rfl; have hfz61_0 := blk_frozen BK154.out 0; have hfz61_1 := blk_frozen BK154.out 1; have hfz61_2 := blk_frozen BK154.out 2; have hfz61_3 := blk_frozen BK154.out 3; have hfz61_4 := blk_frozen BK154.out 4; have hnb62 := NB145_147.out; have hnc62 := NB147_145.out; have hcz63_0 : w58.cell? ⟨gb145, 0, none⟩ = some (.int .i64 t139) := (blk_cell BK145.out 0).trans rfl; have hcz63_1 : w58.cell? ⟨gb145, 1, none⟩ = some (.bool t140) := (blk_cell BK145.out 1).trans rfl; have hcz63_2 : w58.cell? ⟨gb145, 2, none⟩ = some (.int .i64 t141) := (blk_cell BK145.out 2).trans rfl; have hcz63_3 : w58.cell? ⟨gb145, 3, none⟩ = some (.int .i64 t142) := (blk_cell BK145.out 3).trans rfl; have hcz63_4 : w58.cell? ⟨gb145, 4, none⟩ = some (.int .i64 t143) := (blk_cell BK145.out 4).trans rfl; have hfz63_0 := blk_frozen BK145.out 0; have hfz63_1 := blk_frozen BK145.out 1; have hfz63_2 := blk_frozen BK145.out 2; have hfz63_3 := blk_frozen BK145.out 3; have hfz63_4 := blk_frozen BK145.out 4))
                                go_ret
                                exact ⟨by first | rfl | (simp [errW_none, errW_some] <;> rfl) | (simp [*, errW_none, errW_some] <;> rfl), by repeat (first | (with_reducible first | exact HB.out | apply below_alloc | apply pw_below_drewN | apply below_drew1 | refine below_set ?_ GE145.out | refine below_set ?_ GE147.out | refine below_set ?_ GE154.out) | exact HB.out)⟩
                              · rw [if_neg c56] at H
                                have c56b0 : (t153 == 20) = false := beq_eq_false_iff_ne.mpr c56
                                have c56b1 : (t153 != 20) = true := bne_iff_ne.mpr c56
                                obtain rfl := Option.some.inj H
                                go_wp2_with (first | ((with_reducible refine gate_callee (f := 30) rfl ?_); refine goesL_ (some 99) rfl rfl Try.func30 (by kernel_rfl) rfl #[.string (t137.extract 0 (a2 : Int).toNat)] rfl (by (try simp only [List.map_toArray, List.map_cons, List.map_nil]); first | done | rfl | (simp only [List.length_drop, List.length_take]; rfl)) ?_; (with_reducible refine (ber_Head.calls (t137.extract 0 (a2 : Int).toNat) t148 t149 t150 t151 t152 t153 _ A54.out).mono ?_); rintro e w64 ⟨rfl, hb⟩; refine ⟨_, rfl, ?_⟩; have n0_ := Aside0.mk (blk_below (g := gb145) (o := .cells #[.int .i64 t139, .bool t140, .int .i64 t141, .int .i64 t142, .int .i64 t143] 40 (0, 0)) (by (with_reducible repeat (first | refine blk_drewN ?_ _ | refine blk_drew ?_ | refine blk_alloc ?_ _)); exact BK145.out) hb); have n1_ := Aside0.mk (blk_below (g := gb147) (o := .cells #[.int .i64 ((rd_T49 l0 0).f0), .int .i64 ((rd_T49 l0 0).f1), .bool ((rd_T49 l0 0).f2), .int .i64 ((rd_T49 l0 0).f3), .string ((rd_T49 l0 0).f4)] 49 (0, 0)) (by (with_reducible repeat (first | refine blk_drewN ?_ _ | refine blk_drew ?_ | refine blk_alloc ?_ _)); exact BK147.out) hb); have n2_ := Aside0.mk (below_step (by repeat (first | (with_reducible first | exact HB.out | apply below_alloc | apply pw_below_drewN | apply below_drew1 | refine below_set ?_ GE145.out | refine below_set ?_ GE147.out) | exact HB.out)) hb); clear BK145; clear BK147; clear HB; have BK145 := n0_; have BK147 := n1_; have HB := n2_; clear n0_ n1_ n2_; (try clear hb); (try clear hb2); (try clear hk); (try clear hi)) | ((with_reducible refine gate_dst (N := 16) rfl ?_); (try (refine gate_guard (by rfl) ?_; dsimp only)); refine box_event ?hg (N := 16) ?hd (cs := #[.int .i64 0, .bool false, .int .i64 0, .int .i64 0, .int .i64 0]) (t := 40) ?hr ?_; (case hd => rfl); (case hg => rfl); (case hr => first | (go_simp; done) | (go_simp; rfl)); intro gb154 hg w65 hbox hb; have n0_ := Aside0.mk (blk_below (g := gb145) (o := .cells #[.int .i64 t139, .bool t140, .int .i64 t141, .int .i64 t142, .int .i64 t143] 40 (0, 0)) (by (with_reducible repeat (first | refine blk_drewN ?_ _ | refine blk_drew ?_ | refine blk_alloc ?_ _)); exact BK145.out) hb); have n1_ := Aside0.mk (blk_below (g := gb147) (o := .cells #[.int .i64 ((rd_T49 l0 0).f0), .int .i64 ((rd_T49 l0 0).f1), .bool ((rd_T49 l0 0).f2), .int .i64 ((rd_T49 l0 0).f3), .string ((rd_T49 l0 0).f4)] 49 (0, 0)) (by (with_reducible repeat (first | refine blk_drewN ?_ _ | refine blk_drew ?_ | refine blk_alloc ?_ _)); exact BK147.out) hb); have n2_ := Aside0.mk (below_step (by repeat (first | (with_reducible first | exact HB.out | apply below_alloc | apply pw_below_drewN | apply below_drew1 | refine below_set ?_ GE145.out | refine below_set ?_ GE147.out) | exact HB.out)) hb); have n3_ := Aside0.mk (hbox); have n4_ := Aside0.mk ((by rw [hg]; exact (below_size (by repeat (first | (with_reducible first | exact HB.out | apply below_alloc | apply pw_below_drewN | apply below_drew1 | refine below_set ?_ GE145.out | refine below_set ?_ GE147.out) | exact HB.out))) : w.heap.size ≤ gb154)); have n5_ := Aside0.mk ((by rw [hg]; exact (below_size (by repeat (first | (with_reducible first | exact HB.out | apply below_alloc | apply pw_below_drewN | apply below_drew1 | refine below_set ?_ GE145.out | refine below_set ?_ GE147.out) | exact HB.out))) : w.heap.size ≤ gb154)); have n6_ := Aside0.mk ((by rw [hg]; exact Nat.ne_of_lt (blk_lt (g := gb145) (o := .cells #[.int .i64 t139, .bool t140, .int .i64 t141, .int .i64 t142, .int .i64 t143] 40 (0, 0)) (by (with_reducible repeat (first | refine blk_drewN ?_ _ | refine blk_drew ?_ | refine blk_alloc ?_ _)); exact BK145.out)) : gb145 ≠ gb154)); have n7_ := Aside0.mk ((by rw [hg]; exact Nat.ne_of_gt (blk_lt (g := gb145) (o := .cells #[.int .i64 t139, .bool t140, .int .i64 t141, .int .i64 t142, .int .i64 t143] 40 (0, 0)) (by (with_reducible repeat (first | refine blk_drewN ?_ _ | refine blk_drew ?_ | refine blk_alloc ?_ _)); exact BK145.out)) : gb154 ≠ gb145)); have n8_ := Aside0.mk ((by rw [hg]; exact Nat.ne_of_lt (blk_lt (g := gb147) (o := .cells #[.int .i64 ((rd_T49 l0 0).f0), .int .i64 ((rd_T49 l0 0).f1), .bool ((rd_T49 l0 0).f2), .int .i64 ((rd_T49 l0 0).f3), .string ((rd_T49 l0 0).f4)] 49 (0, 0)) (by (with_reducible repeat (first | refine blk_drewN ?_ _ | refine blk_drew ?_ | refine blk_alloc ?_ _)); exact BK147.out)) : gb147 ≠ gb154)); have n9_ := Aside0.mk ((by rw [hg]; exact Nat.ne_of_gt (blk_lt (g := gb147) (o := .cells #[.int .i64 ((rd_T49 l0 0).f0), .int .i64 ((rd_T49 l0 0).f1), .bool ((rd_T49 l0 0).f2), .int .i64 ((rd_T49 l0 0).f3), .string ((rd_T49 l0 0).f4)] 49 (0, 0)) (by (with_reducible repeat (first | refine blk_drewN ?_ _ | refine blk_drew ?_ | refine blk_alloc ?_ _)); exact BK147.out)) : gb154 ≠ gb147)); clear BK145; clear BK147; clear HB; have BK145 := n0_; have BK147 := n1_; have HB := n2_; have BK154 := n3_; have GW154 := n4_; have GE154 := n5_; have NB145_154 := n6_; have NB154_145 := n7_; have NB147_154 := n8_; have NB154_147 := n9_; clear n0_ n1_ n2_ n3_ n4_ n5_ n6_ n7_ n8_ n9_; clear hb hbox hg; have hnb66 := NB154_145.out; have hnc66 := NB145_154.out; have hnb67 := NB154_147.out; have hnc67 := NB147_154.out; have hcz68_0 : w65.cell? ⟨gb154, 0, none⟩ = some (.int .i64 0) := (blk_cell BK154.out 0).trans rfl; have hcz68_1 : w65.cell? ⟨gb154, 1, none⟩ = some (.bool false) := (blk_cell BK154.out 1).trans rfl; have hcz68_2 : w65.cell? ⟨gb154, 2, none⟩ = some (.int .i64 0) := (blk_cell BK154.out 2).trans rfl; have hcz68_3 : w65.cell? ⟨gb154, 3, none⟩ = some (.int .i64 0) := (blk_cell BK154.out 3).trans rfl; have hcz68_4 : w65.cell? ⟨gb154, 4, none⟩ = some (.int .i64 0) := (blk_cell BK154.out 4).trans rfl; have hfz68_0 := blk_frozen BK154.out 0; have hfz68_1 := blk_frozen BK154.out 1; have hfz68_2 := blk_frozen BK154.out 2; have hfz68_3 := blk_frozen BK154.out 3; have hfz68_4 := blk_frozen BK154.out 4; have hnb69 := NB145_147.out; have hnc69 := NB147_145.out; have hcz70_0 : w65.cell? ⟨gb145, 0, none⟩ = some (.int .i64 t139) := (blk_cell BK145.out 0).trans rfl; have hcz70_1 : w65.cell? ⟨gb145, 1, none⟩ = some (.bool t140) := (blk_cell BK145.out 1).trans rfl; have hcz70_2 : w65.cell? ⟨gb145, 2, none⟩ = some (.int .i64 t141) := (blk_cell BK145.out 2).trans rfl; have hcz70_3 : w65.cell? ⟨gb145, 3, none⟩ = some (.int .i64 t142) := (blk_cell BK145.out 3).trans rfl; have hcz70_4 : w65.cell? ⟨gb145, 4, none⟩ = some (.int .i64 t143) := (blk_cell BK145.out 4).trans rfl; have hfz70_0 := blk_frozen BK145.out 0; have hfz70_1 := blk_frozen BK145.out 1; have hfz70_2 := blk_frozen BK145.out 2; have hfz70_3 := blk_frozen BK145.out 3; have hfz70_4 := blk_frozen BK145.out 4))
                                go_ret
                                exact ⟨by first | rfl | (simp [errW_none, errW_some] <;> rfl) | (simp [*, errW_none, errW_some] <;> rfl), by repeat (first | (with_reducible first | exact HB.out | apply below_alloc | apply pw_below_drewN | apply below_drew1 | refine below_set ?_ GE145.out | refine below_set ?_ GE147.out | refine below_set ?_ GE154.out) | exact HB.out)⟩
                            · rw [if_neg c55] at H
                              have c55b0 : decide (a2 < t143) = false := decide_eq_false c55
                              clear c55
                              by_cases c71 : t153 = 0
                              · rw [if_pos c71] at H
                                have c71b0 : (t153 == 0) = true := beq_iff_eq.mpr c71
                                have c71b1 : (t153 != 0) = false := bne_eq_false_iff_eq.mpr c71
                                clear c71
                                obtain rfl := Option.some.inj H
                                go_wp2_with (first | ((with_reducible refine gate_callee (f := 30) rfl ?_); refine goesL_ (some 99) rfl rfl Try.func30 (by kernel_rfl) rfl #[.string (t137.extract 0 (a2 : Int).toNat)] rfl (by (try simp only [List.map_toArray, List.map_cons, List.map_nil]); first | done | rfl | (simp only [List.length_drop, List.length_take]; rfl)) ?_; (with_reducible refine (ber_Head.calls (t137.extract 0 (a2 : Int).toNat) t148 t149 t150 t151 t152 t153 _ A54.out).mono ?_); rintro e w72 ⟨rfl, hb⟩; refine ⟨_, rfl, ?_⟩; have n0_ := Aside0.mk (blk_below (g := gb145) (o := .cells #[.int .i64 t139, .bool t140, .int .i64 t141, .int .i64 t142, .int .i64 t143] 40 (0, 0)) (by (with_reducible repeat (first | refine blk_drewN ?_ _ | refine blk_drew ?_ | refine blk_alloc ?_ _)); exact BK145.out) hb); have n1_ := Aside0.mk (blk_below (g := gb147) (o := .cells #[.int .i64 ((rd_T49 l0 0).f0), .int .i64 ((rd_T49 l0 0).f1), .bool ((rd_T49 l0 0).f2), .int .i64 ((rd_T49 l0 0).f3), .string ((rd_T49 l0 0).f4)] 49 (0, 0)) (by (with_reducible repeat (first | refine blk_drewN ?_ _ | refine blk_drew ?_ | refine blk_alloc ?_ _)); exact BK147.out) hb); have n2_ := Aside0.mk (below_step (by repeat (first | (with_reducible first | exact HB.out | apply below_alloc | apply pw_below_drewN | apply below_drew1 | refine below_set ?_ GE145.out | refine below_set ?_ GE147.out) | exact HB.out)) hb); clear BK145; clear BK147; clear HB; have BK145 := n0_; have BK147 := n1_; have HB := n2_; clear n0_ n1_ n2_; (try clear hb); (try clear hb2); (try clear hk); (try clear hi)) | ((with_reducible refine gate_dst (N := 16) rfl ?_); (try (refine gate_guard (by rfl) ?_; dsimp only)); refine box_event ?hg (N := 16) ?hd (cs := #[.int .i64 0, .bool false, .int .i64 0, .int .i64 0, .int .i64 0]) (t := 40) ?hr ?_; (case hd => rfl); (case hg => rfl); (case hr => first | (go_simp; done) | (go_simp; rfl)); intro gb154 hg w73 hbox hb; have n0_ := Aside0.mk (blk_below (g := gb145) (o := .cells #[.int .i64 t139, .bool t140, .int .i64 t141, .int .i64 t142, .int .i64 t143] 40 (0, 0)) (by (with_reducible repeat (first | refine blk_drewN ?_ _ | refine blk_drew ?_ | refine blk_alloc ?_ _)); exact BK145.out) hb); have n1_ := Aside0.mk (blk_below (g := gb147) (o := .cells #[.int .i64 ((rd_T49 l0 0).f0), .int .i64 ((rd_T49 l0 0).f1), .bool ((rd_T49 l0 0).f2), .int .i64 ((rd_T49 l0 0).f3), .string ((rd_T49 l0 0).f4)] 49 (0, 0)) (by (with_reducible repeat (first | refine blk_drewN ?_ _ | refine blk_drew ?_ | refine blk_alloc ?_ _)); exact BK147.out) hb); have n2_ := Aside0.mk (below_step (by repeat (first | (with_reducible first | exact HB.out | apply below_alloc | apply pw_below_drewN | apply below_drew1 | refine below_set ?_ GE145.out | refine below_set ?_ GE147.out) | exact HB.out)) hb); have n3_ := Aside0.mk (hbox); have n4_ := Aside0.mk ((by rw [hg]; exact (below_size (by repeat (first | (with_reducible first | exact HB.out | apply below_alloc | apply pw_below_drewN | apply below_drew1 | refine below_set ?_ GE145.out | refine below_set ?_ GE147.out) | exact HB.out))) : w.heap.size ≤ gb154)); have n5_ := Aside0.mk ((by rw [hg]; exact (below_size (by repeat (first | (with_reducible first | exact HB.out | apply below_alloc | apply pw_below_drewN | apply below_drew1 | refine below_set ?_ GE145.out | refine below_set ?_ GE147.out) | exact HB.out))) : w.heap.size ≤ gb154)); have n6_ := Aside0.mk ((by rw [hg]; exact Nat.ne_of_lt (blk_lt (g := gb145) (o := .cells #[.int .i64 t139, .bool t140, .int .i64 t141, .int .i64 t142, .int .i64 t143] 40 (0, 0)) (by (with_reducible repeat (first | refine blk_drewN ?_ _ | refine blk_drew ?_ | refine blk_alloc ?_ _)); exact BK145.out)) : gb145 ≠ gb154)); have n7_ := Aside0.mk ((by rw [hg]; exact Nat.ne_of_gt (blk_lt (g := gb145) (o := .cells #[.int .i64 t139, .bool t140, .int .i64 t141, .int .i64 t142, .int .i64 t143] 40 (0, 0)) (by (with_reducible repeat (first | refine blk_drewN ?_ _ | refine blk_drew ?_ | refine blk_alloc ?_ _)); exact BK145.out)) : gb154 ≠ gb145)); have n8_ := Aside0.mk ((by rw [hg]; exact Nat.ne_of_lt (blk_lt (g := gb147) (o := .cells #[.int .i64 ((rd_T49 l0 0).f0), .int .i64 ((rd_T49 l0 0).f1), .bool ((rd_T49 l0 0).f2), .int .i64 ((rd_T49 l0 0).f3), .string ((rd_T49 l0 0).f4)] 49 (0, 0)) (by (with_reducible repeat (first | refine blk_drewN ?_ _ | refine blk_drew ?_ | refine blk_alloc ?_ _)); exact BK147.out)) : gb147 ≠ gb154)); have n9_ := Aside0.mk ((by rw [hg]; exact Nat.ne_of_gt (blk_lt (g := gb147) (o := .cells #[.int .i64 ((rd_T49 l0 0).f0), .int .i64 ((rd_T49 l0 0).f1), .bool ((rd_T49 l0 0).f2), .int .i64 ((rd_T49 l0 0).f3), .string ((rd_T49 l0 0).f4)] 49 (0, 0)) (by (with_reducible repeat (first | refine blk_drewN ?_ _ | refine blk_drew ?_ | refine blk_alloc ?_ _)); exact BK147.out)) : gb154 ≠ gb147)); clear BK145; clear BK147; clear HB; have BK145 := n0_; have BK147 := n1_; have HB := n2_; have BK154 := n3_; have GW154 := n4_; have GE154 := n5_; have NB145_154 := n6_; have NB154_145 := n7_; have NB147_154 := n8_; have NB154_147 := n9_; clear n0_ n1_ n2_ n3_ n4_ n5_ n6_ n7_ n8_ n9_; clear hb hbox hg; have hnb74 := NB154_145.out; have hnc74 := NB145_154.out; have hnb75 := NB154_147.out; have hnc75 := NB147_154.out; have hcz76_0 : w73.cell? ⟨gb154, 0, none⟩ = some (.int .i64 0) := (blk_cell BK154.out 0).trans rfl; have hcz76_1 : w73.cell? ⟨gb154, 1, none⟩ = some (.bool false) := (blk_cell BK154.out 1).trans rfl; have hcz76_2 : w73.cell? ⟨gb154, 2, none⟩ = some (.int .i64 0) := (blk_cell BK154.out 2).trans rfl; have hcz76_3 : w73.cell? ⟨gb154, 3, none⟩ = some (.int .i64 0) := (blk_cell BK154.out 3).trans rfl; have hcz76_4 : w73.cell? ⟨gb154, 4, none⟩ = some (.int .i64 0) := (blk_cell BK154.out 4).trans rfl; have hfz76_0 := blk_frozen BK154.out 0; have hfz76_1 := blk_frozen BK154.out 1; have hfz76_2 := blk_frozen BK154.out 2; have hfz76_3 := blk_frozen BK154.out 3; have hfz76_4 := blk_frozen BK154.out 4; have hnb77 := NB145_147.out; have hnc77 := NB147_145.out; have hcz78_0 : w73.cell? ⟨gb145, 0, none⟩ = some (.int .i64 t139) := (blk_cell BK145.out 0).trans rfl; have hcz78_1 : w73.cell? ⟨gb145, 1, none⟩ = some (.bool t140) := (blk_cell BK145.out 1).trans rfl; have hcz78_2 : w73.cell? ⟨gb145, 2, none⟩ = some (.int .i64 t141) := (blk_cell BK145.out 2).trans rfl; have hcz78_3 : w73.cell? ⟨gb145, 3, none⟩ = some (.int .i64 t142) := (blk_cell BK145.out 3).trans rfl; have hcz78_4 : w73.cell? ⟨gb145, 4, none⟩ = some (.int .i64 t143) := (blk_cell BK145.out 4).trans rfl; have hfz78_0 := blk_frozen BK145.out 0; have hfz78_1 := blk_frozen BK145.out 1; have hfz78_2 := blk_frozen BK145.out 2; have hfz78_3 := blk_frozen BK145.out 3; have hfz78_4 := blk_frozen BK145.out 4))
                                go_ret
                                exact ⟨by first | rfl | (simp [errW_none, errW_some] <;> rfl) | (simp [*, errW_none, errW_some] <;> rfl), by repeat (first | (with_reducible first | exact HB.out | apply below_alloc | apply pw_below_drewN | apply below_drew1 | refine below_set ?_ GE145.out | refine below_set ?_ GE147.out | refine below_set ?_ GE154.out) | exact HB.out)⟩
                              · rw [if_neg c71] at H
                                have c71b0 : (t153 == 0) = false := beq_eq_false_iff_ne.mpr c71
                                have c71b1 : (t153 != 0) = true := bne_iff_ne.mpr c71
                                obtain rfl := Option.some.inj H
                                go_wp2_with (first | ((with_reducible refine gate_callee (f := 30) rfl ?_); refine goesL_ (some 99) rfl rfl Try.func30 (by kernel_rfl) rfl #[.string (t137.extract 0 (a2 : Int).toNat)] rfl (by (try simp only [List.map_toArray, List.map_cons, List.map_nil]); first | done | rfl | (simp only [List.length_drop, List.length_take]; rfl)) ?_; (with_reducible refine (ber_Head.calls (t137.extract 0 (a2 : Int).toNat) t148 t149 t150 t151 t152 t153 _ A54.out).mono ?_); rintro e w79 ⟨rfl, hb⟩; refine ⟨_, rfl, ?_⟩; have n0_ := Aside0.mk (blk_below (g := gb145) (o := .cells #[.int .i64 t139, .bool t140, .int .i64 t141, .int .i64 t142, .int .i64 t143] 40 (0, 0)) (by (with_reducible repeat (first | refine blk_drewN ?_ _ | refine blk_drew ?_ | refine blk_alloc ?_ _)); exact BK145.out) hb); have n1_ := Aside0.mk (blk_below (g := gb147) (o := .cells #[.int .i64 ((rd_T49 l0 0).f0), .int .i64 ((rd_T49 l0 0).f1), .bool ((rd_T49 l0 0).f2), .int .i64 ((rd_T49 l0 0).f3), .string ((rd_T49 l0 0).f4)] 49 (0, 0)) (by (with_reducible repeat (first | refine blk_drewN ?_ _ | refine blk_drew ?_ | refine blk_alloc ?_ _)); exact BK147.out) hb); have n2_ := Aside0.mk (below_step (by repeat (first | (with_reducible first | exact HB.out | apply below_alloc | apply pw_below_drewN | apply below_drew1 | refine below_set ?_ GE145.out | refine below_set ?_ GE147.out) | exact HB.out)) hb); clear BK145; clear BK147; clear HB; have BK145 := n0_; have BK147 := n1_; have HB := n2_; clear n0_ n1_ n2_; (try clear hb); (try clear hb2); (try clear hk); (try clear hi)) | ((with_reducible refine gate_dst (N := 16) rfl ?_); (try (refine gate_guard (by rfl) ?_; dsimp only)); refine box_event ?hg (N := 16) ?hd (cs := #[.int .i64 0, .bool false, .int .i64 0, .int .i64 0, .int .i64 0]) (t := 40) ?hr ?_; (case hd => rfl); (case hg => rfl); (case hr => first | (go_simp; done) | (go_simp; rfl)); intro gb154 hg w80 hbox hb; have n0_ := Aside0.mk (blk_below (g := gb145) (o := .cells #[.int .i64 t139, .bool t140, .int .i64 t141, .int .i64 t142, .int .i64 t143] 40 (0, 0)) (by (with_reducible repeat (first | refine blk_drewN ?_ _ | refine blk_drew ?_ | refine blk_alloc ?_ _)); exact BK145.out) hb); have n1_ := Aside0.mk (blk_below (g := gb147) (o := .cells #[.int .i64 ((rd_T49 l0 0).f0), .int .i64 ((rd_T49 l0 0).f1), .bool ((rd_T49 l0 0).f2), .int .i64 ((rd_T49 l0 0).f3), .string ((rd_T49 l0 0).f4)] 49 (0, 0)) (by (with_reducible repeat (first | refine blk_drewN ?_ _ | refine blk_drew ?_ | refine blk_alloc ?_ _)); exact BK147.out) hb); have n2_ := Aside0.mk (below_step (by repeat (first | (with_reducible first | exact HB.out | apply below_alloc | apply pw_below_drewN | apply below_drew1 | refine below_set ?_ GE145.out | refine below_set ?_ GE147.out) | exact HB.out)) hb); have n3_ := Aside0.mk (hbox); have n4_ := Aside0.mk ((by rw [hg]; exact (below_size (by repeat (first | (with_reducible first | exact HB.out | apply below_alloc | apply pw_below_drewN | apply below_drew1 | refine below_set ?_ GE145.out | refine below_set ?_ GE147.out) | exact HB.out))) : w.heap.size ≤ gb154)); have n5_ := Aside0.mk ((by rw [hg]; exact (below_size (by repeat (first | (with_reducible first | exact HB.out | apply below_alloc | apply pw_below_drewN | apply below_drew1 | refine below_set ?_ GE145.out | refine below_set ?_ GE147.out) | exact HB.out))) : w.heap.size ≤ gb154)); have n6_ := Aside0.mk ((by rw [hg]; exact Nat.ne_of_lt (blk_lt (g := gb145) (o := .cells #[.int .i64 t139, .bool t140, .int .i64 t141, .int .i64 t142, .int .i64 t143] 40 (0, 0)) (by (with_reducible repeat (first | refine blk_drewN ?_ _ | refine blk_drew ?_ | refine blk_alloc ?_ _)); exact BK145.out)) : gb145 ≠ gb154)); have n7_ := Aside0.mk ((by rw [hg]; exact Nat.ne_of_gt (blk_lt (g := gb145) (o := .cells #[.int .i64 t139, .bool t140, .int .i64 t141, .int .i64 t142, .int .i64 t143] 40 (0, 0)) (by (with_reducible repeat (first | refine blk_drewN ?_ _ | refine blk_drew ?_ | refine blk_alloc ?_ _)); exact BK145.out)) : gb154 ≠ gb145)); have n8_ := Aside0.mk ((by rw [hg]; exact Nat.ne_of_lt (blk_lt (g := gb147) (o := .cells #[.int .i64 ((rd_T49 l0 0).f0), .int .i64 ((rd_T49 l0 0).f1), .bool ((rd_T49 l0 0).f2), .int .i64 ((rd_T49 l0 0).f3), .string ((rd_T49 l0 0).f4)] 49 (0, 0)) (by (with_reducible repeat (first | refine blk_drewN ?_ _ | refine blk_drew ?_ | refine blk_alloc ?_ _)); exact BK147.out)) : gb147 ≠ gb154)); have n9_ := Aside0.mk ((by rw [hg]; exact Nat.ne_of_gt (blk_lt (g := gb147) (o := .cells #[.int .i64 ((rd_T49 l0 0).f0), .int .i64 ((rd_T49 l0 0).f1), .bool ((rd_T49 l0 0).f2), .int .i64 ((rd_T49 l0 0).f3), .string ((rd_T49 l0 0).f4)] 49 (0, 0)) (by (with_reducible repeat (first | refine blk_drewN ?_ _ | refine blk_drew ?_ | refine blk_alloc ?_ _)); exact BK147.out)) : gb154 ≠ gb147)); clear BK145; clear BK147; clear HB; have BK145 := n0_; have BK147 := n1_; have HB := n2_; have BK154 := n3_; have GW154 := n4_; have GE154 := n5_; have NB145_154 := n6_; have NB154_145 := n7_; have NB147_154 := n8_; have NB154_147 := n9_; clear n0_ n1_ n2_ n3_ n4_ n5_ n6_ n7_ n8_ n9_; clear hb hbox hg; have hnb81 := NB154_145.out; have hnc81 := NB145_154.out; have hnb82 := NB154_147.out; have hnc82 := NB147_154.out; have hcz83_0 : w80.cell? ⟨gb154, 0, none⟩ = some (.int .i64 0) := (blk_cell BK154.out 0).trans rfl; have hcz83_1 : w80.cell? ⟨gb154, 1, none⟩ = some (.bool false) := (blk_cell BK154.out 1).trans rfl; have hcz83_2 : w80.cell? ⟨gb154, 2, none⟩ = some (.int .i64 0) := (blk_cell BK154.out 2).trans rfl; have hcz83_3 : w80.cell? ⟨gb154, 3, none⟩ = some (.int .i64 0) := (blk_cell BK154.out 3).trans rfl; have hcz83_4 : w80.cell? ⟨gb154, 4, none⟩ = some (.int .i64 0) := (blk_cell BK154.out 4).trans rfl; have hfz83_0 := blk_frozen BK154.out 0; have hfz83_1 := blk_frozen BK154.out 1; have hfz83_2 := blk_frozen BK154.out 2; have hfz83_3 := blk_frozen BK154.out 3; have hfz83_4 := blk_frozen BK154.out 4; have hnb84 := NB145_147.out; have hnc84 := NB147_145.out; have hcz85_0 : w80.cell? ⟨gb145, 0, none⟩ = some (.int .i64 t139) := (blk_cell BK145.out 0).trans rfl; have hcz85_1 : w80.cell? ⟨gb145, 1, none⟩ = some (.bool t140) := (blk_cell BK145.out 1).trans rfl; have hcz85_2 : w80.cell? ⟨gb145, 2, none⟩ = some (.int .i64 t141) := (blk_cell BK145.out 2).trans rfl; have hcz85_3 : w80.cell? ⟨gb145, 3, none⟩ = some (.int .i64 t142) := (blk_cell BK145.out 3).trans rfl; have hcz85_4 : w80.cell? ⟨gb145, 4, none⟩ = some (.int .i64 t143) := (blk_cell BK145.out 4).trans rfl; have hfz85_0 := blk_frozen BK145.out 0; have hfz85_1 := blk_frozen BK145.out 1; have hfz85_2 := blk_frozen BK145.out 2; have hfz85_3 := blk_frozen BK145.out 3; have hfz85_4 := blk_frozen BK145.out 4))
                                go_ret
                                exact ⟨by first | rfl | (simp [errW_none, errW_some] <;> rfl) | (simp [*, errW_none, errW_some] <;> rfl), by repeat (first | (with_reducible first | exact HB.out | apply below_alloc | apply pw_below_drewN | apply below_drew1 | refine below_set ?_ GE145.out | refine below_set ?_ GE147.out | refine below_set ?_ GE154.out) | exact HB.out)⟩
                          · rw [if_neg c53] at H
                            exact absurd H (by simp)
                        · rw [if_neg c52] at H
                          exact absurd H (by simp)
          · rw [if_neg c15] at H
            exact absurd H (by simp)
        · rw [if_neg c13] at H
          exact absurd H (by simp)

end Go.Proofs.Ytolhmomnidlmaaa.GF
