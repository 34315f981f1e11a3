/- Texts of this claim in one: GOx3 -/
import Derived.Test.YtogjljpncdmlkaaDoorB3
import Derived.Test.YtogjljpncdmlkaaDoorB13
import Derived.Test.YtogjljpncdmlkaaDoorB12
import Derived.Test.YtogjljpncdmlkaaDoorB5
import Derived.Test.YtogjljpncdmlkaaDoorB14
section
namespace Go.Proofs.YtogjljpncdmlkaaDoor.GO
open Go.RowKit Go.Proofs.YtogjljpncdmlkaaDoorW.PrintWords Go.Proofs.YtogjljpncdmlkaaDoorW.PrintLast Go.Proofs.YtogjljpncdmlkaaDoorW.PrintMore
attribute [local go_sem] max2_int min2_int max_two min_two max_three min_three max_four min_four   -- for this text's walks alone
set_option linter.unusedVariables false
set_option linter.unusedSimpArgs false
attribute [local go_sem high] eqA25
def rosterlaw22_sameKeys.l0 : Nat → List (S25) → List (S25) → Int → Option (Bool)
 | 0, _, _, _ => none
 | k + 1, x0, x1, x5 => if x5 < (x0.length : Int) then (if 0 ≤ x5 then (if x5 < (x1.length : Int) then (if (!((((rd_T25 x0 x5).f0).toList) == (((rd_T25 x1 x5).f0).toList)) || (!((((rd_T25 x0 x5).f1).toList) == (((rd_T25 x1 x5).f1).toList)) || (!(((rd_T25 x0 x5).f2) == ((rd_T25 x1 x5).f2))))) = true then (some false) else (rosterlaw22_sameKeys.l0 k x0 x1 (wrap64 (x5 + 1)))) else (none)) else (none)) else (some true)
def rosterlaw22_sameKeys.f (k : Nat) (l0 : List (S25)) (l1 : List (S25)) : Option (Bool) := if (l0.length : Int) = (l1.length : Int) then (rosterlaw22_sameKeys.l0 k l0 l1 0) else (some false)
set_option maxHeartbeats 8000000 in
set_option maxRecDepth 100000 in
theorem rosterlaw22_sameKeys.calls (k : Nat) (A0 : Option Addr) (c0 : Nat) (l0 : List (S25)) (A1 : Option Addr) (c1 : Nat) (l1 : List (S25)) (r : Bool) (w : World) (hr0 : Kd.C k25 w A0 l0.length l0) (hc0 : l0.length ≤ c0) (hr1 : Kd.C k25 w A1 l1.length l1) (hc1 : l1.length ≤ c1) (h : rosterlaw22_sameKeys.f k l0 l1 = some r) :
  Calls Tryd.prog 8 #[.slice A0 l0.length c0, .slice A1 l1.length c1] w fun e w' => e = .returned (.bool r) ∧ Drawn0 w w' := by
 have hu25 := Tryd.underlying25
 have HR0 := Aside0.mk hr0
 have HC0 := Aside0.mk hc0
 clear hr0 hc0
 have HR1 := Aside0.mk hr1
 have HC1 := Aside0.mk hc1
 clear hr1 hc1
 have H : (if (l0.length : Int) = (l1.length : Int) then (rosterlaw22_sameKeys.l0 k l0 l1 0) else (some false)) = some r := h
 clear h
 by_cases c3 : (l0.length : Int) = (l1.length : Int)
 ·rw [if_pos c3] at H
  have c3b0 : ((l0.length : Int) == (l1.length : Int)) = true := beq_iff_eq.mpr c3
  have c3b1 : ((l0.length : Int) != (l1.length : Int)) = false := bne_eq_false_iff_eq.mpr c3
  have c3b2 : (l0.length == l1.length) = true := by first | simpa using c3 | (simp at c3 ⊢; omega)
  clear c3
  have H' := Aside0.mk H
  clear H
  go_enter Tryd.func8, Tryd.ntmps8
  go_wp2
  repeat (go_quiet (fail); try go_wp2)
  go_loopg [5] k (fun kq v5 w' => ∃ (x5_1 : Int), v5 = .int .i64 x5_1 ∧ Aside0 (rosterlaw22_sameKeys.l0 kq l0 l1 x5_1 = some r) ∧ Aside0 (kq ≤ k) ∧ Drawn0 w w')
  case atStart => exact ⟨(0), q3_, H', ⟨Nat.le_refl _⟩, q20_⟩
  case round =>
   clear H'
   try clear c1
   try clear p2
   try clear c3
   try clear c3b0
   try clear c3b1
   try clear c3b2
   obtain ⟨x5_1, rfl, HA, HK1, ⟨m1, rfl⟩⟩ := hrel
   cases gk with
   | zero => exact absurd HA.out (by simp [rosterlaw22_sameKeys.l0])
   | succ k1 =>
    have H := HA.out
    clear HA
    simp only [rosterlaw22_sameKeys.l0] at H
    by_cases c4 : x5_1 < (l0.length : Int)
    ·rw [if_pos c4] at H
     have c4b0 : decide (x5_1 < (l0.length : Int)) = true := decide_eq_true c4
     clear c4
     by_cases c5 : 0 ≤ x5_1
     ·rw [if_pos c5] at H
      have c5b0 : decide (0 ≤ x5_1) = true := decide_eq_true c5
      clear c5
      by_cases c6 : x5_1 < (l1.length : Int)
      ·rw [if_pos c6] at H
       have c6b0 : decide (x5_1 < (l1.length : Int)) = true := decide_eq_true c6
       clear c6
       by_cases c7 : (!((((rd_T25 l0 x5_1).f0).toList) == (((rd_T25 l1 x5_1).f0).toList)) || (!((((rd_T25 l0 x5_1).f1).toList) == (((rd_T25 l1 x5_1).f1).toList)) || (!(((rd_T25 l0 x5_1).f2) == ((rd_T25 l1 x5_1).f2))))) = true
       ·rw [if_pos c7] at H
        have c7b0 : (!((((rd_T25 l0 x5_1).f0).toList) == (((rd_T25 l1 x5_1).f0).toList)) || (!((((rd_T25 l0 x5_1).f1).toList) == (((rd_T25 l1 x5_1).f1).toList)) || (!(((rd_T25 l0 x5_1).f2) == ((rd_T25 l1 x5_1).f2))))) = true := c7
        clear c7
        obtain rfl := Option.some.inj H
        have p154 : 0 ≤ (x5_1 : Int) := of_decide_eq_true q4_
        have q154 : x5_1 < (l0.length : Int) := of_decide_eq_true q4_
        obtain ⟨ad154, e154, hx154_0, hx154_1, hx154_2⟩ := at_T25 HR0.out x5_1 p154 q154
        cases e154
        replace p154 := eq_true p154
        replace q154 := eq_true q154
        have p155 : 0 ≤ (x5_1 : Int) := of_decide_eq_true q4_
        have q155 : x5_1 < (l1.length : Int) := of_decide_eq_true q4_
        obtain ⟨ad155, e155, hx155_0, hx155_1, hx155_2⟩ := at_T25 HR1.out x5_1 p155 q155
        cases e155
        replace p155 := eq_true p155
        replace q155 := eq_true q155
        go_wp2
        repeat (go_quiet (fail); try go_wp2)
        go_ret
        exact ⟨q3_, q20_⟩
       ·rw [if_neg c7] at H
        have c7b0 : (!((((rd_T25 l0 x5_1).f0).toList) == (((rd_T25 l1 x5_1).f0).toList)) || (!((((rd_T25 l0 x5_1).f1).toList) == (((rd_T25 l1 x5_1).f1).toList)) || (!(((rd_T25 l0 x5_1).f2) == ((rd_T25 l1 x5_1).f2))))) = false := by simpa using c7
        clear c7
        have H' := Aside0.mk H
        clear H
        have p154 : 0 ≤ (x5_1 : Int) := of_decide_eq_true q4_
        have q154 : x5_1 < (l0.length : Int) := of_decide_eq_true q4_
        obtain ⟨ad154, e154, hx154_0, hx154_1, hx154_2⟩ := at_T25 HR0.out x5_1 p154 q154
        cases e154
        replace p154 := eq_true p154
        replace q154 := eq_true q154
        have p155 : 0 ≤ (x5_1 : Int) := of_decide_eq_true q4_
        have q155 : x5_1 < (l1.length : Int) := of_decide_eq_true q4_
        obtain ⟨ad155, e155, hx155_0, hx155_1, hx155_2⟩ := at_T25 HR1.out x5_1 p155 q155
        cases e155
        replace p155 := eq_true p155
        replace q155 := eq_true q155
        go_wp2
        repeat (go_quiet (fail); try go_wp2)
        go_roundg k1
        case measure => have := HK1.out; omega
        case rel => exact ⟨(wrap64 (x5_1 + 1)), q3_, H', ⟨by have := HK1.out; omega⟩, q20_⟩
      ·rw [if_neg c6] at H
       exact absurd H q21_
     ·rw [if_neg c5] at H
      exact absurd H q21_
    ·rw [if_neg c4] at H
     have c4b0 : decide (x5_1 < (l0.length : Int)) = false := decide_eq_false c4
     clear c4
     obtain rfl := Option.some.inj H
     go_wp2
     repeat (go_quiet (fail); try go_wp2)
     go_ret
     exact ⟨q3_, q20_⟩
 ·rw [if_neg c3] at H
  have c3b0 : ((l0.length : Int) == (l1.length : Int)) = false := beq_eq_false_iff_ne.mpr c3
  have c3b1 : ((l0.length : Int) != (l1.length : Int)) = true := bne_iff_ne.mpr c3
  have c3b2 : (l0.length == l1.length) = false := by first | simpa using c3 | (simp at c3 ⊢; omega)
  obtain rfl := Option.some.inj H
  go_enter Tryd.func8, Tryd.ntmps8
  go_wp2
  repeat (go_quiet (fail); try go_wp2)
  go_ret
  exact ⟨q3_, q20_⟩
def view_DecodeKeys.up (x : W.KeyT) : S25 := ⟨x.1, x.2.1, x.2.2⟩
def view_DecodeKeys.f (a0 : ByteArray) : Option (List S25 × Int) :=
 if a0.size ≤ 2097152 then some ((W.decKeys a0).1.map view_DecodeKeys.up, (W.decKeys a0).2) else none
theorem view_DecodeKeys.calls (a0 : ByteArray) (r1 : List S25) (r2 : Int) (w : World) (h : view_DecodeKeys.f a0 = some (r1, r2)) :
  Calls Tryd.prog 10 #[.string a0] w fun e w' => ∃ v0_ : Value, e = .returned (.tuple #[v0_, .int .i64 r2]) ∧ Kd.R k25 25 w' w.heap.size (fun _ => True) v0_ r1 ∧ Below w.heap.size w w' := by
 unfold view_DecodeKeys.f at h
 by_cases c : a0.size ≤ 2097152
 ·rw [if_pos c] at h
  simp only [Option.some.injEq, Prod.mk.injEq] at h
  obtain ⟨rfl, rfl⟩ := h
  refine (W.decKeys_any a0 w c).mono ?_
  rintro e w' ⟨v, h1, h2, h3⟩
  exact ⟨v, h1, W.R_of_map (d := W.kSK) view_DecodeKeys.up (fun _ => rfl) h2, h3⟩
 ·rw [if_neg c] at h
  cases h
def ber_PutInt.f (a0 : Int) : Option ByteArray :=
 if -9223372036854775808 ≤ a0 ∧ a0 ≤ 9223372036854775807 then some (W.putS a0) else none
theorem ber_PutInt.calls (a0 : Int) (r : ByteArray) (w : World) (h : ber_PutInt.f a0 = some r) :
  Calls Tryd.prog 33 #[.int .i64 a0] w fun e w' => e = .returned (.string r) ∧ Below w.heap.size w w' := by
 unfold ber_PutInt.f at h
 by_cases c : -9223372036854775808 ≤ a0 ∧ a0 ≤ 9223372036854775807
 ·rw [if_pos c] at h
  obtain rfl := Option.some.inj h
  exact W.PutInt_any a0 w c.1 c.2
 ·rw [if_neg c] at h
  cases h
def view_EncodePage.j0 : Nat → Int → ByteArray → Bool → Option (ByteArray × Int)
 | 0, _, _, _ => none
 | k + 1, x0, x1, x14 => if x14 = true then (some ((⟨#[]⟩ : ByteArray), 224)) else ((view_sequence.f 1).bind fun bt156 => ((ber_PutInt.f x0).bind fun t161 => ((view_octets.f 2 x1).bind fun bt162 => ((ber_Write.f (([(⟨bt156.1, bt156.2.1, bt156.2.2.1, bt156.2.2.2.1, bt156.2.2.2.2⟩ : S43), (⟨2, 0, false, 2, t161⟩ : S43), (⟨bt162.1, bt162.2.1, bt162.2.2.1, bt162.2.2.2.1, bt162.2.2.2.2⟩ : S43)] : List (S43)))).bind fun bt170 => (if bt170.2.1 = 0 then (some (bt170.1, 0)) else (some ((⟨#[]⟩ : ByteArray), 224)))))))
def view_EncodePage.f (k : Nat) (a0 : Int) (a1 : ByteArray) : Option (ByteArray × Int) := if a0 < 0 then (view_EncodePage.j0 k a0 a1 true) else (view_EncodePage.j0 k a0 a1 (decide (a0 > 2147483647)))
set_option maxHeartbeats 8000000 in
set_option maxRecDepth 100000 in
theorem view_EncodePage.calls (k : Nat) (a0 : Int) (a1 : ByteArray) (r1 : ByteArray) (r2 : Int) (w : World) (h : view_EncodePage.f k a0 a1 = some (r1, r2)) :
  Calls Tryd.prog 12 #[.int .i64 a0, .string a1] w fun e w' => e = .returned (.tuple #[.string r1, .int .i64 r2]) ∧ Below w.heap.size w w' := by
 have hu43 := Tryd.underlying43
 have HB := Aside0.mk (Below.refl w.heap.size w)
 have H : (if a0 < 0 then (view_EncodePage.j0 k a0 a1 true) else (view_EncodePage.j0 k a0 a1 (decide (a0 > 2147483647)))) = some (r1, r2) := h
 clear h
 have HC3 := Aside0.mk H
 clear H
 go_enter Tryd.func12, Tryd.ntmps12
 go_upto_region 1 with (fail)
 go_cut [14] (fun v14 wc => ∃ (kq : Nat) (x14_2 : Bool), v14 = .bool x14_2 ∧ Aside0 (view_EncodePage.j0 kq a0 a1 x14_2 = some (r1, r2)) ∧ Aside0 (kq ≤ k) ∧ Aside0 (Below w.heap.size w wc))
 case first =>
  have H := HC3.out
  clear HC3
  by_cases c4 : a0 < 0
  ·rw [if_pos c4] at H
   have c4b0 : decide (a0 < 0) = true := decide_eq_true c4
   clear c4
   (first | rw [c4b0] | rw [c4be] | (simp only [i64_w, i32_w]; rw [c4b0]) | skip)
   have H' := Aside0.mk H
   clear H
   go_wp2
   go_meet
   case rel => exact ⟨_, (true), q3_, H', ⟨q40_⟩, ⟨q1_⟩⟩
  ·rw [if_neg c4] at H
   have c4b0 : decide (a0 < 0) = false := decide_eq_false c4
   clear c4
   (first | rw [c4b0] | rw [c4be] | (simp only [i64_w, i32_w]; rw [c4b0]) | skip)
   have H' := Aside0.mk H
   clear H
   go_wp2
   go_meet
   case rel => exact ⟨_, (decide (a0 > 2147483647)), q3_, H', ⟨q40_⟩, ⟨q1_⟩⟩
 case rest =>
  clear HC3
  try clear c1
  try clear p2
  try clear c4
  try clear c4b0
  obtain ⟨kq, x14_2, rfl, HA, HJ2, HB⟩ := hcut
  cases kq with
  | zero => exact absurd HA.out (by simp [view_EncodePage.j0])
  | succ kj2 =>
   have H := HA.out
   clear HA
   simp only [view_EncodePage.j0] at H
   by_cases c5 : x14_2 = true
   ·subst c5
    have H1 : (some ((⟨#[]⟩ : ByteArray), 224)) = some (r1, r2) := by rw [if_pos rfl] at H; exact H
    clear H
    have H := H1
    clear H1
    simp only [Option.some.injEq, Prod.mk.injEq] at H
    obtain ⟨rfl, rfl⟩ := H
    go_wp2
    go_ret2
    exact ⟨q6_, q1_⟩
   ·replace c5 := Bool.eq_false_iff.mpr c5
    subst c5
    have H1 : ((view_sequence.f 1).bind fun bt156 => ((ber_PutInt.f a0).bind fun t161 => ((view_octets.f 2 a1).bind fun bt162 => ((ber_Write.f (([(⟨bt156.1, bt156.2.1, bt156.2.2.1, bt156.2.2.2.1, bt156.2.2.2.2⟩ : S43), (⟨2, 0, false, 2, t161⟩ : S43), (⟨bt162.1, bt162.2.1, bt162.2.2.1, bt162.2.2.2.1, bt162.2.2.2.2⟩ : S43)] : List (S43)))).bind fun bt170 => (if bt170.2.1 = 0 then (some (bt170.1, 0)) else (some ((⟨#[]⟩ : ByteArray), 224))))))) = some (r1, r2) := by rw [if_neg (show ¬ (false = true) by decide)] at H; exact H
    clear H
    have H := H1
    clear H1
    replace H := Option.bind_eq_some_iff.mp H
    obtain ⟨⟨t156, t157, t158, t159, t160⟩, A60, H⟩ := H
    replace H : ((ber_PutInt.f a0).bind fun t161 => ((view_octets.f 2 a1).bind fun bt162 => ((ber_Write.f (([(⟨t156, t157, t158, t159, t160⟩ : S43), (⟨2, 0, false, 2, t161⟩ : S43), (⟨bt162.1, bt162.2.1, bt162.2.2.1, bt162.2.2.2.1, bt162.2.2.2.2⟩ : S43)] : List (S43)))).bind fun bt170 => (if bt170.2.1 = 0 then (some (bt170.1, 0)) else (some ((⟨#[]⟩ : ByteArray), 224)))))) = some (r1, r2) := H
    have A6 := Aside0.mk A60
    clear A60
    replace H := Option.bind_eq_some_iff.mp H
    obtain ⟨t161, A70, H⟩ := H
    replace H : ((view_octets.f 2 a1).bind fun bt162 => ((ber_Write.f (([(⟨t156, t157, t158, t159, t160⟩ : S43), (⟨2, 0, false, 2, t161⟩ : S43), (⟨bt162.1, bt162.2.1, bt162.2.2.1, bt162.2.2.2.1, bt162.2.2.2.2⟩ : S43)] : List (S43)))).bind fun bt170 => (if bt170.2.1 = 0 then (some (bt170.1, 0)) else (some ((⟨#[]⟩ : ByteArray), 224))))) = some (r1, r2) := H
    have A7 := Aside0.mk A70
    clear A70
    replace H := Option.bind_eq_some_iff.mp H
    obtain ⟨⟨t162, t163, t164, t165, t166⟩, A80, H⟩ := H
    replace H : ((ber_Write.f (([(⟨t156, t157, t158, t159, t160⟩ : S43), (⟨2, 0, false, 2, t161⟩ : S43), (⟨t162, t163, t164, t165, t166⟩ : S43)] : List (S43)))).bind fun bt170 => (if bt170.2.1 = 0 then (some (bt170.1, 0)) else (some ((⟨#[]⟩ : ByteArray), 224)))) = some (r1, r2) := H
    have A8 := Aside0.mk A80
    clear A80
    obtain ⟨y167, hy167⟩ : ∃ y_ : List (S43), y_ = (([(⟨t156, t157, t158, t159, t160⟩ : S43), (⟨2, 0, false, 2, t161⟩ : S43), (⟨t162, t163, t164, t165, t166⟩ : S43)] : List (S43))) := ⟨_, rfl⟩
    replace H : ((ber_Write.f y167).bind fun bt170 => (if bt170.2.1 = 0 then (some (bt170.1, 0)) else (some ((⟨#[]⟩ : ByteArray), 224)))) = some (r1, r2) := by first | (rw [hy167]; with_reducible exact H) | (have H2_ := (Option.bind_some _ _).symm.trans H; rw [hy167]; with_reducible exact H2_) | (have H2_ := (Option.bind_some _ _).symm.trans H; with_reducible exact H2_) | with_reducible exact H | (rw [hy167]; exact H) | exact H
    have Ny167 := Aside0.mk hy167
    clear hy167
    replace H := Option.bind_eq_some_iff.mp H
    obtain ⟨⟨t170, t171, t172⟩, A90, H⟩ := H
    replace H : (if t171 = 0 then (some (t170, 0)) else (some ((⟨#[]⟩ : ByteArray), 224))) = some (r1, r2) := H
    have A9 := Aside0.mk A90
    clear A90
    by_cases c10 : t171 = 0
    ·rw [if_pos c10] at H
     have c10b0 : (t171 == 0) = true := beq_iff_eq.mpr c10
     have c10b1 : (t171 != 0) = false := bne_eq_false_iff_eq.mpr c10
     clear c10
     simp only [Option.some.injEq, Prod.mk.injEq] at H
     obtain ⟨rfl, rfl⟩ := H
     go_wp2_with (first | ((with_reducible refine gate_callee (f := 21) rfl ?_); refine goesL_ (some 16) rfl rfl Tryd.func21 q13_ rfl #[.int .i64 1] rfl q42_ ?_; (with_reducible refine (view_sequence.calls 1 t156 t157 t158 t159 t160 _ A6.out).mono ?_); rintro e w11 ⟨rfl, hb⟩; refine ⟨_, rfl, ?_⟩; have n0_ := Aside0.mk (below_step q1_ hb); clear HB; have HB := n0_; clear n0_; (try clear hb); (try clear hb2); (try clear hk); (try clear hi)) | ((with_reducible refine gate_callee (f := 33) rfl ?_); refine goesL_ (some 18) rfl rfl Tryd.func33 q13_ rfl #[.int .i64 a0] rfl q42_ ?_; (with_reducible refine (ber_PutInt.calls a0 t161 _ A7.out).mono ?_); rintro e w12 ⟨rfl, hb⟩; refine ⟨_, rfl, ?_⟩; have n0_ := Aside0.mk (below_step q1_ hb); clear HB; have HB := n0_; clear n0_; (try clear hb); (try clear hb2); (try clear hk); (try clear hi)) | ((with_reducible refine gate_callee (f := 23) rfl ?_); refine goesL_ (some 21) rfl rfl Tryd.func23 q13_ rfl #[.int .i64 2, .string a1] rfl q42_ ?_; (with_reducible refine (view_octets.calls 2 a1 t162 t163 t164 t165 t166 _ A8.out).mono ?_); rintro e w13 ⟨rfl, hb⟩; refine ⟨_, rfl, ?_⟩; have n0_ := Aside0.mk (below_step q1_ hb); clear HB; have HB := n0_; clear n0_; (try clear hb); (try clear hb2); (try clear hk); (try clear hi)) | ((with_reducible refine gate_dst (N := 22) rfl ?_); refine Kd.R_lit k43 _ 43 ?hg (N := 22) ?hd (xs := ([(⟨t156, t157, t158, t159, t160⟩ : S43), (⟨2, 0, false, 2, t161⟩ : S43), (⟨t162, t163, t164, t165, t166⟩ : S43)] : List (S43))) (inner := [.int .i64 t156, .int .i64 t157, .bool t158, .int .i64 t159, .string t160, .int .i64 2, .int .i64 0, .bool false, .int .i64 2, .string t161, .int .i64 t162, .int .i64 t163, .bool t164, .int .i64 t165, .string t166]) (ok := fun _ => True) (okp := fun _ => True) ?hr ?hp (fun _ hk => hk) trivial (Below.refl _ _) (Nat.le_refl _) q21_ ?_; (case hd => rfl); (case hg => rfl); (case hr => first | (go_simp; done) | (go_simp; rfl)); (case hp => exact (Reps.c5 (show Kd.M k43 _ _ _ (⟨t156, t157, t158, t159, t160⟩ : S43) [.int .i64 t156, .int .i64 t157, .bool t158, .int .i64 t159, .string t160] from (k43_mkM _ _ _ (⟨t156, t157, t158, t159, t160⟩ : S43) )) (Reps.c5 (show Kd.M k43 _ _ _ (⟨2, 0, false, 2, t161⟩ : S43) [.int .i64 2, .int .i64 0, .bool false, .int .i64 2, .string t161] from (k43_mkM _ _ _ (⟨2, 0, false, 2, t161⟩ : S43) )) (Reps.c5 (show Kd.M k43 _ _ _ (⟨t162, t163, t164, t165, t166⟩ : S43) [.int .i64 t162, .int .i64 t163, .bool t164, .int .i64 t165, .string t166] from (k43_mkM _ _ _ (⟨t162, t163, t164, t165, t166⟩ : S43) )) (Reps.none _ _))))); intro v168 w14 ho15 hb hg_ hnew_; clear hg_ hnew_; (first | rw [← Ny167.out] at ho15 | (simp only [Int.reduceToNat] at ho15; rw [← Ny167.out] at ho15)); have n0_ := Aside0.mk (Kd.R_lower ho15 (below_size q1_)); have n1_ := Aside0.mk (below_step q1_ hb); clear HB; have HO169 := n0_; have HB := n1_; clear n0_ n1_; clear hb ho15; obtain ⟨Ao16, co16, eo16⟩ := Kd.R_slice HO169.out; subst eo16) | ((with_reducible refine gate_callee (f := 26) rfl ?_); refine goesL_ (some 23) rfl rfl Tryd.func26 q13_ rfl #[.slice Ao16 y167.length co16] rfl q42_ ?_; (with_reducible refine (ber_Write.calls _ _ y167 t170 t171 t172 _ ?side1 ?side2 A9.out).mono ?_); (case side1 => repeat (first | exact (Kd.R_reads' HO169.out).2.2 | (with_reducible refine Kd.C_alloc ?_ _) | (with_reducible refine Kd.C_drewN ?_ _) | (with_reducible refine Kd.C_drew ?_))); (case side2 => exact (Kd.R_reads' HO169.out).2.1); rintro e w17 ⟨rfl, hb⟩; refine ⟨_, rfl, ?_⟩; have n0_ := Aside0.mk (Kd.R_below (by (with_reducible repeat (first | apply Kd.R_alloc | apply Kd.R_drewN | apply Kd.R_drew)); exact HO169.out) hb); have n1_ := Aside0.mk (below_step q1_ hb); clear HO169; clear HB; have HO169 := n0_; have HB := n1_; clear n0_ n1_; (try clear hb); (try clear hb2); (try clear hk); (try clear hi)))
     go_ret2
     exact ⟨q6_, q1_⟩
    ·rw [if_neg c10] at H
     have c10b0 : (t171 == 0) = false := beq_eq_false_iff_ne.mpr c10
     have c10b1 : (t171 != 0) = true := bne_iff_ne.mpr c10
     simp only [Option.some.injEq, Prod.mk.injEq] at H
     obtain ⟨rfl, rfl⟩ := H
     go_wp2_with (first | ((with_reducible refine gate_callee (f := 21) rfl ?_); refine goesL_ (some 16) rfl rfl Tryd.func21 q13_ rfl #[.int .i64 1] rfl q42_ ?_; (with_reducible refine (view_sequence.calls 1 t156 t157 t158 t159 t160 _ A6.out).mono ?_); rintro e w18 ⟨rfl, hb⟩; refine ⟨_, rfl, ?_⟩; have n0_ := Aside0.mk (below_step q1_ hb); clear HB; have HB := n0_; clear n0_; (try clear hb); (try clear hb2); (try clear hk); (try clear hi)) | ((with_reducible refine gate_callee (f := 33) rfl ?_); refine goesL_ (some 18) rfl rfl Tryd.func33 q13_ rfl #[.int .i64 a0] rfl q42_ ?_; (with_reducible refine (ber_PutInt.calls a0 t161 _ A7.out).mono ?_); rintro e w19 ⟨rfl, hb⟩; refine ⟨_, rfl, ?_⟩; have n0_ := Aside0.mk (below_step q1_ hb); clear HB; have HB := n0_; clear n0_; (try clear hb); (try clear hb2); (try clear hk); (try clear hi)) | ((with_reducible refine gate_callee (f := 23) rfl ?_); refine goesL_ (some 21) rfl rfl Tryd.func23 q13_ rfl #[.int .i64 2, .string a1] rfl q42_ ?_; (with_reducible refine (view_octets.calls 2 a1 t162 t163 t164 t165 t166 _ A8.out).mono ?_); rintro e w20 ⟨rfl, hb⟩; refine ⟨_, rfl, ?_⟩; have n0_ := Aside0.mk (below_step q1_ hb); clear HB; have HB := n0_; clear n0_; (try clear hb); (try clear hb2); (try clear hk); (try clear hi)) | ((with_reducible refine gate_dst (N := 22) rfl ?_); refine Kd.R_lit k43 _ 43 ?hg (N := 22) ?hd (xs := ([(⟨t156, t157, t158, t159, t160⟩ : S43), (⟨2, 0, false, 2, t161⟩ : S43), (⟨t162, t163, t164, t165, t166⟩ : S43)] : List (S43))) (inner := [.int .i64 t156, .int .i64 t157, .bool t158, .int .i64 t159, .string t160, .int .i64 2, .int .i64 0, .bool false, .int .i64 2, .string t161, .int .i64 t162, .int .i64 t163, .bool t164, .int .i64 t165, .string t166]) (ok := fun _ => True) (okp := fun _ => True) ?hr ?hp (fun _ hk => hk) trivial (Below.refl _ _) (Nat.le_refl _) q21_ ?_; (case hd => rfl); (case hg => rfl); (case hr => first | (go_simp; done) | (go_simp; rfl)); (case hp => exact (Reps.c5 (show Kd.M k43 _ _ _ (⟨t156, t157, t158, t159, t160⟩ : S43) [.int .i64 t156, .int .i64 t157, .bool t158, .int .i64 t159, .string t160] from (k43_mkM _ _ _ (⟨t156, t157, t158, t159, t160⟩ : S43) )) (Reps.c5 (show Kd.M k43 _ _ _ (⟨2, 0, false, 2, t161⟩ : S43) [.int .i64 2, .int .i64 0, .bool false, .int .i64 2, .string t161] from (k43_mkM _ _ _ (⟨2, 0, false, 2, t161⟩ : S43) )) (Reps.c5 (show Kd.M k43 _ _ _ (⟨t162, t163, t164, t165, t166⟩ : S43) [.int .i64 t162, .int .i64 t163, .bool t164, .int .i64 t165, .string t166] from (k43_mkM _ _ _ (⟨t162, t163, t164, t165, t166⟩ : S43) )) (Reps.none _ _))))); intro v168 w21 ho22 hb hg_ hnew_; clear hg_ hnew_; (first | rw [← Ny167.out] at ho22 | (simp only [Int.reduceToNat] at ho22; rw [← Ny167.out] at ho22)); have n0_ := Aside0.mk (Kd.R_lower ho22 (below_size q1_)); have n1_ := Aside0.mk (below_step q1_ hb); clear HB; have HO169 := n0_; have HB := n1_; clear n0_ n1_; clear hb ho22; obtain ⟨Ao23, co23, eo23⟩ := Kd.R_slice HO169.out; subst eo23) | ((with_reducible refine gate_callee (f := 26) rfl ?_); refine goesL_ (some 23) rfl rfl Tryd.func26 q13_ rfl #[.slice Ao23 y167.length co23] rfl q42_ ?_; (with_reducible refine (ber_Write.calls _ _ y167 t170 t171 t172 _ ?side1 ?side2 A9.out).mono ?_); (case side1 => repeat (first | exact (Kd.R_reads' HO169.out).2.2 | (with_reducible refine Kd.C_alloc ?_ _) | (with_reducible refine Kd.C_drewN ?_ _) | (with_reducible refine Kd.C_drew ?_))); (case side2 => exact (Kd.R_reads' HO169.out).2.1); rintro e w24 ⟨rfl, hb⟩; refine ⟨_, rfl, ?_⟩; have n0_ := Aside0.mk (Kd.R_below (by (with_reducible repeat (first | apply Kd.R_alloc | apply Kd.R_drewN | apply Kd.R_drew)); exact HO169.out) hb); have n1_ := Aside0.mk (below_step q1_ hb); clear HO169; clear HB; have HO169 := n0_; have HB := n1_; clear n0_ n1_; (try clear hb); (try clear hb2); (try clear hk); (try clear hi)))
     go_ret2
     exact ⟨q6_, q1_⟩
def view_DecodePage.f (a0 : ByteArray) : Option (Int × ByteArray × Int) :=
 if a0.size ≤ 2097152 then some ((W.decPage a0).1, (W.decPage a0).2.1, (W.decPage a0).2.2) else none
theorem view_DecodePage.calls (a0 : ByteArray) (r1 : Int) (r2 : ByteArray) (r3 : Int) (w : World) (h : view_DecodePage.f a0 = some (r1, r2, r3)) :
  Calls Tryd.prog 14 #[.string a0] w fun e w' => e = .returned (.tuple #[.int .i64 r1, .string r2, .int .i64 r3]) ∧ Below w.heap.size w w' := by
 unfold view_DecodePage.f at h
 by_cases c : a0.size ≤ 2097152
 ·rw [if_pos c] at h
  simp only [Option.some.injEq, Prod.mk.injEq] at h
  obtain ⟨rfl, rfl, rfl⟩ := h
  exact W.decPage_any a0 w c
 ·rw [if_neg c] at h
  cases h
def rosterlaw22_short.f (a0 : ByteArray) : Option (ByteArray) := if (a0.size : Int) > 65536 then (if 0 ≤ 65536 then (if 65536 ≤ (a0.size : Int) then (some (a0.extract 0 65536)) else (none)) else (none)) else (some a0)
set_option maxHeartbeats 8000000 in
set_option maxRecDepth 100000 in
theorem rosterlaw22_short.calls (a0 : ByteArray) (r : ByteArray) (w : World) (h : rosterlaw22_short.f a0 = some r) :
  Calls Tryd.prog 15 #[.string a0] w fun e w' => e = .returned (.string r) ∧ Drawn0 w w' := by
 have H : (if (a0.size : Int) > 65536 then (if 0 ≤ 65536 then (if 65536 ≤ (a0.size : Int) then (some (a0.extract 0 65536)) else (none)) else (none)) else (some a0)) = some r := h
 clear h
 by_cases c2 : (a0.size : Int) > 65536
 ·rw [if_pos c2] at H
  have c2b0 : decide (65536 < (a0.size : Int)) = true := decide_eq_true c2
  have c2b1 : decide (65536 < a0.size) = true := decide_eq_true q2_
  have c2b2 : 65536 < a0.size := by omega
  clear c2
  by_cases c3 : 0 ≤ 65536
  ·rw [if_pos c3] at H
   have c3b0 := eq_true c3
   have c3b1 : decide (0 ≤ 65536) = true := decide_eq_true c3
   clear c3
   by_cases c4 : 65536 ≤ (a0.size : Int)
   ·rw [if_pos c4] at H
    have c4b0 := eq_true c4
    have c4b1 : decide (65536 ≤ (a0.size : Int)) = true := decide_eq_true c4
    clear c4
    obtain rfl := Option.some.inj H
    go_enter Tryd.func15, Tryd.ntmps15
    go_wp2
    go_ret
    exact ⟨q3_, q20_⟩
   ·rw [if_neg c4] at H
    exact absurd H q21_
  ·rw [if_neg c3] at H
   exact absurd H q21_
 ·rw [if_neg c2] at H
  have c2b0 : decide (65536 < (a0.size : Int)) = false := decide_eq_false c2
  have c2b1 : decide (65536 < a0.size) = false := decide_eq_false q2_
  have c2b2 : ¬ (65536 < a0.size) := by omega
  clear c2
  obtain rfl := Option.some.inj H
  go_enter Tryd.func15, Tryd.ntmps15
  go_wp2
  go_ret
  exact ⟨q3_, q20_⟩
def rosterref01_Check.f (a0 : ByteArray) : Option (Int × Int) := if a0.size ≤ 140737488355328 then some (W.chkB a0) else none
theorem rosterref01_Check.calls (a0 : ByteArray) (r1 : Int) (r2 : Int) (w : World) (h : rosterref01_Check.f a0 = some (r1, r2)) (hT : W.TabW w) :
  Calls Tryd.prog 16 #[.string a0] w fun e w' => e = .returned (.tuple #[.int .i64 r1, .int .i64 r2]) ∧ Drawn0 w w' := by
 unfold rosterref01_Check.f at h
 by_cases c : a0.size ≤ 140737488355328
 ·rw [if_pos c] at h
  have e := Option.some.inj h
  have hq := W.check_any a0 c w hT.tab hT.pos
  rw [e] at hq
  exact hq
 ·rw [if_neg c] at h
  cases h
end Go.Proofs.YtogjljpncdmlkaaDoor.GO
end
