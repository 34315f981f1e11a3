/- Texts of this claim in one: GVx9 -/
import Derived.Test.YtogjljpncdmlkaaDoorB3
import Derived.Test.YtogjljpncdmlkaaDoorB12
import Derived.Test.YtogjljpncdmlkaaDoorB13
import Derived.Test.YtogjljpncdmlkaaDoorB16
import Derived.Test.YtogjljpncdmlkaaDoorB20
import Derived.Test.YtogjljpncdmlkaaDoorB22
import Derived.Test.YtogjljpncdmlkaaDoorB24
import Derived.Test.YtogjljpncdmlkaaDoorB25
section
namespace Go.Proofs.YtogjljpncdmlkaaDoor.GV
open Go.RowKit Go.Proofs.YtogjljpncdmlkaaDoorW.PrintWords Go.Proofs.YtogjljpncdmlkaaDoorW.PrintLast Go.Proofs.YtogjljpncdmlkaaDoorW.PrintMore
attribute [local go_sem] max2_int min2_int max_two min_two max_three min_three max_four min_four   -- for this text's walks alone
set_option linter.unusedVariables false
set_option linter.unusedSimpArgs false
mutual
def rosterlaw22_ViewWires.j0 : Nat → Int → ByteArray → ByteArray → Bool → Option (Bool)
 | 0, _, _, _, _ => none
 | k + 1, x1, x2, x3, x66 => if x66 = true then (some false) else ((rosterref22_DecodeKeys.f k x3).bind fun bt320 => ((view_DecodeKeys.f x3).bind fun bt324 => (if bt324.2 = bt320.2 then ((rosterlaw22_sameKeys.f k bt324.1 bt320.1).bind fun t328 => (rosterlaw22_ViewWires.j1 k x1 x2 x3 (!t328))) else (rosterlaw22_ViewWires.j1 k x1 x2 x3 true))))
def rosterlaw22_ViewWires.j1 : Nat → Int → ByteArray → ByteArray → Bool → Option (Bool)
 | 0, _, _, _, _ => none
 | k + 1, x1, x2, x3, x85 => if x85 = true then (some false) else ((rosterref22_EncodePage.f k x1 x2).bind fun bt329 => ((view_EncodePage.f k x1 x2).bind fun bt331 => (if bt331.1.toList = bt329.1.toList then (rosterlaw22_ViewWires.j2 k x3 (bt331.2 != bt329.2)) else (rosterlaw22_ViewWires.j2 k x3 true))))
def rosterlaw22_ViewWires.j2 : Nat → ByteArray → Bool → Option (Bool)
 | 0, _, _ => none
 | k + 1, x3, x105 => if x105 = true then (some false) else ((rosterref22_DecodePage.f k x3).bind fun bt333 => ((view_DecodePage.f x3).bind fun bt336 => (if bt336.2.2 = bt333.2.2 then (if bt336.1 = bt333.1 then (if bt336.2.1.toList = bt333.2.1.toList then ((view_DecodeKeys.f (⟨#[48, 129, 6, 48, 4, 4, 2, 99, 110]⟩ : ByteArray)).bind fun bt339 => (if bt339.2 = 0 then (if (bt339.1.length : Int) = 1 then (if 0 < (bt339.1.length : Int) then (some (((rd_T25 bt339.1 0).f0).toList == ([99, 110] : List UInt8))) else (none)) else (some false)) else (some false))) else (some false)) else (some false)) else (some false))))
end
def rosterlaw22_ViewWires.f (k : Nat) (l0 : List (S25)) (a1 : Int) (a2 : ByteArray) (a3 : ByteArray) : Option (Bool) := (rosterlaw22_keysCopy.f l0).bind fun t301 => ((rosterlaw22_keysCopy.f l0).bind fun t304 => (if t304.length < 3518437208883 then ((some (t304 ++ [(⟨(⟨#[115, 112, 97, 114, 101]⟩ : ByteArray), (⟨#[]⟩ : ByteArray), false⟩ : S25)] : List (S25))).bind fun y307 => (if 0 ≤ (l0.length : Int) then (if (l0.length : Int) ≤ (y307.length : Int) then ((some (y307.take ((l0.length : Int) : Int).toNat : List (S25))).bind fun y310 => ((rosterref22_EncodeKeys.f k t301).bind fun bt314 => ((view_EncodeKeys.f k y310).bind fun bt316 => (if bt316.1.toList = bt314.1.toList then (if bt316.2 = bt314.2 then ((rosterlaw22_sameKeys.f k y310 t301).bind fun t318 => (if t318 = true then (if 0 ≤ (t301.length : Int) then (if (t301.length : Int) < (y307.length : Int) then (rosterlaw22_ViewWires.j0 k a1 a2 a3 (((rd_T25 y307 (t301.length : Int)).f0).toList != ([115, 112, 97, 114, 101] : List UInt8))) else (none)) else (none)) else (rosterlaw22_ViewWires.j0 k a1 a2 a3 true))) else (rosterlaw22_ViewWires.j0 k a1 a2 a3 true)) else (rosterlaw22_ViewWires.j0 k a1 a2 a3 true))))) else (none)) else (none))) else (none)))
set_option maxHeartbeats 8000000 in
set_option maxRecDepth 100000 in
theorem rosterlaw22_ViewWires.calls (k : Nat) (A0 : Option Addr) (c0 : Nat) (l0 : List (S25)) (a1 : Int) (a2 : ByteArray) (a3 : ByteArray) (r : Bool) (w : World) (hr0 : Kd.C k25 w A0 l0.length l0) (hc0 : l0.length ≤ c0) (h : rosterlaw22_ViewWires.f k l0 a1 a2 a3 = some r) (hT : W.TabW w) :
  Calls Tryd.prog 3 #[.slice A0 l0.length c0, .int .i64 a1, .string a2, .string a3] w fun e w' => e = .returned (.bool r) ∧ Below w.heap.size w w' := by
 have HTB := Aside0.mk hT
 clear hT
 have hu25 := Tryd.underlying25
 have HR0 := Aside0.mk hr0
 have HC0 := Aside0.mk hc0
 clear hr0 hc0
 have HB := Aside0.mk (Below.refl w.heap.size w)
 have H : ((rosterlaw22_keysCopy.f l0).bind fun t301 => ((rosterlaw22_keysCopy.f l0).bind fun t304 => (if t304.length < 3518437208883 then ((some (t304 ++ [(⟨(⟨#[115, 112, 97, 114, 101]⟩ : ByteArray), (⟨#[]⟩ : ByteArray), false⟩ : S25)] : List (S25))).bind fun y307 => (if 0 ≤ (l0.length : Int) then (if (l0.length : Int) ≤ (y307.length : Int) then ((some (y307.take ((l0.length : Int) : Int).toNat : List (S25))).bind fun y310 => ((rosterref22_EncodeKeys.f k t301).bind fun bt314 => ((view_EncodeKeys.f k y310).bind fun bt316 => (if bt316.1.toList = bt314.1.toList then (if bt316.2 = bt314.2 then ((rosterlaw22_sameKeys.f k y310 t301).bind fun t318 => (if t318 = true then (if 0 ≤ (t301.length : Int) then (if (t301.length : Int) < (y307.length : Int) then (rosterlaw22_ViewWires.j0 k a1 a2 a3 (((rd_T25 y307 (t301.length : Int)).f0).toList != ([115, 112, 97, 114, 101] : List UInt8))) else (none)) else (none)) else (rosterlaw22_ViewWires.j0 k a1 a2 a3 true))) else (rosterlaw22_ViewWires.j0 k a1 a2 a3 true)) else (rosterlaw22_ViewWires.j0 k a1 a2 a3 true))))) else (none)) else (none))) else (none)))) = some r := h
 clear h
 replace H := Option.bind_eq_some_iff.mp H
 obtain ⟨t301, A50, H⟩ := H
 replace H : ((rosterlaw22_keysCopy.f l0).bind fun t304 => (if t304.length < 3518437208883 then ((some (t304 ++ [(⟨(⟨#[115, 112, 97, 114, 101]⟩ : ByteArray), (⟨#[]⟩ : ByteArray), false⟩ : S25)] : List (S25))).bind fun y307 => (if 0 ≤ (l0.length : Int) then (if (l0.length : Int) ≤ (y307.length : Int) then ((some (y307.take ((l0.length : Int) : Int).toNat : List (S25))).bind fun y310 => ((rosterref22_EncodeKeys.f k t301).bind fun bt314 => ((view_EncodeKeys.f k y310).bind fun bt316 => (if bt316.1.toList = bt314.1.toList then (if bt316.2 = bt314.2 then ((rosterlaw22_sameKeys.f k y310 t301).bind fun t318 => (if t318 = true then (if 0 ≤ (t301.length : Int) then (if (t301.length : Int) < (y307.length : Int) then (rosterlaw22_ViewWires.j0 k a1 a2 a3 (((rd_T25 y307 (t301.length : Int)).f0).toList != ([115, 112, 97, 114, 101] : List UInt8))) else (none)) else (none)) else (rosterlaw22_ViewWires.j0 k a1 a2 a3 true))) else (rosterlaw22_ViewWires.j0 k a1 a2 a3 true)) else (rosterlaw22_ViewWires.j0 k a1 a2 a3 true))))) else (none)) else (none))) else (none))) = some r := H
 have A5 := Aside0.mk A50
 clear A50
 replace H := Option.bind_eq_some_iff.mp H
 obtain ⟨t304, A60, H⟩ := H
 replace H : (if t304.length < 3518437208883 then ((some (t304 ++ [(⟨(⟨#[115, 112, 97, 114, 101]⟩ : ByteArray), (⟨#[]⟩ : ByteArray), false⟩ : S25)] : List (S25))).bind fun y307 => (if 0 ≤ (l0.length : Int) then (if (l0.length : Int) ≤ (y307.length : Int) then ((some (y307.take ((l0.length : Int) : Int).toNat : List (S25))).bind fun y310 => ((rosterref22_EncodeKeys.f k t301).bind fun bt314 => ((view_EncodeKeys.f k y310).bind fun bt316 => (if bt316.1.toList = bt314.1.toList then (if bt316.2 = bt314.2 then ((rosterlaw22_sameKeys.f k y310 t301).bind fun t318 => (if t318 = true then (if 0 ≤ (t301.length : Int) then (if (t301.length : Int) < (y307.length : Int) then (rosterlaw22_ViewWires.j0 k a1 a2 a3 (((rd_T25 y307 (t301.length : Int)).f0).toList != ([115, 112, 97, 114, 101] : List UInt8))) else (none)) else (none)) else (rosterlaw22_ViewWires.j0 k a1 a2 a3 true))) else (rosterlaw22_ViewWires.j0 k a1 a2 a3 true)) else (rosterlaw22_ViewWires.j0 k a1 a2 a3 true))))) else (none)) else (none))) else (none)) = some r := H
 have A6 := Aside0.mk A60
 clear A60
 by_cases c7 : t304.length < 3518437208883
 ·rw [if_pos c7] at H
  have LMc7 := Aside0.mk c7
  clear c7
  obtain ⟨y307, hy307⟩ : ∃ y_ : List (S25), y_ = (t304 ++ [(⟨(⟨#[115, 112, 97, 114, 101]⟩ : ByteArray), (⟨#[]⟩ : ByteArray), false⟩ : S25)]) := ⟨_, rfl⟩
  replace H : (if 0 ≤ (l0.length : Int) then (if (l0.length : Int) ≤ (y307.length : Int) then ((some (y307.take ((l0.length : Int) : Int).toNat : List (S25))).bind fun y310 => ((rosterref22_EncodeKeys.f k t301).bind fun bt314 => ((view_EncodeKeys.f k y310).bind fun bt316 => (if bt316.1.toList = bt314.1.toList then (if bt316.2 = bt314.2 then ((rosterlaw22_sameKeys.f k y310 t301).bind fun t318 => (if t318 = true then (if 0 ≤ (t301.length : Int) then (if (t301.length : Int) < (y307.length : Int) then (rosterlaw22_ViewWires.j0 k a1 a2 a3 (((rd_T25 y307 (t301.length : Int)).f0).toList != ([115, 112, 97, 114, 101] : List UInt8))) else (none)) else (none)) else (rosterlaw22_ViewWires.j0 k a1 a2 a3 true))) else (rosterlaw22_ViewWires.j0 k a1 a2 a3 true)) else (rosterlaw22_ViewWires.j0 k a1 a2 a3 true))))) else (none)) else (none)) = some r := by first | (rw [hy307]; with_reducible exact H) | (have H2_ := (Option.bind_some _ _).symm.trans H; rw [hy307]; with_reducible exact H2_) | (have H2_ := (Option.bind_some _ _).symm.trans H; with_reducible exact H2_) | with_reducible exact H | (rw [hy307]; exact H) | exact H
  have Ny307 := Aside0.mk hy307
  clear hy307
  by_cases c8 : 0 ≤ (l0.length : Int)
  ·rw [if_pos c8] at H
   have c8b0 := eq_true c8
   have c8b1 : decide (0 ≤ (l0.length : Int)) = true := decide_eq_true c8
   clear c8
   by_cases c9 : (l0.length : Int) ≤ (y307.length : Int)
   ·rw [if_pos c9] at H
    have c9b0 := eq_true c9
    have c9b1 : decide ((l0.length : Int) ≤ (y307.length : Int)) = true := decide_eq_true c9
    clear c9
    obtain ⟨y310, hy310⟩ : ∃ y_ : List (S25), y_ = (y307.take ((l0.length : Int) : Int).toNat) := ⟨_, rfl⟩
    replace H : ((rosterref22_EncodeKeys.f k t301).bind fun bt314 => ((view_EncodeKeys.f k y310).bind fun bt316 => (if bt316.1.toList = bt314.1.toList then (if bt316.2 = bt314.2 then ((rosterlaw22_sameKeys.f k y310 t301).bind fun t318 => (if t318 = true then (if 0 ≤ (t301.length : Int) then (if (t301.length : Int) < (y307.length : Int) then (rosterlaw22_ViewWires.j0 k a1 a2 a3 (((rd_T25 y307 (t301.length : Int)).f0).toList != ([115, 112, 97, 114, 101] : List UInt8))) else (none)) else (none)) else (rosterlaw22_ViewWires.j0 k a1 a2 a3 true))) else (rosterlaw22_ViewWires.j0 k a1 a2 a3 true)) else (rosterlaw22_ViewWires.j0 k a1 a2 a3 true)))) = some r := by first | (rw [hy310]; with_reducible exact H) | (have H2_ := (Option.bind_some _ _).symm.trans H; rw [hy310]; with_reducible exact H2_) | (have H2_ := (Option.bind_some _ _).symm.trans H; with_reducible exact H2_) | with_reducible exact H | (rw [hy310]; exact H) | exact H
    have Ny310 := Aside0.mk hy310
    clear hy310
    replace H := Option.bind_eq_some_iff.mp H
    obtain ⟨⟨t314, t315⟩, A100, H⟩ := H
    replace H : ((view_EncodeKeys.f k y310).bind fun bt316 => (if bt316.1.toList = t314.toList then (if bt316.2 = t315 then ((rosterlaw22_sameKeys.f k y310 t301).bind fun t318 => (if t318 = true then (if 0 ≤ (t301.length : Int) then (if (t301.length : Int) < (y307.length : Int) then (rosterlaw22_ViewWires.j0 k a1 a2 a3 (((rd_T25 y307 (t301.length : Int)).f0).toList != ([115, 112, 97, 114, 101] : List UInt8))) else (none)) else (none)) else (rosterlaw22_ViewWires.j0 k a1 a2 a3 true))) else (rosterlaw22_ViewWires.j0 k a1 a2 a3 true)) else (rosterlaw22_ViewWires.j0 k a1 a2 a3 true))) = some r := H
    have A10 := Aside0.mk A100
    clear A100
    replace H := Option.bind_eq_some_iff.mp H
    obtain ⟨⟨t316, t317⟩, A110, H⟩ := H
    replace H : (if t316.toList = t314.toList then (if t317 = t315 then ((rosterlaw22_sameKeys.f k y310 t301).bind fun t318 => (if t318 = true then (if 0 ≤ (t301.length : Int) then (if (t301.length : Int) < (y307.length : Int) then (rosterlaw22_ViewWires.j0 k a1 a2 a3 (((rd_T25 y307 (t301.length : Int)).f0).toList != ([115, 112, 97, 114, 101] : List UInt8))) else (none)) else (none)) else (rosterlaw22_ViewWires.j0 k a1 a2 a3 true))) else (rosterlaw22_ViewWires.j0 k a1 a2 a3 true)) else (rosterlaw22_ViewWires.j0 k a1 a2 a3 true)) = some r := H
    have A11 := Aside0.mk A110
    clear A110
    have HC12 := Aside0.mk H
    clear H
    go_enter Tryd.func3, Tryd.ntmps3
    go_upto_region 6 with (first | ((with_reducible refine gate_callee (f := 5) rfl ?_); refine goesL_ (some 24) rfl rfl Tryd.func5 q9_ rfl #[.slice A0 l0.length c0] rfl q84_ ?_; (with_reducible refine (rosterlaw22_keysCopy.calls _ _ l0 t301 _ ?side1 ?side2 A5.out).mono ?_); (case side1 => repeat (first | exact HR0.out | (with_reducible refine Kd.C_alloc ?_ _) | (with_reducible refine Kd.C_drewN ?_ _) | (with_reducible refine Kd.C_drew ?_))); (case side2 => exact HC0.out); rintro e w13 ⟨v302, rfl, ho0, hb⟩; refine ⟨_, rfl, ?_⟩; have n0_ := Aside0.mk (Kd.R_lower ho0 (below_size q1_)); have n1_ := Aside0.mk (below_step q1_ hb); clear HB; have HO303 := n0_; have HB := n1_; clear n0_ n1_; (try clear hb); (try clear hb2); (try clear hk); (try clear hi); (try clear ho0)) | ((with_reducible refine gate_callee (f := 5) rfl ?_); refine goesL_ (some 26) rfl rfl Tryd.func5 q9_ rfl #[.slice A0 l0.length c0] rfl q84_ ?_; (with_reducible refine (rosterlaw22_keysCopy.calls _ _ l0 t304 _ ?side1 ?side2 A6.out).mono ?_); (case side1 => repeat (first | exact (Kd.C_below HR0.out HB.out) | exact (Kd.C_below (Aside0.out q7_) HB.out) | (with_reducible refine Kd.C_alloc ?_ _) | (with_reducible refine Kd.C_drewN ?_ _) | (with_reducible refine Kd.C_drew ?_))); (case side2 => exact HC0.out); rintro e w14 ⟨v305, rfl, ho0, hb⟩; refine ⟨_, rfl, ?_⟩; have n0_ := Aside0.mk (Kd.R_elder' q57_ (Kd.R_base ho0) hb); have n1_ := Aside0.mk (Kd.R_lower (Kd.R_new' ho0 (Kd.R_lt q57_)) (below_size q1_)); have n2_ := Aside0.mk (below_step q1_ hb); clear HO303; clear HB; have HO303 := n0_; have HO306 := n1_; have HB := n2_; clear n0_ n1_ n2_; (try clear hb); (try clear hb2); (try clear hk); (try clear hi); (try clear ho0)) | ((with_reducible refine gate_builtin (b := .append) (xs := #[.tmp 26, .tmp 28]) rfl ?_); (try (refine gate_guard q43_ ?_; dsimp only)); at_builtin; refine Kd.R_append k25 (w0 := w) w.heap.size rfl (.tmp 26) (.tmp 28) 22 25 (.agg #[(.string ⟨#[]⟩), (.string ⟨#[]⟩), (.bool false)]) 40 rfl Tryd.underlying22 info25 rfl q19_ q2_ v305 t304 (⟨(⟨#[115, 112, 97, 114, 101]⟩ : ByteArray), (⟨#[]⟩ : ByteArray), false⟩ : S25) [.string (⟨#[115, 112, 97, 114, 101]⟩ : ByteArray), .string (⟨#[]⟩ : ByteArray), .bool false] (fun k_ => some k_ ≠ (v302 : Value).ownBlock) (fun _ => False) rfl rfl ?aP (fun _ hk => hk.elim) ?aF ?aO ?aB ?aS ?aL ?_; (case aP => exact k25_mkM _ _ _ (⟨(⟨#[115, 112, 97, 114, 101]⟩ : ByteArray), (⟨#[]⟩ : ByteArray), false⟩ : S25)); (case aB => exact q1_); (case aF => exact (fun k_ hk => Kd.fresh' (Kd.R_lt q57_) k_ hk)); (case aO => exact (by (with_reducible repeat (first | apply Kd.R_alloc | apply Kd.R_drewN | apply Kd.R_drew)); exact Kd.R_mono HO306.out (fun _ hk => hk.2))); (case aS => exact (below_size q1_)); (case aL => have := LMc7.out; omega); intro v308 w15 ho hb hg hat; rw [← Ny307.out] at ho; have n0_ := Aside0.mk (Kd.R_after (ok := (fun _ => True)) q57_ hg hat); have n1_ := Aside0.mk (hb); have n2_ := Aside0.mk (ho); clear HO303; clear HB; clear HO306; have HO303 := n0_; have HB := n1_; have HO309 := n2_; clear n0_ n1_ n2_; clear ho hb hg hat; obtain ⟨Ao17, co17, eo17⟩ := Kd.R_slice HO309.out; subst eo17; have q16 : ((l0.length : Int) : Int) ≤ ((y307.length : Int) : Int) := of_decide_eq_true q6_; obtain ⟨i016, hi016, _, hsz16, _⟩ := info_parts info25; have hroom16 : y307.length ≤ co17 := (Kd.R_reads' HO309.out).2.1; have hC16 : Kd.C k25 _ Ao17 y307.length y307 := (Kd.R_reads' HO309.out).2.2; have hcut16 := cut_to (P := Tryd.prog) 22 25 .i64 Tryd.underlying22 hi016 Ao17 y307.length co17 (l0.length : Int) (of_decide_eq_true q6_) q16 hroom16; have hr16 := Kd.C_take (m := ((l0.length : Int) : Int).toNat) hC16 q2_; have hy16 : y310.length = ((l0.length : Int) : Int).toNat := (by rw [Ny310.out, List.length_take]; omega); rw [← Ny310.out] at hr16; rw [← hy16] at hcut16; have HR313 := Aside0.mk hr16; have HC313 := Aside0.mk (show y310.length ≤ co17 from by omega); clear hr16 hC16 hroom16 hi016 hsz16; have KY16 := Aside0.mk hy16; clear hy16; have KL16 := Aside0.mk (show ((l0.length : Int) : Int).toNat ≤ y307.length from by omega); replace q16 := eq_true q16; obtain ⟨Ao18, co18, eo18⟩ := Kd.R_slice HO303.out; subst eo18) | ((with_reducible refine gate_callee (f := 6) rfl ?_); refine goesL_ (some 36) rfl rfl Tryd.func6 q9_ rfl #[.slice Ao18 t301.length co18] rfl q84_ ?_; (with_reducible refine (rosterref22_EncodeKeys.calls k _ _ t301 t314 t315 _ ?side1 ?side2 A10.out ?sideT).mono ?_); (case sideT => exact HTB.out.at q86_); (case side1 => repeat (first | exact (Kd.R_reads' HO303.out).2.2 | (with_reducible refine Kd.C_alloc ?_ _) | (with_reducible refine Kd.C_drewN ?_ _) | (with_reducible refine Kd.C_drew ?_))); (case side2 => exact (Kd.R_reads' HO303.out).2.1); rintro e w19 ⟨rfl, hb⟩; refine ⟨_, rfl, ?_⟩; have n0_ := Aside0.mk (Kd.R_below q57_ hb); have n1_ := Aside0.mk (Kd.R_below (by (with_reducible repeat (first | apply Kd.R_alloc | apply Kd.R_drewN | apply Kd.R_drew)); exact HO309.out) hb); have n2_ := Aside0.mk (Kd.C_below q44_ hb); have n3_ := Aside0.mk (below_step q1_ hb); clear HO303; clear HO309; clear HR313; clear HB; have HO303 := n0_; have HO309 := n1_; have HR313 := n2_; have HB := n3_; clear n0_ n1_ n2_ n3_; (try clear hb); (try clear hb2); (try clear hk); (try clear hi)) | ((with_reducible refine gate_callee (f := 7) rfl ?_); refine goesL_ (some 41) rfl rfl Tryd.func7 q9_ rfl #[.slice Ao17 y310.length co17] rfl q84_ ?_; (with_reducible refine (view_EncodeKeys.calls k _ _ y310 t316 t317 _ ?side1 ?side2 A11.out).mono ?_); (case side1 => repeat (first | exact q44_ | (with_reducible refine Kd.C_alloc ?_ _) | (with_reducible refine Kd.C_drewN ?_ _) | (with_reducible refine Kd.C_drew ?_))); (case side2 => exact HC313.out); rintro e w20 ⟨rfl, hb⟩; refine ⟨_, rfl, ?_⟩; have n0_ := Aside0.mk (Kd.R_below q57_ hb); have n1_ := Aside0.mk (Kd.R_below (by (with_reducible repeat (first | apply Kd.R_alloc | apply Kd.R_drewN | apply Kd.R_drew)); exact HO309.out) hb); have n2_ := Aside0.mk (Kd.C_below q44_ hb); have n3_ := Aside0.mk (below_step q1_ hb); clear HO303; clear HO309; clear HR313; clear HB; have HO303 := n0_; have HO309 := n1_; have HR313 := n2_; have HB := n3_; clear n0_ n1_ n2_ n3_; (try clear hb); (try clear hb2); (try clear hk); (try clear hi)))
    (try simp only [Act.put, List.setIfInBounds_toArray, List.set_cons_zero, List.set_cons_succ])
    go_cut [66] (fun v66 wc => ∃ (kq : Nat) (x66_11 : Bool), v66 = .bool x66_11 ∧ Aside0 (rosterlaw22_ViewWires.j0 kq a1 a2 a3 x66_11 = some r) ∧ Aside0 (kq ≤ k) ∧ Aside0 (Below w.heap.size w wc))
    case first =>
     have H := HC12.out
     clear HC12
     by_cases c21 : t316.toList = t314.toList
     ·rw [if_pos c21] at H
      have c21b0 : (t316.toList == t314.toList) = true := beq_iff_eq.mpr c21
      have c21b1 : (t316.toList != t314.toList) = false := bne_eq_false_iff_eq.mpr c21
      clear c21
      (first | rw [c21b0] | rw [c21be] | (simp only [i64_w, i32_w]; rw [c21b0]) | skip)
      by_cases c22 : t317 = t315
      ·rw [if_pos c22] at H
       have c22b0 : (t317 == t315) = true := beq_iff_eq.mpr c22
       have c22b1 : (t317 != t315) = false := bne_eq_false_iff_eq.mpr c22
       clear c22
       replace H := Option.bind_eq_some_iff.mp H
       obtain ⟨t318, A230, H⟩ := H
       replace H : (if t318 = true then (if 0 ≤ (t301.length : Int) then (if (t301.length : Int) < (y307.length : Int) then (rosterlaw22_ViewWires.j0 k a1 a2 a3 (((rd_T25 y307 (t301.length : Int)).f0).toList != ([115, 112, 97, 114, 101] : List UInt8))) else (none)) else (none)) else (rosterlaw22_ViewWires.j0 k a1 a2 a3 true)) = some r := H
       have A23 := Aside0.mk A230
       clear A230
       by_cases c24 : t318 = true
       ·subst c24
        have H1 : (if 0 ≤ (t301.length : Int) then (if (t301.length : Int) < (y307.length : Int) then (rosterlaw22_ViewWires.j0 k a1 a2 a3 (((rd_T25 y307 (t301.length : Int)).f0).toList != ([115, 112, 97, 114, 101] : List UInt8))) else (none)) else (none)) = some r := by rw [if_pos rfl] at H; exact H
        clear H
        have H := H1
        clear H1
        by_cases c25 : 0 ≤ (t301.length : Int)
        ·rw [if_pos c25] at H
         have c25b0 : decide (0 ≤ (t301.length : Int)) = true := decide_eq_true c25
         have c25b1 : decide (0 ≤ t301.length) = true := decide_eq_true q2_
         have c25b2 : 0 ≤ t301.length := by omega
         clear c25
         by_cases c26 : (t301.length : Int) < (y307.length : Int)
         ·rw [if_pos c26] at H
          have c26b0 : decide ((t301.length : Int) < (y307.length : Int)) = true := decide_eq_true c26
          have c26b1 : decide (t301.length < y307.length) = true := decide_eq_true (Int.ofNat_lt.mp c26)
          clear c26
          have H' := Aside0.mk H
          clear H
          go_wp2_with (first | (go_at_call 8; (with_reducible refine (rosterlaw22_sameKeys.calls k _ _ y310 _ _ t301 true _ ?side1 ?side2 ?side3 ?side4 A23.out).mono ?_); (case side1 => repeat (first | exact q44_ | (with_reducible refine Kd.C_alloc ?_ _) | (with_reducible refine Kd.C_drewN ?_ _) | (with_reducible refine Kd.C_drew ?_))); (case side2 => exact HC313.out); (case side3 => repeat (first | exact (Kd.R_reads' HO303.out).2.2 | (with_reducible refine Kd.C_alloc ?_ _) | (with_reducible refine Kd.C_drewN ?_ _) | (with_reducible refine Kd.C_drew ?_))); (case side4 => exact (Kd.R_reads' HO303.out).2.1); rintro e w' ⟨rfl, ⟨nd, rfl⟩⟩; have p319 : 0 ≤ ((t301.length : Int) : Int) := of_decide_eq_true q6_; have q319 : (t301.length : Int) < (y307.length : Int) := of_decide_eq_true q6_; obtain ⟨ad319, e319, hx319_0, hx319_1, hx319_2⟩ := at_T25 (Kd.R_reads' HO309.out).2.2 (t301.length : Int) p319 q319; cases e319; (try simp only [Go.IntWalk.toNatUp] at hx319_0); (try simp only [Go.IntWalk.toNatUp] at hx319_1); (try simp only [Go.IntWalk.toNatUp] at hx319_2); replace p319 := eq_true p319; replace q319 := eq_true q319))
          go_meet
          case rel => exact ⟨_, ((((rd_T25 y307 (t301.length : Int)).f0).toList != ([115, 112, 97, 114, 101] : List UInt8))), q3_, H', ⟨q42_⟩, ⟨q1_⟩⟩
         ·rw [if_neg c26] at H
          exact absurd H q28_
        ·rw [if_neg c25] at H
         exact absurd H q28_
       ·replace c24 := Bool.eq_false_iff.mpr c24
        subst c24
        have H1 : (rosterlaw22_ViewWires.j0 k a1 a2 a3 true) = some r := by rw [if_neg (show ¬ (false = true) by decide)] at H; exact H
        clear H
        have H := H1
        clear H1
        have H' := Aside0.mk H
        clear H
        go_wp2_with (first | (go_at_call 8; (with_reducible refine (rosterlaw22_sameKeys.calls k _ _ y310 _ _ t301 false _ ?side1 ?side2 ?side3 ?side4 A23.out).mono ?_); (case side1 => repeat (first | exact q44_ | (with_reducible refine Kd.C_alloc ?_ _) | (with_reducible refine Kd.C_drewN ?_ _) | (with_reducible refine Kd.C_drew ?_))); (case side2 => exact HC313.out); (case side3 => repeat (first | exact (Kd.R_reads' HO303.out).2.2 | (with_reducible refine Kd.C_alloc ?_ _) | (with_reducible refine Kd.C_drewN ?_ _) | (with_reducible refine Kd.C_drew ?_))); (case side4 => exact (Kd.R_reads' HO303.out).2.1); rintro e w' ⟨rfl, ⟨nd, rfl⟩⟩))
        go_meet
        case rel => exact ⟨_, (true), q3_, H', ⟨q42_⟩, ⟨q1_⟩⟩
      ·rw [if_neg c22] at H
       have c22b0 : (t317 == t315) = false := beq_eq_false_iff_ne.mpr c22
       have c22b1 : (t317 != t315) = true := bne_iff_ne.mpr c22
       have H' := Aside0.mk H
       clear H
       go_wp2
       go_meet
       case rel => exact ⟨_, (true), q3_, H', ⟨q42_⟩, ⟨q1_⟩⟩
     ·rw [if_neg c21] at H
      have c21b0 : (t316.toList == t314.toList) = false := beq_eq_false_iff_ne.mpr c21
      have c21b1 : (t316.toList != t314.toList) = true := bne_iff_ne.mpr c21
      (first | rw [c21b0] | rw [c21be] | (simp only [i64_w, i32_w]; rw [c21b0]) | skip)
      have H' := Aside0.mk H
      clear H
      go_wp2
      go_meet
      case rel => exact ⟨_, (true), q3_, H', ⟨q42_⟩, ⟨q1_⟩⟩
    case rest =>
     clear HC12
     try clear q1
     try clear c2
     try clear p2
     try clear c3
     try clear p3
     try clear q3
     try clear hx3
     try clear c5
     try clear c6
     try clear c7
     try clear c8
     try clear c8b0
     try clear c8b1
     try clear c9
     try clear c9b0
     try clear c9b1
     try clear q16
     try clear c21
     try clear c21b0
     try clear c21b1
     try clear c22
     try clear c22b0
     try clear c22b1
     try clear c24
     try clear c25
     try clear c25b0
     try clear c25b1
     try clear c25b2
     try clear c26
     try clear c26b0
     try clear c26b1
     try clear hx319_0
     try clear hx319_1
     try clear hx319_2
     try clear p319
     try clear q16
     try clear q319
     obtain ⟨kq, x66_11, rfl, HA, HJ11, HB⟩ := hcut
     cases kq with
     | zero => exact absurd HA.out (by simp [rosterlaw22_ViewWires.j0])
     | succ kj11 =>
      have H := HA.out
      clear HA
      simp only [rosterlaw22_ViewWires.j0] at H
      by_cases c27 : x66_11 = true
      ·subst c27
       have H1 : (some false) = some r := by rw [if_pos rfl] at H; exact H
       clear H
       have H := H1
       clear H1
       obtain rfl := Option.some.inj H
       go_wp2
       go_ret
       exact ⟨q4_, q1_⟩
      ·replace c27 := Bool.eq_false_iff.mpr c27
       subst c27
       have H1 : ((rosterref22_DecodeKeys.f kj11 a3).bind fun bt320 => ((view_DecodeKeys.f a3).bind fun bt324 => (if bt324.2 = bt320.2 then ((rosterlaw22_sameKeys.f kj11 bt324.1 bt320.1).bind fun t328 => (rosterlaw22_ViewWires.j1 kj11 a1 a2 a3 (!t328))) else (rosterlaw22_ViewWires.j1 kj11 a1 a2 a3 true)))) = some r := by rw [if_neg (show ¬ (false = true) by decide)] at H; exact H
       clear H
       have H := H1
       clear H1
       replace H := Option.bind_eq_some_iff.mp H
       obtain ⟨⟨t320, t321⟩, A280, H⟩ := H
       replace H : ((view_DecodeKeys.f a3).bind fun bt324 => (if bt324.2 = t321 then ((rosterlaw22_sameKeys.f kj11 bt324.1 t320).bind fun t328 => (rosterlaw22_ViewWires.j1 kj11 a1 a2 a3 (!t328))) else (rosterlaw22_ViewWires.j1 kj11 a1 a2 a3 true))) = some r := H
       have A28 := Aside0.mk A280
       clear A280
       replace H := Option.bind_eq_some_iff.mp H
       obtain ⟨⟨t324, t325⟩, A290, H⟩ := H
       replace H : (if t325 = t321 then ((rosterlaw22_sameKeys.f kj11 t324 t320).bind fun t328 => (rosterlaw22_ViewWires.j1 kj11 a1 a2 a3 (!t328))) else (rosterlaw22_ViewWires.j1 kj11 a1 a2 a3 true)) = some r := H
       have A29 := Aside0.mk A290
       clear A290
       have HC30 := Aside0.mk H
       clear H
       go_upto_region 10 with (first | ((with_reducible refine gate_callee (f := 9) rfl ?_); refine goesL_ (some 69) rfl rfl Tryd.func9 q9_ rfl #[.string a3] rfl q84_ ?_; (with_reducible refine (rosterref22_DecodeKeys.calls kj11 a3 t320 t321 _ A28.out ?sideT).mono ?_); (case sideT => exact HTB.out.at q86_); rintro e w31 ⟨v322, rfl, ho0, hb⟩; refine ⟨_, rfl, ?_⟩; have n0_ := Aside0.mk (Kd.R_lower ho0 (below_size q1_)); have n2_ := Aside0.mk (below_step q1_ hb); clear HB; have HO323 := n0_; have HB := n2_; clear n0_ n2_; (try clear hb); (try clear hb2); (try clear hk); (try clear hi); (try clear ho0)) | ((with_reducible refine gate_callee (f := 10) rfl ?_); refine goesL_ (some 74) rfl rfl Tryd.func10 q9_ rfl #[.string a3] rfl q84_ ?_; (with_reducible refine (view_DecodeKeys.calls a3 t324 t325 _ A29.out).mono ?_); rintro e w32 ⟨v326, rfl, ho0, hb⟩; refine ⟨_, rfl, ?_⟩; have n0_ := Aside0.mk (Kd.R_elder' (by (with_reducible repeat (first | apply Kd.R_alloc | apply Kd.R_drewN | apply Kd.R_drew)); exact HO323.out) (Kd.R_base ho0) hb); have n1_ := Aside0.mk (Kd.R_lower (Kd.R_new' ho0 (Kd.R_lt (by (with_reducible repeat (first | apply Kd.R_alloc | apply Kd.R_drewN | apply Kd.R_drew)); exact HO323.out))) (below_size q1_)); have n3_ := Aside0.mk (below_step q1_ hb); clear HO323; clear HB; have HO323 := n0_; have HO327 := n1_; have HB := n3_; clear n0_ n1_ n3_; (try clear hb); (try clear hb2); (try clear hk); (try clear hi); (try clear ho0)))
       (try simp only [Act.put, List.setIfInBounds_toArray, List.set_cons_zero, List.set_cons_succ])
       go_cut [85] (fun v85 wc => ∃ (kq : Nat) (x85_29 : Bool), v85 = .bool x85_29 ∧ Aside0 (rosterlaw22_ViewWires.j1 kq a1 a2 a3 x85_29 = some r) ∧ Aside0 (kq ≤ kj11) ∧ Aside0 (Below w.heap.size w wc))
       case first =>
        have H := HC30.out
        clear HC30
        by_cases c33 : t325 = t321
        ·rw [if_pos c33] at H
         have c33b0 : (t325 == t321) = true := beq_iff_eq.mpr c33
         have c33b1 : (t325 != t321) = false := bne_eq_false_iff_eq.mpr c33
         clear c33
         (first | rw [c33b0] | rw [c33be] | (simp only [i64_w, i32_w]; rw [c33b0]) | skip)
         replace H := Option.bind_eq_some_iff.mp H
         obtain ⟨t328, A340, H⟩ := H
         replace H : (rosterlaw22_ViewWires.j1 kj11 a1 a2 a3 (!t328)) = some r := H
         have A34 := Aside0.mk A340
         clear A340
         have H' := Aside0.mk H
         clear H
         obtain ⟨Ao35, co35, eo35⟩ := Kd.R_slice HO327.out
         subst eo35
         obtain ⟨Ao36, co36, eo36⟩ := Kd.R_slice HO323.out
         subst eo36
         go_wp2_with (first | (go_at_call 8; (with_reducible refine (rosterlaw22_sameKeys.calls kj11 _ _ t324 _ _ t320 t328 _ ?side1 ?side2 ?side3 ?side4 A34.out).mono ?_); (case side1 => repeat (first | exact (Kd.R_reads' HO327.out).2.2 | (with_reducible refine Kd.C_alloc ?_ _) | (with_reducible refine Kd.C_drewN ?_ _) | (with_reducible refine Kd.C_drew ?_))); (case side2 => exact (Kd.R_reads' HO327.out).2.1); (case side3 => repeat (first | exact (Kd.R_reads' HO323.out).2.2 | (with_reducible refine Kd.C_alloc ?_ _) | (with_reducible refine Kd.C_drewN ?_ _) | (with_reducible refine Kd.C_drew ?_))); (case side4 => exact (Kd.R_reads' HO323.out).2.1); rintro e w' ⟨rfl, ⟨nd, rfl⟩⟩))
         go_meet
         case rel => exact ⟨_, (!t328), q3_, H', ⟨by have := HJ11.out; first | omega | exact Nat.le_refl _⟩, ⟨q1_⟩⟩
        ·rw [if_neg c33] at H
         have c33b0 : (t325 == t321) = false := beq_eq_false_iff_ne.mpr c33
         have c33b1 : (t325 != t321) = true := bne_iff_ne.mpr c33
         (first | rw [c33b0] | rw [c33be] | (simp only [i64_w, i32_w]; rw [c33b0]) | skip)
         have H' := Aside0.mk H
         clear H
         go_wp2
         go_meet
         case rel => exact ⟨_, (true), q3_, H', ⟨by have := HJ11.out; first | omega | exact Nat.le_refl _⟩, ⟨q1_⟩⟩
       case rest =>
        clear HC30
        try clear c1
        try clear q1
        try clear c2
        try clear p2
        try clear c3
        try clear p3
        try clear q3
        try clear hx3
        try clear c5
        try clear c6
        try clear c7
        try clear c8
        try clear c8b0
        try clear c8b1
        try clear c9
        try clear c9b0
        try clear c9b1
        try clear c10
        try clear q16
        try clear c21
        try clear c21b0
        try clear c21b1
        try clear c22
        try clear c22b0
        try clear c22b1
        try clear c24
        try clear c25
        try clear c25b0
        try clear c25b1
        try clear c25b2
        try clear c26
        try clear c26b0
        try clear c26b1
        try clear c27
        try clear p31
        try clear q31
        try clear hx31
        try clear c33
        try clear c33b0
        try clear c33b1
        try clear hx319_0
        try clear hx319_1
        try clear hx319_2
        try clear p2
        try clear p3
        try clear p319
        try clear q1
        try clear q16
        try clear q3
        try clear q319
        obtain ⟨kq, x85_29, rfl, HA, HJ29, HB⟩ := hcut
        cases kq with
        | zero => exact absurd HA.out (by simp [rosterlaw22_ViewWires.j1])
        | succ kj29 =>
         have H := HA.out
         clear HA
         simp only [rosterlaw22_ViewWires.j1] at H
         by_cases c37 : x85_29 = true
         ·subst c37
          have H1 : (some false) = some r := by rw [if_pos rfl] at H; exact H
          clear H
          have H := H1
          clear H1
          obtain rfl := Option.some.inj H
          go_wp2
          go_ret
          exact ⟨q4_, q1_⟩
         ·replace c37 := Bool.eq_false_iff.mpr c37
          subst c37
          have H1 : ((rosterref22_EncodePage.f kj29 a1 a2).bind fun bt329 => ((view_EncodePage.f kj29 a1 a2).bind fun bt331 => (if bt331.1.toList = bt329.1.toList then (rosterlaw22_ViewWires.j2 kj29 a3 (bt331.2 != bt329.2)) else (rosterlaw22_ViewWires.j2 kj29 a3 true)))) = some r := by rw [if_neg (show ¬ (false = true) by decide)] at H; exact H
          clear H
          have H := H1
          clear H1
          replace H := Option.bind_eq_some_iff.mp H
          obtain ⟨⟨t329, t330⟩, A380, H⟩ := H
          replace H : ((view_EncodePage.f kj29 a1 a2).bind fun bt331 => (if bt331.1.toList = t329.toList then (rosterlaw22_ViewWires.j2 kj29 a3 (bt331.2 != t330)) else (rosterlaw22_ViewWires.j2 kj29 a3 true))) = some r := H
          have A38 := Aside0.mk A380
          clear A380
          replace H := Option.bind_eq_some_iff.mp H
          obtain ⟨⟨t331, t332⟩, A390, H⟩ := H
          replace H : (if t331.toList = t329.toList then (rosterlaw22_ViewWires.j2 kj29 a3 (t332 != t330)) else (rosterlaw22_ViewWires.j2 kj29 a3 true)) = some r := H
          have A39 := Aside0.mk A390
          clear A390
          have HC40 := Aside0.mk H
          clear H
          go_upto_region 14 with (first | ((with_reducible refine gate_callee (f := 11) rfl ?_); refine goesL_ (some 89) rfl rfl Tryd.func11 q9_ rfl #[.int .i64 a1, .string a2] rfl q84_ ?_; (with_reducible refine (rosterref22_EncodePage.calls kj29 a1 a2 t329 t330 _ A38.out).mono ?_); rintro e w41 ⟨rfl, hb⟩; refine ⟨_, rfl, ?_⟩; have n1_ := Aside0.mk (below_step q1_ hb); clear HB; have HB := n1_; clear n1_; (try clear hb); (try clear hb2); (try clear hk); (try clear hi)) | ((with_reducible refine gate_callee (f := 12) rfl ?_); refine goesL_ (some 95) rfl rfl Tryd.func12 q9_ rfl #[.int .i64 a1, .string a2] rfl q84_ ?_; (with_reducible refine (view_EncodePage.calls kj29 a1 a2 t331 t332 _ A39.out).mono ?_); rintro e w42 ⟨rfl, hb⟩; refine ⟨_, rfl, ?_⟩; have n1_ := Aside0.mk (below_step q1_ hb); clear HB; have HB := n1_; clear n1_; (try clear hb); (try clear hb2); (try clear hk); (try clear hi)))
          (try simp only [Act.put, List.setIfInBounds_toArray, List.set_cons_zero, List.set_cons_succ])
          go_cut [105] (fun v105 wc => ∃ (kq : Nat) (x105_39 : Bool), v105 = .bool x105_39 ∧ Aside0 (rosterlaw22_ViewWires.j2 kq a3 x105_39 = some r) ∧ Aside0 (kq ≤ kj29) ∧ Aside0 (Below w.heap.size w wc))
          case first =>
           have H := HC40.out
           clear HC40
           by_cases c43 : t331.toList = t329.toList
           ·rw [if_pos c43] at H
            have c43b0 : (t331.toList == t329.toList) = true := beq_iff_eq.mpr c43
            have c43b1 : (t331.toList != t329.toList) = false := bne_eq_false_iff_eq.mpr c43
            clear c43
            (first | rw [c43b0] | rw [c43be] | (simp only [i64_w, i32_w]; rw [c43b0]) | skip)
            have H' := Aside0.mk H
            clear H
            go_wp2
            go_meet
            case rel => exact ⟨_, ((t332 != t330)), q3_, H', ⟨by have := HJ11.out; have := HJ29.out; first | omega | exact Nat.le_refl _⟩, ⟨q1_⟩⟩
           ·rw [if_neg c43] at H
            have c43b0 : (t331.toList == t329.toList) = false := beq_eq_false_iff_ne.mpr c43
            have c43b1 : (t331.toList != t329.toList) = true := bne_iff_ne.mpr c43
            (first | rw [c43b0] | rw [c43be] | (simp only [i64_w, i32_w]; rw [c43b0]) | skip)
            have H' := Aside0.mk H
            clear H
            go_wp2
            go_meet
            case rel => exact ⟨_, (true), q3_, H', ⟨by have := HJ11.out; have := HJ29.out; first | omega | exact Nat.le_refl _⟩, ⟨q1_⟩⟩
          case rest =>
           clear HC40
           try clear c1
           try clear q1
           try clear c2
           try clear p2
           try clear c3
           try clear p3
           try clear q3
           try clear hx3
           try clear c4
           try clear c5
           try clear c6
           try clear c7
           try clear c8
           try clear c8b0
           try clear c8b1
           try clear c9
           try clear c9b0
           try clear c9b1
           try clear c10
           try clear c11
           try clear c12
           try clear q16
           try clear c21
           try clear c21b0
           try clear c21b1
           try clear c22
           try clear c22b0
           try clear c22b1
           try clear c24
           try clear c25
           try clear c25b0
           try clear c25b1
           try clear c25b2
           try clear c26
           try clear c26b0
           try clear c26b1
           try clear c27
           try clear p31
           try clear q31
           try clear hx31
           try clear c33
           try clear c33b0
           try clear c33b1
           try clear c37
           try clear c43
           try clear c43b0
           try clear c43b1
           try clear hx319_0
           try clear hx319_1
           try clear hx319_2
           try clear p2
           try clear p3
           try clear p31
           try clear p319
           try clear q1
           try clear q16
           try clear q3
           try clear q31
           try clear q319
           obtain ⟨kq, x105_39, rfl, HA, HJ39, HB⟩ := hcut
           cases kq with
           | zero => exact absurd HA.out (by simp [rosterlaw22_ViewWires.j2])
           | succ kj39 =>
            have H := HA.out
            clear HA
            simp only [rosterlaw22_ViewWires.j2] at H
            by_cases c44 : x105_39 = true
            ·subst c44
             have H1 : (some false) = some r := by rw [if_pos rfl] at H; exact H
             clear H
             have H := H1
             clear H1
             obtain rfl := Option.some.inj H
             go_wp2
             go_ret
             exact ⟨q4_, q1_⟩
            ·replace c44 := Bool.eq_false_iff.mpr c44
             subst c44
             have H1 : ((rosterref22_DecodePage.f kj39 a3).bind fun bt333 => ((view_DecodePage.f a3).bind fun bt336 => (if bt336.2.2 = bt333.2.2 then (if bt336.1 = bt333.1 then (if bt336.2.1.toList = bt333.2.1.toList then ((view_DecodeKeys.f (⟨#[48, 129, 6, 48, 4, 4, 2, 99, 110]⟩ : ByteArray)).bind fun bt339 => (if bt339.2 = 0 then (if (bt339.1.length : Int) = 1 then (if 0 < (bt339.1.length : Int) then (some (((rd_T25 bt339.1 0).f0).toList == ([99, 110] : List UInt8))) else (none)) else (some false)) else (some false))) else (some false)) else (some false)) else (some false)))) = some r := by rw [if_neg (show ¬ (false = true) by decide)] at H; exact H
             clear H
             have H := H1
             clear H1
             replace H := Option.bind_eq_some_iff.mp H
             obtain ⟨⟨t333, t334, t335⟩, A450, H⟩ := H
             replace H : ((view_DecodePage.f a3).bind fun bt336 => (if bt336.2.2 = t335 then (if bt336.1 = t333 then (if bt336.2.1.toList = t334.toList then ((view_DecodeKeys.f (⟨#[48, 129, 6, 48, 4, 4, 2, 99, 110]⟩ : ByteArray)).bind fun bt339 => (if bt339.2 = 0 then (if (bt339.1.length : Int) = 1 then (if 0 < (bt339.1.length : Int) then (some (((rd_T25 bt339.1 0).f0).toList == ([99, 110] : List UInt8))) else (none)) else (some false)) else (some false))) else (some false)) else (some false)) else (some false))) = some r := H
             have A45 := Aside0.mk A450
             clear A450
             replace H := Option.bind_eq_some_iff.mp H
             obtain ⟨⟨t336, t337, t338⟩, A460, H⟩ := H
             replace H : (if t338 = t335 then (if t336 = t333 then (if t337.toList = t334.toList then ((view_DecodeKeys.f (⟨#[48, 129, 6, 48, 4, 4, 2, 99, 110]⟩ : ByteArray)).bind fun bt339 => (if bt339.2 = 0 then (if (bt339.1.length : Int) = 1 then (if 0 < (bt339.1.length : Int) then (some (((rd_T25 bt339.1 0).f0).toList == ([99, 110] : List UInt8))) else (none)) else (some false)) else (some false))) else (some false)) else (some false)) else (some false)) = some r := H
             have A46 := Aside0.mk A460
             clear A460
             by_cases c47 : t338 = t335
             ·rw [if_pos c47] at H
              have c47b0 : (t338 == t335) = true := beq_iff_eq.mpr c47
              have c47b1 : (t338 != t335) = false := bne_eq_false_iff_eq.mpr c47
              clear c47
              by_cases c48 : t336 = t333
              ·rw [if_pos c48] at H
               have c48b0 : (t336 == t333) = true := beq_iff_eq.mpr c48
               have c48b1 : (t336 != t333) = false := bne_eq_false_iff_eq.mpr c48
               clear c48
               by_cases c49 : t337.toList = t334.toList
               ·rw [if_pos c49] at H
                have c49b0 : (t337.toList == t334.toList) = true := beq_iff_eq.mpr c49
                have c49b1 : (t337.toList != t334.toList) = false := bne_eq_false_iff_eq.mpr c49
                clear c49
                replace H := Option.bind_eq_some_iff.mp H
                obtain ⟨⟨t339, t340⟩, A500, H⟩ := H
                replace H : (if t340 = 0 then (if (t339.length : Int) = 1 then (if 0 < (t339.length : Int) then (some (((rd_T25 t339 0).f0).toList == ([99, 110] : List UInt8))) else (none)) else (some false)) else (some false)) = some r := H
                have A50 := Aside0.mk A500
                clear A500
                by_cases c51 : t340 = 0
                ·rw [if_pos c51] at H
                 have c51b0 : (t340 == 0) = true := beq_iff_eq.mpr c51
                 have c51b1 : (t340 != 0) = false := bne_eq_false_iff_eq.mpr c51
                 clear c51
                 by_cases c52 : (t339.length : Int) = 1
                 ·rw [if_pos c52] at H
                  have c52b0 : ((t339.length : Int) == 1) = true := beq_iff_eq.mpr c52
                  have c52b1 : ((t339.length : Int) != 1) = false := bne_eq_false_iff_eq.mpr c52
                  clear c52
                  by_cases c53 : 0 < (t339.length : Int)
                  ·rw [if_pos c53] at H
                   have c53b0 : decide (0 < (t339.length : Int)) = true := decide_eq_true c53
                   have c53b1 : decide (0 < t339.length) = true := decide_eq_true q2_
                   have c53b2 : 0 < t339.length := by omega
                   clear c53
                   obtain rfl := Option.some.inj H
                   go_wp2_with (first | ((with_reducible refine gate_callee (f := 13) rfl ?_); refine goesL_ (some 108) rfl rfl Tryd.func13 q9_ rfl #[.string a3] rfl q84_ ?_; (with_reducible refine (rosterref22_DecodePage.calls kj39 a3 t333 t334 t335 _ A45.out).mono ?_); rintro e w54 ⟨rfl, hb⟩; refine ⟨_, rfl, ?_⟩; have n1_ := Aside0.mk (below_step q1_ hb); clear HB; have HB := n1_; clear n1_; (try clear hb); (try clear hb2); (try clear hk); (try clear hi)) | ((with_reducible refine gate_callee (f := 14) rfl ?_); refine goesL_ (some 114) rfl rfl Tryd.func14 q9_ rfl #[.string a3] rfl q84_ ?_; (with_reducible refine (view_DecodePage.calls a3 t336 t337 t338 _ A46.out).mono ?_); rintro e w55 ⟨rfl, hb⟩; refine ⟨_, rfl, ?_⟩; have n1_ := Aside0.mk (below_step q1_ hb); clear HB; have HB := n1_; clear n1_; (try clear hb); (try clear hb2); (try clear hk); (try clear hi)) | ((with_reducible refine gate_callee (f := 10) rfl ?_); refine goesL_ (some 132) rfl rfl Tryd.func10 q9_ rfl #[.string (⟨#[48, 129, 6, 48, 4, 4, 2, 99, 110]⟩ : ByteArray)] rfl q84_ ?_; (with_reducible refine (view_DecodeKeys.calls (⟨#[48, 129, 6, 48, 4, 4, 2, 99, 110]⟩ : ByteArray) t339 t340 _ A50.out).mono ?_); rintro e w56 ⟨v341, rfl, ho0, hb⟩; refine ⟨_, rfl, ?_⟩; have n0_ := Aside0.mk (Kd.R_lower ho0 (below_size q1_)); have n2_ := Aside0.mk (below_step q1_ hb); clear HB; have HO342 := n0_; have HB := n2_; clear n0_ n2_; (try clear hb); (try clear hb2); (try clear hk); (try clear hi); (try clear ho0); obtain ⟨Ao57, co57, eo57⟩ := Kd.R_slice HO342.out; subst eo57; have p343 : 0 ≤ (0 : Int) := q2_; have q343 : 0 < (t339.length : Int) := of_decide_eq_true q6_; obtain ⟨ad343, e343, hx343_0, hx343_1, hx343_2⟩ := at_T25 (Kd.R_reads' HO342.out).2.2 0 p343 q343; cases e343; have qi343 : (0 < t339.length) = True := eq_true q2_; (try rw [show ((0 : Int)).toNat = 0 from rfl] at hx343_0); (try rw [show 0 * 3 = 0 from rfl] at hx343_0); (try rw [Addr.add_zero'] at hx343_0); (try rw [show ((0 : Int)).toNat = 0 from rfl] at hx343_1); (try rw [show 0 * 3 = 0 from rfl] at hx343_1); (try rw [Addr.add_zero'] at hx343_1); (try rw [show ((0 : Int)).toNat = 0 from rfl] at hx343_2); (try rw [show 0 * 3 = 0 from rfl] at hx343_2); (try rw [Addr.add_zero'] at hx343_2); replace p343 := eq_true p343; replace q343 := eq_true q343))
                   go_ret
                   exact ⟨q4_, q1_⟩
                  ·rw [if_neg c53] at H
                   exact absurd H q28_
                 ·rw [if_neg c52] at H
                  have c52b0 : ((t339.length : Int) == 1) = false := beq_eq_false_iff_ne.mpr c52
                  have c52b1 : ((t339.length : Int) != 1) = true := bne_iff_ne.mpr c52
                  obtain rfl := Option.some.inj H
                  go_wp2_with (first | ((with_reducible refine gate_callee (f := 13) rfl ?_); refine goesL_ (some 108) rfl rfl Tryd.func13 q9_ rfl #[.string a3] rfl q84_ ?_; (with_reducible refine (rosterref22_DecodePage.calls kj39 a3 t333 t334 t335 _ A45.out).mono ?_); rintro e w58 ⟨rfl, hb⟩; refine ⟨_, rfl, ?_⟩; have n1_ := Aside0.mk (below_step q1_ hb); clear HB; have HB := n1_; clear n1_; (try clear hb); (try clear hb2); (try clear hk); (try clear hi)) | ((with_reducible refine gate_callee (f := 14) rfl ?_); refine goesL_ (some 114) rfl rfl Tryd.func14 q9_ rfl #[.string a3] rfl q84_ ?_; (with_reducible refine (view_DecodePage.calls a3 t336 t337 t338 _ A46.out).mono ?_); rintro e w59 ⟨rfl, hb⟩; refine ⟨_, rfl, ?_⟩; have n1_ := Aside0.mk (below_step q1_ hb); clear HB; have HB := n1_; clear n1_; (try clear hb); (try clear hb2); (try clear hk); (try clear hi)) | ((with_reducible refine gate_callee (f := 10) rfl ?_); refine goesL_ (some 132) rfl rfl Tryd.func10 q9_ rfl #[.string (⟨#[48, 129, 6, 48, 4, 4, 2, 99, 110]⟩ : ByteArray)] rfl q84_ ?_; (with_reducible refine (view_DecodeKeys.calls (⟨#[48, 129, 6, 48, 4, 4, 2, 99, 110]⟩ : ByteArray) t339 t340 _ A50.out).mono ?_); rintro e w60 ⟨v341, rfl, ho0, hb⟩; refine ⟨_, rfl, ?_⟩; have n0_ := Aside0.mk (Kd.R_lower ho0 (below_size q1_)); have n2_ := Aside0.mk (below_step q1_ hb); clear HB; have HO342 := n0_; have HB := n2_; clear n0_ n2_; (try clear hb); (try clear hb2); (try clear hk); (try clear hi); (try clear ho0); obtain ⟨Ao61, co61, eo61⟩ := Kd.R_slice HO342.out; subst eo61))
                  go_ret
                  exact ⟨q4_, q1_⟩
                ·rw [if_neg c51] at H
                 have c51b0 : (t340 == 0) = false := beq_eq_false_iff_ne.mpr c51
                 have c51b1 : (t340 != 0) = true := bne_iff_ne.mpr c51
                 obtain rfl := Option.some.inj H
                 go_wp2_with (first | ((with_reducible refine gate_callee (f := 13) rfl ?_); refine goesL_ (some 108) rfl rfl Tryd.func13 q9_ rfl #[.string a3] rfl q84_ ?_; (with_reducible refine (rosterref22_DecodePage.calls kj39 a3 t333 t334 t335 _ A45.out).mono ?_); rintro e w62 ⟨rfl, hb⟩; refine ⟨_, rfl, ?_⟩; have n1_ := Aside0.mk (below_step q1_ hb); clear HB; have HB := n1_; clear n1_; (try clear hb); (try clear hb2); (try clear hk); (try clear hi)) | ((with_reducible refine gate_callee (f := 14) rfl ?_); refine goesL_ (some 114) rfl rfl Tryd.func14 q9_ rfl #[.string a3] rfl q84_ ?_; (with_reducible refine (view_DecodePage.calls a3 t336 t337 t338 _ A46.out).mono ?_); rintro e w63 ⟨rfl, hb⟩; refine ⟨_, rfl, ?_⟩; have n1_ := Aside0.mk (below_step q1_ hb); clear HB; have HB := n1_; clear n1_; (try clear hb); (try clear hb2); (try clear hk); (try clear hi)) | ((with_reducible refine gate_callee (f := 10) rfl ?_); refine goesL_ (some 132) rfl rfl Tryd.func10 q9_ rfl #[.string (⟨#[48, 129, 6, 48, 4, 4, 2, 99, 110]⟩ : ByteArray)] rfl q84_ ?_; (with_reducible refine (view_DecodeKeys.calls (⟨#[48, 129, 6, 48, 4, 4, 2, 99, 110]⟩ : ByteArray) t339 t340 _ A50.out).mono ?_); rintro e w64 ⟨v341, rfl, ho0, hb⟩; refine ⟨_, rfl, ?_⟩; have n0_ := Aside0.mk (Kd.R_lower ho0 (below_size q1_)); have n2_ := Aside0.mk (below_step q1_ hb); clear HB; have HO342 := n0_; have HB := n2_; clear n0_ n2_; (try clear hb); (try clear hb2); (try clear hk); (try clear hi); (try clear ho0)))
                 go_ret
                 exact ⟨q4_, q1_⟩
               ·rw [if_neg c49] at H
                have c49b0 : (t337.toList == t334.toList) = false := beq_eq_false_iff_ne.mpr c49
                have c49b1 : (t337.toList != t334.toList) = true := bne_iff_ne.mpr c49
                obtain rfl := Option.some.inj H
                go_wp2_with (first | ((with_reducible refine gate_callee (f := 13) rfl ?_); refine goesL_ (some 108) rfl rfl Tryd.func13 q9_ rfl #[.string a3] rfl q84_ ?_; (with_reducible refine (rosterref22_DecodePage.calls kj39 a3 t333 t334 t335 _ A45.out).mono ?_); rintro e w65 ⟨rfl, hb⟩; refine ⟨_, rfl, ?_⟩; have n1_ := Aside0.mk (below_step q1_ hb); clear HB; have HB := n1_; clear n1_; (try clear hb); (try clear hb2); (try clear hk); (try clear hi)) | ((with_reducible refine gate_callee (f := 14) rfl ?_); refine goesL_ (some 114) rfl rfl Tryd.func14 q9_ rfl #[.string a3] rfl q84_ ?_; (with_reducible refine (view_DecodePage.calls a3 t336 t337 t338 _ A46.out).mono ?_); rintro e w66 ⟨rfl, hb⟩; refine ⟨_, rfl, ?_⟩; have n1_ := Aside0.mk (below_step q1_ hb); clear HB; have HB := n1_; clear n1_; (try clear hb); (try clear hb2); (try clear hk); (try clear hi)))
                go_ret
                exact ⟨q4_, q1_⟩
              ·rw [if_neg c48] at H
               have c48b0 : (t336 == t333) = false := beq_eq_false_iff_ne.mpr c48
               have c48b1 : (t336 != t333) = true := bne_iff_ne.mpr c48
               obtain rfl := Option.some.inj H
               go_wp2_with (first | ((with_reducible refine gate_callee (f := 13) rfl ?_); refine goesL_ (some 108) rfl rfl Tryd.func13 q9_ rfl #[.string a3] rfl q84_ ?_; (with_reducible refine (rosterref22_DecodePage.calls kj39 a3 t333 t334 t335 _ A45.out).mono ?_); rintro e w67 ⟨rfl, hb⟩; refine ⟨_, rfl, ?_⟩; have n1_ := Aside0.mk (below_step q1_ hb); clear HB; have HB := n1_; clear n1_; (try clear hb); (try clear hb2); (try clear hk); (try clear hi)) | ((with_reducible refine gate_callee (f := 14) rfl ?_); refine goesL_ (some 114) rfl rfl Tryd.func14 q9_ rfl #[.string a3] rfl q84_ ?_; (with_reducible refine (view_DecodePage.calls a3 t336 t337 t338 _ A46.out).mono ?_); rintro e w68 ⟨rfl, hb⟩; refine ⟨_, rfl, ?_⟩; have n1_ := Aside0.mk (below_step q1_ hb); clear HB; have HB := n1_; clear n1_; (try clear hb); (try clear hb2); (try clear hk); (try clear hi)))
               go_ret
               exact ⟨q4_, q1_⟩
             ·rw [if_neg c47] at H
              have c47b0 : (t338 == t335) = false := beq_eq_false_iff_ne.mpr c47
              have c47b1 : (t338 != t335) = true := bne_iff_ne.mpr c47
              obtain rfl := Option.some.inj H
              go_wp2_with (first | ((with_reducible refine gate_callee (f := 13) rfl ?_); refine goesL_ (some 108) rfl rfl Tryd.func13 q9_ rfl #[.string a3] rfl q84_ ?_; (with_reducible refine (rosterref22_DecodePage.calls kj39 a3 t333 t334 t335 _ A45.out).mono ?_); rintro e w69 ⟨rfl, hb⟩; refine ⟨_, rfl, ?_⟩; have n1_ := Aside0.mk (below_step q1_ hb); clear HB; have HB := n1_; clear n1_; (try clear hb); (try clear hb2); (try clear hk); (try clear hi)) | ((with_reducible refine gate_callee (f := 14) rfl ?_); refine goesL_ (some 114) rfl rfl Tryd.func14 q9_ rfl #[.string a3] rfl q84_ ?_; (with_reducible refine (view_DecodePage.calls a3 t336 t337 t338 _ A46.out).mono ?_); rintro e w70 ⟨rfl, hb⟩; refine ⟨_, rfl, ?_⟩; have n1_ := Aside0.mk (below_step q1_ hb); clear HB; have HB := n1_; clear n1_; (try clear hb); (try clear hb2); (try clear hk); (try clear hi)))
              go_ret
              exact ⟨q4_, q1_⟩
   ·rw [if_neg c9] at H
    exact absurd H q28_
  ·rw [if_neg c8] at H
   exact absurd H q28_
 ·rw [if_neg c7] at H
  exact absurd H q28_
end Go.Proofs.YtogjljpncdmlkaaDoor.GV
end
