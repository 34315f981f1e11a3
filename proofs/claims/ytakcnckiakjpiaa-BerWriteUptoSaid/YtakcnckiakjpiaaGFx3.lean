-- Written for this claim by a program of this session (wip/tools/p2.py).
import Derived.Test.YtakcnckiakjpiaaGFx0
import Derived.Test.YtakcnckiakjpiaaGFx1
import Derived.Test.YtakcnckiakjpiaaGFx2
namespace Go.Proofs.Ytakcnckiakjpiaa.GF
open Go.RowKit Go.Proofs.YtakcnckiakjpiaaW.PrintWords Go.Proofs.YtakcnckiakjpiaaW.PrintLast Go.Proofs.YtakcnckiakjpiaaW.PrintMore
attribute [local go_sem] max2_int min2_int max_two min_two max_three min_three max_four min_four   -- for this text's walks alone
set_option linter.unusedVariables false
set_option linter.unusedSimpArgs false

attribute [local go_sem high] eqA26
/-! ### rosterlaw02_BerWrite: function 3 -/
def rosterlaw02_BerWrite.f (k : Nat) (l0 : List (S26)) : Option (Bool) := (rosterlaw02_small.f l0).bind fun t103 => (if t103 = true then ((some (([] : List (S26)) : List (S26))).bind fun y105 => (if y105.length + l0.length < 2932031007402 then ((some (y105 ++ l0 : List (S26))).bind fun y108 => ((some (([(⟨(-7), 0, false, 0, (⟨#[115, 112, 97, 114, 101]⟩ : ByteArray)⟩ : S26)] : List (S26)) : List (S26))).bind fun y111 => (if y108.length + y111.length < 2932031007402 then ((some (y108 ++ y111 : List (S26))).bind fun y114 => (if 0 ≤ (l0.length : Int) then (if (l0.length : Int) ≤ (y114.length : Int) then ((ber_Write.f (y114.take ((l0.length : Int) : Int).toNat)).bind fun bt121 => ((rosterref02_Write.f l0).bind fun bt124 => (if bt121.1.toList = bt124.1.toList then (if bt121.2.1 = bt124.2.1 then (if bt121.2.2 = bt124.2.2 then ((rosterlaw02_sameNodes.f k (y114.take ((l0.length : Int) : Int).toNat) l0).bind fun t131 => (if t131 = true then (if (l0.length : Int) < (y114.length : Int) then (some (((rd_T26 y114 (l0.length : Int)).f0) == (-7) && (((rd_T26 y114 (l0.length : Int)).f1) == 0 && (!((rd_T26 y114 (l0.length : Int)).f2) && (((rd_T26 y114 (l0.length : Int)).f3) == 0 && ((((rd_T26 y114 (l0.length : Int)).f4).toList) == ([115, 112, 97, 114, 101] : List UInt8))))))) else (none)) else (some false))) else (some false)) else (some false)) else (some false)))) else (none)) else (none))) else (none)))) else (none))) else (some true))
theorem rosterlaw02_BerWrite.mono : ∀ a0 k, LeO (rosterlaw02_BerWrite.f k a0) (rosterlaw02_BerWrite.f (k + 1) a0) := by
 intro a0 k
 unfold rosterlaw02_BerWrite.f
 repeat' first
   | (with_reducible exact rosterlaw02_sameNodes.mono _ _ _)
   | (with_reducible exact LeO.refl _)
   | (with_reducible exact LeO.none _)
   | (with_reducible refine LeO.ite ?_ ?_)
   | (with_reducible refine LeO.bind ?_ (fun _ => ?_))
   | exact rosterlaw02_sameNodes.mono _ _ _
   | exact LeO.none _
   | refine LeO.ite ?_ ?_
   | refine LeO.bind ?_ (fun _ => ?_)
def rosterlaw02_BerWrite.T8 : Bool × List (List Nat × List Nat) := (true, [([], []), ([], []), ([0, 1], [0, 1]), ([2], [2]), ([3], [3]), ([3], [3]), ([4, 5, 3], [3, 4, 5]), ([3, 6], [3, 6]), ([7, 3], [7]), ([8], [8]), ([8], [8]), ([9, 10, 8], [8, 9, 10]), ([8, 11], [8, 11]), ([12, 8], [12]), ([13], [13]), ([13], [13]), ([15, 13], [13, 15]), ([14, 16, 13], [13, 14, 16]), ([13], [13]), ([17, 18, 13, 13], [13, 17, 18]), ([13, 19], [13, 19]), ([20, 19], [20]), ([21], [21]), ([21], [21]), ([23, 21], [21, 23]), ([22, 24, 21], [21, 22, 24]), ([25, 21], [21, 25]), ([21], [21]), ([26, 27, 21], [21, 26, 27]), ([21, 28], [21, 28]), ([29, 21, 0, 1, 2, 3, 4, 5, 6, 7, 8, 9, 10, 11, 12, 13, 14, 15, 16, 17, 18, 19, 20, 21, 22, 23, 24, 25, 26, 27, 28, 29], [29])])
def rosterlaw02_BerWrite.B8 : List Nat := [0, 0, 3, 7, 15, 15, 63, 127, 255, 511, 511, 2047, 4095, 8191, 16383, 16383, 49151, 131071, 16383, 524287, 1048575, 2097151, 4194303, 4194303, 12582911, 33554431, 67108863, 4194303, 268435455, 536870911, 1073741823]
theorem rosterlaw02_BerWrite.tab8 : rtab .any (opsOf Try.f3 8) = rosterlaw02_BerWrite.T8 := by kernel_rfl
theorem rosterlaw02_BerWrite.bits8 : waitsOk rosterlaw02_BerWrite.T8.2 rosterlaw02_BerWrite.B8 = true := by kernel_rfl
set_option maxHeartbeats 8000000 in
set_option maxRecDepth 100000 in
theorem rosterlaw02_BerWrite.calls (k : Nat) (A0 : Option Addr) (c0 : Nat) (l0 : List (S26)) (r : Bool) (w : World) (hr0 : Kd.C k26 w A0 l0.length l0) (hc0 : l0.length ≤ c0) (h : rosterlaw02_BerWrite.f k l0 = some r) (hrt : r = true) :
  Calls Try.prog 3 #[.slice A0 l0.length c0] w fun e w' => e = .returned (.bool r) ∧ Below w.heap.size w w' := by
 have HRT := Aside0.mk hrt
 clear hrt
 have hu26 := Try.underlying26
 have HR0 := Aside0.mk hr0
 have HC0 := Aside0.mk hc0
 clear hr0 hc0
 have HB := Aside0.mk (Below.refl w.heap.size w)
 have H : ((rosterlaw02_small.f l0).bind fun t103 => (if t103 = true then ((some (([] : List (S26)) : List (S26))).bind fun y105 => (if y105.length + l0.length < 2932031007402 then ((some (y105 ++ l0 : List (S26))).bind fun y108 => ((some (([(⟨(-7), 0, false, 0, (⟨#[115, 112, 97, 114, 101]⟩ : ByteArray)⟩ : S26)] : List (S26)) : List (S26))).bind fun y111 => (if y108.length + y111.length < 2932031007402 then ((some (y108 ++ y111 : List (S26))).bind fun y114 => (if 0 ≤ (l0.length : Int) then (if (l0.length : Int) ≤ (y114.length : Int) then ((ber_Write.f (y114.take ((l0.length : Int) : Int).toNat)).bind fun bt121 => ((rosterref02_Write.f l0).bind fun bt124 => (if bt121.1.toList = bt124.1.toList then (if bt121.2.1 = bt124.2.1 then (if bt121.2.2 = bt124.2.2 then ((rosterlaw02_sameNodes.f k (y114.take ((l0.length : Int) : Int).toNat) l0).bind fun t131 => (if t131 = true then (if (l0.length : Int) < (y114.length : Int) then (some (((rd_T26 y114 (l0.length : Int)).f0) == (-7) && (((rd_T26 y114 (l0.length : Int)).f1) == 0 && (!((rd_T26 y114 (l0.length : Int)).f2) && (((rd_T26 y114 (l0.length : Int)).f3) == 0 && ((((rd_T26 y114 (l0.length : Int)).f4).toList) == ([115, 112, 97, 114, 101] : List UInt8))))))) else (none)) else (some false))) else (some false)) else (some false)) else (some false)))) else (none)) else (none))) else (none)))) else (none))) else (some true))) = some r := h
 clear h
 replace H := Option.bind_eq_some_iff.mp H
 obtain ⟨t103, A20, H⟩ := H
 replace H : (if t103 = true then ((some (([] : List (S26)) : List (S26))).bind fun y105 => (if y105.length + l0.length < 2932031007402 then ((some (y105 ++ l0 : List (S26))).bind fun y108 => ((some (([(⟨(-7), 0, false, 0, (⟨#[115, 112, 97, 114, 101]⟩ : ByteArray)⟩ : S26)] : List (S26)) : List (S26))).bind fun y111 => (if y108.length + y111.length < 2932031007402 then ((some (y108 ++ y111 : List (S26))).bind fun y114 => (if 0 ≤ (l0.length : Int) then (if (l0.length : Int) ≤ (y114.length : Int) then ((ber_Write.f (y114.take ((l0.length : Int) : Int).toNat)).bind fun bt121 => ((rosterref02_Write.f l0).bind fun bt124 => (if bt121.1.toList = bt124.1.toList then (if bt121.2.1 = bt124.2.1 then (if bt121.2.2 = bt124.2.2 then ((rosterlaw02_sameNodes.f k (y114.take ((l0.length : Int) : Int).toNat) l0).bind fun t131 => (if t131 = true then (if (l0.length : Int) < (y114.length : Int) then (some (((rd_T26 y114 (l0.length : Int)).f0) == (-7) && (((rd_T26 y114 (l0.length : Int)).f1) == 0 && (!((rd_T26 y114 (l0.length : Int)).f2) && (((rd_T26 y114 (l0.length : Int)).f3) == 0 && ((((rd_T26 y114 (l0.length : Int)).f4).toList) == ([115, 112, 97, 114, 101] : List UInt8))))))) else (none)) else (some false))) else (some false)) else (some false)) else (some false)))) else (none)) else (none))) else (none)))) else (none))) else (some true)) = some r := H
 have A2 := Aside0.mk A20
 clear A20
 by_cases c3 : t103 = true
 ·subst c3
  have H1 : ((some (([] : List (S26)) : List (S26))).bind fun y105 => (if y105.length + l0.length < 2932031007402 then ((some (y105 ++ l0 : List (S26))).bind fun y108 => ((some (([(⟨(-7), 0, false, 0, (⟨#[115, 112, 97, 114, 101]⟩ : ByteArray)⟩ : S26)] : List (S26)) : List (S26))).bind fun y111 => (if y108.length + y111.length < 2932031007402 then ((some (y108 ++ y111 : List (S26))).bind fun y114 => (if 0 ≤ (l0.length : Int) then (if (l0.length : Int) ≤ (y114.length : Int) then ((ber_Write.f (y114.take ((l0.length : Int) : Int).toNat)).bind fun bt121 => ((rosterref02_Write.f l0).bind fun bt124 => (if bt121.1.toList = bt124.1.toList then (if bt121.2.1 = bt124.2.1 then (if bt121.2.2 = bt124.2.2 then ((rosterlaw02_sameNodes.f k (y114.take ((l0.length : Int) : Int).toNat) l0).bind fun t131 => (if t131 = true then (if (l0.length : Int) < (y114.length : Int) then (some (((rd_T26 y114 (l0.length : Int)).f0) == (-7) && (((rd_T26 y114 (l0.length : Int)).f1) == 0 && (!((rd_T26 y114 (l0.length : Int)).f2) && (((rd_T26 y114 (l0.length : Int)).f3) == 0 && ((((rd_T26 y114 (l0.length : Int)).f4).toList) == ([115, 112, 97, 114, 101] : List UInt8))))))) else (none)) else (some false))) else (some false)) else (some false)) else (some false)))) else (none)) else (none))) else (none)))) else (none))) = some r := by rw [if_pos rfl] at H; exact H
  clear H
  have H := H1
  clear H1
  obtain ⟨y105, hy105⟩ : ∃ y_ : List (S26), y_ = (([] : List (S26))) := ⟨_, rfl⟩
  replace H : (if y105.length + l0.length < 2932031007402 then ((some (y105 ++ l0 : List (S26))).bind fun y108 => ((some (([(⟨(-7), 0, false, 0, (⟨#[115, 112, 97, 114, 101]⟩ : ByteArray)⟩ : S26)] : List (S26)) : List (S26))).bind fun y111 => (if y108.length + y111.length < 2932031007402 then ((some (y108 ++ y111 : List (S26))).bind fun y114 => (if 0 ≤ (l0.length : Int) then (if (l0.length : Int) ≤ (y114.length : Int) then ((ber_Write.f (y114.take ((l0.length : Int) : Int).toNat)).bind fun bt121 => ((rosterref02_Write.f l0).bind fun bt124 => (if bt121.1.toList = bt124.1.toList then (if bt121.2.1 = bt124.2.1 then (if bt121.2.2 = bt124.2.2 then ((rosterlaw02_sameNodes.f k (y114.take ((l0.length : Int) : Int).toNat) l0).bind fun t131 => (if t131 = true then (if (l0.length : Int) < (y114.length : Int) then (some (((rd_T26 y114 (l0.length : Int)).f0) == (-7) && (((rd_T26 y114 (l0.length : Int)).f1) == 0 && (!((rd_T26 y114 (l0.length : Int)).f2) && (((rd_T26 y114 (l0.length : Int)).f3) == 0 && ((((rd_T26 y114 (l0.length : Int)).f4).toList) == ([115, 112, 97, 114, 101] : List UInt8))))))) else (none)) else (some false))) else (some false)) else (some false)) else (some false)))) else (none)) else (none))) else (none)))) else (none)) = some r := by first | (rw [hy105]; with_reducible exact H) | (have H2_ := (Option.bind_some _ _).symm.trans H; rw [hy105]; with_reducible exact H2_) | (have H2_ := (Option.bind_some _ _).symm.trans H; with_reducible exact H2_) | with_reducible exact H | (rw [hy105]; exact H) | exact H
  have Ny105 := Aside0.mk hy105
  clear hy105
  by_cases c4 : y105.length + l0.length < 2932031007402
  ·rw [if_pos c4] at H
   have LMc4 := Aside0.mk c4
   clear c4
   obtain ⟨y108, hy108⟩ : ∃ y_ : List (S26), y_ = (y105 ++ l0) := ⟨_, rfl⟩
   replace H : ((some (([(⟨(-7), 0, false, 0, (⟨#[115, 112, 97, 114, 101]⟩ : ByteArray)⟩ : S26)] : List (S26)) : List (S26))).bind fun y111 => (if y108.length + y111.length < 2932031007402 then ((some (y108 ++ y111 : List (S26))).bind fun y114 => (if 0 ≤ (l0.length : Int) then (if (l0.length : Int) ≤ (y114.length : Int) then ((ber_Write.f (y114.take ((l0.length : Int) : Int).toNat)).bind fun bt121 => ((rosterref02_Write.f l0).bind fun bt124 => (if bt121.1.toList = bt124.1.toList then (if bt121.2.1 = bt124.2.1 then (if bt121.2.2 = bt124.2.2 then ((rosterlaw02_sameNodes.f k (y114.take ((l0.length : Int) : Int).toNat) l0).bind fun t131 => (if t131 = true then (if (l0.length : Int) < (y114.length : Int) then (some (((rd_T26 y114 (l0.length : Int)).f0) == (-7) && (((rd_T26 y114 (l0.length : Int)).f1) == 0 && (!((rd_T26 y114 (l0.length : Int)).f2) && (((rd_T26 y114 (l0.length : Int)).f3) == 0 && ((((rd_T26 y114 (l0.length : Int)).f4).toList) == ([115, 112, 97, 114, 101] : List UInt8))))))) else (none)) else (some false))) else (some false)) else (some false)) else (some false)))) else (none)) else (none))) else (none))) = some r := by first | (rw [hy108]; with_reducible exact H) | (have H2_ := (Option.bind_some _ _).symm.trans H; rw [hy108]; with_reducible exact H2_) | (have H2_ := (Option.bind_some _ _).symm.trans H; with_reducible exact H2_) | with_reducible exact H | (rw [hy108]; exact H) | exact H
   have Ny108 := Aside0.mk hy108
   clear hy108
   obtain ⟨y111, hy111⟩ : ∃ y_ : List (S26), y_ = (([(⟨(-7), 0, false, 0, (⟨#[115, 112, 97, 114, 101]⟩ : ByteArray)⟩ : S26)] : List (S26))) := ⟨_, rfl⟩
   replace H : (if y108.length + y111.length < 2932031007402 then ((some (y108 ++ y111 : List (S26))).bind fun y114 => (if 0 ≤ (l0.length : Int) then (if (l0.length : Int) ≤ (y114.length : Int) then ((ber_Write.f (y114.take ((l0.length : Int) : Int).toNat)).bind fun bt121 => ((rosterref02_Write.f l0).bind fun bt124 => (if bt121.1.toList = bt124.1.toList then (if bt121.2.1 = bt124.2.1 then (if bt121.2.2 = bt124.2.2 then ((rosterlaw02_sameNodes.f k (y114.take ((l0.length : Int) : Int).toNat) l0).bind fun t131 => (if t131 = true then (if (l0.length : Int) < (y114.length : Int) then (some (((rd_T26 y114 (l0.length : Int)).f0) == (-7) && (((rd_T26 y114 (l0.length : Int)).f1) == 0 && (!((rd_T26 y114 (l0.length : Int)).f2) && (((rd_T26 y114 (l0.length : Int)).f3) == 0 && ((((rd_T26 y114 (l0.length : Int)).f4).toList) == ([115, 112, 97, 114, 101] : List UInt8))))))) else (none)) else (some false))) else (some false)) else (some false)) else (some false)))) else (none)) else (none))) else (none)) = some r := by first | (rw [hy111]; with_reducible exact H) | (have H2_ := (Option.bind_some _ _).symm.trans H; rw [hy111]; with_reducible exact H2_) | (have H2_ := (Option.bind_some _ _).symm.trans H; with_reducible exact H2_) | with_reducible exact H | (rw [hy111]; exact H) | exact H
   have Ny111 := Aside0.mk hy111
   clear hy111
   by_cases c5 : y108.length + y111.length < 2932031007402
   ·rw [if_pos c5] at H
    have LMc5 := Aside0.mk c5
    clear c5
    obtain ⟨y114, hy114⟩ : ∃ y_ : List (S26), y_ = (y108 ++ y111) := ⟨_, rfl⟩
    replace H : (if 0 ≤ (l0.length : Int) then (if (l0.length : Int) ≤ (y114.length : Int) then ((ber_Write.f (y114.take ((l0.length : Int) : Int).toNat)).bind fun bt121 => ((rosterref02_Write.f l0).bind fun bt124 => (if bt121.1.toList = bt124.1.toList then (if bt121.2.1 = bt124.2.1 then (if bt121.2.2 = bt124.2.2 then ((rosterlaw02_sameNodes.f k (y114.take ((l0.length : Int) : Int).toNat) l0).bind fun t131 => (if t131 = true then (if (l0.length : Int) < (y114.length : Int) then (some (((rd_T26 y114 (l0.length : Int)).f0) == (-7) && (((rd_T26 y114 (l0.length : Int)).f1) == 0 && (!((rd_T26 y114 (l0.length : Int)).f2) && (((rd_T26 y114 (l0.length : Int)).f3) == 0 && ((((rd_T26 y114 (l0.length : Int)).f4).toList) == ([115, 112, 97, 114, 101] : List UInt8))))))) else (none)) else (some false))) else (some false)) else (some false)) else (some false)))) else (none)) else (none)) = some r := by first | (rw [hy114]; with_reducible exact H) | (have H2_ := (Option.bind_some _ _).symm.trans H; rw [hy114]; with_reducible exact H2_) | (have H2_ := (Option.bind_some _ _).symm.trans H; with_reducible exact H2_) | with_reducible exact H | (rw [hy114]; exact H) | exact H
    have Ny114 := Aside0.mk hy114
    clear hy114
    by_cases c6 : 0 ≤ (l0.length : Int)
    ·rw [if_pos c6] at H
     have c6b0 := eq_true c6
     have c6b1 : decide (0 ≤ (l0.length : Int)) = true := decide_eq_true c6
     clear c6
     by_cases c7 : (l0.length : Int) ≤ (y114.length : Int)
     ·rw [if_pos c7] at H
      have c7b0 := eq_true c7
      have c7b1 : decide ((l0.length : Int) ≤ (y114.length : Int)) = true := decide_eq_true c7
      clear c7
      obtain ⟨y117, hy117⟩ : ∃ y_ : List (S26), y_ = (y114.take ((l0.length : Int) : Int).toNat) := ⟨_, rfl⟩
      replace H : ((ber_Write.f y117).bind fun bt121 => ((rosterref02_Write.f l0).bind fun bt124 => (if bt121.1.toList = bt124.1.toList then (if bt121.2.1 = bt124.2.1 then (if bt121.2.2 = bt124.2.2 then ((rosterlaw02_sameNodes.f k (y114.take ((l0.length : Int) : Int).toNat) l0).bind fun t131 => (if t131 = true then (if (l0.length : Int) < (y114.length : Int) then (some (((rd_T26 y114 (l0.length : Int)).f0) == (-7) && (((rd_T26 y114 (l0.length : Int)).f1) == 0 && (!((rd_T26 y114 (l0.length : Int)).f2) && (((rd_T26 y114 (l0.length : Int)).f3) == 0 && ((((rd_T26 y114 (l0.length : Int)).f4).toList) == ([115, 112, 97, 114, 101] : List UInt8))))))) else (none)) else (some false))) else (some false)) else (some false)) else (some false)))) = some r := by first | (rw [hy117]; with_reducible exact H) | (have H2_ := (Option.bind_some _ _).symm.trans H; rw [hy117]; with_reducible exact H2_) | (have H2_ := (Option.bind_some _ _).symm.trans H; with_reducible exact H2_) | with_reducible exact H | (rw [hy117]; exact H) | exact H
      have Ny117 := Aside0.mk hy117
      clear hy117
      replace H := Option.bind_eq_some_iff.mp H
      obtain ⟨⟨t121, t122, t123⟩, A80, H⟩ := H
      replace H : ((rosterref02_Write.f l0).bind fun bt124 => (if t121.toList = bt124.1.toList then (if t122 = bt124.2.1 then (if t123 = bt124.2.2 then ((rosterlaw02_sameNodes.f k (y114.take ((l0.length : Int) : Int).toNat) l0).bind fun t131 => (if t131 = true then (if (l0.length : Int) < (y114.length : Int) then (some (((rd_T26 y114 (l0.length : Int)).f0) == (-7) && (((rd_T26 y114 (l0.length : Int)).f1) == 0 && (!((rd_T26 y114 (l0.length : Int)).f2) && (((rd_T26 y114 (l0.length : Int)).f3) == 0 && ((((rd_T26 y114 (l0.length : Int)).f4).toList) == ([115, 112, 97, 114, 101] : List UInt8))))))) else (none)) else (some false))) else (some false)) else (some false)) else (some false))) = some r := H
      have A8 := Aside0.mk A80
      clear A80
      replace H := Option.bind_eq_some_iff.mp H
      obtain ⟨⟨t124, t125, t126⟩, A90, H⟩ := H
      replace H : (if t121.toList = t124.toList then (if t122 = t125 then (if t123 = t126 then ((rosterlaw02_sameNodes.f k (y114.take ((l0.length : Int) : Int).toNat) l0).bind fun t131 => (if t131 = true then (if (l0.length : Int) < (y114.length : Int) then (some (((rd_T26 y114 (l0.length : Int)).f0) == (-7) && (((rd_T26 y114 (l0.length : Int)).f1) == 0 && (!((rd_T26 y114 (l0.length : Int)).f2) && (((rd_T26 y114 (l0.length : Int)).f3) == 0 && ((((rd_T26 y114 (l0.length : Int)).f4).toList) == ([115, 112, 97, 114, 101] : List UInt8))))))) else (none)) else (some false))) else (some false)) else (some false)) else (some false)) = some r := H
      have A9 := Aside0.mk A90
      clear A90
      by_cases c10 : t121.toList = t124.toList
      ·rw [if_pos c10] at H
       have c10b0 : (t121.toList == t124.toList) = true := beq_iff_eq.mpr c10
       have c10b1 : (t121.toList != t124.toList) = false := bne_eq_false_iff_eq.mpr c10
       clear c10
       by_cases c11 : t122 = t125
       ·rw [if_pos c11] at H
        have c11b0 : (t122 == t125) = true := beq_iff_eq.mpr c11
        have c11b1 : (t122 != t125) = false := bne_eq_false_iff_eq.mpr c11
        clear c11
        by_cases c12 : t123 = t126
        ·rw [if_pos c12] at H
         have c12b0 : (t123 == t126) = true := beq_iff_eq.mpr c12
         have c12b1 : (t123 != t126) = false := bne_eq_false_iff_eq.mpr c12
         clear c12
         have c13b0 := eq_true (of_decide_eq_true (by first | (with_reducible assumption) | assumption) : 0 ≤ (l0.length : Int))
         have c14b0 := eq_true (of_decide_eq_true (by first | (with_reducible assumption) | assumption) : (l0.length : Int) ≤ (y114.length : Int))
         obtain ⟨y127, hy127⟩ : ∃ y_ : List (S26), y_ = (y114.take ((l0.length : Int) : Int).toNat) := ⟨_, rfl⟩
         replace H : ((rosterlaw02_sameNodes.f k y127 l0).bind fun t131 => (if t131 = true then (if (l0.length : Int) < (y114.length : Int) then (some (((rd_T26 y114 (l0.length : Int)).f0) == (-7) && (((rd_T26 y114 (l0.length : Int)).f1) == 0 && (!((rd_T26 y114 (l0.length : Int)).f2) && (((rd_T26 y114 (l0.length : Int)).f3) == 0 && ((((rd_T26 y114 (l0.length : Int)).f4).toList) == ([115, 112, 97, 114, 101] : List UInt8))))))) else (none)) else (some false))) = some r := by first | (rw [hy127]; with_reducible exact H) | (have H2_ := (Option.bind_some _ _).symm.trans H; rw [hy127]; with_reducible exact H2_) | (have H2_ := (Option.bind_some _ _).symm.trans H; with_reducible exact H2_) | with_reducible exact H | (rw [hy127]; exact H) | exact H
         have Ny127 := Aside0.mk hy127
         clear hy127
         replace H := Option.bind_eq_some_iff.mp H
         obtain ⟨t131, A150, H⟩ := H
         replace H : (if t131 = true then (if (l0.length : Int) < (y114.length : Int) then (some (((rd_T26 y114 (l0.length : Int)).f0) == (-7) && (((rd_T26 y114 (l0.length : Int)).f1) == 0 && (!((rd_T26 y114 (l0.length : Int)).f2) && (((rd_T26 y114 (l0.length : Int)).f3) == 0 && ((((rd_T26 y114 (l0.length : Int)).f4).toList) == ([115, 112, 97, 114, 101] : List UInt8))))))) else (none)) else (some false)) = some r := H
         have A15 := Aside0.mk A150
         clear A150
         by_cases c16 : t131 = true
         ·subst c16
          have H1 : (if (l0.length : Int) < (y114.length : Int) then (some (((rd_T26 y114 (l0.length : Int)).f0) == (-7) && (((rd_T26 y114 (l0.length : Int)).f1) == 0 && (!((rd_T26 y114 (l0.length : Int)).f2) && (((rd_T26 y114 (l0.length : Int)).f3) == 0 && ((((rd_T26 y114 (l0.length : Int)).f4).toList) == ([115, 112, 97, 114, 101] : List UInt8))))))) else (none)) = some r := by rw [if_pos rfl] at H; exact H
          clear H
          have H := H1
          clear H1
          by_cases c17 : (l0.length : Int) < (y114.length : Int)
          ·rw [if_pos c17] at H
           have c17b0 : decide ((l0.length : Int) < (y114.length : Int)) = true := decide_eq_true c17
           have c17b1 : decide (l0.length < y114.length) = true := decide_eq_true (Int.ofNat_lt.mp c17)
           clear c17
           obtain rfl := Option.some.inj H
           go_enter Try.func3, Try.ntmps3
           try go_wp2_with (first | ((with_reducible refine gate_callee (f := 7) rfl ?_); refine goesL_ (some 13) rfl rfl Try.func7 (by kernel_rfl) rfl #[.slice A0 l0.length c0] rfl (by (try simp only [List.map_toArray, List.map_cons, List.map_nil]); first | done | rfl | (simp only [List.length_drop, List.length_take]; rfl) | exact congrArg (fun n_ : Nat => #[Value.slice _ n_ _]) (Eq.trans (Aside0.out (by assumption)) (Eq.symm (Aside0.out (by assumption)))) | exact congrArg (fun n_ : Nat => #[Value.slice _ n_ _, Value.slice _ _ _]) (Eq.trans (Aside0.out (by assumption)) (Eq.symm (Aside0.out (by assumption))))) ?_; (with_reducible refine (rosterlaw02_small.calls _ _ l0 true _ ?side1 ?side2 A2.out).mono ?_); (case side1 => repeat (first | exact HR0.out | (with_reducible refine Kd.C_alloc ?_ _) | (with_reducible refine Kd.C_drewN ?_ _) | (with_reducible refine Kd.C_drew ?_))); (case side2 => exact HC0.out); rintro e w18 ⟨rfl, hb⟩; refine ⟨_, rfl, ?_⟩; have n0_ := Aside0.mk (below_step (by repeat (first | (with_reducible first | exact HB.out | apply below_alloc | apply pw_below_drewN | apply below_drew1) | exact HB.out)) hb); clear HB; have HB := n0_; clear n0_; (try clear hb); (try clear hb2); (try clear hk); (try clear hi)) | ((with_reducible refine gate_dst (N := 4) rfl ?_); (try (refine gate_guard (by rfl) ?_; dsimp only)); refine box_event ?hg (N := 4) ?hd (cs := #[.int .i64 0, .int .i64 0, .bool false, .int .i64 0, .string (⟨#[]⟩ : ByteArray)]) (t := 26) ?hr ?_; (case hd => rfl); (case hg => rfl); (case hr => first | (go_simp; done) | (go_simp; rfl)); intro gb104 hg w19 hbox hb; have n0_ := Aside0.mk (below_step (by repeat (first | (with_reducible first | exact HB.out | apply below_alloc | apply pw_below_drewN | apply below_drew1) | exact HB.out)) hb); have n1_ := Aside0.mk (hbox); have n2_ := Aside0.mk ((by rw [hg]; exact (below_size (by repeat (first | (with_reducible first | exact HB.out | apply below_alloc | apply pw_below_drewN | apply below_drew1) | exact HB.out))) : w.heap.size ≤ gb104)); have n3_ := Aside0.mk ((by rw [hg]; exact (below_size (by repeat (first | (with_reducible first | exact HB.out | apply below_alloc | apply pw_below_drewN | apply below_drew1) | exact HB.out))) : w.heap.size ≤ gb104)); clear HB; have HB := n0_; have BK104 := n1_; have GW104 := n2_; have GE104 := n3_; clear n0_ n1_ n2_ n3_; clear hb hbox hg; obtain ⟨hcz20_0, hcz20_1, hcz20_2, hcz20_3, hcz20_4⟩ := cells5_ BK104.out; obtain ⟨hfz20_0, hfz20_1, hfz20_2, hfz20_3, hfz20_4⟩ := frz5_ BK104.out))
           have n0_ : Aside0 ((((((w19.setCell ⟨gb104, 0, none⟩ (.int .i64 (-7))).setCell ⟨gb104, 1, none⟩ (.int .i64 0)).setCell ⟨gb104, 2, none⟩ (.bool false)).setCell ⟨gb104, 3, none⟩ (.int .i64 0)).setCell ⟨gb104, 4, none⟩ (.string (⟨#[115, 112, 97, 114, 101]⟩ : ByteArray))).heap[gb104]? = some (.cells #[.int .i64 (-7), .int .i64 0, .bool false, .int .i64 0, .string (⟨#[115, 112, 97, 114, 101]⟩ : ByteArray)] 26 (0, 0))) := ⟨by (with_reducible repeat (first | refine blk_drewN ?_ _ | refine blk_drew ?_ | refine blk_alloc ?_ _)); exact put5_ (by (with_reducible repeat (first | refine blk_drewN ?_ _ | refine blk_drew ?_ | refine blk_alloc ?_ _)); exact BK104.out)⟩
           have n1_ : Aside0 (Below w.heap.size w (((((w19.setCell ⟨gb104, 0, none⟩ (.int .i64 (-7))).setCell ⟨gb104, 1, none⟩ (.int .i64 0)).setCell ⟨gb104, 2, none⟩ (.bool false)).setCell ⟨gb104, 3, none⟩ (.int .i64 0)).setCell ⟨gb104, 4, none⟩ (.string (⟨#[115, 112, 97, 114, 101]⟩ : ByteArray)))) := ⟨by repeat (first | (with_reducible first | exact HB.out | apply below_alloc | apply pw_below_drewN | apply below_drew1 | refine below_set ?_ GE104.out) | exact HB.out)⟩
           (try clear BK104)
           (try clear HB)
           generalize (((((w19.setCell ⟨gb104, 0, none⟩ (.int .i64 (-7))).setCell ⟨gb104, 1, none⟩ (.int .i64 0)).setCell ⟨gb104, 2, none⟩ (.bool false)).setCell ⟨gb104, 3, none⟩ (.int .i64 0)).setCell ⟨gb104, 4, none⟩ (.string (⟨#[115, 112, 97, 114, 101]⟩ : ByteArray))) = w21 at n0_ n1_ ⊢
           have BK104 := n0_
           have HB := n1_
           clear n0_ n1_
           have n0_ := Aside0.mk (blk_drew BK104.out)
           have n1_ := Aside0.mk (below_drew1 HB.out)
           clear BK104
           clear HB
           have BK104 := n0_
           have HB := n1_
           clear n0_ n1_
           refine start_ (n := 7) (S := fun w' => w'.cell? ⟨gb104, 0, none⟩ = some (.int .i64 (-7)) ∧ w'.cell? ⟨gb104, 1, none⟩ = some (.int .i64 0) ∧ w'.cell? ⟨gb104, 2, none⟩ = some (.bool false) ∧ w'.cell? ⟨gb104, 3, none⟩ = some (.int .i64 0) ∧ w'.cell? ⟨gb104, 4, none⟩ = some (.string (⟨#[115, 112, 97, 114, 101]⟩ : ByteArray))) (ds := []) #[false, false, false, false, false, false, false] (by kernel_rfl) rfl rfl ⟨(blk_cell BK104.out 0).trans rfl, (blk_cell BK104.out 1).trans rfl, (blk_cell BK104.out 2).trans rfl, (blk_cell BK104.out 3).trans rfl, (blk_cell BK104.out 4).trans rfl⟩ (fun hHeld => ?_)
           generalize w21.drew = w22 at BK104 HB hHeld ⊢
           refine pure_ (i := 1) (N := some 18) (v := ?_) (a' := ?_) #[false, true, false, false, false, false, false] rfl rfl (by kernel_rfl) (fun _ _ _ h => h) (Or.inl ⟨by rfl, ?_⟩) ?_ ?_
           rotate_left
           ·intro w'
            go_simp
            with_reducible rfl
           rotate_left
           ·simp only [Act.put, List.setIfInBounds_toArray, List.set_cons_zero, List.set_cons_succ, i64_w, i32_w]
            rfl
           refine take_ (i := 3) (N := some 20) (v := ?_) (a' := ?_) #[false, true, false, true, false, false, false] rfl rfl (by kernel_rfl) (fun _ _ _ h => h) (Or.inl ⟨by rfl, ?_⟩) hHeld ?_ ?_
           rotate_left
           ·rintro w' ⟨s0, s1, s2, s3, s4⟩
            go_simp
            with_reducible rfl
           rotate_left
           ·simp only [Act.put, List.setIfInBounds_toArray, List.set_cons_zero, List.set_cons_succ, i64_w, i32_w]
            rfl
           refine join_ (σ := Value × Value × Value) 2 #[true, true, true, true, true, false, false] (fun s_ => [(17, s_.1), (19, s_.2.1), (21, s_.2.2)]) (fun s_ w' => (w'.cell? ⟨gb104, 0, none⟩ = some (.int .i64 (-7)) ∧ w'.cell? ⟨gb104, 1, none⟩ = some (.int .i64 0) ∧ w'.cell? ⟨gb104, 2, none⟩ = some (.bool false) ∧ w'.cell? ⟨gb104, 3, none⟩ = some (.int .i64 0) ∧ w'.cell? ⟨gb104, 4, none⟩ = some (.string (⟨#[115, 112, 97, 114, 101]⟩ : ByteArray))) ∧ (Kd.R k26 26 w' w.heap.size (fun k_ => some k_ ≠ (s_.2.2 : Value).ownBlock ∧ k_ ≠ gb104) s_.2.1 y108) ∧ (Kd.R k26 26 w' w.heap.size (fun k_ => some k_ ≠ (s_.2.1 : Value).ownBlock ∧ k_ ≠ gb104) s_.2.2 y111) ∧ (w'.heap[gb104]? = some (.cells #[.int .i64 (-7), .int .i64 0, .bool false, .int .i64 0, .string (⟨#[115, 112, 97, 114, 101]⟩ : ByteArray)] 26 (0, 0))) ∧ (Below w.heap.size w w')) ?_ ?_
           rotate_left
           ·intro hCont
            refine two_ (i := 0) (j := 4) (Ni := some 17) (Nj := some 21) #[true, true, false, true, false, false, false] #[false, true, false, true, true, false, false] rfl rfl rfl rfl (by kernel_rfl) (by decide) (by decide) (fun K hK => ?_) (fun K hK => ?_)
            ·skip
             refine Kd.R_lit_step k26 _ 26 ?hg (N := 17) ?hd (xs := ([] : List (S26))) (inner := []) (ok := fun _ => True) (okp := fun _ => True) ?hr ?hp (fun _ hk => hk) trivial (Below.refl _ _) (Nat.le_refl _) (by simp) ?_; (case hd => rfl); (case hg => rfl); (case hr => first | (go_simp; done) | (go_simp; rfl)); (case hp => exact (Reps.none _ _))
             intro v106 w23 ho24 hb hg_ hnew_
             clear hg_ hnew_
             (first | rw [← Ny105.out] at ho24 | (simp only [Int.reduceToNat] at ho24; rw [← Ny105.out] at ho24))
             have n0_ := Aside0.mk (Kd.R_lower (Kd.R_newB ho24 (g := gb104) (o := .cells #[.int .i64 (-7), .int .i64 0, .bool false, .int .i64 0, .string (⟨#[115, 112, 97, 114, 101]⟩ : ByteArray)] 26 (0, 0)) (by (with_reducible repeat (first | refine blk_drewN ?_ _ | refine blk_drew ?_ | refine blk_alloc ?_ _)); exact BK104.out)) (below_size (by repeat (first | (with_reducible first | exact HB.out | apply below_alloc | apply pw_below_drewN | apply below_drew1 | refine below_set ?_ GE104.out) | exact HB.out))))
             have n1_ := Aside0.mk (blk_below (g := gb104) (o := .cells #[.int .i64 (-7), .int .i64 0, .bool false, .int .i64 0, .string (⟨#[115, 112, 97, 114, 101]⟩ : ByteArray)] 26 (0, 0)) (by (with_reducible repeat (first | refine blk_drewN ?_ _ | refine blk_drew ?_ | refine blk_alloc ?_ _)); exact BK104.out) hb)
             have n2_ := Aside0.mk (below_step (by repeat (first | (with_reducible first | exact HB.out | apply below_alloc | apply pw_below_drewN | apply below_drew1 | refine below_set ?_ GE104.out) | exact HB.out)) hb)
             clear BK104
             clear HB
             have HO107 := n0_
             have BK104 := n1_
             have HB := n2_
             clear n0_ n1_ n2_
             clear hb ho24
             refine hK.out _ _ ⟨(blk_cell BK104.out 0).trans rfl, (blk_cell BK104.out 1).trans rfl, (blk_cell BK104.out 2).trans rfl, (blk_cell BK104.out 3).trans rfl, (blk_cell BK104.out 4).trans rfl⟩ (fun hHeld => ?_)
             clear hK K
             refine norm_ (a' := ?_) ?_ ?_
             rotate_left
             ·show Act.put _ (some 17) _ = _
              simp only [Act.put, List.setIfInBounds_toArray, List.set_cons_zero, List.set_cons_succ, i64_w, i32_w]
              rfl
             refine two_ (i := 2) (j := 4) (Ni := some 19) (Nj := some 21) #[true, true, true, true, false, false, false] #[true, true, false, true, true, false, false] rfl rfl rfl rfl (by kernel_rfl) (by decide) (by decide) (fun K hK => ?_) (fun K hK => ?_)
             ·skip
              refine Kd.R_append_rows_step k26 (w0 := w) w.heap.size (by rfl) (.tmp 17) (.tmp 18) 22 26 (.agg #[(.int .i64 0), (.int .i64 0), (.bool false), (.int .i64 0), (.string ⟨#[]⟩)]) 48 rfl Try.underlying22 info26 rfl (by decide) (by omega) v106 y105 l0 _ _ _ (fun k_ => k_ ≠ gb104) (fun _ => False) rfl rfl ?aO ?aR (fun _ _ h => h) (fun _ h => h.elim) ?aF ?aB ?aS ?aL ?_
              (case aR => repeat (first | exact (Kd.C_below HR0.out HB.out) | (with_reducible refine Kd.C_alloc ?_ _) | (with_reducible refine Kd.C_drewN ?_ _) | (with_reducible refine Kd.C_drew ?_)))
              (case aB => exact (by repeat (first | (with_reducible first | exact HB.out | apply below_alloc | apply pw_below_drewN | apply below_drew1 | refine below_set ?_ GE104.out) | exact HB.out)))
              (case aF => exact (fun k_ hk => Kd.freshB (g := gb104) (o := .cells #[.int .i64 (-7), .int .i64 0, .bool false, .int .i64 0, .string (⟨#[115, 112, 97, 114, 101]⟩ : ByteArray)] 26 (0, 0)) (by (with_reducible repeat (first | refine blk_drewN ?_ _ | refine blk_drew ?_ | refine blk_alloc ?_ _)); exact BK104.out) k_ hk))
              (case aO => exact (by (with_reducible repeat (first | apply Kd.R_alloc | apply Kd.R_drewN | apply Kd.R_drew)); exact Kd.R_mono HO107.out (fun _ hk => hk.2)))
              (case aS => exact (below_size (by repeat (first | (with_reducible first | exact HB.out | apply below_alloc | apply pw_below_drewN | apply below_drew1 | refine below_set ?_ GE104.out) | exact HB.out))))
              (case aL => have := LMc4.out; omega)
              intro v109 w25 ho hb hg hat
              rw [← Ny108.out] at ho
              have n0_ := Aside0.mk (blk_grown (g := gb104) (o := .cells #[.int .i64 (-7), .int .i64 0, .bool false, .int .i64 0, .string (⟨#[115, 112, 97, 114, 101]⟩ : ByteArray)] 26 (0, 0)) (by (with_reducible repeat (first | refine blk_drewN ?_ _ | refine blk_drew ?_ | refine blk_alloc ?_ _)); exact BK104.out) hg (Kd.R_away HO107.out (fun _ hk => hk.2)))
              have n1_ := Aside0.mk (hb)
              have n2_ := Aside0.mk (ho)
              clear BK104
              clear HB
              clear HO107
              have BK104 := n0_
              have HB := n1_
              have HO110 := n2_
              clear n0_ n1_ n2_
              clear ho hb hg hat
              refine hK.out _ _ ⟨(blk_cell BK104.out 0).trans rfl, (blk_cell BK104.out 1).trans rfl, (blk_cell BK104.out 2).trans rfl, (blk_cell BK104.out 3).trans rfl, (blk_cell BK104.out 4).trans rfl⟩ (fun hHeld => ?_)
              clear hK K
              refine norm_ (a' := ?_) ?_ ?_
              rotate_left
              ·show Act.put _ (some 19) _ = _
               simp only [Act.put, List.setIfInBounds_toArray, List.set_cons_zero, List.set_cons_succ, i64_w, i32_w]
               rfl
              refine one_ (i := 4) (N := some 21) #[true, true, true, true, true, false, false] rfl rfl (by kernel_rfl) (by decide) (fun K hK => ?_)
              refine Kd.R_lit_step k26 _ 26 ?hg (N := 21) ?hd (xs := ([(⟨(-7), 0, false, 0, (⟨#[115, 112, 97, 114, 101]⟩ : ByteArray)⟩ : S26)] : List (S26))) (inner := [.int .i64 (-7), .int .i64 0, .bool false, .int .i64 0, .string (⟨#[115, 112, 97, 114, 101]⟩ : ByteArray)]) (ok := fun _ => True) (okp := fun _ => True) ?hr ?hp (fun _ hk => hk) trivial (Below.refl _ _) (Nat.le_refl _) (by simp) ?_; (case hd => rfl); (case hg => rfl); (case hr => first | (go_simp; done) | (go_simp; rfl)); (case hp => exact (Reps.c5 (show Kd.M k26 _ _ _ (⟨(-7), 0, false, 0, (⟨#[115, 112, 97, 114, 101]⟩ : ByteArray)⟩ : S26) [.int .i64 (-7), .int .i64 0, .bool false, .int .i64 0, .string (⟨#[115, 112, 97, 114, 101]⟩ : ByteArray)] from (k26_mkM _ _ _ (⟨(-7), 0, false, 0, (⟨#[115, 112, 97, 114, 101]⟩ : ByteArray)⟩ : S26) )) (Reps.none _ _)))
              intro v112 w26 ho27 hb hg_ hnew_
              clear hg_ hnew_
              (first | rw [← Ny111.out] at ho27 | (simp only [Int.reduceToNat] at ho27; rw [← Ny111.out] at ho27))
              have n0_ := Aside0.mk (Kd.R_elder' (by (with_reducible repeat (first | apply Kd.R_alloc | apply Kd.R_drewN | apply Kd.R_drew)); exact HO110.out) (Kd.R_base ho27) hb)
              have n1_ := Aside0.mk (Kd.R_lower (Kd.R_newB (Kd.R_new' ho27 (Kd.R_lt (by (with_reducible repeat (first | apply Kd.R_alloc | apply Kd.R_drewN | apply Kd.R_drew)); exact HO110.out))) (g := gb104) (o := .cells #[.int .i64 (-7), .int .i64 0, .bool false, .int .i64 0, .string (⟨#[115, 112, 97, 114, 101]⟩ : ByteArray)] 26 (0, 0)) (by (with_reducible repeat (first | refine blk_drewN ?_ _ | refine blk_drew ?_ | refine blk_alloc ?_ _)); exact BK104.out)) (below_size (by repeat (first | (with_reducible first | exact HB.out | apply below_alloc | apply pw_below_drewN | apply below_drew1 | refine below_set ?_ GE104.out) | exact HB.out))))
              have n2_ := Aside0.mk (blk_below (g := gb104) (o := .cells #[.int .i64 (-7), .int .i64 0, .bool false, .int .i64 0, .string (⟨#[115, 112, 97, 114, 101]⟩ : ByteArray)] 26 (0, 0)) (by (with_reducible repeat (first | refine blk_drewN ?_ _ | refine blk_drew ?_ | refine blk_alloc ?_ _)); exact BK104.out) hb)
              have n3_ := Aside0.mk (below_step (by repeat (first | (with_reducible first | exact HB.out | apply below_alloc | apply pw_below_drewN | apply below_drew1 | refine below_set ?_ GE104.out) | exact HB.out)) hb)
              clear HO110
              clear BK104
              clear HB
              have HO110 := n0_
              have HO113 := n1_
              have BK104 := n2_
              have HB := n3_
              clear n0_ n1_ n2_ n3_
              clear hb ho27
              refine hK.out _ _ ⟨(blk_cell BK104.out 0).trans rfl, (blk_cell BK104.out 1).trans rfl, (blk_cell BK104.out 2).trans rfl, (blk_cell BK104.out 3).trans rfl, (blk_cell BK104.out 4).trans rfl⟩ (fun hHeld => ?_)
              clear hK K
              refine norm_ (a' := ?_) ?_ ?_
              rotate_left
              ·show Act.put _ (some 21) _ = _
               simp only [Act.put, List.setIfInBounds_toArray, List.set_cons_zero, List.set_cons_succ, i64_w, i32_w]
               rfl
              exact norm_ (by simp only [putAll, Act.put, List.setIfInBounds_toArray, List.set_cons_zero, List.set_cons_succ]) (hCont (v106, v109, v112) _ ⟨hHeld, (by (with_reducible repeat (first | apply Kd.R_alloc | apply Kd.R_drewN | apply Kd.R_drew)); exact Kd.R_mono HO110.out (fun _ hk => ⟨hk.2, hk.1⟩)), (by (with_reducible repeat (first | apply Kd.R_alloc | apply Kd.R_drewN | apply Kd.R_drew)); exact Kd.R_mono HO113.out (fun _ hk => ⟨hk.1.2, hk.2⟩)), (by (with_reducible repeat (first | refine blk_drewN ?_ _ | refine blk_drew ?_ | refine blk_alloc ?_ _)); exact BK104.out), (by repeat (first | (with_reducible first | exact HB.out | apply below_alloc | apply pw_below_drewN | apply below_drew1 | refine below_set ?_ GE104.out) | exact HB.out))⟩)
             ·skip
              refine Kd.R_lit_step k26 _ 26 ?hg (N := 21) ?hd (xs := ([(⟨(-7), 0, false, 0, (⟨#[115, 112, 97, 114, 101]⟩ : ByteArray)⟩ : S26)] : List (S26))) (inner := [.int .i64 (-7), .int .i64 0, .bool false, .int .i64 0, .string (⟨#[115, 112, 97, 114, 101]⟩ : ByteArray)]) (ok := fun _ => True) (okp := fun _ => True) ?hr ?hp (fun _ hk => hk) trivial (Below.refl _ _) (Nat.le_refl _) (by simp) ?_; (case hd => rfl); (case hg => rfl); (case hr => first | (go_simp; done) | (go_simp; rfl)); (case hp => exact (Reps.c5 (show Kd.M k26 _ _ _ (⟨(-7), 0, false, 0, (⟨#[115, 112, 97, 114, 101]⟩ : ByteArray)⟩ : S26) [.int .i64 (-7), .int .i64 0, .bool false, .int .i64 0, .string (⟨#[115, 112, 97, 114, 101]⟩ : ByteArray)] from (k26_mkM _ _ _ (⟨(-7), 0, false, 0, (⟨#[115, 112, 97, 114, 101]⟩ : ByteArray)⟩ : S26) )) (Reps.none _ _)))
              intro v112 w25 ho26 hb hg_ hnew_
              clear hg_ hnew_
              (first | rw [← Ny111.out] at ho26 | (simp only [Int.reduceToNat] at ho26; rw [← Ny111.out] at ho26))
              have n0_ := Aside0.mk (Kd.R_elder' (by (with_reducible repeat (first | apply Kd.R_alloc | apply Kd.R_drewN | apply Kd.R_drew)); exact HO107.out) (Kd.R_base ho26) hb)
              have n1_ := Aside0.mk (Kd.R_lower (Kd.R_newB (Kd.R_new' ho26 (Kd.R_lt (by (with_reducible repeat (first | apply Kd.R_alloc | apply Kd.R_drewN | apply Kd.R_drew)); exact HO107.out))) (g := gb104) (o := .cells #[.int .i64 (-7), .int .i64 0, .bool false, .int .i64 0, .string (⟨#[115, 112, 97, 114, 101]⟩ : ByteArray)] 26 (0, 0)) (by (with_reducible repeat (first | refine blk_drewN ?_ _ | refine blk_drew ?_ | refine blk_alloc ?_ _)); exact BK104.out)) (below_size (by repeat (first | (with_reducible first | exact HB.out | apply below_alloc | apply pw_below_drewN | apply below_drew1 | refine below_set ?_ GE104.out) | exact HB.out))))
              have n2_ := Aside0.mk (blk_below (g := gb104) (o := .cells #[.int .i64 (-7), .int .i64 0, .bool false, .int .i64 0, .string (⟨#[115, 112, 97, 114, 101]⟩ : ByteArray)] 26 (0, 0)) (by (with_reducible repeat (first | refine blk_drewN ?_ _ | refine blk_drew ?_ | refine blk_alloc ?_ _)); exact BK104.out) hb)
              have n3_ := Aside0.mk (below_step (by repeat (first | (with_reducible first | exact HB.out | apply below_alloc | apply pw_below_drewN | apply below_drew1 | refine below_set ?_ GE104.out) | exact HB.out)) hb)
              clear HO107
              clear BK104
              clear HB
              have HO107 := n0_
              have HO113 := n1_
              have BK104 := n2_
              have HB := n3_
              clear n0_ n1_ n2_ n3_
              clear hb ho26
              refine hK.out _ _ ⟨(blk_cell BK104.out 0).trans rfl, (blk_cell BK104.out 1).trans rfl, (blk_cell BK104.out 2).trans rfl, (blk_cell BK104.out 3).trans rfl, (blk_cell BK104.out 4).trans rfl⟩ (fun hHeld => ?_)
              clear hK K
              refine norm_ (a' := ?_) ?_ ?_
              rotate_left
              ·show Act.put _ (some 21) _ = _
               simp only [Act.put, List.setIfInBounds_toArray, List.set_cons_zero, List.set_cons_succ, i64_w, i32_w]
               rfl
              refine one_ (i := 2) (N := some 19) #[true, true, true, true, true, false, false] rfl rfl (by kernel_rfl) (by decide) (fun K hK => ?_)
              refine Kd.R_append_rows_step k26 (w0 := w) w.heap.size (by rfl) (.tmp 17) (.tmp 18) 22 26 (.agg #[(.int .i64 0), (.int .i64 0), (.bool false), (.int .i64 0), (.string ⟨#[]⟩)]) 48 rfl Try.underlying22 info26 rfl (by decide) (by omega) v106 y105 l0 _ _ _ (fun k_ => some k_ ≠ (v112 : Value).ownBlock ∧ k_ ≠ gb104) (fun _ => False) rfl rfl ?aO ?aR (fun _ _ h => h) (fun _ h => h.elim) ?aF ?aB ?aS ?aL ?_
              (case aR => repeat (first | exact (Kd.C_below HR0.out HB.out) | (with_reducible refine Kd.C_alloc ?_ _) | (with_reducible refine Kd.C_drewN ?_ _) | (with_reducible refine Kd.C_drew ?_)))
              (case aB => exact (by repeat (first | (with_reducible first | exact HB.out | apply below_alloc | apply pw_below_drewN | apply below_drew1 | refine below_set ?_ GE104.out) | exact HB.out)))
              (case aF => exact (fun k_ hk => ⟨Kd.fresh' (Kd.R_lt (by (with_reducible repeat (first | apply Kd.R_alloc | apply Kd.R_drewN | apply Kd.R_drew)); exact HO113.out)) k_ hk, Kd.freshB (g := gb104) (o := .cells #[.int .i64 (-7), .int .i64 0, .bool false, .int .i64 0, .string (⟨#[115, 112, 97, 114, 101]⟩ : ByteArray)] 26 (0, 0)) (by (with_reducible repeat (first | refine blk_drewN ?_ _ | refine blk_drew ?_ | refine blk_alloc ?_ _)); exact BK104.out) k_ hk⟩))
              (case aO => exact (by (with_reducible repeat (first | apply Kd.R_alloc | apply Kd.R_drewN | apply Kd.R_drew)); exact Kd.R_mono HO107.out (fun _ hk => ⟨hk.2, hk.1.2⟩)))
              (case aS => exact (below_size (by repeat (first | (with_reducible first | exact HB.out | apply below_alloc | apply pw_below_drewN | apply below_drew1 | refine below_set ?_ GE104.out) | exact HB.out))))
              (case aL => have := LMc4.out; omega)
              intro v109 w27 ho hb hg hat
              rw [← Ny108.out] at ho
              have n0_ := Aside0.mk (blk_grown (g := gb104) (o := .cells #[.int .i64 (-7), .int .i64 0, .bool false, .int .i64 0, .string (⟨#[115, 112, 97, 114, 101]⟩ : ByteArray)] 26 (0, 0)) (by (with_reducible repeat (first | refine blk_drewN ?_ _ | refine blk_drew ?_ | refine blk_alloc ?_ _)); exact BK104.out) hg (Kd.R_away HO107.out (fun _ hk => hk.1.2)))
              have n1_ := Aside0.mk (Kd.R_after (ok := (fun k_ => k_ ≠ gb104)) (by (with_reducible repeat (first | apply Kd.R_alloc | apply Kd.R_drewN | apply Kd.R_drew)); exact Kd.R_mono HO113.out (fun _ hk => ⟨hk.2, hk.1.2⟩)) hg hat)
              have n2_ := Aside0.mk (hb)
              have n3_ := Aside0.mk (ho)
              clear BK104
              clear HO113
              clear HB
              clear HO107
              have BK104 := n0_
              have HO113 := n1_
              have HB := n2_
              have HO110 := n3_
              clear n0_ n1_ n2_ n3_
              clear ho hb hg hat
              refine hK.out _ _ ⟨(blk_cell BK104.out 0).trans rfl, (blk_cell BK104.out 1).trans rfl, (blk_cell BK104.out 2).trans rfl, (blk_cell BK104.out 3).trans rfl, (blk_cell BK104.out 4).trans rfl⟩ (fun hHeld => ?_)
              clear hK K
              refine norm_ (a' := ?_) ?_ ?_
              rotate_left
              ·show Act.put _ (some 19) _ = _
               simp only [Act.put, List.setIfInBounds_toArray, List.set_cons_zero, List.set_cons_succ, i64_w, i32_w]
               rfl
              exact norm_ (by simp only [putAll, Act.put, List.setIfInBounds_toArray, List.set_cons_zero, List.set_cons_succ]) (hCont (v106, v109, v112) _ ⟨hHeld, (by (with_reducible repeat (first | apply Kd.R_alloc | apply Kd.R_drewN | apply Kd.R_drew)); exact HO110.out), (by (with_reducible repeat (first | apply Kd.R_alloc | apply Kd.R_drewN | apply Kd.R_drew)); exact Kd.R_mono HO113.out (fun _ hk => ⟨hk.2, hk.1⟩)), (by (with_reducible repeat (first | refine blk_drewN ?_ _ | refine blk_drew ?_ | refine blk_alloc ?_ _)); exact BK104.out), (by repeat (first | (with_reducible first | exact HB.out | apply below_alloc | apply pw_below_drewN | apply below_drew1 | refine below_set ?_ GE104.out) | exact HB.out))⟩)
            ·skip
             refine Kd.R_lit_step k26 _ 26 ?hg (N := 21) ?hd (xs := ([(⟨(-7), 0, false, 0, (⟨#[115, 112, 97, 114, 101]⟩ : ByteArray)⟩ : S26)] : List (S26))) (inner := [.int .i64 (-7), .int .i64 0, .bool false, .int .i64 0, .string (⟨#[115, 112, 97, 114, 101]⟩ : ByteArray)]) (ok := fun _ => True) (okp := fun _ => True) ?hr ?hp (fun _ hk => hk) trivial (Below.refl _ _) (Nat.le_refl _) (by simp) ?_; (case hd => rfl); (case hg => rfl); (case hr => first | (go_simp; done) | (go_simp; rfl)); (case hp => exact (Reps.c5 (show Kd.M k26 _ _ _ (⟨(-7), 0, false, 0, (⟨#[115, 112, 97, 114, 101]⟩ : ByteArray)⟩ : S26) [.int .i64 (-7), .int .i64 0, .bool false, .int .i64 0, .string (⟨#[115, 112, 97, 114, 101]⟩ : ByteArray)] from (k26_mkM _ _ _ (⟨(-7), 0, false, 0, (⟨#[115, 112, 97, 114, 101]⟩ : ByteArray)⟩ : S26) )) (Reps.none _ _)))
             intro v112 w23 ho24 hb hg_ hnew_
             clear hg_ hnew_
             (first | rw [← Ny111.out] at ho24 | (simp only [Int.reduceToNat] at ho24; rw [← Ny111.out] at ho24))
             have n0_ := Aside0.mk (Kd.R_lower (Kd.R_newB ho24 (g := gb104) (o := .cells #[.int .i64 (-7), .int .i64 0, .bool false, .int .i64 0, .string (⟨#[115, 112, 97, 114, 101]⟩ : ByteArray)] 26 (0, 0)) (by (with_reducible repeat (first | refine blk_drewN ?_ _ | refine blk_drew ?_ | refine blk_alloc ?_ _)); exact BK104.out)) (below_size (by repeat (first | (with_reducible first | exact HB.out | apply below_alloc | apply pw_below_drewN | apply below_drew1 | refine below_set ?_ GE104.out) | exact HB.out))))
             have n1_ := Aside0.mk (blk_below (g := gb104) (o := .cells #[.int .i64 (-7), .int .i64 0, .bool false, .int .i64 0, .string (⟨#[115, 112, 97, 114, 101]⟩ : ByteArray)] 26 (0, 0)) (by (with_reducible repeat (first | refine blk_drewN ?_ _ | refine blk_drew ?_ | refine blk_alloc ?_ _)); exact BK104.out) hb)
             have n2_ := Aside0.mk (below_step (by repeat (first | (with_reducible first | exact HB.out | apply below_alloc | apply pw_below_drewN | apply below_drew1 | refine below_set ?_ GE104.out) | exact HB.out)) hb)
             clear BK104
             clear HB
             have HO113 := n0_
             have BK104 := n1_
             have HB := n2_
             clear n0_ n1_ n2_
             clear hb ho24
             refine hK.out _ _ ⟨(blk_cell BK104.out 0).trans rfl, (blk_cell BK104.out 1).trans rfl, (blk_cell BK104.out 2).trans rfl, (blk_cell BK104.out 3).trans rfl, (blk_cell BK104.out 4).trans rfl⟩ (fun hHeld => ?_)
             clear hK K
             refine norm_ (a' := ?_) ?_ ?_
             rotate_left
             ·show Act.put _ (some 21) _ = _
              simp only [Act.put, List.setIfInBounds_toArray, List.set_cons_zero, List.set_cons_succ, i64_w, i32_w]
              rfl
             refine one_ (i := 0) (N := some 17) #[true, true, false, true, true, false, false] rfl rfl (by kernel_rfl) (by decide) (fun K hK => ?_)
             refine Kd.R_lit_step k26 _ 26 ?hg (N := 17) ?hd (xs := ([] : List (S26))) (inner := []) (ok := fun _ => True) (okp := fun _ => True) ?hr ?hp (fun _ hk => hk) trivial (Below.refl _ _) (Nat.le_refl _) (by simp) ?_; (case hd => rfl); (case hg => rfl); (case hr => first | (go_simp; done) | (go_simp; rfl)); (case hp => exact (Reps.none _ _))
             intro v106 w25 ho26 hb hg_ hnew_
             clear hg_ hnew_
             (first | rw [← Ny105.out] at ho26 | (simp only [Int.reduceToNat] at ho26; rw [← Ny105.out] at ho26))
             have n0_ := Aside0.mk (Kd.R_elder' (by (with_reducible repeat (first | apply Kd.R_alloc | apply Kd.R_drewN | apply Kd.R_drew)); exact HO113.out) (Kd.R_base ho26) hb)
             have n1_ := Aside0.mk (Kd.R_lower (Kd.R_newB (Kd.R_new' ho26 (Kd.R_lt (by (with_reducible repeat (first | apply Kd.R_alloc | apply Kd.R_drewN | apply Kd.R_drew)); exact HO113.out))) (g := gb104) (o := .cells #[.int .i64 (-7), .int .i64 0, .bool false, .int .i64 0, .string (⟨#[115, 112, 97, 114, 101]⟩ : ByteArray)] 26 (0, 0)) (by (with_reducible repeat (first | refine blk_drewN ?_ _ | refine blk_drew ?_ | refine blk_alloc ?_ _)); exact BK104.out)) (below_size (by repeat (first | (with_reducible first | exact HB.out | apply below_alloc | apply pw_below_drewN | apply below_drew1 | refine below_set ?_ GE104.out) | exact HB.out))))
             have n2_ := Aside0.mk (blk_below (g := gb104) (o := .cells #[.int .i64 (-7), .int .i64 0, .bool false, .int .i64 0, .string (⟨#[115, 112, 97, 114, 101]⟩ : ByteArray)] 26 (0, 0)) (by (with_reducible repeat (first | refine blk_drewN ?_ _ | refine blk_drew ?_ | refine blk_alloc ?_ _)); exact BK104.out) hb)
             have n3_ := Aside0.mk (below_step (by repeat (first | (with_reducible first | exact HB.out | apply below_alloc | apply pw_below_drewN | apply below_drew1 | refine below_set ?_ GE104.out) | exact HB.out)) hb)
             clear HO113
             clear BK104
             clear HB
             have HO113 := n0_
             have HO107 := n1_
             have BK104 := n2_
             have HB := n3_
             clear n0_ n1_ n2_ n3_
             clear hb ho26
             refine hK.out _ _ ⟨(blk_cell BK104.out 0).trans rfl, (blk_cell BK104.out 1).trans rfl, (blk_cell BK104.out 2).trans rfl, (blk_cell BK104.out 3).trans rfl, (blk_cell BK104.out 4).trans rfl⟩ (fun hHeld => ?_)
             clear hK K
             refine norm_ (a' := ?_) ?_ ?_
             rotate_left
             ·show Act.put _ (some 17) _ = _
              simp only [Act.put, List.setIfInBounds_toArray, List.set_cons_zero, List.set_cons_succ, i64_w, i32_w]
              rfl
             refine one_ (i := 2) (N := some 19) #[true, true, true, true, true, false, false] rfl rfl (by kernel_rfl) (by decide) (fun K hK => ?_)
             refine Kd.R_append_rows_step k26 (w0 := w) w.heap.size (by rfl) (.tmp 17) (.tmp 18) 22 26 (.agg #[(.int .i64 0), (.int .i64 0), (.bool false), (.int .i64 0), (.string ⟨#[]⟩)]) 48 rfl Try.underlying22 info26 rfl (by decide) (by omega) v106 y105 l0 _ _ _ (fun k_ => some k_ ≠ (v112 : Value).ownBlock ∧ k_ ≠ gb104) (fun _ => False) rfl rfl ?aO ?aR (fun _ _ h => h) (fun _ h => h.elim) ?aF ?aB ?aS ?aL ?_
             (case aR => repeat (first | exact (Kd.C_below HR0.out HB.out) | (with_reducible refine Kd.C_alloc ?_ _) | (with_reducible refine Kd.C_drewN ?_ _) | (with_reducible refine Kd.C_drew ?_)))
             (case aB => exact (by repeat (first | (with_reducible first | exact HB.out | apply below_alloc | apply pw_below_drewN | apply below_drew1 | refine below_set ?_ GE104.out) | exact HB.out)))
             (case aF => exact (fun k_ hk => ⟨Kd.fresh' (Kd.R_lt (by (with_reducible repeat (first | apply Kd.R_alloc | apply Kd.R_drewN | apply Kd.R_drew)); exact HO113.out)) k_ hk, Kd.freshB (g := gb104) (o := .cells #[.int .i64 (-7), .int .i64 0, .bool false, .int .i64 0, .string (⟨#[115, 112, 97, 114, 101]⟩ : ByteArray)] 26 (0, 0)) (by (with_reducible repeat (first | refine blk_drewN ?_ _ | refine blk_drew ?_ | refine blk_alloc ?_ _)); exact BK104.out) k_ hk⟩))
             (case aO => exact (by (with_reducible repeat (first | apply Kd.R_alloc | apply Kd.R_drewN | apply Kd.R_drew)); exact Kd.R_mono HO107.out (fun _ hk => ⟨hk.1.2, hk.2⟩)))
             (case aS => exact (below_size (by repeat (first | (with_reducible first | exact HB.out | apply below_alloc | apply pw_below_drewN | apply below_drew1 | refine below_set ?_ GE104.out) | exact HB.out))))
             (case aL => have := LMc4.out; omega)
             intro v109 w27 ho hb hg hat
             rw [← Ny108.out] at ho
             have n0_ := Aside0.mk (blk_grown (g := gb104) (o := .cells #[.int .i64 (-7), .int .i64 0, .bool false, .int .i64 0, .string (⟨#[115, 112, 97, 114, 101]⟩ : ByteArray)] 26 (0, 0)) (by (with_reducible repeat (first | refine blk_drewN ?_ _ | refine blk_drew ?_ | refine blk_alloc ?_ _)); exact BK104.out) hg (Kd.R_away HO107.out (fun _ hk => hk.2)))
             have n1_ := Aside0.mk (Kd.R_after (ok := (fun k_ => k_ ≠ gb104)) (by (with_reducible repeat (first | apply Kd.R_alloc | apply Kd.R_drewN | apply Kd.R_drew)); exact Kd.R_mono HO113.out (fun _ hk => ⟨hk.1.2, hk.2⟩)) hg hat)
             have n2_ := Aside0.mk (hb)
             have n3_ := Aside0.mk (ho)
             clear BK104
             clear HO113
             clear HB
             clear HO107
             have BK104 := n0_
             have HO113 := n1_
             have HB := n2_
             have HO110 := n3_
             clear n0_ n1_ n2_ n3_
             clear ho hb hg hat
             refine hK.out _ _ ⟨(blk_cell BK104.out 0).trans rfl, (blk_cell BK104.out 1).trans rfl, (blk_cell BK104.out 2).trans rfl, (blk_cell BK104.out 3).trans rfl, (blk_cell BK104.out 4).trans rfl⟩ (fun hHeld => ?_)
             clear hK K
             refine norm_ (a' := ?_) ?_ ?_
             rotate_left
             ·show Act.put _ (some 19) _ = _
              simp only [Act.put, List.setIfInBounds_toArray, List.set_cons_zero, List.set_cons_succ, i64_w, i32_w]
              rfl
             exact norm_ (by simp only [putAll, Act.put, List.setIfInBounds_toArray, List.set_cons_zero, List.set_cons_succ]) (hCont (v106, v109, v112) _ ⟨hHeld, (by (with_reducible repeat (first | apply Kd.R_alloc | apply Kd.R_drewN | apply Kd.R_drew)); exact HO110.out), (by (with_reducible repeat (first | apply Kd.R_alloc | apply Kd.R_drewN | apply Kd.R_drew)); exact Kd.R_mono HO113.out (fun _ hk => ⟨hk.2, hk.1⟩)), (by (with_reducible repeat (first | refine blk_drewN ?_ _ | refine blk_drew ?_ | refine blk_alloc ?_ _)); exact BK104.out), (by repeat (first | (with_reducible first | exact HB.out | apply below_alloc | apply pw_below_drewN | apply below_drew1 | refine below_set ?_ GE104.out) | exact HB.out))⟩)
           rintro ⟨v106, v109, v112⟩ w28 ⟨hS_, h0_, h1_, h2_, h3_⟩
           have n0_ : Aside0 (Kd.R k26 26 w28 w.heap.size (fun k_ => some k_ ≠ (v112 : Value).ownBlock ∧ k_ ≠ gb104) v109 y108) := ⟨h0_⟩
           have n1_ : Aside0 (Kd.R k26 26 w28 w.heap.size (fun k_ => some k_ ≠ (v109 : Value).ownBlock ∧ k_ ≠ gb104) v112 y111) := ⟨h1_⟩
           have n2_ : Aside0 (w28.heap[gb104]? = some (.cells #[.int .i64 (-7), .int .i64 0, .bool false, .int .i64 0, .string (⟨#[115, 112, 97, 114, 101]⟩ : ByteArray)] 26 (0, 0))) := ⟨h2_⟩
           have n3_ : Aside0 (Below w.heap.size w w28) := ⟨h3_⟩
           clear BK104
           clear HB
           clear h0_ h1_ h2_ h3_
           have HO110 := n0_
           have HO113 := n1_
           have BK104 := n2_
           have HB := n3_
           clear n0_ n1_ n2_ n3_
           have hHeld : w28.cell? ⟨gb104, 0, none⟩ = some (.int .i64 (-7)) ∧ w28.cell? ⟨gb104, 1, none⟩ = some (.int .i64 0) ∧ w28.cell? ⟨gb104, 2, none⟩ = some (.bool false) ∧ w28.cell? ⟨gb104, 3, none⟩ = some (.int .i64 0) ∧ w28.cell? ⟨gb104, 4, none⟩ = some (.string (⟨#[115, 112, 97, 114, 101]⟩ : ByteArray)) := hS_
           obtain ⟨Ao30, co30, eo30⟩ := Kd.R_slice HO113.out
           (first | subst eo30 | (injection eo30 with f1_ f2_ f3_; have f4_ := f1_.symm; have f5_ := f3_.symm; clear f1_ f2_ f3_; subst f4_; subst f5_))
           refine norm_ (a' := ?_) ?_ ?_
           rotate_left
           ·simp only [putAll, Act.put, List.setIfInBounds_toArray, List.set_cons_zero, List.set_cons_succ]
            rfl
           refine one_ (i := 5) (N := some 22) #[true, true, true, true, true, true, false] rfl rfl (by kernel_rfl) (by decide) (fun K hK => ?_)
           refine Kd.R_append_rows_step k26 (w0 := w) w.heap.size (by rfl) (.tmp 19) (.tmp 21) 22 26 (.agg #[(.int .i64 0), (.int .i64 0), (.bool false), (.int .i64 0), (.string ⟨#[]⟩)]) 48 rfl Try.underlying22 info26 rfl (by decide) (by omega) v109 y108 y111 _ _ _ (fun k_ => some k_ ≠ (.slice Ao30 y111.length co30 : Value).ownBlock ∧ k_ ≠ gb104) (fun _ => False) rfl rfl ?aO ?aR (fun _ _ h => h) (fun _ h => h.elim) ?aF ?aB ?aS ?aL ?_
           (case aR => repeat (first | exact (Kd.R_reads' HO113.out).2.2 | (with_reducible refine Kd.C_alloc ?_ _) | (with_reducible refine Kd.C_drewN ?_ _) | (with_reducible refine Kd.C_drew ?_)))
           (case aB => exact (by repeat (first | (with_reducible first | exact HB.out | apply below_alloc | apply pw_below_drewN | apply below_drew1 | refine below_set ?_ GE104.out) | exact HB.out)))
           (case aF => exact (fun k_ hk => ⟨Kd.fresh' (Kd.R_lt (by (with_reducible repeat (first | apply Kd.R_alloc | apply Kd.R_drewN | apply Kd.R_drew)); exact HO113.out)) k_ hk, Kd.freshB (g := gb104) (o := .cells #[.int .i64 (-7), .int .i64 0, .bool false, .int .i64 0, .string (⟨#[115, 112, 97, 114, 101]⟩ : ByteArray)] 26 (0, 0)) (by (with_reducible repeat (first | refine blk_drewN ?_ _ | refine blk_drew ?_ | refine blk_alloc ?_ _)); exact BK104.out) k_ hk⟩))
           (case aO => exact (by (with_reducible repeat (first | apply Kd.R_alloc | apply Kd.R_drewN | apply Kd.R_drew)); exact HO110.out))
           (case aS => exact (below_size (by repeat (first | (with_reducible first | exact HB.out | apply below_alloc | apply pw_below_drewN | apply below_drew1 | refine below_set ?_ GE104.out) | exact HB.out))))
           (case aL => have := LMc5.out; omega)
           intro v115 w29 ho hb hg hat
           rw [← Ny114.out] at ho
           have n0_ := Aside0.mk (blk_grown (g := gb104) (o := .cells #[.int .i64 (-7), .int .i64 0, .bool false, .int .i64 0, .string (⟨#[115, 112, 97, 114, 101]⟩ : ByteArray)] 26 (0, 0)) (by (with_reducible repeat (first | refine blk_drewN ?_ _ | refine blk_drew ?_ | refine blk_alloc ?_ _)); exact BK104.out) hg (Kd.R_away HO110.out (fun _ hk => hk.2)))
           have n1_ := Aside0.mk (Kd.R_after (ok := (fun k_ => k_ ≠ gb104)) (by (with_reducible repeat (first | apply Kd.R_alloc | apply Kd.R_drewN | apply Kd.R_drew)); exact Kd.R_mono HO113.out (fun _ hk => ⟨hk.2, hk.1⟩)) hg hat)
           have n2_ := Aside0.mk (hb)
           have n3_ := Aside0.mk (ho)
           clear BK104
           clear HO113
           clear HB
           clear HO110
           have BK104 := n0_
           have HO113 := n1_
           have HB := n2_
           have HO116 := n3_
           clear n0_ n1_ n2_ n3_
           clear ho hb hg hat
           refine hK.out _ _ ⟨(blk_cell BK104.out 0).trans rfl, (blk_cell BK104.out 1).trans rfl, (blk_cell BK104.out 2).trans rfl, (blk_cell BK104.out 3).trans rfl, (blk_cell BK104.out 4).trans rfl⟩ (fun hHeld => ?_)
           clear hK K
           refine norm_ (a' := ?_) ?_ ?_
           rotate_left
           ·show Act.put _ (some 22) _ = _
            simp only [Act.put, List.setIfInBounds_toArray, List.set_cons_zero, List.set_cons_succ, i64_w, i32_w]
            rfl
           refine pure_ (i := 6) (N := some 5) (v := ?_) (a' := ?_) #[true, true, true, true, true, true, true] rfl rfl (by kernel_rfl) (fun _ _ _ h => h) (Or.inl ⟨by rfl, ?_⟩) ?_ ?_
           rotate_left
           ·intro w'
            go_simp
            with_reducible rfl
           rotate_left
           ·simp only [Act.put, List.setIfInBounds_toArray, List.set_cons_zero, List.set_cons_succ, i64_w, i32_w]
            rfl
           refine done_ (by kernel_rfl) ?_
           obtain ⟨Ao32, co32, eo32⟩ := Kd.R_slice HO116.out
           subst eo32
           have q31 : ((l0.length : Int) : Int) ≤ ((y114.length : Int) : Int) := of_decide_eq_true (by first | (with_reducible assumption) | assumption)
           obtain ⟨i031, hi031, _, hsz31, _⟩ := info_parts info26
           have hroom31 : y114.length ≤ co32 := (Kd.R_reads' HO116.out).2.1
           have hC31 : Kd.C k26 _ Ao32 y114.length y114 := (Kd.R_reads' HO116.out).2.2
           have hcut31 := cut_to (P := Try.prog) 22 26 .i64 Try.underlying22 hi031 Ao32 y114.length co32 (l0.length : Int) (of_decide_eq_true (by first | (with_reducible assumption) | assumption)) q31 hroom31
           have hr31 := Kd.C_take (m := ((l0.length : Int) : Int).toNat) hC31 (by omega)
           have hy31 : y117.length = ((l0.length : Int) : Int).toNat := (by rw [Ny117.out, List.length_take]; omega)
           rw [← Ny117.out] at hr31
           rw [← hy31] at hcut31
           have HR120 := Aside0.mk hr31
           have HC120 := Aside0.mk (show y117.length ≤ co32 from by omega)
           clear hr31 hC31 hroom31 hi031 hsz31
           have KY31 := Aside0.mk hy31
           clear hy31
           have KL31 := Aside0.mk (show ((l0.length : Int) : Int).toNat ≤ y114.length from by omega)
           replace q31 := eq_true q31
           try go_wp2_with (first | ((with_reducible refine gate_callee (f := 8) rfl ?_); refine goesL_ (some 28) rfl rfl Try.func8 (by kernel_rfl) rfl #[.slice Ao32 y117.length co32] rfl (by (try simp only [List.map_toArray, List.map_cons, List.map_nil]); first | done | rfl | (simp only [List.length_drop, List.length_take]; rfl) | exact congrArg (fun n_ : Nat => #[Value.slice _ n_ _]) (Eq.trans (Aside0.out (by assumption)) (Eq.symm (Aside0.out (by assumption)))) | exact congrArg (fun n_ : Nat => #[Value.slice _ n_ _, Value.slice _ _ _]) (Eq.trans (Aside0.out (by assumption)) (Eq.symm (Aside0.out (by assumption))))) ?_; (with_reducible refine (ber_Write.calls _ _ y117 t121 t122 t123 _ ?side1 ?side2 A8.out).mono ?_); (case side1 => repeat (first | exact (by repeat (first | (with_reducible exact HR120.out) | (with_reducible refine Kd.C_alloc ?_ _) | (with_reducible refine Kd.C_drewN ?_ _) | (with_reducible refine Kd.C_drew ?_) | exact HR120.out)) | (with_reducible refine Kd.C_alloc ?_ _) | (with_reducible refine Kd.C_drewN ?_ _) | (with_reducible refine Kd.C_drew ?_))); (case side2 => exact HC120.out); rintro e w33 ⟨rfl, hb⟩; refine ⟨_, rfl, ?_⟩; have n0_ := Aside0.mk (Kd.R_below (by (with_reducible repeat (first | apply Kd.R_alloc | apply Kd.R_drewN | apply Kd.R_drew)); exact HO113.out) hb); have n1_ := Aside0.mk (Kd.R_below (by (with_reducible repeat (first | apply Kd.R_alloc | apply Kd.R_drewN | apply Kd.R_drew)); exact HO116.out) hb); have n2_ := Aside0.mk (blk_below (g := gb104) (o := .cells #[.int .i64 (-7), .int .i64 0, .bool false, .int .i64 0, .string (⟨#[115, 112, 97, 114, 101]⟩ : ByteArray)] 26 (0, 0)) (by (with_reducible repeat (first | refine blk_drewN ?_ _ | refine blk_drew ?_ | refine blk_alloc ?_ _)); exact BK104.out) hb); have n3_ := Aside0.mk (Kd.C_below (by repeat (first | (with_reducible exact HR120.out) | (with_reducible refine Kd.C_alloc ?_ _) | (with_reducible refine Kd.C_drewN ?_ _) | (with_reducible refine Kd.C_drew ?_) | exact HR120.out)) hb); have n4_ := Aside0.mk (below_step (by repeat (first | (with_reducible first | exact HB.out | apply below_alloc | apply pw_below_drewN | apply below_drew1 | refine below_set ?_ GE104.out) | exact HB.out)) hb); clear HO113; clear HO116; clear BK104; clear HR120; clear HB; have HO113 := n0_; have HO116 := n1_; have BK104 := n2_; have HR120 := n3_; have HB := n4_; clear n0_ n1_ n2_ n3_ n4_; (try clear hb); (try clear hb2); (try clear hk); (try clear hi)) | ((with_reducible refine gate_callee (f := 9) rfl ?_); refine goesL_ (some 34) rfl rfl Try.func9 (by kernel_rfl) rfl #[.slice A0 l0.length c0] rfl (by (try simp only [List.map_toArray, List.map_cons, List.map_nil]); first | done | rfl | (simp only [List.length_drop, List.length_take]; rfl) | exact congrArg (fun n_ : Nat => #[Value.slice _ n_ _]) (Eq.trans (Aside0.out (by assumption)) (Eq.symm (Aside0.out (by assumption)))) | exact congrArg (fun n_ : Nat => #[Value.slice _ n_ _, Value.slice _ _ _]) (Eq.trans (Aside0.out (by assumption)) (Eq.symm (Aside0.out (by assumption))))) ?_; (with_reducible refine (rosterref02_Write.calls _ _ l0 t124 t125 t126 _ ?side1 ?side2 A9.out).mono ?_); (case side1 => repeat (first | exact (Kd.C_below HR0.out HB.out) | exact (Kd.C_below (Aside0.out (by assumption)) HB.out) | (with_reducible refine Kd.C_alloc ?_ _) | (with_reducible refine Kd.C_drewN ?_ _) | (with_reducible refine Kd.C_drew ?_))); (case side2 => exact HC0.out); rintro e w34 ⟨rfl, hb⟩; refine ⟨_, rfl, ?_⟩; have n0_ := Aside0.mk (Kd.R_below (by (with_reducible repeat (first | apply Kd.R_alloc | apply Kd.R_drewN | apply Kd.R_drew)); exact HO113.out) hb); have n1_ := Aside0.mk (Kd.R_below (by (with_reducible repeat (first | apply Kd.R_alloc | apply Kd.R_drewN | apply Kd.R_drew)); exact HO116.out) hb); have n2_ := Aside0.mk (blk_below (g := gb104) (o := .cells #[.int .i64 (-7), .int .i64 0, .bool false, .int .i64 0, .string (⟨#[115, 112, 97, 114, 101]⟩ : ByteArray)] 26 (0, 0)) (by (with_reducible repeat (first | refine blk_drewN ?_ _ | refine blk_drew ?_ | refine blk_alloc ?_ _)); exact BK104.out) hb); have n3_ := Aside0.mk (Kd.C_below (by repeat (first | (with_reducible exact HR120.out) | (with_reducible refine Kd.C_alloc ?_ _) | (with_reducible refine Kd.C_drewN ?_ _) | (with_reducible refine Kd.C_drew ?_) | exact HR120.out)) hb); have n4_ := Aside0.mk (below_step (by repeat (first | (with_reducible first | exact HB.out | apply below_alloc | apply pw_below_drewN | apply below_drew1 | refine below_set ?_ GE104.out) | exact HB.out)) hb); clear HO113; clear HO116; clear BK104; clear HR120; clear HB; have HO113 := n0_; have HO116 := n1_; have BK104 := n2_; have HR120 := n3_; have HB := n4_; clear n0_ n1_ n2_ n3_ n4_; (try clear hb); (try clear hb2); (try clear hk); (try clear hi)))
           have n0_ := Aside0.mk (Kd.R_drew HO113.out)
           have n1_ := Aside0.mk (Kd.R_drew HO116.out)
           have n2_ := Aside0.mk (blk_drew BK104.out)
           have n3_ := Aside0.mk (Kd.C_drew HR120.out)
           have n4_ := Aside0.mk (below_drew1 HB.out)
           clear HO113
           clear HO116
           clear BK104
           clear HR120
           clear HB
           have HO113 := n0_
           have HO116 := n1_
           have BK104 := n2_
           have HR120 := n3_
           have HB := n4_
           clear n0_ n1_ n2_ n3_ n4_
           have q36 : ((l0.length : Int) : Int) ≤ ((y114.length : Int) : Int) := of_decide_eq_true (by first | (with_reducible assumption) | assumption)
           obtain ⟨i036, hi036, _, hsz36, _⟩ := info_parts info26
           have hroom36 : y114.length ≤ co32 := (Kd.R_reads' HO116.out).2.1
           have hC36 : Kd.C k26 _ Ao32 y114.length y114 := (Kd.R_reads' HO116.out).2.2
           have hcut36 := cut_to (P := Try.prog) 22 26 .i64 Try.underlying22 hi036 Ao32 y114.length co32 (l0.length : Int) (of_decide_eq_true (by first | (with_reducible assumption) | assumption)) q36 hroom36
           have hr36 := Kd.C_take (m := ((l0.length : Int) : Int).toNat) hC36 (by omega)
           have hy36 : y127.length = ((l0.length : Int) : Int).toNat := (by rw [Ny127.out, List.length_take]; omega)
           rw [← Ny127.out] at hr36
           rw [← hy36] at hcut36
           have HR130 := Aside0.mk hr36
           have HC130 := Aside0.mk (show y127.length ≤ co32 from by omega)
           clear hr36 hC36 hroom36 hi036 hsz36
           have KY36 := Aside0.mk hy36
           clear hy36
           have KL36 := Aside0.mk (show ((l0.length : Int) : Int).toNat ≤ y114.length from by omega)
           replace q36 := eq_true q36
           have p132 : 0 ≤ ((l0.length : Int) : Int) := of_decide_eq_true (by first | (with_reducible assumption) | assumption)
           have q132 : (l0.length : Int) < (y114.length : Int) := of_decide_eq_true (by first | (with_reducible assumption) | assumption)
           obtain ⟨ad132, e132, hx132_0, hx132_1, hx132_2, hx132_3, hx132_4⟩ := at_T26 (Kd.R_reads' HO116.out).2.2 (l0.length : Int) p132 q132
           cases e132
           (try simp only [Go.IntWalk.toNatUp] at hx132_0)
           (try simp only [Go.IntWalk.toNatUp] at hx132_1)
           (try simp only [Go.IntWalk.toNatUp] at hx132_2)
           (try simp only [Go.IntWalk.toNatUp] at hx132_3)
           (try simp only [Go.IntWalk.toNatUp] at hx132_4)
           replace p132 := eq_true p132
           replace q132 := eq_true q132
           refine start_ (n := 31) (S := fun w' => w'.cell? ⟨gb104, 0, none⟩ = some (.int .i64 (-7)) ∧ w'.cell? ⟨gb104, 1, none⟩ = some (.int .i64 0) ∧ w'.cell? ⟨gb104, 2, none⟩ = some (.bool false) ∧ w'.cell? ⟨gb104, 3, none⟩ = some (.int .i64 0) ∧ w'.cell? ⟨gb104, 4, none⟩ = some (.string (⟨#[115, 112, 97, 114, 101]⟩ : ByteArray)) ∧ w'.cell? (ad132.add (l0.length * 5)) = some (.int .i64 ((rd_T26 y114 (l0.length : Int)).f0)) ∧ w'.cell? ⟨(ad132.add (l0.length * 5)).block, (ad132.add (l0.length * 5)).off + 1, none⟩ = some (.int .i64 ((rd_T26 y114 (l0.length : Int)).f1)) ∧ w'.cell? ⟨(ad132.add (l0.length * 5)).block, (ad132.add (l0.length * 5)).off + 2, none⟩ = some (.bool ((rd_T26 y114 (l0.length : Int)).f2)) ∧ w'.cell? ⟨(ad132.add (l0.length * 5)).block, (ad132.add (l0.length * 5)).off + 3, none⟩ = some (.int .i64 ((rd_T26 y114 (l0.length : Int)).f3)) ∧ w'.cell? ⟨(ad132.add (l0.length * 5)).block, (ad132.add (l0.length * 5)).off + 4, none⟩ = some (.string ((rd_T26 y114 (l0.length : Int)).f4))) (ds := []) #[false, false, false, false, false, false, false, false, false, false, false, false, false, false, false, false, false, false, false, false, false, false, false, false, false, false, false, false, false, false, false] (by kernel_rfl) rfl rfl ⟨(blk_cell BK104.out 0).trans rfl, (blk_cell BK104.out 1).trans rfl, (blk_cell BK104.out 2).trans rfl, (blk_cell BK104.out 3).trans rfl, (blk_cell BK104.out 4).trans rfl, hx132_0, hx132_1, hx132_2, hx132_3, hx132_4⟩ (fun hHeld => ?_); refine with_tabW rosterlaw02_BerWrite.tab8 rosterlaw02_BerWrite.bits8 (fun HT_ HW_ => ?_)
           generalize w34.drew = w35 at HO113 HO116 BK104 HR120 HB HR130 hx132_0 hx132_1 hx132_2 hx132_3 hx132_4 hHeld ⊢
           refine pure_ (i := 0) (N := some 38) (v := ?_) (a' := ?_) #[true, false, false, false, false, false, false, false, false, false, false, false, false, false, false, false, false, false, false, false, false, false, false, false, false, false, false, false, false, false, false] rfl rfl (any_of HT_.out (by kernel_rfl)) (fun _ _ _ h => h) (Or.inl ⟨by rfl, ?_⟩) ?_ ?_
           rotate_left
           ·intro w'
            go_simp
            with_reducible rfl
           rotate_left
           ·simp only [Act.put, List.setIfInBounds_toArray, List.set_cons_zero, List.set_cons_succ, i64_w, i32_w]
            rfl
           refine pure_ (i := 1) (N := some 39) (v := ?_) (a' := ?_) #[true, true, false, false, false, false, false, false, false, false, false, false, false, false, false, false, false, false, false, false, false, false, false, false, false, false, false, false, false, false, false] rfl rfl (any_of HT_.out (by kernel_rfl)) (fun _ _ _ h => h) (Or.inl ⟨by rfl, ?_⟩) ?_ ?_
           rotate_left
           ·intro w'
            go_simp
            with_reducible rfl
           rotate_left
           ·simp only [Act.put, List.setIfInBounds_toArray, List.set_cons_zero, List.set_cons_succ, i64_w, i32_w]
            rfl
           refine pure_ (i := 2) (N := some 40) (v := ?_) (a' := ?_) #[true, true, true, false, false, false, false, false, false, false, false, false, false, false, false, false, false, false, false, false, false, false, false, false, false, false, false, false, false, false, false] rfl rfl (any_of HT_.out (by kernel_rfl)) (fun _ _ _ h => h) (Or.inl ⟨by rfl, ?_⟩) ?_ ?_
           rotate_left
           ·intro w'
            go_simp
            with_reducible rfl
           rotate_left
           ·simp only [Act.put, List.setIfInBounds_toArray, List.set_cons_zero, List.set_cons_succ, i64_w, i32_w]
            rfl
           refine pure_ (i := 3) (N := some 41) (v := ?_) (a' := ?_) #[true, true, true, true, false, false, false, false, false, false, false, false, false, false, false, false, false, false, false, false, false, false, false, false, false, false, false, false, false, false, false] rfl rfl (any_of HT_.out (by kernel_rfl)) (fun _ _ _ h => h) (Or.inl ⟨by rfl, ?_⟩) ?_ ?_
           rotate_left
           ·intro w'
            go_simp
            with_reducible rfl
           rotate_left
           ·simp only [Act.put, List.setIfInBounds_toArray, List.set_cons_zero, List.set_cons_succ, i64_w, i32_w]
            rfl
           refine pure_ (i := 4) (N := some 42) (v := ?_) (a' := ?_) #[true, true, true, true, true, false, false, false, false, false, false, false, false, false, false, false, false, false, false, false, false, false, false, false, false, false, false, false, false, false, false] rfl rfl (any_of HT_.out (by kernel_rfl)) (fun _ _ _ h => h) (Or.inl ⟨by rfl, ?_⟩) ?_ ?_
           rotate_left
           ·intro w'
            go_simp
            with_reducible rfl
           rotate_left
           ·simp only [Act.put, List.setIfInBounds_toArray, List.set_cons_zero, List.set_cons_succ, i64_w, i32_w]
            rfl
           refine pure_ (i := 5) (N := some 43) (v := ?_) (a' := ?_) #[true, true, true, true, true, true, false, false, false, false, false, false, false, false, false, false, false, false, false, false, false, false, false, false, false, false, false, false, false, false, false] rfl rfl (any_of HT_.out (by kernel_rfl)) (fun _ _ _ h => h) (Or.inl ⟨by rfl, ?_⟩) ?_ ?_
           rotate_left
           ·intro w'
            go_simp
            with_reducible rfl
           rotate_left
           ·simp only [Act.put, List.setIfInBounds_toArray, List.set_cons_zero, List.set_cons_succ, i64_w, i32_w]
            rfl
           refine pure_ (i := 6) (N := some 44) (v := ?_) (a' := ?_) #[true, true, true, true, true, true, true, false, false, false, false, false, false, false, false, false, false, false, false, false, false, false, false, false, false, false, false, false, false, false, false] rfl rfl (any_of HT_.out (by kernel_rfl)) (fun _ _ _ h => h) (Or.inl ⟨by rfl, ?_⟩) ?_ ?_
           rotate_left
           ·intro w'
            go_simp
            with_reducible rfl
           rotate_left
           ·simp only [Act.put, List.setIfInBounds_toArray, List.set_cons_zero, List.set_cons_succ, i64_w, i32_w]
            rfl
           refine pure_ (i := 7) (N := some 45) (v := ?_) (a' := ?_) #[true, true, true, true, true, true, true, true, false, false, false, false, false, false, false, false, false, false, false, false, false, false, false, false, false, false, false, false, false, false, false] rfl rfl (any_of HT_.out (by kernel_rfl)) (fun _ _ _ h => h) (Or.inl ⟨by rfl, ?_⟩) ?_ ?_
           rotate_left
           ·intro w'
            go_simp
            with_reducible rfl
           rotate_left
           ·simp only [Act.put, List.setIfInBounds_toArray, List.set_cons_zero, List.set_cons_succ, i64_w, i32_w]
            rfl
           refine pure_ (i := 8) (N := some 46) (v := ?_) (a' := ?_) #[true, true, true, true, true, true, true, true, true, false, false, false, false, false, false, false, false, false, false, false, false, false, false, false, false, false, false, false, false, false, false] rfl rfl (any_of HT_.out (by kernel_rfl)) (fun _ _ _ h => h) (Or.inl ⟨by rfl, ?_⟩) ?_ ?_
           rotate_left
           ·intro w'
            go_simp
            with_reducible rfl
           rotate_left
           ·simp only [Act.put, List.setIfInBounds_toArray, List.set_cons_zero, List.set_cons_succ, i64_w, i32_w]
            rfl
           refine pure_ (i := 9) (N := some 47) (v := ?_) (a' := ?_) #[true, true, true, true, true, true, true, true, true, true, false, false, false, false, false, false, false, false, false, false, false, false, false, false, false, false, false, false, false, false, false] rfl rfl (any_of HT_.out (by kernel_rfl)) (fun _ _ _ h => h) (Or.inl ⟨by rfl, ?_⟩) ?_ ?_
           rotate_left
           ·intro w'
            go_simp
            with_reducible rfl
           rotate_left
           ·simp only [Act.put, List.setIfInBounds_toArray, List.set_cons_zero, List.set_cons_succ, i64_w, i32_w]
            rfl
           refine pure_ (i := 10) (N := some 48) (v := ?_) (a' := ?_) #[true, true, true, true, true, true, true, true, true, true, true, false, false, false, false, false, false, false, false, false, false, false, false, false, false, false, false, false, false, false, false] rfl rfl (any_of HT_.out (by kernel_rfl)) (fun _ _ _ h => h) (Or.inl ⟨by rfl, ?_⟩) ?_ ?_
           rotate_left
           ·intro w'
            go_simp
            with_reducible rfl
           rotate_left
           ·simp only [Act.put, List.setIfInBounds_toArray, List.set_cons_zero, List.set_cons_succ, i64_w, i32_w]
            rfl
           refine pure_ (i := 11) (N := some 49) (v := ?_) (a' := ?_) #[true, true, true, true, true, true, true, true, true, true, true, true, false, false, false, false, false, false, false, false, false, false, false, false, false, false, false, false, false, false, false] rfl rfl (any_of HT_.out (by kernel_rfl)) (fun _ _ _ h => h) (Or.inl ⟨by rfl, ?_⟩) ?_ ?_
           rotate_left
           ·intro w'
            go_simp
            with_reducible rfl
           rotate_left
           ·simp only [Act.put, List.setIfInBounds_toArray, List.set_cons_zero, List.set_cons_succ, i64_w, i32_w]
            rfl
           refine pure_ (i := 12) (N := some 50) (v := ?_) (a' := ?_) #[true, true, true, true, true, true, true, true, true, true, true, true, true, false, false, false, false, false, false, false, false, false, false, false, false, false, false, false, false, false, false] rfl rfl (any_of HT_.out (by kernel_rfl)) (fun _ _ _ h => h) (Or.inl ⟨by rfl, ?_⟩) ?_ ?_
           rotate_left
           ·intro w'
            go_simp
            with_reducible rfl
           rotate_left
           ·simp only [Act.put, List.setIfInBounds_toArray, List.set_cons_zero, List.set_cons_succ, i64_w, i32_w]
            rfl
           refine pure_ (i := 13) (N := some 51) (v := ?_) (a' := ?_) #[true, true, true, true, true, true, true, true, true, true, true, true, true, true, false, false, false, false, false, false, false, false, false, false, false, false, false, false, false, false, false] rfl rfl (any_of HT_.out (by kernel_rfl)) (fun _ _ _ h => h) (Or.inl ⟨by rfl, ?_⟩) ?_ ?_
           rotate_left
           ·intro w'
            go_simp
            with_reducible rfl
           rotate_left
           ·simp only [Act.put, List.setIfInBounds_toArray, List.set_cons_zero, List.set_cons_succ, i64_w, i32_w]
            rfl
           refine pure_ (i := 14) (N := some 52) (v := ?_) (a' := ?_) #[true, true, true, true, true, true, true, true, true, true, true, true, true, true, true, false, false, false, false, false, false, false, false, false, false, false, false, false, false, false, false] rfl rfl (any_of HT_.out (by kernel_rfl)) (fun _ _ _ h => h) (Or.inl ⟨by rfl, ?_⟩) ?_ ?_
           rotate_left
           ·intro w'
            go_simp
            with_reducible rfl
           rotate_left
           ·simp only [Act.put, List.setIfInBounds_toArray, List.set_cons_zero, List.set_cons_succ, i64_w, i32_w]
            rfl
           refine pure_ (i := 15) (N := some 53) (v := ?_) (a' := ?_) #[true, true, true, true, true, true, true, true, true, true, true, true, true, true, true, true, false, false, false, false, false, false, false, false, false, false, false, false, false, false, false] rfl rfl (any_of HT_.out (by kernel_rfl)) (fun _ _ _ h => h) (Or.inl ⟨by rfl, ?_⟩) ?_ ?_
           rotate_left
           ·intro w'
            go_simp
            with_reducible rfl
           rotate_left
           ·simp only [Act.put, List.setIfInBounds_toArray, List.set_cons_zero, List.set_cons_succ, i64_w, i32_w]
            rfl
           refine pure_ (i := 16) (N := some 54) (v := ?_) (a' := ?_) #[true, true, true, true, true, true, true, true, true, true, true, true, true, true, true, true, true, false, false, false, false, false, false, false, false, false, false, false, false, false, false] rfl rfl (any_of HT_.out (by kernel_rfl)) (fun _ _ _ h => h) (Or.inl ⟨by rfl, ?_⟩) ?_ ?_
           rotate_left
           ·intro w'
            go_simp
            with_reducible rfl
           rotate_left
           ·simp only [Act.put, List.setIfInBounds_toArray, List.set_cons_zero, List.set_cons_succ, i64_w, i32_w]
            rfl
           refine pure_ (i := 17) (N := some 55) (v := ?_) (a' := ?_) #[true, true, true, true, true, true, true, true, true, true, true, true, true, true, true, true, true, true, false, false, false, false, false, false, false, false, false, false, false, false, false] rfl rfl (any_of HT_.out (by kernel_rfl)) (fun _ _ _ h => h) (Or.inl ⟨by rfl, ?_⟩) ?_ ?_
           rotate_left
           ·intro w'
            go_simp
            with_reducible rfl
           rotate_left
           ·simp only [Act.put, List.setIfInBounds_toArray, List.set_cons_zero, List.set_cons_succ, i64_w, i32_w]
            rfl
           refine pure_ (i := 18) (N := some 56) (v := ?_) (a' := ?_) #[true, true, true, true, true, true, true, true, true, true, true, true, true, true, true, true, true, true, true, false, false, false, false, false, false, false, false, false, false, false, false] rfl rfl (any_of HT_.out (by kernel_rfl)) (fun _ _ _ h => h) (Or.inl ⟨by rfl, ?_⟩) ?_ ?_
           rotate_left
           ·intro w'
            go_simp
            with_reducible rfl
           rotate_left
           ·simp only [Act.put, List.setIfInBounds_toArray, List.set_cons_zero, List.set_cons_succ, i64_w, i32_w]
            rfl
           refine one_ (i := 19) (N := some 57) #[true, true, true, true, true, true, true, true, true, true, true, true, true, true, true, true, true, true, true, true, false, false, false, false, false, false, false, false, false, false, false] rfl rfl (one_of HT_.out (by kernel_rfl)) (by decide) (fun K hK => ?_)
           refine goes_ Try.func10 (by kernel_rfl) rfl #[.slice (some ad132) y127.length co32, .slice A0 l0.length c0] (by rfl) rfl rfl (by (try simp only [List.map_toArray, List.map_cons, List.map_nil]); first | done | rfl | (simp only [List.length_drop, List.length_take]; rfl) | exact congrArg (fun n_ : Nat => #[Value.slice _ n_ _]) (Eq.trans (Aside0.out (by assumption)) (Eq.symm (Aside0.out (by assumption)))) | exact congrArg (fun n_ : Nat => #[Value.slice _ n_ _, Value.slice _ _ _]) (Eq.trans (Aside0.out (by assumption)) (Eq.symm (Aside0.out (by assumption))))) ?_
           with_reducible refine (rosterlaw02_sameNodes.calls k _ _ y127 _ _ l0 true _ ?side1 ?side2 ?side3 ?side4 A15.out).mono ?_
           (case side1 => repeat (first | exact (by repeat (first | (with_reducible exact HR130.out) | (with_reducible refine Kd.C_alloc ?_ _) | (with_reducible refine Kd.C_drewN ?_ _) | (with_reducible refine Kd.C_drew ?_) | exact HR130.out)) | (with_reducible refine Kd.C_alloc ?_ _) | (with_reducible refine Kd.C_drewN ?_ _) | (with_reducible refine Kd.C_drew ?_)))
           (case side2 => exact HC130.out)
           (case side3 => repeat (first | exact (Kd.C_below HR0.out HB.out) | exact (Kd.C_below (Aside0.out (by assumption)) HB.out) | (with_reducible refine Kd.C_alloc ?_ _) | (with_reducible refine Kd.C_drewN ?_ _) | (with_reducible refine Kd.C_drew ?_)))
           (case side4 => exact HC0.out)
           rintro e w' ⟨rfl, ⟨nd, rfl⟩⟩
           refine ⟨_, rfl, ?_⟩
           refine hK.out _ _ ⟨(blk_cell BK104.out 0).trans rfl, (blk_cell BK104.out 1).trans rfl, (blk_cell BK104.out 2).trans rfl, (blk_cell BK104.out 3).trans rfl, (blk_cell BK104.out 4).trans rfl, hHeld.2.2.2.2.2.1, hHeld.2.2.2.2.2.2.1, hHeld.2.2.2.2.2.2.2.1, hHeld.2.2.2.2.2.2.2.2.1, hHeld.2.2.2.2.2.2.2.2.2⟩ (fun hHeld => ?_)
           clear hK K
           refine norm_ (a' := ?_) ?_ ?_
           rotate_left
           ·show Act.put _ (some 57) _ = _
            simp only [Act.put, List.setIfInBounds_toArray, List.set_cons_zero, List.set_cons_succ, i64_w, i32_w]
            rfl
           refine pure_ (i := 20) (N := some 58) (v := ?_) (a' := ?_) #[true, true, true, true, true, true, true, true, true, true, true, true, true, true, true, true, true, true, true, true, true, false, false, false, false, false, false, false, false, false, false] rfl rfl (any_of HT_.out (by kernel_rfl)) (fun _ _ _ h => h) (Or.inl ⟨by rfl, ?_⟩) ?_ ?_
           rotate_left
           ·intro w'
            go_simp
            with_reducible rfl
           rotate_left
           ·simp only [Act.put, List.setIfInBounds_toArray, List.set_cons_zero, List.set_cons_succ, i64_w, i32_w]
            rfl
           refine pure_ (i := 21) (N := some 59) (v := ?_) (a' := ?_) #[true, true, true, true, true, true, true, true, true, true, true, true, true, true, true, true, true, true, true, true, true, true, false, false, false, false, false, false, false, false, false] rfl rfl (any_of HT_.out (by kernel_rfl)) (fun _ _ _ h => h) (Or.inl ⟨by rfl, ?_⟩) ?_ ?_
           rotate_left
           ·intro w'
            go_simp
            with_reducible rfl
           rotate_left
           ·simp only [Act.put, List.setIfInBounds_toArray, List.set_cons_zero, List.set_cons_succ, i64_w, i32_w]
            rfl
           refine pure_ (i := 22) (N := some 60) (v := ?_) (a' := ?_) #[true, true, true, true, true, true, true, true, true, true, true, true, true, true, true, true, true, true, true, true, true, true, true, false, false, false, false, false, false, false, false] rfl rfl (any_of HT_.out (by kernel_rfl)) (fun _ _ _ h => h) (Or.inl ⟨by rfl, ?_⟩) ?_ ?_
           rotate_left
           ·intro w'
            go_simp
            with_reducible rfl
           rotate_left
           ·simp only [Act.put, List.setIfInBounds_toArray, List.set_cons_zero, List.set_cons_succ, i64_w, i32_w]
            rfl
           refine pure_ (i := 23) (N := some 61) (v := ?_) (a' := ?_) #[true, true, true, true, true, true, true, true, true, true, true, true, true, true, true, true, true, true, true, true, true, true, true, true, false, false, false, false, false, false, false] rfl rfl (any_of HT_.out (by kernel_rfl)) (fun _ _ _ h => h) (Or.inl ⟨by rfl, ?_⟩) ?_ ?_
           rotate_left
           ·intro w'
            go_simp
            with_reducible rfl
           rotate_left
           ·simp only [Act.put, List.setIfInBounds_toArray, List.set_cons_zero, List.set_cons_succ, i64_w, i32_w]
            rfl
           refine pure_ (i := 24) (N := some 62) (v := ?_) (a' := ?_) #[true, true, true, true, true, true, true, true, true, true, true, true, true, true, true, true, true, true, true, true, true, true, true, true, true, false, false, false, false, false, false] rfl rfl (any_of HT_.out (by kernel_rfl)) (fun _ _ _ h => h) (Or.inl ⟨by rfl, ?_⟩) ?_ ?_
           rotate_left
           ·intro w'
            go_simp
            with_reducible rfl
           rotate_left
           ·simp only [Act.put, List.setIfInBounds_toArray, List.set_cons_zero, List.set_cons_succ, i64_w, i32_w]
            rfl
           refine pure_ (i := 25) (N := some 63) (v := ?_) (a' := ?_) #[true, true, true, true, true, true, true, true, true, true, true, true, true, true, true, true, true, true, true, true, true, true, true, true, true, true, false, false, false, false, false] rfl rfl (any_of HT_.out (by kernel_rfl)) (fun _ _ _ h => h) (Or.inl ⟨by rfl, ?_⟩) ?_ ?_
           rotate_left
           ·intro w'
            go_simp
            with_reducible rfl
           rotate_left
           ·simp only [Act.put, List.setIfInBounds_toArray, List.set_cons_zero, List.set_cons_succ, i64_w, i32_w]
            rfl
           refine take_ (i := 26) (N := some 64) (v := ?_) (a' := ?_) #[true, true, true, true, true, true, true, true, true, true, true, true, true, true, true, true, true, true, true, true, true, true, true, true, true, true, true, false, false, false, false] rfl rfl (take_ofW HT_.out HW_.out (by kernel_rfl)) (fun _ _ _ h => h) (Or.inl ⟨by rfl, ?_⟩) hHeld ?_ ?_
           rotate_left
           ·rintro w' ⟨s0, s1, s2, s3, s4, s5, s6, s7, s8, s9⟩
            go_simp
            with_reducible rfl
           rotate_left
           ·simp only [Act.put, List.setIfInBounds_toArray, List.set_cons_zero, List.set_cons_succ, i64_w, i32_w]
            rfl
           refine take_ (i := 27) (N := some 65) (v := ?_) (a' := ?_) #[true, true, true, true, true, true, true, true, true, true, true, true, true, true, true, true, true, true, true, true, true, true, true, true, true, true, true, true, false, false, false] rfl rfl (take_ofW HT_.out HW_.out (by kernel_rfl)) (fun _ _ _ h => h) (Or.inl ⟨by rfl, ?_⟩) hHeld ?_ ?_
           rotate_left
           ·rintro w' ⟨s0, s1, s2, s3, s4, s5, s6, s7, s8, s9⟩
            go_simp
            with_reducible rfl
           rotate_left
           ·simp only [Act.put, List.setIfInBounds_toArray, List.set_cons_zero, List.set_cons_succ, i64_w, i32_w]
            rfl
           refine pure_ (i := 28) (N := some 66) (v := ?_) (a' := ?_) #[true, true, true, true, true, true, true, true, true, true, true, true, true, true, true, true, true, true, true, true, true, true, true, true, true, true, true, true, true, false, false] rfl rfl (any_of HT_.out (by kernel_rfl)) (fun _ _ _ h => h) (Or.inl ⟨by rfl, ?_⟩) ?_ ?_
           rotate_left
           ·intro w'
            go_simp
            with_reducible rfl
           rotate_left
           ·simp only [Act.put, List.setIfInBounds_toArray, List.set_cons_zero, List.set_cons_succ, i64_w, i32_w]
            rfl
           refine pure_ (i := 29) (N := some 67) (v := ?_) (a' := ?_) #[true, true, true, true, true, true, true, true, true, true, true, true, true, true, true, true, true, true, true, true, true, true, true, true, true, true, true, true, true, true, false] rfl rfl (any_of HT_.out (by kernel_rfl)) (fun _ _ _ h => h) (Or.inl ⟨by rfl, ?_⟩) ?_ ?_
           rotate_left
           ·intro w'
            go_simp
            with_reducible rfl
           rotate_left
           ·simp only [Act.put, List.setIfInBounds_toArray, List.set_cons_zero, List.set_cons_succ, i64_w, i32_w]
            rfl
           refine pure_ (i := 30) (N := some 2) (v := ?_) (a' := ?_) #[true, true, true, true, true, true, true, true, true, true, true, true, true, true, true, true, true, true, true, true, true, true, true, true, true, true, true, true, true, true, true] rfl rfl (any_of HT_.out (by kernel_rfl)) (fun _ _ _ h => h) (Or.inl ⟨by rfl, ?_⟩) ?_ ?_
           rotate_left
           ·intro w'
            go_simp
            with_reducible rfl
           rotate_left
           ·simp only [Act.put, List.setIfInBounds_toArray, List.set_cons_zero, List.set_cons_succ, i64_w, i32_w]
            rfl
           refine done_ (done_of HT_.out (by kernel_rfl)) ?_
           try go_wp2
           go_ret
           exact ⟨by first | rfl | (simp [isEmpty_ne_]; done) | (simp [*, errW_none, errW_some] <;> rfl), by repeat (first | (with_reducible first | exact HB.out | apply below_alloc | apply pw_below_drewN | apply below_drew1 | refine below_set ?_ GE104.out) | exact HB.out)⟩
          ·rw [if_neg c17] at H
           exact absurd H (by simp)
         ·replace c16 := Bool.eq_false_iff.mpr c16
          subst c16
          have H1 : (some false) = some r := by rw [if_neg (show ¬ (false = true) by decide)] at H; exact H
          exact absurd ((Option.some.inj H1).trans HRT.out) (by decide)
        ·rw [if_neg c12] at H
         exact absurd ((Option.some.inj H).trans HRT.out) (by decide)
       ·rw [if_neg c11] at H
        exact absurd ((Option.some.inj H).trans HRT.out) (by decide)
      ·rw [if_neg c10] at H
       exact absurd ((Option.some.inj H).trans HRT.out) (by decide)
     ·rw [if_neg c7] at H
      exact absurd H (by simp)
    ·rw [if_neg c6] at H
     exact absurd H (by simp)
   ·rw [if_neg c5] at H
    exact absurd H (by simp)
  ·rw [if_neg c4] at H
   exact absurd H (by simp)
 ·replace c3 := Bool.eq_false_iff.mpr c3
  subst c3
  have H1 : (some true) = some r := by rw [if_neg (show ¬ (false = true) by decide)] at H; exact H
  clear H
  have H := H1
  clear H1
  obtain rfl := Option.some.inj H
  go_enter Try.func3, Try.ntmps3
  go_wp2_with (first | ((with_reducible refine gate_callee (f := 7) rfl ?_); refine goesL_ (some 13) rfl rfl Try.func7 (by kernel_rfl) rfl #[.slice A0 l0.length c0] rfl (by (try simp only [List.map_toArray, List.map_cons, List.map_nil]); first | done | rfl | (simp only [List.length_drop, List.length_take]; rfl) | exact congrArg (fun n_ : Nat => #[Value.slice _ n_ _]) (Eq.trans (Aside0.out (by assumption)) (Eq.symm (Aside0.out (by assumption)))) | exact congrArg (fun n_ : Nat => #[Value.slice _ n_ _, Value.slice _ _ _]) (Eq.trans (Aside0.out (by assumption)) (Eq.symm (Aside0.out (by assumption))))) ?_; (with_reducible refine (rosterlaw02_small.calls _ _ l0 false _ ?side1 ?side2 A2.out).mono ?_); (case side1 => repeat (first | exact HR0.out | (with_reducible refine Kd.C_alloc ?_ _) | (with_reducible refine Kd.C_drewN ?_ _) | (with_reducible refine Kd.C_drew ?_))); (case side2 => exact HC0.out); rintro e w110 ⟨rfl, hb⟩; refine ⟨_, rfl, ?_⟩; have n0_ := Aside0.mk (below_step (by repeat (first | (with_reducible first | exact HB.out | apply below_alloc | apply pw_below_drewN | apply below_drew1) | exact HB.out)) hb); clear HB; have HB := n0_; clear n0_; (try clear hb); (try clear hb2); (try clear hk); (try clear hi)))
  go_ret
  exact ⟨by first | rfl | (simp [isEmpty_ne_]; done) | (simp [*, errW_none, errW_some] <;> rfl), by repeat (first | (with_reducible first | exact HB.out | apply below_alloc | apply pw_below_drewN | apply below_drew1) | exact HB.out)⟩

end Go.Proofs.Ytakcnckiakjpiaa.GF
