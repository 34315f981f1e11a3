/- Texts of this claim in one: GOx4 -/
import Derived.Test.YtogjljpncdmlkaaDoorB3
import Derived.Test.YtogjljpncdmlkaaDoorB12
import Derived.Test.YtogjljpncdmlkaaDoorB15
section
namespace Go.Proofs.YtogjljpncdmlkaaDoor.GO
open Go.RowKit Go.Proofs.YtogjljpncdmlkaaDoorW.PrintWords Go.Proofs.YtogjljpncdmlkaaDoorW.PrintLast Go.Proofs.YtogjljpncdmlkaaDoorW.PrintMore
attribute [local go_sem] max2_int min2_int max_two min_two max_three min_three max_four min_four   -- for this text's walks alone
set_option linter.unusedVariables false
set_option linter.unusedSimpArgs false
mutual
def rosterlaw22_ViewRounds.l0 : Nat → List (S25) → Int → ByteArray → Int → List (S25) → Int → Option (Bool)
 | 0, _, _, _, _, _, _ => none
 | k + 1, x0, x1, x2, x3, x9, x10 => if x10 < (x0.length : Int) then (rosterlaw22_ViewRounds.j1 k x0 x1 x2 x3 x9 x10 (decide (x10 < 1000))) else (rosterlaw22_ViewRounds.j1 k x0 x1 x2 x3 x9 x10 false)
def rosterlaw22_ViewRounds.j1 : Nat → List (S25) → Int → ByteArray → Int → List (S25) → Int → Bool → Option (Bool)
 | 0, _, _, _, _, _, _, _ => none
 | k + 1, x0, x1, x2, x3, x9, x10, x33 => if x33 = true then (if 0 ≤ x10 then (if x10 < (x0.length : Int) then ((rosterlaw22_short.f ((rd_T25 x0 x10).f0)).bind fun t174 => ((rosterlaw22_short.f ((rd_T25 x0 x10).f1)).bind fun t176 => (if x9.length < 3518437208883 then (rosterlaw22_ViewRounds.l0 k x0 x1 x2 x3 (x9 ++ [(⟨t174, t176, (rd_T25 x0 x10).f2⟩ : S25)]) (wrap64 (x10 + 1))) else (none)))) else (none)) else (none)) else ((rosterlaw22_short.f x2).bind fun t181 => (rosterlaw22_ViewRounds.l1 k x1 t181 x3 x9 true 0))
def rosterlaw22_ViewRounds.l1 : Nat → Int → ByteArray → Int → List (S25) → Bool → Int → Option (Bool)
 | 0, _, _, _, _, _, _ => none
 | k + 1, x1, x2, x3, x9, x11, x12 => if x12 < (x9.length : Int) then (if 0 ≤ x12 then ((rosterref01_Check.f ((rd_T25 x9 x12).f0)).bind fun bt183 => ((rosterref01_Check.f ((rd_T25 x9 x12).f1)).bind fun bt186 => (if x11 = true then (if bt183.1 = 0 then (rosterlaw22_ViewRounds.l1 k x1 x2 x3 x9 (bt186.1 == 0) (wrap64 (x12 + 1))) else (rosterlaw22_ViewRounds.l1 k x1 x2 x3 x9 false (wrap64 (x12 + 1)))) else (rosterlaw22_ViewRounds.l1 k x1 x2 x3 x9 false (wrap64 (x12 + 1)))))) else (none)) else ((view_EncodeKeys.f k x9).bind fun bt188 => (if x11 = true then (rosterlaw22_ViewRounds.j3 k x1 x2 x3 x9 x11 bt188.1 bt188.2 false) else (if bt188.2 = 224 then (rosterlaw22_ViewRounds.j3 k x1 x2 x3 x9 x11 bt188.1 bt188.2 (bt188.1.toList != ([] : List UInt8))) else (rosterlaw22_ViewRounds.j3 k x1 x2 x3 x9 x11 bt188.1 bt188.2 true))))
def rosterlaw22_ViewRounds.j3 : Nat → Int → ByteArray → Int → List (S25) → Bool → ByteArray → Int → Bool → Option (Bool)
 | 0, _, _, _, _, _, _, _, _ => none
 | k + 1, x1, x2, x3, x9, x11, x17, x18, x106 => if x106 = true then (some false) else (if x11 = true then (rosterlaw22_ViewRounds.j4 k x1 x2 x3 x9 x17 x18) else ((view_EncodeKeys.f k (([] : List (S25)))).bind fun bt193 => (rosterlaw22_ViewRounds.j4 k x1 x2 x3 ([] : List (S25)) bt193.1 bt193.2)))
def rosterlaw22_ViewRounds.j4 : Nat → Int → ByteArray → Int → List (S25) → ByteArray → Int → Option (Bool)
 | 0, _, _, _, _, _, _ => none
 | k + 1, x1, x2, x3, x9, x17, x18 => (view_DecodeKeys.f x17).bind fun bt195 => (if x18 = 0 then (if bt195.2 = 0 then (if x17.toList = ([] : List UInt8) then (rosterlaw22_ViewRounds.j5 k x1 x2 x3 x17 true) else ((rosterlaw22_sameKeys.f k bt195.1 x9).bind fun t199 => (rosterlaw22_ViewRounds.j5 k x1 x2 x3 x17 (!t199)))) else (rosterlaw22_ViewRounds.j5 k x1 x2 x3 x17 true)) else (rosterlaw22_ViewRounds.j5 k x1 x2 x3 x17 true))
def rosterlaw22_ViewRounds.j5 : Nat → Int → ByteArray → Int → ByteArray → Bool → Option (Bool)
 | 0, _, _, _, _, _ => none
 | k + 1, x1, x2, x3, x17, x134 => if x134 = true then (some false) else ((some (([(x3) % 256] : List Int) : List Int)).bind fun y200 => (if x17.size + (strOfNums y200).size ≤ 9223372036854775807 then ((view_DecodeKeys.f (x17 ++ (strOfNums y200))).bind fun bt203 => (if 0 ≤ (wrap64 ((x17.size : Int) - 1)) then (if (wrap64 ((x17.size : Int) - 1)) ≤ (x17.size : Int) then ((view_DecodeKeys.f (x17.extract 0 ((wrap64 ((x17.size : Int) - 1)) : Int).toNat)).bind fun bt207 => (if bt203.2 = 224 then (rosterlaw22_ViewRounds.j6 k x1 x2 x3 (bt207.2 != 224)) else (rosterlaw22_ViewRounds.j6 k x1 x2 x3 true))) else (none)) else (none))) else (none)))
def rosterlaw22_ViewRounds.j6 : Nat → Int → ByteArray → Int → Bool → Option (Bool)
 | 0, _, _, _, _ => none
 | k + 1, x1, x2, x3, x159 => if x159 = true then (some false) else ((view_EncodePage.f k x1 x2).bind fun bt211 => (if x1 < 0 then (rosterlaw22_ViewRounds.j7 k x1 x2 x3 bt211.2 bt211.1 true) else (rosterlaw22_ViewRounds.j7 k x1 x2 x3 bt211.2 bt211.1 (decide (x1 > 2147483647)))))
def rosterlaw22_ViewRounds.j7 : Nat → Int → ByteArray → Int → Int → ByteArray → Bool → Option (Bool)
 | 0, _, _, _, _, _, _ => none
 | k + 1, x1, x2, x3, x18, x23, x171 => if x171 = true then (if x18 = 224 then (if x23.toList = ([] : List UInt8) then ((view_EncodePage.f k 7 x2).bind fun bt213 => (rosterlaw22_ViewRounds.j8 k 7 x2 x3 bt213.2 bt213.1)) else (some false)) else (some false)) else (rosterlaw22_ViewRounds.j8 k x1 x2 x3 x18 x23)
def rosterlaw22_ViewRounds.j8 : Nat → Int → ByteArray → Int → Int → ByteArray → Option (Bool)
 | 0, _, _, _, _, _ => none
 | k + 1, x1, x2, x3, x18, x23 => (view_DecodePage.f x23).bind fun bt215 => (if x18 = 0 then (if bt215.2.2 = 0 then (if bt215.1 = x1 then (rosterlaw22_ViewRounds.j9 k x3 x23 (bt215.2.1.toList != x2.toList)) else (rosterlaw22_ViewRounds.j9 k x3 x23 true)) else (rosterlaw22_ViewRounds.j9 k x3 x23 true)) else (rosterlaw22_ViewRounds.j9 k x3 x23 true))
def rosterlaw22_ViewRounds.j9 : Nat → Int → ByteArray → Bool → Option (Bool)
 | 0, _, _, _ => none
 | k + 1, x3, x23, x205 => if x205 = true then (some false) else ((some (([(x3) % 256] : List Int) : List Int)).bind fun y218 => (if x23.size + (strOfNums y218).size ≤ 9223372036854775807 then ((view_DecodePage.f (x23 ++ (strOfNums y218))).bind fun bt221 => (if 0 ≤ (wrap64 ((x23.size : Int) - 1)) then (if (wrap64 ((x23.size : Int) - 1)) ≤ (x23.size : Int) then ((view_DecodePage.f (x23.extract 0 ((wrap64 ((x23.size : Int) - 1)) : Int).toNat)).bind fun bt224 => (if bt221.2.2 = 224 then (some (bt224.2.2 == 224)) else (some false))) else (none)) else (none))) else (none)))
end
def rosterlaw22_ViewRounds.f (k : Nat) (l0 : List (S25)) (a1 : Int) (a2 : ByteArray) (a3 : Int) : Option (Bool) := rosterlaw22_ViewRounds.l0 k l0 a1 a2 a3 ([] : List (S25)) 0
def rosterlaw22_ViewRounds.T5 : Bool × List (List Nat × List Nat) := (true, [([], []), ([], []), ([], []), ([1, 2], [1, 2]), ([3], [3]), ([4], [4]), ([5], [5]), ([], []), ([], []), ([7, 8], [7, 8]), ([9], [9]), ([10], [10]), ([11, 6], [11]), ([], []), ([], []), ([13, 14], [13, 14]), ([15], [15]), ([16], [16]), ([6, 12, 17], [6, 12, 17]), ([18], [18]), ([0, 19, 12], [0, 19]), ([20, 20, 0, 1, 2, 3, 4, 5, 6, 7, 8, 9, 10, 11, 12, 13, 14, 15, 16, 17, 18, 19, 20], [0, 20])])
def rosterlaw22_ViewRounds.B5 : List Nat := [0, 0, 0, 6, 14, 30, 62, 0, 0, 384, 896, 1920, 4094, 0, 0, 24576, 57344, 122880, 262142, 524286, 1048575, 2097151]
theorem rosterlaw22_ViewRounds.tab5 : rtab .any (opsOf Tryd.f4 5) = rosterlaw22_ViewRounds.T5 := by kernel_rfl
theorem rosterlaw22_ViewRounds.bits5 : waitsOk rosterlaw22_ViewRounds.T5.2 rosterlaw22_ViewRounds.B5 = true := by kernel_rfl
set_option maxHeartbeats 8000000 in
set_option maxRecDepth 100000 in
theorem rosterlaw22_ViewRounds.calls (k : Nat) (A0 : Option Addr) (c0 : Nat) (l0 : List (S25)) (a1 : Int) (a2 : ByteArray) (a3 : Int) (r : Bool) (w : World) (hr0 : Kd.C k25 w A0 l0.length l0) (hc0 : l0.length ≤ c0) (h : rosterlaw22_ViewRounds.f k l0 a1 a2 a3 = some r) (hT : W.TabW w) (hrt : r = true) :
  Calls Tryd.prog 4 #[.slice A0 l0.length c0, .int .i64 a1, .string a2, .int .i64 a3] w fun e w' => e = .returned (.bool r) ∧ Below w.heap.size w w' := by
 have HRT := Aside0.mk hrt
 clear hrt
 have HTB := Aside0.mk hT
 clear hT
 have hu25 := Tryd.underlying25
 have HR0 := Aside0.mk hr0
 have HC0 := Aside0.mk hc0
 clear hr0 hc0
 have HB := Aside0.mk (Below.refl w.heap.size w)
 have H : (rosterlaw22_ViewRounds.l0 k l0 a1 a2 a3 ([] : List (S25)) 0) = some r := h
 clear h
 have H' := Aside0.mk H
 clear H
 go_enter Tryd.func4, Tryd.ntmps4
 go_wp2
 go_loopg [9, 10] k (fun kq v9 v10 w' => ∃ (x9_1 : List (S25)) (x10_1 : Int), v10 = .int .i64 x10_1 ∧ Aside0 (rosterlaw22_ViewRounds.l0 kq l0 a1 a2 a3 x9_1 x10_1 = some r) ∧ Aside0 (kq ≤ k) ∧ Aside0 (Kd.R k25 25 w' w.heap.size (fun _ => True) v9 x9_1) ∧ Aside0 (Below w.heap.size w w'))
 case atStart => exact ⟨(([] : List (S25))), (0), q3_, H', ⟨Nat.le_refl _⟩, ⟨q35_⟩, ⟨q1_⟩⟩
 case round =>
  clear H'
  try clear p2
  try clear c4
  obtain ⟨x9_1, x10_1, rfl, HA, HK1, HO_9, HB⟩ := hrel
  cases gk with
  | zero => exact absurd HA.out (by simp [rosterlaw22_ViewRounds.l0])
  | succ k1 =>
   have H := HA.out
   clear HA
   simp only [rosterlaw22_ViewRounds.l0] at H
   have HC5 := Aside0.mk H
   clear H
   go_upto_region 3 with (fail)
   go_cut [33] (fun v33 wc => ∃ (kq : Nat) (x33_4 : Bool), v33 = .bool x33_4 ∧ Aside0 (rosterlaw22_ViewRounds.j1 kq l0 a1 a2 a3 x9_1 x10_1 x33_4 = some r) ∧ Aside0 (kq ≤ k1) ∧ Aside0 (Kd.R k25 25 wc w.heap.size (fun _ => True) u9 x9_1) ∧ Aside0 (Below w.heap.size w wc))
   case first =>
    have H := HC5.out
    clear HC5
    by_cases c6 : x10_1 < (l0.length : Int)
    ·rw [if_pos c6] at H
     have c6b0 : decide (x10_1 < (l0.length : Int)) = true := decide_eq_true c6
     clear c6
     (first | rw [c6b0] | rw [c6be] | (simp only [i64_w, i32_w]; rw [c6b0]) | skip)
     have H' := Aside0.mk H
     clear H
     go_wp2
     go_meet
     case rel => exact ⟨_, (decide (x10_1 < 1000)), q3_, H', ⟨q32_⟩, ⟨q11_⟩, ⟨q1_⟩⟩
    ·rw [if_neg c6] at H
     have c6b0 : decide (x10_1 < (l0.length : Int)) = false := decide_eq_false c6
     clear c6
     (first | rw [c6b0] | rw [c6be] | (simp only [i64_w, i32_w]; rw [c6b0]) | skip)
     have H' := Aside0.mk H
     clear H
     go_wp2
     go_meet
     case rel => exact ⟨_, (false), q3_, H', ⟨q32_⟩, ⟨q11_⟩, ⟨q1_⟩⟩
   case rest => as_aux_lemma =>
    clear HC5
    try clear p2
    try clear c4
    try clear c6
    try clear c6b0
    try clear p2
    obtain ⟨kq, x33_4, rfl, HA, HJ4, HO_9, HB⟩ := hcut
    cases kq with
    | zero => exact absurd HA.out (by simp [rosterlaw22_ViewRounds.j1])
    | succ kj4 =>
     have H := HA.out
     clear HA
     simp only [rosterlaw22_ViewRounds.j1] at H
     by_cases c7 : x33_4 = true
     ·subst c7
      have H1 : (if 0 ≤ x10_1 then (if x10_1 < (l0.length : Int) then ((rosterlaw22_short.f ((rd_T25 l0 x10_1).f0)).bind fun t174 => ((rosterlaw22_short.f ((rd_T25 l0 x10_1).f1)).bind fun t176 => (if x9_1.length < 3518437208883 then (rosterlaw22_ViewRounds.l0 kj4 l0 a1 a2 a3 (x9_1 ++ [(⟨t174, t176, (rd_T25 l0 x10_1).f2⟩ : S25)]) (wrap64 (x10_1 + 1))) else (none)))) else (none)) else (none)) = some r := by rw [if_pos rfl] at H; exact H
      clear H
      have H := H1
      clear H1
      by_cases c8 : 0 ≤ x10_1
      ·rw [if_pos c8] at H
       have c8b0 : decide (0 ≤ x10_1) = true := decide_eq_true c8
       clear c8
       by_cases c9 : x10_1 < (l0.length : Int)
       ·rw [if_pos c9] at H
        have c9b0 : decide (x10_1 < (l0.length : Int)) = true := decide_eq_true c9
        clear c9
        replace H := Option.bind_eq_some_iff.mp H
        obtain ⟨t174, A100, H⟩ := H
        replace H : ((rosterlaw22_short.f ((rd_T25 l0 x10_1).f1)).bind fun t176 => (if x9_1.length < 3518437208883 then (rosterlaw22_ViewRounds.l0 kj4 l0 a1 a2 a3 (x9_1 ++ [(⟨t174, t176, (rd_T25 l0 x10_1).f2⟩ : S25)]) (wrap64 (x10_1 + 1))) else (none))) = some r := H
        have A10 := Aside0.mk A100
        clear A100
        replace H := Option.bind_eq_some_iff.mp H
        obtain ⟨t176, A110, H⟩ := H
        replace H : (if x9_1.length < 3518437208883 then (rosterlaw22_ViewRounds.l0 kj4 l0 a1 a2 a3 (x9_1 ++ [(⟨t174, t176, (rd_T25 l0 x10_1).f2⟩ : S25)]) (wrap64 (x10_1 + 1))) else (none)) = some r := H
        have A11 := Aside0.mk A110
        clear A110
        by_cases c12 : x9_1.length < 3518437208883
        ·rw [if_pos c12] at H
         have LMc12 := Aside0.mk c12
         clear c12
         obtain ⟨y178, hy178⟩ : ∃ y_ : List (S25), y_ = (x9_1 ++ [(⟨t174, t176, (rd_T25 l0 x10_1).f2⟩ : S25)]) := ⟨_, rfl⟩
         replace H : (rosterlaw22_ViewRounds.l0 kj4 l0 a1 a2 a3 y178 (wrap64 (x10_1 + 1))) = some r := by first | (rw [hy178]; with_reducible exact H) | (have H2_ := (Option.bind_some _ _).symm.trans H; rw [hy178]; with_reducible exact H2_) | (have H2_ := (Option.bind_some _ _).symm.trans H; with_reducible exact H2_) | with_reducible exact H | (rw [hy178]; exact H) | exact H
         have Ny178 := Aside0.mk hy178
         clear hy178
         have H' := Aside0.mk H
         clear H
         try go_wp2
         have n0_ := Aside0.mk (Kd.R_drew HO_9.out)
         have n1_ := Aside0.mk (below_drew1 HB.out)
         clear HO_9
         clear HB
         have HO_9 := n0_
         have HB := n1_
         clear n0_ n1_
         have p173 : 0 ≤ (x10_1 : Int) := of_decide_eq_true q4_
         have q173 : x10_1 < (l0.length : Int) := of_decide_eq_true q4_
         obtain ⟨ad173, e173, hx173_0, hx173_1, hx173_2⟩ := at_T25 HR0.out x10_1 p173 q173
         have hw173_2 := hx173_2
         have hw173_1 := hx173_1
         have hw173_0 := hx173_0
         cases e173
         replace hx173_0 := cellB_ HB.out hx173_0
         replace hx173_1 := cellB_ HB.out hx173_1
         replace hx173_2 := cellB_ HB.out hx173_2
         replace p173 := eq_true p173
         replace q173 := eq_true q173
         have p175 : 0 ≤ (x10_1 : Int) := of_decide_eq_true q4_
         have q175 : x10_1 < (l0.length : Int) := of_decide_eq_true q4_
         obtain ⟨ad175, e175, hx175_0, hx175_1, hx175_2⟩ := at_T25 HR0.out x10_1 p175 q175
         have hw175_2 := hx175_2
         have hw175_1 := hx175_1
         have hw175_0 := hx175_0
         obtain rfl : ad173 = ad175 := (by injection e175)
         replace hx175_0 := cellB_ HB.out hx175_0
         replace hx175_1 := cellB_ HB.out hx175_1
         replace hx175_2 := cellB_ HB.out hx175_2
         replace p175 := eq_true p175
         replace q175 := eq_true q175
         have p177 : 0 ≤ (x10_1 : Int) := of_decide_eq_true q4_
         have q177 : x10_1 < (l0.length : Int) := of_decide_eq_true q4_
         obtain ⟨ad177, e177, hx177_0, hx177_1, hx177_2⟩ := at_T25 HR0.out x10_1 p177 q177
         have hw177_2 := hx177_2
         have hw177_1 := hx177_1
         have hw177_0 := hx177_0
         obtain rfl : ad173 = ad177 := (by injection e177)
         replace hx177_0 := cellB_ HB.out hx177_0
         replace hx177_1 := cellB_ HB.out hx177_1
         replace hx177_2 := cellB_ HB.out hx177_2
         replace p177 := eq_true p177
         replace q177 := eq_true q177
         refine start_ (n := 22) (S := fun w' => w'.cell? (ad173.add ((x10_1).toNat * 3)) = some (.string ((rd_T25 l0 x10_1).f0)) ∧ w'.cell? ⟨(ad173.add ((x10_1).toNat * 3)).block, (ad173.add ((x10_1).toNat * 3)).off + 1, none⟩ = some (.string ((rd_T25 l0 x10_1).f1)) ∧ w'.cell? ⟨(ad173.add ((x10_1).toNat * 3)).block, (ad173.add ((x10_1).toNat * 3)).off + 2, none⟩ = some (.bool ((rd_T25 l0 x10_1).f2)) ∧ w'.cell? (ad173.add ((x10_1).toNat * 3)) = some (.string ((rd_T25 l0 x10_1).f0)) ∧ w'.cell? ⟨(ad173.add ((x10_1).toNat * 3)).block, (ad173.add ((x10_1).toNat * 3)).off + 1, none⟩ = some (.string ((rd_T25 l0 x10_1).f1)) ∧ w'.cell? ⟨(ad173.add ((x10_1).toNat * 3)).block, (ad173.add ((x10_1).toNat * 3)).off + 2, none⟩ = some (.bool ((rd_T25 l0 x10_1).f2)) ∧ w'.cell? (ad173.add ((x10_1).toNat * 3)) = some (.string ((rd_T25 l0 x10_1).f0)) ∧ w'.cell? ⟨(ad173.add ((x10_1).toNat * 3)).block, (ad173.add ((x10_1).toNat * 3)).off + 1, none⟩ = some (.string ((rd_T25 l0 x10_1).f1)) ∧ w'.cell? ⟨(ad173.add ((x10_1).toNat * 3)).block, (ad173.add ((x10_1).toNat * 3)).off + 2, none⟩ = some (.bool ((rd_T25 l0 x10_1).f2))) (ds := []) #[false, false, false, false, false, false, false, false, false, false, false, false, false, false, false, false, false, false, false, false, false, false] q13_ rfl rfl ⟨((HB.out.cell (World.block_lt_of_cell? w _ hw173_0)).trans hw173_0), ((HB.out.cell (World.block_lt_of_cell? w _ hw173_1)).trans hw173_1), ((HB.out.cell (World.block_lt_of_cell? w _ hw173_2)).trans hw173_2), ((HB.out.cell (World.block_lt_of_cell? w _ hw175_0)).trans hw175_0), ((HB.out.cell (World.block_lt_of_cell? w _ hw175_1)).trans hw175_1), ((HB.out.cell (World.block_lt_of_cell? w _ hw175_2)).trans hw175_2), ((HB.out.cell (World.block_lt_of_cell? w _ hw177_0)).trans hw177_0), ((HB.out.cell (World.block_lt_of_cell? w _ hw177_1)).trans hw177_1), ((HB.out.cell (World.block_lt_of_cell? w _ hw177_2)).trans hw177_2)⟩ (fun hHeld => ?_); refine with_tabW rosterlaw22_ViewRounds.tab5 rosterlaw22_ViewRounds.bits5 (fun HT_ HW_ => ?_)
         generalize wc.drew = w13 at HO_9 HB hx173_0 hx173_1 hx173_2 hx175_0 hx175_1 hx175_2 hx177_0 hx177_1 hx177_2 hHeld ⊢
         refine pure_ (i := 0) (N := some 36) (v := ?_) (a' := ?_) #[true, false, false, false, false, false, false, false, false, false, false, false, false, false, false, false, false, false, false, false, false, false] rfl rfl (any_of HT_.out q13_) (fun _ _ _ h => h) (Or.inl ⟨q30_, ?_⟩) ?_ ?_
         rotate_left
         ·intro w'
          go_simp
          with_reducible rfl
         rotate_left
         ·simp only [Act.put, List.setIfInBounds_toArray, List.set_cons_zero, List.set_cons_succ, i64_w, i32_w]
          rfl
         refine pure_ (i := 1) (N := some 37) (v := ?_) (a' := ?_) #[true, true, false, false, false, false, false, false, false, false, false, false, false, false, false, false, false, false, false, false, false, false] rfl rfl (any_of HT_.out q13_) (fun _ _ _ h => h) (Or.inl ⟨q30_, ?_⟩) ?_ ?_
         rotate_left
         ·intro w'
          go_simp
          with_reducible rfl
         rotate_left
         ·simp only [Act.put, List.setIfInBounds_toArray, List.set_cons_zero, List.set_cons_succ, i64_w, i32_w]
          rfl
         refine pure_ (i := 2) (N := some 38) (v := ?_) (a' := ?_) #[true, true, true, false, false, false, false, false, false, false, false, false, false, false, false, false, false, false, false, false, false, false] rfl rfl (any_of HT_.out q13_) (fun _ _ _ h => h) (Or.inl ⟨q30_, ?_⟩) ?_ ?_
         rotate_left
         ·intro w'
          go_simp
          with_reducible rfl
         rotate_left
         ·simp only [Act.put, List.setIfInBounds_toArray, List.set_cons_zero, List.set_cons_succ, i64_w, i32_w]
          rfl
         refine pure_ (i := 3) (N := some 39) (v := ?_) (a' := ?_) #[true, true, true, true, false, false, false, false, false, false, false, false, false, false, false, false, false, false, false, false, false, false] rfl rfl (any_of HT_.out q13_) (fun _ _ _ h => h) (Or.inl ⟨q30_, ?_⟩) ?_ ?_
         rotate_left
         ·intro w'
          go_simp
          with_reducible rfl
         rotate_left
         ·simp only [Act.put, List.setIfInBounds_toArray, List.set_cons_zero, List.set_cons_succ, i64_w, i32_w]
          rfl
         refine pure_ (i := 4) (N := some 40) (v := ?_) (a' := ?_) #[true, true, true, true, true, false, false, false, false, false, false, false, false, false, false, false, false, false, false, false, false, false] rfl rfl (any_of HT_.out q13_) (fun _ _ _ h => h) (Or.inl ⟨q30_, ?_⟩) ?_ ?_
         rotate_left
         ·intro w'
          go_simp
          with_reducible rfl
         rotate_left
         ·simp only [Act.put, List.setIfInBounds_toArray, List.set_cons_zero, List.set_cons_succ, i64_w, i32_w]
          rfl
         refine pure_ (i := 7) (N := some 43) (v := ?_) (a' := ?_) #[true, true, true, true, true, false, false, true, false, false, false, false, false, false, false, false, false, false, false, false, false, false] rfl rfl (any_of HT_.out q13_) (fun _ _ _ h => h) (Or.inl ⟨q30_, ?_⟩) ?_ ?_
         rotate_left
         ·intro w'
          go_simp
          with_reducible rfl
         rotate_left
         ·simp only [Act.put, List.setIfInBounds_toArray, List.set_cons_zero, List.set_cons_succ, i64_w, i32_w]
          rfl
         refine pure_ (i := 8) (N := some 44) (v := ?_) (a' := ?_) #[true, true, true, true, true, false, false, true, true, false, false, false, false, false, false, false, false, false, false, false, false, false] rfl rfl (any_of HT_.out q13_) (fun _ _ _ h => h) (Or.inl ⟨q30_, ?_⟩) ?_ ?_
         rotate_left
         ·intro w'
          go_simp
          with_reducible rfl
         rotate_left
         ·simp only [Act.put, List.setIfInBounds_toArray, List.set_cons_zero, List.set_cons_succ, i64_w, i32_w]
          rfl
         refine pure_ (i := 9) (N := some 45) (v := ?_) (a' := ?_) #[true, true, true, true, true, false, false, true, true, true, false, false, false, false, false, false, false, false, false, false, false, false] rfl rfl (any_of HT_.out q13_) (fun _ _ _ h => h) (Or.inl ⟨q30_, ?_⟩) ?_ ?_
         rotate_left
         ·intro w'
          go_simp
          with_reducible rfl
         rotate_left
         ·simp only [Act.put, List.setIfInBounds_toArray, List.set_cons_zero, List.set_cons_succ, i64_w, i32_w]
          rfl
         refine pure_ (i := 10) (N := some 46) (v := ?_) (a' := ?_) #[true, true, true, true, true, false, false, true, true, true, true, false, false, false, false, false, false, false, false, false, false, false] rfl rfl (any_of HT_.out q13_) (fun _ _ _ h => h) (Or.inl ⟨q30_, ?_⟩) ?_ ?_
         rotate_left
         ·intro w'
          go_simp
          with_reducible rfl
         rotate_left
         ·simp only [Act.put, List.setIfInBounds_toArray, List.set_cons_zero, List.set_cons_succ, i64_w, i32_w]
          rfl
         refine pure_ (i := 13) (N := some 49) (v := ?_) (a' := ?_) #[true, true, true, true, true, false, false, true, true, true, true, false, false, true, false, false, false, false, false, false, false, false] rfl rfl (any_of HT_.out q13_) (fun _ _ _ h => h) (Or.inl ⟨q30_, ?_⟩) ?_ ?_
         rotate_left
         ·intro w'
          go_simp
          with_reducible rfl
         rotate_left
         ·simp only [Act.put, List.setIfInBounds_toArray, List.set_cons_zero, List.set_cons_succ, i64_w, i32_w]
          rfl
         refine pure_ (i := 14) (N := some 50) (v := ?_) (a' := ?_) #[true, true, true, true, true, false, false, true, true, true, true, false, false, true, true, false, false, false, false, false, false, false] rfl rfl (any_of HT_.out q13_) (fun _ _ _ h => h) (Or.inl ⟨q30_, ?_⟩) ?_ ?_
         rotate_left
         ·intro w'
          go_simp
          with_reducible rfl
         rotate_left
         ·simp only [Act.put, List.setIfInBounds_toArray, List.set_cons_zero, List.set_cons_succ, i64_w, i32_w]
          rfl
         refine pure_ (i := 15) (N := some 51) (v := ?_) (a' := ?_) #[true, true, true, true, true, false, false, true, true, true, true, false, false, true, true, true, false, false, false, false, false, false] rfl rfl (any_of HT_.out q13_) (fun _ _ _ h => h) (Or.inl ⟨q30_, ?_⟩) ?_ ?_
         rotate_left
         ·intro w'
          go_simp
          with_reducible rfl
         rotate_left
         ·simp only [Act.put, List.setIfInBounds_toArray, List.set_cons_zero, List.set_cons_succ, i64_w, i32_w]
          rfl
         refine pure_ (i := 16) (N := some 52) (v := ?_) (a' := ?_) #[true, true, true, true, true, false, false, true, true, true, true, false, false, true, true, true, true, false, false, false, false, false] rfl rfl (any_of HT_.out q13_) (fun _ _ _ h => h) (Or.inl ⟨q30_, ?_⟩) ?_ ?_
         rotate_left
         ·intro w'
          go_simp
          with_reducible rfl
         rotate_left
         ·simp only [Act.put, List.setIfInBounds_toArray, List.set_cons_zero, List.set_cons_succ, i64_w, i32_w]
          rfl
         refine take_ (i := 5) (N := some 41) (v := ?_) (a' := ?_) #[true, true, true, true, true, true, false, true, true, true, true, false, false, true, true, true, true, false, false, false, false, false] rfl rfl (take_ofW HT_.out HW_.out q13_) (fun _ _ _ h => h) (Or.inl ⟨q30_, ?_⟩) hHeld ?_ ?_
         rotate_left
         ·rintro w' ⟨s0, s1, s2, s3, s4, s5, s6, s7, s8⟩
          go_simp
          with_reducible rfl
         rotate_left
         ·simp only [Act.put, List.setIfInBounds_toArray, List.set_cons_zero, List.set_cons_succ, i64_w, i32_w]
          rfl
         refine take_ (i := 11) (N := some 47) (v := ?_) (a' := ?_) #[true, true, true, true, true, true, false, true, true, true, true, true, false, true, true, true, true, false, false, false, false, false] rfl rfl (take_ofW HT_.out HW_.out q13_) (fun _ _ _ h => h) (Or.inl ⟨q30_, ?_⟩) hHeld ?_ ?_
         rotate_left
         ·rintro w' ⟨s0, s1, s2, s3, s4, s5, s6, s7, s8⟩
          go_simp
          with_reducible rfl
         rotate_left
         ·simp only [Act.put, List.setIfInBounds_toArray, List.set_cons_zero, List.set_cons_succ, i64_w, i32_w]
          rfl
         refine take_ (i := 17) (N := some 53) (v := ?_) (a' := ?_) #[true, true, true, true, true, true, false, true, true, true, true, true, false, true, true, true, true, true, false, false, false, false] rfl rfl (take_ofW HT_.out HW_.out q13_) (fun _ _ _ h => h) (Or.inl ⟨q30_, ?_⟩) hHeld ?_ ?_
         rotate_left
         ·rintro w' ⟨s0, s1, s2, s3, s4, s5, s6, s7, s8⟩
          go_simp
          with_reducible rfl
         rotate_left
         ·simp only [Act.put, List.setIfInBounds_toArray, List.set_cons_zero, List.set_cons_succ, i64_w, i32_w]
          rfl
         refine one_ (i := 6) (N := some 42) #[true, true, true, true, true, true, true, true, true, true, true, true, false, true, true, true, true, true, false, false, false, false] rfl rfl (one_of HT_.out q13_) q14_ (fun K hK => ?_)
         refine goes_ Tryd.func15 q13_ rfl #[.string ((rd_T25 l0 x10_1).f0)] q30_ rfl rfl q42_ ?_
         with_reducible refine (rosterlaw22_short.calls ((rd_T25 l0 x10_1).f0) t174 _ A10.out).mono ?_
         rintro e w' ⟨rfl, ⟨nd, rfl⟩⟩
         refine ⟨_, rfl, ?_⟩
         refine hK.out _ _ ⟨((HB.out.cell (World.block_lt_of_cell? w _ hw173_0)).trans hw173_0), ((HB.out.cell (World.block_lt_of_cell? w _ hw173_1)).trans hw173_1), ((HB.out.cell (World.block_lt_of_cell? w _ hw173_2)).trans hw173_2), ((HB.out.cell (World.block_lt_of_cell? w _ hw175_0)).trans hw175_0), ((HB.out.cell (World.block_lt_of_cell? w _ hw175_1)).trans hw175_1), ((HB.out.cell (World.block_lt_of_cell? w _ hw175_2)).trans hw175_2), ((HB.out.cell (World.block_lt_of_cell? w _ hw177_0)).trans hw177_0), ((HB.out.cell (World.block_lt_of_cell? w _ hw177_1)).trans hw177_1), ((HB.out.cell (World.block_lt_of_cell? w _ hw177_2)).trans hw177_2)⟩ (fun hHeld => ?_)
         clear hK K
         refine norm_ (a' := ?_) ?_ ?_
         rotate_left
         ·show Act.put _ (some 42) _ = _
          simp only [Act.put, List.setIfInBounds_toArray, List.set_cons_zero, List.set_cons_succ, i64_w, i32_w]
          rfl
         refine one_ (i := 12) (N := some 48) #[true, true, true, true, true, true, true, true, true, true, true, true, true, true, true, true, true, true, false, false, false, false] rfl rfl (one_of HT_.out q13_) q14_ (fun K hK => ?_)
         refine goes_ Tryd.func15 q13_ rfl #[.string ((rd_T25 l0 x10_1).f1)] q30_ rfl rfl q42_ ?_
         with_reducible refine (rosterlaw22_short.calls ((rd_T25 l0 x10_1).f1) t176 _ A11.out).mono ?_
         rintro e w' ⟨rfl, ⟨nd, rfl⟩⟩
         refine ⟨_, rfl, ?_⟩
         refine hK.out _ _ ⟨((HB.out.cell (World.block_lt_of_cell? w _ hw173_0)).trans hw173_0), ((HB.out.cell (World.block_lt_of_cell? w _ hw173_1)).trans hw173_1), ((HB.out.cell (World.block_lt_of_cell? w _ hw173_2)).trans hw173_2), ((HB.out.cell (World.block_lt_of_cell? w _ hw175_0)).trans hw175_0), ((HB.out.cell (World.block_lt_of_cell? w _ hw175_1)).trans hw175_1), ((HB.out.cell (World.block_lt_of_cell? w _ hw175_2)).trans hw175_2), ((HB.out.cell (World.block_lt_of_cell? w _ hw177_0)).trans hw177_0), ((HB.out.cell (World.block_lt_of_cell? w _ hw177_1)).trans hw177_1), ((HB.out.cell (World.block_lt_of_cell? w _ hw177_2)).trans hw177_2)⟩ (fun hHeld => ?_)
         clear hK K
         refine norm_ (a' := ?_) ?_ ?_
         rotate_left
         ·show Act.put _ (some 48) _ = _
          simp only [Act.put, List.setIfInBounds_toArray, List.set_cons_zero, List.set_cons_succ, i64_w, i32_w]
          rfl
         refine pure_ (i := 18) (N := some 54) (v := ?_) (a' := ?_) #[true, true, true, true, true, true, true, true, true, true, true, true, true, true, true, true, true, true, true, false, false, false] rfl rfl (any_of HT_.out q13_) (fun _ _ _ h => h) (Or.inl ⟨q30_, ?_⟩) ?_ ?_
         rotate_left
         ·intro w'
          go_simp
          with_reducible rfl
         rotate_left
         ·simp only [Act.put, List.setIfInBounds_toArray, List.set_cons_zero, List.set_cons_succ, i64_w, i32_w]
          rfl
         refine one_ (i := 19) (N := some 55) #[true, true, true, true, true, true, true, true, true, true, true, true, true, true, true, true, true, true, true, true, false, false] rfl rfl (one_of HT_.out q13_) q14_ (fun K hK => ?_)
         refine value_ (w1 := ?_) (v := ?_) q30_ rfl ?_ ?_
         rotate_left 2
         ·go_simp
          constructor
          ·rfl
          ·rfl
         refine hK.out _ _ ⟨(World.cell?_alloc_lt _ _ _ (World.block_lt_of_cell? _ _ (((HB.out.cell (World.block_lt_of_cell? w _ hw173_0)).trans hw173_0)))).trans (((HB.out.cell (World.block_lt_of_cell? w _ hw173_0)).trans hw173_0)), (World.cell?_alloc_lt _ _ _ (World.block_lt_of_cell? _ _ (((HB.out.cell (World.block_lt_of_cell? w _ hw173_1)).trans hw173_1)))).trans (((HB.out.cell (World.block_lt_of_cell? w _ hw173_1)).trans hw173_1)), (World.cell?_alloc_lt _ _ _ (World.block_lt_of_cell? _ _ (((HB.out.cell (World.block_lt_of_cell? w _ hw173_2)).trans hw173_2)))).trans (((HB.out.cell (World.block_lt_of_cell? w _ hw173_2)).trans hw173_2)), (World.cell?_alloc_lt _ _ _ (World.block_lt_of_cell? _ _ (((HB.out.cell (World.block_lt_of_cell? w _ hw175_0)).trans hw175_0)))).trans (((HB.out.cell (World.block_lt_of_cell? w _ hw175_0)).trans hw175_0)), (World.cell?_alloc_lt _ _ _ (World.block_lt_of_cell? _ _ (((HB.out.cell (World.block_lt_of_cell? w _ hw175_1)).trans hw175_1)))).trans (((HB.out.cell (World.block_lt_of_cell? w _ hw175_1)).trans hw175_1)), (World.cell?_alloc_lt _ _ _ (World.block_lt_of_cell? _ _ (((HB.out.cell (World.block_lt_of_cell? w _ hw175_2)).trans hw175_2)))).trans (((HB.out.cell (World.block_lt_of_cell? w _ hw175_2)).trans hw175_2)), (World.cell?_alloc_lt _ _ _ (World.block_lt_of_cell? _ _ (((HB.out.cell (World.block_lt_of_cell? w _ hw177_0)).trans hw177_0)))).trans (((HB.out.cell (World.block_lt_of_cell? w _ hw177_0)).trans hw177_0)), (World.cell?_alloc_lt _ _ _ (World.block_lt_of_cell? _ _ (((HB.out.cell (World.block_lt_of_cell? w _ hw177_1)).trans hw177_1)))).trans (((HB.out.cell (World.block_lt_of_cell? w _ hw177_1)).trans hw177_1)), (World.cell?_alloc_lt _ _ _ (World.block_lt_of_cell? _ _ (((HB.out.cell (World.block_lt_of_cell? w _ hw177_2)).trans hw177_2)))).trans (((HB.out.cell (World.block_lt_of_cell? w _ hw177_2)).trans hw177_2))⟩ (fun hHeld => ?_)
         clear hK K
         refine norm_ (a' := ?_) ?_ ?_
         rotate_left
         ·show Act.put _ (some 55) _ = _
          simp only [Act.put, List.setIfInBounds_toArray, List.set_cons_zero, List.set_cons_succ, i64_w, i32_w]
          rfl
         refine one_ (i := 20) (N := some 56) #[true, true, true, true, true, true, true, true, true, true, true, true, true, true, true, true, true, true, true, true, true, false] rfl rfl (one_of HT_.out q13_) q14_ (fun K hK => ?_)
         refine Kd.R_append_step k25 (w0 := w) w.heap.size q30_ (.tmp 36) (.tmp 55) 22 25 (.agg #[(.string ⟨#[]⟩), (.string ⟨#[]⟩), (.bool false)]) 40 rfl Tryd.underlying22 info25 rfl q14_ q2_ u9 x9_1 (⟨t174, t176, (rd_T25 l0 x10_1).f2⟩ : S25) [.string t174, .string t176, .bool ((rd_T25 l0 x10_1).f2)] (fun _ => True) (fun _ => False) rfl rfl ?aP (fun _ hk => hk.elim) ?aF ?aO ?aB ?aS ?aL ?_
         (case aP => exact k25_mkM _ _ _ (⟨t174, t176, (rd_T25 l0 x10_1).f2⟩ : S25))
         (case aB => exact q1_)
         (case aF => exact (fun _ _ => trivial))
         (case aO => exact q11_)
         (case aS => exact (below_size q1_))
         (case aL => have := LMc12.out; omega)
         intro v179 w14 ho hb hg hat
         rw [← Ny178.out] at ho
         have n0_ := Aside0.mk (hb)
         have n1_ := Aside0.mk (ho)
         clear HB
         clear HO_9
         have HB := n0_
         have HO180 := n1_
         clear n0_ n1_
         clear ho hb hg hat
         refine hK.out _ _ ⟨((HB.out.cell (World.block_lt_of_cell? w _ hw173_0)).trans hw173_0), ((HB.out.cell (World.block_lt_of_cell? w _ hw173_1)).trans hw173_1), ((HB.out.cell (World.block_lt_of_cell? w _ hw173_2)).trans hw173_2), ((HB.out.cell (World.block_lt_of_cell? w _ hw175_0)).trans hw175_0), ((HB.out.cell (World.block_lt_of_cell? w _ hw175_1)).trans hw175_1), ((HB.out.cell (World.block_lt_of_cell? w _ hw175_2)).trans hw175_2), ((HB.out.cell (World.block_lt_of_cell? w _ hw177_0)).trans hw177_0), ((HB.out.cell (World.block_lt_of_cell? w _ hw177_1)).trans hw177_1), ((HB.out.cell (World.block_lt_of_cell? w _ hw177_2)).trans hw177_2)⟩ (fun hHeld => ?_)
         clear hK K
         refine norm_ (a' := ?_) ?_ ?_
         rotate_left
         ·show Act.put _ (some 56) _ = _
          simp only [Act.put, List.setIfInBounds_toArray, List.set_cons_zero, List.set_cons_succ, i64_w, i32_w]
          rfl
         refine pure_ (i := 21) (N := some 9) (v := ?_) (a' := ?_) #[true, true, true, true, true, true, true, true, true, true, true, true, true, true, true, true, true, true, true, true, true, true] rfl rfl (any_of HT_.out q13_) (fun _ _ _ h => h) (Or.inl ⟨q30_, ?_⟩) ?_ ?_
         rotate_left
         ·intro w'
          go_simp
          with_reducible rfl
         rotate_left
         ·simp only [Act.put, List.setIfInBounds_toArray, List.set_cons_zero, List.set_cons_succ, i64_w, i32_w]
          rfl
         refine done_ (done_of HT_.out q13_) ?_
         try go_wp2
         go_roundg kj4
         case measure => have := HK1.out; have := HJ4.out; omega
         case rel => exact ⟨(y178), (wrap64 (x10_1 + 1)), q3_, H', ⟨by have := HK1.out; have := HJ4.out; omega⟩, ⟨by (with_reducible repeat (first | apply Kd.R_alloc | apply Kd.R_drewN | apply Kd.R_drew)); exact HO180.out⟩, ⟨q1_⟩⟩
        ·rw [if_neg c12] at H
         exact absurd H q21_
       ·rw [if_neg c9] at H
        exact absurd H q21_
      ·rw [if_neg c8] at H
       exact absurd H q21_
     ·replace c7 := Bool.eq_false_iff.mpr c7
      subst c7
      have H1 : ((rosterlaw22_short.f a2).bind fun t181 => (rosterlaw22_ViewRounds.l1 kj4 a1 t181 a3 x9_1 true 0)) = some r := by rw [if_neg (show ¬ (false = true) by decide)] at H; exact H
      clear H
      have H := H1
      clear H1
      replace H := Option.bind_eq_some_iff.mp H
      obtain ⟨t181, A150, H⟩ := H
      replace H : (rosterlaw22_ViewRounds.l1 kj4 a1 t181 a3 x9_1 true 0) = some r := H
      have A15 := Aside0.mk A150
      clear A150
      have H' := Aside0.mk H
      clear H
      go_wp2_with (first | ((with_reducible refine gate_callee (f := 15) rfl ?_); refine goesL_ (some 58) rfl rfl Tryd.func15 q13_ rfl #[.string a2] rfl q42_ ?_; (with_reducible refine (rosterlaw22_short.calls a2 t181 _ A15.out).mono ?_); rintro e w' ⟨rfl, ⟨nd, rfl⟩⟩; refine ⟨_, rfl, ?_⟩))
      go_loopg [11, 12] kj4 (fun kq v11 v12 w' => ∃ (x11_3 : Bool) (x12_3 : Int), v11 = .bool x11_3 ∧ v12 = .int .i64 x12_3 ∧ Aside0 (rosterlaw22_ViewRounds.l1 kq a1 t181 a3 x9_1 x11_3 x12_3 = some r) ∧ Aside0 (kq ≤ kj4) ∧ Aside0 (Kd.R k25 25 w' w.heap.size (fun _ => True) u9 x9_1) ∧ Aside0 (Below w.heap.size w w'))
      case atStart => exact ⟨(true), (0), q3_, q3_, H', ⟨Nat.le_refl _⟩, ⟨q11_⟩, ⟨q1_⟩⟩
      case round =>
       clear H'
       try clear c1
       try clear p1
       try clear q1
       try clear hx1
       try clear p2
       try clear c4
       try clear c6
       try clear c6b0
       try clear p6
       try clear c7
       try clear c8
       try clear c8b0
       try clear c9
       try clear c9b0
       try clear c12
       try clear c15
       try clear hx173_0
       try clear hx173_1
       try clear hx173_2
       try clear hx175_0
       try clear hx175_1
       try clear hx175_2
       try clear hx177_0
       try clear hx177_1
       try clear hx177_2
       try clear p173
       try clear p175
       try clear p177
       try clear p2
       try clear q173
       try clear q175
       try clear q177
       obtain ⟨x11_3, x12_3, rfl, rfl, HA, HK3, HO_9, HB⟩ := hrel
       cases gk with
       | zero => exact absurd HA.out (by simp [rosterlaw22_ViewRounds.l1])
       | succ k3 =>
        have H := HA.out
        clear HA
        simp only [rosterlaw22_ViewRounds.l1] at H
        by_cases c16 : x12_3 < (x9_1.length : Int)
        ·rw [if_pos c16] at H
         have c16b0 : decide (x12_3 < (x9_1.length : Int)) = true := decide_eq_true c16
         clear c16
         by_cases c17 : 0 ≤ x12_3
         ·rw [if_pos c17] at H
          have c17b0 : decide (0 ≤ x12_3) = true := decide_eq_true c17
          clear c17
          replace H := Option.bind_eq_some_iff.mp H
          obtain ⟨⟨t183, t184⟩, A180, H⟩ := H
          replace H : ((rosterref01_Check.f ((rd_T25 x9_1 x12_3).f1)).bind fun bt186 => (if x11_3 = true then (if t183 = 0 then (rosterlaw22_ViewRounds.l1 k3 a1 t181 a3 x9_1 (bt186.1 == 0) (wrap64 (x12_3 + 1))) else (rosterlaw22_ViewRounds.l1 k3 a1 t181 a3 x9_1 false (wrap64 (x12_3 + 1)))) else (rosterlaw22_ViewRounds.l1 k3 a1 t181 a3 x9_1 false (wrap64 (x12_3 + 1))))) = some r := H
          have A18 := Aside0.mk A180
          clear A180
          replace H := Option.bind_eq_some_iff.mp H
          obtain ⟨⟨t186, t187⟩, A190, H⟩ := H
          replace H : (if x11_3 = true then (if t183 = 0 then (rosterlaw22_ViewRounds.l1 k3 a1 t181 a3 x9_1 (t186 == 0) (wrap64 (x12_3 + 1))) else (rosterlaw22_ViewRounds.l1 k3 a1 t181 a3 x9_1 false (wrap64 (x12_3 + 1)))) else (rosterlaw22_ViewRounds.l1 k3 a1 t181 a3 x9_1 false (wrap64 (x12_3 + 1)))) = some r := H
          have A19 := Aside0.mk A190
          clear A190
          by_cases c20 : x11_3 = true
          ·subst c20
           have H1 : (if t183 = 0 then (rosterlaw22_ViewRounds.l1 k3 a1 t181 a3 x9_1 (t186 == 0) (wrap64 (x12_3 + 1))) else (rosterlaw22_ViewRounds.l1 k3 a1 t181 a3 x9_1 false (wrap64 (x12_3 + 1)))) = some r := by rw [if_pos rfl] at H; exact H
           clear H
           have H := H1
           clear H1
           by_cases c21 : t183 = 0
           ·rw [if_pos c21] at H
            have c21b0 : (t183 == 0) = true := beq_iff_eq.mpr c21
            have c21b1 : (t183 != 0) = false := bne_eq_false_iff_eq.mpr c21
            clear c21
            have H' := Aside0.mk H
            clear H
            obtain ⟨Ao22, co22, eo22⟩ := Kd.R_slice HO_9.out
            subst eo22
            have p182 : 0 ≤ (x12_3 : Int) := of_decide_eq_true q4_
            have q182 : x12_3 < (x9_1.length : Int) := of_decide_eq_true q4_
            obtain ⟨ad182, e182, hx182_0, hx182_1, hx182_2⟩ := at_T25 (Kd.R_reads' HO_9.out).2.2 x12_3 p182 q182
            cases e182
            replace p182 := eq_true p182
            replace q182 := eq_true q182
            go_wp2_with (first | ((with_reducible refine gate_callee (f := 16) rfl ?_); refine goesL_ (some 71) rfl rfl Tryd.func16 q13_ rfl #[.string ((rd_T25 x9_1 x12_3).f0)] rfl q42_ ?_; (with_reducible refine (rosterref01_Check.calls ((rd_T25 x9_1 x12_3).f0) t183 t184 _ A18.out ?sideT).mono ?_); (case sideT => exact HTB.out.at q43_); rintro e w' ⟨rfl, ⟨nd, rfl⟩⟩; refine ⟨_, rfl, ?_⟩; have p185 : 0 ≤ (x12_3 : Int) := of_decide_eq_true q4_; have q185 : x12_3 < (x9_1.length : Int) := of_decide_eq_true q4_; obtain ⟨ad185, e185, hx185_0, hx185_1, hx185_2⟩ := at_T25 (Kd.R_reads' HO_9.out).2.2 x12_3 p185 q185; obtain rfl : ad182 = ad185 := (by injection e185); replace p185 := eq_true p185; replace q185 := eq_true q185) | ((with_reducible refine gate_callee (f := 16) rfl ?_); refine goesL_ (some 80) rfl rfl Tryd.func16 q13_ rfl #[.string ((rd_T25 x9_1 x12_3).f1)] rfl q42_ ?_; (with_reducible refine (rosterref01_Check.calls ((rd_T25 x9_1 x12_3).f1) t186 t187 _ A19.out ?sideT).mono ?_); (case sideT => exact HTB.out.at q43_); rintro e w' ⟨rfl, ⟨nd, rfl⟩⟩; refine ⟨_, rfl, ?_⟩))
            go_roundg k3
            case measure => have := HK1.out; have := HJ4.out; have := HK3.out; omega
            case rel => exact ⟨((t186 == 0)), (wrap64 (x12_3 + 1)), q3_, q3_, H', ⟨q41_⟩, ⟨q11_⟩, ⟨q1_⟩⟩
           ·rw [if_neg c21] at H
            have c21b0 : (t183 == 0) = false := beq_eq_false_iff_ne.mpr c21
            have c21b1 : (t183 != 0) = true := bne_iff_ne.mpr c21
            have H' := Aside0.mk H
            clear H
            obtain ⟨Ao23, co23, eo23⟩ := Kd.R_slice HO_9.out
            subst eo23
            have p182 : 0 ≤ (x12_3 : Int) := of_decide_eq_true q4_
            have q182 : x12_3 < (x9_1.length : Int) := of_decide_eq_true q4_
            obtain ⟨ad182, e182, hx182_0, hx182_1, hx182_2⟩ := at_T25 (Kd.R_reads' HO_9.out).2.2 x12_3 p182 q182
            cases e182
            replace p182 := eq_true p182
            replace q182 := eq_true q182
            go_wp2_with (first | ((with_reducible refine gate_callee (f := 16) rfl ?_); refine goesL_ (some 71) rfl rfl Tryd.func16 q13_ rfl #[.string ((rd_T25 x9_1 x12_3).f0)] rfl q42_ ?_; (with_reducible refine (rosterref01_Check.calls ((rd_T25 x9_1 x12_3).f0) t183 t184 _ A18.out ?sideT).mono ?_); (case sideT => exact HTB.out.at q43_); rintro e w' ⟨rfl, ⟨nd, rfl⟩⟩; refine ⟨_, rfl, ?_⟩; have p185 : 0 ≤ (x12_3 : Int) := of_decide_eq_true q4_; have q185 : x12_3 < (x9_1.length : Int) := of_decide_eq_true q4_; obtain ⟨ad185, e185, hx185_0, hx185_1, hx185_2⟩ := at_T25 (Kd.R_reads' HO_9.out).2.2 x12_3 p185 q185; obtain rfl : ad182 = ad185 := (by injection e185); replace p185 := eq_true p185; replace q185 := eq_true q185) | ((with_reducible refine gate_callee (f := 16) rfl ?_); refine goesL_ (some 80) rfl rfl Tryd.func16 q13_ rfl #[.string ((rd_T25 x9_1 x12_3).f1)] rfl q42_ ?_; (with_reducible refine (rosterref01_Check.calls ((rd_T25 x9_1 x12_3).f1) t186 t187 _ A19.out ?sideT).mono ?_); (case sideT => exact HTB.out.at q43_); rintro e w' ⟨rfl, ⟨nd, rfl⟩⟩; refine ⟨_, rfl, ?_⟩))
            go_roundg k3
            case measure => have := HK1.out; have := HJ4.out; have := HK3.out; omega
            case rel => exact ⟨(false), (wrap64 (x12_3 + 1)), q3_, q3_, H', ⟨q41_⟩, ⟨q11_⟩, ⟨q1_⟩⟩
          ·replace c20 := Bool.eq_false_iff.mpr c20
           subst c20
           have H1 : (rosterlaw22_ViewRounds.l1 k3 a1 t181 a3 x9_1 false (wrap64 (x12_3 + 1))) = some r := by rw [if_neg (show ¬ (false = true) by decide)] at H; exact H
           clear H
           have H := H1
           clear H1
           have H' := Aside0.mk H
           clear H
           obtain ⟨Ao24, co24, eo24⟩ := Kd.R_slice HO_9.out
           subst eo24
           have p182 : 0 ≤ (x12_3 : Int) := of_decide_eq_true q4_
           have q182 : x12_3 < (x9_1.length : Int) := of_decide_eq_true q4_
           obtain ⟨ad182, e182, hx182_0, hx182_1, hx182_2⟩ := at_T25 (Kd.R_reads' HO_9.out).2.2 x12_3 p182 q182
           cases e182
           replace p182 := eq_true p182
           replace q182 := eq_true q182
           go_wp2_with (first | ((with_reducible refine gate_callee (f := 16) rfl ?_); refine goesL_ (some 71) rfl rfl Tryd.func16 q13_ rfl #[.string ((rd_T25 x9_1 x12_3).f0)] rfl q42_ ?_; (with_reducible refine (rosterref01_Check.calls ((rd_T25 x9_1 x12_3).f0) t183 t184 _ A18.out ?sideT).mono ?_); (case sideT => exact HTB.out.at q43_); rintro e w' ⟨rfl, ⟨nd, rfl⟩⟩; refine ⟨_, rfl, ?_⟩; have p185 : 0 ≤ (x12_3 : Int) := of_decide_eq_true q4_; have q185 : x12_3 < (x9_1.length : Int) := of_decide_eq_true q4_; obtain ⟨ad185, e185, hx185_0, hx185_1, hx185_2⟩ := at_T25 (Kd.R_reads' HO_9.out).2.2 x12_3 p185 q185; obtain rfl : ad182 = ad185 := (by injection e185); replace p185 := eq_true p185; replace q185 := eq_true q185) | ((with_reducible refine gate_callee (f := 16) rfl ?_); refine goesL_ (some 80) rfl rfl Tryd.func16 q13_ rfl #[.string ((rd_T25 x9_1 x12_3).f1)] rfl q42_ ?_; (with_reducible refine (rosterref01_Check.calls ((rd_T25 x9_1 x12_3).f1) t186 t187 _ A19.out ?sideT).mono ?_); (case sideT => exact HTB.out.at q43_); rintro e w' ⟨rfl, ⟨nd, rfl⟩⟩; refine ⟨_, rfl, ?_⟩))
           go_roundg k3
           case measure => have := HK1.out; have := HJ4.out; have := HK3.out; omega
           case rel => exact ⟨(false), (wrap64 (x12_3 + 1)), q3_, q3_, H', ⟨q41_⟩, ⟨q11_⟩, ⟨q1_⟩⟩
         ·rw [if_neg c17] at H
          exact absurd H q21_
        ·rw [if_neg c16] at H
         have c16b0 : decide (x12_3 < (x9_1.length : Int)) = false := decide_eq_false c16
         clear c16
         replace H := Option.bind_eq_some_iff.mp H
         obtain ⟨⟨t188, t189⟩, A250, H⟩ := H
         replace H : (if x11_3 = true then (rosterlaw22_ViewRounds.j3 k3 a1 t181 a3 x9_1 x11_3 t188 t189 false) else (if t189 = 224 then (rosterlaw22_ViewRounds.j3 k3 a1 t181 a3 x9_1 x11_3 t188 t189 (t188.toList != ([] : List UInt8))) else (rosterlaw22_ViewRounds.j3 k3 a1 t181 a3 x9_1 x11_3 t188 t189 true))) = some r := H
         have A25 := Aside0.mk A250
         clear A250
         have HC26 := Aside0.mk H
         clear H
         obtain ⟨Ao27, co27, eo27⟩ := Kd.R_slice HO_9.out
         subst eo27
         go_upto_region 15 with (first | ((with_reducible refine gate_callee (f := 7) rfl ?_); refine goesL_ (some 94) rfl rfl Tryd.func7 q13_ rfl #[.slice Ao27 x9_1.length co27] rfl q42_ ?_; (with_reducible refine (view_EncodeKeys.calls k3 _ _ x9_1 t188 t189 _ ?side1 ?side2 A25.out).mono ?_); (case side1 => repeat (first | exact (Kd.R_reads' HO_9.out).2.2 | (with_reducible refine Kd.C_alloc ?_ _) | (with_reducible refine Kd.C_drewN ?_ _) | (with_reducible refine Kd.C_drew ?_))); (case side2 => exact (Kd.R_reads' HO_9.out).2.1); rintro e w28 ⟨rfl, hb⟩; refine ⟨_, rfl, ?_⟩; have n0_ := Aside0.mk (Kd.R_below q11_ hb); have n1_ := Aside0.mk (below_step q1_ hb); clear HO_9; clear HB; have HO_9 := n0_; have HB := n1_; clear n0_ n1_; (try clear hb); (try clear hb2); (try clear hk); (try clear hi)))
         (try simp only [Act.put, List.setIfInBounds_toArray, List.set_cons_zero, List.set_cons_succ])
         go_cut [106] (fun v106 wc => ∃ (kq : Nat) (x106_25 : Bool), v106 = .bool x106_25 ∧ Aside0 (rosterlaw22_ViewRounds.j3 kq a1 t181 a3 x9_1 x11_3 t188 t189 x106_25 = some r) ∧ Aside0 (kq ≤ k3) ∧ Aside0 (Kd.R k25 25 wc w.heap.size (fun _ => True) (.slice Ao27 x9_1.length co27) x9_1) ∧ Aside0 (Below w.heap.size w wc))
         case first =>
          have H := HC26.out
          clear HC26
          by_cases c29 : x11_3 = true
          ·subst c29
           have H1 : (rosterlaw22_ViewRounds.j3 k3 a1 t181 a3 x9_1 true t188 t189 false) = some r := by rw [if_pos rfl] at H; exact H
           clear H
           have H := H1
           clear H1
           have H' := Aside0.mk H
           clear H
           go_wp2
           go_meet
           case rel => exact ⟨_, (false), q3_, H', ⟨q37_⟩, ⟨q11_⟩, ⟨q1_⟩⟩
          ·replace c29 := Bool.eq_false_iff.mpr c29
           subst c29
           have H1 : (if t189 = 224 then (rosterlaw22_ViewRounds.j3 k3 a1 t181 a3 x9_1 false t188 t189 (t188.toList != ([] : List UInt8))) else (rosterlaw22_ViewRounds.j3 k3 a1 t181 a3 x9_1 false t188 t189 true)) = some r := by rw [if_neg (show ¬ (false = true) by decide)] at H; exact H
           clear H
           have H := H1
           clear H1
           by_cases c30 : t189 = 224
           ·rw [if_pos c30] at H
            have c30b0 : (t189 == 224) = true := beq_iff_eq.mpr c30
            have c30b1 : (t189 != 224) = false := bne_eq_false_iff_eq.mpr c30
            clear c30
            (first | rw [c30b0] | rw [c30be] | (simp only [i64_w, i32_w]; rw [c30b0]) | skip)
            have H' := Aside0.mk H
            clear H
            go_wp2
            go_meet
            case rel => exact ⟨_, ((t188.toList != ([] : List UInt8))), q3_, H', ⟨q37_⟩, ⟨q11_⟩, ⟨q1_⟩⟩
           ·rw [if_neg c30] at H
            have c30b0 : (t189 == 224) = false := beq_eq_false_iff_ne.mpr c30
            have c30b1 : (t189 != 224) = true := bne_iff_ne.mpr c30
            (first | rw [c30b0] | rw [c30be] | (simp only [i64_w, i32_w]; rw [c30b0]) | skip)
            have H' := Aside0.mk H
            clear H
            go_wp2
            go_meet
            case rel => exact ⟨_, (true), q3_, H', ⟨q37_⟩, ⟨q11_⟩, ⟨q1_⟩⟩
         case rest => as_aux_lemma =>
          clear HC26
          try clear c1
          try clear p1
          try clear q1
          try clear hx1
          try clear c2
          try clear p2
          try clear c3
          try clear c4
          try clear c6
          try clear c6b0
          try clear p6
          try clear c7
          try clear c8
          try clear c8b0
          try clear c9
          try clear c9b0
          try clear c12
          try clear c15
          try clear c16
          try clear c16b0
          try clear c17
          try clear c17b0
          try clear p17
          try clear q17
          try clear hx17
          try clear p18
          try clear q18
          try clear hx18
          try clear c20
          try clear c21
          try clear c21b0
          try clear c21b1
          try clear c29
          try clear c30
          try clear c30b0
          try clear c30b1
          try clear hx173_0
          try clear hx173_1
          try clear hx173_2
          try clear hx175_0
          try clear hx175_1
          try clear hx175_2
          try clear hx177_0
          try clear hx177_1
          try clear hx177_2
          try clear hx182_0
          try clear hx182_1
          try clear hx182_2
          try clear hx185_0
          try clear hx185_1
          try clear hx185_2
          try clear p1
          try clear p173
          try clear p175
          try clear p177
          try clear p182
          try clear p185
          try clear p2
          try clear p6
          try clear q1
          try clear q173
          try clear q175
          try clear q177
          try clear q182
          try clear q185
          obtain ⟨kq, x106_25, rfl, HA, HJ25, HO_9, HB⟩ := hcut
          cases kq with
          | zero => exact absurd HA.out (by simp [rosterlaw22_ViewRounds.j3])
          | succ kj25 =>
           have H := HA.out
           clear HA
           simp only [rosterlaw22_ViewRounds.j3] at H
           by_cases c31 : x106_25 = true
           ·subst c31
            have H1 : (some false) = some r := by rw [if_pos rfl] at H; exact H
            exact absurd ((Option.some.inj H1).trans HRT.out) q14_
           ·replace c31 := Bool.eq_false_iff.mpr c31
            subst c31
            have H1 : (if x11_3 = true then (rosterlaw22_ViewRounds.j4 kj25 a1 t181 a3 x9_1 t188 t189) else ((view_EncodeKeys.f kj25 (([] : List (S25)))).bind fun bt193 => (rosterlaw22_ViewRounds.j4 kj25 a1 t181 a3 ([] : List (S25)) bt193.1 bt193.2))) = some r := by rw [if_neg (show ¬ (false = true) by decide)] at H; exact H
            clear H
            have H := H1
            clear H1
            have HC32 := Aside0.mk H
            clear H
            go_upto_if 108 with (fail)
            go_cut [9, 17, 18] (fun v9 v17 v18 wc => ∃ (kq : Nat) (x9_31 : List (S25)) (x17_31 : ByteArray) (x18_31 : Int), v17 = .string x17_31 ∧ v18 = .int .i64 x18_31 ∧ Aside0 (rosterlaw22_ViewRounds.j4 kq a1 t181 a3 x9_31 x17_31 x18_31 = some r) ∧ Aside0 (kq ≤ kj25) ∧ Aside0 (Kd.R k25 25 wc w.heap.size (fun _ => True) v9 x9_31) ∧ Aside0 (Below w.heap.size w wc))
            case first =>
             have H := HC32.out
             clear HC32
             by_cases c33 : x11_3 = true
             ·subst c33
              have H1 : (rosterlaw22_ViewRounds.j4 kj25 a1 t181 a3 x9_1 t188 t189) = some r := by rw [if_pos rfl] at H; exact H
              clear H
              have H := H1
              clear H1
              have H' := Aside0.mk H
              clear H
              go_wp2
              go_meet
              case rel => exact ⟨_, (x9_1), (t188), (t189), q3_, q3_, H', ⟨by have := HK1.out; have := HJ4.out; have := HK3.out; have := HJ25.out; first | omega | exact Nat.le_refl _⟩, ⟨q11_⟩, ⟨q1_⟩⟩
             ·replace c33 := Bool.eq_false_iff.mpr c33
              subst c33
              have H1 : ((view_EncodeKeys.f kj25 (([] : List (S25)))).bind fun bt193 => (rosterlaw22_ViewRounds.j4 kj25 a1 t181 a3 ([] : List (S25)) bt193.1 bt193.2)) = some r := by rw [if_neg (show ¬ (false = true) by decide)] at H; exact H
              clear H
              have H := H1
              clear H1
              obtain ⟨y190, hy190⟩ : ∃ y_ : List (S25), y_ = (([] : List (S25))) := ⟨_, rfl⟩
              replace H : ((view_EncodeKeys.f kj25 y190).bind fun bt193 => (rosterlaw22_ViewRounds.j4 kj25 a1 t181 a3 ([] : List (S25)) bt193.1 bt193.2)) = some r := by first | (rw [hy190]; with_reducible exact H) | (have H2_ := (Option.bind_some _ _).symm.trans H; rw [hy190]; with_reducible exact H2_) | (have H2_ := (Option.bind_some _ _).symm.trans H; with_reducible exact H2_) | with_reducible exact H | (rw [hy190]; exact H) | exact H
              have Ny190 := Aside0.mk hy190
              clear hy190
              replace H := Option.bind_eq_some_iff.mp H
              obtain ⟨⟨t193, t194⟩, A340, H⟩ := H
              replace H : (rosterlaw22_ViewRounds.j4 kj25 a1 t181 a3 ([] : List (S25)) t193 t194) = some r := H
              have A34 := Aside0.mk A340
              clear A340
              have H' := Aside0.mk H
              clear H
              go_wp2_with (first | ((with_reducible refine gate_dst (N := 110) rfl ?_); refine Kd.R_lit k25 _ 25 ?hg (N := 110) ?hd (xs := ([] : List (S25))) (inner := []) (ok := fun _ => True) (okp := fun _ => True) ?hr ?hp (fun _ hk => hk) trivial (Below.refl _ _) (Nat.le_refl _) q21_ ?_; (case hd => rfl); (case hg => rfl); (case hr => first | (go_simp; done) | (go_simp; rfl)); (case hp => exact (Reps.none _ _)); intro v191 w35 ho36 hb hg_ hnew_; clear hg_ hnew_; (first | rw [← Ny190.out] at ho36 | (simp only [Int.reduceToNat] at ho36; rw [← Ny190.out] at ho36)); have n0_ := Aside0.mk (Kd.R_elder' q11_ (Kd.R_base ho36) hb); have n1_ := Aside0.mk (Kd.R_lower (Kd.R_new' ho36 (Kd.R_lt q11_)) (below_size q1_)); have n2_ := Aside0.mk (below_step q1_ hb); clear HO_9; clear HB; have HO_9 := n0_; have HO192 := n1_; have HB := n2_; clear n0_ n1_ n2_; clear hb ho36; obtain ⟨Ao37, co37, eo37⟩ := Kd.R_slice HO192.out; subst eo37) | ((with_reducible refine gate_callee (f := 7) rfl ?_); refine goesL_ (some 111) rfl rfl Tryd.func7 q13_ rfl #[.slice Ao37 y190.length co37] rfl q42_ ?_; (with_reducible refine (view_EncodeKeys.calls kj25 _ _ y190 t193 t194 _ ?side1 ?side2 A34.out).mono ?_); (case side1 => repeat (first | exact (Kd.R_reads' HO192.out).2.2 | (with_reducible refine Kd.C_alloc ?_ _) | (with_reducible refine Kd.C_drewN ?_ _) | (with_reducible refine Kd.C_drew ?_))); (case side2 => exact (Kd.R_reads' HO192.out).2.1); rintro e w38 ⟨rfl, hb⟩; refine ⟨_, rfl, ?_⟩; have n0_ := Aside0.mk (Kd.R_below q11_ hb); have n1_ := Aside0.mk (Kd.R_below (by (with_reducible repeat (first | apply Kd.R_alloc | apply Kd.R_drewN | apply Kd.R_drew)); exact HO192.out) hb); have n2_ := Aside0.mk (below_step q1_ hb); clear HO_9; clear HO192; clear HB; have HO_9 := n0_; have HO192 := n1_; have HB := n2_; clear n0_ n1_ n2_; (try clear hb); (try clear hb2); (try clear hk); (try clear hi)))
              go_meet
              case rel => exact ⟨_, (([] : List (S25))), (t193), (t194), q3_, q3_, H', ⟨by have := HK1.out; have := HJ4.out; have := HK3.out; have := HJ25.out; first | omega | exact Nat.le_refl _⟩, ⟨q35_⟩, ⟨q1_⟩⟩
            case rest => as_aux_lemma =>
             clear HC32
             try clear c1
             try clear p1
             try clear q1
             try clear hx1
             try clear c2
             try clear p2
             try clear c3
             try clear c4
             try clear c6
             try clear c6b0
             try clear p6
             try clear c7
             try clear c8
             try clear c8b0
             try clear c9
             try clear c9b0
             try clear c12
             try clear c15
             try clear c16
             try clear c16b0
             try clear c17
             try clear c17b0
             try clear p17
             try clear q17
             try clear hx17
             try clear p18
             try clear q18
             try clear hx18
             try clear c20
             try clear c21
             try clear c21b0
             try clear c21b1
             try clear c29
             try clear c30
             try clear c30b0
             try clear c30b1
             try clear c31
             try clear c33
             try clear hx173_0
             try clear hx173_1
             try clear hx173_2
             try clear hx175_0
             try clear hx175_1
             try clear hx175_2
             try clear hx177_0
             try clear hx177_1
             try clear hx177_2
             try clear hx182_0
             try clear hx182_1
             try clear hx182_2
             try clear hx185_0
             try clear hx185_1
             try clear hx185_2
             try clear p1
             try clear p17
             try clear p173
             try clear p175
             try clear p177
             try clear p18
             try clear p182
             try clear p185
             try clear p2
             try clear p6
             try clear q1
             try clear q17
             try clear q173
             try clear q175
             try clear q177
             try clear q18
             try clear q182
             try clear q185
             obtain ⟨kq, x9_31, x17_31, x18_31, rfl, rfl, HA, HJ31, HO_9, HB⟩ := hcut
             cases kq with
             | zero => exact absurd HA.out (by simp [rosterlaw22_ViewRounds.j4])
             | succ kj31 =>
              have H := HA.out
              clear HA
              simp only [rosterlaw22_ViewRounds.j4] at H
              replace H := Option.bind_eq_some_iff.mp H
              obtain ⟨⟨t195, t196⟩, A390, H⟩ := H
              replace H : (if x18_31 = 0 then (if t196 = 0 then (if x17_31.toList = ([] : List UInt8) then (rosterlaw22_ViewRounds.j5 kj31 a1 t181 a3 x17_31 true) else ((rosterlaw22_sameKeys.f kj31 t195 x9_31).bind fun t199 => (rosterlaw22_ViewRounds.j5 kj31 a1 t181 a3 x17_31 (!t199)))) else (rosterlaw22_ViewRounds.j5 kj31 a1 t181 a3 x17_31 true)) else (rosterlaw22_ViewRounds.j5 kj31 a1 t181 a3 x17_31 true)) = some r := H
              have A39 := Aside0.mk A390
              clear A390
              have HC40 := Aside0.mk H
              clear H
              go_upto_region 21 with (first | ((with_reducible refine gate_callee (f := 10) rfl ?_); refine goesL_ (some 116) rfl rfl Tryd.func10 q13_ rfl #[.string x17_31] rfl q42_ ?_; (with_reducible refine (view_DecodeKeys.calls x17_31 t195 t196 _ A39.out).mono ?_); rintro e w41 ⟨v197, rfl, ho0, hb⟩; refine ⟨_, rfl, ?_⟩; have n0_ := Aside0.mk (Kd.R_elder' q11_ (Kd.R_base ho0) hb); have n1_ := Aside0.mk (Kd.R_lower (Kd.R_new' ho0 (Kd.R_lt q11_)) (below_size q1_)); have n2_ := Aside0.mk (below_step q1_ hb); clear HO_9; clear HB; have HO_9 := n0_; have HO198 := n1_; have HB := n2_; clear n0_ n1_ n2_; (try clear hb); (try clear hb2); (try clear hk); (try clear hi); (try clear ho0)))
              (try simp only [Act.put, List.setIfInBounds_toArray, List.set_cons_zero, List.set_cons_succ])
              go_cut [134] (fun v134 wc => ∃ (kq : Nat) (x134_39 : Bool), v134 = .bool x134_39 ∧ Aside0 (rosterlaw22_ViewRounds.j5 kq a1 t181 a3 x17_31 x134_39 = some r) ∧ Aside0 (kq ≤ kj31) ∧ Aside0 (Below w.heap.size w wc))
              case first =>
               have H := HC40.out
               clear HC40
               by_cases c42 : x18_31 = 0
               ·rw [if_pos c42] at H
                have c42b0 : (x18_31 == 0) = true := beq_iff_eq.mpr c42
                have c42b1 : (x18_31 != 0) = false := bne_eq_false_iff_eq.mpr c42
                clear c42
                (first | rw [c42b0] | rw [c42be] | (simp only [i64_w, i32_w]; rw [c42b0]) | skip)
                by_cases c43 : t196 = 0
                ·rw [if_pos c43] at H
                 have c43b0 : (t196 == 0) = true := beq_iff_eq.mpr c43
                 have c43b1 : (t196 != 0) = false := bne_eq_false_iff_eq.mpr c43
                 clear c43
                 by_cases c44 : x17_31.toList = ([] : List UInt8)
                 ·rw [if_pos c44] at H
                  have c44b0 : (x17_31.toList == ([] : List UInt8)) = true := beq_iff_eq.mpr c44
                  try have c44be := (show ∀ (l_ : List UInt8) b_, (l_ == ([] : List UInt8)) = b_ → l_.isEmpty = b_ from fun l_ b_ h_ => by subst h_; cases l_ <;> rfl) _ _ c44b0
                  have c44b1 : (x17_31.toList != ([] : List UInt8)) = false := bne_eq_false_iff_eq.mpr c44
                  clear c44
                  have H' := Aside0.mk H
                  clear H
                  go_wp2
                  go_meet
                  case rel => exact ⟨_, (true), q3_, H', ⟨q27_⟩, ⟨q1_⟩⟩
                 ·rw [if_neg c44] at H
                  have c44b0 : (x17_31.toList == ([] : List UInt8)) = false := beq_eq_false_iff_ne.mpr c44
                  try have c44be := (show ∀ (l_ : List UInt8) b_, (l_ == ([] : List UInt8)) = b_ → l_.isEmpty = b_ from fun l_ b_ h_ => by subst h_; cases l_ <;> rfl) _ _ c44b0
                  have c44b1 : (x17_31.toList != ([] : List UInt8)) = true := bne_iff_ne.mpr c44
                  replace H := Option.bind_eq_some_iff.mp H
                  obtain ⟨t199, A450, H⟩ := H
                  replace H : (rosterlaw22_ViewRounds.j5 kj31 a1 t181 a3 x17_31 (!t199)) = some r := H
                  have A45 := Aside0.mk A450
                  clear A450
                  have H' := Aside0.mk H
                  clear H
                  obtain ⟨Ao46, co46, eo46⟩ := Kd.R_slice HO198.out
                  subst eo46
                  obtain ⟨Ao47, co47, eo47⟩ := Kd.R_slice HO_9.out
                  subst eo47
                  go_wp2_with (first | (go_at_call 8; (with_reducible refine (rosterlaw22_sameKeys.calls kj31 _ _ t195 _ _ x9_31 t199 _ ?side1 ?side2 ?side3 ?side4 A45.out).mono ?_); (case side1 => repeat (first | exact (Kd.R_reads' HO198.out).2.2 | (with_reducible refine Kd.C_alloc ?_ _) | (with_reducible refine Kd.C_drewN ?_ _) | (with_reducible refine Kd.C_drew ?_))); (case side2 => exact (Kd.R_reads' HO198.out).2.1); (case side3 => repeat (first | exact (Kd.R_reads' HO_9.out).2.2 | (with_reducible refine Kd.C_alloc ?_ _) | (with_reducible refine Kd.C_drewN ?_ _) | (with_reducible refine Kd.C_drew ?_))); (case side4 => exact (Kd.R_reads' HO_9.out).2.1); rintro e w' ⟨rfl, ⟨nd, rfl⟩⟩))
                  go_meet
                  case rel => exact ⟨_, (!t199), q3_, H', ⟨q27_⟩, ⟨q1_⟩⟩
                ·rw [if_neg c43] at H
                 have c43b0 : (t196 == 0) = false := beq_eq_false_iff_ne.mpr c43
                 have c43b1 : (t196 != 0) = true := bne_iff_ne.mpr c43
                 have H' := Aside0.mk H
                 clear H
                 go_wp2
                 go_meet
                 case rel => exact ⟨_, (true), q3_, H', ⟨q27_⟩, ⟨q1_⟩⟩
               ·rw [if_neg c42] at H
                have c42b0 : (x18_31 == 0) = false := beq_eq_false_iff_ne.mpr c42
                have c42b1 : (x18_31 != 0) = true := bne_iff_ne.mpr c42
                (first | rw [c42b0] | rw [c42be] | (simp only [i64_w, i32_w]; rw [c42b0]) | skip)
                have H' := Aside0.mk H
                clear H
                go_wp2
                go_meet
                case rel => exact ⟨_, (true), q3_, H', ⟨q27_⟩, ⟨q1_⟩⟩
              case rest => as_aux_lemma =>
               clear HC40
               try clear c1
               try clear p1
               try clear q1
               try clear hx1
               try clear c2
               try clear p2
               try clear c3
               try clear c4
               try clear c6
               try clear c6b0
               try clear p6
               try clear c7
               try clear c8
               try clear c8b0
               try clear c9
               try clear c9b0
               try clear c10
               try clear c12
               try clear c15
               try clear c16
               try clear c16b0
               try clear c17
               try clear c17b0
               try clear p17
               try clear q17
               try clear hx17
               try clear p18
               try clear q18
               try clear hx18
               try clear c20
               try clear c21
               try clear c21b0
               try clear c21b1
               try clear c29
               try clear c30
               try clear c30b0
               try clear c30b1
               try clear c31
               try clear c33
               try clear c42
               try clear c42b0
               try clear c42b1
               try clear c43
               try clear c43b0
               try clear c43b1
               try clear c44
               try clear c44b0
               try clear c44b1
               try clear hx173_0
               try clear hx173_1
               try clear hx173_2
               try clear hx175_0
               try clear hx175_1
               try clear hx175_2
               try clear hx177_0
               try clear hx177_1
               try clear hx177_2
               try clear hx182_0
               try clear hx182_1
               try clear hx182_2
               try clear hx185_0
               try clear hx185_1
               try clear hx185_2
               try clear p1
               try clear p17
               try clear p173
               try clear p175
               try clear p177
               try clear p18
               try clear p182
               try clear p185
               try clear p2
               try clear p6
               try clear q1
               try clear q17
               try clear q173
               try clear q175
               try clear q177
               try clear q18
               try clear q182
               try clear q185
               obtain ⟨kq, x134_39, rfl, HA, HJ39, HB⟩ := hcut
               cases kq with
               | zero => exact absurd HA.out (by simp [rosterlaw22_ViewRounds.j5])
               | succ kj39 =>
                have H := HA.out
                clear HA
                simp only [rosterlaw22_ViewRounds.j5] at H
                by_cases c48 : x134_39 = true
                ·subst c48
                 have H1 : (some false) = some r := by rw [if_pos rfl] at H; exact H
                 exact absurd ((Option.some.inj H1).trans HRT.out) q14_
                ·replace c48 := Bool.eq_false_iff.mpr c48
                 subst c48
                 have H1 : ((some (([(a3) % 256] : List Int) : List Int)).bind fun y200 => (if x17_31.size + (strOfNums y200).size ≤ 9223372036854775807 then ((view_DecodeKeys.f (x17_31 ++ (strOfNums y200))).bind fun bt203 => (if 0 ≤ (wrap64 ((x17_31.size : Int) - 1)) then (if (wrap64 ((x17_31.size : Int) - 1)) ≤ (x17_31.size : Int) then ((view_DecodeKeys.f (x17_31.extract 0 ((wrap64 ((x17_31.size : Int) - 1)) : Int).toNat)).bind fun bt207 => (if bt203.2 = 224 then (rosterlaw22_ViewRounds.j6 kj39 a1 t181 a3 (bt207.2 != 224)) else (rosterlaw22_ViewRounds.j6 kj39 a1 t181 a3 true))) else (none)) else (none))) else (none))) = some r := by rw [if_neg (show ¬ (false = true) by decide)] at H; exact H
                 clear H
                 have H := H1
                 clear H1
                 obtain ⟨y200, hy200⟩ : ∃ y_ : List Int, y_ = (([(a3) % 256] : List Int)) := ⟨_, rfl⟩
                 replace H : (if x17_31.size + (strOfNums y200).size ≤ 9223372036854775807 then ((view_DecodeKeys.f (x17_31 ++ (strOfNums y200))).bind fun bt203 => (if 0 ≤ (wrap64 ((x17_31.size : Int) - 1)) then (if (wrap64 ((x17_31.size : Int) - 1)) ≤ (x17_31.size : Int) then ((view_DecodeKeys.f (x17_31.extract 0 ((wrap64 ((x17_31.size : Int) - 1)) : Int).toNat)).bind fun bt207 => (if bt203.2 = 224 then (rosterlaw22_ViewRounds.j6 kj39 a1 t181 a3 (bt207.2 != 224)) else (rosterlaw22_ViewRounds.j6 kj39 a1 t181 a3 true))) else (none)) else (none))) else (none)) = some r := by first | (rw [hy200]; with_reducible exact H) | (have H2_ := (Option.bind_some _ _).symm.trans H; rw [hy200]; with_reducible exact H2_) | (have H2_ := (Option.bind_some _ _).symm.trans H; with_reducible exact H2_) | with_reducible exact H | (rw [hy200]; exact H) | exact H
                 have Ny200 := Aside0.mk hy200
                 clear hy200
                 by_cases c49 : x17_31.size + (strOfNums y200).size ≤ 9223372036854775807
                 ·rw [if_pos c49] at H
                  have c49b0 := eq_true c49
                  have c49b1 : decide (x17_31.size + (strOfNums y200).size ≤ 9223372036854775807) = true := decide_eq_true c49
                  try have c49b2 : (9223372036854775807 < x17_31.size + (strOfNums y200).size) = False := eq_false (Nat.not_lt.2 c49)
                  replace H := Option.bind_eq_some_iff.mp H
                  obtain ⟨⟨t203, t204⟩, A500, H⟩ := H
                  replace H : (if 0 ≤ (wrap64 ((x17_31.size : Int) - 1)) then (if (wrap64 ((x17_31.size : Int) - 1)) ≤ (x17_31.size : Int) then ((view_DecodeKeys.f (x17_31.extract 0 ((wrap64 ((x17_31.size : Int) - 1)) : Int).toNat)).bind fun bt207 => (if t204 = 224 then (rosterlaw22_ViewRounds.j6 kj39 a1 t181 a3 (bt207.2 != 224)) else (rosterlaw22_ViewRounds.j6 kj39 a1 t181 a3 true))) else (none)) else (none)) = some r := H
                  have A50 := Aside0.mk A500
                  clear A500
                  obtain ⟨ji51, hji51⟩ : ∃ j_ : Int, (wrap64 ((x17_31.size : Int) - 1)) = j_ := ⟨_, rfl⟩
                  replace H : (if 0 ≤ (ji51) then (if (ji51) ≤ (x17_31.size : Int) then ((view_DecodeKeys.f (x17_31.extract 0 ((ji51) : Int).toNat)).bind fun bt207 => (if t204 = 224 then (rosterlaw22_ViewRounds.j6 kj39 a1 t181 a3 (bt207.2 != 224)) else (rosterlaw22_ViewRounds.j6 kj39 a1 t181 a3 true))) else (none)) else (none)) = some r := by first | (rw [hji51] at H; exact H) | (simp only [hji51] at H ⊢; exact H)
                  (try rw [hji51] at A50)
                  have hji51w : (IntKind.i64.wrap ((x17_31.size : Int) - 1)) = ji51 := (i64_w _).trans hji51
                  by_cases c52 : 0 ≤ (ji51)
                  ·rw [if_pos c52] at H
                   have c52b0 := eq_true c52
                   have c52b1 : decide (0 ≤ (ji51)) = true := decide_eq_true c52
                   clear c52
                   by_cases c53 : (ji51) ≤ (x17_31.size : Int)
                   ·rw [if_pos c53] at H
                    have c53b0 := eq_true c53
                    have c53b1 : decide ((ji51) ≤ (x17_31.size : Int)) = true := decide_eq_true c53
                    clear c53
                    replace H := Option.bind_eq_some_iff.mp H
                    obtain ⟨⟨t207, t208⟩, A540, H⟩ := H
                    replace H : (if t204 = 224 then (rosterlaw22_ViewRounds.j6 kj39 a1 t181 a3 (t208 != 224)) else (rosterlaw22_ViewRounds.j6 kj39 a1 t181 a3 true)) = some r := H
                    have A54 := Aside0.mk A540
                    clear A540
                    have HC55 := Aside0.mk H
                    clear H
                    go_upto_region 25 with (first | ((with_reducible refine gate_dst (N := 139) rfl ?_); refine Kd.R_lit (Kd.int .u8) _ 5 ?hg (N := 139) ?hd (xs := ([(a3) % 256] : List Int)) (inner := [.int .u8 ((a3) % 256)]) (ok := fun _ => True) (okp := fun _ => True) ?hr ?hp (fun _ hk => hk) trivial (Below.refl _ _) (Nat.le_refl _) q21_ ?_; (case hd => rfl); (case hg => rfl); (case hr => first | (go_simp; done) | (go_simp; rfl)); (case hp => exact (Reps.one (show Kd.M (Kd.int .u8) _ _ _ ((a3) % 256) [.int .u8 ((a3) % 256)] from rfl) (Reps.none _ _))); intro v201 w56 ho57 hb hg_ hnew_; clear hg_ hnew_; (first | rw [← Ny200.out] at ho57 | (simp only [Int.reduceToNat] at ho57; rw [← Ny200.out] at ho57)); have n0_ := Aside0.mk (Kd.R_lower ho57 (below_size q1_)); have n1_ := Aside0.mk (below_step q1_ hb); clear HB; have HO202 := n0_; have HB := n1_; clear n0_ n1_; clear hb ho57; have hcv58 := own_string (P := Tryd.prog) Tryd.underlying39 Tryd.underlying5 Tryd.underlying9 (Kd.own_of_R HO202.out)) | ((with_reducible refine gate_callee (f := 10) rfl ?_); refine goesL_ (some 142) rfl rfl Tryd.func10 q13_ rfl #[.string (x17_31 ++ (strOfNums y200))] rfl q42_ ?_; (with_reducible refine (view_DecodeKeys.calls (x17_31 ++ (strOfNums y200)) t203 t204 _ A50.out).mono ?_); rintro e w59 ⟨v205, rfl, ho0, hb⟩; refine ⟨_, rfl, ?_⟩; have n0_ := Aside0.mk (Kd.R_below (by (with_reducible repeat (first | apply Kd.R_alloc | apply Kd.R_drewN | apply Kd.R_drew)); exact HO202.out) hb); have n1_ := Aside0.mk (Kd.R_lower ho0 (below_size q1_)); have n2_ := Aside0.mk (below_step q1_ hb); clear HO202; clear HB; have HO202 := n0_; have HO206 := n1_; have HB := n2_; clear n0_ n1_ n2_; (try clear hb); (try clear hb2); (try clear hk); (try clear hi); (try clear ho0)) | ((with_reducible refine gate_callee (f := 10) rfl ?_); refine goesL_ (some 151) rfl rfl Tryd.func10 q13_ rfl #[.string (x17_31.extract 0 ((ji51) : Int).toNat)] rfl (by (try simp only [List.map_toArray, List.map_cons, List.map_nil]); first | done | (simp only [hji51]; rfl) | rfl | (simp only [List.length_drop, List.length_take]; rfl)) ?_; (with_reducible refine (view_DecodeKeys.calls (x17_31.extract 0 ((ji51) : Int).toNat) t207 t208 _ A54.out).mono ?_); rintro e w60 ⟨v209, rfl, ho0, hb⟩; refine ⟨_, rfl, ?_⟩; have n0_ := Aside0.mk (Kd.R_below (by (with_reducible repeat (first | apply Kd.R_alloc | apply Kd.R_drewN | apply Kd.R_drew)); exact HO202.out) hb); have n1_ := Aside0.mk (Kd.R_elder' (by (with_reducible repeat (first | apply Kd.R_alloc | apply Kd.R_drewN | apply Kd.R_drew)); exact HO206.out) (Kd.R_base ho0) hb); have n2_ := Aside0.mk (Kd.R_lower (Kd.R_new' ho0 (Kd.R_lt (by (with_reducible repeat (first | apply Kd.R_alloc | apply Kd.R_drewN | apply Kd.R_drew)); exact HO206.out))) (below_size q1_)); have n3_ := Aside0.mk (below_step q1_ hb); clear HO202; clear HO206; clear HB; have HO202 := n0_; have HO206 := n1_; have HO210 := n2_; have HB := n3_; clear n0_ n1_ n2_ n3_; (try clear hb); (try clear hb2); (try clear hk); (try clear hi); (try clear ho0)))
                    (try simp only [Act.put, List.setIfInBounds_toArray, List.set_cons_zero, List.set_cons_succ])
                    go_cut [159] (fun v159 wc => ∃ (kq : Nat) (x159_54 : Bool), v159 = .bool x159_54 ∧ Aside0 (rosterlaw22_ViewRounds.j6 kq a1 t181 a3 x159_54 = some r) ∧ Aside0 (kq ≤ kj39) ∧ Aside0 (Below w.heap.size w wc))
                    case first =>
                     have H := HC55.out
                     clear HC55
                     by_cases c61 : t204 = 224
                     ·rw [if_pos c61] at H
                      have c61b0 : (t204 == 224) = true := beq_iff_eq.mpr c61
                      have c61b1 : (t204 != 224) = false := bne_eq_false_iff_eq.mpr c61
                      clear c61
                      (first | rw [c61b0] | rw [c61be] | (simp only [i64_w, i32_w]; rw [c61b0]) | skip)
                      have H' := Aside0.mk H
                      clear H
                      go_wp2
                      go_meet
                      case rel => exact ⟨_, ((t208 != 224)), q3_, H', ⟨q36_⟩, ⟨q1_⟩⟩
                     ·rw [if_neg c61] at H
                      have c61b0 : (t204 == 224) = false := beq_eq_false_iff_ne.mpr c61
                      have c61b1 : (t204 != 224) = true := bne_iff_ne.mpr c61
                      (first | rw [c61b0] | rw [c61be] | (simp only [i64_w, i32_w]; rw [c61b0]) | skip)
                      have H' := Aside0.mk H
                      clear H
                      go_wp2
                      go_meet
                      case rel => exact ⟨_, (true), q3_, H', ⟨q36_⟩, ⟨q1_⟩⟩
                    case rest => as_aux_lemma =>
                     clear HC55
                     try clear c1
                     try clear p1
                     try clear q1
                     try clear hx1
                     try clear c2
                     try clear p2
                     try clear c3
                     try clear c4
                     try clear c5
                     try clear hcv5
                     try clear c6
                     try clear c6b0
                     try clear p6
                     try clear c7
                     try clear c8
                     try clear c8b0
                     try clear c9
                     try clear c9b0
                     try clear c10
                     try clear c12
                     try clear c15
                     try clear c16
                     try clear c16b0
                     try clear c17
                     try clear c17b0
                     try clear p17
                     try clear q17
                     try clear hx17
                     try clear p18
                     try clear q18
                     try clear hx18
                     try clear c20
                     try clear c21
                     try clear c21b0
                     try clear c21b1
                     try clear c29
                     try clear c30
                     try clear c30b0
                     try clear c30b1
                     try clear c31
                     try clear c33
                     try clear c42
                     try clear c42b0
                     try clear c42b1
                     try clear c43
                     try clear c43b0
                     try clear c43b1
                     try clear c44
                     try clear c44b0
                     try clear c44b1
                     try clear c48
                     try clear c49
                     try clear c49b0
                     try clear c49b1
                     try clear c49b2
                     try clear c52
                     try clear c52b0
                     try clear c52b1
                     try clear c53
                     try clear c53b0
                     try clear c53b1
                     try clear hcv58
                     try clear c61
                     try clear c61b0
                     try clear c61b1
                     try clear hx173_0
                     try clear hx173_1
                     try clear hx173_2
                     try clear hx175_0
                     try clear hx175_1
                     try clear hx175_2
                     try clear hx177_0
                     try clear hx177_1
                     try clear hx177_2
                     try clear hx182_0
                     try clear hx182_1
                     try clear hx182_2
                     try clear hx185_0
                     try clear hx185_1
                     try clear hx185_2
                     try clear p1
                     try clear p17
                     try clear p173
                     try clear p175
                     try clear p177
                     try clear p18
                     try clear p182
                     try clear p185
                     try clear p2
                     try clear p6
                     try clear q1
                     try clear q17
                     try clear q173
                     try clear q175
                     try clear q177
                     try clear q18
                     try clear q182
                     try clear q185
                     obtain ⟨kq, x159_54, rfl, HA, HJ54, HB⟩ := hcut
                     cases kq with
                     | zero => exact absurd HA.out (by simp [rosterlaw22_ViewRounds.j6])
                     | succ kj54 =>
                      have H := HA.out
                      clear HA
                      simp only [rosterlaw22_ViewRounds.j6] at H
                      by_cases c62 : x159_54 = true
                      ·subst c62
                       have H1 : (some false) = some r := by rw [if_pos rfl] at H; exact H
                       exact absurd ((Option.some.inj H1).trans HRT.out) q14_
                      ·replace c62 := Bool.eq_false_iff.mpr c62
                       subst c62
                       have H1 : ((view_EncodePage.f kj54 a1 t181).bind fun bt211 => (if a1 < 0 then (rosterlaw22_ViewRounds.j7 kj54 a1 t181 a3 bt211.2 bt211.1 true) else (rosterlaw22_ViewRounds.j7 kj54 a1 t181 a3 bt211.2 bt211.1 (decide (a1 > 2147483647))))) = some r := by rw [if_neg (show ¬ (false = true) by decide)] at H; exact H
                       clear H
                       have H := H1
                       clear H1
                       replace H := Option.bind_eq_some_iff.mp H
                       obtain ⟨⟨t211, t212⟩, A630, H⟩ := H
                       replace H : (if a1 < 0 then (rosterlaw22_ViewRounds.j7 kj54 a1 t181 a3 t212 t211 true) else (rosterlaw22_ViewRounds.j7 kj54 a1 t181 a3 t212 t211 (decide (a1 > 2147483647)))) = some r := H
                       have A63 := Aside0.mk A630
                       clear A630
                       have HC64 := Aside0.mk H
                       clear H
                       go_upto_region 28 with (first | ((with_reducible refine gate_callee (f := 12) rfl ?_); refine goesL_ (some 163) rfl rfl Tryd.func12 q13_ rfl #[.int .i64 a1, .string t181] rfl q42_ ?_; (with_reducible refine (view_EncodePage.calls kj54 a1 t181 t211 t212 _ A63.out).mono ?_); rintro e w65 ⟨rfl, hb⟩; refine ⟨_, rfl, ?_⟩; have n0_ := Aside0.mk (below_step q1_ hb); clear HB; have HB := n0_; clear n0_; (try clear hb); (try clear hb2); (try clear hk); (try clear hi)))
                       (try simp only [Act.put, List.setIfInBounds_toArray, List.set_cons_zero, List.set_cons_succ])
                       go_cut [171] (fun v171 wc => ∃ (kq : Nat) (x171_63 : Bool), v171 = .bool x171_63 ∧ Aside0 (rosterlaw22_ViewRounds.j7 kq a1 t181 a3 t212 t211 x171_63 = some r) ∧ Aside0 (kq ≤ kj54) ∧ Aside0 (Below w.heap.size w wc))
                       case first =>
                        have H := HC64.out
                        clear HC64
                        by_cases c66 : a1 < 0
                        ·rw [if_pos c66] at H
                         have c66b0 : decide (a1 < 0) = true := decide_eq_true c66
                         clear c66
                         (first | rw [c66b0] | rw [c66be] | (simp only [i64_w, i32_w]; rw [c66b0]) | skip)
                         have H' := Aside0.mk H
                         clear H
                         go_wp2
                         go_meet
                         case rel => exact ⟨_, (true), q3_, H', ⟨q33_⟩, ⟨q1_⟩⟩
                        ·rw [if_neg c66] at H
                         have c66b0 : decide (a1 < 0) = false := decide_eq_false c66
                         clear c66
                         (first | rw [c66b0] | rw [c66be] | (simp only [i64_w, i32_w]; rw [c66b0]) | skip)
                         have H' := Aside0.mk H
                         clear H
                         go_wp2
                         go_meet
                         case rel => exact ⟨_, (decide (a1 > 2147483647)), q3_, H', ⟨q33_⟩, ⟨q1_⟩⟩
                       case rest => as_aux_lemma =>
                        clear HC64
                        try clear c1
                        try clear p1
                        try clear q1
                        try clear hx1
                        try clear c2
                        try clear p2
                        try clear c3
                        try clear c4
                        try clear c5
                        try clear hcv5
                        try clear c6
                        try clear c6b0
                        try clear p6
                        try clear c7
                        try clear c8
                        try clear c8b0
                        try clear c9
                        try clear c9b0
                        try clear c10
                        try clear c12
                        try clear c15
                        try clear c16
                        try clear c16b0
                        try clear c17
                        try clear c17b0
                        try clear p17
                        try clear q17
                        try clear hx17
                        try clear p18
                        try clear q18
                        try clear hx18
                        try clear c20
                        try clear c21
                        try clear c21b0
                        try clear c21b1
                        try clear c29
                        try clear c30
                        try clear c30b0
                        try clear c30b1
                        try clear c31
                        try clear c33
                        try clear c42
                        try clear c42b0
                        try clear c42b1
                        try clear c43
                        try clear c43b0
                        try clear c43b1
                        try clear c44
                        try clear c44b0
                        try clear c44b1
                        try clear c48
                        try clear c49
                        try clear c49b0
                        try clear c49b1
                        try clear c49b2
                        try clear c52
                        try clear c52b0
                        try clear c52b1
                        try clear c53
                        try clear c53b0
                        try clear c53b1
                        try clear hcv58
                        try clear c61
                        try clear c61b0
                        try clear c61b1
                        try clear c62
                        try clear p64
                        try clear c66
                        try clear c66b0
                        try clear hx173_0
                        try clear hx173_1
                        try clear hx173_2
                        try clear hx175_0
                        try clear hx175_1
                        try clear hx175_2
                        try clear hx177_0
                        try clear hx177_1
                        try clear hx177_2
                        try clear hx182_0
                        try clear hx182_1
                        try clear hx182_2
                        try clear hx185_0
                        try clear hx185_1
                        try clear hx185_2
                        try clear p1
                        try clear p17
                        try clear p173
                        try clear p175
                        try clear p177
                        try clear p18
                        try clear p182
                        try clear p185
                        try clear p2
                        try clear p6
                        try clear q1
                        try clear q17
                        try clear q173
                        try clear q175
                        try clear q177
                        try clear q18
                        try clear q182
                        try clear q185
                        obtain ⟨kq, x171_63, rfl, HA, HJ63, HB⟩ := hcut
                        cases kq with
                        | zero => exact absurd HA.out (by simp [rosterlaw22_ViewRounds.j7])
                        | succ kj63 =>
                         have H := HA.out
                         clear HA
                         simp only [rosterlaw22_ViewRounds.j7] at H
                         have HC67 := Aside0.mk H
                         clear H
                         go_upto_if 171 with (fail)
                         go_cut [1, 18, 23] (fun v1 v18 v23 wc => ∃ (kq : Nat) (x1_66 : Int) (x18_66 : Int) (x23_66 : ByteArray), v1 = .int .i64 x1_66 ∧ v18 = .int .i64 x18_66 ∧ v23 = .string x23_66 ∧ Aside0 (rosterlaw22_ViewRounds.j8 kq x1_66 t181 a3 x18_66 x23_66 = some r) ∧ Aside0 (kq ≤ kj63) ∧ Aside0 (Below w.heap.size w wc))
                         case first =>
                          have H := HC67.out
                          clear HC67
                          by_cases c68 : x171_63 = true
                          ·subst c68
                           have H1 : (if t212 = 224 then (if t211.toList = ([] : List UInt8) then ((view_EncodePage.f kj63 7 t181).bind fun bt213 => (rosterlaw22_ViewRounds.j8 kj63 7 t181 a3 bt213.2 bt213.1)) else (some false)) else (some false)) = some r := by rw [if_pos rfl] at H; exact H
                           clear H
                           have H := H1
                           clear H1
                           by_cases c69 : t212 = 224
                           ·rw [if_pos c69] at H
                            have c69b0 : (t212 == 224) = true := beq_iff_eq.mpr c69
                            have c69b1 : (t212 != 224) = false := bne_eq_false_iff_eq.mpr c69
                            clear c69
                            (first | rw [c69b0] | rw [c69be] | (simp only [i64_w, i32_w]; rw [c69b0]) | skip)
                            by_cases c70 : t211.toList = ([] : List UInt8)
                            ·rw [if_pos c70] at H
                             have c70b0 : (t211.toList == ([] : List UInt8)) = true := beq_iff_eq.mpr c70
                             try have c70be := (show ∀ (l_ : List UInt8) b_, (l_ == ([] : List UInt8)) = b_ → l_.isEmpty = b_ from fun l_ b_ h_ => by subst h_; cases l_ <;> rfl) _ _ c70b0
                             have c70b1 : (t211.toList != ([] : List UInt8)) = false := bne_eq_false_iff_eq.mpr c70
                             clear c70
                             replace H := Option.bind_eq_some_iff.mp H
                             obtain ⟨⟨t213, t214⟩, A710, H⟩ := H
                             replace H : (rosterlaw22_ViewRounds.j8 kj63 7 t181 a3 t214 t213) = some r := H
                             have A71 := Aside0.mk A710
                             clear A710
                             have H' := Aside0.mk H
                             clear H
                             go_wp2_with (first | ((with_reducible refine gate_callee (f := 12) rfl ?_); refine goesL_ (some 181) rfl rfl Tryd.func12 q13_ rfl #[.int .i64 7, .string t181] rfl q42_ ?_; (with_reducible refine (view_EncodePage.calls kj63 7 t181 t213 t214 _ A71.out).mono ?_); rintro e w72 ⟨rfl, hb⟩; refine ⟨_, rfl, ?_⟩; have n0_ := Aside0.mk (below_step q1_ hb); clear HB; have HB := n0_; clear n0_; (try clear hb); (try clear hb2); (try clear hk); (try clear hi)))
                             go_meet
                             case rel => exact ⟨_, (7), (t214), (t213), q3_, q3_, q3_, H', ⟨q31_⟩, ⟨q1_⟩⟩
                            ·rw [if_neg c70] at H
                             exact absurd ((Option.some.inj H).trans HRT.out) q14_
                           ·rw [if_neg c69] at H
                            exact absurd ((Option.some.inj H).trans HRT.out) q14_
                          ·replace c68 := Bool.eq_false_iff.mpr c68
                           subst c68
                           have H1 : (rosterlaw22_ViewRounds.j8 kj63 a1 t181 a3 t212 t211) = some r := by rw [if_neg (show ¬ (false = true) by decide)] at H; exact H
                           clear H
                           have H := H1
                           clear H1
                           have H' := Aside0.mk H
                           clear H
                           go_wp2
                           go_meet
                           case rel => exact ⟨_, (a1), (t212), (t211), q3_, q3_, q3_, H', ⟨q31_⟩, ⟨q1_⟩⟩
                         case rest => as_aux_lemma =>
                          clear HC67
                          try clear c1
                          try clear p1
                          try clear q1
                          try clear hx1
                          try clear c2
                          try clear p2
                          try clear c3
                          try clear c4
                          try clear c5
                          try clear hcv5
                          try clear c6
                          try clear c6b0
                          try clear p6
                          try clear c7
                          try clear c8
                          try clear c8b0
                          try clear c9
                          try clear c9b0
                          try clear c10
                          try clear c12
                          try clear c15
                          try clear c16
                          try clear c16b0
                          try clear c17
                          try clear c17b0
                          try clear p17
                          try clear q17
                          try clear hx17
                          try clear p18
                          try clear q18
                          try clear hx18
                          try clear c20
                          try clear c21
                          try clear c21b0
                          try clear c21b1
                          try clear c29
                          try clear c30
                          try clear c30b0
                          try clear c30b1
                          try clear c31
                          try clear c33
                          try clear c42
                          try clear c42b0
                          try clear c42b1
                          try clear c43
                          try clear c43b0
                          try clear c43b1
                          try clear c44
                          try clear c44b0
                          try clear c44b1
                          try clear c48
                          try clear c49
                          try clear c49b0
                          try clear c49b1
                          try clear c49b2
                          try clear c52
                          try clear c52b0
                          try clear c52b1
                          try clear c53
                          try clear c53b0
                          try clear c53b1
                          try clear hcv58
                          try clear c61
                          try clear c61b0
                          try clear c61b1
                          try clear c62
                          try clear p64
                          try clear c66
                          try clear c66b0
                          try clear c68
                          try clear c69
                          try clear c69b0
                          try clear c69b1
                          try clear c70
                          try clear c70b0
                          try clear c70b1
                          try clear hx173_0
                          try clear hx173_1
                          try clear hx173_2
                          try clear hx175_0
                          try clear hx175_1
                          try clear hx175_2
                          try clear hx177_0
                          try clear hx177_1
                          try clear hx177_2
                          try clear hx182_0
                          try clear hx182_1
                          try clear hx182_2
                          try clear hx185_0
                          try clear hx185_1
                          try clear hx185_2
                          try clear p1
                          try clear p17
                          try clear p173
                          try clear p175
                          try clear p177
                          try clear p18
                          try clear p182
                          try clear p185
                          try clear p2
                          try clear p6
                          try clear p64
                          try clear q1
                          try clear q17
                          try clear q173
                          try clear q175
                          try clear q177
                          try clear q18
                          try clear q182
                          try clear q185
                          obtain ⟨kq, x1_66, x18_66, x23_66, rfl, rfl, rfl, HA, HJ66, HB⟩ := hcut
                          cases kq with
                          | zero => exact absurd HA.out (by simp [rosterlaw22_ViewRounds.j8])
                          | succ kj66 =>
                           have H := HA.out
                           clear HA
                           simp only [rosterlaw22_ViewRounds.j8] at H
                           replace H := Option.bind_eq_some_iff.mp H
                           obtain ⟨⟨t215, t216, t217⟩, A730, H⟩ := H
                           replace H : (if x18_66 = 0 then (if t217 = 0 then (if t215 = x1_66 then (rosterlaw22_ViewRounds.j9 kj66 a3 x23_66 (t216.toList != t181.toList)) else (rosterlaw22_ViewRounds.j9 kj66 a3 x23_66 true)) else (rosterlaw22_ViewRounds.j9 kj66 a3 x23_66 true)) else (rosterlaw22_ViewRounds.j9 kj66 a3 x23_66 true)) = some r := H
                           have A73 := Aside0.mk A730
                           clear A730
                           have HC74 := Aside0.mk H
                           clear H
                           go_upto_region 34 with (first | ((with_reducible refine gate_callee (f := 14) rfl ?_); refine goesL_ (some 186) rfl rfl Tryd.func14 q13_ rfl #[.string x23_66] rfl q42_ ?_; (with_reducible refine (view_DecodePage.calls x23_66 t215 t216 t217 _ A73.out).mono ?_); rintro e w75 ⟨rfl, hb⟩; refine ⟨_, rfl, ?_⟩; have n0_ := Aside0.mk (below_step q1_ hb); clear HB; have HB := n0_; clear n0_; (try clear hb); (try clear hb2); (try clear hk); (try clear hi)))
                           (try simp only [Act.put, List.setIfInBounds_toArray, List.set_cons_zero, List.set_cons_succ])
                           go_cut [205] (fun v205 wc => ∃ (kq : Nat) (x205_73 : Bool), v205 = .bool x205_73 ∧ Aside0 (rosterlaw22_ViewRounds.j9 kq a3 x23_66 x205_73 = some r) ∧ Aside0 (kq ≤ kj66) ∧ Aside0 (Below w.heap.size w wc))
                           case first =>
                            have H := HC74.out
                            clear HC74
                            by_cases c76 : x18_66 = 0
                            ·rw [if_pos c76] at H
                             have c76b0 : (x18_66 == 0) = true := beq_iff_eq.mpr c76
                             have c76b1 : (x18_66 != 0) = false := bne_eq_false_iff_eq.mpr c76
                             clear c76
                             (first | rw [c76b0] | rw [c76be] | (simp only [i64_w, i32_w]; rw [c76b0]) | skip)
                             by_cases c77 : t217 = 0
                             ·rw [if_pos c77] at H
                              have c77b0 : (t217 == 0) = true := beq_iff_eq.mpr c77
                              have c77b1 : (t217 != 0) = false := bne_eq_false_iff_eq.mpr c77
                              clear c77
                              by_cases c78 : t215 = x1_66
                              ·rw [if_pos c78] at H
                               have c78b0 : (t215 == x1_66) = true := beq_iff_eq.mpr c78
                               have c78b1 : (t215 != x1_66) = false := bne_eq_false_iff_eq.mpr c78
                               clear c78
                               have H' := Aside0.mk H
                               clear H
                               go_wp2
                               go_meet
                               case rel => exact ⟨_, ((t216.toList != t181.toList)), q3_, H', ⟨q24_⟩, ⟨q1_⟩⟩
                              ·rw [if_neg c78] at H
                               have c78b0 : (t215 == x1_66) = false := beq_eq_false_iff_ne.mpr c78
                               have c78b1 : (t215 != x1_66) = true := bne_iff_ne.mpr c78
                               have H' := Aside0.mk H
                               clear H
                               go_wp2
                               go_meet
                               case rel => exact ⟨_, (true), q3_, H', ⟨q24_⟩, ⟨q1_⟩⟩
                             ·rw [if_neg c77] at H
                              have c77b0 : (t217 == 0) = false := beq_eq_false_iff_ne.mpr c77
                              have c77b1 : (t217 != 0) = true := bne_iff_ne.mpr c77
                              have H' := Aside0.mk H
                              clear H
                              go_wp2
                              go_meet
                              case rel => exact ⟨_, (true), q3_, H', ⟨q24_⟩, ⟨q1_⟩⟩
                            ·rw [if_neg c76] at H
                             have c76b0 : (x18_66 == 0) = false := beq_eq_false_iff_ne.mpr c76
                             have c76b1 : (x18_66 != 0) = true := bne_iff_ne.mpr c76
                             (first | rw [c76b0] | rw [c76be] | (simp only [i64_w, i32_w]; rw [c76b0]) | skip)
                             have H' := Aside0.mk H
                             clear H
                             go_wp2
                             go_meet
                             case rel => exact ⟨_, (true), q3_, H', ⟨q24_⟩, ⟨q1_⟩⟩
                           case rest => as_aux_lemma =>
                            clear HC74
                            try clear c1
                            try clear p1
                            try clear q1
                            try clear hx1
                            try clear c2
                            try clear p2
                            try clear c3
                            try clear c4
                            try clear c5
                            try clear hcv5
                            try clear c6
                            try clear c6b0
                            try clear p6
                            try clear c7
                            try clear c8
                            try clear c8b0
                            try clear c9
                            try clear c9b0
                            try clear c10
                            try clear c12
                            try clear c14
                            try clear c15
                            try clear c16
                            try clear c16b0
                            try clear c17
                            try clear c17b0
                            try clear p17
                            try clear q17
                            try clear hx17
                            try clear p18
                            try clear q18
                            try clear hx18
                            try clear c20
                            try clear c21
                            try clear c21b0
                            try clear c21b1
                            try clear c29
                            try clear c30
                            try clear c30b0
                            try clear c30b1
                            try clear c31
                            try clear c33
                            try clear c42
                            try clear c42b0
                            try clear c42b1
                            try clear c43
                            try clear c43b0
                            try clear c43b1
                            try clear c44
                            try clear c44b0
                            try clear c44b1
                            try clear c48
                            try clear c49
                            try clear c49b0
                            try clear c49b1
                            try clear c49b2
                            try clear c52
                            try clear c52b0
                            try clear c52b1
                            try clear c53
                            try clear c53b0
                            try clear c53b1
                            try clear hcv58
                            try clear c61
                            try clear c61b0
                            try clear c61b1
                            try clear c62
                            try clear p64
                            try clear c66
                            try clear c66b0
                            try clear c68
                            try clear c69
                            try clear c69b0
                            try clear c69b1
                            try clear c70
                            try clear c70b0
                            try clear c70b1
                            try clear c76
                            try clear c76b0
                            try clear c76b1
                            try clear c77
                            try clear c77b0
                            try clear c77b1
                            try clear c78
                            try clear c78b0
                            try clear c78b1
                            try clear hx173_0
                            try clear hx173_1
                            try clear hx173_2
                            try clear hx175_0
                            try clear hx175_1
                            try clear hx175_2
                            try clear hx177_0
                            try clear hx177_1
                            try clear hx177_2
                            try clear hx182_0
                            try clear hx182_1
                            try clear hx182_2
                            try clear hx185_0
                            try clear hx185_1
                            try clear hx185_2
                            try clear p1
                            try clear p17
                            try clear p173
                            try clear p175
                            try clear p177
                            try clear p18
                            try clear p182
                            try clear p185
                            try clear p2
                            try clear p6
                            try clear p64
                            try clear q1
                            try clear q17
                            try clear q173
                            try clear q175
                            try clear q177
                            try clear q18
                            try clear q182
                            try clear q185
                            obtain ⟨kq, x205_73, rfl, HA, HJ73, HB⟩ := hcut
                            cases kq with
                            | zero => exact absurd HA.out (by simp [rosterlaw22_ViewRounds.j9])
                            | succ kj73 =>
                             have H := HA.out
                             clear HA
                             simp only [rosterlaw22_ViewRounds.j9] at H
                             by_cases c79 : x205_73 = true
                             ·subst c79
                              have H1 : (some false) = some r := by rw [if_pos rfl] at H; exact H
                              exact absurd ((Option.some.inj H1).trans HRT.out) q14_
                             ·replace c79 := Bool.eq_false_iff.mpr c79
                              subst c79
                              have H1 : ((some (([(a3) % 256] : List Int) : List Int)).bind fun y218 => (if x23_66.size + (strOfNums y218).size ≤ 9223372036854775807 then ((view_DecodePage.f (x23_66 ++ (strOfNums y218))).bind fun bt221 => (if 0 ≤ (wrap64 ((x23_66.size : Int) - 1)) then (if (wrap64 ((x23_66.size : Int) - 1)) ≤ (x23_66.size : Int) then ((view_DecodePage.f (x23_66.extract 0 ((wrap64 ((x23_66.size : Int) - 1)) : Int).toNat)).bind fun bt224 => (if bt221.2.2 = 224 then (some (bt224.2.2 == 224)) else (some false))) else (none)) else (none))) else (none))) = some r := by rw [if_neg (show ¬ (false = true) by decide)] at H; exact H
                              clear H
                              have H := H1
                              clear H1
                              obtain ⟨y218, hy218⟩ : ∃ y_ : List Int, y_ = (([(a3) % 256] : List Int)) := ⟨_, rfl⟩
                              replace H : (if x23_66.size + (strOfNums y218).size ≤ 9223372036854775807 then ((view_DecodePage.f (x23_66 ++ (strOfNums y218))).bind fun bt221 => (if 0 ≤ (wrap64 ((x23_66.size : Int) - 1)) then (if (wrap64 ((x23_66.size : Int) - 1)) ≤ (x23_66.size : Int) then ((view_DecodePage.f (x23_66.extract 0 ((wrap64 ((x23_66.size : Int) - 1)) : Int).toNat)).bind fun bt224 => (if bt221.2.2 = 224 then (some (bt224.2.2 == 224)) else (some false))) else (none)) else (none))) else (none)) = some r := by first | (rw [hy218]; with_reducible exact H) | (have H2_ := (Option.bind_some _ _).symm.trans H; rw [hy218]; with_reducible exact H2_) | (have H2_ := (Option.bind_some _ _).symm.trans H; with_reducible exact H2_) | with_reducible exact H | (rw [hy218]; exact H) | exact H
                              have Ny218 := Aside0.mk hy218
                              clear hy218
                              by_cases c80 : x23_66.size + (strOfNums y218).size ≤ 9223372036854775807
                              ·rw [if_pos c80] at H
                               have c80b0 := eq_true c80
                               have c80b1 : decide (x23_66.size + (strOfNums y218).size ≤ 9223372036854775807) = true := decide_eq_true c80
                               try have c80b2 : (9223372036854775807 < x23_66.size + (strOfNums y218).size) = False := eq_false (Nat.not_lt.2 c80)
                               replace H := Option.bind_eq_some_iff.mp H
                               obtain ⟨⟨t221, t222, t223⟩, A810, H⟩ := H
                               replace H : (if 0 ≤ (wrap64 ((x23_66.size : Int) - 1)) then (if (wrap64 ((x23_66.size : Int) - 1)) ≤ (x23_66.size : Int) then ((view_DecodePage.f (x23_66.extract 0 ((wrap64 ((x23_66.size : Int) - 1)) : Int).toNat)).bind fun bt224 => (if t223 = 224 then (some (bt224.2.2 == 224)) else (some false))) else (none)) else (none)) = some r := H
                               have A81 := Aside0.mk A810
                               clear A810
                               obtain ⟨ji82, hji82⟩ : ∃ j_ : Int, (wrap64 ((x23_66.size : Int) - 1)) = j_ := ⟨_, rfl⟩
                               replace H : (if 0 ≤ (ji82) then (if (ji82) ≤ (x23_66.size : Int) then ((view_DecodePage.f (x23_66.extract 0 ((ji82) : Int).toNat)).bind fun bt224 => (if t223 = 224 then (some (bt224.2.2 == 224)) else (some false))) else (none)) else (none)) = some r := by first | (rw [hji82] at H; exact H) | (simp only [hji82] at H ⊢; exact H)
                               (try rw [hji82] at A81)
                               have hji82w : (IntKind.i64.wrap ((x23_66.size : Int) - 1)) = ji82 := (i64_w _).trans hji82
                               by_cases c83 : 0 ≤ (ji82)
                               ·rw [if_pos c83] at H
                                have c83b0 := eq_true c83
                                have c83b1 : decide (0 ≤ (ji82)) = true := decide_eq_true c83
                                clear c83
                                by_cases c84 : (ji82) ≤ (x23_66.size : Int)
                                ·rw [if_pos c84] at H
                                 have c84b0 := eq_true c84
                                 have c84b1 : decide ((ji82) ≤ (x23_66.size : Int)) = true := decide_eq_true c84
                                 clear c84
                                 replace H := Option.bind_eq_some_iff.mp H
                                 obtain ⟨⟨t224, t225, t226⟩, A850, H⟩ := H
                                 replace H : (if t223 = 224 then (some (t226 == 224)) else (some false)) = some r := H
                                 have A85 := Aside0.mk A850
                                 clear A850
                                 by_cases c86 : t223 = 224
                                 ·rw [if_pos c86] at H
                                  have c86b0 : (t223 == 224) = true := beq_iff_eq.mpr c86
                                  have c86b1 : (t223 != 224) = false := bne_eq_false_iff_eq.mpr c86
                                  clear c86
                                  obtain rfl := Option.some.inj H
                                  go_wp2_with (first | ((with_reducible refine gate_dst (N := 210) rfl ?_); refine Kd.R_lit (Kd.int .u8) _ 5 ?hg (N := 210) ?hd (xs := ([(a3) % 256] : List Int)) (inner := [.int .u8 ((a3) % 256)]) (ok := fun _ => True) (okp := fun _ => True) ?hr ?hp (fun _ hk => hk) trivial (Below.refl _ _) (Nat.le_refl _) q21_ ?_; (case hd => rfl); (case hg => rfl); (case hr => first | (go_simp; done) | (go_simp; rfl)); (case hp => exact (Reps.one (show Kd.M (Kd.int .u8) _ _ _ ((a3) % 256) [.int .u8 ((a3) % 256)] from rfl) (Reps.none _ _))); intro v219 w87 ho88 hb hg_ hnew_; clear hg_ hnew_; (first | rw [← Ny218.out] at ho88 | (simp only [Int.reduceToNat] at ho88; rw [← Ny218.out] at ho88)); have n0_ := Aside0.mk (Kd.R_lower ho88 (below_size q1_)); have n1_ := Aside0.mk (below_step q1_ hb); clear HB; have HO220 := n0_; have HB := n1_; clear n0_ n1_; clear hb ho88; have hcv89 := own_string (P := Tryd.prog) Tryd.underlying39 Tryd.underlying5 Tryd.underlying9 (Kd.own_of_R HO220.out)) | ((with_reducible refine gate_callee (f := 14) rfl ?_); refine goesL_ (some 213) rfl rfl Tryd.func14 q13_ rfl #[.string (x23_66 ++ (strOfNums y218))] rfl q42_ ?_; (with_reducible refine (view_DecodePage.calls (x23_66 ++ (strOfNums y218)) t221 t222 t223 _ A81.out).mono ?_); rintro e w90 ⟨rfl, hb⟩; refine ⟨_, rfl, ?_⟩; have n0_ := Aside0.mk (Kd.R_below (by (with_reducible repeat (first | apply Kd.R_alloc | apply Kd.R_drewN | apply Kd.R_drew)); exact HO220.out) hb); have n1_ := Aside0.mk (below_step q1_ hb); clear HO220; clear HB; have HO220 := n0_; have HB := n1_; clear n0_ n1_; (try clear hb); (try clear hb2); (try clear hk); (try clear hi)) | ((with_reducible refine gate_callee (f := 14) rfl ?_); refine goesL_ (some 223) rfl rfl Tryd.func14 q13_ rfl #[.string (x23_66.extract 0 ((ji82) : Int).toNat)] rfl (by (try simp only [List.map_toArray, List.map_cons, List.map_nil]); first | done | (simp only [hji82]; rfl) | rfl | (simp only [List.length_drop, List.length_take]; rfl)) ?_; (with_reducible refine (view_DecodePage.calls (x23_66.extract 0 ((ji82) : Int).toNat) t224 t225 t226 _ A85.out).mono ?_); rintro e w91 ⟨rfl, hb⟩; refine ⟨_, rfl, ?_⟩; have n0_ := Aside0.mk (Kd.R_below (by (with_reducible repeat (first | apply Kd.R_alloc | apply Kd.R_drewN | apply Kd.R_drew)); exact HO220.out) hb); have n1_ := Aside0.mk (below_step q1_ hb); clear HO220; clear HB; have HO220 := n0_; have HB := n1_; clear n0_ n1_; (try clear hb); (try clear hb2); (try clear hk); (try clear hi)))
                                  go_ret
                                  exact ⟨by first | rfl | (simp [isEmpty_ne_]; done) | (simp [errW_none, errW_some] <;> rfl) | (simp only [← hji51, ← hji82]; first | rfl | (simp [errW_none, errW_some] <;> rfl)) | (simp [*, errW_none, errW_some] <;> rfl), q1_⟩
                                 ·rw [if_neg c86] at H
                                  exact absurd ((Option.some.inj H).trans HRT.out) q14_
                                ·rw [if_neg c84] at H
                                 exact absurd H q21_
                               ·rw [if_neg c83] at H
                                exact absurd H q21_
                              ·rw [if_neg c80] at H
                               exact absurd H q21_
                   ·rw [if_neg c53] at H
                    exact absurd H q21_
                  ·rw [if_neg c52] at H
                   exact absurd H q21_
                 ·rw [if_neg c49] at H
                  exact absurd H q21_
end Go.Proofs.YtogjljpncdmlkaaDoor.GO
end
