/- Texts of this claim in one: GVx3 -/
import Derived.Test.YtogjljpncdmlkaaDoorB3
import Derived.Test.YtogjljpncdmlkaaDoorB12
section
namespace Go.Proofs.YtogjljpncdmlkaaDoor.GV
open Go.RowKit Go.Proofs.YtogjljpncdmlkaaDoorW.PrintWords Go.Proofs.YtogjljpncdmlkaaDoorW.PrintLast Go.Proofs.YtogjljpncdmlkaaDoorW.PrintMore
attribute [local go_sem] max2_int min2_int max_two min_two max_three min_three max_four min_four   -- for this text's walks alone
set_option linter.unusedVariables false
set_option linter.unusedSimpArgs false
mutual
def rosterref22_EncodeKeys.l0 : Nat → List (S25) → List (S43) → Int → Option (ByteArray × Int)
 | 0, _, _, _ => none
 | k + 1, x0, x4, x5 => if x5 < (x0.length : Int) then (if 0 ≤ x5 then ((rosterref22_isUTF8.f ((rd_T25 x0 x5).f0)).bind fun t121 => (if t121 = true then ((rosterref22_isUTF8.f ((rd_T25 x0 x5).f1)).bind fun t122 => (rosterref22_EncodeKeys.j1 k x0 x4 x5 (!t122) ((rd_T25 x0 x5).f0) ((rd_T25 x0 x5).f1) ((rd_T25 x0 x5).f2))) else (rosterref22_EncodeKeys.j1 k x0 x4 x5 true ((rd_T25 x0 x5).f0) ((rd_T25 x0 x5).f1) ((rd_T25 x0 x5).f2)))) else (none)) else ((rosterref02_Write.f x4).bind fun bt116 => (if bt116.2.1 = 0 then (some (bt116.1, 0)) else (some ((⟨#[]⟩ : ByteArray), 224))))
def rosterref22_EncodeKeys.j1 : Nat → List (S25) → List (S43) → Int → Bool → ByteArray → ByteArray → Bool → Option (ByteArray × Int)
 | 0, _, _, _, _, _, _, _ => none
 | k + 1, x0, x4, x5, x31, x121000, x121001, x121002 => if x31 = true then (some ((⟨#[]⟩ : ByteArray), 224)) else ((rosterref22_made.f 2).bind fun bt123 => ((rosterref22_leaf.f 3 0 4 x121000).bind fun bt128 => ((some (([(⟨bt123.1, bt123.2.1, bt123.2.2.1, bt123.2.2.2.1, bt123.2.2.2.2⟩ : S43), (⟨bt128.1, bt128.2.1, bt128.2.2.1, bt128.2.2.2.1, bt128.2.2.2.2⟩ : S43)] : List (S43)) : List (S43))).bind fun y133 => (if x4.length + y133.length < 2932031007402 then ((some (x4 ++ y133 : List (S43))).bind fun y136 => (if x121001.toList = ([] : List UInt8) then (if x121002 = true then ((rosterref22_leaf.f 3 2 1 (⟨#[255]⟩ : ByteArray)).bind fun bt139 => (if y136.length < 2932031007402 then (rosterref22_EncodeKeys.l0 k x0 (y136 ++ [(⟨bt139.1, bt139.2.1, bt139.2.2.1, bt139.2.2.2.1, bt139.2.2.2.2⟩ : S43)]) (wrap64 (x5 + 1))) else (none))) else (rosterref22_EncodeKeys.l0 k x0 y136 (wrap64 (x5 + 1)))) else ((rosterref22_leaf.f 3 2 0 x121001).bind fun bt147 => (if y136.length < 2932031007402 then ((some (y136 ++ [(⟨bt147.1, bt147.2.1, bt147.2.2.1, bt147.2.2.2.1, bt147.2.2.2.2⟩ : S43)] : List (S43))).bind fun y152 => (if x121002 = true then ((rosterref22_leaf.f 3 2 1 (⟨#[255]⟩ : ByteArray)).bind fun bt155 => (if y152.length < 2932031007402 then (rosterref22_EncodeKeys.l0 k x0 (y152 ++ [(⟨bt155.1, bt155.2.1, bt155.2.2.1, bt155.2.2.2.1, bt155.2.2.2.2⟩ : S43)]) (wrap64 (x5 + 1))) else (none))) else (rosterref22_EncodeKeys.l0 k x0 y152 (wrap64 (x5 + 1))))) else (none))))) else (none)))))
end
def rosterref22_EncodeKeys.f (k : Nat) (l0 : List (S25)) : Option (ByteArray × Int) := (rosterref22_made.f 1).bind fun bt108 => (rosterref22_EncodeKeys.l0 k l0 (([(⟨bt108.1, bt108.2.1, bt108.2.2.1, bt108.2.2.2.1, bt108.2.2.2.2⟩ : S43)] : List (S43))) 0)
def rosterref22_EncodeKeys.T8 : Bool × List (List Nat × List Nat) := (true, [([], []), ([], []), ([], []), ([2], [2]), ([3, 1], [3]), ([1, 4], [1, 4]), ([0, 5, 4], [0, 5]), ([6, 6, 0, 1, 2, 3, 4, 5, 6], [0, 6])])
def rosterref22_EncodeKeys.B8 : List Nat := [0, 0, 0, 4, 14, 30, 63, 127]
theorem rosterref22_EncodeKeys.tab8 : rtab .any (opsOf Tryd.f6 8) = rosterref22_EncodeKeys.T8 := by kernel_rfl
theorem rosterref22_EncodeKeys.bits8 : waitsOk rosterref22_EncodeKeys.T8.2 rosterref22_EncodeKeys.B8 = true := by kernel_rfl
set_option maxHeartbeats 8000000 in
set_option maxRecDepth 100000 in
theorem rosterref22_EncodeKeys.calls (k : Nat) (A0 : Option Addr) (c0 : Nat) (l0 : List (S25)) (r1 : ByteArray) (r2 : Int) (w : World) (hr0 : Kd.C k25 w A0 l0.length l0) (hc0 : l0.length ≤ c0) (h : rosterref22_EncodeKeys.f k l0 = some (r1, r2)) (hT : W.TabW w) :
  Calls Tryd.prog 6 #[.slice A0 l0.length c0] w fun e w' => e = .returned (.tuple #[.string r1, .int .i64 r2]) ∧ Below w.heap.size w w' := by
 have HTB := Aside0.mk hT
 clear hT
 have hu25 := Tryd.underlying25
 have HR0 := Aside0.mk hr0
 have HC0 := Aside0.mk hc0
 clear hr0 hc0
 have HB := Aside0.mk (Below.refl w.heap.size w)
 have H : ((rosterref22_made.f 1).bind fun bt108 => (rosterref22_EncodeKeys.l0 k l0 (([(⟨bt108.1, bt108.2.1, bt108.2.2.1, bt108.2.2.2.1, bt108.2.2.2.2⟩ : S43)] : List (S43))) 0)) = some (r1, r2) := h
 clear h
 replace H := Option.bind_eq_some_iff.mp H
 obtain ⟨⟨t108, t109, t110, t111, t112⟩, A20, H⟩ := H
 replace H : (rosterref22_EncodeKeys.l0 k l0 (([(⟨t108, t109, t110, t111, t112⟩ : S43)] : List (S43))) 0) = some (r1, r2) := H
 have A2 := Aside0.mk A20
 clear A20
 obtain ⟨y113, hy113⟩ : ∃ y_ : List (S43), y_ = (([(⟨t108, t109, t110, t111, t112⟩ : S43)] : List (S43))) := ⟨_, rfl⟩
 replace H : (rosterref22_EncodeKeys.l0 k l0 y113 0) = some (r1, r2) := by first | (rw [hy113]; with_reducible exact H) | (have H2_ := (Option.bind_some _ _).symm.trans H; rw [hy113]; with_reducible exact H2_) | (have H2_ := (Option.bind_some _ _).symm.trans H; with_reducible exact H2_) | with_reducible exact H | (rw [hy113]; exact H) | exact H
 have Ny113 := Aside0.mk hy113
 clear hy113
 have H' := Aside0.mk H
 clear H
 go_enter Tryd.func6, Tryd.ntmps6
 go_wp2_with (first | ((with_reducible refine gate_callee (f := 17) rfl ?_); refine goesL_ (some 10) rfl rfl Tryd.func17 q9_ rfl #[.int .i64 1] rfl q84_ ?_; (with_reducible refine (rosterref22_made.calls 1 t108 t109 t110 t111 t112 _ A2.out).mono ?_); rintro e w3 ⟨rfl, hb⟩; refine ⟨_, rfl, ?_⟩; have n0_ := Aside0.mk (below_step q1_ hb); clear HB; have HB := n0_; clear n0_; (try clear hb); (try clear hb2); (try clear hk); (try clear hi)) | ((with_reducible refine gate_dst (N := 11) rfl ?_); refine Kd.R_lit k43 _ 43 ?hg (N := 11) ?hd (xs := ([(⟨t108, t109, t110, t111, t112⟩ : S43)] : List (S43))) (inner := [.int .i64 t108, .int .i64 t109, .bool t110, .int .i64 t111, .string t112]) (ok := fun _ => True) (okp := fun _ => True) ?hr ?hp (fun _ hk => hk) trivial (Below.refl _ _) (Nat.le_refl _) q28_ ?_; (case hd => rfl); (case hg => rfl); (case hr => first | (go_simp; done) | (go_simp; rfl)); (case hp => exact (Reps.c5 (show Kd.M k43 _ _ _ (⟨t108, t109, t110, t111, t112⟩ : S43) [.int .i64 t108, .int .i64 t109, .bool t110, .int .i64 t111, .string t112] from (k43_mkM _ _ _ (⟨t108, t109, t110, t111, t112⟩ : S43) )) (Reps.none _ _))); intro v114 w4 ho5 hb hg_ hnew_; clear hg_ hnew_; (first | rw [← Ny113.out] at ho5 | (simp only [Int.reduceToNat] at ho5; rw [← Ny113.out] at ho5)); have n0_ := Aside0.mk (Kd.R_lower ho5 (below_size q1_)); have n1_ := Aside0.mk (below_step q1_ hb); clear HB; have HO115 := n0_; have HB := n1_; clear n0_ n1_; clear hb ho5))
 go_loopg [4, 5] k (fun kq v4 v5 w' => ∃ (x4_1 : List (S43)) (x5_1 : Int), v5 = .int .i64 x5_1 ∧ Aside0 (rosterref22_EncodeKeys.l0 kq l0 x4_1 x5_1 = some (r1, r2)) ∧ Aside0 (kq ≤ k) ∧ Aside0 (Kd.R k43 43 w' w.heap.size (fun _ => True) v4 x4_1) ∧ Aside0 (Below w.heap.size w w'))
 case atStart => exact ⟨(y113), (0), q3_, H', ⟨Nat.le_refl _⟩, ⟨by (with_reducible repeat (first | apply Kd.R_alloc | apply Kd.R_drewN | apply Kd.R_drew)); exact HO115.out⟩, ⟨q1_⟩⟩
 case round =>
  clear H'
  try clear c1
  try clear p2
  try clear c5
  obtain ⟨x4_1, x5_1, rfl, HA, HK1, HO_4, HB⟩ := hrel
  cases gk with
  | zero => exact absurd HA.out (by simp [rosterref22_EncodeKeys.l0])
  | succ k1 =>
   have H := HA.out
   clear HA
   simp only [rosterref22_EncodeKeys.l0] at H
   by_cases c6 : x5_1 < (l0.length : Int)
   ·rw [if_pos c6] at H
    have c6b0 : decide (x5_1 < (l0.length : Int)) = true := decide_eq_true c6
    clear c6
    by_cases c7 : 0 ≤ x5_1
    ·rw [if_pos c7] at H
     have c7b0 : decide (0 ≤ x5_1) = true := decide_eq_true c7
     clear c7
     have HC8 := Aside0.mk H
     clear H
     have p119 : 0 ≤ (x5_1 : Int) := of_decide_eq_true q6_
     have q119 : x5_1 < (l0.length : Int) := of_decide_eq_true q6_
     obtain ⟨ad119, e119, hx119_0, hx119_1, hx119_2⟩ := at_T25 HR0.out x5_1 p119 q119
     cases e119
     replace hx119_0 := cellB_ HB.out hx119_0
     replace hx119_1 := cellB_ HB.out hx119_1
     replace hx119_2 := cellB_ HB.out hx119_2
     replace p119 := eq_true p119
     replace q119 := eq_true q119
     go_upto_region 6 with (first | ((with_reducible refine gate_dst (N := 6) rfl ?_); refine box_event ?hg (N := 6) ?hd (cs := #[.string (⟨#[]⟩ : ByteArray), .string (⟨#[]⟩ : ByteArray), .bool false]) (t := 25) ?hr ?_; (case hd => rfl); (case hg => rfl); (case hr => first | (go_simp; done) | (go_simp; rfl)); intro gb120 hg w9 hbox hb; have n0_ := Aside0.mk (Kd.R_below q8_ hb); have n1_ := Aside0.mk (below_step q1_ hb); have n2_ := Aside0.mk (hbox); have n3_ := Aside0.mk ((by rw [hg]; exact (below_size q1_) : w.heap.size ≤ gb120)); have n4_ := Aside0.mk ((by rw [hg]; exact (below_size q1_) : w.heap.size ≤ gb120)); clear HO_4; clear HB; have HO_4 := n0_; have HB := n1_; have BK120 := n2_; have GW120 := n3_; have GE120 := n4_; clear n0_ n1_ n2_ n3_ n4_; clear hb hbox hg; obtain ⟨hcz10_0, hcz10_1, hcz10_2⟩ := cells3_ BK120.out; obtain ⟨hfz10_0, hfz10_1, hfz10_2⟩ := frz3_ BK120.out))
     (try simp only [Act.put, List.setIfInBounds_toArray, List.set_cons_zero, List.set_cons_succ])
     go_cut [31] (fun v31 wc => ∃ (kq : Nat) (x31_7 : Bool), v31 = .bool x31_7 ∧ Aside0 (rosterref22_EncodeKeys.j1 kq l0 x4_1 x5_1 x31_7 ((rd_T25 l0 x5_1).f0) ((rd_T25 l0 x5_1).f1) ((rd_T25 l0 x5_1).f2) = some (r1, r2)) ∧ Aside0 (kq ≤ k1) ∧ Aside0 (Kd.R k43 43 wc w.heap.size (fun _ => True) u4 x4_1) ∧ Aside0 (wc.heap[gb120]? = some (.cells #[.string ((rd_T25 l0 x5_1).f0), .string ((rd_T25 l0 x5_1).f1), .bool ((rd_T25 l0 x5_1).f2)] 25 (0, 0))) ∧ Aside0 (Below w.heap.size w wc))
     case first =>
      have H := HC8.out
      clear HC8
      replace H := Option.bind_eq_some_iff.mp H
      obtain ⟨t121, A110, H⟩ := H
      replace H : (if t121 = true then ((rosterref22_isUTF8.f ((rd_T25 l0 x5_1).f1)).bind fun t122 => (rosterref22_EncodeKeys.j1 k1 l0 x4_1 x5_1 (!t122) ((rd_T25 l0 x5_1).f0) ((rd_T25 l0 x5_1).f1) ((rd_T25 l0 x5_1).f2))) else (rosterref22_EncodeKeys.j1 k1 l0 x4_1 x5_1 true ((rd_T25 l0 x5_1).f0) ((rd_T25 l0 x5_1).f1) ((rd_T25 l0 x5_1).f2))) = some (r1, r2) := H
      have A11 := Aside0.mk A110
      clear A110
      by_cases c12 : t121 = true
      ·subst c12
       have H1 : ((rosterref22_isUTF8.f ((rd_T25 l0 x5_1).f1)).bind fun t122 => (rosterref22_EncodeKeys.j1 k1 l0 x4_1 x5_1 (!t122) ((rd_T25 l0 x5_1).f0) ((rd_T25 l0 x5_1).f1) ((rd_T25 l0 x5_1).f2))) = some (r1, r2) := by rw [if_pos rfl] at H; exact H
       clear H
       have H := H1
       clear H1
       replace H := Option.bind_eq_some_iff.mp H
       obtain ⟨t122, A130, H⟩ := H
       replace H : (rosterref22_EncodeKeys.j1 k1 l0 x4_1 x5_1 (!t122) ((rd_T25 l0 x5_1).f0) ((rd_T25 l0 x5_1).f1) ((rd_T25 l0 x5_1).f2)) = some (r1, r2) := H
       have A13 := Aside0.mk A130
       clear A130
       have H' := Aside0.mk H
       clear H
       obtain ⟨hcz14_0, hcz14_1, hcz14_2⟩ := cells3_ BK120.out
       obtain ⟨hfz14_0, hfz14_1, hfz14_2⟩ := frz3_ BK120.out
       go_wp2_with (first | ((with_reducible refine gate_callee (f := 18) rfl ?_); refine goesL_ (some 24) rfl rfl Tryd.func18 q9_ rfl #[.string ((rd_T25 l0 x5_1).f0)] rfl q84_ ?_; (with_reducible refine (rosterref22_isUTF8.calls ((rd_T25 l0 x5_1).f0) true _ A11.out ?sideT).mono ?_); (case sideT => exact HTB.out.at q86_); rintro e w' ⟨rfl, ⟨nd, rfl⟩⟩; refine ⟨_, rfl, ?_⟩) | (go_at_call 18; (with_reducible refine (rosterref22_isUTF8.calls ((rd_T25 l0 x5_1).f1) t122 _ A13.out ?sideT).mono ?_); (case sideT => exact HTB.out.at q86_); rintro e w' ⟨rfl, ⟨nd, rfl⟩⟩))
       go_meet
       case rel => exact ⟨_, (!t122), q3_, H', ⟨q72_⟩, ⟨q91_⟩, ⟨q105_⟩, ⟨q5_⟩⟩
      ·replace c12 := Bool.eq_false_iff.mpr c12
       subst c12
       have H1 : (rosterref22_EncodeKeys.j1 k1 l0 x4_1 x5_1 true ((rd_T25 l0 x5_1).f0) ((rd_T25 l0 x5_1).f1) ((rd_T25 l0 x5_1).f2)) = some (r1, r2) := by rw [if_neg (show ¬ (false = true) by decide)] at H; exact H
       clear H
       have H := H1
       clear H1
       have H' := Aside0.mk H
       clear H
       obtain ⟨hcz15_0, hcz15_1, hcz15_2⟩ := cells3_ BK120.out
       obtain ⟨hfz15_0, hfz15_1, hfz15_2⟩ := frz3_ BK120.out
       go_wp2_with (first | ((with_reducible refine gate_callee (f := 18) rfl ?_); refine goesL_ (some 24) rfl rfl Tryd.func18 q9_ rfl #[.string ((rd_T25 l0 x5_1).f0)] rfl q84_ ?_; (with_reducible refine (rosterref22_isUTF8.calls ((rd_T25 l0 x5_1).f0) false _ A11.out ?sideT).mono ?_); (case sideT => exact HTB.out.at q86_); rintro e w' ⟨rfl, ⟨nd, rfl⟩⟩; refine ⟨_, rfl, ?_⟩))
       go_meet
       case rel => exact ⟨_, (true), q3_, H', ⟨q72_⟩, ⟨q91_⟩, ⟨q105_⟩, ⟨q5_⟩⟩
     case rest =>
      clear HC8
      try clear c1
      try clear p1
      try clear q1
      try clear hx1
      try clear p2
      try clear c5
      try clear c6
      try clear c6b0
      try clear c7
      try clear c7b0
      try clear p11
      try clear q11
      try clear hx11
      try clear c12
      try clear hcz10_0 hcz10_1 hcz10_2
      try clear hcz14_0 hcz14_1 hcz14_2
      try clear hcz15_0 hcz15_1 hcz15_2
      try clear hfz10_0 hfz10_1 hfz10_2
      try clear hfz14_0 hfz14_1 hfz14_2
      try clear hfz15_0 hfz15_1 hfz15_2
      try clear hx119_0
      try clear hx119_1
      try clear hx119_2
      try clear p119
      try clear p2
      try clear q119
      obtain ⟨kq, x31_7, rfl, HA, HJ7, HO_4, BK120, HB⟩ := hcut
      cases kq with
      | zero => exact absurd HA.out (by simp [rosterref22_EncodeKeys.j1])
      | succ kj7 =>
       have H := HA.out
       clear HA
       simp only [rosterref22_EncodeKeys.j1] at H
       by_cases c16 : x31_7 = true
       ·subst c16
        have H1 : (some ((⟨#[]⟩ : ByteArray), 224)) = some (r1, r2) := by rw [if_pos rfl] at H; exact H
        clear H
        have H := H1
        clear H1
        simp only [Option.some.injEq, Prod.mk.injEq] at H
        obtain ⟨rfl, rfl⟩ := H
        go_wp2
        go_ret2
        exact ⟨q4_, q5_⟩
       ·replace c16 := Bool.eq_false_iff.mpr c16
        subst c16
        have H1 : ((rosterref22_made.f 2).bind fun bt123 => ((rosterref22_leaf.f 3 0 4 ((rd_T25 l0 x5_1).f0)).bind fun bt128 => ((some (([(⟨bt123.1, bt123.2.1, bt123.2.2.1, bt123.2.2.2.1, bt123.2.2.2.2⟩ : S43), (⟨bt128.1, bt128.2.1, bt128.2.2.1, bt128.2.2.2.1, bt128.2.2.2.2⟩ : S43)] : List (S43)) : List (S43))).bind fun y133 => (if x4_1.length + y133.length < 2932031007402 then ((some (x4_1 ++ y133 : List (S43))).bind fun y136 => (if ((rd_T25 l0 x5_1).f1).toList = ([] : List UInt8) then (if ((rd_T25 l0 x5_1).f2) = true then ((rosterref22_leaf.f 3 2 1 (⟨#[255]⟩ : ByteArray)).bind fun bt139 => (if y136.length < 2932031007402 then (rosterref22_EncodeKeys.l0 kj7 l0 (y136 ++ [(⟨bt139.1, bt139.2.1, bt139.2.2.1, bt139.2.2.2.1, bt139.2.2.2.2⟩ : S43)]) (wrap64 (x5_1 + 1))) else (none))) else (rosterref22_EncodeKeys.l0 kj7 l0 y136 (wrap64 (x5_1 + 1)))) else ((rosterref22_leaf.f 3 2 0 ((rd_T25 l0 x5_1).f1)).bind fun bt147 => (if y136.length < 2932031007402 then ((some (y136 ++ [(⟨bt147.1, bt147.2.1, bt147.2.2.1, bt147.2.2.2.1, bt147.2.2.2.2⟩ : S43)] : List (S43))).bind fun y152 => (if ((rd_T25 l0 x5_1).f2) = true then ((rosterref22_leaf.f 3 2 1 (⟨#[255]⟩ : ByteArray)).bind fun bt155 => (if y152.length < 2932031007402 then (rosterref22_EncodeKeys.l0 kj7 l0 (y152 ++ [(⟨bt155.1, bt155.2.1, bt155.2.2.1, bt155.2.2.2.1, bt155.2.2.2.2⟩ : S43)]) (wrap64 (x5_1 + 1))) else (none))) else (rosterref22_EncodeKeys.l0 kj7 l0 y152 (wrap64 (x5_1 + 1))))) else (none))))) else (none))))) = some (r1, r2) := by rw [if_neg (show ¬ (false = true) by decide)] at H; exact H
        clear H
        have H := H1
        clear H1
        replace H := Option.bind_eq_some_iff.mp H
        obtain ⟨⟨t123, t124, t125, t126, t127⟩, A170, H⟩ := H
        replace H : ((rosterref22_leaf.f 3 0 4 ((rd_T25 l0 x5_1).f0)).bind fun bt128 => ((some (([(⟨t123, t124, t125, t126, t127⟩ : S43), (⟨bt128.1, bt128.2.1, bt128.2.2.1, bt128.2.2.2.1, bt128.2.2.2.2⟩ : S43)] : List (S43)) : List (S43))).bind fun y133 => (if x4_1.length + y133.length < 2932031007402 then ((some (x4_1 ++ y133 : List (S43))).bind fun y136 => (if ((rd_T25 l0 x5_1).f1).toList = ([] : List UInt8) then (if ((rd_T25 l0 x5_1).f2) = true then ((rosterref22_leaf.f 3 2 1 (⟨#[255]⟩ : ByteArray)).bind fun bt139 => (if y136.length < 2932031007402 then (rosterref22_EncodeKeys.l0 kj7 l0 (y136 ++ [(⟨bt139.1, bt139.2.1, bt139.2.2.1, bt139.2.2.2.1, bt139.2.2.2.2⟩ : S43)]) (wrap64 (x5_1 + 1))) else (none))) else (rosterref22_EncodeKeys.l0 kj7 l0 y136 (wrap64 (x5_1 + 1)))) else ((rosterref22_leaf.f 3 2 0 ((rd_T25 l0 x5_1).f1)).bind fun bt147 => (if y136.length < 2932031007402 then ((some (y136 ++ [(⟨bt147.1, bt147.2.1, bt147.2.2.1, bt147.2.2.2.1, bt147.2.2.2.2⟩ : S43)] : List (S43))).bind fun y152 => (if ((rd_T25 l0 x5_1).f2) = true then ((rosterref22_leaf.f 3 2 1 (⟨#[255]⟩ : ByteArray)).bind fun bt155 => (if y152.length < 2932031007402 then (rosterref22_EncodeKeys.l0 kj7 l0 (y152 ++ [(⟨bt155.1, bt155.2.1, bt155.2.2.1, bt155.2.2.2.1, bt155.2.2.2.2⟩ : S43)]) (wrap64 (x5_1 + 1))) else (none))) else (rosterref22_EncodeKeys.l0 kj7 l0 y152 (wrap64 (x5_1 + 1))))) else (none))))) else (none)))) = some (r1, r2) := H
        have A17 := Aside0.mk A170
        clear A170
        replace H := Option.bind_eq_some_iff.mp H
        obtain ⟨⟨t128, t129, t130, t131, t132⟩, A180, H⟩ := H
        replace H : ((some (([(⟨t123, t124, t125, t126, t127⟩ : S43), (⟨t128, t129, t130, t131, t132⟩ : S43)] : List (S43)) : List (S43))).bind fun y133 => (if x4_1.length + y133.length < 2932031007402 then ((some (x4_1 ++ y133 : List (S43))).bind fun y136 => (if ((rd_T25 l0 x5_1).f1).toList = ([] : List UInt8) then (if ((rd_T25 l0 x5_1).f2) = true then ((rosterref22_leaf.f 3 2 1 (⟨#[255]⟩ : ByteArray)).bind fun bt139 => (if y136.length < 2932031007402 then (rosterref22_EncodeKeys.l0 kj7 l0 (y136 ++ [(⟨bt139.1, bt139.2.1, bt139.2.2.1, bt139.2.2.2.1, bt139.2.2.2.2⟩ : S43)]) (wrap64 (x5_1 + 1))) else (none))) else (rosterref22_EncodeKeys.l0 kj7 l0 y136 (wrap64 (x5_1 + 1)))) else ((rosterref22_leaf.f 3 2 0 ((rd_T25 l0 x5_1).f1)).bind fun bt147 => (if y136.length < 2932031007402 then ((some (y136 ++ [(⟨bt147.1, bt147.2.1, bt147.2.2.1, bt147.2.2.2.1, bt147.2.2.2.2⟩ : S43)] : List (S43))).bind fun y152 => (if ((rd_T25 l0 x5_1).f2) = true then ((rosterref22_leaf.f 3 2 1 (⟨#[255]⟩ : ByteArray)).bind fun bt155 => (if y152.length < 2932031007402 then (rosterref22_EncodeKeys.l0 kj7 l0 (y152 ++ [(⟨bt155.1, bt155.2.1, bt155.2.2.1, bt155.2.2.2.1, bt155.2.2.2.2⟩ : S43)]) (wrap64 (x5_1 + 1))) else (none))) else (rosterref22_EncodeKeys.l0 kj7 l0 y152 (wrap64 (x5_1 + 1))))) else (none))))) else (none))) = some (r1, r2) := H
        have A18 := Aside0.mk A180
        clear A180
        obtain ⟨y133, hy133⟩ : ∃ y_ : List (S43), y_ = (([(⟨t123, t124, t125, t126, t127⟩ : S43), (⟨t128, t129, t130, t131, t132⟩ : S43)] : List (S43))) := ⟨_, rfl⟩
        replace H : (if x4_1.length + y133.length < 2932031007402 then ((some (x4_1 ++ y133 : List (S43))).bind fun y136 => (if ((rd_T25 l0 x5_1).f1).toList = ([] : List UInt8) then (if ((rd_T25 l0 x5_1).f2) = true then ((rosterref22_leaf.f 3 2 1 (⟨#[255]⟩ : ByteArray)).bind fun bt139 => (if y136.length < 2932031007402 then (rosterref22_EncodeKeys.l0 kj7 l0 (y136 ++ [(⟨bt139.1, bt139.2.1, bt139.2.2.1, bt139.2.2.2.1, bt139.2.2.2.2⟩ : S43)]) (wrap64 (x5_1 + 1))) else (none))) else (rosterref22_EncodeKeys.l0 kj7 l0 y136 (wrap64 (x5_1 + 1)))) else ((rosterref22_leaf.f 3 2 0 ((rd_T25 l0 x5_1).f1)).bind fun bt147 => (if y136.length < 2932031007402 then ((some (y136 ++ [(⟨bt147.1, bt147.2.1, bt147.2.2.1, bt147.2.2.2.1, bt147.2.2.2.2⟩ : S43)] : List (S43))).bind fun y152 => (if ((rd_T25 l0 x5_1).f2) = true then ((rosterref22_leaf.f 3 2 1 (⟨#[255]⟩ : ByteArray)).bind fun bt155 => (if y152.length < 2932031007402 then (rosterref22_EncodeKeys.l0 kj7 l0 (y152 ++ [(⟨bt155.1, bt155.2.1, bt155.2.2.1, bt155.2.2.2.1, bt155.2.2.2.2⟩ : S43)]) (wrap64 (x5_1 + 1))) else (none))) else (rosterref22_EncodeKeys.l0 kj7 l0 y152 (wrap64 (x5_1 + 1))))) else (none))))) else (none)) = some (r1, r2) := by first | (rw [hy133]; with_reducible exact H) | (have H2_ := (Option.bind_some _ _).symm.trans H; rw [hy133]; with_reducible exact H2_) | (have H2_ := (Option.bind_some _ _).symm.trans H; with_reducible exact H2_) | with_reducible exact H | (rw [hy133]; exact H) | exact H
        have Ny133 := Aside0.mk hy133
        clear hy133
        by_cases c19 : x4_1.length + y133.length < 2932031007402
        ·rw [if_pos c19] at H
         have LMc19 := Aside0.mk c19
         clear c19
         obtain ⟨y136, hy136⟩ : ∃ y_ : List (S43), y_ = (x4_1 ++ y133) := ⟨_, rfl⟩
         replace H : (if ((rd_T25 l0 x5_1).f1).toList = ([] : List UInt8) then (if ((rd_T25 l0 x5_1).f2) = true then ((rosterref22_leaf.f 3 2 1 (⟨#[255]⟩ : ByteArray)).bind fun bt139 => (if y136.length < 2932031007402 then (rosterref22_EncodeKeys.l0 kj7 l0 (y136 ++ [(⟨bt139.1, bt139.2.1, bt139.2.2.1, bt139.2.2.2.1, bt139.2.2.2.2⟩ : S43)]) (wrap64 (x5_1 + 1))) else (none))) else (rosterref22_EncodeKeys.l0 kj7 l0 y136 (wrap64 (x5_1 + 1)))) else ((rosterref22_leaf.f 3 2 0 ((rd_T25 l0 x5_1).f1)).bind fun bt147 => (if y136.length < 2932031007402 then ((some (y136 ++ [(⟨bt147.1, bt147.2.1, bt147.2.2.1, bt147.2.2.2.1, bt147.2.2.2.2⟩ : S43)] : List (S43))).bind fun y152 => (if ((rd_T25 l0 x5_1).f2) = true then ((rosterref22_leaf.f 3 2 1 (⟨#[255]⟩ : ByteArray)).bind fun bt155 => (if y152.length < 2932031007402 then (rosterref22_EncodeKeys.l0 kj7 l0 (y152 ++ [(⟨bt155.1, bt155.2.1, bt155.2.2.1, bt155.2.2.2.1, bt155.2.2.2.2⟩ : S43)]) (wrap64 (x5_1 + 1))) else (none))) else (rosterref22_EncodeKeys.l0 kj7 l0 y152 (wrap64 (x5_1 + 1))))) else (none)))) = some (r1, r2) := by first | (rw [hy136]; with_reducible exact H) | (have H2_ := (Option.bind_some _ _).symm.trans H; rw [hy136]; with_reducible exact H2_) | (have H2_ := (Option.bind_some _ _).symm.trans H; with_reducible exact H2_) | with_reducible exact H | (rw [hy136]; exact H) | exact H
         have Ny136 := Aside0.mk hy136
         clear hy136
         by_cases c20 : ((rd_T25 l0 x5_1).f1).toList = ([] : List UInt8)
         ·rw [if_pos c20] at H
          have c20b0 : (((rd_T25 l0 x5_1).f1).toList == ([] : List UInt8)) = true := beq_iff_eq.mpr c20
          try have c20be := (show ∀ (l_ : List UInt8) b_, (l_ == ([] : List UInt8)) = b_ → l_.isEmpty = b_ from fun l_ b_ h_ => by subst h_; cases l_ <;> rfl) _ _ c20b0
          have c20b1 : (((rd_T25 l0 x5_1).f1).toList != ([] : List UInt8)) = false := bne_eq_false_iff_eq.mpr c20
          clear c20
          by_cases c21 : ((rd_T25 l0 x5_1).f2) = true
          ·rw [if_pos c21] at H
           have c21b0 : ((rd_T25 l0 x5_1).f2) = true := c21
           clear c21
           replace H := Option.bind_eq_some_iff.mp H
           obtain ⟨⟨t139, t140, t141, t142, t143⟩, A220, H⟩ := H
           replace H : (if y136.length < 2932031007402 then (rosterref22_EncodeKeys.l0 kj7 l0 (y136 ++ [(⟨t139, t140, t141, t142, t143⟩ : S43)]) (wrap64 (x5_1 + 1))) else (none)) = some (r1, r2) := H
           have A22 := Aside0.mk A220
           clear A220
           by_cases c23 : y136.length < 2932031007402
           ·rw [if_pos c23] at H
            have LMc23 := Aside0.mk c23
            clear c23
            obtain ⟨y144, hy144⟩ : ∃ y_ : List (S43), y_ = (y136 ++ [(⟨t139, t140, t141, t142, t143⟩ : S43)]) := ⟨_, rfl⟩
            replace H : (rosterref22_EncodeKeys.l0 kj7 l0 y144 (wrap64 (x5_1 + 1))) = some (r1, r2) := by first | (rw [hy144]; with_reducible exact H) | (have H2_ := (Option.bind_some _ _).symm.trans H; rw [hy144]; with_reducible exact H2_) | (have H2_ := (Option.bind_some _ _).symm.trans H; with_reducible exact H2_) | with_reducible exact H | (rw [hy144]; exact H) | exact H
            have Ny144 := Aside0.mk hy144
            clear hy144
            have H' := Aside0.mk H
            clear H
            try go_wp2
            have n0_ := Aside0.mk (Kd.R_drew HO_4.out)
            have n1_ := Aside0.mk (blk_drew BK120.out)
            have n2_ := Aside0.mk (below_drew1 HB.out)
            clear HO_4
            clear BK120
            clear HB
            have HO_4 := n0_
            have BK120 := n1_
            have HB := n2_
            clear n0_ n1_ n2_
            refine start_ (n := 8) (S := fun w' => w'.cell? ⟨gb120, 0, none⟩ = some (.string ((rd_T25 l0 x5_1).f0)) ∧ w'.cell? ⟨gb120, 1, none⟩ = some (.string ((rd_T25 l0 x5_1).f1)) ∧ w'.cell? ⟨gb120, 2, none⟩ = some (.bool ((rd_T25 l0 x5_1).f2))) (ds := []) #[false, false, false, false, false, false, false, false] q9_ rfl rfl ⟨(blk_cell BK120.out 0).trans rfl, (blk_cell BK120.out 1).trans rfl, (blk_cell BK120.out 2).trans rfl⟩ (fun hHeld => ?_); refine with_tabW rosterref22_EncodeKeys.tab8 rosterref22_EncodeKeys.bits8 (fun HT_ HW_ => ?_)
            generalize wc.drew = w24 at HO_4 BK120 HB hHeld ⊢
            refine pure_ (i := 0) (N := some 32) (v := ?_) (a' := ?_) #[true, false, false, false, false, false, false, false] rfl rfl (any_of HT_.out q9_) (fun _ _ _ h => h) (Or.inl ⟨q43_, ?_⟩) ?_ ?_
            rotate_left
            ·intro w'
             go_simp
             with_reducible rfl
            rotate_left
            ·simp only [Act.put, List.setIfInBounds_toArray, List.set_cons_zero, List.set_cons_succ, i64_w, i32_w]
             rfl
            refine pure_ (i := 2) (N := some 34) (v := ?_) (a' := ?_) #[true, false, true, false, false, false, false, false] rfl rfl (any_of HT_.out q9_) (fun _ _ _ h => h) (Or.inl ⟨q43_, ?_⟩) ?_ ?_
            rotate_left
            ·intro w'
             go_simp
             with_reducible rfl
            rotate_left
            ·simp only [Act.put, List.setIfInBounds_toArray, List.set_cons_zero, List.set_cons_succ, i64_w, i32_w]
             rfl
            refine take_ (i := 3) (N := some 35) (v := ?_) (a' := ?_) #[true, false, true, true, false, false, false, false] rfl rfl (take_ofW HT_.out HW_.out q9_) (fun _ _ _ h => h) (Or.inl ⟨q43_, ?_⟩) hHeld ?_ ?_
            rotate_left
            ·rintro w' ⟨s0, s1, s2⟩
             go_simp
             with_reducible rfl
            rotate_left
            ·simp only [Act.put, List.setIfInBounds_toArray, List.set_cons_zero, List.set_cons_succ, i64_w, i32_w]
             rfl
            refine one_ (i := 1) (N := some 33) #[true, true, true, true, false, false, false, false] rfl rfl (one_of HT_.out q9_) q19_ (fun K hK => ?_)
            refine goes_ Tryd.func17 q9_ rfl #[.int .i64 2] q43_ rfl rfl q84_ ?_
            with_reducible refine (rosterref22_made.calls 2 t123 t124 t125 t126 t127 _ A17.out).mono ?_
            rintro e w25 ⟨rfl, hb⟩
            refine ⟨_, rfl, ?_⟩
            have n0_ := Aside0.mk (Kd.R_below q8_ hb)
            have n1_ := Aside0.mk (blk_below (g := gb120) (o := .cells #[.string ((rd_T25 l0 x5_1).f0), .string ((rd_T25 l0 x5_1).f1), .bool ((rd_T25 l0 x5_1).f2)] 25 (0, 0)) q14_ hb)
            have n2_ := Aside0.mk (below_step q5_ hb)
            clear HO_4
            clear BK120
            clear HB
            have HO_4 := n0_
            have BK120 := n1_
            have HB := n2_
            clear n0_ n1_ n2_
            (try clear hb)
            (try clear hb2)
            (try clear hk)
            (try clear hi)
            refine hK.out _ _ ⟨(blk_cell BK120.out 0).trans rfl, (blk_cell BK120.out 1).trans rfl, (blk_cell BK120.out 2).trans rfl⟩ (fun hHeld => ?_)
            clear hK K
            refine norm_ (a' := ?_) ?_ ?_
            rotate_left
            ·show Act.put _ (some 33) _ = _
             simp only [Act.put, List.setIfInBounds_toArray, List.set_cons_zero, List.set_cons_succ, i64_w, i32_w]
             rfl
            refine one_ (i := 4) (N := some 36) #[true, true, true, true, true, false, false, false] rfl rfl (one_of HT_.out q9_) q19_ (fun K hK => ?_)
            refine goes_ Tryd.func19 q9_ rfl #[.int .i64 3, .int .i64 0, .int .i64 4, .string ((rd_T25 l0 x5_1).f0)] q43_ rfl rfl q84_ ?_
            with_reducible refine (rosterref22_leaf.calls 3 0 4 ((rd_T25 l0 x5_1).f0) t128 t129 t130 t131 t132 _ A18.out).mono ?_
            rintro e w26 ⟨rfl, hb⟩
            refine ⟨_, rfl, ?_⟩
            have n0_ := Aside0.mk (Kd.R_below q8_ hb)
            have n1_ := Aside0.mk (blk_below (g := gb120) (o := .cells #[.string ((rd_T25 l0 x5_1).f0), .string ((rd_T25 l0 x5_1).f1), .bool ((rd_T25 l0 x5_1).f2)] 25 (0, 0)) q14_ hb)
            have n2_ := Aside0.mk (below_step q5_ hb)
            clear HO_4
            clear BK120
            clear HB
            have HO_4 := n0_
            have BK120 := n1_
            have HB := n2_
            clear n0_ n1_ n2_
            (try clear hb)
            (try clear hb2)
            (try clear hk)
            (try clear hi)
            refine hK.out _ _ ⟨(blk_cell BK120.out 0).trans rfl, (blk_cell BK120.out 1).trans rfl, (blk_cell BK120.out 2).trans rfl⟩ (fun hHeld => ?_)
            clear hK K
            refine norm_ (a' := ?_) ?_ ?_
            rotate_left
            ·show Act.put _ (some 36) _ = _
             simp only [Act.put, List.setIfInBounds_toArray, List.set_cons_zero, List.set_cons_succ, i64_w, i32_w]
             rfl
            refine one_ (i := 5) (N := some 37) #[true, true, true, true, true, true, false, false] rfl rfl (one_of HT_.out q9_) q19_ (fun K hK => ?_)
            refine Kd.R_lit_step k43 _ 43 ?hg (N := 37) ?hd (xs := ([(⟨t123, t124, t125, t126, t127⟩ : S43), (⟨t128, t129, t130, t131, t132⟩ : S43)] : List (S43))) (inner := [.int .i64 t123, .int .i64 t124, .bool t125, .int .i64 t126, .string t127, .int .i64 t128, .int .i64 t129, .bool t130, .int .i64 t131, .string t132]) (ok := fun _ => True) (okp := fun _ => True) ?hr ?hp (fun _ hk => hk) trivial (Below.refl _ _) (Nat.le_refl _) q28_ ?_; (case hd => rfl); (case hg => rfl); (case hr => first | (go_simp; done) | (go_simp; rfl)); (case hp => exact (Reps.c5 (show Kd.M k43 _ _ _ (⟨t123, t124, t125, t126, t127⟩ : S43) [.int .i64 t123, .int .i64 t124, .bool t125, .int .i64 t126, .string t127] from (k43_mkM _ _ _ (⟨t123, t124, t125, t126, t127⟩ : S43) )) (Reps.c5 (show Kd.M k43 _ _ _ (⟨t128, t129, t130, t131, t132⟩ : S43) [.int .i64 t128, .int .i64 t129, .bool t130, .int .i64 t131, .string t132] from (k43_mkM _ _ _ (⟨t128, t129, t130, t131, t132⟩ : S43) )) (Reps.none _ _))))
            intro v134 w27 ho28 hb hg_ hnew_
            clear hg_ hnew_
            (first | rw [← Ny133.out] at ho28 | (simp only [Int.reduceToNat] at ho28; rw [← Ny133.out] at ho28))
            have n0_ := Aside0.mk (Kd.R_elder' q8_ (Kd.R_base ho28) hb)
            have n1_ := Aside0.mk (Kd.R_lower (Kd.R_new' ho28 (Kd.R_lt q8_)) (below_size q5_))
            have n2_ := Aside0.mk (blk_below (g := gb120) (o := .cells #[.string ((rd_T25 l0 x5_1).f0), .string ((rd_T25 l0 x5_1).f1), .bool ((rd_T25 l0 x5_1).f2)] 25 (0, 0)) q14_ hb)
            have n3_ := Aside0.mk (below_step q5_ hb)
            clear HO_4
            clear BK120
            clear HB
            have HO_4 := n0_
            have HO135 := n1_
            have BK120 := n2_
            have HB := n3_
            clear n0_ n1_ n2_ n3_
            clear hb ho28
            obtain ⟨Ao30, co30, eo30⟩ := Kd.R_slice HO135.out
            (first | subst eo30 | (injection eo30 with f1_ f2_ f3_; have f4_ := f1_.symm; have f5_ := f3_.symm; clear f1_ f2_ f3_; subst f4_; subst f5_))
            refine hK.out _ _ ⟨(blk_cell BK120.out 0).trans rfl, (blk_cell BK120.out 1).trans rfl, (blk_cell BK120.out 2).trans rfl⟩ (fun hHeld => ?_)
            clear hK K
            refine norm_ (a' := ?_) ?_ ?_
            rotate_left
            ·show Act.put _ (some 37) _ = _
             simp only [Act.put, List.setIfInBounds_toArray, List.set_cons_zero, List.set_cons_succ, i64_w, i32_w]
             rfl
            refine one_ (i := 6) (N := some 38) #[true, true, true, true, true, true, true, false] rfl rfl (one_of HT_.out q9_) q19_ (fun K hK => ?_)
            refine Kd.R_append_rows_step k43 (w0 := w) w.heap.size q43_ (.tmp 32) (.tmp 37) 45 43 (.agg #[(.int .i64 0), (.int .i64 0), (.bool false), (.int .i64 0), (.string ⟨#[]⟩)]) 48 rfl Tryd.underlying45 info43 rfl q19_ q2_ u4 x4_1 y133 _ _ _ (fun k_ => some k_ ≠ (.slice Ao30 y133.length co30 : Value).ownBlock) (fun _ => False) rfl rfl ?aO ?aR (fun _ _ h => h) (fun _ h => h.elim) ?aF ?aB ?aS ?aL ?_
            (case aR => repeat (first | exact (Kd.R_reads' HO135.out).2.2 | (with_reducible refine Kd.C_alloc ?_ _) | (with_reducible refine Kd.C_drewN ?_ _) | (with_reducible refine Kd.C_drew ?_)))
            (case aB => exact q5_)
            (case aF => exact (fun k_ hk => Kd.fresh' (Kd.R_lt q24_) k_ hk))
            (case aO => exact q53_)
            (case aS => exact (below_size q5_))
            (case aL => have := LMc19.out; omega)
            intro v137 w29 ho hb hg hat
            rw [← Ny136.out] at ho
            have n0_ := Aside0.mk (blk_grown (g := gb120) (o := .cells #[.string ((rd_T25 l0 x5_1).f0), .string ((rd_T25 l0 x5_1).f1), .bool ((rd_T25 l0 x5_1).f2)] 25 (0, 0)) q14_ hg (Kd.R_ne HO_4.out BK120.out q19_))
            have n1_ := Aside0.mk (Kd.R_after (ok := (fun _ => True)) q24_ hg hat)
            have n2_ := Aside0.mk (hb)
            have n3_ := Aside0.mk (ho)
            clear BK120
            clear HO135
            clear HB
            clear HO_4
            have BK120 := n0_
            have HO135 := n1_
            have HB := n2_
            have HO138 := n3_
            clear n0_ n1_ n2_ n3_
            clear ho hb hg hat
            refine hK.out _ _ ⟨(blk_cell BK120.out 0).trans rfl, (blk_cell BK120.out 1).trans rfl, (blk_cell BK120.out 2).trans rfl⟩ (fun hHeld => ?_)
            clear hK K
            refine norm_ (a' := ?_) ?_ ?_
            rotate_left
            ·show Act.put _ (some 38) _ = _
             simp only [Act.put, List.setIfInBounds_toArray, List.set_cons_zero, List.set_cons_succ, i64_w, i32_w]
             rfl
            refine pure_ (i := 7) (N := some 4) (v := ?_) (a' := ?_) #[true, true, true, true, true, true, true, true] rfl rfl (any_of HT_.out q9_) (fun _ _ _ h => h) (Or.inl ⟨q43_, ?_⟩) ?_ ?_
            rotate_left
            ·intro w'
             go_simp
             with_reducible rfl
            rotate_left
            ·simp only [Act.put, List.setIfInBounds_toArray, List.set_cons_zero, List.set_cons_succ, i64_w, i32_w]
             rfl
            refine done_ (done_of HT_.out q9_) ?_
            obtain ⟨hcz31_0, hcz31_1, hcz31_2⟩ := cells3_ BK120.out
            obtain ⟨hfz31_0, hfz31_1, hfz31_2⟩ := frz3_ BK120.out
            try go_wp2_with (first | ((with_reducible refine gate_callee (f := 19) rfl ?_); refine goesL_ (some 51) rfl rfl Tryd.func19 q9_ rfl #[.int .i64 3, .int .i64 2, .int .i64 1, .string (⟨#[255]⟩ : ByteArray)] rfl q84_ ?_; (with_reducible refine (rosterref22_leaf.calls 3 2 1 (⟨#[255]⟩ : ByteArray) t139 t140 t141 t142 t143 _ A22.out).mono ?_); rintro e w32 ⟨rfl, hb⟩; refine ⟨_, rfl, ?_⟩; have n0_ := Aside0.mk (Kd.R_below q24_ hb); have n1_ := Aside0.mk (Kd.R_below q55_ hb); have n2_ := Aside0.mk (blk_below (g := gb120) (o := .cells #[.string ((rd_T25 l0 x5_1).f0), .string ((rd_T25 l0 x5_1).f1), .bool ((rd_T25 l0 x5_1).f2)] 25 (0, 0)) q14_ hb); have n3_ := Aside0.mk (below_step q5_ hb); clear HO135; clear HO138; clear BK120; clear HB; have HO135 := n0_; have HO138 := n1_; have BK120 := n2_; have HB := n3_; clear n0_ n1_ n2_ n3_; (try clear hb); (try clear hb2); (try clear hk); (try clear hi)) | ((with_reducible refine gate_builtin (b := .append) (xs := #[.tmp 50, .tmp 52]) rfl ?_); at_builtin; refine Kd.R_append k43 (w0 := w) w.heap.size rfl (.tmp 50) (.tmp 52) 45 43 (.agg #[(.int .i64 0), (.int .i64 0), (.bool false), (.int .i64 0), (.string ⟨#[]⟩)]) 48 rfl Tryd.underlying45 info43 rfl q19_ q2_ v137 y136 (⟨t139, t140, t141, t142, t143⟩ : S43) [.int .i64 t139, .int .i64 t140, .bool t141, .int .i64 t142, .string t143] (fun k_ => some k_ ≠ (.slice Ao30 y133.length co30 : Value).ownBlock) (fun _ => False) rfl rfl ?aP (fun _ hk => hk.elim) ?aF ?aO ?aB ?aS ?aL ?_; (case aP => exact k43_mkM _ _ _ (⟨t139, t140, t141, t142, t143⟩ : S43)); (case aB => exact q5_); (case aF => exact (fun k_ hk => Kd.fresh' (Kd.R_lt q24_) k_ hk)); (case aO => exact q55_); (case aS => exact (below_size q5_)); (case aL => have := LMc23.out; omega); intro v145 w33 ho hb hg hat; rw [← Ny144.out] at ho; have n0_ := Aside0.mk (blk_grown (g := gb120) (o := .cells #[.string ((rd_T25 l0 x5_1).f0), .string ((rd_T25 l0 x5_1).f1), .bool ((rd_T25 l0 x5_1).f2)] 25 (0, 0)) q14_ hg (Kd.R_ne HO138.out BK120.out q19_)); have n1_ := Aside0.mk (Kd.R_after (ok := (fun _ => True)) q24_ hg hat); have n2_ := Aside0.mk (hb); have n3_ := Aside0.mk (ho); clear BK120; clear HO135; clear HB; clear HO138; have BK120 := n0_; have HO135 := n1_; have HB := n2_; have HO146 := n3_; clear n0_ n1_ n2_ n3_; clear ho hb hg hat))
            go_roundg kj7
            case measure => have := HK1.out; have := HJ7.out; omega
            case rel => exact ⟨(y144), (wrap64 (x5_1 + 1)), q3_, H', ⟨q82_⟩, ⟨q74_⟩, ⟨q5_⟩⟩
           ·rw [if_neg c23] at H
            exact absurd H q28_
          ·rw [if_neg c21] at H
           have c21b0 : ((rd_T25 l0 x5_1).f2) = false := by simpa using c21
           clear c21
           have H' := Aside0.mk H
           clear H
           try go_wp2
           have n0_ := Aside0.mk (Kd.R_drew HO_4.out)
           have n1_ := Aside0.mk (blk_drew BK120.out)
           have n2_ := Aside0.mk (below_drew1 HB.out)
           clear HO_4
           clear BK120
           clear HB
           have HO_4 := n0_
           have BK120 := n1_
           have HB := n2_
           clear n0_ n1_ n2_
           refine start_ (n := 8) (S := fun w' => w'.cell? ⟨gb120, 0, none⟩ = some (.string ((rd_T25 l0 x5_1).f0)) ∧ w'.cell? ⟨gb120, 1, none⟩ = some (.string ((rd_T25 l0 x5_1).f1)) ∧ w'.cell? ⟨gb120, 2, none⟩ = some (.bool ((rd_T25 l0 x5_1).f2))) (ds := []) #[false, false, false, false, false, false, false, false] q9_ rfl rfl ⟨(blk_cell BK120.out 0).trans rfl, (blk_cell BK120.out 1).trans rfl, (blk_cell BK120.out 2).trans rfl⟩ (fun hHeld => ?_); refine with_tabW rosterref22_EncodeKeys.tab8 rosterref22_EncodeKeys.bits8 (fun HT_ HW_ => ?_)
           generalize wc.drew = w34 at HO_4 BK120 HB hHeld ⊢
           refine pure_ (i := 0) (N := some 32) (v := ?_) (a' := ?_) #[true, false, false, false, false, false, false, false] rfl rfl (any_of HT_.out q9_) (fun _ _ _ h => h) (Or.inl ⟨q43_, ?_⟩) ?_ ?_
           rotate_left
           ·intro w'
            go_simp
            with_reducible rfl
           rotate_left
           ·simp only [Act.put, List.setIfInBounds_toArray, List.set_cons_zero, List.set_cons_succ, i64_w, i32_w]
            rfl
           refine pure_ (i := 2) (N := some 34) (v := ?_) (a' := ?_) #[true, false, true, false, false, false, false, false] rfl rfl (any_of HT_.out q9_) (fun _ _ _ h => h) (Or.inl ⟨q43_, ?_⟩) ?_ ?_
           rotate_left
           ·intro w'
            go_simp
            with_reducible rfl
           rotate_left
           ·simp only [Act.put, List.setIfInBounds_toArray, List.set_cons_zero, List.set_cons_succ, i64_w, i32_w]
            rfl
           refine take_ (i := 3) (N := some 35) (v := ?_) (a' := ?_) #[true, false, true, true, false, false, false, false] rfl rfl (take_ofW HT_.out HW_.out q9_) (fun _ _ _ h => h) (Or.inl ⟨q43_, ?_⟩) hHeld ?_ ?_
           rotate_left
           ·rintro w' ⟨s0, s1, s2⟩
            go_simp
            with_reducible rfl
           rotate_left
           ·simp only [Act.put, List.setIfInBounds_toArray, List.set_cons_zero, List.set_cons_succ, i64_w, i32_w]
            rfl
           refine one_ (i := 1) (N := some 33) #[true, true, true, true, false, false, false, false] rfl rfl (one_of HT_.out q9_) q19_ (fun K hK => ?_)
           refine goes_ Tryd.func17 q9_ rfl #[.int .i64 2] q43_ rfl rfl q84_ ?_
           with_reducible refine (rosterref22_made.calls 2 t123 t124 t125 t126 t127 _ A17.out).mono ?_
           rintro e w35 ⟨rfl, hb⟩
           refine ⟨_, rfl, ?_⟩
           have n0_ := Aside0.mk (Kd.R_below q8_ hb)
           have n1_ := Aside0.mk (blk_below (g := gb120) (o := .cells #[.string ((rd_T25 l0 x5_1).f0), .string ((rd_T25 l0 x5_1).f1), .bool ((rd_T25 l0 x5_1).f2)] 25 (0, 0)) q14_ hb)
           have n2_ := Aside0.mk (below_step q5_ hb)
           clear HO_4
           clear BK120
           clear HB
           have HO_4 := n0_
           have BK120 := n1_
           have HB := n2_
           clear n0_ n1_ n2_
           (try clear hb)
           (try clear hb2)
           (try clear hk)
           (try clear hi)
           refine hK.out _ _ ⟨(blk_cell BK120.out 0).trans rfl, (blk_cell BK120.out 1).trans rfl, (blk_cell BK120.out 2).trans rfl⟩ (fun hHeld => ?_)
           clear hK K
           refine norm_ (a' := ?_) ?_ ?_
           rotate_left
           ·show Act.put _ (some 33) _ = _
            simp only [Act.put, List.setIfInBounds_toArray, List.set_cons_zero, List.set_cons_succ, i64_w, i32_w]
            rfl
           refine one_ (i := 4) (N := some 36) #[true, true, true, true, true, false, false, false] rfl rfl (one_of HT_.out q9_) q19_ (fun K hK => ?_)
           refine goes_ Tryd.func19 q9_ rfl #[.int .i64 3, .int .i64 0, .int .i64 4, .string ((rd_T25 l0 x5_1).f0)] q43_ rfl rfl q84_ ?_
           with_reducible refine (rosterref22_leaf.calls 3 0 4 ((rd_T25 l0 x5_1).f0) t128 t129 t130 t131 t132 _ A18.out).mono ?_
           rintro e w36 ⟨rfl, hb⟩
           refine ⟨_, rfl, ?_⟩
           have n0_ := Aside0.mk (Kd.R_below q8_ hb)
           have n1_ := Aside0.mk (blk_below (g := gb120) (o := .cells #[.string ((rd_T25 l0 x5_1).f0), .string ((rd_T25 l0 x5_1).f1), .bool ((rd_T25 l0 x5_1).f2)] 25 (0, 0)) q14_ hb)
           have n2_ := Aside0.mk (below_step q5_ hb)
           clear HO_4
           clear BK120
           clear HB
           have HO_4 := n0_
           have BK120 := n1_
           have HB := n2_
           clear n0_ n1_ n2_
           (try clear hb)
           (try clear hb2)
           (try clear hk)
           (try clear hi)
           refine hK.out _ _ ⟨(blk_cell BK120.out 0).trans rfl, (blk_cell BK120.out 1).trans rfl, (blk_cell BK120.out 2).trans rfl⟩ (fun hHeld => ?_)
           clear hK K
           refine norm_ (a' := ?_) ?_ ?_
           rotate_left
           ·show Act.put _ (some 36) _ = _
            simp only [Act.put, List.setIfInBounds_toArray, List.set_cons_zero, List.set_cons_succ, i64_w, i32_w]
            rfl
           refine one_ (i := 5) (N := some 37) #[true, true, true, true, true, true, false, false] rfl rfl (one_of HT_.out q9_) q19_ (fun K hK => ?_)
           refine Kd.R_lit_step k43 _ 43 ?hg (N := 37) ?hd (xs := ([(⟨t123, t124, t125, t126, t127⟩ : S43), (⟨t128, t129, t130, t131, t132⟩ : S43)] : List (S43))) (inner := [.int .i64 t123, .int .i64 t124, .bool t125, .int .i64 t126, .string t127, .int .i64 t128, .int .i64 t129, .bool t130, .int .i64 t131, .string t132]) (ok := fun _ => True) (okp := fun _ => True) ?hr ?hp (fun _ hk => hk) trivial (Below.refl _ _) (Nat.le_refl _) q28_ ?_; (case hd => rfl); (case hg => rfl); (case hr => first | (go_simp; done) | (go_simp; rfl)); (case hp => exact (Reps.c5 (show Kd.M k43 _ _ _ (⟨t123, t124, t125, t126, t127⟩ : S43) [.int .i64 t123, .int .i64 t124, .bool t125, .int .i64 t126, .string t127] from (k43_mkM _ _ _ (⟨t123, t124, t125, t126, t127⟩ : S43) )) (Reps.c5 (show Kd.M k43 _ _ _ (⟨t128, t129, t130, t131, t132⟩ : S43) [.int .i64 t128, .int .i64 t129, .bool t130, .int .i64 t131, .string t132] from (k43_mkM _ _ _ (⟨t128, t129, t130, t131, t132⟩ : S43) )) (Reps.none _ _))))
           intro v134 w37 ho38 hb hg_ hnew_
           clear hg_ hnew_
           (first | rw [← Ny133.out] at ho38 | (simp only [Int.reduceToNat] at ho38; rw [← Ny133.out] at ho38))
           have n0_ := Aside0.mk (Kd.R_elder' q8_ (Kd.R_base ho38) hb)
           have n1_ := Aside0.mk (Kd.R_lower (Kd.R_new' ho38 (Kd.R_lt q8_)) (below_size q5_))
           have n2_ := Aside0.mk (blk_below (g := gb120) (o := .cells #[.string ((rd_T25 l0 x5_1).f0), .string ((rd_T25 l0 x5_1).f1), .bool ((rd_T25 l0 x5_1).f2)] 25 (0, 0)) q14_ hb)
           have n3_ := Aside0.mk (below_step q5_ hb)
           clear HO_4
           clear BK120
           clear HB
           have HO_4 := n0_
           have HO135 := n1_
           have BK120 := n2_
           have HB := n3_
           clear n0_ n1_ n2_ n3_
           clear hb ho38
           obtain ⟨Ao40, co40, eo40⟩ := Kd.R_slice HO135.out
           (first | subst eo40 | (injection eo40 with f1_ f2_ f3_; have f4_ := f1_.symm; have f5_ := f3_.symm; clear f1_ f2_ f3_; subst f4_; subst f5_))
           refine hK.out _ _ ⟨(blk_cell BK120.out 0).trans rfl, (blk_cell BK120.out 1).trans rfl, (blk_cell BK120.out 2).trans rfl⟩ (fun hHeld => ?_)
           clear hK K
           refine norm_ (a' := ?_) ?_ ?_
           rotate_left
           ·show Act.put _ (some 37) _ = _
            simp only [Act.put, List.setIfInBounds_toArray, List.set_cons_zero, List.set_cons_succ, i64_w, i32_w]
            rfl
           refine one_ (i := 6) (N := some 38) #[true, true, true, true, true, true, true, false] rfl rfl (one_of HT_.out q9_) q19_ (fun K hK => ?_)
           refine Kd.R_append_rows_step k43 (w0 := w) w.heap.size q43_ (.tmp 32) (.tmp 37) 45 43 (.agg #[(.int .i64 0), (.int .i64 0), (.bool false), (.int .i64 0), (.string ⟨#[]⟩)]) 48 rfl Tryd.underlying45 info43 rfl q19_ q2_ u4 x4_1 y133 _ _ _ (fun k_ => some k_ ≠ (.slice Ao40 y133.length co40 : Value).ownBlock) (fun _ => False) rfl rfl ?aO ?aR (fun _ _ h => h) (fun _ h => h.elim) ?aF ?aB ?aS ?aL ?_
           (case aR => repeat (first | exact (Kd.R_reads' HO135.out).2.2 | (with_reducible refine Kd.C_alloc ?_ _) | (with_reducible refine Kd.C_drewN ?_ _) | (with_reducible refine Kd.C_drew ?_)))
           (case aB => exact q5_)
           (case aF => exact (fun k_ hk => Kd.fresh' (Kd.R_lt q24_) k_ hk))
           (case aO => exact q53_)
           (case aS => exact (below_size q5_))
           (case aL => have := LMc19.out; omega)
           intro v137 w39 ho hb hg hat
           rw [← Ny136.out] at ho
           have n0_ := Aside0.mk (blk_grown (g := gb120) (o := .cells #[.string ((rd_T25 l0 x5_1).f0), .string ((rd_T25 l0 x5_1).f1), .bool ((rd_T25 l0 x5_1).f2)] 25 (0, 0)) q14_ hg (Kd.R_ne HO_4.out BK120.out q19_))
           have n1_ := Aside0.mk (Kd.R_after (ok := (fun _ => True)) q24_ hg hat)
           have n2_ := Aside0.mk (hb)
           have n3_ := Aside0.mk (ho)
           clear BK120
           clear HO135
           clear HB
           clear HO_4
           have BK120 := n0_
           have HO135 := n1_
           have HB := n2_
           have HO138 := n3_
           clear n0_ n1_ n2_ n3_
           clear ho hb hg hat
           refine hK.out _ _ ⟨(blk_cell BK120.out 0).trans rfl, (blk_cell BK120.out 1).trans rfl, (blk_cell BK120.out 2).trans rfl⟩ (fun hHeld => ?_)
           clear hK K
           refine norm_ (a' := ?_) ?_ ?_
           rotate_left
           ·show Act.put _ (some 38) _ = _
            simp only [Act.put, List.setIfInBounds_toArray, List.set_cons_zero, List.set_cons_succ, i64_w, i32_w]
            rfl
           refine pure_ (i := 7) (N := some 4) (v := ?_) (a' := ?_) #[true, true, true, true, true, true, true, true] rfl rfl (any_of HT_.out q9_) (fun _ _ _ h => h) (Or.inl ⟨q43_, ?_⟩) ?_ ?_
           rotate_left
           ·intro w'
            go_simp
            with_reducible rfl
           rotate_left
           ·simp only [Act.put, List.setIfInBounds_toArray, List.set_cons_zero, List.set_cons_succ, i64_w, i32_w]
            rfl
           refine done_ (done_of HT_.out q9_) ?_
           obtain ⟨hcz41_0, hcz41_1, hcz41_2⟩ := cells3_ BK120.out
           obtain ⟨hfz41_0, hfz41_1, hfz41_2⟩ := frz3_ BK120.out
           try go_wp2
           go_roundg kj7
           case measure => have := HK1.out; have := HJ7.out; omega
           case rel => exact ⟨(y136), (wrap64 (x5_1 + 1)), q3_, H', ⟨q82_⟩, ⟨by (with_reducible repeat (first | apply Kd.R_alloc | apply Kd.R_drewN | apply Kd.R_drew)); exact Kd.R_mono HO138.out (fun _ hk => trivial)⟩, ⟨q5_⟩⟩
         ·rw [if_neg c20] at H
          have c20b0 : (((rd_T25 l0 x5_1).f1).toList == ([] : List UInt8)) = false := beq_eq_false_iff_ne.mpr c20
          try have c20be := (show ∀ (l_ : List UInt8) b_, (l_ == ([] : List UInt8)) = b_ → l_.isEmpty = b_ from fun l_ b_ h_ => by subst h_; cases l_ <;> rfl) _ _ c20b0
          have c20b1 : (((rd_T25 l0 x5_1).f1).toList != ([] : List UInt8)) = true := bne_iff_ne.mpr c20
          replace H := Option.bind_eq_some_iff.mp H
          obtain ⟨⟨t147, t148, t149, t150, t151⟩, A420, H⟩ := H
          replace H : (if y136.length < 2932031007402 then ((some (y136 ++ [(⟨t147, t148, t149, t150, t151⟩ : S43)] : List (S43))).bind fun y152 => (if ((rd_T25 l0 x5_1).f2) = true then ((rosterref22_leaf.f 3 2 1 (⟨#[255]⟩ : ByteArray)).bind fun bt155 => (if y152.length < 2932031007402 then (rosterref22_EncodeKeys.l0 kj7 l0 (y152 ++ [(⟨bt155.1, bt155.2.1, bt155.2.2.1, bt155.2.2.2.1, bt155.2.2.2.2⟩ : S43)]) (wrap64 (x5_1 + 1))) else (none))) else (rosterref22_EncodeKeys.l0 kj7 l0 y152 (wrap64 (x5_1 + 1))))) else (none)) = some (r1, r2) := H
          have A42 := Aside0.mk A420
          clear A420
          by_cases c43 : y136.length < 2932031007402
          ·rw [if_pos c43] at H
           have LMc43 := Aside0.mk c43
           clear c43
           obtain ⟨y152, hy152⟩ : ∃ y_ : List (S43), y_ = (y136 ++ [(⟨t147, t148, t149, t150, t151⟩ : S43)]) := ⟨_, rfl⟩
           replace H : (if ((rd_T25 l0 x5_1).f2) = true then ((rosterref22_leaf.f 3 2 1 (⟨#[255]⟩ : ByteArray)).bind fun bt155 => (if y152.length < 2932031007402 then (rosterref22_EncodeKeys.l0 kj7 l0 (y152 ++ [(⟨bt155.1, bt155.2.1, bt155.2.2.1, bt155.2.2.2.1, bt155.2.2.2.2⟩ : S43)]) (wrap64 (x5_1 + 1))) else (none))) else (rosterref22_EncodeKeys.l0 kj7 l0 y152 (wrap64 (x5_1 + 1)))) = some (r1, r2) := by first | (rw [hy152]; with_reducible exact H) | (have H2_ := (Option.bind_some _ _).symm.trans H; rw [hy152]; with_reducible exact H2_) | (have H2_ := (Option.bind_some _ _).symm.trans H; with_reducible exact H2_) | with_reducible exact H | (rw [hy152]; exact H) | exact H
           have Ny152 := Aside0.mk hy152
           clear hy152
           by_cases c44 : ((rd_T25 l0 x5_1).f2) = true
           ·rw [if_pos c44] at H
            have c44b0 : ((rd_T25 l0 x5_1).f2) = true := c44
            clear c44
            replace H := Option.bind_eq_some_iff.mp H
            obtain ⟨⟨t155, t156, t157, t158, t159⟩, A450, H⟩ := H
            replace H : (if y152.length < 2932031007402 then (rosterref22_EncodeKeys.l0 kj7 l0 (y152 ++ [(⟨t155, t156, t157, t158, t159⟩ : S43)]) (wrap64 (x5_1 + 1))) else (none)) = some (r1, r2) := H
            have A45 := Aside0.mk A450
            clear A450
            by_cases c46 : y152.length < 2932031007402
            ·rw [if_pos c46] at H
             have LMc46 := Aside0.mk c46
             clear c46
             obtain ⟨y160, hy160⟩ : ∃ y_ : List (S43), y_ = (y152 ++ [(⟨t155, t156, t157, t158, t159⟩ : S43)]) := ⟨_, rfl⟩
             replace H : (rosterref22_EncodeKeys.l0 kj7 l0 y160 (wrap64 (x5_1 + 1))) = some (r1, r2) := by first | (rw [hy160]; with_reducible exact H) | (have H2_ := (Option.bind_some _ _).symm.trans H; rw [hy160]; with_reducible exact H2_) | (have H2_ := (Option.bind_some _ _).symm.trans H; with_reducible exact H2_) | with_reducible exact H | (rw [hy160]; exact H) | exact H
             have Ny160 := Aside0.mk hy160
             clear hy160
             have H' := Aside0.mk H
             clear H
             try go_wp2
             have n0_ := Aside0.mk (Kd.R_drew HO_4.out)
             have n1_ := Aside0.mk (blk_drew BK120.out)
             have n2_ := Aside0.mk (below_drew1 HB.out)
             clear HO_4
             clear BK120
             clear HB
             have HO_4 := n0_
             have BK120 := n1_
             have HB := n2_
             clear n0_ n1_ n2_
             refine start_ (n := 8) (S := fun w' => w'.cell? ⟨gb120, 0, none⟩ = some (.string ((rd_T25 l0 x5_1).f0)) ∧ w'.cell? ⟨gb120, 1, none⟩ = some (.string ((rd_T25 l0 x5_1).f1)) ∧ w'.cell? ⟨gb120, 2, none⟩ = some (.bool ((rd_T25 l0 x5_1).f2))) (ds := []) #[false, false, false, false, false, false, false, false] q9_ rfl rfl ⟨(blk_cell BK120.out 0).trans rfl, (blk_cell BK120.out 1).trans rfl, (blk_cell BK120.out 2).trans rfl⟩ (fun hHeld => ?_); refine with_tabW rosterref22_EncodeKeys.tab8 rosterref22_EncodeKeys.bits8 (fun HT_ HW_ => ?_)
             generalize wc.drew = w47 at HO_4 BK120 HB hHeld ⊢
             refine pure_ (i := 0) (N := some 32) (v := ?_) (a' := ?_) #[true, false, false, false, false, false, false, false] rfl rfl (any_of HT_.out q9_) (fun _ _ _ h => h) (Or.inl ⟨q43_, ?_⟩) ?_ ?_
             rotate_left
             ·intro w'
              go_simp
              with_reducible rfl
             rotate_left
             ·simp only [Act.put, List.setIfInBounds_toArray, List.set_cons_zero, List.set_cons_succ, i64_w, i32_w]
              rfl
             refine pure_ (i := 2) (N := some 34) (v := ?_) (a' := ?_) #[true, false, true, false, false, false, false, false] rfl rfl (any_of HT_.out q9_) (fun _ _ _ h => h) (Or.inl ⟨q43_, ?_⟩) ?_ ?_
             rotate_left
             ·intro w'
              go_simp
              with_reducible rfl
             rotate_left
             ·simp only [Act.put, List.setIfInBounds_toArray, List.set_cons_zero, List.set_cons_succ, i64_w, i32_w]
              rfl
             refine take_ (i := 3) (N := some 35) (v := ?_) (a' := ?_) #[true, false, true, true, false, false, false, false] rfl rfl (take_ofW HT_.out HW_.out q9_) (fun _ _ _ h => h) (Or.inl ⟨q43_, ?_⟩) hHeld ?_ ?_
             rotate_left
             ·rintro w' ⟨s0, s1, s2⟩
              go_simp
              with_reducible rfl
             rotate_left
             ·simp only [Act.put, List.setIfInBounds_toArray, List.set_cons_zero, List.set_cons_succ, i64_w, i32_w]
              rfl
             refine one_ (i := 1) (N := some 33) #[true, true, true, true, false, false, false, false] rfl rfl (one_of HT_.out q9_) q19_ (fun K hK => ?_)
             refine goes_ Tryd.func17 q9_ rfl #[.int .i64 2] q43_ rfl rfl q84_ ?_
             with_reducible refine (rosterref22_made.calls 2 t123 t124 t125 t126 t127 _ A17.out).mono ?_
             rintro e w48 ⟨rfl, hb⟩
             refine ⟨_, rfl, ?_⟩
             have n0_ := Aside0.mk (Kd.R_below q8_ hb)
             have n1_ := Aside0.mk (blk_below (g := gb120) (o := .cells #[.string ((rd_T25 l0 x5_1).f0), .string ((rd_T25 l0 x5_1).f1), .bool ((rd_T25 l0 x5_1).f2)] 25 (0, 0)) q14_ hb)
             have n2_ := Aside0.mk (below_step q5_ hb)
             clear HO_4
             clear BK120
             clear HB
             have HO_4 := n0_
             have BK120 := n1_
             have HB := n2_
             clear n0_ n1_ n2_
             (try clear hb)
             (try clear hb2)
             (try clear hk)
             (try clear hi)
             refine hK.out _ _ ⟨(blk_cell BK120.out 0).trans rfl, (blk_cell BK120.out 1).trans rfl, (blk_cell BK120.out 2).trans rfl⟩ (fun hHeld => ?_)
             clear hK K
             refine norm_ (a' := ?_) ?_ ?_
             rotate_left
             ·show Act.put _ (some 33) _ = _
              simp only [Act.put, List.setIfInBounds_toArray, List.set_cons_zero, List.set_cons_succ, i64_w, i32_w]
              rfl
             refine one_ (i := 4) (N := some 36) #[true, true, true, true, true, false, false, false] rfl rfl (one_of HT_.out q9_) q19_ (fun K hK => ?_)
             refine goes_ Tryd.func19 q9_ rfl #[.int .i64 3, .int .i64 0, .int .i64 4, .string ((rd_T25 l0 x5_1).f0)] q43_ rfl rfl q84_ ?_
             with_reducible refine (rosterref22_leaf.calls 3 0 4 ((rd_T25 l0 x5_1).f0) t128 t129 t130 t131 t132 _ A18.out).mono ?_
             rintro e w49 ⟨rfl, hb⟩
             refine ⟨_, rfl, ?_⟩
             have n0_ := Aside0.mk (Kd.R_below q8_ hb)
             have n1_ := Aside0.mk (blk_below (g := gb120) (o := .cells #[.string ((rd_T25 l0 x5_1).f0), .string ((rd_T25 l0 x5_1).f1), .bool ((rd_T25 l0 x5_1).f2)] 25 (0, 0)) q14_ hb)
             have n2_ := Aside0.mk (below_step q5_ hb)
             clear HO_4
             clear BK120
             clear HB
             have HO_4 := n0_
             have BK120 := n1_
             have HB := n2_
             clear n0_ n1_ n2_
             (try clear hb)
             (try clear hb2)
             (try clear hk)
             (try clear hi)
             refine hK.out _ _ ⟨(blk_cell BK120.out 0).trans rfl, (blk_cell BK120.out 1).trans rfl, (blk_cell BK120.out 2).trans rfl⟩ (fun hHeld => ?_)
             clear hK K
             refine norm_ (a' := ?_) ?_ ?_
             rotate_left
             ·show Act.put _ (some 36) _ = _
              simp only [Act.put, List.setIfInBounds_toArray, List.set_cons_zero, List.set_cons_succ, i64_w, i32_w]
              rfl
             refine one_ (i := 5) (N := some 37) #[true, true, true, true, true, true, false, false] rfl rfl (one_of HT_.out q9_) q19_ (fun K hK => ?_)
             refine Kd.R_lit_step k43 _ 43 ?hg (N := 37) ?hd (xs := ([(⟨t123, t124, t125, t126, t127⟩ : S43), (⟨t128, t129, t130, t131, t132⟩ : S43)] : List (S43))) (inner := [.int .i64 t123, .int .i64 t124, .bool t125, .int .i64 t126, .string t127, .int .i64 t128, .int .i64 t129, .bool t130, .int .i64 t131, .string t132]) (ok := fun _ => True) (okp := fun _ => True) ?hr ?hp (fun _ hk => hk) trivial (Below.refl _ _) (Nat.le_refl _) q28_ ?_; (case hd => rfl); (case hg => rfl); (case hr => first | (go_simp; done) | (go_simp; rfl)); (case hp => exact (Reps.c5 (show Kd.M k43 _ _ _ (⟨t123, t124, t125, t126, t127⟩ : S43) [.int .i64 t123, .int .i64 t124, .bool t125, .int .i64 t126, .string t127] from (k43_mkM _ _ _ (⟨t123, t124, t125, t126, t127⟩ : S43) )) (Reps.c5 (show Kd.M k43 _ _ _ (⟨t128, t129, t130, t131, t132⟩ : S43) [.int .i64 t128, .int .i64 t129, .bool t130, .int .i64 t131, .string t132] from (k43_mkM _ _ _ (⟨t128, t129, t130, t131, t132⟩ : S43) )) (Reps.none _ _))))
             intro v134 w50 ho51 hb hg_ hnew_
             clear hg_ hnew_
             (first | rw [← Ny133.out] at ho51 | (simp only [Int.reduceToNat] at ho51; rw [← Ny133.out] at ho51))
             have n0_ := Aside0.mk (Kd.R_elder' q8_ (Kd.R_base ho51) hb)
             have n1_ := Aside0.mk (Kd.R_lower (Kd.R_new' ho51 (Kd.R_lt q8_)) (below_size q5_))
             have n2_ := Aside0.mk (blk_below (g := gb120) (o := .cells #[.string ((rd_T25 l0 x5_1).f0), .string ((rd_T25 l0 x5_1).f1), .bool ((rd_T25 l0 x5_1).f2)] 25 (0, 0)) q14_ hb)
             have n3_ := Aside0.mk (below_step q5_ hb)
             clear HO_4
             clear BK120
             clear HB
             have HO_4 := n0_
             have HO135 := n1_
             have BK120 := n2_
             have HB := n3_
             clear n0_ n1_ n2_ n3_
             clear hb ho51
             obtain ⟨Ao53, co53, eo53⟩ := Kd.R_slice HO135.out
             (first | subst eo53 | (injection eo53 with f1_ f2_ f3_; have f4_ := f1_.symm; have f5_ := f3_.symm; clear f1_ f2_ f3_; subst f4_; subst f5_))
             refine hK.out _ _ ⟨(blk_cell BK120.out 0).trans rfl, (blk_cell BK120.out 1).trans rfl, (blk_cell BK120.out 2).trans rfl⟩ (fun hHeld => ?_)
             clear hK K
             refine norm_ (a' := ?_) ?_ ?_
             rotate_left
             ·show Act.put _ (some 37) _ = _
              simp only [Act.put, List.setIfInBounds_toArray, List.set_cons_zero, List.set_cons_succ, i64_w, i32_w]
              rfl
             refine one_ (i := 6) (N := some 38) #[true, true, true, true, true, true, true, false] rfl rfl (one_of HT_.out q9_) q19_ (fun K hK => ?_)
             refine Kd.R_append_rows_step k43 (w0 := w) w.heap.size q43_ (.tmp 32) (.tmp 37) 45 43 (.agg #[(.int .i64 0), (.int .i64 0), (.bool false), (.int .i64 0), (.string ⟨#[]⟩)]) 48 rfl Tryd.underlying45 info43 rfl q19_ q2_ u4 x4_1 y133 _ _ _ (fun k_ => some k_ ≠ (.slice Ao53 y133.length co53 : Value).ownBlock) (fun _ => False) rfl rfl ?aO ?aR (fun _ _ h => h) (fun _ h => h.elim) ?aF ?aB ?aS ?aL ?_
             (case aR => repeat (first | exact (Kd.R_reads' HO135.out).2.2 | (with_reducible refine Kd.C_alloc ?_ _) | (with_reducible refine Kd.C_drewN ?_ _) | (with_reducible refine Kd.C_drew ?_)))
             (case aB => exact q5_)
             (case aF => exact (fun k_ hk => Kd.fresh' (Kd.R_lt q24_) k_ hk))
             (case aO => exact q53_)
             (case aS => exact (below_size q5_))
             (case aL => have := LMc19.out; omega)
             intro v137 w52 ho hb hg hat
             rw [← Ny136.out] at ho
             have n0_ := Aside0.mk (blk_grown (g := gb120) (o := .cells #[.string ((rd_T25 l0 x5_1).f0), .string ((rd_T25 l0 x5_1).f1), .bool ((rd_T25 l0 x5_1).f2)] 25 (0, 0)) q14_ hg (Kd.R_ne HO_4.out BK120.out q19_))
             have n1_ := Aside0.mk (Kd.R_after (ok := (fun _ => True)) q24_ hg hat)
             have n2_ := Aside0.mk (hb)
             have n3_ := Aside0.mk (ho)
             clear BK120
             clear HO135
             clear HB
             clear HO_4
             have BK120 := n0_
             have HO135 := n1_
             have HB := n2_
             have HO138 := n3_
             clear n0_ n1_ n2_ n3_
             clear ho hb hg hat
             refine hK.out _ _ ⟨(blk_cell BK120.out 0).trans rfl, (blk_cell BK120.out 1).trans rfl, (blk_cell BK120.out 2).trans rfl⟩ (fun hHeld => ?_)
             clear hK K
             refine norm_ (a' := ?_) ?_ ?_
             rotate_left
             ·show Act.put _ (some 38) _ = _
              simp only [Act.put, List.setIfInBounds_toArray, List.set_cons_zero, List.set_cons_succ, i64_w, i32_w]
              rfl
             refine pure_ (i := 7) (N := some 4) (v := ?_) (a' := ?_) #[true, true, true, true, true, true, true, true] rfl rfl (any_of HT_.out q9_) (fun _ _ _ h => h) (Or.inl ⟨q43_, ?_⟩) ?_ ?_
             rotate_left
             ·intro w'
              go_simp
              with_reducible rfl
             rotate_left
             ·simp only [Act.put, List.setIfInBounds_toArray, List.set_cons_zero, List.set_cons_succ, i64_w, i32_w]
              rfl
             refine done_ (done_of HT_.out q9_) ?_
             obtain ⟨hcz54_0, hcz54_1, hcz54_2⟩ := cells3_ BK120.out
             obtain ⟨hfz54_0, hfz54_1, hfz54_2⟩ := frz3_ BK120.out
             try go_wp2_with (first | ((with_reducible refine gate_callee (f := 19) rfl ?_); refine goesL_ (some 45) rfl rfl Tryd.func19 q9_ rfl #[.int .i64 3, .int .i64 2, .int .i64 0, .string ((rd_T25 l0 x5_1).f1)] rfl q84_ ?_; (with_reducible refine (rosterref22_leaf.calls 3 2 0 ((rd_T25 l0 x5_1).f1) t147 t148 t149 t150 t151 _ A42.out).mono ?_); rintro e w55 ⟨rfl, hb⟩; refine ⟨_, rfl, ?_⟩; have n0_ := Aside0.mk (Kd.R_below q24_ hb); have n1_ := Aside0.mk (Kd.R_below q55_ hb); have n2_ := Aside0.mk (blk_below (g := gb120) (o := .cells #[.string ((rd_T25 l0 x5_1).f0), .string ((rd_T25 l0 x5_1).f1), .bool ((rd_T25 l0 x5_1).f2)] 25 (0, 0)) q14_ hb); have n3_ := Aside0.mk (below_step q5_ hb); clear HO135; clear HO138; clear BK120; clear HB; have HO135 := n0_; have HO138 := n1_; have BK120 := n2_; have HB := n3_; clear n0_ n1_ n2_ n3_; (try clear hb); (try clear hb2); (try clear hk); (try clear hi)) | ((with_reducible refine gate_builtin (b := .append) (xs := #[.tmp 42, .tmp 46]) rfl ?_); at_builtin; refine Kd.R_append k43 (w0 := w) w.heap.size rfl (.tmp 42) (.tmp 46) 45 43 (.agg #[(.int .i64 0), (.int .i64 0), (.bool false), (.int .i64 0), (.string ⟨#[]⟩)]) 48 rfl Tryd.underlying45 info43 rfl q19_ q2_ v137 y136 (⟨t147, t148, t149, t150, t151⟩ : S43) [.int .i64 t147, .int .i64 t148, .bool t149, .int .i64 t150, .string t151] (fun k_ => some k_ ≠ (.slice Ao53 y133.length co53 : Value).ownBlock) (fun _ => False) rfl rfl ?aP (fun _ hk => hk.elim) ?aF ?aO ?aB ?aS ?aL ?_; (case aP => exact k43_mkM _ _ _ (⟨t147, t148, t149, t150, t151⟩ : S43)); (case aB => exact q5_); (case aF => exact (fun k_ hk => Kd.fresh' (Kd.R_lt q24_) k_ hk)); (case aO => exact q55_); (case aS => exact (below_size q5_)); (case aL => have := LMc43.out; omega); intro v153 w56 ho hb hg hat; rw [← Ny152.out] at ho; have n0_ := Aside0.mk (blk_grown (g := gb120) (o := .cells #[.string ((rd_T25 l0 x5_1).f0), .string ((rd_T25 l0 x5_1).f1), .bool ((rd_T25 l0 x5_1).f2)] 25 (0, 0)) q14_ hg (Kd.R_ne HO138.out BK120.out q19_)); have n1_ := Aside0.mk (Kd.R_after (ok := (fun _ => True)) q24_ hg hat); have n2_ := Aside0.mk (hb); have n3_ := Aside0.mk (ho); clear BK120; clear HO135; clear HB; clear HO138; have BK120 := n0_; have HO135 := n1_; have HB := n2_; have HO154 := n3_; clear n0_ n1_ n2_ n3_; clear ho hb hg hat; obtain ⟨hcz57_0, hcz57_1, hcz57_2⟩ := cells3_ BK120.out; obtain ⟨hfz57_0, hfz57_1, hfz57_2⟩ := frz3_ BK120.out) | ((with_reducible refine gate_callee (f := 19) rfl ?_); refine goesL_ (some 51) rfl rfl Tryd.func19 q9_ rfl #[.int .i64 3, .int .i64 2, .int .i64 1, .string (⟨#[255]⟩ : ByteArray)] rfl q84_ ?_; (with_reducible refine (rosterref22_leaf.calls 3 2 1 (⟨#[255]⟩ : ByteArray) t155 t156 t157 t158 t159 _ A45.out).mono ?_); rintro e w58 ⟨rfl, hb⟩; refine ⟨_, rfl, ?_⟩; have n0_ := Aside0.mk (Kd.R_below q24_ hb); have n1_ := Aside0.mk (Kd.R_below (by (with_reducible repeat (first | apply Kd.R_alloc | apply Kd.R_drewN | apply Kd.R_drew)); exact HO154.out) hb); have n2_ := Aside0.mk (blk_below (g := gb120) (o := .cells #[.string ((rd_T25 l0 x5_1).f0), .string ((rd_T25 l0 x5_1).f1), .bool ((rd_T25 l0 x5_1).f2)] 25 (0, 0)) q14_ hb); have n3_ := Aside0.mk (below_step q5_ hb); clear HO135; clear HO154; clear BK120; clear HB; have HO135 := n0_; have HO154 := n1_; have BK120 := n2_; have HB := n3_; clear n0_ n1_ n2_ n3_; (try clear hb); (try clear hb2); (try clear hk); (try clear hi)) | ((with_reducible refine gate_builtin (b := .append) (xs := #[.tmp 50, .tmp 52]) rfl ?_); at_builtin; refine Kd.R_append k43 (w0 := w) w.heap.size rfl (.tmp 50) (.tmp 52) 45 43 (.agg #[(.int .i64 0), (.int .i64 0), (.bool false), (.int .i64 0), (.string ⟨#[]⟩)]) 48 rfl Tryd.underlying45 info43 rfl q19_ q2_ v153 y152 (⟨t155, t156, t157, t158, t159⟩ : S43) [.int .i64 t155, .int .i64 t156, .bool t157, .int .i64 t158, .string t159] (fun k_ => some k_ ≠ (.slice Ao53 y133.length co53 : Value).ownBlock) (fun _ => False) rfl rfl ?aP (fun _ hk => hk.elim) ?aF ?aO ?aB ?aS ?aL ?_; (case aP => exact k43_mkM _ _ _ (⟨t155, t156, t157, t158, t159⟩ : S43)); (case aB => exact q5_); (case aF => exact (fun k_ hk => Kd.fresh' (Kd.R_lt q24_) k_ hk)); (case aO => exact (by (with_reducible repeat (first | apply Kd.R_alloc | apply Kd.R_drewN | apply Kd.R_drew)); exact HO154.out)); (case aS => exact (below_size q5_)); (case aL => have := LMc46.out; omega); intro v161 w59 ho hb hg hat; rw [← Ny160.out] at ho; have n0_ := Aside0.mk (blk_grown (g := gb120) (o := .cells #[.string ((rd_T25 l0 x5_1).f0), .string ((rd_T25 l0 x5_1).f1), .bool ((rd_T25 l0 x5_1).f2)] 25 (0, 0)) q14_ hg (Kd.R_ne HO154.out BK120.out q19_)); have n1_ := Aside0.mk (Kd.R_after (ok := (fun _ => True)) q24_ hg hat); have n2_ := Aside0.mk (hb); have n3_ := Aside0.mk (ho); clear BK120; clear HO135; clear HB; clear HO154; have BK120 := n0_; have HO135 := n1_; have HB := n2_; have HO162 := n3_; clear n0_ n1_ n2_ n3_; clear ho hb hg hat))
             go_roundg kj7
             case measure => have := HK1.out; have := HJ7.out; omega
             case rel => exact ⟨(y160), (wrap64 (x5_1 + 1)), q3_, H', ⟨q82_⟩, ⟨by (with_reducible repeat (first | apply Kd.R_alloc | apply Kd.R_drewN | apply Kd.R_drew)); exact Kd.R_mono HO162.out (fun _ hk => trivial)⟩, ⟨q5_⟩⟩
            ·rw [if_neg c46] at H
             exact absurd H q28_
           ·rw [if_neg c44] at H
            have c44b0 : ((rd_T25 l0 x5_1).f2) = false := by simpa using c44
            clear c44
            have H' := Aside0.mk H
            clear H
            try go_wp2
            have n0_ := Aside0.mk (Kd.R_drew HO_4.out)
            have n1_ := Aside0.mk (blk_drew BK120.out)
            have n2_ := Aside0.mk (below_drew1 HB.out)
            clear HO_4
            clear BK120
            clear HB
            have HO_4 := n0_
            have BK120 := n1_
            have HB := n2_
            clear n0_ n1_ n2_
            refine start_ (n := 8) (S := fun w' => w'.cell? ⟨gb120, 0, none⟩ = some (.string ((rd_T25 l0 x5_1).f0)) ∧ w'.cell? ⟨gb120, 1, none⟩ = some (.string ((rd_T25 l0 x5_1).f1)) ∧ w'.cell? ⟨gb120, 2, none⟩ = some (.bool ((rd_T25 l0 x5_1).f2))) (ds := []) #[false, false, false, false, false, false, false, false] q9_ rfl rfl ⟨(blk_cell BK120.out 0).trans rfl, (blk_cell BK120.out 1).trans rfl, (blk_cell BK120.out 2).trans rfl⟩ (fun hHeld => ?_); refine with_tabW rosterref22_EncodeKeys.tab8 rosterref22_EncodeKeys.bits8 (fun HT_ HW_ => ?_)
            generalize wc.drew = w60 at HO_4 BK120 HB hHeld ⊢
            refine pure_ (i := 0) (N := some 32) (v := ?_) (a' := ?_) #[true, false, false, false, false, false, false, false] rfl rfl (any_of HT_.out q9_) (fun _ _ _ h => h) (Or.inl ⟨q43_, ?_⟩) ?_ ?_
            rotate_left
            ·intro w'
             go_simp
             with_reducible rfl
            rotate_left
            ·simp only [Act.put, List.setIfInBounds_toArray, List.set_cons_zero, List.set_cons_succ, i64_w, i32_w]
             rfl
            refine pure_ (i := 2) (N := some 34) (v := ?_) (a' := ?_) #[true, false, true, false, false, false, false, false] rfl rfl (any_of HT_.out q9_) (fun _ _ _ h => h) (Or.inl ⟨q43_, ?_⟩) ?_ ?_
            rotate_left
            ·intro w'
             go_simp
             with_reducible rfl
            rotate_left
            ·simp only [Act.put, List.setIfInBounds_toArray, List.set_cons_zero, List.set_cons_succ, i64_w, i32_w]
             rfl
            refine take_ (i := 3) (N := some 35) (v := ?_) (a' := ?_) #[true, false, true, true, false, false, false, false] rfl rfl (take_ofW HT_.out HW_.out q9_) (fun _ _ _ h => h) (Or.inl ⟨q43_, ?_⟩) hHeld ?_ ?_
            rotate_left
            ·rintro w' ⟨s0, s1, s2⟩
             go_simp
             with_reducible rfl
            rotate_left
            ·simp only [Act.put, List.setIfInBounds_toArray, List.set_cons_zero, List.set_cons_succ, i64_w, i32_w]
             rfl
            refine one_ (i := 1) (N := some 33) #[true, true, true, true, false, false, false, false] rfl rfl (one_of HT_.out q9_) q19_ (fun K hK => ?_)
            refine goes_ Tryd.func17 q9_ rfl #[.int .i64 2] q43_ rfl rfl q84_ ?_
            with_reducible refine (rosterref22_made.calls 2 t123 t124 t125 t126 t127 _ A17.out).mono ?_
            rintro e w61 ⟨rfl, hb⟩
            refine ⟨_, rfl, ?_⟩
            have n0_ := Aside0.mk (Kd.R_below q8_ hb)
            have n1_ := Aside0.mk (blk_below (g := gb120) (o := .cells #[.string ((rd_T25 l0 x5_1).f0), .string ((rd_T25 l0 x5_1).f1), .bool ((rd_T25 l0 x5_1).f2)] 25 (0, 0)) q14_ hb)
            have n2_ := Aside0.mk (below_step q5_ hb)
            clear HO_4
            clear BK120
            clear HB
            have HO_4 := n0_
            have BK120 := n1_
            have HB := n2_
            clear n0_ n1_ n2_
            (try clear hb)
            (try clear hb2)
            (try clear hk)
            (try clear hi)
            refine hK.out _ _ ⟨(blk_cell BK120.out 0).trans rfl, (blk_cell BK120.out 1).trans rfl, (blk_cell BK120.out 2).trans rfl⟩ (fun hHeld => ?_)
            clear hK K
            refine norm_ (a' := ?_) ?_ ?_
            rotate_left
            ·show Act.put _ (some 33) _ = _
             simp only [Act.put, List.setIfInBounds_toArray, List.set_cons_zero, List.set_cons_succ, i64_w, i32_w]
             rfl
            refine one_ (i := 4) (N := some 36) #[true, true, true, true, true, false, false, false] rfl rfl (one_of HT_.out q9_) q19_ (fun K hK => ?_)
            refine goes_ Tryd.func19 q9_ rfl #[.int .i64 3, .int .i64 0, .int .i64 4, .string ((rd_T25 l0 x5_1).f0)] q43_ rfl rfl q84_ ?_
            with_reducible refine (rosterref22_leaf.calls 3 0 4 ((rd_T25 l0 x5_1).f0) t128 t129 t130 t131 t132 _ A18.out).mono ?_
            rintro e w62 ⟨rfl, hb⟩
            refine ⟨_, rfl, ?_⟩
            have n0_ := Aside0.mk (Kd.R_below q8_ hb)
            have n1_ := Aside0.mk (blk_below (g := gb120) (o := .cells #[.string ((rd_T25 l0 x5_1).f0), .string ((rd_T25 l0 x5_1).f1), .bool ((rd_T25 l0 x5_1).f2)] 25 (0, 0)) q14_ hb)
            have n2_ := Aside0.mk (below_step q5_ hb)
            clear HO_4
            clear BK120
            clear HB
            have HO_4 := n0_
            have BK120 := n1_
            have HB := n2_
            clear n0_ n1_ n2_
            (try clear hb)
            (try clear hb2)
            (try clear hk)
            (try clear hi)
            refine hK.out _ _ ⟨(blk_cell BK120.out 0).trans rfl, (blk_cell BK120.out 1).trans rfl, (blk_cell BK120.out 2).trans rfl⟩ (fun hHeld => ?_)
            clear hK K
            refine norm_ (a' := ?_) ?_ ?_
            rotate_left
            ·show Act.put _ (some 36) _ = _
             simp only [Act.put, List.setIfInBounds_toArray, List.set_cons_zero, List.set_cons_succ, i64_w, i32_w]
             rfl
            refine one_ (i := 5) (N := some 37) #[true, true, true, true, true, true, false, false] rfl rfl (one_of HT_.out q9_) q19_ (fun K hK => ?_)
            refine Kd.R_lit_step k43 _ 43 ?hg (N := 37) ?hd (xs := ([(⟨t123, t124, t125, t126, t127⟩ : S43), (⟨t128, t129, t130, t131, t132⟩ : S43)] : List (S43))) (inner := [.int .i64 t123, .int .i64 t124, .bool t125, .int .i64 t126, .string t127, .int .i64 t128, .int .i64 t129, .bool t130, .int .i64 t131, .string t132]) (ok := fun _ => True) (okp := fun _ => True) ?hr ?hp (fun _ hk => hk) trivial (Below.refl _ _) (Nat.le_refl _) q28_ ?_; (case hd => rfl); (case hg => rfl); (case hr => first | (go_simp; done) | (go_simp; rfl)); (case hp => exact (Reps.c5 (show Kd.M k43 _ _ _ (⟨t123, t124, t125, t126, t127⟩ : S43) [.int .i64 t123, .int .i64 t124, .bool t125, .int .i64 t126, .string t127] from (k43_mkM _ _ _ (⟨t123, t124, t125, t126, t127⟩ : S43) )) (Reps.c5 (show Kd.M k43 _ _ _ (⟨t128, t129, t130, t131, t132⟩ : S43) [.int .i64 t128, .int .i64 t129, .bool t130, .int .i64 t131, .string t132] from (k43_mkM _ _ _ (⟨t128, t129, t130, t131, t132⟩ : S43) )) (Reps.none _ _))))
            intro v134 w63 ho64 hb hg_ hnew_
            clear hg_ hnew_
            (first | rw [← Ny133.out] at ho64 | (simp only [Int.reduceToNat] at ho64; rw [← Ny133.out] at ho64))
            have n0_ := Aside0.mk (Kd.R_elder' q8_ (Kd.R_base ho64) hb)
            have n1_ := Aside0.mk (Kd.R_lower (Kd.R_new' ho64 (Kd.R_lt q8_)) (below_size q5_))
            have n2_ := Aside0.mk (blk_below (g := gb120) (o := .cells #[.string ((rd_T25 l0 x5_1).f0), .string ((rd_T25 l0 x5_1).f1), .bool ((rd_T25 l0 x5_1).f2)] 25 (0, 0)) q14_ hb)
            have n3_ := Aside0.mk (below_step q5_ hb)
            clear HO_4
            clear BK120
            clear HB
            have HO_4 := n0_
            have HO135 := n1_
            have BK120 := n2_
            have HB := n3_
            clear n0_ n1_ n2_ n3_
            clear hb ho64
            obtain ⟨Ao66, co66, eo66⟩ := Kd.R_slice HO135.out
            (first | subst eo66 | (injection eo66 with f1_ f2_ f3_; have f4_ := f1_.symm; have f5_ := f3_.symm; clear f1_ f2_ f3_; subst f4_; subst f5_))
            refine hK.out _ _ ⟨(blk_cell BK120.out 0).trans rfl, (blk_cell BK120.out 1).trans rfl, (blk_cell BK120.out 2).trans rfl⟩ (fun hHeld => ?_)
            clear hK K
            refine norm_ (a' := ?_) ?_ ?_
            rotate_left
            ·show Act.put _ (some 37) _ = _
             simp only [Act.put, List.setIfInBounds_toArray, List.set_cons_zero, List.set_cons_succ, i64_w, i32_w]
             rfl
            refine one_ (i := 6) (N := some 38) #[true, true, true, true, true, true, true, false] rfl rfl (one_of HT_.out q9_) q19_ (fun K hK => ?_)
            refine Kd.R_append_rows_step k43 (w0 := w) w.heap.size q43_ (.tmp 32) (.tmp 37) 45 43 (.agg #[(.int .i64 0), (.int .i64 0), (.bool false), (.int .i64 0), (.string ⟨#[]⟩)]) 48 rfl Tryd.underlying45 info43 rfl q19_ q2_ u4 x4_1 y133 _ _ _ (fun k_ => some k_ ≠ (.slice Ao66 y133.length co66 : Value).ownBlock) (fun _ => False) rfl rfl ?aO ?aR (fun _ _ h => h) (fun _ h => h.elim) ?aF ?aB ?aS ?aL ?_
            (case aR => repeat (first | exact (Kd.R_reads' HO135.out).2.2 | (with_reducible refine Kd.C_alloc ?_ _) | (with_reducible refine Kd.C_drewN ?_ _) | (with_reducible refine Kd.C_drew ?_)))
            (case aB => exact q5_)
            (case aF => exact (fun k_ hk => Kd.fresh' (Kd.R_lt q24_) k_ hk))
            (case aO => exact q53_)
            (case aS => exact (below_size q5_))
            (case aL => have := LMc19.out; omega)
            intro v137 w65 ho hb hg hat
            rw [← Ny136.out] at ho
            have n0_ := Aside0.mk (blk_grown (g := gb120) (o := .cells #[.string ((rd_T25 l0 x5_1).f0), .string ((rd_T25 l0 x5_1).f1), .bool ((rd_T25 l0 x5_1).f2)] 25 (0, 0)) q14_ hg (Kd.R_ne HO_4.out BK120.out q19_))
            have n1_ := Aside0.mk (Kd.R_after (ok := (fun _ => True)) q24_ hg hat)
            have n2_ := Aside0.mk (hb)
            have n3_ := Aside0.mk (ho)
            clear BK120
            clear HO135
            clear HB
            clear HO_4
            have BK120 := n0_
            have HO135 := n1_
            have HB := n2_
            have HO138 := n3_
            clear n0_ n1_ n2_ n3_
            clear ho hb hg hat
            refine hK.out _ _ ⟨(blk_cell BK120.out 0).trans rfl, (blk_cell BK120.out 1).trans rfl, (blk_cell BK120.out 2).trans rfl⟩ (fun hHeld => ?_)
            clear hK K
            refine norm_ (a' := ?_) ?_ ?_
            rotate_left
            ·show Act.put _ (some 38) _ = _
             simp only [Act.put, List.setIfInBounds_toArray, List.set_cons_zero, List.set_cons_succ, i64_w, i32_w]
             rfl
            refine pure_ (i := 7) (N := some 4) (v := ?_) (a' := ?_) #[true, true, true, true, true, true, true, true] rfl rfl (any_of HT_.out q9_) (fun _ _ _ h => h) (Or.inl ⟨q43_, ?_⟩) ?_ ?_
            rotate_left
            ·intro w'
             go_simp
             with_reducible rfl
            rotate_left
            ·simp only [Act.put, List.setIfInBounds_toArray, List.set_cons_zero, List.set_cons_succ, i64_w, i32_w]
             rfl
            refine done_ (done_of HT_.out q9_) ?_
            obtain ⟨hcz67_0, hcz67_1, hcz67_2⟩ := cells3_ BK120.out
            obtain ⟨hfz67_0, hfz67_1, hfz67_2⟩ := frz3_ BK120.out
            try go_wp2_with (first | ((with_reducible refine gate_callee (f := 19) rfl ?_); refine goesL_ (some 45) rfl rfl Tryd.func19 q9_ rfl #[.int .i64 3, .int .i64 2, .int .i64 0, .string ((rd_T25 l0 x5_1).f1)] rfl q84_ ?_; (with_reducible refine (rosterref22_leaf.calls 3 2 0 ((rd_T25 l0 x5_1).f1) t147 t148 t149 t150 t151 _ A42.out).mono ?_); rintro e w68 ⟨rfl, hb⟩; refine ⟨_, rfl, ?_⟩; have n0_ := Aside0.mk (Kd.R_below q24_ hb); have n1_ := Aside0.mk (Kd.R_below q55_ hb); have n2_ := Aside0.mk (blk_below (g := gb120) (o := .cells #[.string ((rd_T25 l0 x5_1).f0), .string ((rd_T25 l0 x5_1).f1), .bool ((rd_T25 l0 x5_1).f2)] 25 (0, 0)) q14_ hb); have n3_ := Aside0.mk (below_step q5_ hb); clear HO135; clear HO138; clear BK120; clear HB; have HO135 := n0_; have HO138 := n1_; have BK120 := n2_; have HB := n3_; clear n0_ n1_ n2_ n3_; (try clear hb); (try clear hb2); (try clear hk); (try clear hi)) | ((with_reducible refine gate_builtin (b := .append) (xs := #[.tmp 42, .tmp 46]) rfl ?_); at_builtin; refine Kd.R_append k43 (w0 := w) w.heap.size rfl (.tmp 42) (.tmp 46) 45 43 (.agg #[(.int .i64 0), (.int .i64 0), (.bool false), (.int .i64 0), (.string ⟨#[]⟩)]) 48 rfl Tryd.underlying45 info43 rfl q19_ q2_ v137 y136 (⟨t147, t148, t149, t150, t151⟩ : S43) [.int .i64 t147, .int .i64 t148, .bool t149, .int .i64 t150, .string t151] (fun k_ => some k_ ≠ (.slice Ao66 y133.length co66 : Value).ownBlock) (fun _ => False) rfl rfl ?aP (fun _ hk => hk.elim) ?aF ?aO ?aB ?aS ?aL ?_; (case aP => exact k43_mkM _ _ _ (⟨t147, t148, t149, t150, t151⟩ : S43)); (case aB => exact q5_); (case aF => exact (fun k_ hk => Kd.fresh' (Kd.R_lt q24_) k_ hk)); (case aO => exact q55_); (case aS => exact (below_size q5_)); (case aL => have := LMc43.out; omega); intro v153 w69 ho hb hg hat; rw [← Ny152.out] at ho; have n0_ := Aside0.mk (blk_grown (g := gb120) (o := .cells #[.string ((rd_T25 l0 x5_1).f0), .string ((rd_T25 l0 x5_1).f1), .bool ((rd_T25 l0 x5_1).f2)] 25 (0, 0)) q14_ hg (Kd.R_ne HO138.out BK120.out q19_)); have n1_ := Aside0.mk (Kd.R_after (ok := (fun _ => True)) q24_ hg hat); have n2_ := Aside0.mk (hb); have n3_ := Aside0.mk (ho); clear BK120; clear HO135; clear HB; clear HO138; have BK120 := n0_; have HO135 := n1_; have HB := n2_; have HO154 := n3_; clear n0_ n1_ n2_ n3_; clear ho hb hg hat; obtain ⟨hcz70_0, hcz70_1, hcz70_2⟩ := cells3_ BK120.out; obtain ⟨hfz70_0, hfz70_1, hfz70_2⟩ := frz3_ BK120.out))
            go_roundg kj7
            case measure => have := HK1.out; have := HJ7.out; omega
            case rel => exact ⟨(y152), (wrap64 (x5_1 + 1)), q3_, H', ⟨q82_⟩, ⟨by (with_reducible repeat (first | apply Kd.R_alloc | apply Kd.R_drewN | apply Kd.R_drew)); exact Kd.R_mono HO154.out (fun _ hk => trivial)⟩, ⟨q5_⟩⟩
          ·rw [if_neg c43] at H
           exact absurd H q28_
        ·rw [if_neg c19] at H
         exact absurd H q28_
    ·rw [if_neg c7] at H
     exact absurd H q28_
   ·rw [if_neg c6] at H
    have c6b0 : decide (x5_1 < (l0.length : Int)) = false := decide_eq_false c6
    clear c6
    replace H := Option.bind_eq_some_iff.mp H
    obtain ⟨⟨t116, t117, t118⟩, A710, H⟩ := H
    replace H : (if t117 = 0 then (some (t116, 0)) else (some ((⟨#[]⟩ : ByteArray), 224))) = some (r1, r2) := H
    have A71 := Aside0.mk A710
    clear A710
    by_cases c72 : t117 = 0
    ·rw [if_pos c72] at H
     have c72b0 : (t117 == 0) = true := beq_iff_eq.mpr c72
     have c72b1 : (t117 != 0) = false := bne_eq_false_iff_eq.mpr c72
     clear c72
     simp only [Option.some.injEq, Prod.mk.injEq] at H
     obtain ⟨rfl, rfl⟩ := H
     obtain ⟨Ao73, co73, eo73⟩ := Kd.R_slice HO_4.out
     subst eo73
     go_wp2_with (first | ((with_reducible refine gate_callee (f := 20) rfl ?_); refine goesL_ (some 56) rfl rfl Tryd.func20 q9_ rfl #[.slice Ao73 x4_1.length co73] rfl q84_ ?_; (with_reducible refine (rosterref02_Write.calls _ _ x4_1 t116 t117 t118 _ ?side1 ?side2 A71.out).mono ?_); (case side1 => repeat (first | exact (Kd.R_reads' HO_4.out).2.2 | (with_reducible refine Kd.C_alloc ?_ _) | (with_reducible refine Kd.C_drewN ?_ _) | (with_reducible refine Kd.C_drew ?_))); (case side2 => exact (Kd.R_reads' HO_4.out).2.1); rintro e w74 ⟨rfl, hb⟩; refine ⟨_, rfl, ?_⟩; have n0_ := Aside0.mk (Kd.R_below q8_ hb); have n1_ := Aside0.mk (below_step q1_ hb); clear HO_4; clear HB; have HO_4 := n0_; have HB := n1_; clear n0_ n1_; (try clear hb); (try clear hb2); (try clear hk); (try clear hi)))
     go_ret2
     exact ⟨q4_, q1_⟩
    ·rw [if_neg c72] at H
     have c72b0 : (t117 == 0) = false := beq_eq_false_iff_ne.mpr c72
     have c72b1 : (t117 != 0) = true := bne_iff_ne.mpr c72
     simp only [Option.some.injEq, Prod.mk.injEq] at H
     obtain ⟨rfl, rfl⟩ := H
     obtain ⟨Ao75, co75, eo75⟩ := Kd.R_slice HO_4.out
     subst eo75
     go_wp2_with (first | ((with_reducible refine gate_callee (f := 20) rfl ?_); refine goesL_ (some 56) rfl rfl Tryd.func20 q9_ rfl #[.slice Ao75 x4_1.length co75] rfl q84_ ?_; (with_reducible refine (rosterref02_Write.calls _ _ x4_1 t116 t117 t118 _ ?side1 ?side2 A71.out).mono ?_); (case side1 => repeat (first | exact (Kd.R_reads' HO_4.out).2.2 | (with_reducible refine Kd.C_alloc ?_ _) | (with_reducible refine Kd.C_drewN ?_ _) | (with_reducible refine Kd.C_drew ?_))); (case side2 => exact (Kd.R_reads' HO_4.out).2.1); rintro e w76 ⟨rfl, hb⟩; refine ⟨_, rfl, ?_⟩; have n0_ := Aside0.mk (Kd.R_below q8_ hb); have n1_ := Aside0.mk (below_step q1_ hb); clear HO_4; clear HB; have HO_4 := n0_; have HB := n1_; clear n0_ n1_; (try clear hb); (try clear hb2); (try clear hk); (try clear hi)))
     go_ret2
     exact ⟨q4_, q1_⟩
end Go.Proofs.YtogjljpncdmlkaaDoor.GV
end
