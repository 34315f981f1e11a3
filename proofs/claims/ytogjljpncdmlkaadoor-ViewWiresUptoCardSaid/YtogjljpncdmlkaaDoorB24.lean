/- Texts of this claim in one: GVx7 -/
import Derived.Test.YtogjljpncdmlkaaDoorB3
import Derived.Test.YtogjljpncdmlkaaDoorB12
import Derived.Test.YtogjljpncdmlkaaDoorB16
import Derived.Test.YtogjljpncdmlkaaDoorB23
section
namespace Go.Proofs.YtogjljpncdmlkaaDoor.GV
open Go.RowKit Go.Proofs.YtogjljpncdmlkaaDoorW.PrintWords Go.Proofs.YtogjljpncdmlkaaDoorW.PrintLast Go.Proofs.YtogjljpncdmlkaaDoorW.PrintMore
attribute [local go_sem] max2_int min2_int max_two min_two max_three min_three max_four min_four   -- for this text's walks alone
set_option linter.unusedVariables false
set_option linter.unusedSimpArgs false
def rosterref02_PutInt.l0 : Nat → Int → ByteArray → Option (ByteArray)
 | 0, _, _ => none
 | k + 1, x0, x3 => if (Int.tmod x0 256) < 0 then ((some (([(wrap64 ((Int.tmod x0 256) + 256)) % 256] : List Int) : List Int)).bind fun y243 => (if (strOfNums y243).size + x3.size ≤ 9223372036854775807 then (if (wrap64 (Int.tdiv (wrap64 (x0 - (wrap64 ((Int.tmod x0 256) + 256)))) 256)) = 0 then (if (wrap64 ((Int.tmod x0 256) + 256)) < 128 then (some ((strOfNums y243) ++ x3)) else (if (wrap64 (Int.tdiv (wrap64 (x0 - (wrap64 ((Int.tmod x0 256) + 256)))) 256)) = (-1) then (if (wrap64 ((Int.tmod x0 256) + 256)) ≥ 128 then (some ((strOfNums y243) ++ x3)) else (rosterref02_PutInt.l0 k (wrap64 (Int.tdiv (wrap64 (x0 - (wrap64 ((Int.tmod x0 256) + 256)))) 256)) ((strOfNums y243) ++ x3))) else (rosterref02_PutInt.l0 k (wrap64 (Int.tdiv (wrap64 (x0 - (wrap64 ((Int.tmod x0 256) + 256)))) 256)) ((strOfNums y243) ++ x3)))) else (if (wrap64 (Int.tdiv (wrap64 (x0 - (wrap64 ((Int.tmod x0 256) + 256)))) 256)) = (-1) then (if (wrap64 ((Int.tmod x0 256) + 256)) ≥ 128 then (some ((strOfNums y243) ++ x3)) else (rosterref02_PutInt.l0 k (wrap64 (Int.tdiv (wrap64 (x0 - (wrap64 ((Int.tmod x0 256) + 256)))) 256)) ((strOfNums y243) ++ x3))) else (rosterref02_PutInt.l0 k (wrap64 (Int.tdiv (wrap64 (x0 - (wrap64 ((Int.tmod x0 256) + 256)))) 256)) ((strOfNums y243) ++ x3)))) else (none))) else ((some (([(Int.tmod x0 256) % 256] : List Int) : List Int)).bind fun y246 => (if (strOfNums y246).size + x3.size ≤ 9223372036854775807 then (if (wrap64 (Int.tdiv (wrap64 (x0 - (Int.tmod x0 256))) 256)) = 0 then (if (Int.tmod x0 256) < 128 then (some ((strOfNums y246) ++ x3)) else (if (wrap64 (Int.tdiv (wrap64 (x0 - (Int.tmod x0 256))) 256)) = (-1) then (if (Int.tmod x0 256) ≥ 128 then (some ((strOfNums y246) ++ x3)) else (rosterref02_PutInt.l0 k (wrap64 (Int.tdiv (wrap64 (x0 - (Int.tmod x0 256))) 256)) ((strOfNums y246) ++ x3))) else (rosterref02_PutInt.l0 k (wrap64 (Int.tdiv (wrap64 (x0 - (Int.tmod x0 256))) 256)) ((strOfNums y246) ++ x3)))) else (if (wrap64 (Int.tdiv (wrap64 (x0 - (Int.tmod x0 256))) 256)) = (-1) then (if (Int.tmod x0 256) ≥ 128 then (some ((strOfNums y246) ++ x3)) else (rosterref02_PutInt.l0 k (wrap64 (Int.tdiv (wrap64 (x0 - (Int.tmod x0 256))) 256)) ((strOfNums y246) ++ x3))) else (rosterref02_PutInt.l0 k (wrap64 (Int.tdiv (wrap64 (x0 - (Int.tmod x0 256))) 256)) ((strOfNums y246) ++ x3)))) else (none)))
def rosterref02_PutInt.f (k : Nat) (a0 : Int) : Option (ByteArray) := rosterref02_PutInt.l0 k a0 (⟨#[]⟩ : ByteArray)
theorem rosterref02_PutInt.mono_l : ∀ k, (∀ y0 y1, LeO (rosterref02_PutInt.l0 k y0 y1) (rosterref02_PutInt.l0 (k + 1) y0 y1))
 | 0 => fun _ _ r h => by simp [rosterref02_PutInt.l0] at h
 | k + 1 => by
  have ih0 := rosterref02_PutInt.mono_l k
  ·intro y0 y1
   unfold rosterref02_PutInt.l0
   repeat' first
   | (with_reducible exact ih0 _ _)
   | (with_reducible exact LeO.refl _)
   | (with_reducible exact LeO.none _)
   | (with_reducible refine LeO.ite ?_ ?_)
   | (with_reducible refine LeO.bind ?_ (fun _ => ?_))
   | exact ih0 _ _
   | exact LeO.none _
   | refine LeO.ite ?_ ?_
   | refine LeO.bind ?_ (fun _ => ?_)
theorem rosterref02_PutInt.mono : ∀ a0 k, LeO (rosterref02_PutInt.f k a0) (rosterref02_PutInt.f (k + 1) a0) := by
 intro a0 k
 have ih0 := rosterref02_PutInt.mono_l k
 unfold rosterref02_PutInt.f
 repeat' first
   | (with_reducible exact ih0 _ _)
   | (with_reducible exact LeO.refl _)
   | (with_reducible exact LeO.none _)
   | (with_reducible refine LeO.ite ?_ ?_)
   | (with_reducible refine LeO.bind ?_ (fun _ => ?_))
   | exact ih0 _ _
   | exact LeO.none _
   | refine LeO.ite ?_ ?_
   | refine LeO.bind ?_ (fun _ => ?_)
set_option maxHeartbeats 8000000 in
set_option maxRecDepth 100000 in
theorem rosterref02_PutInt.calls (k : Nat) (a0 : Int) (r : ByteArray) (w : World) (h : rosterref02_PutInt.f k a0 = some r) :
  Calls Tryd.prog 32 #[.int .i64 a0] w fun e w' => e = .returned (.string r) ∧ Below w.heap.size w w' := by
 have HB := Aside0.mk (Below.refl w.heap.size w)
 have H : (rosterref02_PutInt.l0 k a0 (⟨#[]⟩ : ByteArray)) = some r := h
 clear h
 have H' := Aside0.mk H
 clear H
 go_enter Tryd.func32, Tryd.ntmps32
 go_wp2
 go_loopg [0, 3] k (fun kq v0 v3 w' => ∃ (x0_1 : Int) (x3_1 : ByteArray), v0 = .int .i64 x0_1 ∧ v3 = .string x3_1 ∧ Aside0 (rosterref02_PutInt.l0 kq x0_1 x3_1 = some r) ∧ Aside0 (kq ≤ k) ∧ Aside0 (Below w.heap.size w w'))
 case atStart => exact ⟨(a0), ((⟨#[]⟩ : ByteArray)), q3_, q3_, H', ⟨Nat.le_refl _⟩, ⟨q1_⟩⟩
 case round =>
  clear H'
  obtain ⟨x0_1, x3_1, rfl, rfl, HA, HK1, HB⟩ := hrel
  cases gk with
  | zero => exact absurd HA.out (by simp [rosterref02_PutInt.l0])
  | succ k1 =>
   have H := HA.out
   clear HA
   simp only [rosterref02_PutInt.l0] at H
   by_cases c2 : (Int.tmod x0_1 256) < 0
   ·rw [if_pos c2] at H
    have c2b0 : decide ((Int.tmod x0_1 256) < 0) = true := decide_eq_true c2
    clear c2
    obtain ⟨y243, hy243⟩ : ∃ y_ : List Int, y_ = (([(wrap64 ((Int.tmod x0_1 256) + 256)) % 256] : List Int)) := ⟨_, rfl⟩
    replace H : (if (strOfNums y243).size + x3_1.size ≤ 9223372036854775807 then (if (wrap64 (Int.tdiv (wrap64 (x0_1 - (wrap64 ((Int.tmod x0_1 256) + 256)))) 256)) = 0 then (if (wrap64 ((Int.tmod x0_1 256) + 256)) < 128 then (some ((strOfNums y243) ++ x3_1)) else (if (wrap64 (Int.tdiv (wrap64 (x0_1 - (wrap64 ((Int.tmod x0_1 256) + 256)))) 256)) = (-1) then (if (wrap64 ((Int.tmod x0_1 256) + 256)) ≥ 128 then (some ((strOfNums y243) ++ x3_1)) else (rosterref02_PutInt.l0 k1 (wrap64 (Int.tdiv (wrap64 (x0_1 - (wrap64 ((Int.tmod x0_1 256) + 256)))) 256)) ((strOfNums y243) ++ x3_1))) else (rosterref02_PutInt.l0 k1 (wrap64 (Int.tdiv (wrap64 (x0_1 - (wrap64 ((Int.tmod x0_1 256) + 256)))) 256)) ((strOfNums y243) ++ x3_1)))) else (if (wrap64 (Int.tdiv (wrap64 (x0_1 - (wrap64 ((Int.tmod x0_1 256) + 256)))) 256)) = (-1) then (if (wrap64 ((Int.tmod x0_1 256) + 256)) ≥ 128 then (some ((strOfNums y243) ++ x3_1)) else (rosterref02_PutInt.l0 k1 (wrap64 (Int.tdiv (wrap64 (x0_1 - (wrap64 ((Int.tmod x0_1 256) + 256)))) 256)) ((strOfNums y243) ++ x3_1))) else (rosterref02_PutInt.l0 k1 (wrap64 (Int.tdiv (wrap64 (x0_1 - (wrap64 ((Int.tmod x0_1 256) + 256)))) 256)) ((strOfNums y243) ++ x3_1)))) else (none)) = some r := by first | (rw [hy243]; with_reducible exact H) | (have H2_ := (Option.bind_some _ _).symm.trans H; rw [hy243]; with_reducible exact H2_) | (have H2_ := (Option.bind_some _ _).symm.trans H; with_reducible exact H2_) | with_reducible exact H | (rw [hy243]; exact H) | exact H
    have Ny243 := Aside0.mk hy243
    clear hy243
    by_cases c3 : (strOfNums y243).size + x3_1.size ≤ 9223372036854775807
    ·rw [if_pos c3] at H
     have c3b0 := eq_true c3
     have c3b1 : decide ((strOfNums y243).size + x3_1.size ≤ 9223372036854775807) = true := decide_eq_true c3
     try have c3b2 : (9223372036854775807 < (strOfNums y243).size + x3_1.size) = False := eq_false (Nat.not_lt.2 c3)
     by_cases c4 : (wrap64 (Int.tdiv (wrap64 (x0_1 - (wrap64 ((Int.tmod x0_1 256) + 256)))) 256)) = 0
     ·rw [if_pos c4] at H
      have c4b0 : ((wrap64 (Int.tdiv (wrap64 (x0_1 - (wrap64 ((Int.tmod x0_1 256) + 256)))) 256)) == 0) = true := beq_iff_eq.mpr c4
      have c4b1 : ((wrap64 (Int.tdiv (wrap64 (x0_1 - (wrap64 ((Int.tmod x0_1 256) + 256)))) 256)) != 0) = false := bne_eq_false_iff_eq.mpr c4
      clear c4
      by_cases c5 : (wrap64 ((Int.tmod x0_1 256) + 256)) < 128
      ·rw [if_pos c5] at H
       have c5b0 : decide ((wrap64 ((Int.tmod x0_1 256) + 256)) < 128) = true := decide_eq_true c5
       clear c5
       obtain rfl := Option.some.inj H
       go_wp2_with (first | ((with_reducible refine gate_dst (N := 17) rfl ?_); refine Kd.R_lit (Kd.int .u8) _ 5 ?hg (N := 17) ?hd (xs := ([(wrap64 ((Int.tmod x0_1 256) + 256)) % 256] : List Int)) (inner := [.int .u8 ((wrap64 ((Int.tmod x0_1 256) + 256)) % 256)]) (ok := fun _ => True) (okp := fun _ => True) ?hr ?hp (fun _ hk => hk) trivial (Below.refl _ _) (Nat.le_refl _) q28_ ?_; (case hd => rfl); (case hg => rfl); (case hr => first | (go_simp; done) | (go_simp; rfl)); (case hp => exact (Reps.one (show Kd.M (Kd.int .u8) _ _ _ ((wrap64 ((Int.tmod x0_1 256) + 256)) % 256) [.int .u8 ((wrap64 ((Int.tmod x0_1 256) + 256)) % 256)] from rfl) (Reps.none _ _))); intro v244 w6 ho7 hb hg_ hnew_; clear hg_ hnew_; (first | rw [← Ny243.out] at ho7 | (simp only [Int.reduceToNat] at ho7; rw [← Ny243.out] at ho7)); have n0_ := Aside0.mk (Kd.R_lower ho7 (below_size q1_)); have n1_ := Aside0.mk (below_step q1_ hb); clear HB; have HO245 := n0_; have HB := n1_; clear n0_ n1_; clear hb ho7; have hcv8 := own_string (P := Tryd.prog) Tryd.underlying39 Tryd.underlying5 Tryd.underlying9 (Kd.own_of_R HO245.out)))
       go_ret
       exact ⟨q4_, q1_⟩
      ·rw [if_neg c5] at H
       have c5b0 : decide ((wrap64 ((Int.tmod x0_1 256) + 256)) < 128) = false := decide_eq_false c5
       clear c5
       by_cases c9 : (wrap64 (Int.tdiv (wrap64 (x0_1 - (wrap64 ((Int.tmod x0_1 256) + 256)))) 256)) = (-1)
       ·rw [if_pos c9] at H
        have c9b0 : ((wrap64 (Int.tdiv (wrap64 (x0_1 - (wrap64 ((Int.tmod x0_1 256) + 256)))) 256)) == (-1)) = true := beq_iff_eq.mpr c9
        have c9b1 : ((wrap64 (Int.tdiv (wrap64 (x0_1 - (wrap64 ((Int.tmod x0_1 256) + 256)))) 256)) != (-1)) = false := bne_eq_false_iff_eq.mpr c9
        clear c9
        by_cases c10 : (wrap64 ((Int.tmod x0_1 256) + 256)) ≥ 128
        ·rw [if_pos c10] at H
         have c10b0 : decide (128 ≤ (wrap64 ((Int.tmod x0_1 256) + 256))) = true := decide_eq_true c10
         clear c10
         obtain rfl := Option.some.inj H
         go_wp2_with (first | ((with_reducible refine gate_dst (N := 17) rfl ?_); refine Kd.R_lit (Kd.int .u8) _ 5 ?hg (N := 17) ?hd (xs := ([(wrap64 ((Int.tmod x0_1 256) + 256)) % 256] : List Int)) (inner := [.int .u8 ((wrap64 ((Int.tmod x0_1 256) + 256)) % 256)]) (ok := fun _ => True) (okp := fun _ => True) ?hr ?hp (fun _ hk => hk) trivial (Below.refl _ _) (Nat.le_refl _) q28_ ?_; (case hd => rfl); (case hg => rfl); (case hr => first | (go_simp; done) | (go_simp; rfl)); (case hp => exact (Reps.one (show Kd.M (Kd.int .u8) _ _ _ ((wrap64 ((Int.tmod x0_1 256) + 256)) % 256) [.int .u8 ((wrap64 ((Int.tmod x0_1 256) + 256)) % 256)] from rfl) (Reps.none _ _))); intro v244 w11 ho12 hb hg_ hnew_; clear hg_ hnew_; (first | rw [← Ny243.out] at ho12 | (simp only [Int.reduceToNat] at ho12; rw [← Ny243.out] at ho12)); have n0_ := Aside0.mk (Kd.R_lower ho12 (below_size q1_)); have n1_ := Aside0.mk (below_step q1_ hb); clear HB; have HO245 := n0_; have HB := n1_; clear n0_ n1_; clear hb ho12; have hcv13 := own_string (P := Tryd.prog) Tryd.underlying39 Tryd.underlying5 Tryd.underlying9 (Kd.own_of_R HO245.out)))
         go_ret
         exact ⟨q4_, q1_⟩
        ·rw [if_neg c10] at H
         have c10b0 : decide (128 ≤ (wrap64 ((Int.tmod x0_1 256) + 256))) = false := decide_eq_false c10
         clear c10
         have H' := Aside0.mk H
         clear H
         go_wp2_with (first | ((with_reducible refine gate_dst (N := 17) rfl ?_); refine Kd.R_lit (Kd.int .u8) _ 5 ?hg (N := 17) ?hd (xs := ([(wrap64 ((Int.tmod x0_1 256) + 256)) % 256] : List Int)) (inner := [.int .u8 ((wrap64 ((Int.tmod x0_1 256) + 256)) % 256)]) (ok := fun _ => True) (okp := fun _ => True) ?hr ?hp (fun _ hk => hk) trivial (Below.refl _ _) (Nat.le_refl _) q28_ ?_; (case hd => rfl); (case hg => rfl); (case hr => first | (go_simp; done) | (go_simp; rfl)); (case hp => exact (Reps.one (show Kd.M (Kd.int .u8) _ _ _ ((wrap64 ((Int.tmod x0_1 256) + 256)) % 256) [.int .u8 ((wrap64 ((Int.tmod x0_1 256) + 256)) % 256)] from rfl) (Reps.none _ _))); intro v244 w14 ho15 hb hg_ hnew_; clear hg_ hnew_; (first | rw [← Ny243.out] at ho15 | (simp only [Int.reduceToNat] at ho15; rw [← Ny243.out] at ho15)); have n0_ := Aside0.mk (Kd.R_lower ho15 (below_size q1_)); have n1_ := Aside0.mk (below_step q1_ hb); clear HB; have HO245 := n0_; have HB := n1_; clear n0_ n1_; clear hb ho15; have hcv16 := own_string (P := Tryd.prog) Tryd.underlying39 Tryd.underlying5 Tryd.underlying9 (Kd.own_of_R HO245.out)))
         go_roundg k1
         case measure => have := HK1.out; omega
         case rel => exact ⟨(wrap64 (Int.tdiv (wrap64 (x0_1 - (wrap64 ((Int.tmod x0_1 256) + 256)))) 256)), ((strOfNums y243) ++ x3_1), q3_, q3_, H', ⟨q75_⟩, ⟨q1_⟩⟩
       ·rw [if_neg c9] at H
        have c9b0 : ((wrap64 (Int.tdiv (wrap64 (x0_1 - (wrap64 ((Int.tmod x0_1 256) + 256)))) 256)) == (-1)) = false := beq_eq_false_iff_ne.mpr c9
        have c9b1 : ((wrap64 (Int.tdiv (wrap64 (x0_1 - (wrap64 ((Int.tmod x0_1 256) + 256)))) 256)) != (-1)) = true := bne_iff_ne.mpr c9
        have H' := Aside0.mk H
        clear H
        go_wp2_with (first | ((with_reducible refine gate_dst (N := 17) rfl ?_); refine Kd.R_lit (Kd.int .u8) _ 5 ?hg (N := 17) ?hd (xs := ([(wrap64 ((Int.tmod x0_1 256) + 256)) % 256] : List Int)) (inner := [.int .u8 ((wrap64 ((Int.tmod x0_1 256) + 256)) % 256)]) (ok := fun _ => True) (okp := fun _ => True) ?hr ?hp (fun _ hk => hk) trivial (Below.refl _ _) (Nat.le_refl _) q28_ ?_; (case hd => rfl); (case hg => rfl); (case hr => first | (go_simp; done) | (go_simp; rfl)); (case hp => exact (Reps.one (show Kd.M (Kd.int .u8) _ _ _ ((wrap64 ((Int.tmod x0_1 256) + 256)) % 256) [.int .u8 ((wrap64 ((Int.tmod x0_1 256) + 256)) % 256)] from rfl) (Reps.none _ _))); intro v244 w17 ho18 hb hg_ hnew_; clear hg_ hnew_; (first | rw [← Ny243.out] at ho18 | (simp only [Int.reduceToNat] at ho18; rw [← Ny243.out] at ho18)); have n0_ := Aside0.mk (Kd.R_lower ho18 (below_size q1_)); have n1_ := Aside0.mk (below_step q1_ hb); clear HB; have HO245 := n0_; have HB := n1_; clear n0_ n1_; clear hb ho18; have hcv19 := own_string (P := Tryd.prog) Tryd.underlying39 Tryd.underlying5 Tryd.underlying9 (Kd.own_of_R HO245.out)))
        go_roundg k1
        case measure => have := HK1.out; omega
        case rel => exact ⟨(wrap64 (Int.tdiv (wrap64 (x0_1 - (wrap64 ((Int.tmod x0_1 256) + 256)))) 256)), ((strOfNums y243) ++ x3_1), q3_, q3_, H', ⟨q75_⟩, ⟨q1_⟩⟩
     ·rw [if_neg c4] at H
      have c4b0 : ((wrap64 (Int.tdiv (wrap64 (x0_1 - (wrap64 ((Int.tmod x0_1 256) + 256)))) 256)) == 0) = false := beq_eq_false_iff_ne.mpr c4
      have c4b1 : ((wrap64 (Int.tdiv (wrap64 (x0_1 - (wrap64 ((Int.tmod x0_1 256) + 256)))) 256)) != 0) = true := bne_iff_ne.mpr c4
      by_cases c20 : (wrap64 (Int.tdiv (wrap64 (x0_1 - (wrap64 ((Int.tmod x0_1 256) + 256)))) 256)) = (-1)
      ·rw [if_pos c20] at H
       have c20b0 : ((wrap64 (Int.tdiv (wrap64 (x0_1 - (wrap64 ((Int.tmod x0_1 256) + 256)))) 256)) == (-1)) = true := beq_iff_eq.mpr c20
       have c20b1 : ((wrap64 (Int.tdiv (wrap64 (x0_1 - (wrap64 ((Int.tmod x0_1 256) + 256)))) 256)) != (-1)) = false := bne_eq_false_iff_eq.mpr c20
       clear c20
       by_cases c21 : (wrap64 ((Int.tmod x0_1 256) + 256)) ≥ 128
       ·rw [if_pos c21] at H
        have c21b0 : decide (128 ≤ (wrap64 ((Int.tmod x0_1 256) + 256))) = true := decide_eq_true c21
        clear c21
        obtain rfl := Option.some.inj H
        go_wp2_with (first | ((with_reducible refine gate_dst (N := 17) rfl ?_); refine Kd.R_lit (Kd.int .u8) _ 5 ?hg (N := 17) ?hd (xs := ([(wrap64 ((Int.tmod x0_1 256) + 256)) % 256] : List Int)) (inner := [.int .u8 ((wrap64 ((Int.tmod x0_1 256) + 256)) % 256)]) (ok := fun _ => True) (okp := fun _ => True) ?hr ?hp (fun _ hk => hk) trivial (Below.refl _ _) (Nat.le_refl _) q28_ ?_; (case hd => rfl); (case hg => rfl); (case hr => first | (go_simp; done) | (go_simp; rfl)); (case hp => exact (Reps.one (show Kd.M (Kd.int .u8) _ _ _ ((wrap64 ((Int.tmod x0_1 256) + 256)) % 256) [.int .u8 ((wrap64 ((Int.tmod x0_1 256) + 256)) % 256)] from rfl) (Reps.none _ _))); intro v244 w22 ho23 hb hg_ hnew_; clear hg_ hnew_; (first | rw [← Ny243.out] at ho23 | (simp only [Int.reduceToNat] at ho23; rw [← Ny243.out] at ho23)); have n0_ := Aside0.mk (Kd.R_lower ho23 (below_size q1_)); have n1_ := Aside0.mk (below_step q1_ hb); clear HB; have HO245 := n0_; have HB := n1_; clear n0_ n1_; clear hb ho23; have hcv24 := own_string (P := Tryd.prog) Tryd.underlying39 Tryd.underlying5 Tryd.underlying9 (Kd.own_of_R HO245.out)))
        go_ret
        exact ⟨q4_, q1_⟩
       ·rw [if_neg c21] at H
        have c21b0 : decide (128 ≤ (wrap64 ((Int.tmod x0_1 256) + 256))) = false := decide_eq_false c21
        clear c21
        have H' := Aside0.mk H
        clear H
        go_wp2_with (first | ((with_reducible refine gate_dst (N := 17) rfl ?_); refine Kd.R_lit (Kd.int .u8) _ 5 ?hg (N := 17) ?hd (xs := ([(wrap64 ((Int.tmod x0_1 256) + 256)) % 256] : List Int)) (inner := [.int .u8 ((wrap64 ((Int.tmod x0_1 256) + 256)) % 256)]) (ok := fun _ => True) (okp := fun _ => True) ?hr ?hp (fun _ hk => hk) trivial (Below.refl _ _) (Nat.le_refl _) q28_ ?_; (case hd => rfl); (case hg => rfl); (case hr => first | (go_simp; done) | (go_simp; rfl)); (case hp => exact (Reps.one (show Kd.M (Kd.int .u8) _ _ _ ((wrap64 ((Int.tmod x0_1 256) + 256)) % 256) [.int .u8 ((wrap64 ((Int.tmod x0_1 256) + 256)) % 256)] from rfl) (Reps.none _ _))); intro v244 w25 ho26 hb hg_ hnew_; clear hg_ hnew_; (first | rw [← Ny243.out] at ho26 | (simp only [Int.reduceToNat] at ho26; rw [← Ny243.out] at ho26)); have n0_ := Aside0.mk (Kd.R_lower ho26 (below_size q1_)); have n1_ := Aside0.mk (below_step q1_ hb); clear HB; have HO245 := n0_; have HB := n1_; clear n0_ n1_; clear hb ho26; have hcv27 := own_string (P := Tryd.prog) Tryd.underlying39 Tryd.underlying5 Tryd.underlying9 (Kd.own_of_R HO245.out)))
        go_roundg k1
        case measure => have := HK1.out; omega
        case rel => exact ⟨(wrap64 (Int.tdiv (wrap64 (x0_1 - (wrap64 ((Int.tmod x0_1 256) + 256)))) 256)), ((strOfNums y243) ++ x3_1), q3_, q3_, H', ⟨q75_⟩, ⟨q1_⟩⟩
      ·rw [if_neg c20] at H
       have c20b0 : ((wrap64 (Int.tdiv (wrap64 (x0_1 - (wrap64 ((Int.tmod x0_1 256) + 256)))) 256)) == (-1)) = false := beq_eq_false_iff_ne.mpr c20
       have c20b1 : ((wrap64 (Int.tdiv (wrap64 (x0_1 - (wrap64 ((Int.tmod x0_1 256) + 256)))) 256)) != (-1)) = true := bne_iff_ne.mpr c20
       have H' := Aside0.mk H
       clear H
       go_wp2_with (first | ((with_reducible refine gate_dst (N := 17) rfl ?_); refine Kd.R_lit (Kd.int .u8) _ 5 ?hg (N := 17) ?hd (xs := ([(wrap64 ((Int.tmod x0_1 256) + 256)) % 256] : List Int)) (inner := [.int .u8 ((wrap64 ((Int.tmod x0_1 256) + 256)) % 256)]) (ok := fun _ => True) (okp := fun _ => True) ?hr ?hp (fun _ hk => hk) trivial (Below.refl _ _) (Nat.le_refl _) q28_ ?_; (case hd => rfl); (case hg => rfl); (case hr => first | (go_simp; done) | (go_simp; rfl)); (case hp => exact (Reps.one (show Kd.M (Kd.int .u8) _ _ _ ((wrap64 ((Int.tmod x0_1 256) + 256)) % 256) [.int .u8 ((wrap64 ((Int.tmod x0_1 256) + 256)) % 256)] from rfl) (Reps.none _ _))); intro v244 w28 ho29 hb hg_ hnew_; clear hg_ hnew_; (first | rw [← Ny243.out] at ho29 | (simp only [Int.reduceToNat] at ho29; rw [← Ny243.out] at ho29)); have n0_ := Aside0.mk (Kd.R_lower ho29 (below_size q1_)); have n1_ := Aside0.mk (below_step q1_ hb); clear HB; have HO245 := n0_; have HB := n1_; clear n0_ n1_; clear hb ho29; have hcv30 := own_string (P := Tryd.prog) Tryd.underlying39 Tryd.underlying5 Tryd.underlying9 (Kd.own_of_R HO245.out)))
       go_roundg k1
       case measure => have := HK1.out; omega
       case rel => exact ⟨(wrap64 (Int.tdiv (wrap64 (x0_1 - (wrap64 ((Int.tmod x0_1 256) + 256)))) 256)), ((strOfNums y243) ++ x3_1), q3_, q3_, H', ⟨q75_⟩, ⟨q1_⟩⟩
    ·rw [if_neg c3] at H
     exact absurd H q28_
   ·rw [if_neg c2] at H
    have c2b0 : decide ((Int.tmod x0_1 256) < 0) = false := decide_eq_false c2
    clear c2
    obtain ⟨y246, hy246⟩ : ∃ y_ : List Int, y_ = (([(Int.tmod x0_1 256) % 256] : List Int)) := ⟨_, rfl⟩
    replace H : (if (strOfNums y246).size + x3_1.size ≤ 9223372036854775807 then (if (wrap64 (Int.tdiv (wrap64 (x0_1 - (Int.tmod x0_1 256))) 256)) = 0 then (if (Int.tmod x0_1 256) < 128 then (some ((strOfNums y246) ++ x3_1)) else (if (wrap64 (Int.tdiv (wrap64 (x0_1 - (Int.tmod x0_1 256))) 256)) = (-1) then (if (Int.tmod x0_1 256) ≥ 128 then (some ((strOfNums y246) ++ x3_1)) else (rosterref02_PutInt.l0 k1 (wrap64 (Int.tdiv (wrap64 (x0_1 - (Int.tmod x0_1 256))) 256)) ((strOfNums y246) ++ x3_1))) else (rosterref02_PutInt.l0 k1 (wrap64 (Int.tdiv (wrap64 (x0_1 - (Int.tmod x0_1 256))) 256)) ((strOfNums y246) ++ x3_1)))) else (if (wrap64 (Int.tdiv (wrap64 (x0_1 - (Int.tmod x0_1 256))) 256)) = (-1) then (if (Int.tmod x0_1 256) ≥ 128 then (some ((strOfNums y246) ++ x3_1)) else (rosterref02_PutInt.l0 k1 (wrap64 (Int.tdiv (wrap64 (x0_1 - (Int.tmod x0_1 256))) 256)) ((strOfNums y246) ++ x3_1))) else (rosterref02_PutInt.l0 k1 (wrap64 (Int.tdiv (wrap64 (x0_1 - (Int.tmod x0_1 256))) 256)) ((strOfNums y246) ++ x3_1)))) else (none)) = some r := by first | (rw [hy246]; with_reducible exact H) | (have H2_ := (Option.bind_some _ _).symm.trans H; rw [hy246]; with_reducible exact H2_) | (have H2_ := (Option.bind_some _ _).symm.trans H; with_reducible exact H2_) | with_reducible exact H | (rw [hy246]; exact H) | exact H
    have Ny246 := Aside0.mk hy246
    clear hy246
    by_cases c31 : (strOfNums y246).size + x3_1.size ≤ 9223372036854775807
    ·rw [if_pos c31] at H
     have c31b0 := eq_true c31
     have c31b1 : decide ((strOfNums y246).size + x3_1.size ≤ 9223372036854775807) = true := decide_eq_true c31
     try have c31b2 : (9223372036854775807 < (strOfNums y246).size + x3_1.size) = False := eq_false (Nat.not_lt.2 c31)
     by_cases c32 : (wrap64 (Int.tdiv (wrap64 (x0_1 - (Int.tmod x0_1 256))) 256)) = 0
     ·rw [if_pos c32] at H
      have c32b0 : ((wrap64 (Int.tdiv (wrap64 (x0_1 - (Int.tmod x0_1 256))) 256)) == 0) = true := beq_iff_eq.mpr c32
      have c32b1 : ((wrap64 (Int.tdiv (wrap64 (x0_1 - (Int.tmod x0_1 256))) 256)) != 0) = false := bne_eq_false_iff_eq.mpr c32
      clear c32
      by_cases c33 : (Int.tmod x0_1 256) < 128
      ·rw [if_pos c33] at H
       have c33b0 : decide ((Int.tmod x0_1 256) < 128) = true := decide_eq_true c33
       clear c33
       obtain rfl := Option.some.inj H
       go_wp2_with (first | ((with_reducible refine gate_dst (N := 17) rfl ?_); refine Kd.R_lit (Kd.int .u8) _ 5 ?hg (N := 17) ?hd (xs := ([(Int.tmod x0_1 256) % 256] : List Int)) (inner := [.int .u8 ((Int.tmod x0_1 256) % 256)]) (ok := fun _ => True) (okp := fun _ => True) ?hr ?hp (fun _ hk => hk) trivial (Below.refl _ _) (Nat.le_refl _) q28_ ?_; (case hd => rfl); (case hg => rfl); (case hr => first | (go_simp; done) | (go_simp; rfl)); (case hp => exact (Reps.one (show Kd.M (Kd.int .u8) _ _ _ ((Int.tmod x0_1 256) % 256) [.int .u8 ((Int.tmod x0_1 256) % 256)] from rfl) (Reps.none _ _))); intro v247 w34 ho35 hb hg_ hnew_; clear hg_ hnew_; (first | rw [← Ny246.out] at ho35 | (simp only [Int.reduceToNat] at ho35; rw [← Ny246.out] at ho35)); have n0_ := Aside0.mk (Kd.R_lower ho35 (below_size q1_)); have n1_ := Aside0.mk (below_step q1_ hb); clear HB; have HO248 := n0_; have HB := n1_; clear n0_ n1_; clear hb ho35; have hcv36 := own_string (P := Tryd.prog) Tryd.underlying39 Tryd.underlying5 Tryd.underlying9 (Kd.own_of_R HO248.out)))
       go_ret
       exact ⟨q4_, q1_⟩
      ·rw [if_neg c33] at H
       have c33b0 : decide ((Int.tmod x0_1 256) < 128) = false := decide_eq_false c33
       clear c33
       by_cases c37 : (wrap64 (Int.tdiv (wrap64 (x0_1 - (Int.tmod x0_1 256))) 256)) = (-1)
       ·rw [if_pos c37] at H
        have c37b0 : ((wrap64 (Int.tdiv (wrap64 (x0_1 - (Int.tmod x0_1 256))) 256)) == (-1)) = true := beq_iff_eq.mpr c37
        have c37b1 : ((wrap64 (Int.tdiv (wrap64 (x0_1 - (Int.tmod x0_1 256))) 256)) != (-1)) = false := bne_eq_false_iff_eq.mpr c37
        clear c37
        by_cases c38 : (Int.tmod x0_1 256) ≥ 128
        ·rw [if_pos c38] at H
         have c38b0 : decide (128 ≤ (Int.tmod x0_1 256)) = true := decide_eq_true c38
         clear c38
         obtain rfl := Option.some.inj H
         go_wp2_with (first | ((with_reducible refine gate_dst (N := 17) rfl ?_); refine Kd.R_lit (Kd.int .u8) _ 5 ?hg (N := 17) ?hd (xs := ([(Int.tmod x0_1 256) % 256] : List Int)) (inner := [.int .u8 ((Int.tmod x0_1 256) % 256)]) (ok := fun _ => True) (okp := fun _ => True) ?hr ?hp (fun _ hk => hk) trivial (Below.refl _ _) (Nat.le_refl _) q28_ ?_; (case hd => rfl); (case hg => rfl); (case hr => first | (go_simp; done) | (go_simp; rfl)); (case hp => exact (Reps.one (show Kd.M (Kd.int .u8) _ _ _ ((Int.tmod x0_1 256) % 256) [.int .u8 ((Int.tmod x0_1 256) % 256)] from rfl) (Reps.none _ _))); intro v247 w39 ho40 hb hg_ hnew_; clear hg_ hnew_; (first | rw [← Ny246.out] at ho40 | (simp only [Int.reduceToNat] at ho40; rw [← Ny246.out] at ho40)); have n0_ := Aside0.mk (Kd.R_lower ho40 (below_size q1_)); have n1_ := Aside0.mk (below_step q1_ hb); clear HB; have HO248 := n0_; have HB := n1_; clear n0_ n1_; clear hb ho40; have hcv41 := own_string (P := Tryd.prog) Tryd.underlying39 Tryd.underlying5 Tryd.underlying9 (Kd.own_of_R HO248.out)))
         go_ret
         exact ⟨q4_, q1_⟩
        ·rw [if_neg c38] at H
         have c38b0 : decide (128 ≤ (Int.tmod x0_1 256)) = false := decide_eq_false c38
         clear c38
         have H' := Aside0.mk H
         clear H
         go_wp2_with (first | ((with_reducible refine gate_dst (N := 17) rfl ?_); refine Kd.R_lit (Kd.int .u8) _ 5 ?hg (N := 17) ?hd (xs := ([(Int.tmod x0_1 256) % 256] : List Int)) (inner := [.int .u8 ((Int.tmod x0_1 256) % 256)]) (ok := fun _ => True) (okp := fun _ => True) ?hr ?hp (fun _ hk => hk) trivial (Below.refl _ _) (Nat.le_refl _) q28_ ?_; (case hd => rfl); (case hg => rfl); (case hr => first | (go_simp; done) | (go_simp; rfl)); (case hp => exact (Reps.one (show Kd.M (Kd.int .u8) _ _ _ ((Int.tmod x0_1 256) % 256) [.int .u8 ((Int.tmod x0_1 256) % 256)] from rfl) (Reps.none _ _))); intro v247 w42 ho43 hb hg_ hnew_; clear hg_ hnew_; (first | rw [← Ny246.out] at ho43 | (simp only [Int.reduceToNat] at ho43; rw [← Ny246.out] at ho43)); have n0_ := Aside0.mk (Kd.R_lower ho43 (below_size q1_)); have n1_ := Aside0.mk (below_step q1_ hb); clear HB; have HO248 := n0_; have HB := n1_; clear n0_ n1_; clear hb ho43; have hcv44 := own_string (P := Tryd.prog) Tryd.underlying39 Tryd.underlying5 Tryd.underlying9 (Kd.own_of_R HO248.out)))
         go_roundg k1
         case measure => have := HK1.out; omega
         case rel => exact ⟨(wrap64 (Int.tdiv (wrap64 (x0_1 - (Int.tmod x0_1 256))) 256)), ((strOfNums y246) ++ x3_1), q3_, q3_, H', ⟨q75_⟩, ⟨q1_⟩⟩
       ·rw [if_neg c37] at H
        have c37b0 : ((wrap64 (Int.tdiv (wrap64 (x0_1 - (Int.tmod x0_1 256))) 256)) == (-1)) = false := beq_eq_false_iff_ne.mpr c37
        have c37b1 : ((wrap64 (Int.tdiv (wrap64 (x0_1 - (Int.tmod x0_1 256))) 256)) != (-1)) = true := bne_iff_ne.mpr c37
        have H' := Aside0.mk H
        clear H
        go_wp2_with (first | ((with_reducible refine gate_dst (N := 17) rfl ?_); refine Kd.R_lit (Kd.int .u8) _ 5 ?hg (N := 17) ?hd (xs := ([(Int.tmod x0_1 256) % 256] : List Int)) (inner := [.int .u8 ((Int.tmod x0_1 256) % 256)]) (ok := fun _ => True) (okp := fun _ => True) ?hr ?hp (fun _ hk => hk) trivial (Below.refl _ _) (Nat.le_refl _) q28_ ?_; (case hd => rfl); (case hg => rfl); (case hr => first | (go_simp; done) | (go_simp; rfl)); (case hp => exact (Reps.one (show Kd.M (Kd.int .u8) _ _ _ ((Int.tmod x0_1 256) % 256) [.int .u8 ((Int.tmod x0_1 256) % 256)] from rfl) (Reps.none _ _))); intro v247 w45 ho46 hb hg_ hnew_; clear hg_ hnew_; (first | rw [← Ny246.out] at ho46 | (simp only [Int.reduceToNat] at ho46; rw [← Ny246.out] at ho46)); have n0_ := Aside0.mk (Kd.R_lower ho46 (below_size q1_)); have n1_ := Aside0.mk (below_step q1_ hb); clear HB; have HO248 := n0_; have HB := n1_; clear n0_ n1_; clear hb ho46; have hcv47 := own_string (P := Tryd.prog) Tryd.underlying39 Tryd.underlying5 Tryd.underlying9 (Kd.own_of_R HO248.out)))
        go_roundg k1
        case measure => have := HK1.out; omega
        case rel => exact ⟨(wrap64 (Int.tdiv (wrap64 (x0_1 - (Int.tmod x0_1 256))) 256)), ((strOfNums y246) ++ x3_1), q3_, q3_, H', ⟨q75_⟩, ⟨q1_⟩⟩
     ·rw [if_neg c32] at H
      have c32b0 : ((wrap64 (Int.tdiv (wrap64 (x0_1 - (Int.tmod x0_1 256))) 256)) == 0) = false := beq_eq_false_iff_ne.mpr c32
      have c32b1 : ((wrap64 (Int.tdiv (wrap64 (x0_1 - (Int.tmod x0_1 256))) 256)) != 0) = true := bne_iff_ne.mpr c32
      by_cases c48 : (wrap64 (Int.tdiv (wrap64 (x0_1 - (Int.tmod x0_1 256))) 256)) = (-1)
      ·rw [if_pos c48] at H
       have c48b0 : ((wrap64 (Int.tdiv (wrap64 (x0_1 - (Int.tmod x0_1 256))) 256)) == (-1)) = true := beq_iff_eq.mpr c48
       have c48b1 : ((wrap64 (Int.tdiv (wrap64 (x0_1 - (Int.tmod x0_1 256))) 256)) != (-1)) = false := bne_eq_false_iff_eq.mpr c48
       clear c48
       by_cases c49 : (Int.tmod x0_1 256) ≥ 128
       ·rw [if_pos c49] at H
        have c49b0 : decide (128 ≤ (Int.tmod x0_1 256)) = true := decide_eq_true c49
        clear c49
        obtain rfl := Option.some.inj H
        go_wp2_with (first | ((with_reducible refine gate_dst (N := 17) rfl ?_); refine Kd.R_lit (Kd.int .u8) _ 5 ?hg (N := 17) ?hd (xs := ([(Int.tmod x0_1 256) % 256] : List Int)) (inner := [.int .u8 ((Int.tmod x0_1 256) % 256)]) (ok := fun _ => True) (okp := fun _ => True) ?hr ?hp (fun _ hk => hk) trivial (Below.refl _ _) (Nat.le_refl _) q28_ ?_; (case hd => rfl); (case hg => rfl); (case hr => first | (go_simp; done) | (go_simp; rfl)); (case hp => exact (Reps.one (show Kd.M (Kd.int .u8) _ _ _ ((Int.tmod x0_1 256) % 256) [.int .u8 ((Int.tmod x0_1 256) % 256)] from rfl) (Reps.none _ _))); intro v247 w50 ho51 hb hg_ hnew_; clear hg_ hnew_; (first | rw [← Ny246.out] at ho51 | (simp only [Int.reduceToNat] at ho51; rw [← Ny246.out] at ho51)); have n0_ := Aside0.mk (Kd.R_lower ho51 (below_size q1_)); have n1_ := Aside0.mk (below_step q1_ hb); clear HB; have HO248 := n0_; have HB := n1_; clear n0_ n1_; clear hb ho51; have hcv52 := own_string (P := Tryd.prog) Tryd.underlying39 Tryd.underlying5 Tryd.underlying9 (Kd.own_of_R HO248.out)))
        go_ret
        exact ⟨q4_, q1_⟩
       ·rw [if_neg c49] at H
        have c49b0 : decide (128 ≤ (Int.tmod x0_1 256)) = false := decide_eq_false c49
        clear c49
        have H' := Aside0.mk H
        clear H
        go_wp2_with (first | ((with_reducible refine gate_dst (N := 17) rfl ?_); refine Kd.R_lit (Kd.int .u8) _ 5 ?hg (N := 17) ?hd (xs := ([(Int.tmod x0_1 256) % 256] : List Int)) (inner := [.int .u8 ((Int.tmod x0_1 256) % 256)]) (ok := fun _ => True) (okp := fun _ => True) ?hr ?hp (fun _ hk => hk) trivial (Below.refl _ _) (Nat.le_refl _) q28_ ?_; (case hd => rfl); (case hg => rfl); (case hr => first | (go_simp; done) | (go_simp; rfl)); (case hp => exact (Reps.one (show Kd.M (Kd.int .u8) _ _ _ ((Int.tmod x0_1 256) % 256) [.int .u8 ((Int.tmod x0_1 256) % 256)] from rfl) (Reps.none _ _))); intro v247 w53 ho54 hb hg_ hnew_; clear hg_ hnew_; (first | rw [← Ny246.out] at ho54 | (simp only [Int.reduceToNat] at ho54; rw [← Ny246.out] at ho54)); have n0_ := Aside0.mk (Kd.R_lower ho54 (below_size q1_)); have n1_ := Aside0.mk (below_step q1_ hb); clear HB; have HO248 := n0_; have HB := n1_; clear n0_ n1_; clear hb ho54; have hcv55 := own_string (P := Tryd.prog) Tryd.underlying39 Tryd.underlying5 Tryd.underlying9 (Kd.own_of_R HO248.out)))
        go_roundg k1
        case measure => have := HK1.out; omega
        case rel => exact ⟨(wrap64 (Int.tdiv (wrap64 (x0_1 - (Int.tmod x0_1 256))) 256)), ((strOfNums y246) ++ x3_1), q3_, q3_, H', ⟨q75_⟩, ⟨q1_⟩⟩
      ·rw [if_neg c48] at H
       have c48b0 : ((wrap64 (Int.tdiv (wrap64 (x0_1 - (Int.tmod x0_1 256))) 256)) == (-1)) = false := beq_eq_false_iff_ne.mpr c48
       have c48b1 : ((wrap64 (Int.tdiv (wrap64 (x0_1 - (Int.tmod x0_1 256))) 256)) != (-1)) = true := bne_iff_ne.mpr c48
       have H' := Aside0.mk H
       clear H
       go_wp2_with (first | ((with_reducible refine gate_dst (N := 17) rfl ?_); refine Kd.R_lit (Kd.int .u8) _ 5 ?hg (N := 17) ?hd (xs := ([(Int.tmod x0_1 256) % 256] : List Int)) (inner := [.int .u8 ((Int.tmod x0_1 256) % 256)]) (ok := fun _ => True) (okp := fun _ => True) ?hr ?hp (fun _ hk => hk) trivial (Below.refl _ _) (Nat.le_refl _) q28_ ?_; (case hd => rfl); (case hg => rfl); (case hr => first | (go_simp; done) | (go_simp; rfl)); (case hp => exact (Reps.one (show Kd.M (Kd.int .u8) _ _ _ ((Int.tmod x0_1 256) % 256) [.int .u8 ((Int.tmod x0_1 256) % 256)] from rfl) (Reps.none _ _))); intro v247 w56 ho57 hb hg_ hnew_; clear hg_ hnew_; (first | rw [← Ny246.out] at ho57 | (simp only [Int.reduceToNat] at ho57; rw [← Ny246.out] at ho57)); have n0_ := Aside0.mk (Kd.R_lower ho57 (below_size q1_)); have n1_ := Aside0.mk (below_step q1_ hb); clear HB; have HO248 := n0_; have HB := n1_; clear n0_ n1_; clear hb ho57; have hcv58 := own_string (P := Tryd.prog) Tryd.underlying39 Tryd.underlying5 Tryd.underlying9 (Kd.own_of_R HO248.out)))
       go_roundg k1
       case measure => have := HK1.out; omega
       case rel => exact ⟨(wrap64 (Int.tdiv (wrap64 (x0_1 - (Int.tmod x0_1 256))) 256)), ((strOfNums y246) ++ x3_1), q3_, q3_, H', ⟨q75_⟩, ⟨q1_⟩⟩
    ·rw [if_neg c31] at H
     exact absurd H q28_
def rosterref22_EncodePage.j0 : Nat → Int → ByteArray → Bool → Option (ByteArray × Int)
 | 0, _, _, _ => none
 | k + 1, x0, x1, x15 => if x15 = true then (some ((⟨#[]⟩ : ByteArray), 224)) else ((rosterref02_PutInt.f k x0).bind fun t249 => ((rosterref22_made.f 1).bind fun bt250 => ((rosterref22_leaf.f 2 0 2 t249).bind fun bt255 => ((rosterref22_leaf.f 2 0 4 x1).bind fun bt260 => ((rosterref02_Write.f (([(⟨bt250.1, bt250.2.1, bt250.2.2.1, bt250.2.2.2.1, bt250.2.2.2.2⟩ : S43), (⟨bt255.1, bt255.2.1, bt255.2.2.1, bt255.2.2.2.1, bt255.2.2.2.2⟩ : S43), (⟨bt260.1, bt260.2.1, bt260.2.2.1, bt260.2.2.2.1, bt260.2.2.2.2⟩ : S43)] : List (S43)))).bind fun bt268 => (if bt268.2.1 = 0 then (some (bt268.1, 0)) else (some ((⟨#[]⟩ : ByteArray), 224))))))))
def rosterref22_EncodePage.f (k : Nat) (a0 : Int) (a1 : ByteArray) : Option (ByteArray × Int) := if a0 < 0 then (rosterref22_EncodePage.j0 k a0 a1 true) else (rosterref22_EncodePage.j0 k a0 a1 (decide (a0 > 2147483647)))
set_option maxHeartbeats 8000000 in
set_option maxRecDepth 100000 in
theorem rosterref22_EncodePage.calls (k : Nat) (a0 : Int) (a1 : ByteArray) (r1 : ByteArray) (r2 : Int) (w : World) (h : rosterref22_EncodePage.f k a0 a1 = some (r1, r2)) :
  Calls Tryd.prog 11 #[.int .i64 a0, .string a1] w fun e w' => e = .returned (.tuple #[.string r1, .int .i64 r2]) ∧ Below w.heap.size w w' := by
 have HB := Aside0.mk (Below.refl w.heap.size w)
 have H : (if a0 < 0 then (rosterref22_EncodePage.j0 k a0 a1 true) else (rosterref22_EncodePage.j0 k a0 a1 (decide (a0 > 2147483647)))) = some (r1, r2) := h
 clear h
 have HC3 := Aside0.mk H
 clear H
 go_enter Tryd.func11, Tryd.ntmps11
 go_upto_region 1 with (fail)
 go_cut [15] (fun v15 wc => ∃ (kq : Nat) (x15_2 : Bool), v15 = .bool x15_2 ∧ Aside0 (rosterref22_EncodePage.j0 kq a0 a1 x15_2 = some (r1, r2)) ∧ Aside0 (kq ≤ k) ∧ Aside0 (Below w.heap.size w wc))
 case first =>
  have H := HC3.out
  clear HC3
  by_cases c4 : a0 < 0
  ·rw [if_pos c4] at H
   have c4b0 : decide (a0 < 0) = true := decide_eq_true c4
   clear c4
   (first | rw [c4b0] | rw [c4be] | (simp only [i64_w, i32_w]; rw [c4b0]) | skip)
   have H' := Aside0.mk H
   clear H
   go_wp2
   go_meet
   case rel => exact ⟨_, (true), q3_, H', ⟨q42_⟩, ⟨q1_⟩⟩
  ·rw [if_neg c4] at H
   have c4b0 : decide (a0 < 0) = false := decide_eq_false c4
   clear c4
   (first | rw [c4b0] | rw [c4be] | (simp only [i64_w, i32_w]; rw [c4b0]) | skip)
   have H' := Aside0.mk H
   clear H
   go_wp2
   go_meet
   case rel => exact ⟨_, (decide (a0 > 2147483647)), q3_, H', ⟨q42_⟩, ⟨q1_⟩⟩
 case rest =>
  clear HC3
  try clear c1
  try clear p2
  try clear c4
  try clear c4b0
  obtain ⟨kq, x15_2, rfl, HA, HJ2, HB⟩ := hcut
  cases kq with
  | zero => exact absurd HA.out (by simp [rosterref22_EncodePage.j0])
  | succ kj2 =>
   have H := HA.out
   clear HA
   simp only [rosterref22_EncodePage.j0] at H
   by_cases c5 : x15_2 = true
   ·subst c5
    have H1 : (some ((⟨#[]⟩ : ByteArray), 224)) = some (r1, r2) := by rw [if_pos rfl] at H; exact H
    clear H
    have H := H1
    clear H1
    simp only [Option.some.injEq, Prod.mk.injEq] at H
    obtain ⟨rfl, rfl⟩ := H
    go_wp2
    go_ret2
    exact ⟨q4_, q1_⟩
   ·replace c5 := Bool.eq_false_iff.mpr c5
    subst c5
    have H1 : ((rosterref02_PutInt.f kj2 a0).bind fun t249 => ((rosterref22_made.f 1).bind fun bt250 => ((rosterref22_leaf.f 2 0 2 t249).bind fun bt255 => ((rosterref22_leaf.f 2 0 4 a1).bind fun bt260 => ((rosterref02_Write.f (([(⟨bt250.1, bt250.2.1, bt250.2.2.1, bt250.2.2.2.1, bt250.2.2.2.2⟩ : S43), (⟨bt255.1, bt255.2.1, bt255.2.2.1, bt255.2.2.2.1, bt255.2.2.2.2⟩ : S43), (⟨bt260.1, bt260.2.1, bt260.2.2.1, bt260.2.2.2.1, bt260.2.2.2.2⟩ : S43)] : List (S43)))).bind fun bt268 => (if bt268.2.1 = 0 then (some (bt268.1, 0)) else (some ((⟨#[]⟩ : ByteArray), 224)))))))) = some (r1, r2) := by rw [if_neg (show ¬ (false = true) by decide)] at H; exact H
    clear H
    have H := H1
    clear H1
    replace H := Option.bind_eq_some_iff.mp H
    obtain ⟨t249, A60, H⟩ := H
    replace H : ((rosterref22_made.f 1).bind fun bt250 => ((rosterref22_leaf.f 2 0 2 t249).bind fun bt255 => ((rosterref22_leaf.f 2 0 4 a1).bind fun bt260 => ((rosterref02_Write.f (([(⟨bt250.1, bt250.2.1, bt250.2.2.1, bt250.2.2.2.1, bt250.2.2.2.2⟩ : S43), (⟨bt255.1, bt255.2.1, bt255.2.2.1, bt255.2.2.2.1, bt255.2.2.2.2⟩ : S43), (⟨bt260.1, bt260.2.1, bt260.2.2.1, bt260.2.2.2.1, bt260.2.2.2.2⟩ : S43)] : List (S43)))).bind fun bt268 => (if bt268.2.1 = 0 then (some (bt268.1, 0)) else (some ((⟨#[]⟩ : ByteArray), 224))))))) = some (r1, r2) := H
    have A6 := Aside0.mk A60
    clear A60
    replace H := Option.bind_eq_some_iff.mp H
    obtain ⟨⟨t250, t251, t252, t253, t254⟩, A70, H⟩ := H
    replace H : ((rosterref22_leaf.f 2 0 2 t249).bind fun bt255 => ((rosterref22_leaf.f 2 0 4 a1).bind fun bt260 => ((rosterref02_Write.f (([(⟨t250, t251, t252, t253, t254⟩ : S43), (⟨bt255.1, bt255.2.1, bt255.2.2.1, bt255.2.2.2.1, bt255.2.2.2.2⟩ : S43), (⟨bt260.1, bt260.2.1, bt260.2.2.1, bt260.2.2.2.1, bt260.2.2.2.2⟩ : S43)] : List (S43)))).bind fun bt268 => (if bt268.2.1 = 0 then (some (bt268.1, 0)) else (some ((⟨#[]⟩ : ByteArray), 224)))))) = some (r1, r2) := H
    have A7 := Aside0.mk A70
    clear A70
    replace H := Option.bind_eq_some_iff.mp H
    obtain ⟨⟨t255, t256, t257, t258, t259⟩, A80, H⟩ := H
    replace H : ((rosterref22_leaf.f 2 0 4 a1).bind fun bt260 => ((rosterref02_Write.f (([(⟨t250, t251, t252, t253, t254⟩ : S43), (⟨t255, t256, t257, t258, t259⟩ : S43), (⟨bt260.1, bt260.2.1, bt260.2.2.1, bt260.2.2.2.1, bt260.2.2.2.2⟩ : S43)] : List (S43)))).bind fun bt268 => (if bt268.2.1 = 0 then (some (bt268.1, 0)) else (some ((⟨#[]⟩ : ByteArray), 224))))) = some (r1, r2) := H
    have A8 := Aside0.mk A80
    clear A80
    replace H := Option.bind_eq_some_iff.mp H
    obtain ⟨⟨t260, t261, t262, t263, t264⟩, A90, H⟩ := H
    replace H : ((rosterref02_Write.f (([(⟨t250, t251, t252, t253, t254⟩ : S43), (⟨t255, t256, t257, t258, t259⟩ : S43), (⟨t260, t261, t262, t263, t264⟩ : S43)] : List (S43)))).bind fun bt268 => (if bt268.2.1 = 0 then (some (bt268.1, 0)) else (some ((⟨#[]⟩ : ByteArray), 224)))) = some (r1, r2) := H
    have A9 := Aside0.mk A90
    clear A90
    obtain ⟨y265, hy265⟩ : ∃ y_ : List (S43), y_ = (([(⟨t250, t251, t252, t253, t254⟩ : S43), (⟨t255, t256, t257, t258, t259⟩ : S43), (⟨t260, t261, t262, t263, t264⟩ : S43)] : List (S43))) := ⟨_, rfl⟩
    replace H : ((rosterref02_Write.f y265).bind fun bt268 => (if bt268.2.1 = 0 then (some (bt268.1, 0)) else (some ((⟨#[]⟩ : ByteArray), 224)))) = some (r1, r2) := by first | (rw [hy265]; with_reducible exact H) | (have H2_ := (Option.bind_some _ _).symm.trans H; rw [hy265]; with_reducible exact H2_) | (have H2_ := (Option.bind_some _ _).symm.trans H; with_reducible exact H2_) | with_reducible exact H | (rw [hy265]; exact H) | exact H
    have Ny265 := Aside0.mk hy265
    clear hy265
    replace H := Option.bind_eq_some_iff.mp H
    obtain ⟨⟨t268, t269, t270⟩, A100, H⟩ := H
    replace H : (if t269 = 0 then (some (t268, 0)) else (some ((⟨#[]⟩ : ByteArray), 224))) = some (r1, r2) := H
    have A10 := Aside0.mk A100
    clear A100
    by_cases c11 : t269 = 0
    ·rw [if_pos c11] at H
     have c11b0 : (t269 == 0) = true := beq_iff_eq.mpr c11
     have c11b1 : (t269 != 0) = false := bne_eq_false_iff_eq.mpr c11
     clear c11
     simp only [Option.some.injEq, Prod.mk.injEq] at H
     obtain ⟨rfl, rfl⟩ := H
     go_wp2_with (first | ((with_reducible refine gate_callee (f := 32) rfl ?_); refine goesL_ (some 17) rfl rfl Tryd.func32 q9_ rfl #[.int .i64 a0] rfl q84_ ?_; (with_reducible refine (rosterref02_PutInt.calls kj2 a0 t249 _ A6.out).mono ?_); rintro e w12 ⟨rfl, hb⟩; refine ⟨_, rfl, ?_⟩; have n0_ := Aside0.mk (below_step q1_ hb); clear HB; have HB := n0_; clear n0_; (try clear hb); (try clear hb2); (try clear hk); (try clear hi)) | ((with_reducible refine gate_callee (f := 17) rfl ?_); refine goesL_ (some 19) rfl rfl Tryd.func17 q9_ rfl #[.int .i64 1] rfl q84_ ?_; (with_reducible refine (rosterref22_made.calls 1 t250 t251 t252 t253 t254 _ A7.out).mono ?_); rintro e w13 ⟨rfl, hb⟩; refine ⟨_, rfl, ?_⟩; have n0_ := Aside0.mk (below_step q1_ hb); clear HB; have HB := n0_; clear n0_; (try clear hb); (try clear hb2); (try clear hk); (try clear hi)) | ((with_reducible refine gate_callee (f := 19) rfl ?_); refine goesL_ (some 21) rfl rfl Tryd.func19 q9_ rfl #[.int .i64 2, .int .i64 0, .int .i64 2, .string t249] rfl q84_ ?_; (with_reducible refine (rosterref22_leaf.calls 2 0 2 t249 t255 t256 t257 t258 t259 _ A8.out).mono ?_); rintro e w14 ⟨rfl, hb⟩; refine ⟨_, rfl, ?_⟩; have n0_ := Aside0.mk (below_step q1_ hb); clear HB; have HB := n0_; clear n0_; (try clear hb); (try clear hb2); (try clear hk); (try clear hi)) | ((with_reducible refine gate_callee (f := 19) rfl ?_); refine goesL_ (some 23) rfl rfl Tryd.func19 q9_ rfl #[.int .i64 2, .int .i64 0, .int .i64 4, .string a1] rfl q84_ ?_; (with_reducible refine (rosterref22_leaf.calls 2 0 4 a1 t260 t261 t262 t263 t264 _ A9.out).mono ?_); rintro e w15 ⟨rfl, hb⟩; refine ⟨_, rfl, ?_⟩; have n0_ := Aside0.mk (below_step q1_ hb); clear HB; have HB := n0_; clear n0_; (try clear hb); (try clear hb2); (try clear hk); (try clear hi)) | ((with_reducible refine gate_dst (N := 24) rfl ?_); refine Kd.R_lit k43 _ 43 ?hg (N := 24) ?hd (xs := ([(⟨t250, t251, t252, t253, t254⟩ : S43), (⟨t255, t256, t257, t258, t259⟩ : S43), (⟨t260, t261, t262, t263, t264⟩ : S43)] : List (S43))) (inner := [.int .i64 t250, .int .i64 t251, .bool t252, .int .i64 t253, .string t254, .int .i64 t255, .int .i64 t256, .bool t257, .int .i64 t258, .string t259, .int .i64 t260, .int .i64 t261, .bool t262, .int .i64 t263, .string t264]) (ok := fun _ => True) (okp := fun _ => True) ?hr ?hp (fun _ hk => hk) trivial (Below.refl _ _) (Nat.le_refl _) q28_ ?_; (case hd => rfl); (case hg => rfl); (case hr => first | (go_simp; done) | (go_simp; rfl)); (case hp => exact (Reps.c5 (show Kd.M k43 _ _ _ (⟨t250, t251, t252, t253, t254⟩ : S43) [.int .i64 t250, .int .i64 t251, .bool t252, .int .i64 t253, .string t254] from (k43_mkM _ _ _ (⟨t250, t251, t252, t253, t254⟩ : S43) )) (Reps.c5 (show Kd.M k43 _ _ _ (⟨t255, t256, t257, t258, t259⟩ : S43) [.int .i64 t255, .int .i64 t256, .bool t257, .int .i64 t258, .string t259] from (k43_mkM _ _ _ (⟨t255, t256, t257, t258, t259⟩ : S43) )) (Reps.c5 (show Kd.M k43 _ _ _ (⟨t260, t261, t262, t263, t264⟩ : S43) [.int .i64 t260, .int .i64 t261, .bool t262, .int .i64 t263, .string t264] from (k43_mkM _ _ _ (⟨t260, t261, t262, t263, t264⟩ : S43) )) (Reps.none _ _))))); intro v266 w16 ho17 hb hg_ hnew_; clear hg_ hnew_; (first | rw [← Ny265.out] at ho17 | (simp only [Int.reduceToNat] at ho17; rw [← Ny265.out] at ho17)); have n0_ := Aside0.mk (Kd.R_lower ho17 (below_size q1_)); have n1_ := Aside0.mk (below_step q1_ hb); clear HB; have HO267 := n0_; have HB := n1_; clear n0_ n1_; clear hb ho17; obtain ⟨Ao18, co18, eo18⟩ := Kd.R_slice HO267.out; subst eo18) | ((with_reducible refine gate_callee (f := 20) rfl ?_); refine goesL_ (some 25) rfl rfl Tryd.func20 q9_ rfl #[.slice Ao18 y265.length co18] rfl q84_ ?_; (with_reducible refine (rosterref02_Write.calls _ _ y265 t268 t269 t270 _ ?side1 ?side2 A10.out).mono ?_); (case side1 => repeat (first | exact (Kd.R_reads' HO267.out).2.2 | (with_reducible refine Kd.C_alloc ?_ _) | (with_reducible refine Kd.C_drewN ?_ _) | (with_reducible refine Kd.C_drew ?_))); (case side2 => exact (Kd.R_reads' HO267.out).2.1); rintro e w19 ⟨rfl, hb⟩; refine ⟨_, rfl, ?_⟩; have n0_ := Aside0.mk (Kd.R_below (by (with_reducible repeat (first | apply Kd.R_alloc | apply Kd.R_drewN | apply Kd.R_drew)); exact HO267.out) hb); have n1_ := Aside0.mk (below_step q1_ hb); clear HO267; clear HB; have HO267 := n0_; have HB := n1_; clear n0_ n1_; (try clear hb); (try clear hb2); (try clear hk); (try clear hi)))
     go_ret2
     exact ⟨q4_, q1_⟩
    ·rw [if_neg c11] at H
     have c11b0 : (t269 == 0) = false := beq_eq_false_iff_ne.mpr c11
     have c11b1 : (t269 != 0) = true := bne_iff_ne.mpr c11
     simp only [Option.some.injEq, Prod.mk.injEq] at H
     obtain ⟨rfl, rfl⟩ := H
     go_wp2_with (first | ((with_reducible refine gate_callee (f := 32) rfl ?_); refine goesL_ (some 17) rfl rfl Tryd.func32 q9_ rfl #[.int .i64 a0] rfl q84_ ?_; (with_reducible refine (rosterref02_PutInt.calls kj2 a0 t249 _ A6.out).mono ?_); rintro e w20 ⟨rfl, hb⟩; refine ⟨_, rfl, ?_⟩; have n0_ := Aside0.mk (below_step q1_ hb); clear HB; have HB := n0_; clear n0_; (try clear hb); (try clear hb2); (try clear hk); (try clear hi)) | ((with_reducible refine gate_callee (f := 17) rfl ?_); refine goesL_ (some 19) rfl rfl Tryd.func17 q9_ rfl #[.int .i64 1] rfl q84_ ?_; (with_reducible refine (rosterref22_made.calls 1 t250 t251 t252 t253 t254 _ A7.out).mono ?_); rintro e w21 ⟨rfl, hb⟩; refine ⟨_, rfl, ?_⟩; have n0_ := Aside0.mk (below_step q1_ hb); clear HB; have HB := n0_; clear n0_; (try clear hb); (try clear hb2); (try clear hk); (try clear hi)) | ((with_reducible refine gate_callee (f := 19) rfl ?_); refine goesL_ (some 21) rfl rfl Tryd.func19 q9_ rfl #[.int .i64 2, .int .i64 0, .int .i64 2, .string t249] rfl q84_ ?_; (with_reducible refine (rosterref22_leaf.calls 2 0 2 t249 t255 t256 t257 t258 t259 _ A8.out).mono ?_); rintro e w22 ⟨rfl, hb⟩; refine ⟨_, rfl, ?_⟩; have n0_ := Aside0.mk (below_step q1_ hb); clear HB; have HB := n0_; clear n0_; (try clear hb); (try clear hb2); (try clear hk); (try clear hi)) | ((with_reducible refine gate_callee (f := 19) rfl ?_); refine goesL_ (some 23) rfl rfl Tryd.func19 q9_ rfl #[.int .i64 2, .int .i64 0, .int .i64 4, .string a1] rfl q84_ ?_; (with_reducible refine (rosterref22_leaf.calls 2 0 4 a1 t260 t261 t262 t263 t264 _ A9.out).mono ?_); rintro e w23 ⟨rfl, hb⟩; refine ⟨_, rfl, ?_⟩; have n0_ := Aside0.mk (below_step q1_ hb); clear HB; have HB := n0_; clear n0_; (try clear hb); (try clear hb2); (try clear hk); (try clear hi)) | ((with_reducible refine gate_dst (N := 24) rfl ?_); refine Kd.R_lit k43 _ 43 ?hg (N := 24) ?hd (xs := ([(⟨t250, t251, t252, t253, t254⟩ : S43), (⟨t255, t256, t257, t258, t259⟩ : S43), (⟨t260, t261, t262, t263, t264⟩ : S43)] : List (S43))) (inner := [.int .i64 t250, .int .i64 t251, .bool t252, .int .i64 t253, .string t254, .int .i64 t255, .int .i64 t256, .bool t257, .int .i64 t258, .string t259, .int .i64 t260, .int .i64 t261, .bool t262, .int .i64 t263, .string t264]) (ok := fun _ => True) (okp := fun _ => True) ?hr ?hp (fun _ hk => hk) trivial (Below.refl _ _) (Nat.le_refl _) q28_ ?_; (case hd => rfl); (case hg => rfl); (case hr => first | (go_simp; done) | (go_simp; rfl)); (case hp => exact (Reps.c5 (show Kd.M k43 _ _ _ (⟨t250, t251, t252, t253, t254⟩ : S43) [.int .i64 t250, .int .i64 t251, .bool t252, .int .i64 t253, .string t254] from (k43_mkM _ _ _ (⟨t250, t251, t252, t253, t254⟩ : S43) )) (Reps.c5 (show Kd.M k43 _ _ _ (⟨t255, t256, t257, t258, t259⟩ : S43) [.int .i64 t255, .int .i64 t256, .bool t257, .int .i64 t258, .string t259] from (k43_mkM _ _ _ (⟨t255, t256, t257, t258, t259⟩ : S43) )) (Reps.c5 (show Kd.M k43 _ _ _ (⟨t260, t261, t262, t263, t264⟩ : S43) [.int .i64 t260, .int .i64 t261, .bool t262, .int .i64 t263, .string t264] from (k43_mkM _ _ _ (⟨t260, t261, t262, t263, t264⟩ : S43) )) (Reps.none _ _))))); intro v266 w24 ho25 hb hg_ hnew_; clear hg_ hnew_; (first | rw [← Ny265.out] at ho25 | (simp only [Int.reduceToNat] at ho25; rw [← Ny265.out] at ho25)); have n0_ := Aside0.mk (Kd.R_lower ho25 (below_size q1_)); have n1_ := Aside0.mk (below_step q1_ hb); clear HB; have HO267 := n0_; have HB := n1_; clear n0_ n1_; clear hb ho25; obtain ⟨Ao26, co26, eo26⟩ := Kd.R_slice HO267.out; subst eo26) | ((with_reducible refine gate_callee (f := 20) rfl ?_); refine goesL_ (some 25) rfl rfl Tryd.func20 q9_ rfl #[.slice Ao26 y265.length co26] rfl q84_ ?_; (with_reducible refine (rosterref02_Write.calls _ _ y265 t268 t269 t270 _ ?side1 ?side2 A10.out).mono ?_); (case side1 => repeat (first | exact (Kd.R_reads' HO267.out).2.2 | (with_reducible refine Kd.C_alloc ?_ _) | (with_reducible refine Kd.C_drewN ?_ _) | (with_reducible refine Kd.C_drew ?_))); (case side2 => exact (Kd.R_reads' HO267.out).2.1); rintro e w27 ⟨rfl, hb⟩; refine ⟨_, rfl, ?_⟩; have n0_ := Aside0.mk (Kd.R_below (by (with_reducible repeat (first | apply Kd.R_alloc | apply Kd.R_drewN | apply Kd.R_drew)); exact HO267.out) hb); have n1_ := Aside0.mk (below_step q1_ hb); clear HO267; clear HB; have HO267 := n0_; have HB := n1_; clear n0_ n1_; (try clear hb); (try clear hb2); (try clear hk); (try clear hi)))
     go_ret2
     exact ⟨q4_, q1_⟩
def ber_PutInt.f (a0 : Int) : Option ByteArray :=
 if -9223372036854775808 ≤ a0 ∧ a0 ≤ 9223372036854775807 then some (W.putS a0) else none
theorem ber_PutInt.calls (a0 : Int) (r : ByteArray) (w : World) (h : ber_PutInt.f a0 = some r) :
  Calls Tryd.prog 33 #[.int .i64 a0] w fun e w' => e = .returned (.string r) ∧ Below w.heap.size w w' := by
 unfold ber_PutInt.f at h
 by_cases c : -9223372036854775808 ≤ a0 ∧ a0 ≤ 9223372036854775807
 ·rw [if_pos c] at h
  obtain rfl := Option.some.inj h
  exact W.PutInt_any a0 w c.1 c.2
 ·rw [if_neg c] at h
  cases h
def view_EncodePage.j0 : Nat → Int → ByteArray → Bool → Option (ByteArray × Int)
 | 0, _, _, _ => none
 | k + 1, x0, x1, x14 => if x14 = true then (some ((⟨#[]⟩ : ByteArray), 224)) else ((view_sequence.f 1).bind fun bt271 => ((ber_PutInt.f x0).bind fun t276 => ((view_octets.f 2 x1).bind fun bt277 => ((ber_Write.f (([(⟨bt271.1, bt271.2.1, bt271.2.2.1, bt271.2.2.2.1, bt271.2.2.2.2⟩ : S43), (⟨2, 0, false, 2, t276⟩ : S43), (⟨bt277.1, bt277.2.1, bt277.2.2.1, bt277.2.2.2.1, bt277.2.2.2.2⟩ : S43)] : List (S43)))).bind fun bt285 => (if bt285.2.1 = 0 then (some (bt285.1, 0)) else (some ((⟨#[]⟩ : ByteArray), 224)))))))
def view_EncodePage.f (k : Nat) (a0 : Int) (a1 : ByteArray) : Option (ByteArray × Int) := if a0 < 0 then (view_EncodePage.j0 k a0 a1 true) else (view_EncodePage.j0 k a0 a1 (decide (a0 > 2147483647)))
set_option maxHeartbeats 8000000 in
set_option maxRecDepth 100000 in
theorem view_EncodePage.calls (k : Nat) (a0 : Int) (a1 : ByteArray) (r1 : ByteArray) (r2 : Int) (w : World) (h : view_EncodePage.f k a0 a1 = some (r1, r2)) :
  Calls Tryd.prog 12 #[.int .i64 a0, .string a1] w fun e w' => e = .returned (.tuple #[.string r1, .int .i64 r2]) ∧ Below w.heap.size w w' := by
 have hu43 := Tryd.underlying43
 have HB := Aside0.mk (Below.refl w.heap.size w)
 have H : (if a0 < 0 then (view_EncodePage.j0 k a0 a1 true) else (view_EncodePage.j0 k a0 a1 (decide (a0 > 2147483647)))) = some (r1, r2) := h
 clear h
 have HC3 := Aside0.mk H
 clear H
 go_enter Tryd.func12, Tryd.ntmps12
 go_upto_region 1 with (fail)
 go_cut [14] (fun v14 wc => ∃ (kq : Nat) (x14_2 : Bool), v14 = .bool x14_2 ∧ Aside0 (view_EncodePage.j0 kq a0 a1 x14_2 = some (r1, r2)) ∧ Aside0 (kq ≤ k) ∧ Aside0 (Below w.heap.size w wc))
 case first =>
  have H := HC3.out
  clear HC3
  by_cases c4 : a0 < 0
  ·rw [if_pos c4] at H
   have c4b0 : decide (a0 < 0) = true := decide_eq_true c4
   clear c4
   (first | rw [c4b0] | rw [c4be] | (simp only [i64_w, i32_w]; rw [c4b0]) | skip)
   have H' := Aside0.mk H
   clear H
   go_wp2
   go_meet
   case rel => exact ⟨_, (true), q3_, H', ⟨q42_⟩, ⟨q1_⟩⟩
  ·rw [if_neg c4] at H
   have c4b0 : decide (a0 < 0) = false := decide_eq_false c4
   clear c4
   (first | rw [c4b0] | rw [c4be] | (simp only [i64_w, i32_w]; rw [c4b0]) | skip)
   have H' := Aside0.mk H
   clear H
   go_wp2
   go_meet
   case rel => exact ⟨_, (decide (a0 > 2147483647)), q3_, H', ⟨q42_⟩, ⟨q1_⟩⟩
 case rest =>
  clear HC3
  try clear c1
  try clear p2
  try clear c4
  try clear c4b0
  obtain ⟨kq, x14_2, rfl, HA, HJ2, HB⟩ := hcut
  cases kq with
  | zero => exact absurd HA.out (by simp [view_EncodePage.j0])
  | succ kj2 =>
   have H := HA.out
   clear HA
   simp only [view_EncodePage.j0] at H
   by_cases c5 : x14_2 = true
   ·subst c5
    have H1 : (some ((⟨#[]⟩ : ByteArray), 224)) = some (r1, r2) := by rw [if_pos rfl] at H; exact H
    clear H
    have H := H1
    clear H1
    simp only [Option.some.injEq, Prod.mk.injEq] at H
    obtain ⟨rfl, rfl⟩ := H
    go_wp2
    go_ret2
    exact ⟨q4_, q1_⟩
   ·replace c5 := Bool.eq_false_iff.mpr c5
    subst c5
    have H1 : ((view_sequence.f 1).bind fun bt271 => ((ber_PutInt.f a0).bind fun t276 => ((view_octets.f 2 a1).bind fun bt277 => ((ber_Write.f (([(⟨bt271.1, bt271.2.1, bt271.2.2.1, bt271.2.2.2.1, bt271.2.2.2.2⟩ : S43), (⟨2, 0, false, 2, t276⟩ : S43), (⟨bt277.1, bt277.2.1, bt277.2.2.1, bt277.2.2.2.1, bt277.2.2.2.2⟩ : S43)] : List (S43)))).bind fun bt285 => (if bt285.2.1 = 0 then (some (bt285.1, 0)) else (some ((⟨#[]⟩ : ByteArray), 224))))))) = some (r1, r2) := by rw [if_neg (show ¬ (false = true) by decide)] at H; exact H
    clear H
    have H := H1
    clear H1
    replace H := Option.bind_eq_some_iff.mp H
    obtain ⟨⟨t271, t272, t273, t274, t275⟩, A60, H⟩ := H
    replace H : ((ber_PutInt.f a0).bind fun t276 => ((view_octets.f 2 a1).bind fun bt277 => ((ber_Write.f (([(⟨t271, t272, t273, t274, t275⟩ : S43), (⟨2, 0, false, 2, t276⟩ : S43), (⟨bt277.1, bt277.2.1, bt277.2.2.1, bt277.2.2.2.1, bt277.2.2.2.2⟩ : S43)] : List (S43)))).bind fun bt285 => (if bt285.2.1 = 0 then (some (bt285.1, 0)) else (some ((⟨#[]⟩ : ByteArray), 224)))))) = some (r1, r2) := H
    have A6 := Aside0.mk A60
    clear A60
    replace H := Option.bind_eq_some_iff.mp H
    obtain ⟨t276, A70, H⟩ := H
    replace H : ((view_octets.f 2 a1).bind fun bt277 => ((ber_Write.f (([(⟨t271, t272, t273, t274, t275⟩ : S43), (⟨2, 0, false, 2, t276⟩ : S43), (⟨bt277.1, bt277.2.1, bt277.2.2.1, bt277.2.2.2.1, bt277.2.2.2.2⟩ : S43)] : List (S43)))).bind fun bt285 => (if bt285.2.1 = 0 then (some (bt285.1, 0)) else (some ((⟨#[]⟩ : ByteArray), 224))))) = some (r1, r2) := H
    have A7 := Aside0.mk A70
    clear A70
    replace H := Option.bind_eq_some_iff.mp H
    obtain ⟨⟨t277, t278, t279, t280, t281⟩, A80, H⟩ := H
    replace H : ((ber_Write.f (([(⟨t271, t272, t273, t274, t275⟩ : S43), (⟨2, 0, false, 2, t276⟩ : S43), (⟨t277, t278, t279, t280, t281⟩ : S43)] : List (S43)))).bind fun bt285 => (if bt285.2.1 = 0 then (some (bt285.1, 0)) else (some ((⟨#[]⟩ : ByteArray), 224)))) = some (r1, r2) := H
    have A8 := Aside0.mk A80
    clear A80
    obtain ⟨y282, hy282⟩ : ∃ y_ : List (S43), y_ = (([(⟨t271, t272, t273, t274, t275⟩ : S43), (⟨2, 0, false, 2, t276⟩ : S43), (⟨t277, t278, t279, t280, t281⟩ : S43)] : List (S43))) := ⟨_, rfl⟩
    replace H : ((ber_Write.f y282).bind fun bt285 => (if bt285.2.1 = 0 then (some (bt285.1, 0)) else (some ((⟨#[]⟩ : ByteArray), 224)))) = some (r1, r2) := by first | (rw [hy282]; with_reducible exact H) | (have H2_ := (Option.bind_some _ _).symm.trans H; rw [hy282]; with_reducible exact H2_) | (have H2_ := (Option.bind_some _ _).symm.trans H; with_reducible exact H2_) | with_reducible exact H | (rw [hy282]; exact H) | exact H
    have Ny282 := Aside0.mk hy282
    clear hy282
    replace H := Option.bind_eq_some_iff.mp H
    obtain ⟨⟨t285, t286, t287⟩, A90, H⟩ := H
    replace H : (if t286 = 0 then (some (t285, 0)) else (some ((⟨#[]⟩ : ByteArray), 224))) = some (r1, r2) := H
    have A9 := Aside0.mk A90
    clear A90
    by_cases c10 : t286 = 0
    ·rw [if_pos c10] at H
     have c10b0 : (t286 == 0) = true := beq_iff_eq.mpr c10
     have c10b1 : (t286 != 0) = false := bne_eq_false_iff_eq.mpr c10
     clear c10
     simp only [Option.some.injEq, Prod.mk.injEq] at H
     obtain ⟨rfl, rfl⟩ := H
     go_wp2_with (first | ((with_reducible refine gate_callee (f := 21) rfl ?_); refine goesL_ (some 16) rfl rfl Tryd.func21 q9_ rfl #[.int .i64 1] rfl q84_ ?_; (with_reducible refine (view_sequence.calls 1 t271 t272 t273 t274 t275 _ A6.out).mono ?_); rintro e w11 ⟨rfl, hb⟩; refine ⟨_, rfl, ?_⟩; have n0_ := Aside0.mk (below_step q1_ hb); clear HB; have HB := n0_; clear n0_; (try clear hb); (try clear hb2); (try clear hk); (try clear hi)) | ((with_reducible refine gate_callee (f := 33) rfl ?_); refine goesL_ (some 18) rfl rfl Tryd.func33 q9_ rfl #[.int .i64 a0] rfl q84_ ?_; (with_reducible refine (ber_PutInt.calls a0 t276 _ A7.out).mono ?_); rintro e w12 ⟨rfl, hb⟩; refine ⟨_, rfl, ?_⟩; have n0_ := Aside0.mk (below_step q1_ hb); clear HB; have HB := n0_; clear n0_; (try clear hb); (try clear hb2); (try clear hk); (try clear hi)) | ((with_reducible refine gate_callee (f := 23) rfl ?_); refine goesL_ (some 21) rfl rfl Tryd.func23 q9_ rfl #[.int .i64 2, .string a1] rfl q84_ ?_; (with_reducible refine (view_octets.calls 2 a1 t277 t278 t279 t280 t281 _ A8.out).mono ?_); rintro e w13 ⟨rfl, hb⟩; refine ⟨_, rfl, ?_⟩; have n0_ := Aside0.mk (below_step q1_ hb); clear HB; have HB := n0_; clear n0_; (try clear hb); (try clear hb2); (try clear hk); (try clear hi)) | ((with_reducible refine gate_dst (N := 22) rfl ?_); refine Kd.R_lit k43 _ 43 ?hg (N := 22) ?hd (xs := ([(⟨t271, t272, t273, t274, t275⟩ : S43), (⟨2, 0, false, 2, t276⟩ : S43), (⟨t277, t278, t279, t280, t281⟩ : S43)] : List (S43))) (inner := [.int .i64 t271, .int .i64 t272, .bool t273, .int .i64 t274, .string t275, .int .i64 2, .int .i64 0, .bool false, .int .i64 2, .string t276, .int .i64 t277, .int .i64 t278, .bool t279, .int .i64 t280, .string t281]) (ok := fun _ => True) (okp := fun _ => True) ?hr ?hp (fun _ hk => hk) trivial (Below.refl _ _) (Nat.le_refl _) q28_ ?_; (case hd => rfl); (case hg => rfl); (case hr => first | (go_simp; done) | (go_simp; rfl)); (case hp => exact (Reps.c5 (show Kd.M k43 _ _ _ (⟨t271, t272, t273, t274, t275⟩ : S43) [.int .i64 t271, .int .i64 t272, .bool t273, .int .i64 t274, .string t275] from (k43_mkM _ _ _ (⟨t271, t272, t273, t274, t275⟩ : S43) )) (Reps.c5 (show Kd.M k43 _ _ _ (⟨2, 0, false, 2, t276⟩ : S43) [.int .i64 2, .int .i64 0, .bool false, .int .i64 2, .string t276] from (k43_mkM _ _ _ (⟨2, 0, false, 2, t276⟩ : S43) )) (Reps.c5 (show Kd.M k43 _ _ _ (⟨t277, t278, t279, t280, t281⟩ : S43) [.int .i64 t277, .int .i64 t278, .bool t279, .int .i64 t280, .string t281] from (k43_mkM _ _ _ (⟨t277, t278, t279, t280, t281⟩ : S43) )) (Reps.none _ _))))); intro v283 w14 ho15 hb hg_ hnew_; clear hg_ hnew_; (first | rw [← Ny282.out] at ho15 | (simp only [Int.reduceToNat] at ho15; rw [← Ny282.out] at ho15)); have n0_ := Aside0.mk (Kd.R_lower ho15 (below_size q1_)); have n1_ := Aside0.mk (below_step q1_ hb); clear HB; have HO284 := n0_; have HB := n1_; clear n0_ n1_; clear hb ho15; obtain ⟨Ao16, co16, eo16⟩ := Kd.R_slice HO284.out; subst eo16) | ((with_reducible refine gate_callee (f := 26) rfl ?_); refine goesL_ (some 23) rfl rfl Tryd.func26 q9_ rfl #[.slice Ao16 y282.length co16] rfl q84_ ?_; (with_reducible refine (ber_Write.calls _ _ y282 t285 t286 t287 _ ?side1 ?side2 A9.out).mono ?_); (case side1 => repeat (first | exact (Kd.R_reads' HO284.out).2.2 | (with_reducible refine Kd.C_alloc ?_ _) | (with_reducible refine Kd.C_drewN ?_ _) | (with_reducible refine Kd.C_drew ?_))); (case side2 => exact (Kd.R_reads' HO284.out).2.1); rintro e w17 ⟨rfl, hb⟩; refine ⟨_, rfl, ?_⟩; have n0_ := Aside0.mk (Kd.R_below (by (with_reducible repeat (first | apply Kd.R_alloc | apply Kd.R_drewN | apply Kd.R_drew)); exact HO284.out) hb); have n1_ := Aside0.mk (below_step q1_ hb); clear HO284; clear HB; have HO284 := n0_; have HB := n1_; clear n0_ n1_; (try clear hb); (try clear hb2); (try clear hk); (try clear hi)))
     go_ret2
     exact ⟨q4_, q1_⟩
    ·rw [if_neg c10] at H
     have c10b0 : (t286 == 0) = false := beq_eq_false_iff_ne.mpr c10
     have c10b1 : (t286 != 0) = true := bne_iff_ne.mpr c10
     simp only [Option.some.injEq, Prod.mk.injEq] at H
     obtain ⟨rfl, rfl⟩ := H
     go_wp2_with (first | ((with_reducible refine gate_callee (f := 21) rfl ?_); refine goesL_ (some 16) rfl rfl Tryd.func21 q9_ rfl #[.int .i64 1] rfl q84_ ?_; (with_reducible refine (view_sequence.calls 1 t271 t272 t273 t274 t275 _ A6.out).mono ?_); rintro e w18 ⟨rfl, hb⟩; refine ⟨_, rfl, ?_⟩; have n0_ := Aside0.mk (below_step q1_ hb); clear HB; have HB := n0_; clear n0_; (try clear hb); (try clear hb2); (try clear hk); (try clear hi)) | ((with_reducible refine gate_callee (f := 33) rfl ?_); refine goesL_ (some 18) rfl rfl Tryd.func33 q9_ rfl #[.int .i64 a0] rfl q84_ ?_; (with_reducible refine (ber_PutInt.calls a0 t276 _ A7.out).mono ?_); rintro e w19 ⟨rfl, hb⟩; refine ⟨_, rfl, ?_⟩; have n0_ := Aside0.mk (below_step q1_ hb); clear HB; have HB := n0_; clear n0_; (try clear hb); (try clear hb2); (try clear hk); (try clear hi)) | ((with_reducible refine gate_callee (f := 23) rfl ?_); refine goesL_ (some 21) rfl rfl Tryd.func23 q9_ rfl #[.int .i64 2, .string a1] rfl q84_ ?_; (with_reducible refine (view_octets.calls 2 a1 t277 t278 t279 t280 t281 _ A8.out).mono ?_); rintro e w20 ⟨rfl, hb⟩; refine ⟨_, rfl, ?_⟩; have n0_ := Aside0.mk (below_step q1_ hb); clear HB; have HB := n0_; clear n0_; (try clear hb); (try clear hb2); (try clear hk); (try clear hi)) | ((with_reducible refine gate_dst (N := 22) rfl ?_); refine Kd.R_lit k43 _ 43 ?hg (N := 22) ?hd (xs := ([(⟨t271, t272, t273, t274, t275⟩ : S43), (⟨2, 0, false, 2, t276⟩ : S43), (⟨t277, t278, t279, t280, t281⟩ : S43)] : List (S43))) (inner := [.int .i64 t271, .int .i64 t272, .bool t273, .int .i64 t274, .string t275, .int .i64 2, .int .i64 0, .bool false, .int .i64 2, .string t276, .int .i64 t277, .int .i64 t278, .bool t279, .int .i64 t280, .string t281]) (ok := fun _ => True) (okp := fun _ => True) ?hr ?hp (fun _ hk => hk) trivial (Below.refl _ _) (Nat.le_refl _) q28_ ?_; (case hd => rfl); (case hg => rfl); (case hr => first | (go_simp; done) | (go_simp; rfl)); (case hp => exact (Reps.c5 (show Kd.M k43 _ _ _ (⟨t271, t272, t273, t274, t275⟩ : S43) [.int .i64 t271, .int .i64 t272, .bool t273, .int .i64 t274, .string t275] from (k43_mkM _ _ _ (⟨t271, t272, t273, t274, t275⟩ : S43) )) (Reps.c5 (show Kd.M k43 _ _ _ (⟨2, 0, false, 2, t276⟩ : S43) [.int .i64 2, .int .i64 0, .bool false, .int .i64 2, .string t276] from (k43_mkM _ _ _ (⟨2, 0, false, 2, t276⟩ : S43) )) (Reps.c5 (show Kd.M k43 _ _ _ (⟨t277, t278, t279, t280, t281⟩ : S43) [.int .i64 t277, .int .i64 t278, .bool t279, .int .i64 t280, .string t281] from (k43_mkM _ _ _ (⟨t277, t278, t279, t280, t281⟩ : S43) )) (Reps.none _ _))))); intro v283 w21 ho22 hb hg_ hnew_; clear hg_ hnew_; (first | rw [← Ny282.out] at ho22 | (simp only [Int.reduceToNat] at ho22; rw [← Ny282.out] at ho22)); have n0_ := Aside0.mk (Kd.R_lower ho22 (below_size q1_)); have n1_ := Aside0.mk (below_step q1_ hb); clear HB; have HO284 := n0_; have HB := n1_; clear n0_ n1_; clear hb ho22; obtain ⟨Ao23, co23, eo23⟩ := Kd.R_slice HO284.out; subst eo23) | ((with_reducible refine gate_callee (f := 26) rfl ?_); refine goesL_ (some 23) rfl rfl Tryd.func26 q9_ rfl #[.slice Ao23 y282.length co23] rfl q84_ ?_; (with_reducible refine (ber_Write.calls _ _ y282 t285 t286 t287 _ ?side1 ?side2 A9.out).mono ?_); (case side1 => repeat (first | exact (Kd.R_reads' HO284.out).2.2 | (with_reducible refine Kd.C_alloc ?_ _) | (with_reducible refine Kd.C_drewN ?_ _) | (with_reducible refine Kd.C_drew ?_))); (case side2 => exact (Kd.R_reads' HO284.out).2.1); rintro e w24 ⟨rfl, hb⟩; refine ⟨_, rfl, ?_⟩; have n0_ := Aside0.mk (Kd.R_below (by (with_reducible repeat (first | apply Kd.R_alloc | apply Kd.R_drewN | apply Kd.R_drew)); exact HO284.out) hb); have n1_ := Aside0.mk (below_step q1_ hb); clear HO284; clear HB; have HO284 := n0_; have HB := n1_; clear n0_ n1_; (try clear hb); (try clear hb2); (try clear hk); (try clear hi)))
     go_ret2
     exact ⟨q4_, q1_⟩
mutual
def rosterref02_Int.j0 : Nat → ByteArray → Bool → Option (Int × Int)
 | 0, _, _ => none
 | k + 1, x0, x14 => if x14 = true then (some (0, 29)) else (if 0 < (x0.size : Int) then (if (bt x0 0) ≥ 128 then (rosterref02_Int.j1 k x0 (-1)) else (rosterref02_Int.j1 k x0 0)) else (none))
def rosterref02_Int.j1 : Nat → ByteArray → Int → Option (Int × Int)
 | 0, _, _ => none
 | k + 1, x0, x4 => rosterref02_Int.l0 k x0 x4 0
def rosterref02_Int.l0 : Nat → ByteArray → Int → Int → Option (Int × Int)
 | 0, _, _, _ => none
 | k + 1, x0, x4, x5 => if x5 < (x0.size : Int) then (if 0 ≤ x5 then (rosterref02_Int.l0 k x0 (wrap64 ((wrap64 (x4 * 256)) + (wrap64 (bt x0 x5)))) (wrap64 (x5 + 1))) else (none)) else ((rosterref02_PutInt.f k x4).bind fun t288 => (if t288.toList = x0.toList then (some (x4, 0)) else (some (0, 29))))
end
def rosterref02_Int.f (k : Nat) (a0 : ByteArray) : Option (Int × Int) := if (a0.size : Int) < 1 then (rosterref02_Int.j0 k a0 true) else (rosterref02_Int.j0 k a0 (decide ((a0.size : Int) > 8)))
theorem rosterref02_Int.mono_l : ∀ k, (∀ y0 y1, LeO (rosterref02_Int.j0 k y0 y1) (rosterref02_Int.j0 (k + 1) y0 y1)) ∧ (∀ y0 y1, LeO (rosterref02_Int.j1 k y0 y1) (rosterref02_Int.j1 (k + 1) y0 y1)) ∧ (∀ y0 y1 y2, LeO (rosterref02_Int.l0 k y0 y1 y2) (rosterref02_Int.l0 (k + 1) y0 y1 y2))
 | 0 => ⟨fun _ _ r h => by simp [rosterref02_Int.j0] at h, fun _ _ r h => by simp [rosterref02_Int.j1] at h, fun _ _ _ r h => by simp [rosterref02_Int.l0] at h⟩
 | k + 1 => by
  obtain ⟨ih0, ih1, ih2⟩ := rosterref02_Int.mono_l k
  refine ⟨?_, ?_, ?_⟩
  ·intro y0 y1
   unfold rosterref02_Int.j0
   repeat' first
   | (with_reducible exact ih0 _ _)
   | (with_reducible exact ih1 _ _)
   | (with_reducible exact ih2 _ _ _)
   | (with_reducible exact rosterref02_PutInt.mono _ _)
   | (with_reducible exact LeO.refl _)
   | (with_reducible exact LeO.none _)
   | (with_reducible refine LeO.ite ?_ ?_)
   | (with_reducible refine LeO.bind ?_ (fun _ => ?_))
   | exact ih0 _ _
   | exact ih1 _ _
   | exact ih2 _ _ _
   | exact rosterref02_PutInt.mono _ _
   | exact LeO.none _
   | refine LeO.ite ?_ ?_
   | refine LeO.bind ?_ (fun _ => ?_)
  ·intro y0 y1
   unfold rosterref02_Int.j1
   repeat' first
   | (with_reducible exact ih0 _ _)
   | (with_reducible exact ih1 _ _)
   | (with_reducible exact ih2 _ _ _)
   | (with_reducible exact rosterref02_PutInt.mono _ _)
   | (with_reducible exact LeO.refl _)
   | (with_reducible exact LeO.none _)
   | (with_reducible refine LeO.ite ?_ ?_)
   | (with_reducible refine LeO.bind ?_ (fun _ => ?_))
   | exact ih0 _ _
   | exact ih1 _ _
   | exact ih2 _ _ _
   | exact rosterref02_PutInt.mono _ _
   | exact LeO.none _
   | refine LeO.ite ?_ ?_
   | refine LeO.bind ?_ (fun _ => ?_)
  ·intro y0 y1 y2
   unfold rosterref02_Int.l0
   repeat' first
   | (with_reducible exact ih0 _ _)
   | (with_reducible exact ih1 _ _)
   | (with_reducible exact ih2 _ _ _)
   | (with_reducible exact rosterref02_PutInt.mono _ _)
   | (with_reducible exact LeO.refl _)
   | (with_reducible exact LeO.none _)
   | (with_reducible refine LeO.ite ?_ ?_)
   | (with_reducible refine LeO.bind ?_ (fun _ => ?_))
   | exact ih0 _ _
   | exact ih1 _ _
   | exact ih2 _ _ _
   | exact rosterref02_PutInt.mono _ _
   | exact LeO.none _
   | refine LeO.ite ?_ ?_
   | refine LeO.bind ?_ (fun _ => ?_)
theorem rosterref02_Int.mono : ∀ a0 k, LeO (rosterref02_Int.f k a0) (rosterref02_Int.f (k + 1) a0) := by
 intro a0 k
 obtain ⟨ih0, ih1, ih2⟩ := rosterref02_Int.mono_l k
 unfold rosterref02_Int.f
 repeat' first
   | (with_reducible exact ih0 _ _)
   | (with_reducible exact ih1 _ _)
   | (with_reducible exact ih2 _ _ _)
   | (with_reducible exact rosterref02_PutInt.mono _ _)
   | (with_reducible exact LeO.refl _)
   | (with_reducible exact LeO.none _)
   | (with_reducible refine LeO.ite ?_ ?_)
   | (with_reducible refine LeO.bind ?_ (fun _ => ?_))
   | exact ih0 _ _
   | exact ih1 _ _
   | exact ih2 _ _ _
   | exact rosterref02_PutInt.mono _ _
   | exact LeO.none _
   | refine LeO.ite ?_ ?_
   | refine LeO.bind ?_ (fun _ => ?_)
set_option maxHeartbeats 8000000 in
set_option maxRecDepth 100000 in
theorem rosterref02_Int.calls (k : Nat) (a0 : ByteArray) (r1 : Int) (r2 : Int) (w : World) (h : rosterref02_Int.f k a0 = some (r1, r2)) :
  Calls Tryd.prog 34 #[.string a0] w fun e w' => e = .returned (.tuple #[.int .i64 r1, .int .i64 r2]) ∧ Below w.heap.size w w' := by
 have HB := Aside0.mk (Below.refl w.heap.size w)
 have H : (if (a0.size : Int) < 1 then (rosterref02_Int.j0 k a0 true) else (rosterref02_Int.j0 k a0 (decide ((a0.size : Int) > 8)))) = some (r1, r2) := h
 clear h
 have HC2 := Aside0.mk H
 clear H
 go_enter Tryd.func34, Tryd.ntmps34
 go_upto_region 1 with (fail)
 go_cut [14] (fun v14 wc => ∃ (kq : Nat) (x14_1 : Bool), v14 = .bool x14_1 ∧ Aside0 (rosterref02_Int.j0 kq a0 x14_1 = some (r1, r2)) ∧ Aside0 (kq ≤ k) ∧ Aside0 (Below w.heap.size w wc))
 case first =>
  have H := HC2.out
  clear HC2
  by_cases c3 : (a0.size : Int) < 1
  ·rw [if_pos c3] at H
   have c3b0 : decide ((a0.size : Int) < 1) = true := decide_eq_true c3
   have c3b1 : decide (a0.size < 1) = true := decide_eq_true q2_
   have c3b2 : a0.size < 1 := by omega
   clear c3
   (first | rw [c3b0] | rw [c3be] | (simp only [i64_w, i32_w]; rw [c3b0]) | skip)
   have H' := Aside0.mk H
   clear H
   go_wp2
   go_meet
   case rel => exact ⟨_, (true), q3_, H', ⟨q42_⟩, ⟨q1_⟩⟩
  ·rw [if_neg c3] at H
   have c3b0 : decide ((a0.size : Int) < 1) = false := decide_eq_false c3
   have c3b1 : decide (a0.size < 1) = false := decide_eq_false q2_
   have c3b2 : ¬ (a0.size < 1) := by omega
   clear c3
   (first | rw [c3b0] | rw [c3be] | (simp only [i64_w, i32_w]; rw [c3b0]) | skip)
   have H' := Aside0.mk H
   clear H
   go_wp2
   go_meet
   case rel => exact ⟨_, (decide ((a0.size : Int) > 8)), q3_, H', ⟨q42_⟩, ⟨q1_⟩⟩
 case rest =>
  clear HC2
  try clear p2
  try clear c3
  try clear c3b0
  try clear c3b1
  try clear c3b2
  obtain ⟨kq, x14_1, rfl, HA, HJ1, HB⟩ := hcut
  cases kq with
  | zero => exact absurd HA.out (by simp [rosterref02_Int.j0])
  | succ kj1 =>
   have H := HA.out
   clear HA
   simp only [rosterref02_Int.j0] at H
   by_cases c4 : x14_1 = true
   ·subst c4
    have H1 : (some (0, 29)) = some (r1, r2) := by rw [if_pos rfl] at H; exact H
    clear H
    have H := H1
    clear H1
    simp only [Option.some.injEq, Prod.mk.injEq] at H
    obtain ⟨rfl, rfl⟩ := H
    go_wp2
    go_ret2
    exact ⟨q4_, q1_⟩
   ·replace c4 := Bool.eq_false_iff.mpr c4
    subst c4
    have H1 : (if 0 < (a0.size : Int) then (if (bt a0 0) ≥ 128 then (rosterref02_Int.j1 kj1 a0 (-1)) else (rosterref02_Int.j1 kj1 a0 0)) else (none)) = some (r1, r2) := by rw [if_neg (show ¬ (false = true) by decide)] at H; exact H
    clear H
    have H := H1
    clear H1
    by_cases c5 : 0 < (a0.size : Int)
    ·rw [if_pos c5] at H
     have c5b0 : decide (0 < (a0.size : Int)) = true := decide_eq_true c5
     have c5b1 : decide (0 < a0.size) = true := decide_eq_true q2_
     have c5b2 : 0 < a0.size := by omega
     clear c5
     have HC7 := Aside0.mk H
     clear H
     have p6 : 0 ≤ (0 : Int) := q2_
     have q6 : 0 < a0.size := q103_
     have hx6 : ∀ h : 0 < a0.size, ((a0[0]'h).toNat : Int) = bt a0 0 := bt_at a0 0
     clear p6
     have qi6 : (0 < (a0.size : Int)) = True := eq_true (of_decide_eq_true q6_)
     replace q6 := eq_true q6
     go_upto_if 17 with (fail)
     go_cut [4] (fun v4 wc => ∃ (kq : Nat) (x4_6 : Int), v4 = .int .i64 x4_6 ∧ Aside0 (rosterref02_Int.j1 kq a0 x4_6 = some (r1, r2)) ∧ Aside0 (kq ≤ kj1) ∧ Aside0 (Below w.heap.size w wc))
     case first =>
      have H := HC7.out
      clear HC7
      by_cases c8 : (bt a0 0) ≥ 128
      ·rw [if_pos c8] at H
       have c8b0 : decide (128 ≤ (bt a0 0)) = true := decide_eq_true c8
       clear c8
       (first | rw [c8b0] | rw [c8be] | (simp only [i64_w, i32_w]; rw [c8b0]) | skip)
       have H' := Aside0.mk H
       clear H
       go_wp2
       go_meet
       case rel => exact ⟨_, ((-1)), q3_, H', ⟨by have := HJ1.out; first | omega | exact Nat.le_refl _⟩, ⟨q1_⟩⟩
      ·rw [if_neg c8] at H
       have c8b0 : decide (128 ≤ (bt a0 0)) = false := decide_eq_false c8
       clear c8
       (first | rw [c8b0] | rw [c8be] | (simp only [i64_w, i32_w]; rw [c8b0]) | skip)
       have H' := Aside0.mk H
       clear H
       go_wp2
       go_meet
       case rel => exact ⟨_, (0), q3_, H', ⟨by have := HJ1.out; first | omega | exact Nat.le_refl _⟩, ⟨q1_⟩⟩
     case rest =>
      clear HC7
      try clear p2
      try clear c3
      try clear c3b0
      try clear c3b1
      try clear c3b2
      try clear c4
      try clear c5
      try clear c5b0
      try clear c5b1
      try clear c5b2
      try clear p6
      try clear q6
      try clear hx6
      try clear qi6
      try clear c8
      try clear c8b0
      try clear p2
      try clear p6
      try clear q6
      obtain ⟨kq, x4_6, rfl, HA, HJ6, HB⟩ := hcut
      cases kq with
      | zero => exact absurd HA.out (by simp [rosterref02_Int.j1])
      | succ kj6 =>
       have H := HA.out
       clear HA
       simp only [rosterref02_Int.j1] at H
       have H' := Aside0.mk H
       clear H
       go_wp2
       go_loopg [4, 5] kj6 (fun kq v4 v5 w' => ∃ (x4_3 : Int) (x5_3 : Int), v4 = .int .i64 x4_3 ∧ v5 = .int .i64 x5_3 ∧ Aside0 (rosterref02_Int.l0 kq a0 x4_3 x5_3 = some (r1, r2)) ∧ Aside0 (kq ≤ kj6) ∧ Aside0 (Below w.heap.size w w'))
       case atStart => exact ⟨(x4_6), (0), q3_, q3_, H', ⟨Nat.le_refl _⟩, ⟨q1_⟩⟩
       case round =>
        clear H'
        try clear p2
        try clear c3
        try clear c3b0
        try clear c3b1
        try clear c3b2
        try clear c4
        try clear c5
        try clear c5b0
        try clear c5b1
        try clear c5b2
        try clear p6
        try clear q6
        try clear hx6
        try clear qi6
        try clear c8
        try clear c8b0
        try clear p2
        try clear p6
        try clear q6
        obtain ⟨x4_3, x5_3, rfl, rfl, HA, HK3, HB⟩ := hrel
        cases gk with
        | zero => exact absurd HA.out (by simp [rosterref02_Int.l0])
        | succ k3 =>
         have H := HA.out
         clear HA
         simp only [rosterref02_Int.l0] at H
         by_cases c9 : x5_3 < (a0.size : Int)
         ·rw [if_pos c9] at H
          have c9b0 : decide (x5_3 < (a0.size : Int)) = true := decide_eq_true c9
          clear c9
          by_cases c10 : 0 ≤ x5_3
          ·rw [if_pos c10] at H
           have c10b0 : decide (0 ≤ x5_3) = true := decide_eq_true c10
           clear c10
           have H' := Aside0.mk H
           clear H
           have p11 : 0 ≤ (x5_3 : Int) := of_decide_eq_true q6_
           have q11 : x5_3 < (a0.size : Int) := of_decide_eq_true q6_
           have hx11 := bt_at a0 x5_3
           replace p11 := eq_true p11
           replace q11 := eq_true q11
           go_wp2
           go_roundg k3
           case measure => have := HJ1.out; have := HJ6.out; have := HK3.out; omega
           case rel => exact ⟨(wrap64 ((wrap64 (x4_3 * 256)) + (wrap64 (bt a0 x5_3)))), (wrap64 (x5_3 + 1)), q3_, q3_, H', ⟨by have := HJ1.out; have := HJ6.out; have := HK3.out; omega⟩, ⟨q1_⟩⟩
          ·rw [if_neg c10] at H
           exact absurd H q28_
         ·rw [if_neg c9] at H
          have c9b0 : decide (x5_3 < (a0.size : Int)) = false := decide_eq_false c9
          clear c9
          replace H := Option.bind_eq_some_iff.mp H
          obtain ⟨t288, A120, H⟩ := H
          replace H : (if t288.toList = a0.toList then (some (x4_3, 0)) else (some (0, 29))) = some (r1, r2) := H
          have A12 := Aside0.mk A120
          clear A120
          by_cases c13 : t288.toList = a0.toList
          ·rw [if_pos c13] at H
           have c13b0 : (t288.toList == a0.toList) = true := beq_iff_eq.mpr c13
           have c13b1 : (t288.toList != a0.toList) = false := bne_eq_false_iff_eq.mpr c13
           clear c13
           simp only [Option.some.injEq, Prod.mk.injEq] at H
           obtain ⟨rfl, rfl⟩ := H
           go_wp2_with (first | ((with_reducible refine gate_callee (f := 32) rfl ?_); refine goesL_ (some 32) rfl rfl Tryd.func32 q9_ rfl #[.int .i64 x4_3] rfl q84_ ?_; (with_reducible refine (rosterref02_PutInt.calls k3 x4_3 t288 _ A12.out).mono ?_); rintro e w14 ⟨rfl, hb⟩; refine ⟨_, rfl, ?_⟩; have n0_ := Aside0.mk (below_step q1_ hb); clear HB; have HB := n0_; clear n0_; (try clear hb); (try clear hb2); (try clear hk); (try clear hi)))
           go_ret2
           exact ⟨q4_, q1_⟩
          ·rw [if_neg c13] at H
           have c13b0 : (t288.toList == a0.toList) = false := beq_eq_false_iff_ne.mpr c13
           have c13b1 : (t288.toList != a0.toList) = true := bne_iff_ne.mpr c13
           simp only [Option.some.injEq, Prod.mk.injEq] at H
           obtain ⟨rfl, rfl⟩ := H
           go_wp2_with (first | ((with_reducible refine gate_callee (f := 32) rfl ?_); refine goesL_ (some 32) rfl rfl Tryd.func32 q9_ rfl #[.int .i64 x4_3] rfl q84_ ?_; (with_reducible refine (rosterref02_PutInt.calls k3 x4_3 t288 _ A12.out).mono ?_); rintro e w15 ⟨rfl, hb⟩; refine ⟨_, rfl, ?_⟩; have n0_ := Aside0.mk (below_step q1_ hb); clear HB; have HB := n0_; clear n0_; (try clear hb); (try clear hb2); (try clear hk); (try clear hi)))
           go_ret2
           exact ⟨q4_, q1_⟩
    ·rw [if_neg c5] at H
     exact absurd H q28_
end Go.Proofs.YtogjljpncdmlkaaDoor.GV
end
