-- Written for this claim by a program of this session (wip/tools/p2.py).
import Derived.Test.YtgihlldkdbjkkaaGPx0
namespace Go.Proofs.Ytgihlldkdbjkkaa.GP
open Go.RowKit Go.Proofs.YtgihlldkdbjkkaaW.PrintWords Go.Proofs.YtgihlldkdbjkkaaW.PrintLast Go.Proofs.YtgihlldkdbjkkaaW.PrintMore
attribute [local go_sem] max2_int min2_int max_two min_two max_three min_three max_four min_four   -- for this text's walks alone
set_option linter.unusedVariables false
set_option linter.unusedSimpArgs false

/-! ### rosterlaw03_Mark_whole: function 9 -/
def rosterlaw03_Mark_whole.f (l0_0 : List ByteArray) (l0_1 : List ByteArray) (a0_2 : ByteArray) : Option (Bool) := if (l0_0.length : Int) = 2 then (if 0 < (l0_0.length : Int) then (if (rdOf ByteArray.empty l0_0 0).toList = a0_2.toList then (if 1 < (l0_0.length : Int) then (if a0_2.size + 1 ≤ 9223372036854775807 then (if (rdOf ByteArray.empty l0_0 1).toList = (a0_2 ++ (⟨#[120]⟩ : ByteArray)).toList then (if (l0_1.length : Int) = 3 then (if 0 < (l0_1.length : Int) then (if (rdOf ByteArray.empty l0_1 0).toList = a0_2.toList then (if 1 < (l0_1.length : Int) then (if (rdOf ByteArray.empty l0_1 1).toList = (a0_2 ++ (⟨#[120]⟩ : ByteArray)).toList then (if 2 < (l0_1.length : Int) then (some ((rdOf ByteArray.empty l0_1 2).toList == (a0_2 ++ (⟨#[121]⟩ : ByteArray)).toList)) else (none)) else (some false)) else (none)) else (some false)) else (none)) else (some false)) else (some false)) else (none)) else (none)) else (some false)) else (none)) else (some false)
set_option maxHeartbeats 8000000 in
set_option maxRecDepth 100000 in
theorem rosterlaw03_Mark_whole.calls (A0_0 : Option Addr) (c0_0 : Nat) (l0_0 : List ByteArray) (A0_1 : Option Addr) (c0_1 : Nat) (l0_1 : List ByteArray) (a0_2 : ByteArray) (r : Bool) (w : World) (hr0_0 : Kd.C Kd.string w A0_0 l0_0.length l0_0) (hc0_0 : l0_0.length ≤ c0_0) (hr0_1 : Kd.C Kd.string w A0_1 l0_1.length l0_1) (hc0_1 : l0_1.length ≤ c0_1) (h : rosterlaw03_Mark_whole.f l0_0 l0_1 a0_2 = some r) :
  Calls Try.prog 9 #[.agg #[.slice A0_0 l0_0.length c0_0, .slice A0_1 l0_1.length c0_1, .string a0_2]] w fun e w' => e = .returned (.bool r) ∧ Below w.heap.size w w' := by
 have hu37 := Try.underlying37
 have HR0_0 := Aside0.mk hr0_0
 have HC0_0 := Aside0.mk hc0_0
 clear hr0_0 hc0_0
 have HR0_1 := Aside0.mk hr0_1
 have HC0_1 := Aside0.mk hc0_1
 clear hr0_1 hc0_1
 have HB := Aside0.mk (Below.refl w.heap.size w)
 have H : (if (l0_0.length : Int) = 2 then (if 0 < (l0_0.length : Int) then (if (rdOf ByteArray.empty l0_0 0).toList = a0_2.toList then (if 1 < (l0_0.length : Int) then (if a0_2.size + 1 ≤ 9223372036854775807 then (if (rdOf ByteArray.empty l0_0 1).toList = (a0_2 ++ (⟨#[120]⟩ : ByteArray)).toList then (if (l0_1.length : Int) = 3 then (if 0 < (l0_1.length : Int) then (if (rdOf ByteArray.empty l0_1 0).toList = a0_2.toList then (if 1 < (l0_1.length : Int) then (if (rdOf ByteArray.empty l0_1 1).toList = (a0_2 ++ (⟨#[120]⟩ : ByteArray)).toList then (if 2 < (l0_1.length : Int) then (some ((rdOf ByteArray.empty l0_1 2).toList == (a0_2 ++ (⟨#[121]⟩ : ByteArray)).toList)) else (none)) else (some false)) else (none)) else (some false)) else (none)) else (some false)) else (some false)) else (none)) else (none)) else (some false)) else (none)) else (some false)) = some r := h
 clear h
 by_cases c2 : (l0_0.length : Int) = 2
 ·rw [if_pos c2] at H
  have c2b0 : ((l0_0.length : Int) == 2) = true := beq_iff_eq.mpr c2
  have c2b1 : ((l0_0.length : Int) != 2) = false := bne_eq_false_iff_eq.mpr c2
  clear c2
  by_cases c3 : 0 < (l0_0.length : Int)
  ·rw [if_pos c3] at H
   have c3b0 : decide (0 < (l0_0.length : Int)) = true := decide_eq_true c3
   have c3b1 : decide (0 < l0_0.length) = true := decide_eq_true (by omega)
   have c3b2 : 0 < l0_0.length := by omega
   clear c3
   by_cases c4 : (rdOf ByteArray.empty l0_0 0).toList = a0_2.toList
   ·rw [if_pos c4] at H
    have c4b0 : ((rdOf ByteArray.empty l0_0 0).toList == a0_2.toList) = true := beq_iff_eq.mpr c4
    have c4b1 : ((rdOf ByteArray.empty l0_0 0).toList != a0_2.toList) = false := bne_eq_false_iff_eq.mpr c4
    clear c4
    by_cases c5 : 1 < (l0_0.length : Int)
    ·rw [if_pos c5] at H
     have c5b0 : decide (1 < (l0_0.length : Int)) = true := decide_eq_true c5
     have c5b1 : decide (1 < l0_0.length) = true := decide_eq_true (by omega)
     have c5b2 : 1 < l0_0.length := by omega
     clear c5
     by_cases c6 : a0_2.size + 1 ≤ 9223372036854775807
     ·rw [if_pos c6] at H
      have c6b0 := eq_true c6
      have c6b1 : decide (a0_2.size + 1 ≤ 9223372036854775807) = true := decide_eq_true c6
      try have c6b2 : (9223372036854775807 < a0_2.size + 1) = False := eq_false (Nat.not_lt.2 c6)
      by_cases c7 : (rdOf ByteArray.empty l0_0 1).toList = (a0_2 ++ (⟨#[120]⟩ : ByteArray)).toList
      ·rw [if_pos c7] at H
       have c7b0 : ((rdOf ByteArray.empty l0_0 1).toList == (a0_2 ++ (⟨#[120]⟩ : ByteArray)).toList) = true := beq_iff_eq.mpr c7
       have c7b1 : ((rdOf ByteArray.empty l0_0 1).toList != (a0_2 ++ (⟨#[120]⟩ : ByteArray)).toList) = false := bne_eq_false_iff_eq.mpr c7
       clear c7
       by_cases c8 : (l0_1.length : Int) = 3
       ·rw [if_pos c8] at H
        have c8b0 : ((l0_1.length : Int) == 3) = true := beq_iff_eq.mpr c8
        have c8b1 : ((l0_1.length : Int) != 3) = false := bne_eq_false_iff_eq.mpr c8
        clear c8
        by_cases c9 : 0 < (l0_1.length : Int)
        ·rw [if_pos c9] at H
         have c9b0 : decide (0 < (l0_1.length : Int)) = true := decide_eq_true c9
         have c9b1 : decide (0 < l0_1.length) = true := decide_eq_true (by omega)
         have c9b2 : 0 < l0_1.length := by omega
         clear c9
         by_cases c10 : (rdOf ByteArray.empty l0_1 0).toList = a0_2.toList
         ·rw [if_pos c10] at H
          have c10b0 : ((rdOf ByteArray.empty l0_1 0).toList == a0_2.toList) = true := beq_iff_eq.mpr c10
          have c10b1 : ((rdOf ByteArray.empty l0_1 0).toList != a0_2.toList) = false := bne_eq_false_iff_eq.mpr c10
          clear c10
          by_cases c11 : 1 < (l0_1.length : Int)
          ·rw [if_pos c11] at H
           have c11b0 : decide (1 < (l0_1.length : Int)) = true := decide_eq_true c11
           have c11b1 : decide (1 < l0_1.length) = true := decide_eq_true (by omega)
           have c11b2 : 1 < l0_1.length := by omega
           clear c11
           by_cases c12 : (rdOf ByteArray.empty l0_1 1).toList = (a0_2 ++ (⟨#[120]⟩ : ByteArray)).toList
           ·rw [if_pos c12] at H
            have c12b0 : ((rdOf ByteArray.empty l0_1 1).toList == (a0_2 ++ (⟨#[120]⟩ : ByteArray)).toList) = true := beq_iff_eq.mpr c12
            have c12b1 : ((rdOf ByteArray.empty l0_1 1).toList != (a0_2 ++ (⟨#[120]⟩ : ByteArray)).toList) = false := bne_eq_false_iff_eq.mpr c12
            clear c12
            by_cases c13 : 2 < (l0_1.length : Int)
            ·rw [if_pos c13] at H
             have c13b0 : decide (2 < (l0_1.length : Int)) = true := decide_eq_true c13
             have c13b1 : decide (2 < l0_1.length) = true := decide_eq_true (by omega)
             have c13b2 : 2 < l0_1.length := by omega
             clear c13
             obtain rfl := Option.some.inj H
             go_enter Try.func9, Try.ntmps9
             iterate 9 (try (first | go_quiet (fail) | go_wp2_with (first | ((with_reducible refine gate_dst (N := 1) rfl ?_); refine box_event ?hg (N := 1) ?hd (cs := #[.slice A0_0 l0_0.length c0_0, .slice A0_1 l0_1.length c0_1, .string a0_2]) (t := 37) ?hr ?_; (case hd => rfl); (case hg => rfl); (case hr => first | (go_simp; done) | (go_simp; rfl)); intro gb112 hg w14 hbox hb; have n0_ := Aside0.mk (below_step (by repeat (first | (with_reducible first | exact HB.out | apply below_alloc | apply pw_below_drewN | apply below_drew1) | exact HB.out)) hb); have n1_ := Aside0.mk (hbox); have n2_ := Aside0.mk ((by rw [hg]; exact (below_size (by repeat (first | (with_reducible first | exact HB.out | apply below_alloc | apply pw_below_drewN | apply below_drew1) | exact HB.out))) : w.heap.size ≤ gb112)); have n3_ := Aside0.mk ((by rw [hg]; exact (below_size (by repeat (first | (with_reducible first | exact HB.out | apply below_alloc | apply pw_below_drewN | apply below_drew1) | exact HB.out))) : w.heap.size ≤ gb112)); clear HB; have HB := n0_; have BK112 := n1_; have GW112 := n2_; have GE112 := n3_; clear n0_ n1_ n2_ n3_; clear hb hbox hg; obtain ⟨hcz15_0, hcz15_1, hcz15_2⟩ := cells3_ BK112.out; obtain ⟨hfz15_0, hfz15_1, hfz15_2⟩ := frz3_ BK112.out; have p113 : 0 ≤ (0 : Int) := (by omega); have q113 : 0 < (l0_0.length : Int) := of_decide_eq_true (by first | (with_reducible assumption) | assumption); obtain ⟨ad113, e113, hx113_0⟩ := Kd.at_string HR0_0.out 0 p113 q113; cases e113; have qi113 : (0 < l0_0.length) = True := eq_true (by omega); (try rw [show ((0 : Int)).toNat = 0 from rfl] at hx113_0); (try rw [Addr.add_zero'] at hx113_0); replace hx113_0 := cellB_ HB.out hx113_0; replace p113 := eq_true p113; replace q113 := eq_true q113; have p114 : 0 ≤ (1 : Int) := (by omega); have q114 : 1 < (l0_0.length : Int) := of_decide_eq_true (by first | (with_reducible assumption) | assumption); obtain ⟨ad114, e114, hx114_0⟩ := Kd.at_string HR0_0.out 1 p114 q114; obtain rfl : ad113 = ad114 := (by injection e114); (try simp only [show (1 : Int).toNat = 1 from rfl, Nat.reduceMul, Nat.reduceEqDiff, Go.Addr.add, ↓reduceIte] at hx114_0); have qi114 : (1 < l0_0.length) = True := eq_true (by omega); (try rw [show ((1 : Int)).toNat = 1 from rfl] at hx114_0); replace hx114_0 := cellB_ HB.out hx114_0; replace p114 := eq_true p114; replace q114 := eq_true q114; have p115 : 0 ≤ (0 : Int) := (by omega); have q115 : 0 < (l0_1.length : Int) := of_decide_eq_true (by first | (with_reducible assumption) | assumption); obtain ⟨ad115, e115, hx115_0⟩ := Kd.at_string HR0_1.out 0 p115 q115; cases e115; have qi115 : (0 < l0_1.length) = True := eq_true (by omega); (try rw [show ((0 : Int)).toNat = 0 from rfl] at hx115_0); (try rw [Addr.add_zero'] at hx115_0); replace hx115_0 := cellB_ HB.out hx115_0; replace p115 := eq_true p115; replace q115 := eq_true q115; have p116 : 0 ≤ (1 : Int) := (by omega); have q116 : 1 < (l0_1.length : Int) := of_decide_eq_true (by first | (with_reducible assumption) | assumption); obtain ⟨ad116, e116, hx116_0⟩ := Kd.at_string HR0_1.out 1 p116 q116; obtain rfl : ad115 = ad116 := (by injection e116); (try simp only [show (1 : Int).toNat = 1 from rfl, Nat.reduceMul, Nat.reduceEqDiff, Go.Addr.add, ↓reduceIte] at hx116_0); have qi116 : (1 < l0_1.length) = True := eq_true (by omega); (try rw [show ((1 : Int)).toNat = 1 from rfl] at hx116_0); replace hx116_0 := cellB_ HB.out hx116_0; replace p116 := eq_true p116; replace q116 := eq_true q116; have p117 : 0 ≤ (2 : Int) := (by omega); have q117 : 2 < (l0_1.length : Int) := of_decide_eq_true (by first | (with_reducible assumption) | assumption); obtain ⟨ad117, e117, hx117_0⟩ := Kd.at_string HR0_1.out 2 p117 q117; obtain rfl : ad115 = ad117 := (by injection e117); (try simp only [show (2 : Int).toNat = 2 from rfl, Nat.reduceMul, Nat.reduceEqDiff, Go.Addr.add, ↓reduceIte] at hx117_0); have qi117 : (2 < l0_1.length) = True := eq_true (by omega); (try rw [show ((2 : Int)).toNat = 2 from rfl] at hx117_0); replace hx117_0 := cellB_ HB.out hx117_0; replace p117 := eq_true p117; replace q117 := eq_true q117))))
             go_ret
             exact ⟨by first | rfl | (simp [isEmpty_ne_]; done) | (simp [*, errW_none, errW_some] <;> rfl), by repeat (first | (with_reducible first | exact HB.out | apply below_alloc | apply pw_below_drewN | apply below_drew1 | refine below_set ?_ GE112.out) | exact HB.out)⟩
            ·rw [if_neg c13] at H
             exact absurd H (by simp)
           ·rw [if_neg c12] at H
            have c12b0 : ((rdOf ByteArray.empty l0_1 1).toList == (a0_2 ++ (⟨#[120]⟩ : ByteArray)).toList) = false := beq_eq_false_iff_ne.mpr c12
            have c12b1 : ((rdOf ByteArray.empty l0_1 1).toList != (a0_2 ++ (⟨#[120]⟩ : ByteArray)).toList) = true := bne_iff_ne.mpr c12
            obtain rfl := Option.some.inj H
            go_enter Try.func9, Try.ntmps9
            iterate 9 (try (first | go_quiet (fail) | go_wp2_with (first | ((with_reducible refine gate_dst (N := 1) rfl ?_); refine box_event ?hg (N := 1) ?hd (cs := #[.slice A0_0 l0_0.length c0_0, .slice A0_1 l0_1.length c0_1, .string a0_2]) (t := 37) ?hr ?_; (case hd => rfl); (case hg => rfl); (case hr => first | (go_simp; done) | (go_simp; rfl)); intro gb112 hg w16 hbox hb; have n0_ := Aside0.mk (below_step (by repeat (first | (with_reducible first | exact HB.out | apply below_alloc | apply pw_below_drewN | apply below_drew1) | exact HB.out)) hb); have n1_ := Aside0.mk (hbox); have n2_ := Aside0.mk ((by rw [hg]; exact (below_size (by repeat (first | (with_reducible first | exact HB.out | apply below_alloc | apply pw_below_drewN | apply below_drew1) | exact HB.out))) : w.heap.size ≤ gb112)); have n3_ := Aside0.mk ((by rw [hg]; exact (below_size (by repeat (first | (with_reducible first | exact HB.out | apply below_alloc | apply pw_below_drewN | apply below_drew1) | exact HB.out))) : w.heap.size ≤ gb112)); clear HB; have HB := n0_; have BK112 := n1_; have GW112 := n2_; have GE112 := n3_; clear n0_ n1_ n2_ n3_; clear hb hbox hg; obtain ⟨hcz17_0, hcz17_1, hcz17_2⟩ := cells3_ BK112.out; obtain ⟨hfz17_0, hfz17_1, hfz17_2⟩ := frz3_ BK112.out; have p113 : 0 ≤ (0 : Int) := (by omega); have q113 : 0 < (l0_0.length : Int) := of_decide_eq_true (by first | (with_reducible assumption) | assumption); obtain ⟨ad113, e113, hx113_0⟩ := Kd.at_string HR0_0.out 0 p113 q113; cases e113; have qi113 : (0 < l0_0.length) = True := eq_true (by omega); (try rw [show ((0 : Int)).toNat = 0 from rfl] at hx113_0); (try rw [Addr.add_zero'] at hx113_0); replace hx113_0 := cellB_ HB.out hx113_0; replace p113 := eq_true p113; replace q113 := eq_true q113; have p114 : 0 ≤ (1 : Int) := (by omega); have q114 : 1 < (l0_0.length : Int) := of_decide_eq_true (by first | (with_reducible assumption) | assumption); obtain ⟨ad114, e114, hx114_0⟩ := Kd.at_string HR0_0.out 1 p114 q114; obtain rfl : ad113 = ad114 := (by injection e114); (try simp only [show (1 : Int).toNat = 1 from rfl, Nat.reduceMul, Nat.reduceEqDiff, Go.Addr.add, ↓reduceIte] at hx114_0); have qi114 : (1 < l0_0.length) = True := eq_true (by omega); (try rw [show ((1 : Int)).toNat = 1 from rfl] at hx114_0); replace hx114_0 := cellB_ HB.out hx114_0; replace p114 := eq_true p114; replace q114 := eq_true q114; have p115 : 0 ≤ (0 : Int) := (by omega); have q115 : 0 < (l0_1.length : Int) := of_decide_eq_true (by first | (with_reducible assumption) | assumption); obtain ⟨ad115, e115, hx115_0⟩ := Kd.at_string HR0_1.out 0 p115 q115; cases e115; have qi115 : (0 < l0_1.length) = True := eq_true (by omega); (try rw [show ((0 : Int)).toNat = 0 from rfl] at hx115_0); (try rw [Addr.add_zero'] at hx115_0); replace hx115_0 := cellB_ HB.out hx115_0; replace p115 := eq_true p115; replace q115 := eq_true q115; have p116 : 0 ≤ (1 : Int) := (by omega); have q116 : 1 < (l0_1.length : Int) := of_decide_eq_true (by first | (with_reducible assumption) | assumption); obtain ⟨ad116, e116, hx116_0⟩ := Kd.at_string HR0_1.out 1 p116 q116; obtain rfl : ad115 = ad116 := (by injection e116); (try simp only [show (1 : Int).toNat = 1 from rfl, Nat.reduceMul, Nat.reduceEqDiff, Go.Addr.add, ↓reduceIte] at hx116_0); have qi116 : (1 < l0_1.length) = True := eq_true (by omega); (try rw [show ((1 : Int)).toNat = 1 from rfl] at hx116_0); replace hx116_0 := cellB_ HB.out hx116_0; replace p116 := eq_true p116; replace q116 := eq_true q116))))
            go_ret
            exact ⟨by first | rfl | (simp [isEmpty_ne_]; done) | (simp [*, errW_none, errW_some] <;> rfl), by repeat (first | (with_reducible first | exact HB.out | apply below_alloc | apply pw_below_drewN | apply below_drew1 | refine below_set ?_ GE112.out) | exact HB.out)⟩
          ·rw [if_neg c11] at H
           exact absurd H (by simp)
         ·rw [if_neg c10] at H
          have c10b0 : ((rdOf ByteArray.empty l0_1 0).toList == a0_2.toList) = false := beq_eq_false_iff_ne.mpr c10
          have c10b1 : ((rdOf ByteArray.empty l0_1 0).toList != a0_2.toList) = true := bne_iff_ne.mpr c10
          obtain rfl := Option.some.inj H
          go_enter Try.func9, Try.ntmps9
          iterate 9 (try (first | go_quiet (fail) | go_wp2_with (first | ((with_reducible refine gate_dst (N := 1) rfl ?_); refine box_event ?hg (N := 1) ?hd (cs := #[.slice A0_0 l0_0.length c0_0, .slice A0_1 l0_1.length c0_1, .string a0_2]) (t := 37) ?hr ?_; (case hd => rfl); (case hg => rfl); (case hr => first | (go_simp; done) | (go_simp; rfl)); intro gb112 hg w18 hbox hb; have n0_ := Aside0.mk (below_step (by repeat (first | (with_reducible first | exact HB.out | apply below_alloc | apply pw_below_drewN | apply below_drew1) | exact HB.out)) hb); have n1_ := Aside0.mk (hbox); have n2_ := Aside0.mk ((by rw [hg]; exact (below_size (by repeat (first | (with_reducible first | exact HB.out | apply below_alloc | apply pw_below_drewN | apply below_drew1) | exact HB.out))) : w.heap.size ≤ gb112)); have n3_ := Aside0.mk ((by rw [hg]; exact (below_size (by repeat (first | (with_reducible first | exact HB.out | apply below_alloc | apply pw_below_drewN | apply below_drew1) | exact HB.out))) : w.heap.size ≤ gb112)); clear HB; have HB := n0_; have BK112 := n1_; have GW112 := n2_; have GE112 := n3_; clear n0_ n1_ n2_ n3_; clear hb hbox hg; obtain ⟨hcz19_0, hcz19_1, hcz19_2⟩ := cells3_ BK112.out; obtain ⟨hfz19_0, hfz19_1, hfz19_2⟩ := frz3_ BK112.out; have p113 : 0 ≤ (0 : Int) := (by omega); have q113 : 0 < (l0_0.length : Int) := of_decide_eq_true (by first | (with_reducible assumption) | assumption); obtain ⟨ad113, e113, hx113_0⟩ := Kd.at_string HR0_0.out 0 p113 q113; cases e113; have qi113 : (0 < l0_0.length) = True := eq_true (by omega); (try rw [show ((0 : Int)).toNat = 0 from rfl] at hx113_0); (try rw [Addr.add_zero'] at hx113_0); replace hx113_0 := cellB_ HB.out hx113_0; replace p113 := eq_true p113; replace q113 := eq_true q113; have p114 : 0 ≤ (1 : Int) := (by omega); have q114 : 1 < (l0_0.length : Int) := of_decide_eq_true (by first | (with_reducible assumption) | assumption); obtain ⟨ad114, e114, hx114_0⟩ := Kd.at_string HR0_0.out 1 p114 q114; obtain rfl : ad113 = ad114 := (by injection e114); (try simp only [show (1 : Int).toNat = 1 from rfl, Nat.reduceMul, Nat.reduceEqDiff, Go.Addr.add, ↓reduceIte] at hx114_0); have qi114 : (1 < l0_0.length) = True := eq_true (by omega); (try rw [show ((1 : Int)).toNat = 1 from rfl] at hx114_0); replace hx114_0 := cellB_ HB.out hx114_0; replace p114 := eq_true p114; replace q114 := eq_true q114; have p115 : 0 ≤ (0 : Int) := (by omega); have q115 : 0 < (l0_1.length : Int) := of_decide_eq_true (by first | (with_reducible assumption) | assumption); obtain ⟨ad115, e115, hx115_0⟩ := Kd.at_string HR0_1.out 0 p115 q115; cases e115; have qi115 : (0 < l0_1.length) = True := eq_true (by omega); (try rw [show ((0 : Int)).toNat = 0 from rfl] at hx115_0); (try rw [Addr.add_zero'] at hx115_0); replace hx115_0 := cellB_ HB.out hx115_0; replace p115 := eq_true p115; replace q115 := eq_true q115))))
          go_ret
          exact ⟨by first | rfl | (simp [isEmpty_ne_]; done) | (simp [*, errW_none, errW_some] <;> rfl), by repeat (first | (with_reducible first | exact HB.out | apply below_alloc | apply pw_below_drewN | apply below_drew1 | refine below_set ?_ GE112.out) | exact HB.out)⟩
        ·rw [if_neg c9] at H
         exact absurd H (by simp)
       ·rw [if_neg c8] at H
        have c8b0 : ((l0_1.length : Int) == 3) = false := beq_eq_false_iff_ne.mpr c8
        have c8b1 : ((l0_1.length : Int) != 3) = true := bne_iff_ne.mpr c8
        obtain rfl := Option.some.inj H
        go_enter Try.func9, Try.ntmps9
        iterate 9 (try (first | go_quiet (fail) | go_wp2_with (first | ((with_reducible refine gate_dst (N := 1) rfl ?_); refine box_event ?hg (N := 1) ?hd (cs := #[.slice A0_0 l0_0.length c0_0, .slice A0_1 l0_1.length c0_1, .string a0_2]) (t := 37) ?hr ?_; (case hd => rfl); (case hg => rfl); (case hr => first | (go_simp; done) | (go_simp; rfl)); intro gb112 hg w20 hbox hb; have n0_ := Aside0.mk (below_step (by repeat (first | (with_reducible first | exact HB.out | apply below_alloc | apply pw_below_drewN | apply below_drew1) | exact HB.out)) hb); have n1_ := Aside0.mk (hbox); have n2_ := Aside0.mk ((by rw [hg]; exact (below_size (by repeat (first | (with_reducible first | exact HB.out | apply below_alloc | apply pw_below_drewN | apply below_drew1) | exact HB.out))) : w.heap.size ≤ gb112)); have n3_ := Aside0.mk ((by rw [hg]; exact (below_size (by repeat (first | (with_reducible first | exact HB.out | apply below_alloc | apply pw_below_drewN | apply below_drew1) | exact HB.out))) : w.heap.size ≤ gb112)); clear HB; have HB := n0_; have BK112 := n1_; have GW112 := n2_; have GE112 := n3_; clear n0_ n1_ n2_ n3_; clear hb hbox hg; obtain ⟨hcz21_0, hcz21_1, hcz21_2⟩ := cells3_ BK112.out; obtain ⟨hfz21_0, hfz21_1, hfz21_2⟩ := frz3_ BK112.out; have p113 : 0 ≤ (0 : Int) := (by omega); have q113 : 0 < (l0_0.length : Int) := of_decide_eq_true (by first | (with_reducible assumption) | assumption); obtain ⟨ad113, e113, hx113_0⟩ := Kd.at_string HR0_0.out 0 p113 q113; cases e113; have qi113 : (0 < l0_0.length) = True := eq_true (by omega); (try rw [show ((0 : Int)).toNat = 0 from rfl] at hx113_0); (try rw [Addr.add_zero'] at hx113_0); replace hx113_0 := cellB_ HB.out hx113_0; replace p113 := eq_true p113; replace q113 := eq_true q113; have p114 : 0 ≤ (1 : Int) := (by omega); have q114 : 1 < (l0_0.length : Int) := of_decide_eq_true (by first | (with_reducible assumption) | assumption); obtain ⟨ad114, e114, hx114_0⟩ := Kd.at_string HR0_0.out 1 p114 q114; obtain rfl : ad113 = ad114 := (by injection e114); (try simp only [show (1 : Int).toNat = 1 from rfl, Nat.reduceMul, Nat.reduceEqDiff, Go.Addr.add, ↓reduceIte] at hx114_0); have qi114 : (1 < l0_0.length) = True := eq_true (by omega); (try rw [show ((1 : Int)).toNat = 1 from rfl] at hx114_0); replace hx114_0 := cellB_ HB.out hx114_0; replace p114 := eq_true p114; replace q114 := eq_true q114))))
        go_ret
        exact ⟨by first | rfl | (simp [isEmpty_ne_]; done) | (simp [*, errW_none, errW_some] <;> rfl), by repeat (first | (with_reducible first | exact HB.out | apply below_alloc | apply pw_below_drewN | apply below_drew1 | refine below_set ?_ GE112.out) | exact HB.out)⟩
      ·rw [if_neg c7] at H
       have c7b0 : ((rdOf ByteArray.empty l0_0 1).toList == (a0_2 ++ (⟨#[120]⟩ : ByteArray)).toList) = false := beq_eq_false_iff_ne.mpr c7
       have c7b1 : ((rdOf ByteArray.empty l0_0 1).toList != (a0_2 ++ (⟨#[120]⟩ : ByteArray)).toList) = true := bne_iff_ne.mpr c7
       obtain rfl := Option.some.inj H
       go_enter Try.func9, Try.ntmps9
       iterate 9 (try (first | go_quiet (fail) | go_wp2_with (first | ((with_reducible refine gate_dst (N := 1) rfl ?_); refine box_event ?hg (N := 1) ?hd (cs := #[.slice A0_0 l0_0.length c0_0, .slice A0_1 l0_1.length c0_1, .string a0_2]) (t := 37) ?hr ?_; (case hd => rfl); (case hg => rfl); (case hr => first | (go_simp; done) | (go_simp; rfl)); intro gb112 hg w22 hbox hb; have n0_ := Aside0.mk (below_step (by repeat (first | (with_reducible first | exact HB.out | apply below_alloc | apply pw_below_drewN | apply below_drew1) | exact HB.out)) hb); have n1_ := Aside0.mk (hbox); have n2_ := Aside0.mk ((by rw [hg]; exact (below_size (by repeat (first | (with_reducible first | exact HB.out | apply below_alloc | apply pw_below_drewN | apply below_drew1) | exact HB.out))) : w.heap.size ≤ gb112)); have n3_ := Aside0.mk ((by rw [hg]; exact (below_size (by repeat (first | (with_reducible first | exact HB.out | apply below_alloc | apply pw_below_drewN | apply below_drew1) | exact HB.out))) : w.heap.size ≤ gb112)); clear HB; have HB := n0_; have BK112 := n1_; have GW112 := n2_; have GE112 := n3_; clear n0_ n1_ n2_ n3_; clear hb hbox hg; obtain ⟨hcz23_0, hcz23_1, hcz23_2⟩ := cells3_ BK112.out; obtain ⟨hfz23_0, hfz23_1, hfz23_2⟩ := frz3_ BK112.out; have p113 : 0 ≤ (0 : Int) := (by omega); have q113 : 0 < (l0_0.length : Int) := of_decide_eq_true (by first | (with_reducible assumption) | assumption); obtain ⟨ad113, e113, hx113_0⟩ := Kd.at_string HR0_0.out 0 p113 q113; cases e113; have qi113 : (0 < l0_0.length) = True := eq_true (by omega); (try rw [show ((0 : Int)).toNat = 0 from rfl] at hx113_0); (try rw [Addr.add_zero'] at hx113_0); replace hx113_0 := cellB_ HB.out hx113_0; replace p113 := eq_true p113; replace q113 := eq_true q113; have p114 : 0 ≤ (1 : Int) := (by omega); have q114 : 1 < (l0_0.length : Int) := of_decide_eq_true (by first | (with_reducible assumption) | assumption); obtain ⟨ad114, e114, hx114_0⟩ := Kd.at_string HR0_0.out 1 p114 q114; obtain rfl : ad113 = ad114 := (by injection e114); (try simp only [show (1 : Int).toNat = 1 from rfl, Nat.reduceMul, Nat.reduceEqDiff, Go.Addr.add, ↓reduceIte] at hx114_0); have qi114 : (1 < l0_0.length) = True := eq_true (by omega); (try rw [show ((1 : Int)).toNat = 1 from rfl] at hx114_0); replace hx114_0 := cellB_ HB.out hx114_0; replace p114 := eq_true p114; replace q114 := eq_true q114))))
       go_ret
       exact ⟨by first | rfl | (simp [isEmpty_ne_]; done) | (simp [*, errW_none, errW_some] <;> rfl), by repeat (first | (with_reducible first | exact HB.out | apply below_alloc | apply pw_below_drewN | apply below_drew1 | refine below_set ?_ GE112.out) | exact HB.out)⟩
     ·rw [if_neg c6] at H
      exact absurd H (by simp)
    ·rw [if_neg c5] at H
     exact absurd H (by simp)
   ·rw [if_neg c4] at H
    have c4b0 : ((rdOf ByteArray.empty l0_0 0).toList == a0_2.toList) = false := beq_eq_false_iff_ne.mpr c4
    have c4b1 : ((rdOf ByteArray.empty l0_0 0).toList != a0_2.toList) = true := bne_iff_ne.mpr c4
    obtain rfl := Option.some.inj H
    go_enter Try.func9, Try.ntmps9
    iterate 9 (try (first | go_quiet (fail) | go_wp2_with (first | ((with_reducible refine gate_dst (N := 1) rfl ?_); refine box_event ?hg (N := 1) ?hd (cs := #[.slice A0_0 l0_0.length c0_0, .slice A0_1 l0_1.length c0_1, .string a0_2]) (t := 37) ?hr ?_; (case hd => rfl); (case hg => rfl); (case hr => first | (go_simp; done) | (go_simp; rfl)); intro gb112 hg w24 hbox hb; have n0_ := Aside0.mk (below_step (by repeat (first | (with_reducible first | exact HB.out | apply below_alloc | apply pw_below_drewN | apply below_drew1) | exact HB.out)) hb); have n1_ := Aside0.mk (hbox); have n2_ := Aside0.mk ((by rw [hg]; exact (below_size (by repeat (first | (with_reducible first | exact HB.out | apply below_alloc | apply pw_below_drewN | apply below_drew1) | exact HB.out))) : w.heap.size ≤ gb112)); have n3_ := Aside0.mk ((by rw [hg]; exact (below_size (by repeat (first | (with_reducible first | exact HB.out | apply below_alloc | apply pw_below_drewN | apply below_drew1) | exact HB.out))) : w.heap.size ≤ gb112)); clear HB; have HB := n0_; have BK112 := n1_; have GW112 := n2_; have GE112 := n3_; clear n0_ n1_ n2_ n3_; clear hb hbox hg; obtain ⟨hcz25_0, hcz25_1, hcz25_2⟩ := cells3_ BK112.out; obtain ⟨hfz25_0, hfz25_1, hfz25_2⟩ := frz3_ BK112.out; have p113 : 0 ≤ (0 : Int) := (by omega); have q113 : 0 < (l0_0.length : Int) := of_decide_eq_true (by first | (with_reducible assumption) | assumption); obtain ⟨ad113, e113, hx113_0⟩ := Kd.at_string HR0_0.out 0 p113 q113; cases e113; have qi113 : (0 < l0_0.length) = True := eq_true (by omega); (try rw [show ((0 : Int)).toNat = 0 from rfl] at hx113_0); (try rw [Addr.add_zero'] at hx113_0); replace hx113_0 := cellB_ HB.out hx113_0; replace p113 := eq_true p113; replace q113 := eq_true q113))))
    go_ret
    exact ⟨by first | rfl | (simp [isEmpty_ne_]; done) | (simp [*, errW_none, errW_some] <;> rfl), by repeat (first | (with_reducible first | exact HB.out | apply below_alloc | apply pw_below_drewN | apply below_drew1 | refine below_set ?_ GE112.out) | exact HB.out)⟩
  ·rw [if_neg c3] at H
   exact absurd H (by simp)
 ·rw [if_neg c2] at H
  have c2b0 : ((l0_0.length : Int) == 2) = false := beq_eq_false_iff_ne.mpr c2
  have c2b1 : ((l0_0.length : Int) != 2) = true := bne_iff_ne.mpr c2
  obtain rfl := Option.some.inj H
  go_enter Try.func9, Try.ntmps9
  iterate 9 (try (first | go_quiet (fail) | go_wp2_with (first | ((with_reducible refine gate_dst (N := 1) rfl ?_); refine box_event ?hg (N := 1) ?hd (cs := #[.slice A0_0 l0_0.length c0_0, .slice A0_1 l0_1.length c0_1, .string a0_2]) (t := 37) ?hr ?_; (case hd => rfl); (case hg => rfl); (case hr => first | (go_simp; done) | (go_simp; rfl)); intro gb112 hg w26 hbox hb; have n0_ := Aside0.mk (below_step (by repeat (first | (with_reducible first | exact HB.out | apply below_alloc | apply pw_below_drewN | apply below_drew1) | exact HB.out)) hb); have n1_ := Aside0.mk (hbox); have n2_ := Aside0.mk ((by rw [hg]; exact (below_size (by repeat (first | (with_reducible first | exact HB.out | apply below_alloc | apply pw_below_drewN | apply below_drew1) | exact HB.out))) : w.heap.size ≤ gb112)); have n3_ := Aside0.mk ((by rw [hg]; exact (below_size (by repeat (first | (with_reducible first | exact HB.out | apply below_alloc | apply pw_below_drewN | apply below_drew1) | exact HB.out))) : w.heap.size ≤ gb112)); clear HB; have HB := n0_; have BK112 := n1_; have GW112 := n2_; have GE112 := n3_; clear n0_ n1_ n2_ n3_; clear hb hbox hg; obtain ⟨hcz27_0, hcz27_1, hcz27_2⟩ := cells3_ BK112.out; obtain ⟨hfz27_0, hfz27_1, hfz27_2⟩ := frz3_ BK112.out))))
  go_ret
  exact ⟨by first | rfl | (simp [isEmpty_ne_]; done) | (simp [*, errW_none, errW_some] <;> rfl), by repeat (first | (with_reducible first | exact HB.out | apply below_alloc | apply pw_below_drewN | apply below_drew1 | refine below_set ?_ GE112.out) | exact HB.out)⟩

end Go.Proofs.Ytgihlldkdbjkkaa.GP
