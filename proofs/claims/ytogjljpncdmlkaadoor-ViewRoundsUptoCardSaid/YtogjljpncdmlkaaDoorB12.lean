/- Texts of this claim in one: GOx2 -/
import Derived.Test.YtogjljpncdmlkaaDoorB3
import Derived.Test.YtogjljpncdmlkaaDoorB6
import Derived.Test.YtogjljpncdmlkaaDoorB11
section
namespace Go.Proofs.YtogjljpncdmlkaaDoor.GO
open Go.RowKit Go.Proofs.YtogjljpncdmlkaaDoorW.PrintWords Go.Proofs.YtogjljpncdmlkaaDoorW.PrintLast Go.Proofs.YtogjljpncdmlkaaDoorW.PrintMore
attribute [local go_sem] max2_int min2_int max_two min_two max_three min_three max_four min_four   -- for this text's walks alone
set_option linter.unusedVariables false
set_option linter.unusedSimpArgs false
def view_sequence.f (a0 : Int) : Option (Int × Int × Bool × Int × ByteArray) := some (a0, 0, true, 16, (⟨#[]⟩ : ByteArray))
set_option maxHeartbeats 8000000 in
set_option maxRecDepth 100000 in
theorem view_sequence.calls (a0 : Int) (r1 : Int) (r2 : Int) (r3 : Bool) (r4 : Int) (r5 : ByteArray) (w : World) (h : view_sequence.f a0 = some (r1, r2, r3, r4, r5)) :
  Calls Tryd.prog 21 #[.int .i64 a0] w fun e w' => e = .returned (.agg #[.int .i64 r1, .int .i64 r2, .bool r3, .int .i64 r4, .string r5]) ∧ Below w.heap.size w w' := by
 have hu43 := Tryd.underlying43
 have HB := Aside0.mk (Below.refl w.heap.size w)
 have H : (some (a0, 0, true, 16, (⟨#[]⟩ : ByteArray))) = some (r1, r2, r3, r4, r5) := h
 clear h
 simp only [Option.some.injEq, Prod.mk.injEq] at H
 obtain ⟨rfl, rfl, rfl, rfl, rfl⟩ := H
 go_enter Tryd.func21, Tryd.ntmps21
 go_wp2_with (first | ((with_reducible refine gate_dst (N := 2) rfl ?_); refine box_event ?hg (N := 2) ?hd (cs := #[.int .i64 0, .int .i64 0, .bool false, .int .i64 0, .string (⟨#[]⟩ : ByteArray)]) (t := 43) ?hr ?_; (case hd => rfl); (case hg => rfl); (case hr => first | (go_simp; done) | (go_simp; rfl)); intro gb101 hg w2 hbox hb; have n0_ := Aside0.mk (below_step q1_ hb); have n1_ := Aside0.mk (hbox); have n2_ := Aside0.mk ((by rw [hg]; exact (below_size q1_) : w.heap.size ≤ gb101)); have n3_ := Aside0.mk ((by rw [hg]; exact (below_size q1_) : w.heap.size ≤ gb101)); clear HB; have HB := n0_; have BK101 := n1_; have GW101 := n2_; have GE101 := n3_; clear n0_ n1_ n2_ n3_; clear hb hbox hg; obtain ⟨hcz3_0, hcz3_1, hcz3_2, hcz3_3, hcz3_4⟩ := cells5_ BK101.out; obtain ⟨hfz3_0, hfz3_1, hfz3_2, hfz3_3, hfz3_4⟩ := frz5_ BK101.out))
 refine bodyPost_ret (results_cell_row rfl _ _ gb101 43 #[.int .i64 a0, .int .i64 0, .bool true, .int .i64 16, .string (⟨#[]⟩ : ByteArray)] (0, 0) _ rfl (by (with_reducible repeat (first | refine blk_drewN ?_ _ | refine blk_drew ?_ | refine blk_alloc ?_ _)); exact put5_ q17_) Tryd.underlying43 rfl q13_) rfl ?_
 exact ⟨q6_, q19_⟩
def text_Check.f (a0 : ByteArray) : Option (Int × Int) := if a0.size ≤ 140737488355328 then some (W.chkB a0) else none
theorem text_Check.calls (a0 : ByteArray) (r1 r2 : Int) (w : World) (h : text_Check.f a0 = some (r1, r2)) :
  Calls Tryd.prog 40 #[.string a0] w fun e w' => e = .returned (.tuple #[.int .i64 r1, .int .i64 r2]) ∧ Below w.heap.size w w' := by
 unfold text_Check.f at h
 by_cases c : a0.size ≤ 140737488355328
 ·rw [if_pos c] at h
  have e := Option.some.inj h
  have hq := Tx.check_any a0 c w
  rw [e] at hq
  exact hq
 ·rw [if_neg c] at h
  cases h
def view_utf8.f (a0 : ByteArray) : Option (Bool) := (text_Check.f a0).bind fun bt102 => (some (bt102.1 == 0))
set_option maxHeartbeats 8000000 in
set_option maxRecDepth 100000 in
theorem view_utf8.calls (a0 : ByteArray) (r : Bool) (w : World) (h : view_utf8.f a0 = some r) :
  Calls Tryd.prog 22 #[.string a0] w fun e w' => e = .returned (.bool r) ∧ Below w.heap.size w w' := by
 have HB := Aside0.mk (Below.refl w.heap.size w)
 have H : ((text_Check.f a0).bind fun bt102 => (some (bt102.1 == 0))) = some r := h
 clear h
 replace H := Option.bind_eq_some_iff.mp H
 obtain ⟨⟨t102, t103⟩, A20, H⟩ := H
 replace H : (some (t102 == 0)) = some r := H
 have A2 := Aside0.mk A20
 clear A20
 obtain rfl := Option.some.inj H
 go_enter Tryd.func22, Tryd.ntmps22
 go_wp2_with (first | ((with_reducible refine gate_callee (f := 40) rfl ?_); refine goesL_ (some 7) rfl rfl Tryd.func40 q13_ rfl #[.string a0] rfl q42_ ?_; (with_reducible refine (text_Check.calls a0 t102 t103 _ A2.out).mono ?_); rintro e w3 ⟨rfl, hb⟩; refine ⟨_, rfl, ?_⟩; have n0_ := Aside0.mk (below_step q1_ hb); clear HB; have HB := n0_; clear n0_; (try clear hb); (try clear hb2); (try clear hk); (try clear hi)))
 go_ret
 exact ⟨q6_, q1_⟩
def view_octets.f (a0 : Int) (a1 : ByteArray) : Option (Int × Int × Bool × Int × ByteArray) := some (a0, 0, false, 4, a1)
set_option maxHeartbeats 8000000 in
set_option maxRecDepth 100000 in
theorem view_octets.calls (a0 : Int) (a1 : ByteArray) (r1 : Int) (r2 : Int) (r3 : Bool) (r4 : Int) (r5 : ByteArray) (w : World) (h : view_octets.f a0 a1 = some (r1, r2, r3, r4, r5)) :
  Calls Tryd.prog 23 #[.int .i64 a0, .string a1] w fun e w' => e = .returned (.agg #[.int .i64 r1, .int .i64 r2, .bool r3, .int .i64 r4, .string r5]) ∧ Below w.heap.size w w' := by
 have hu43 := Tryd.underlying43
 have HB := Aside0.mk (Below.refl w.heap.size w)
 have H : (some (a0, 0, false, 4, a1)) = some (r1, r2, r3, r4, r5) := h
 clear h
 simp only [Option.some.injEq, Prod.mk.injEq] at H
 obtain ⟨rfl, rfl, rfl, rfl, rfl⟩ := H
 go_enter Tryd.func23, Tryd.ntmps23
 go_wp2_with (first | ((with_reducible refine gate_dst (N := 4) rfl ?_); refine box_event ?hg (N := 4) ?hd (cs := #[.int .i64 0, .int .i64 0, .bool false, .int .i64 0, .string (⟨#[]⟩ : ByteArray)]) (t := 43) ?hr ?_; (case hd => rfl); (case hg => rfl); (case hr => first | (go_simp; done) | (go_simp; rfl)); intro gb104 hg w3 hbox hb; have n0_ := Aside0.mk (below_step q1_ hb); have n1_ := Aside0.mk (hbox); have n2_ := Aside0.mk ((by rw [hg]; exact (below_size q1_) : w.heap.size ≤ gb104)); have n3_ := Aside0.mk ((by rw [hg]; exact (below_size q1_) : w.heap.size ≤ gb104)); clear HB; have HB := n0_; have BK104 := n1_; have GW104 := n2_; have GE104 := n3_; clear n0_ n1_ n2_ n3_; clear hb hbox hg; obtain ⟨hcz4_0, hcz4_1, hcz4_2, hcz4_3, hcz4_4⟩ := cells5_ BK104.out; obtain ⟨hfz4_0, hfz4_1, hfz4_2, hfz4_3, hfz4_4⟩ := frz5_ BK104.out))
 refine bodyPost_ret (results_cell_row rfl _ _ gb104 43 #[.int .i64 a0, .int .i64 0, .bool false, .int .i64 4, .string a1] (0, 0) _ rfl (by (with_reducible repeat (first | refine blk_drewN ?_ _ | refine blk_drew ?_ | refine blk_alloc ?_ _)); exact put5_ (by (with_reducible repeat (first | refine blk_drewN ?_ _ | refine blk_drew ?_ | refine blk_alloc ?_ _)); exact BK104.out)) Tryd.underlying43 rfl q13_) rfl ?_
 exact ⟨q6_, by repeat (first | (with_reducible first | exact HB.out | apply below_alloc | apply pw_below_drewN | apply below_drew1 | refine below_set ?_ GE104.out) | exact HB.out)⟩
def view_context.f (a0 : Int) (a1 : Int) (a2 : ByteArray) : Option (Int × Int × Bool × Int × ByteArray) := some (a0, 2, false, a1, a2)
set_option maxHeartbeats 8000000 in
set_option maxRecDepth 100000 in
theorem view_context.calls (a0 : Int) (a1 : Int) (a2 : ByteArray) (r1 : Int) (r2 : Int) (r3 : Bool) (r4 : Int) (r5 : ByteArray) (w : World) (h : view_context.f a0 a1 a2 = some (r1, r2, r3, r4, r5)) :
  Calls Tryd.prog 24 #[.int .i64 a0, .int .i64 a1, .string a2] w fun e w' => e = .returned (.agg #[.int .i64 r1, .int .i64 r2, .bool r3, .int .i64 r4, .string r5]) ∧ Below w.heap.size w w' := by
 have hu43 := Tryd.underlying43
 have HB := Aside0.mk (Below.refl w.heap.size w)
 have H : (some (a0, 2, false, a1, a2)) = some (r1, r2, r3, r4, r5) := h
 clear h
 simp only [Option.some.injEq, Prod.mk.injEq] at H
 obtain ⟨rfl, rfl, rfl, rfl, rfl⟩ := H
 go_enter Tryd.func24, Tryd.ntmps24
 go_wp2_with (first | ((with_reducible refine gate_dst (N := 6) rfl ?_); refine box_event ?hg (N := 6) ?hd (cs := #[.int .i64 0, .int .i64 0, .bool false, .int .i64 0, .string (⟨#[]⟩ : ByteArray)]) (t := 43) ?hr ?_; (case hd => rfl); (case hg => rfl); (case hr => first | (go_simp; done) | (go_simp; rfl)); intro gb105 hg w4 hbox hb; have n0_ := Aside0.mk (below_step q1_ hb); have n1_ := Aside0.mk (hbox); have n2_ := Aside0.mk ((by rw [hg]; exact (below_size q1_) : w.heap.size ≤ gb105)); have n3_ := Aside0.mk ((by rw [hg]; exact (below_size q1_) : w.heap.size ≤ gb105)); clear HB; have HB := n0_; have BK105 := n1_; have GW105 := n2_; have GE105 := n3_; clear n0_ n1_ n2_ n3_; clear hb hbox hg; obtain ⟨hcz5_0, hcz5_1, hcz5_2, hcz5_3, hcz5_4⟩ := cells5_ BK105.out; obtain ⟨hfz5_0, hfz5_1, hfz5_2, hfz5_3, hfz5_4⟩ := frz5_ BK105.out))
 refine bodyPost_ret (results_cell_row rfl _ _ gb105 43 #[.int .i64 a0, .int .i64 2, .bool false, .int .i64 a1, .string a2] (0, 0) _ rfl (by (with_reducible repeat (first | refine blk_drewN ?_ _ | refine blk_drew ?_ | refine blk_alloc ?_ _)); exact put5_ (by (with_reducible repeat (first | refine blk_drewN ?_ _ | refine blk_drew ?_ | refine blk_alloc ?_ _)); exact BK105.out)) Tryd.underlying43 rfl q13_) rfl ?_
 exact ⟨q6_, by repeat (first | (with_reducible first | exact HB.out | apply below_alloc | apply pw_below_drewN | apply below_drew1 | refine below_set ?_ GE105.out) | exact HB.out)⟩
def ber_PutBool.f (a0 : Bool) : Option (ByteArray) := if a0 = true then (some (⟨#[255]⟩ : ByteArray)) else (some (⟨#[0]⟩ : ByteArray))
set_option maxHeartbeats 8000000 in
set_option maxRecDepth 100000 in
theorem ber_PutBool.calls (a0 : Bool) (r : ByteArray) (w : World) (h : ber_PutBool.f a0 = some r) :
  Calls Tryd.prog 25 #[.bool a0] w fun e w' => e = .returned (.string r) ∧ Drawn0 w w' := by
 have H : (if a0 = true then (some (⟨#[255]⟩ : ByteArray)) else (some (⟨#[0]⟩ : ByteArray))) = some r := h
 clear h
 by_cases c2 : a0 = true
 ·subst c2
  have H1 : (some (⟨#[255]⟩ : ByteArray)) = some r := by rw [if_pos rfl] at H; exact H
  clear H
  have H := H1
  clear H1
  obtain rfl := Option.some.inj H
  go_enter Tryd.func25, Tryd.ntmps25
  go_wp2
  go_ret
  exact ⟨q3_, q20_⟩
 ·replace c2 := Bool.eq_false_iff.mpr c2
  subst c2
  have H1 : (some (⟨#[0]⟩ : ByteArray)) = some r := by rw [if_neg (show ¬ (false = true) by decide)] at H; exact H
  clear H
  have H := H1
  clear H1
  obtain rfl := Option.some.inj H
  go_enter Tryd.func25, Tryd.ntmps25
  go_wp2
  go_ret
  exact ⟨q3_, q20_⟩
def ber_Write.dn (x : S43) : W.NodeT := (x.f0, x.f1, x.f2, x.f3, x.f4)
def ber_Write.f (l0 : List S43) : Option (ByteArray × Int × Int) :=
 if (l0.map ber_Write.dn).length ≤ 100000000 ∧ W.wt (l0.map ber_Write.dn) 0 (l0.map ber_Write.dn).length ≤ 134217728 then some ((W.writeS (l0.map ber_Write.dn)).1, (W.writeS (l0.map ber_Write.dn)).2.1, (W.writeS (l0.map ber_Write.dn)).2.2) else none
theorem ber_Write.calls (A0 : Option Addr) (c0 : Nat) (l0 : List S43) (r1 : ByteArray) (r2 : Int) (r3 : Int) (w : World) (hr0 : Kd.C k43 w A0 l0.length l0) (hc0 : l0.length ≤ c0) (h : ber_Write.f l0 = some (r1, r2, r3)) :
  Calls Tryd.prog 26 #[.slice A0 l0.length c0] w fun e w' => e = .returned (.tuple #[.string r1, .int .i64 r2, .int .i64 r3]) ∧ Below w.heap.size w w' := by
 unfold ber_Write.f at h
 by_cases c : (l0.map ber_Write.dn).length ≤ 100000000 ∧ W.wt (l0.map ber_Write.dn) 0 (l0.map ber_Write.dn).length ≤ 134217728
 ·rw [if_pos c] at h
  simp only [Option.some.injEq, Prod.mk.injEq] at h
  obtain ⟨rfl, rfl, rfl⟩ := h
  have hl : (l0.map ber_Write.dn).length = l0.length := List.length_map _
  have hC := W.C_iso (d := W.kNode) (f := ber_Write.dn) hr0
  rw [← hl] at hC hc0 ⊢
  exact W.Write_any A0 c0 _ w hC hc0 c
 ·rw [if_neg c] at h
  cases h
mutual
def view_EncodeKeys.l0 : Nat → List (S43) → List (S25) → Int → Int → Option (ByteArray × Int)
 | 0, _, _, _, _ => none
 | k + 1, x4, x12, x13, x14 => if x14 < x13 then (if 0 ≤ x14 then (if x14 < (x12.length : Int) then ((view_utf8.f ((rd_T25 x12 x14).f0)).bind fun t119 => (if t119 = true then ((view_utf8.f ((rd_T25 x12 x14).f1)).bind fun t120 => (view_EncodeKeys.j1 k x4 x12 x13 x14 (!t120) ((rd_T25 x12 x14).f0) ((rd_T25 x12 x14).f1) ((rd_T25 x12 x14).f2))) else (view_EncodeKeys.j1 k x4 x12 x13 x14 true ((rd_T25 x12 x14).f0) ((rd_T25 x12 x14).f1) ((rd_T25 x12 x14).f2)))) else (none)) else (none)) else ((ber_Write.f x4).bind fun bt114 => (if bt114.2.1 = 0 then (some (bt114.1, 0)) else (some ((⟨#[]⟩ : ByteArray), 224))))
def view_EncodeKeys.j1 : Nat → List (S43) → List (S25) → Int → Int → Bool → ByteArray → ByteArray → Bool → Option (ByteArray × Int)
 | 0, _, _, _, _, _, _, _, _ => none
 | k + 1, x4, x12, x13, x14, x27, x119000, x119001, x119002 => if x27 = true then (some ((⟨#[]⟩ : ByteArray), 224)) else ((view_sequence.f 2).bind fun bt121 => ((view_octets.f 3 x119000).bind fun bt126 => ((some (([(⟨bt121.1, bt121.2.1, bt121.2.2.1, bt121.2.2.2.1, bt121.2.2.2.2⟩ : S43), (⟨bt126.1, bt126.2.1, bt126.2.2.1, bt126.2.2.2.1, bt126.2.2.2.2⟩ : S43)] : List (S43)) : List (S43))).bind fun y131 => (if x4.length + y131.length < 2932031007402 then ((some (x4 ++ y131 : List (S43))).bind fun y134 => (if x119001.toList = ([] : List UInt8) then (view_EncodeKeys.j2 k y134 x12 x13 x14 x119000 x119001 x119002) else ((view_context.f 3 0 x119001).bind fun bt137 => (if y134.length < 2932031007402 then (view_EncodeKeys.j2 k (y134 ++ [(⟨bt137.1, bt137.2.1, bt137.2.2.1, bt137.2.2.2.1, bt137.2.2.2.2⟩ : S43)]) x12 x13 x14 x119000 x119001 x119002) else (none))))) else (none)))))
def view_EncodeKeys.j2 : Nat → List (S43) → List (S25) → Int → Int → ByteArray → ByteArray → Bool → Option (ByteArray × Int)
 | 0, _, _, _, _, _, _, _ => none
 | k + 1, x4, x12, x13, x14, x119000, x119001, x119002 => if x119002 = true then ((ber_PutBool.f true).bind fun t145 => ((view_context.f 3 1 t145).bind fun bt146 => (if x4.length < 2932031007402 then (view_EncodeKeys.l0 k (x4 ++ [(⟨bt146.1, bt146.2.1, bt146.2.2.1, bt146.2.2.2.1, bt146.2.2.2.2⟩ : S43)]) x12 x13 (wrap64 (x14 + 1))) else (none)))) else (view_EncodeKeys.l0 k x4 x12 x13 (wrap64 (x14 + 1)))
end
def view_EncodeKeys.f (k : Nat) (l0 : List (S25)) : Option (ByteArray × Int) := (view_sequence.f 1).bind fun bt106 => (view_EncodeKeys.l0 k (([(⟨bt106.1, bt106.2.1, bt106.2.2.1, bt106.2.2.2.1, bt106.2.2.2.2⟩ : S43)] : List (S43))) l0 (l0.length : Int) 0)
def view_EncodeKeys.T7 : Bool × List (List Nat × List Nat) := (true, [([], []), ([], []), ([], []), ([2], [2]), ([3, 1], [3]), ([1, 4], [1, 4]), ([0, 5, 4], [0, 5]), ([6, 6, 0, 1, 2, 3, 4, 5, 6], [0, 6])])
def view_EncodeKeys.B7 : List Nat := [0, 0, 0, 4, 14, 30, 63, 127]
theorem view_EncodeKeys.tab7 : rtab .any (opsOf Tryd.f7 7) = view_EncodeKeys.T7 := by kernel_rfl
theorem view_EncodeKeys.bits7 : waitsOk view_EncodeKeys.T7.2 view_EncodeKeys.B7 = true := by kernel_rfl
set_option maxHeartbeats 8000000 in
set_option maxRecDepth 100000 in
theorem view_EncodeKeys.calls (k : Nat) (A0 : Option Addr) (c0 : Nat) (l0 : List (S25)) (r1 : ByteArray) (r2 : Int) (w : World) (hr0 : Kd.C k25 w A0 l0.length l0) (hc0 : l0.length ≤ c0) (h : view_EncodeKeys.f k l0 = some (r1, r2)) :
  Calls Tryd.prog 7 #[.slice A0 l0.length c0] w fun e w' => e = .returned (.tuple #[.string r1, .int .i64 r2]) ∧ Below w.heap.size w w' := by
 have hu25 := Tryd.underlying25
 have HR0 := Aside0.mk hr0
 have HC0 := Aside0.mk hc0
 clear hr0 hc0
 have HB := Aside0.mk (Below.refl w.heap.size w)
 have H : ((view_sequence.f 1).bind fun bt106 => (view_EncodeKeys.l0 k (([(⟨bt106.1, bt106.2.1, bt106.2.2.1, bt106.2.2.2.1, bt106.2.2.2.2⟩ : S43)] : List (S43))) l0 (l0.length : Int) 0)) = some (r1, r2) := h
 clear h
 replace H := Option.bind_eq_some_iff.mp H
 obtain ⟨⟨t106, t107, t108, t109, t110⟩, A20, H⟩ := H
 replace H : (view_EncodeKeys.l0 k (([(⟨t106, t107, t108, t109, t110⟩ : S43)] : List (S43))) l0 (l0.length : Int) 0) = some (r1, r2) := H
 have A2 := Aside0.mk A20
 clear A20
 obtain ⟨y111, hy111⟩ : ∃ y_ : List (S43), y_ = (([(⟨t106, t107, t108, t109, t110⟩ : S43)] : List (S43))) := ⟨_, rfl⟩
 replace H : (view_EncodeKeys.l0 k y111 l0 (l0.length : Int) 0) = some (r1, r2) := by first | (rw [hy111]; with_reducible exact H) | (have H2_ := (Option.bind_some _ _).symm.trans H; rw [hy111]; with_reducible exact H2_) | (have H2_ := (Option.bind_some _ _).symm.trans H; with_reducible exact H2_) | with_reducible exact H | (rw [hy111]; exact H) | exact H
 have Ny111 := Aside0.mk hy111
 clear hy111
 have H' := Aside0.mk H
 clear H
 go_enter Tryd.func7, Tryd.ntmps7
 go_wp2_with (first | ((with_reducible refine gate_callee (f := 21) rfl ?_); refine goesL_ (some 10) rfl rfl Tryd.func21 q13_ rfl #[.int .i64 1] rfl q42_ ?_; (with_reducible refine (view_sequence.calls 1 t106 t107 t108 t109 t110 _ A2.out).mono ?_); rintro e w3 ⟨rfl, hb⟩; refine ⟨_, rfl, ?_⟩; have n0_ := Aside0.mk (below_step q1_ hb); clear HB; have HB := n0_; clear n0_; (try clear hb); (try clear hb2); (try clear hk); (try clear hi)) | ((with_reducible refine gate_dst (N := 11) rfl ?_); refine Kd.R_lit k43 _ 43 ?hg (N := 11) ?hd (xs := ([(⟨t106, t107, t108, t109, t110⟩ : S43)] : List (S43))) (inner := [.int .i64 t106, .int .i64 t107, .bool t108, .int .i64 t109, .string t110]) (ok := fun _ => True) (okp := fun _ => True) ?hr ?hp (fun _ hk => hk) trivial (Below.refl _ _) (Nat.le_refl _) q21_ ?_; (case hd => rfl); (case hg => rfl); (case hr => first | (go_simp; done) | (go_simp; rfl)); (case hp => exact (Reps.c5 (show Kd.M k43 _ _ _ (⟨t106, t107, t108, t109, t110⟩ : S43) [.int .i64 t106, .int .i64 t107, .bool t108, .int .i64 t109, .string t110] from (k43_mkM _ _ _ (⟨t106, t107, t108, t109, t110⟩ : S43) )) (Reps.none _ _))); intro v112 w4 ho5 hb hg_ hnew_; clear hg_ hnew_; (first | rw [← Ny111.out] at ho5 | (simp only [Int.reduceToNat] at ho5; rw [← Ny111.out] at ho5)); have n0_ := Aside0.mk (Kd.R_lower ho5 (below_size q1_)); have n1_ := Aside0.mk (below_step q1_ hb); clear HB; have HO113 := n0_; have HB := n1_; clear n0_ n1_; clear hb ho5))
 go_loopg [4, 14] k (fun kq v4 v14 w' => ∃ (x4_1 : List (S43)) (x14_1 : Int), v14 = .int .i64 x14_1 ∧ Aside0 (view_EncodeKeys.l0 kq x4_1 l0 (l0.length : Int) x14_1 = some (r1, r2)) ∧ Aside0 (kq ≤ k) ∧ Aside0 (Kd.R k43 43 w' w.heap.size (fun _ => True) v4 x4_1) ∧ Aside0 (Below w.heap.size w w'))
 case atStart => exact ⟨(y111), (0), q3_, H', ⟨Nat.le_refl _⟩, ⟨by (with_reducible repeat (first | apply Kd.R_alloc | apply Kd.R_drewN | apply Kd.R_drew)); exact HO113.out⟩, ⟨q1_⟩⟩
 case round =>
  clear H'
  try clear c2
  try clear p2
  try clear c5
  obtain ⟨x4_1, x14_1, rfl, HA, HK1, HO_4, HB⟩ := hrel
  cases gk with
  | zero => exact absurd HA.out (by simp [view_EncodeKeys.l0])
  | succ k1 =>
   have H := HA.out
   clear HA
   simp only [view_EncodeKeys.l0] at H
   by_cases c6 : x14_1 < (l0.length : Int)
   ·rw [if_pos c6] at H
    have c6b0 : decide (x14_1 < (l0.length : Int)) = true := decide_eq_true c6
    clear c6
    by_cases c7 : 0 ≤ x14_1
    ·rw [if_pos c7] at H
     have c7b0 : decide (0 ≤ x14_1) = true := decide_eq_true c7
     clear c7
     by_cases c8 : x14_1 < (l0.length : Int)
     ·rw [if_pos c8] at H
      have c8b0 : decide (x14_1 < (l0.length : Int)) = true := decide_eq_true c8
      clear c8
      have HC9 := Aside0.mk H
      clear H
      have p117 : 0 ≤ (x14_1 : Int) := of_decide_eq_true q4_
      have q117 : x14_1 < (l0.length : Int) := of_decide_eq_true q4_
      obtain ⟨ad117, e117, hx117_0, hx117_1, hx117_2⟩ := at_T25 HR0.out x14_1 p117 q117
      cases e117
      replace hx117_0 := cellB_ HB.out hx117_0
      replace hx117_1 := cellB_ HB.out hx117_1
      replace hx117_2 := cellB_ HB.out hx117_2
      replace p117 := eq_true p117
      replace q117 := eq_true q117
      go_upto_region 5 with (first | ((with_reducible refine gate_dst (N := 6) rfl ?_); refine box_event ?hg (N := 6) ?hd (cs := #[.string (⟨#[]⟩ : ByteArray), .string (⟨#[]⟩ : ByteArray), .bool false]) (t := 25) ?hr ?_; (case hd => rfl); (case hg => rfl); (case hr => first | (go_simp; done) | (go_simp; rfl)); intro gb118 hg w10 hbox hb; have n0_ := Aside0.mk (Kd.R_below q15_ hb); have n1_ := Aside0.mk (below_step q1_ hb); have n2_ := Aside0.mk (hbox); have n3_ := Aside0.mk ((by rw [hg]; exact (below_size q1_) : w.heap.size ≤ gb118)); have n4_ := Aside0.mk ((by rw [hg]; exact (below_size q1_) : w.heap.size ≤ gb118)); clear HO_4; clear HB; have HO_4 := n0_; have HB := n1_; have BK118 := n2_; have GW118 := n3_; have GE118 := n4_; clear n0_ n1_ n2_ n3_ n4_; clear hb hbox hg; obtain ⟨hcz11_0, hcz11_1, hcz11_2⟩ := cells3_ BK118.out; obtain ⟨hfz11_0, hfz11_1, hfz11_2⟩ := frz3_ BK118.out))
      (try simp only [Act.put, List.setIfInBounds_toArray, List.set_cons_zero, List.set_cons_succ])
      go_cut [27] (fun v27 wc => ∃ (kq : Nat) (x27_8 : Bool), v27 = .bool x27_8 ∧ Aside0 (view_EncodeKeys.j1 kq x4_1 l0 (l0.length : Int) x14_1 x27_8 ((rd_T25 l0 x14_1).f0) ((rd_T25 l0 x14_1).f1) ((rd_T25 l0 x14_1).f2) = some (r1, r2)) ∧ Aside0 (kq ≤ k1) ∧ Aside0 (Kd.R k43 43 wc w.heap.size (fun _ => True) u4 x4_1) ∧ Aside0 (wc.heap[gb118]? = some (.cells #[.string ((rd_T25 l0 x14_1).f0), .string ((rd_T25 l0 x14_1).f1), .bool ((rd_T25 l0 x14_1).f2)] 25 (0, 0))) ∧ Aside0 (Below w.heap.size w wc))
      case first =>
       have H := HC9.out
       clear HC9
       replace H := Option.bind_eq_some_iff.mp H
       obtain ⟨t119, A120, H⟩ := H
       replace H : (if t119 = true then ((view_utf8.f ((rd_T25 l0 x14_1).f1)).bind fun t120 => (view_EncodeKeys.j1 k1 x4_1 l0 (l0.length : Int) x14_1 (!t120) ((rd_T25 l0 x14_1).f0) ((rd_T25 l0 x14_1).f1) ((rd_T25 l0 x14_1).f2))) else (view_EncodeKeys.j1 k1 x4_1 l0 (l0.length : Int) x14_1 true ((rd_T25 l0 x14_1).f0) ((rd_T25 l0 x14_1).f1) ((rd_T25 l0 x14_1).f2))) = some (r1, r2) := H
       have A12 := Aside0.mk A120
       clear A120
       by_cases c13 : t119 = true
       ·subst c13
        have H1 : ((view_utf8.f ((rd_T25 l0 x14_1).f1)).bind fun t120 => (view_EncodeKeys.j1 k1 x4_1 l0 (l0.length : Int) x14_1 (!t120) ((rd_T25 l0 x14_1).f0) ((rd_T25 l0 x14_1).f1) ((rd_T25 l0 x14_1).f2))) = some (r1, r2) := by rw [if_pos rfl] at H; exact H
        clear H
        have H := H1
        clear H1
        replace H := Option.bind_eq_some_iff.mp H
        obtain ⟨t120, A140, H⟩ := H
        replace H : (view_EncodeKeys.j1 k1 x4_1 l0 (l0.length : Int) x14_1 (!t120) ((rd_T25 l0 x14_1).f0) ((rd_T25 l0 x14_1).f1) ((rd_T25 l0 x14_1).f2)) = some (r1, r2) := H
        have A14 := Aside0.mk A140
        clear A140
        have H' := Aside0.mk H
        clear H
        obtain ⟨hcz15_0, hcz15_1, hcz15_2⟩ := cells3_ BK118.out
        obtain ⟨hfz15_0, hfz15_1, hfz15_2⟩ := frz3_ BK118.out
        go_wp2_with (first | ((with_reducible refine gate_callee (f := 22) rfl ?_); refine goesL_ (some 20) rfl rfl Tryd.func22 q13_ rfl #[.string ((rd_T25 l0 x14_1).f0)] rfl q42_ ?_; (with_reducible refine (view_utf8.calls ((rd_T25 l0 x14_1).f0) true _ A12.out).mono ?_); rintro e w16 ⟨rfl, hb⟩; refine ⟨_, rfl, ?_⟩; have n0_ := Aside0.mk (Kd.R_below q45_ hb); have n1_ := Aside0.mk (blk_below (g := gb118) (o := .cells #[.string ((rd_T25 l0 x14_1).f0), .string ((rd_T25 l0 x14_1).f1), .bool ((rd_T25 l0 x14_1).f2)] 25 (0, 0)) q47_ hb); have n2_ := Aside0.mk (below_step q5_ hb); clear HO_4; clear BK118; clear HB; have HO_4 := n0_; have BK118 := n1_; have HB := n2_; clear n0_ n1_ n2_; (try clear hb); (try clear hb2); (try clear hk); (try clear hi); obtain ⟨hcz17_0, hcz17_1, hcz17_2⟩ := cells3_ BK118.out; obtain ⟨hfz17_0, hfz17_1, hfz17_2⟩ := frz3_ BK118.out) | (go_at_call 22; (with_reducible refine (view_utf8.calls ((rd_T25 l0 x14_1).f1) t120 _ A14.out).mono ?_); rintro e w18 ⟨rfl, hb⟩; have n0_ := Aside0.mk (Kd.R_below q15_ hb); have n1_ := Aside0.mk (blk_below (g := gb118) (o := .cells #[.string ((rd_T25 l0 x14_1).f0), .string ((rd_T25 l0 x14_1).f1), .bool ((rd_T25 l0 x14_1).f2)] 25 (0, 0)) q12_ hb); have n2_ := Aside0.mk (below_step q5_ hb); clear HO_4; clear BK118; clear HB; have HO_4 := n0_; have BK118 := n1_; have HB := n2_; clear n0_ n1_ n2_; (try clear hb); (try clear hb2); (try clear hk); (try clear hi)))
        go_meet
        case rel => exact ⟨_, (!t120), q3_, H', ⟨q32_⟩, ⟨q15_⟩, ⟨q12_⟩, ⟨q5_⟩⟩
       ·replace c13 := Bool.eq_false_iff.mpr c13
        subst c13
        have H1 : (view_EncodeKeys.j1 k1 x4_1 l0 (l0.length : Int) x14_1 true ((rd_T25 l0 x14_1).f0) ((rd_T25 l0 x14_1).f1) ((rd_T25 l0 x14_1).f2)) = some (r1, r2) := by rw [if_neg (show ¬ (false = true) by decide)] at H; exact H
        clear H
        have H := H1
        clear H1
        have H' := Aside0.mk H
        clear H
        obtain ⟨hcz19_0, hcz19_1, hcz19_2⟩ := cells3_ BK118.out
        obtain ⟨hfz19_0, hfz19_1, hfz19_2⟩ := frz3_ BK118.out
        go_wp2_with (first | ((with_reducible refine gate_callee (f := 22) rfl ?_); refine goesL_ (some 20) rfl rfl Tryd.func22 q13_ rfl #[.string ((rd_T25 l0 x14_1).f0)] rfl q42_ ?_; (with_reducible refine (view_utf8.calls ((rd_T25 l0 x14_1).f0) false _ A12.out).mono ?_); rintro e w20 ⟨rfl, hb⟩; refine ⟨_, rfl, ?_⟩; have n0_ := Aside0.mk (Kd.R_below q45_ hb); have n1_ := Aside0.mk (blk_below (g := gb118) (o := .cells #[.string ((rd_T25 l0 x14_1).f0), .string ((rd_T25 l0 x14_1).f1), .bool ((rd_T25 l0 x14_1).f2)] 25 (0, 0)) q47_ hb); have n2_ := Aside0.mk (below_step q5_ hb); clear HO_4; clear BK118; clear HB; have HO_4 := n0_; have BK118 := n1_; have HB := n2_; clear n0_ n1_ n2_; (try clear hb); (try clear hb2); (try clear hk); (try clear hi)))
        go_meet
        case rel => exact ⟨_, (true), q3_, H', ⟨q32_⟩, ⟨q15_⟩, ⟨q12_⟩, ⟨q5_⟩⟩
      case rest =>
       clear HC9
       try clear c1
       try clear p1
       try clear q1
       try clear hx1
       try clear c2
       try clear p2
       try clear c5
       try clear c6
       try clear c6b0
       try clear c7
       try clear c7b0
       try clear c8
       try clear c8b0
       try clear p11
       try clear q11
       try clear hx11
       try clear c13
       try clear hcz11_0 hcz11_1 hcz11_2
       try clear hcz15_0 hcz15_1 hcz15_2
       try clear hcz17_0 hcz17_1 hcz17_2
       try clear hcz19_0 hcz19_1 hcz19_2
       try clear hfz11_0 hfz11_1 hfz11_2
       try clear hfz15_0 hfz15_1 hfz15_2
       try clear hfz17_0 hfz17_1 hfz17_2
       try clear hfz19_0 hfz19_1 hfz19_2
       try clear hx117_0
       try clear hx117_1
       try clear hx117_2
       try clear p117
       try clear p2
       try clear q117
       obtain ⟨kq, x27_8, rfl, HA, HJ8, HO_4, BK118, HB⟩ := hcut
       cases kq with
       | zero => exact absurd HA.out (by simp [view_EncodeKeys.j1])
       | succ kj8 =>
        have H := HA.out
        clear HA
        simp only [view_EncodeKeys.j1] at H
        by_cases c21 : x27_8 = true
        ·subst c21
         have H1 : (some ((⟨#[]⟩ : ByteArray), 224)) = some (r1, r2) := by rw [if_pos rfl] at H; exact H
         clear H
         have H := H1
         clear H1
         simp only [Option.some.injEq, Prod.mk.injEq] at H
         obtain ⟨rfl, rfl⟩ := H
         go_wp2
         go_ret2
         exact ⟨q6_, q5_⟩
        ·replace c21 := Bool.eq_false_iff.mpr c21
         subst c21
         have H1 : ((view_sequence.f 2).bind fun bt121 => ((view_octets.f 3 ((rd_T25 l0 x14_1).f0)).bind fun bt126 => ((some (([(⟨bt121.1, bt121.2.1, bt121.2.2.1, bt121.2.2.2.1, bt121.2.2.2.2⟩ : S43), (⟨bt126.1, bt126.2.1, bt126.2.2.1, bt126.2.2.2.1, bt126.2.2.2.2⟩ : S43)] : List (S43)) : List (S43))).bind fun y131 => (if x4_1.length + y131.length < 2932031007402 then ((some (x4_1 ++ y131 : List (S43))).bind fun y134 => (if ((rd_T25 l0 x14_1).f1).toList = ([] : List UInt8) then (view_EncodeKeys.j2 kj8 y134 l0 (l0.length : Int) x14_1 ((rd_T25 l0 x14_1).f0) ((rd_T25 l0 x14_1).f1) ((rd_T25 l0 x14_1).f2)) else ((view_context.f 3 0 ((rd_T25 l0 x14_1).f1)).bind fun bt137 => (if y134.length < 2932031007402 then (view_EncodeKeys.j2 kj8 (y134 ++ [(⟨bt137.1, bt137.2.1, bt137.2.2.1, bt137.2.2.2.1, bt137.2.2.2.2⟩ : S43)]) l0 (l0.length : Int) x14_1 ((rd_T25 l0 x14_1).f0) ((rd_T25 l0 x14_1).f1) ((rd_T25 l0 x14_1).f2)) else (none))))) else (none))))) = some (r1, r2) := by rw [if_neg (show ¬ (false = true) by decide)] at H; exact H
         clear H
         have H := H1
         clear H1
         replace H := Option.bind_eq_some_iff.mp H
         obtain ⟨⟨t121, t122, t123, t124, t125⟩, A220, H⟩ := H
         replace H : ((view_octets.f 3 ((rd_T25 l0 x14_1).f0)).bind fun bt126 => ((some (([(⟨t121, t122, t123, t124, t125⟩ : S43), (⟨bt126.1, bt126.2.1, bt126.2.2.1, bt126.2.2.2.1, bt126.2.2.2.2⟩ : S43)] : List (S43)) : List (S43))).bind fun y131 => (if x4_1.length + y131.length < 2932031007402 then ((some (x4_1 ++ y131 : List (S43))).bind fun y134 => (if ((rd_T25 l0 x14_1).f1).toList = ([] : List UInt8) then (view_EncodeKeys.j2 kj8 y134 l0 (l0.length : Int) x14_1 ((rd_T25 l0 x14_1).f0) ((rd_T25 l0 x14_1).f1) ((rd_T25 l0 x14_1).f2)) else ((view_context.f 3 0 ((rd_T25 l0 x14_1).f1)).bind fun bt137 => (if y134.length < 2932031007402 then (view_EncodeKeys.j2 kj8 (y134 ++ [(⟨bt137.1, bt137.2.1, bt137.2.2.1, bt137.2.2.2.1, bt137.2.2.2.2⟩ : S43)]) l0 (l0.length : Int) x14_1 ((rd_T25 l0 x14_1).f0) ((rd_T25 l0 x14_1).f1) ((rd_T25 l0 x14_1).f2)) else (none))))) else (none)))) = some (r1, r2) := H
         have A22 := Aside0.mk A220
         clear A220
         replace H := Option.bind_eq_some_iff.mp H
         obtain ⟨⟨t126, t127, t128, t129, t130⟩, A230, H⟩ := H
         replace H : ((some (([(⟨t121, t122, t123, t124, t125⟩ : S43), (⟨t126, t127, t128, t129, t130⟩ : S43)] : List (S43)) : List (S43))).bind fun y131 => (if x4_1.length + y131.length < 2932031007402 then ((some (x4_1 ++ y131 : List (S43))).bind fun y134 => (if ((rd_T25 l0 x14_1).f1).toList = ([] : List UInt8) then (view_EncodeKeys.j2 kj8 y134 l0 (l0.length : Int) x14_1 ((rd_T25 l0 x14_1).f0) ((rd_T25 l0 x14_1).f1) ((rd_T25 l0 x14_1).f2)) else ((view_context.f 3 0 ((rd_T25 l0 x14_1).f1)).bind fun bt137 => (if y134.length < 2932031007402 then (view_EncodeKeys.j2 kj8 (y134 ++ [(⟨bt137.1, bt137.2.1, bt137.2.2.1, bt137.2.2.2.1, bt137.2.2.2.2⟩ : S43)]) l0 (l0.length : Int) x14_1 ((rd_T25 l0 x14_1).f0) ((rd_T25 l0 x14_1).f1) ((rd_T25 l0 x14_1).f2)) else (none))))) else (none))) = some (r1, r2) := H
         have A23 := Aside0.mk A230
         clear A230
         obtain ⟨y131, hy131⟩ : ∃ y_ : List (S43), y_ = (([(⟨t121, t122, t123, t124, t125⟩ : S43), (⟨t126, t127, t128, t129, t130⟩ : S43)] : List (S43))) := ⟨_, rfl⟩
         replace H : (if x4_1.length + y131.length < 2932031007402 then ((some (x4_1 ++ y131 : List (S43))).bind fun y134 => (if ((rd_T25 l0 x14_1).f1).toList = ([] : List UInt8) then (view_EncodeKeys.j2 kj8 y134 l0 (l0.length : Int) x14_1 ((rd_T25 l0 x14_1).f0) ((rd_T25 l0 x14_1).f1) ((rd_T25 l0 x14_1).f2)) else ((view_context.f 3 0 ((rd_T25 l0 x14_1).f1)).bind fun bt137 => (if y134.length < 2932031007402 then (view_EncodeKeys.j2 kj8 (y134 ++ [(⟨bt137.1, bt137.2.1, bt137.2.2.1, bt137.2.2.2.1, bt137.2.2.2.2⟩ : S43)]) l0 (l0.length : Int) x14_1 ((rd_T25 l0 x14_1).f0) ((rd_T25 l0 x14_1).f1) ((rd_T25 l0 x14_1).f2)) else (none))))) else (none)) = some (r1, r2) := by first | (rw [hy131]; with_reducible exact H) | (have H2_ := (Option.bind_some _ _).symm.trans H; rw [hy131]; with_reducible exact H2_) | (have H2_ := (Option.bind_some _ _).symm.trans H; with_reducible exact H2_) | with_reducible exact H | (rw [hy131]; exact H) | exact H
         have Ny131 := Aside0.mk hy131
         clear hy131
         by_cases c24 : x4_1.length + y131.length < 2932031007402
         ·rw [if_pos c24] at H
          have LMc24 := Aside0.mk c24
          clear c24
          obtain ⟨y134, hy134⟩ : ∃ y_ : List (S43), y_ = (x4_1 ++ y131) := ⟨_, rfl⟩
          replace H : (if ((rd_T25 l0 x14_1).f1).toList = ([] : List UInt8) then (view_EncodeKeys.j2 kj8 y134 l0 (l0.length : Int) x14_1 ((rd_T25 l0 x14_1).f0) ((rd_T25 l0 x14_1).f1) ((rd_T25 l0 x14_1).f2)) else ((view_context.f 3 0 ((rd_T25 l0 x14_1).f1)).bind fun bt137 => (if y134.length < 2932031007402 then (view_EncodeKeys.j2 kj8 (y134 ++ [(⟨bt137.1, bt137.2.1, bt137.2.2.1, bt137.2.2.2.1, bt137.2.2.2.2⟩ : S43)]) l0 (l0.length : Int) x14_1 ((rd_T25 l0 x14_1).f0) ((rd_T25 l0 x14_1).f1) ((rd_T25 l0 x14_1).f2)) else (none)))) = some (r1, r2) := by first | (rw [hy134]; with_reducible exact H) | (have H2_ := (Option.bind_some _ _).symm.trans H; rw [hy134]; with_reducible exact H2_) | (have H2_ := (Option.bind_some _ _).symm.trans H; with_reducible exact H2_) | with_reducible exact H | (rw [hy134]; exact H) | exact H
          have Ny134 := Aside0.mk hy134
          clear hy134
          have HC25 := Aside0.mk H
          clear H
          try go_wp2
          have n0_ := Aside0.mk (Kd.R_drew HO_4.out)
          have n1_ := Aside0.mk (blk_drew BK118.out)
          have n2_ := Aside0.mk (below_drew1 HB.out)
          clear HO_4
          clear BK118
          clear HB
          have HO_4 := n0_
          have BK118 := n1_
          have HB := n2_
          clear n0_ n1_ n2_
          refine start_ (n := 8) (S := fun w' => w'.cell? ⟨gb118, 0, none⟩ = some (.string ((rd_T25 l0 x14_1).f0)) ∧ w'.cell? ⟨gb118, 1, none⟩ = some (.string ((rd_T25 l0 x14_1).f1)) ∧ w'.cell? ⟨gb118, 2, none⟩ = some (.bool ((rd_T25 l0 x14_1).f2))) (ds := []) #[false, false, false, false, false, false, false, false] q13_ rfl rfl ⟨(blk_cell BK118.out 0).trans rfl, (blk_cell BK118.out 1).trans rfl, (blk_cell BK118.out 2).trans rfl⟩ (fun hHeld => ?_); refine with_tabW view_EncodeKeys.tab7 view_EncodeKeys.bits7 (fun HT_ HW_ => ?_)
          generalize wc.drew = w26 at HO_4 BK118 HB hHeld ⊢
          refine pure_ (i := 0) (N := some 28) (v := ?_) (a' := ?_) #[true, false, false, false, false, false, false, false] rfl rfl (any_of HT_.out q13_) (fun _ _ _ h => h) (Or.inl ⟨q30_, ?_⟩) ?_ ?_
          rotate_left
          ·intro w'
           go_simp
           with_reducible rfl
          rotate_left
          ·simp only [Act.put, List.setIfInBounds_toArray, List.set_cons_zero, List.set_cons_succ, i64_w, i32_w]
           rfl
          refine pure_ (i := 2) (N := some 30) (v := ?_) (a' := ?_) #[true, false, true, false, false, false, false, false] rfl rfl (any_of HT_.out q13_) (fun _ _ _ h => h) (Or.inl ⟨q30_, ?_⟩) ?_ ?_
          rotate_left
          ·intro w'
           go_simp
           with_reducible rfl
          rotate_left
          ·simp only [Act.put, List.setIfInBounds_toArray, List.set_cons_zero, List.set_cons_succ, i64_w, i32_w]
           rfl
          refine take_ (i := 3) (N := some 31) (v := ?_) (a' := ?_) #[true, false, true, true, false, false, false, false] rfl rfl (take_ofW HT_.out HW_.out q13_) (fun _ _ _ h => h) (Or.inl ⟨q30_, ?_⟩) hHeld ?_ ?_
          rotate_left
          ·rintro w' ⟨s0, s1, s2⟩
           go_simp
           with_reducible rfl
          rotate_left
          ·simp only [Act.put, List.setIfInBounds_toArray, List.set_cons_zero, List.set_cons_succ, i64_w, i32_w]
           rfl
          refine one_ (i := 1) (N := some 29) #[true, true, true, true, false, false, false, false] rfl rfl (one_of HT_.out q13_) q14_ (fun K hK => ?_)
          refine goes_ Tryd.func21 q13_ rfl #[.int .i64 2] q30_ rfl rfl q42_ ?_
          with_reducible refine (view_sequence.calls 2 t121 t122 t123 t124 t125 _ A22.out).mono ?_
          rintro e w27 ⟨rfl, hb⟩
          refine ⟨_, rfl, ?_⟩
          have n0_ := Aside0.mk (Kd.R_below q15_ hb)
          have n1_ := Aside0.mk (blk_below (g := gb118) (o := .cells #[.string ((rd_T25 l0 x14_1).f0), .string ((rd_T25 l0 x14_1).f1), .bool ((rd_T25 l0 x14_1).f2)] 25 (0, 0)) q12_ hb)
          have n2_ := Aside0.mk (below_step q5_ hb)
          clear HO_4
          clear BK118
          clear HB
          have HO_4 := n0_
          have BK118 := n1_
          have HB := n2_
          clear n0_ n1_ n2_
          (try clear hb)
          (try clear hb2)
          (try clear hk)
          (try clear hi)
          refine hK.out _ _ ⟨(blk_cell BK118.out 0).trans rfl, (blk_cell BK118.out 1).trans rfl, (blk_cell BK118.out 2).trans rfl⟩ (fun hHeld => ?_)
          clear hK K
          refine norm_ (a' := ?_) ?_ ?_
          rotate_left
          ·show Act.put _ (some 29) _ = _
           simp only [Act.put, List.setIfInBounds_toArray, List.set_cons_zero, List.set_cons_succ, i64_w, i32_w]
           rfl
          refine one_ (i := 4) (N := some 32) #[true, true, true, true, true, false, false, false] rfl rfl (one_of HT_.out q13_) q14_ (fun K hK => ?_)
          refine goes_ Tryd.func23 q13_ rfl #[.int .i64 3, .string ((rd_T25 l0 x14_1).f0)] q30_ rfl rfl q42_ ?_
          with_reducible refine (view_octets.calls 3 ((rd_T25 l0 x14_1).f0) t126 t127 t128 t129 t130 _ A23.out).mono ?_
          rintro e w28 ⟨rfl, hb⟩
          refine ⟨_, rfl, ?_⟩
          have n0_ := Aside0.mk (Kd.R_below q15_ hb)
          have n1_ := Aside0.mk (blk_below (g := gb118) (o := .cells #[.string ((rd_T25 l0 x14_1).f0), .string ((rd_T25 l0 x14_1).f1), .bool ((rd_T25 l0 x14_1).f2)] 25 (0, 0)) q12_ hb)
          have n2_ := Aside0.mk (below_step q5_ hb)
          clear HO_4
          clear BK118
          clear HB
          have HO_4 := n0_
          have BK118 := n1_
          have HB := n2_
          clear n0_ n1_ n2_
          (try clear hb)
          (try clear hb2)
          (try clear hk)
          (try clear hi)
          refine hK.out _ _ ⟨(blk_cell BK118.out 0).trans rfl, (blk_cell BK118.out 1).trans rfl, (blk_cell BK118.out 2).trans rfl⟩ (fun hHeld => ?_)
          clear hK K
          refine norm_ (a' := ?_) ?_ ?_
          rotate_left
          ·show Act.put _ (some 32) _ = _
           simp only [Act.put, List.setIfInBounds_toArray, List.set_cons_zero, List.set_cons_succ, i64_w, i32_w]
           rfl
          refine one_ (i := 5) (N := some 33) #[true, true, true, true, true, true, false, false] rfl rfl (one_of HT_.out q13_) q14_ (fun K hK => ?_)
          refine Kd.R_lit_step k43 _ 43 ?hg (N := 33) ?hd (xs := ([(⟨t121, t122, t123, t124, t125⟩ : S43), (⟨t126, t127, t128, t129, t130⟩ : S43)] : List (S43))) (inner := [.int .i64 t121, .int .i64 t122, .bool t123, .int .i64 t124, .string t125, .int .i64 t126, .int .i64 t127, .bool t128, .int .i64 t129, .string t130]) (ok := fun _ => True) (okp := fun _ => True) ?hr ?hp (fun _ hk => hk) trivial (Below.refl _ _) (Nat.le_refl _) q21_ ?_; (case hd => rfl); (case hg => rfl); (case hr => first | (go_simp; done) | (go_simp; rfl)); (case hp => exact (Reps.c5 (show Kd.M k43 _ _ _ (⟨t121, t122, t123, t124, t125⟩ : S43) [.int .i64 t121, .int .i64 t122, .bool t123, .int .i64 t124, .string t125] from (k43_mkM _ _ _ (⟨t121, t122, t123, t124, t125⟩ : S43) )) (Reps.c5 (show Kd.M k43 _ _ _ (⟨t126, t127, t128, t129, t130⟩ : S43) [.int .i64 t126, .int .i64 t127, .bool t128, .int .i64 t129, .string t130] from (k43_mkM _ _ _ (⟨t126, t127, t128, t129, t130⟩ : S43) )) (Reps.none _ _))))
          intro v132 w29 ho30 hb hg_ hnew_
          clear hg_ hnew_
          (first | rw [← Ny131.out] at ho30 | (simp only [Int.reduceToNat] at ho30; rw [← Ny131.out] at ho30))
          have n0_ := Aside0.mk (Kd.R_elder' q15_ (Kd.R_base ho30) hb)
          have n1_ := Aside0.mk (Kd.R_lower (Kd.R_new' ho30 (Kd.R_lt q15_)) (below_size q5_))
          have n2_ := Aside0.mk (blk_below (g := gb118) (o := .cells #[.string ((rd_T25 l0 x14_1).f0), .string ((rd_T25 l0 x14_1).f1), .bool ((rd_T25 l0 x14_1).f2)] 25 (0, 0)) q12_ hb)
          have n3_ := Aside0.mk (below_step q5_ hb)
          clear HO_4
          clear BK118
          clear HB
          have HO_4 := n0_
          have HO133 := n1_
          have BK118 := n2_
          have HB := n3_
          clear n0_ n1_ n2_ n3_
          clear hb ho30
          obtain ⟨Ao32, co32, eo32⟩ := Kd.R_slice HO133.out
          (first | subst eo32 | (injection eo32 with f1_ f2_ f3_; have f4_ := f1_.symm; have f5_ := f3_.symm; clear f1_ f2_ f3_; subst f4_; subst f5_))
          refine hK.out _ _ ⟨(blk_cell BK118.out 0).trans rfl, (blk_cell BK118.out 1).trans rfl, (blk_cell BK118.out 2).trans rfl⟩ (fun hHeld => ?_)
          clear hK K
          refine norm_ (a' := ?_) ?_ ?_
          rotate_left
          ·show Act.put _ (some 33) _ = _
           simp only [Act.put, List.setIfInBounds_toArray, List.set_cons_zero, List.set_cons_succ, i64_w, i32_w]
           rfl
          refine one_ (i := 6) (N := some 34) #[true, true, true, true, true, true, true, false] rfl rfl (one_of HT_.out q13_) q14_ (fun K hK => ?_)
          refine Kd.R_append_rows_step k43 (w0 := w) w.heap.size q30_ (.tmp 28) (.tmp 33) 45 43 (.agg #[(.int .i64 0), (.int .i64 0), (.bool false), (.int .i64 0), (.string ⟨#[]⟩)]) 48 rfl Tryd.underlying45 info43 rfl q14_ q2_ u4 x4_1 y131 _ _ _ (fun k_ => some k_ ≠ (.slice Ao32 y131.length co32 : Value).ownBlock) (fun _ => False) rfl rfl ?aO ?aR (fun _ _ h => h) (fun _ h => h.elim) ?aF ?aB ?aS ?aL ?_
          (case aR => repeat (first | exact (Kd.R_reads' HO133.out).2.2 | (with_reducible refine Kd.C_alloc ?_ _) | (with_reducible refine Kd.C_drewN ?_ _) | (with_reducible refine Kd.C_drew ?_)))
          (case aB => exact q5_)
          (case aF => exact (fun k_ hk => Kd.fresh' (Kd.R_lt q26_) k_ hk))
          (case aO => exact (by (with_reducible repeat (first | apply Kd.R_alloc | apply Kd.R_drewN | apply Kd.R_drew)); exact Kd.R_mono HO_4.out (fun _ hk => hk.2)))
          (case aS => exact (below_size q5_))
          (case aL => have := LMc24.out; omega)
          intro v135 w31 ho hb hg hat
          rw [← Ny134.out] at ho
          have n0_ := Aside0.mk (blk_grown (g := gb118) (o := .cells #[.string ((rd_T25 l0 x14_1).f0), .string ((rd_T25 l0 x14_1).f1), .bool ((rd_T25 l0 x14_1).f2)] 25 (0, 0)) q12_ hg (Kd.R_ne HO_4.out BK118.out q14_))
          have n1_ := Aside0.mk (Kd.R_after (ok := (fun _ => True)) q26_ hg hat)
          have n2_ := Aside0.mk (hb)
          have n3_ := Aside0.mk (ho)
          clear BK118
          clear HO133
          clear HB
          clear HO_4
          have BK118 := n0_
          have HO133 := n1_
          have HB := n2_
          have HO136 := n3_
          clear n0_ n1_ n2_ n3_
          clear ho hb hg hat
          refine hK.out _ _ ⟨(blk_cell BK118.out 0).trans rfl, (blk_cell BK118.out 1).trans rfl, (blk_cell BK118.out 2).trans rfl⟩ (fun hHeld => ?_)
          clear hK K
          refine norm_ (a' := ?_) ?_ ?_
          rotate_left
          ·show Act.put _ (some 34) _ = _
           simp only [Act.put, List.setIfInBounds_toArray, List.set_cons_zero, List.set_cons_succ, i64_w, i32_w]
           rfl
          refine pure_ (i := 7) (N := some 4) (v := ?_) (a' := ?_) #[true, true, true, true, true, true, true, true] rfl rfl (any_of HT_.out q13_) (fun _ _ _ h => h) (Or.inl ⟨q30_, ?_⟩) ?_ ?_
          rotate_left
          ·intro w'
           go_simp
           with_reducible rfl
          rotate_left
          ·simp only [Act.put, List.setIfInBounds_toArray, List.set_cons_zero, List.set_cons_succ, i64_w, i32_w]
           rfl
          refine done_ (done_of HT_.out q13_) ?_
          obtain ⟨hcz33_0, hcz33_1, hcz33_2⟩ := cells3_ BK118.out
          obtain ⟨hfz33_0, hfz33_1, hfz33_2⟩ := frz3_ BK118.out
          go_upto_if 37 with (fail)
          go_cut [4] (fun v4 wc => ∃ (kq : Nat) (x4_24 : List (S43)), Aside0 (view_EncodeKeys.j2 kq x4_24 l0 (l0.length : Int) x14_1 ((rd_T25 l0 x14_1).f0) ((rd_T25 l0 x14_1).f1) ((rd_T25 l0 x14_1).f2) = some (r1, r2)) ∧ Aside0 (kq ≤ kj8) ∧ Aside0 (Kd.R k43 43 wc w.heap.size (fun _ => True) v4 x4_24) ∧ Aside0 (wc.heap[gb118]? = some (.cells #[.string ((rd_T25 l0 x14_1).f0), .string ((rd_T25 l0 x14_1).f1), .bool ((rd_T25 l0 x14_1).f2)] 25 (0, 0))) ∧ Aside0 (Below w.heap.size w wc))
          case first =>
           have H := HC25.out
           clear HC25
           by_cases c34 : ((rd_T25 l0 x14_1).f1).toList = ([] : List UInt8)
           ·rw [if_pos c34] at H
            have c34b0 : (((rd_T25 l0 x14_1).f1).toList == ([] : List UInt8)) = true := beq_iff_eq.mpr c34
            try have c34be := (show ∀ (l_ : List UInt8) b_, (l_ == ([] : List UInt8)) = b_ → l_.isEmpty = b_ from fun l_ b_ h_ => by subst h_; cases l_ <;> rfl) _ _ c34b0
            have c34b1 : (((rd_T25 l0 x14_1).f1).toList != ([] : List UInt8)) = false := bne_eq_false_iff_eq.mpr c34
            clear c34
            (first | rw [c34b0] | rw [c34be] | (simp only [i64_w, i32_w]; rw [c34b0]) | skip)
            have H' := Aside0.mk H
            clear H
            go_wp2
            go_meet
            case rel => exact ⟨_, (y134), H', ⟨by have := HK1.out; have := HJ8.out; first | omega | exact Nat.le_refl _⟩, ⟨by (with_reducible repeat (first | apply Kd.R_alloc | apply Kd.R_drewN | apply Kd.R_drew)); exact Kd.R_mono HO136.out (fun _ hk => trivial)⟩, ⟨q12_⟩, ⟨q5_⟩⟩
           ·rw [if_neg c34] at H
            have c34b0 : (((rd_T25 l0 x14_1).f1).toList == ([] : List UInt8)) = false := beq_eq_false_iff_ne.mpr c34
            try have c34be := (show ∀ (l_ : List UInt8) b_, (l_ == ([] : List UInt8)) = b_ → l_.isEmpty = b_ from fun l_ b_ h_ => by subst h_; cases l_ <;> rfl) _ _ c34b0
            have c34b1 : (((rd_T25 l0 x14_1).f1).toList != ([] : List UInt8)) = true := bne_iff_ne.mpr c34
            (first | rw [c34b0] | rw [c34be] | (simp only [i64_w, i32_w]; rw [c34b0]) | skip)
            replace H := Option.bind_eq_some_iff.mp H
            obtain ⟨⟨t137, t138, t139, t140, t141⟩, A350, H⟩ := H
            replace H : (if y134.length < 2932031007402 then (view_EncodeKeys.j2 kj8 (y134 ++ [(⟨t137, t138, t139, t140, t141⟩ : S43)]) l0 (l0.length : Int) x14_1 ((rd_T25 l0 x14_1).f0) ((rd_T25 l0 x14_1).f1) ((rd_T25 l0 x14_1).f2)) else (none)) = some (r1, r2) := H
            have A35 := Aside0.mk A350
            clear A350
            by_cases c36 : y134.length < 2932031007402
            ·rw [if_pos c36] at H
             have LMc36 := Aside0.mk c36
             clear c36
             obtain ⟨y142, hy142⟩ : ∃ y_ : List (S43), y_ = (y134 ++ [(⟨t137, t138, t139, t140, t141⟩ : S43)]) := ⟨_, rfl⟩
             replace H : (view_EncodeKeys.j2 kj8 y142 l0 (l0.length : Int) x14_1 ((rd_T25 l0 x14_1).f0) ((rd_T25 l0 x14_1).f1) ((rd_T25 l0 x14_1).f2)) = some (r1, r2) := by first | (rw [hy142]; with_reducible exact H) | (have H2_ := (Option.bind_some _ _).symm.trans H; rw [hy142]; with_reducible exact H2_) | (have H2_ := (Option.bind_some _ _).symm.trans H; with_reducible exact H2_) | with_reducible exact H | (rw [hy142]; exact H) | exact H
             have Ny142 := Aside0.mk hy142
             clear hy142
             have H' := Aside0.mk H
             clear H
             obtain ⟨hcz37_0, hcz37_1, hcz37_2⟩ := cells3_ BK118.out
             obtain ⟨hfz37_0, hfz37_1, hfz37_2⟩ := frz3_ BK118.out
             go_wp2_with (first | ((with_reducible refine gate_callee (f := 24) rfl ?_); refine goesL_ (some 41) rfl rfl Tryd.func24 q13_ rfl #[.int .i64 3, .int .i64 0, .string ((rd_T25 l0 x14_1).f1)] rfl q42_ ?_; (with_reducible refine (view_context.calls 3 0 ((rd_T25 l0 x14_1).f1) t137 t138 t139 t140 t141 _ A35.out).mono ?_); rintro e w38 ⟨rfl, hb⟩; refine ⟨_, rfl, ?_⟩; have n0_ := Aside0.mk (Kd.R_below q26_ hb); have n1_ := Aside0.mk (Kd.R_below q34_ hb); have n2_ := Aside0.mk (blk_below (g := gb118) (o := .cells #[.string ((rd_T25 l0 x14_1).f0), .string ((rd_T25 l0 x14_1).f1), .bool ((rd_T25 l0 x14_1).f2)] 25 (0, 0)) q12_ hb); have n3_ := Aside0.mk (below_step q5_ hb); clear HO133; clear HO136; clear BK118; clear HB; have HO133 := n0_; have HO136 := n1_; have BK118 := n2_; have HB := n3_; clear n0_ n1_ n2_ n3_; (try clear hb); (try clear hb2); (try clear hk); (try clear hi)) | ((with_reducible refine gate_builtin (b := .append) (xs := #[.tmp 38, .tmp 42]) rfl ?_); at_builtin; refine Kd.R_append k43 (w0 := w) w.heap.size rfl (.tmp 38) (.tmp 42) 45 43 (.agg #[(.int .i64 0), (.int .i64 0), (.bool false), (.int .i64 0), (.string ⟨#[]⟩)]) 48 rfl Tryd.underlying45 info43 rfl q14_ q2_ v135 y134 (⟨t137, t138, t139, t140, t141⟩ : S43) [.int .i64 t137, .int .i64 t138, .bool t139, .int .i64 t140, .string t141] (fun k_ => some k_ ≠ (.slice Ao32 y131.length co32 : Value).ownBlock) (fun _ => False) rfl rfl ?aP (fun _ hk => hk.elim) ?aF ?aO ?aB ?aS ?aL ?_; (case aP => exact k43_mkM _ _ _ (⟨t137, t138, t139, t140, t141⟩ : S43)); (case aB => exact q5_); (case aF => exact (fun k_ hk => Kd.fresh' (Kd.R_lt q26_) k_ hk)); (case aO => exact q34_); (case aS => exact (below_size q5_)); (case aL => have := LMc36.out; omega); intro v143 w39 ho hb hg hat; rw [← Ny142.out] at ho; have n0_ := Aside0.mk (blk_grown (g := gb118) (o := .cells #[.string ((rd_T25 l0 x14_1).f0), .string ((rd_T25 l0 x14_1).f1), .bool ((rd_T25 l0 x14_1).f2)] 25 (0, 0)) q12_ hg (Kd.R_ne HO136.out BK118.out q14_)); have n1_ := Aside0.mk (Kd.R_after (ok := (fun _ => True)) q26_ hg hat); have n2_ := Aside0.mk (hb); have n3_ := Aside0.mk (ho); clear BK118; clear HO133; clear HB; clear HO136; have BK118 := n0_; have HO133 := n1_; have HB := n2_; have HO144 := n3_; clear n0_ n1_ n2_ n3_; clear ho hb hg hat))
             go_meet
             case rel => exact ⟨_, (y142), H', ⟨by have := HK1.out; have := HJ8.out; first | omega | exact Nat.le_refl _⟩, ⟨by (with_reducible repeat (first | apply Kd.R_alloc | apply Kd.R_drewN | apply Kd.R_drew)); exact Kd.R_mono HO144.out (fun _ hk => trivial)⟩, ⟨q12_⟩, ⟨q5_⟩⟩
            ·rw [if_neg c36] at H
             exact absurd H q21_
          case rest =>
           clear HC25
           try clear c1
           try clear p1
           try clear q1
           try clear hx1
           try clear c2
           try clear p2
           try clear c3
           try clear c5
           try clear c6
           try clear c6b0
           try clear c7
           try clear c7b0
           try clear c8
           try clear c8b0
           try clear p11
           try clear q11
           try clear hx11
           try clear c13
           try clear c21
           try clear c22
           try clear c23
           try clear c24
           try clear c34
           try clear c34b0
           try clear c34b1
           try clear c36
           try clear hcz11_0 hcz11_1 hcz11_2
           try clear hcz15_0 hcz15_1 hcz15_2
           try clear hcz17_0 hcz17_1 hcz17_2
           try clear hcz19_0 hcz19_1 hcz19_2
           try clear hcz33_0 hcz33_1 hcz33_2
           try clear hcz37_0 hcz37_1 hcz37_2
           try clear hfz11_0 hfz11_1 hfz11_2
           try clear hfz15_0 hfz15_1 hfz15_2
           try clear hfz17_0 hfz17_1 hfz17_2
           try clear hfz19_0 hfz19_1 hfz19_2
           try clear hfz33_0 hfz33_1 hfz33_2
           try clear hfz37_0 hfz37_1 hfz37_2
           try clear hx117_0
           try clear hx117_1
           try clear hx117_2
           try clear p1
           try clear p11
           try clear p117
           try clear p2
           try clear q1
           try clear q11
           try clear q117
           obtain ⟨kq, x4_24, HA, HJ24, HO_4, BK118, HB⟩ := hcut
           cases kq with
           | zero => exact absurd HA.out (by simp [view_EncodeKeys.j2])
           | succ kj24 =>
            have H := HA.out
            clear HA
            simp only [view_EncodeKeys.j2] at H
            by_cases c40 : ((rd_T25 l0 x14_1).f2) = true
            ·rw [if_pos c40] at H
             have c40b0 : ((rd_T25 l0 x14_1).f2) = true := c40
             clear c40
             replace H := Option.bind_eq_some_iff.mp H
             obtain ⟨t145, A410, H⟩ := H
             replace H : ((view_context.f 3 1 t145).bind fun bt146 => (if x4_24.length < 2932031007402 then (view_EncodeKeys.l0 kj24 (x4_24 ++ [(⟨bt146.1, bt146.2.1, bt146.2.2.1, bt146.2.2.2.1, bt146.2.2.2.2⟩ : S43)]) l0 (l0.length : Int) (wrap64 (x14_1 + 1))) else (none))) = some (r1, r2) := H
             have A41 := Aside0.mk A410
             clear A410
             replace H := Option.bind_eq_some_iff.mp H
             obtain ⟨⟨t146, t147, t148, t149, t150⟩, A420, H⟩ := H
             replace H : (if x4_24.length < 2932031007402 then (view_EncodeKeys.l0 kj24 (x4_24 ++ [(⟨t146, t147, t148, t149, t150⟩ : S43)]) l0 (l0.length : Int) (wrap64 (x14_1 + 1))) else (none)) = some (r1, r2) := H
             have A42 := Aside0.mk A420
             clear A420
             by_cases c43 : x4_24.length < 2932031007402
             ·rw [if_pos c43] at H
              have LMc43 := Aside0.mk c43
              clear c43
              obtain ⟨y151, hy151⟩ : ∃ y_ : List (S43), y_ = (x4_24 ++ [(⟨t146, t147, t148, t149, t150⟩ : S43)]) := ⟨_, rfl⟩
              replace H : (view_EncodeKeys.l0 kj24 y151 l0 (l0.length : Int) (wrap64 (x14_1 + 1))) = some (r1, r2) := by first | (rw [hy151]; with_reducible exact H) | (have H2_ := (Option.bind_some _ _).symm.trans H; rw [hy151]; with_reducible exact H2_) | (have H2_ := (Option.bind_some _ _).symm.trans H; with_reducible exact H2_) | with_reducible exact H | (rw [hy151]; exact H) | exact H
              have Ny151 := Aside0.mk hy151
              clear hy151
              have H' := Aside0.mk H
              clear H
              obtain ⟨hcz44_0, hcz44_1, hcz44_2⟩ := cells3_ BK118.out
              obtain ⟨hfz44_0, hfz44_1, hfz44_2⟩ := frz3_ BK118.out
              go_wp2_with (first | ((with_reducible refine gate_callee (f := 25) rfl ?_); refine goesL_ (some 47) rfl rfl Tryd.func25 q13_ rfl #[.bool true] rfl q42_ ?_; (with_reducible refine (ber_PutBool.calls true t145 _ A41.out).mono ?_); rintro e w' ⟨rfl, ⟨nd, rfl⟩⟩; refine ⟨_, rfl, ?_⟩) | ((with_reducible refine gate_callee (f := 24) rfl ?_); refine goesL_ (some 48) rfl rfl Tryd.func24 q13_ rfl #[.int .i64 3, .int .i64 1, .string t145] rfl q42_ ?_; (with_reducible refine (view_context.calls 3 1 t145 t146 t147 t148 t149 t150 _ A42.out).mono ?_); rintro e w45 ⟨rfl, hb⟩; refine ⟨_, rfl, ?_⟩; have n0_ := Aside0.mk (Kd.R_below q15_ hb); have n1_ := Aside0.mk (blk_below (g := gb118) (o := .cells #[.string ((rd_T25 l0 x14_1).f0), .string ((rd_T25 l0 x14_1).f1), .bool ((rd_T25 l0 x14_1).f2)] 25 (0, 0)) q12_ hb); have n2_ := Aside0.mk (below_step q5_ hb); clear HO_4; clear BK118; clear HB; have HO_4 := n0_; have BK118 := n1_; have HB := n2_; clear n0_ n1_ n2_; (try clear hb); (try clear hb2); (try clear hk); (try clear hi)) | ((with_reducible refine gate_builtin (b := .append) (xs := #[.tmp 46, .tmp 49]) rfl ?_); at_builtin; refine Kd.R_append k43 (w0 := w) w.heap.size rfl (.tmp 46) (.tmp 49) 45 43 (.agg #[(.int .i64 0), (.int .i64 0), (.bool false), (.int .i64 0), (.string ⟨#[]⟩)]) 48 rfl Tryd.underlying45 info43 rfl q14_ q2_ u4 x4_24 (⟨t146, t147, t148, t149, t150⟩ : S43) [.int .i64 t146, .int .i64 t147, .bool t148, .int .i64 t149, .string t150] (fun _ => True) (fun _ => False) rfl rfl ?aP (fun _ hk => hk.elim) ?aF ?aO ?aB ?aS ?aL ?_; (case aP => exact k43_mkM _ _ _ (⟨t146, t147, t148, t149, t150⟩ : S43)); (case aB => exact q5_); (case aF => exact (fun _ _ => trivial)); (case aO => exact q15_); (case aS => exact (below_size q5_)); (case aL => have := LMc43.out; omega); intro v152 w46 ho hb hg hat; rw [← Ny151.out] at ho; have n0_ := Aside0.mk (blk_grown (g := gb118) (o := .cells #[.string ((rd_T25 l0 x14_1).f0), .string ((rd_T25 l0 x14_1).f1), .bool ((rd_T25 l0 x14_1).f2)] 25 (0, 0)) q12_ hg (Kd.R_ne HO_4.out BK118.out q14_)); have n1_ := Aside0.mk (hb); have n2_ := Aside0.mk (ho); clear BK118; clear HB; clear HO_4; have BK118 := n0_; have HB := n1_; have HO153 := n2_; clear n0_ n1_ n2_; clear ho hb hg hat))
              go_roundg kj24
              case measure => have := HK1.out; have := HJ8.out; have := HJ24.out; omega
              case rel => exact ⟨(y151), (wrap64 (x14_1 + 1)), q3_, H', ⟨by have := HK1.out; have := HJ8.out; have := HJ24.out; omega⟩, ⟨by (with_reducible repeat (first | apply Kd.R_alloc | apply Kd.R_drewN | apply Kd.R_drew)); exact HO153.out⟩, ⟨q5_⟩⟩
             ·rw [if_neg c43] at H
              exact absurd H q21_
            ·rw [if_neg c40] at H
             have c40b0 : ((rd_T25 l0 x14_1).f2) = false := by simpa using c40
             clear c40
             have H' := Aside0.mk H
             clear H
             obtain ⟨hcz47_0, hcz47_1, hcz47_2⟩ := cells3_ BK118.out
             obtain ⟨hfz47_0, hfz47_1, hfz47_2⟩ := frz3_ BK118.out
             go_wp2
             go_roundg kj24
             case measure => have := HK1.out; have := HJ8.out; have := HJ24.out; omega
             case rel => exact ⟨(x4_24), (wrap64 (x14_1 + 1)), q3_, H', ⟨by have := HK1.out; have := HJ8.out; have := HJ24.out; omega⟩, ⟨q15_⟩, ⟨q5_⟩⟩
         ·rw [if_neg c24] at H
          exact absurd H q21_
     ·rw [if_neg c8] at H
      exact absurd H q21_
    ·rw [if_neg c7] at H
     exact absurd H q21_
   ·rw [if_neg c6] at H
    have c6b0 : decide (x14_1 < (l0.length : Int)) = false := decide_eq_false c6
    clear c6
    replace H := Option.bind_eq_some_iff.mp H
    obtain ⟨⟨t114, t115, t116⟩, A480, H⟩ := H
    replace H : (if t115 = 0 then (some (t114, 0)) else (some ((⟨#[]⟩ : ByteArray), 224))) = some (r1, r2) := H
    have A48 := Aside0.mk A480
    clear A480
    by_cases c49 : t115 = 0
    ·rw [if_pos c49] at H
     have c49b0 : (t115 == 0) = true := beq_iff_eq.mpr c49
     have c49b1 : (t115 != 0) = false := bne_eq_false_iff_eq.mpr c49
     clear c49
     simp only [Option.some.injEq, Prod.mk.injEq] at H
     obtain ⟨rfl, rfl⟩ := H
     obtain ⟨Ao50, co50, eo50⟩ := Kd.R_slice HO_4.out
     subst eo50
     go_wp2_with (first | ((with_reducible refine gate_callee (f := 26) rfl ?_); refine goesL_ (some 54) rfl rfl Tryd.func26 q13_ rfl #[.slice Ao50 x4_1.length co50] rfl q42_ ?_; (with_reducible refine (ber_Write.calls _ _ x4_1 t114 t115 t116 _ ?side1 ?side2 A48.out).mono ?_); (case side1 => repeat (first | exact (Kd.R_reads' HO_4.out).2.2 | (with_reducible refine Kd.C_alloc ?_ _) | (with_reducible refine Kd.C_drewN ?_ _) | (with_reducible refine Kd.C_drew ?_))); (case side2 => exact (Kd.R_reads' HO_4.out).2.1); rintro e w51 ⟨rfl, hb⟩; refine ⟨_, rfl, ?_⟩; have n0_ := Aside0.mk (Kd.R_below q15_ hb); have n1_ := Aside0.mk (below_step q1_ hb); clear HO_4; clear HB; have HO_4 := n0_; have HB := n1_; clear n0_ n1_; (try clear hb); (try clear hb2); (try clear hk); (try clear hi)))
     go_ret2
     exact ⟨q6_, q1_⟩
    ·rw [if_neg c49] at H
     have c49b0 : (t115 == 0) = false := beq_eq_false_iff_ne.mpr c49
     have c49b1 : (t115 != 0) = true := bne_iff_ne.mpr c49
     simp only [Option.some.injEq, Prod.mk.injEq] at H
     obtain ⟨rfl, rfl⟩ := H
     obtain ⟨Ao52, co52, eo52⟩ := Kd.R_slice HO_4.out
     subst eo52
     go_wp2_with (first | ((with_reducible refine gate_callee (f := 26) rfl ?_); refine goesL_ (some 54) rfl rfl Tryd.func26 q13_ rfl #[.slice Ao52 x4_1.length co52] rfl q42_ ?_; (with_reducible refine (ber_Write.calls _ _ x4_1 t114 t115 t116 _ ?side1 ?side2 A48.out).mono ?_); (case side1 => repeat (first | exact (Kd.R_reads' HO_4.out).2.2 | (with_reducible refine Kd.C_alloc ?_ _) | (with_reducible refine Kd.C_drewN ?_ _) | (with_reducible refine Kd.C_drew ?_))); (case side2 => exact (Kd.R_reads' HO_4.out).2.1); rintro e w53 ⟨rfl, hb⟩; refine ⟨_, rfl, ?_⟩; have n0_ := Aside0.mk (Kd.R_below q15_ hb); have n1_ := Aside0.mk (below_step q1_ hb); clear HO_4; clear HB; have HO_4 := n0_; have HB := n1_; clear n0_ n1_; (try clear hb); (try clear hb2); (try clear hk); (try clear hi)))
     go_ret2
     exact ⟨q6_, q1_⟩
end Go.Proofs.YtogjljpncdmlkaaDoor.GO
end
