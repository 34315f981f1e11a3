-- Written for this claim by a program of this session (wip/tools/p2.py).
import Derived.Test.YtaimjacpenofpaaDoorGCx0
import Derived.Test.YtaimjacpenofpaaDoorGCx1
import Derived.Test.YtaimjacpenofpaaDoorGCx4
namespace Go.Proofs.YtaimjacpenofpaaDoor.GC
open Go.RowKit Go.Proofs.YtaimjacpenofpaaDoorW.PrintWords Go.Proofs.YtaimjacpenofpaaDoorW.PrintLast Go.Proofs.YtaimjacpenofpaaDoorW.PrintMore
attribute [local go_sem] max2_int min2_int max_two min_two max_three min_three max_four min_four   -- for this text's walks alone
set_option linter.unusedVariables false
set_option linter.unusedSimpArgs false

/-! ### rosterref12_Group: function 7 -/
mutual
def rosterref12_Group.j0 : Nat → Int → List (List (S38)) → Bool → Option ((List (S38)) × Int)
 | 0, _, _, _ => none
 | k + 1, x0, x1, x21 => if x21 = true then (some (([] : List (S38)), 1)) else (rosterref12_Group.l0 k x1 (([(⟨1, x0, (⟨#[]⟩ : ByteArray), (⟨#[]⟩ : ByteArray), (⟨(⟨#[]⟩ : ByteArray), ([] : List ByteArray), (⟨#[]⟩ : ByteArray)⟩ : S36), (⟨#[]⟩ : ByteArray), false⟩ : S38)] : List (S38))) 0)
def rosterref12_Group.l0 : Nat → List (List (S38)) → List (S38) → Int → Option ((List (S38)) × Int)
 | 0, _, _, _ => none
 | k + 1, x1, x6, x7 => if x7 < (x1.length : Int) then (if 0 ≤ x7 then ((rosterref12_Check.f k (rd_L6 x1 x7)).bind fun bt174 => (if bt174.1 = 0 then ((rosterref12_moved.f k (rd_L6 x1 x7) 1).bind fun t177 => (if x6.length + t177.length < 1099511627776 then (rosterref12_Group.l0 k x1 (x6 ++ t177) (wrap64 (x7 + 1))) else (none))) else (some (([] : List (S38)), bt174.1)))) else (none)) else ((rosterref12_Depth.f k x6).bind fun t172 => (if t172 > 64 then (some (([] : List (S38)), 121)) else (some (x6, 0))))
end
def rosterref12_Group.f (k : Nat) (a0 : Int) (l1 : List (List (S38))) : Option ((List (S38)) × Int) := (rosterref12_holds.f a0).bind fun t168 => (if t168 = true then (if a0 = 2 then (rosterref12_Group.j0 k a0 l1 ((l1.length : Int) != 1)) else (rosterref12_Group.j0 k a0 l1 false)) else (rosterref12_Group.j0 k a0 l1 true))
theorem rosterref12_Group.mono_l : ∀ k, (∀ y0 y1 y2, LeO (rosterref12_Group.j0 k y0 y1 y2) (rosterref12_Group.j0 (k + 1) y0 y1 y2)) ∧ (∀ y0 y1 y2, LeO (rosterref12_Group.l0 k y0 y1 y2) (rosterref12_Group.l0 (k + 1) y0 y1 y2))
 | 0 => ⟨fun _ _ _ r h => by simp [rosterref12_Group.j0] at h, fun _ _ _ r h => by simp [rosterref12_Group.l0] at h⟩
 | k + 1 => by
  obtain ⟨ih0, ih1⟩ := rosterref12_Group.mono_l k
  refine ⟨?_, ?_⟩
  ·intro y0 y1 y2
   unfold rosterref12_Group.j0
   repeat' first
   | (with_reducible exact ih0 _ _ _)
   | (with_reducible exact ih1 _ _ _)
   | (with_reducible exact rosterref12_Check.mono _ _)
   | (with_reducible exact rosterref12_Depth.mono _ _)
   | (with_reducible exact rosterref12_moved.mono _ _ _)
   | (with_reducible exact LeO.refl _)
   | (with_reducible exact LeO.none _)
   | (with_reducible refine LeO.ite ?_ ?_)
   | (with_reducible refine LeO.bind ?_ (fun _ => ?_))
   | exact ih0 _ _ _
   | exact ih1 _ _ _
   | exact rosterref12_Check.mono _ _
   | exact rosterref12_Depth.mono _ _
   | exact rosterref12_moved.mono _ _ _
   | exact LeO.none _
   | refine LeO.ite ?_ ?_
   | refine LeO.bind ?_ (fun _ => ?_)
  ·intro y0 y1 y2
   unfold rosterref12_Group.l0
   repeat' first
   | (with_reducible exact ih0 _ _ _)
   | (with_reducible exact ih1 _ _ _)
   | (with_reducible exact rosterref12_Check.mono _ _)
   | (with_reducible exact rosterref12_Depth.mono _ _)
   | (with_reducible exact rosterref12_moved.mono _ _ _)
   | (with_reducible exact LeO.refl _)
   | (with_reducible exact LeO.none _)
   | (with_reducible refine LeO.ite ?_ ?_)
   | (with_reducible refine LeO.bind ?_ (fun _ => ?_))
   | exact ih0 _ _ _
   | exact ih1 _ _ _
   | exact rosterref12_Check.mono _ _
   | exact rosterref12_Depth.mono _ _
   | exact rosterref12_moved.mono _ _ _
   | exact LeO.none _
   | refine LeO.ite ?_ ?_
   | refine LeO.bind ?_ (fun _ => ?_)
theorem rosterref12_Group.mono : ∀ a0 a1 k, LeO (rosterref12_Group.f k a0 a1) (rosterref12_Group.f (k + 1) a0 a1) := by
 intro a0 a1 k
 obtain ⟨ih0, ih1⟩ := rosterref12_Group.mono_l k
 unfold rosterref12_Group.f
 repeat' first
   | (with_reducible exact ih0 _ _ _)
   | (with_reducible exact ih1 _ _ _)
   | (with_reducible exact rosterref12_Check.mono _ _)
   | (with_reducible exact rosterref12_Depth.mono _ _)
   | (with_reducible exact rosterref12_moved.mono _ _ _)
   | (with_reducible exact LeO.refl _)
   | (with_reducible exact LeO.none _)
   | (with_reducible refine LeO.ite ?_ ?_)
   | (with_reducible refine LeO.bind ?_ (fun _ => ?_))
   | exact ih0 _ _ _
   | exact ih1 _ _ _
   | exact rosterref12_Check.mono _ _
   | exact rosterref12_Depth.mono _ _
   | exact rosterref12_moved.mono _ _ _
   | exact LeO.none _
   | refine LeO.ite ?_ ?_
   | refine LeO.bind ?_ (fun _ => ?_)
set_option maxHeartbeats 8000000 in
set_option maxRecDepth 100000 in
theorem rosterref12_Group.calls (k : Nat) (a0 : Int) (P1_ : Nat → Prop) (A1 : Option Addr) (c1 : Nat) (l1 : List (List (S38))) (r1 : List (S38)) (r2 : Int) (w : World) (hs1 : Kd.V (Kd.slice 38 k38) 23 w w.heap.size (fun k_ => P1_ k_) (.slice A1 l1.length c1) l1) (h : rosterref12_Group.f k a0 l1 = some (r1, r2)) (hT : W.TabW w) :
  Calls Tryd.prog 7 #[.int .i64 a0, .slice A1 l1.length c1] w fun e w' => ∃ v0_ : Value, e = .returned (.tuple #[v0_, .int .i64 r2]) ∧ Kd.N k38 38 w' w.heap.size (fun k_ => (P1_ k_ ∨ w.heap.size ≤ k_)) v0_ r1 ∧ Below w.heap.size w w' := by
 have HTB := Aside0.mk hT
 clear hT
 have hu38 := Tryd.underlying38
 have HO1 := Aside0.mk (show Kd.V (Kd.slice 38 k38) 23 w w.heap.size (fun k_ => (P1_ k_ ∨ w.heap.size ≤ k_)) (.slice A1 l1.length c1) l1 from Kd.V_mono hs1 (fun k_ hk => .inl hk))
 have HB := Aside0.mk (Below.refl w.heap.size w)
 have H : ((rosterref12_holds.f a0).bind fun t168 => (if t168 = true then (if a0 = 2 then (rosterref12_Group.j0 k a0 l1 ((l1.length : Int) != 1)) else (rosterref12_Group.j0 k a0 l1 false)) else (rosterref12_Group.j0 k a0 l1 true))) = some (r1, r2) := h
 clear h
 have HC3 := Aside0.mk H
 clear H
 go_enter Tryd.func7, Tryd.ntmps7
 go_upto_region 1 with (fail)
 go_cut [21] (fun v21 wc => ∃ (kq : Nat) (x21_2 : Bool), v21 = .bool x21_2 ∧ Aside0 (rosterref12_Group.j0 kq a0 l1 x21_2 = some (r1, r2)) ∧ Aside0 (kq ≤ k) ∧ Aside0 (Kd.V (Kd.slice 38 k38) 23 wc w.heap.size (fun k_ => (P1_ k_ ∨ w.heap.size ≤ k_)) (.slice A1 l1.length c1) l1) ∧ Aside0 (Below w.heap.size w wc))
 case first =>
  have H := HC3.out
  clear HC3
  replace H := Option.bind_eq_some_iff.mp H
  obtain ⟨t168, A40, H⟩ := H
  replace H : (if t168 = true then (if a0 = 2 then (rosterref12_Group.j0 k a0 l1 ((l1.length : Int) != 1)) else (rosterref12_Group.j0 k a0 l1 false)) else (rosterref12_Group.j0 k a0 l1 true)) = some (r1, r2) := H
  have A4 := Aside0.mk A40
  clear A40
  by_cases c5 : t168 = true
  ·subst c5
   have H1 : (if a0 = 2 then (rosterref12_Group.j0 k a0 l1 ((l1.length : Int) != 1)) else (rosterref12_Group.j0 k a0 l1 false)) = some (r1, r2) := by rw [if_pos rfl] at H; exact H
   clear H
   have H := H1
   clear H1
   by_cases c6 : a0 = 2
   ·rw [if_pos c6] at H
    have c6b0 : (a0 == 2) = true := beq_iff_eq.mpr c6
    have c6b1 : (a0 != 2) = false := bne_eq_false_iff_eq.mpr c6
    clear c6
    (first | rw [c6b0] | (simp only [i64_w, i32_w]; rw [c6b0]) | skip)
    have H' := Aside0.mk H
    clear H
    go_wp2_with (first | ((with_reducible refine gate_callee (f := 11) rfl ?_); refine goesL_ (some 11) rfl rfl Tryd.func11 (by kernel_rfl) rfl #[.int .i64 a0] rfl (by (try simp only [List.map_toArray, List.map_cons, List.map_nil]); first | done | rfl | (simp only [List.length_drop, List.length_take]; rfl) | exact congrArg (fun n_ : Nat => #[Value.slice _ n_ _]) (Eq.trans (Aside0.out (by assumption)) (Eq.symm (Aside0.out (by assumption)))) | exact congrArg (fun n_ : Nat => #[Value.slice _ n_ _, Value.slice _ _ _]) (Eq.trans (Aside0.out (by assumption)) (Eq.symm (Aside0.out (by assumption))))) ?_; (with_reducible refine (rosterref12_holds.calls a0 true _ A4.out).mono ?_); rintro e w' ⟨rfl, ⟨nd, rfl⟩⟩; refine ⟨_, rfl, ?_⟩))
    go_meet
    case rel => exact ⟨_, (((l1.length : Int) != 1)), (by first | rfl | (simp; done) | (simp [*]; done) | (simp [isEmpty_ne_]; done)), H', ⟨by first | omega | exact Nat.le_refl _⟩, ⟨by (with_reducible repeat (first | apply Kd.V_alloc | apply Kd.V_drewN | apply Kd.V_drew)); exact HO1.out⟩, ⟨by repeat (first | (with_reducible first | exact HB.out | apply below_alloc | apply pw_below_drewN | apply below_drew1) | exact HB.out)⟩⟩
   ·rw [if_neg c6] at H
    have c6b0 : (a0 == 2) = false := beq_eq_false_iff_ne.mpr c6
    have c6b1 : (a0 != 2) = true := bne_iff_ne.mpr c6
    (first | rw [c6b0] | (simp only [i64_w, i32_w]; rw [c6b0]) | skip)
    have H' := Aside0.mk H
    clear H
    go_wp2_with (first | ((with_reducible refine gate_callee (f := 11) rfl ?_); refine goesL_ (some 11) rfl rfl Tryd.func11 (by kernel_rfl) rfl #[.int .i64 a0] rfl (by (try simp only [List.map_toArray, List.map_cons, List.map_nil]); first | done | rfl | (simp only [List.length_drop, List.length_take]; rfl) | exact congrArg (fun n_ : Nat => #[Value.slice _ n_ _]) (Eq.trans (Aside0.out (by assumption)) (Eq.symm (Aside0.out (by assumption)))) | exact congrArg (fun n_ : Nat => #[Value.slice _ n_ _, Value.slice _ _ _]) (Eq.trans (Aside0.out (by assumption)) (Eq.symm (Aside0.out (by assumption))))) ?_; (with_reducible refine (rosterref12_holds.calls a0 true _ A4.out).mono ?_); rintro e w' ⟨rfl, ⟨nd, rfl⟩⟩; refine ⟨_, rfl, ?_⟩))
    go_meet
    case rel => exact ⟨_, (false), (by first | rfl | (simp; done) | (simp [*]; done) | (simp [isEmpty_ne_]; done)), H', ⟨by first | omega | exact Nat.le_refl _⟩, ⟨by (with_reducible repeat (first | apply Kd.V_alloc | apply Kd.V_drewN | apply Kd.V_drew)); exact HO1.out⟩, ⟨by repeat (first | (with_reducible first | exact HB.out | apply below_alloc | apply pw_below_drewN | apply below_drew1) | exact HB.out)⟩⟩
  ·replace c5 := Bool.eq_false_iff.mpr c5
   subst c5
   have H1 : (rosterref12_Group.j0 k a0 l1 true) = some (r1, r2) := by rw [if_neg (show ¬ (false = true) by decide)] at H; exact H
   clear H
   have H := H1
   clear H1
   have H' := Aside0.mk H
   clear H
   go_wp2_with (first | ((with_reducible refine gate_callee (f := 11) rfl ?_); refine goesL_ (some 11) rfl rfl Tryd.func11 (by kernel_rfl) rfl #[.int .i64 a0] rfl (by (try simp only [List.map_toArray, List.map_cons, List.map_nil]); first | done | rfl | (simp only [List.length_drop, List.length_take]; rfl) | exact congrArg (fun n_ : Nat => #[Value.slice _ n_ _]) (Eq.trans (Aside0.out (by assumption)) (Eq.symm (Aside0.out (by assumption)))) | exact congrArg (fun n_ : Nat => #[Value.slice _ n_ _, Value.slice _ _ _]) (Eq.trans (Aside0.out (by assumption)) (Eq.symm (Aside0.out (by assumption))))) ?_; (with_reducible refine (rosterref12_holds.calls a0 false _ A4.out).mono ?_); rintro e w' ⟨rfl, ⟨nd, rfl⟩⟩; refine ⟨_, rfl, ?_⟩))
   go_meet
   case rel => exact ⟨_, (true), (by first | rfl | (simp; done) | (simp [*]; done) | (simp [isEmpty_ne_]; done)), H', ⟨by first | omega | exact Nat.le_refl _⟩, ⟨by (with_reducible repeat (first | apply Kd.V_alloc | apply Kd.V_drewN | apply Kd.V_drew)); exact HO1.out⟩, ⟨by repeat (first | (with_reducible first | exact HB.out | apply below_alloc | apply pw_below_drewN | apply below_drew1) | exact HB.out)⟩⟩
 case rest =>
  clear HC3
  try clear c1
  try clear p2
  try clear c5
  try clear c6
  try clear c6b0
  try clear c6b1
  obtain ⟨kq, x21_2, rfl, HA, HJ2, HO_1, HB⟩ := hcut
  cases kq with
  | zero => exact absurd HA.out (by simp [rosterref12_Group.j0])
  | succ kj2 =>
   have H := HA.out
   clear HA
   simp only [rosterref12_Group.j0] at H
   by_cases c7 : x21_2 = true
   ·subst c7
    have H1 : (some (([] : List (S38)), 1)) = some (r1, r2) := by rw [if_pos rfl] at H; exact H
    clear H
    have H := H1
    clear H1
    simp only [Option.some.injEq, Prod.mk.injEq] at H
    obtain ⟨rfl, rfl⟩ := H
    go_wp2
    go_ret2
    exact ⟨_, by first | rfl | (simp [isEmpty_ne_]; done) | (simp [*, errW_none, errW_some] <;> rfl), by first | exact Kd.S_nil _ _ _ _ _ | exact Kd.N_nil _ _ _ _ _ | exact Kd.V_nil _ _ _ _ _ | exact Kd.Q_nil _ _ _ _ _ | exact Kd.R_nil _ _ _ _ _, by repeat (first | (with_reducible first | exact HB.out | apply below_alloc | apply pw_below_drewN | apply below_drew1) | exact HB.out)⟩
   ·replace c7 := Bool.eq_false_iff.mpr c7
    subst c7
    have H1 : (rosterref12_Group.l0 kj2 l1 (([(⟨1, a0, (⟨#[]⟩ : ByteArray), (⟨#[]⟩ : ByteArray), (⟨(⟨#[]⟩ : ByteArray), ([] : List ByteArray), (⟨#[]⟩ : ByteArray)⟩ : S36), (⟨#[]⟩ : ByteArray), false⟩ : S38)] : List (S38))) 0) = some (r1, r2) := by rw [if_neg (show ¬ (false = true) by decide)] at H; exact H
    clear H
    have H := H1
    clear H1
    obtain ⟨y169, hy169⟩ : ∃ y_ : List (S38), y_ = (([(⟨1, a0, (⟨#[]⟩ : ByteArray), (⟨#[]⟩ : ByteArray), (⟨(⟨#[]⟩ : ByteArray), ([] : List ByteArray), (⟨#[]⟩ : ByteArray)⟩ : S36), (⟨#[]⟩ : ByteArray), false⟩ : S38)] : List (S38))) := ⟨_, rfl⟩
    replace H : (rosterref12_Group.l0 kj2 l1 y169 0) = some (r1, r2) := by first | (rw [hy169]; with_reducible exact H) | (have H2_ := (Option.bind_some _ _).symm.trans H; rw [hy169]; with_reducible exact H2_) | (have H2_ := (Option.bind_some _ _).symm.trans H; with_reducible exact H2_) | with_reducible exact H | (rw [hy169]; exact H) | exact H
    have Ny169 := Aside0.mk hy169
    clear hy169
    have H' := Aside0.mk H
    clear H
    go_wp2_with (first | ((with_reducible refine gate_dst (N := 24) rfl ?_); (try (refine gate_guard (by rfl) ?_; dsimp only)); refine Kd.N_lit k38 _ 38 ?hg (N' := 24) ?hd (xs := ([(⟨1, a0, (⟨#[]⟩ : ByteArray), (⟨#[]⟩ : ByteArray), (⟨(⟨#[]⟩ : ByteArray), ([] : List ByteArray), (⟨#[]⟩ : ByteArray)⟩ : S36), (⟨#[]⟩ : ByteArray), false⟩ : S38)] : List (S38))) (inner := [.int .i64 1, .int .i64 a0, .string (⟨#[]⟩ : ByteArray), .string (⟨#[]⟩ : ByteArray), .string (⟨#[]⟩ : ByteArray), .slice none 0 0, .string (⟨#[]⟩ : ByteArray), .string (⟨#[]⟩ : ByteArray), .bool false]) (ok := (fun k_ => (P1_ k_ ∨ w.heap.size ≤ k_))) (okp := (fun k_ => (P1_ k_ ∨ w.heap.size ≤ k_))) ?hr ?hp (fun _ hk => hk) ((show ∀ k_, wc.heap.size ≤ k_ → (fun k_ => (P1_ k_ ∨ w.heap.size ≤ k_)) k_ from fun k_ hk => (.inr (Nat.le_trans (below_size (by repeat (first | (with_reducible first | exact HB.out | apply below_alloc | apply pw_below_drewN | apply below_drew1) | exact HB.out))) hk))) _ (Nat.le_refl _)) (Below.refl _ _) (Nat.le_refl _) (by simp) ?_; (case hd => rfl); (case hg => rfl); (case hr => first | (go_simp; done) | (go_simp; rfl)); (case hp => exact (Reps.c9 (show Kd.FK k38 _ _ (⟨1, a0, (⟨#[]⟩ : ByteArray), (⟨#[]⟩ : ByteArray), (⟨(⟨#[]⟩ : ByteArray), ([] : List ByteArray), (⟨#[]⟩ : ByteArray)⟩ : S36), (⟨#[]⟩ : ByteArray), false⟩ : S38) [.int .i64 1, .int .i64 a0, .string (⟨#[]⟩ : ByteArray), .string (⟨#[]⟩ : ByteArray), .string (⟨#[]⟩ : ByteArray), .slice none 0 0, .string (⟨#[]⟩ : ByteArray), .string (⟨#[]⟩ : ByteArray), .bool false] from (k38_mkF _ _ (⟨1, a0, (⟨#[]⟩ : ByteArray), (⟨#[]⟩ : ByteArray), (⟨(⟨#[]⟩ : ByteArray), ([] : List ByteArray), (⟨#[]⟩ : ByteArray)⟩ : S36), (⟨#[]⟩ : ByteArray), false⟩ : S38) (Nat.le_refl _) (Kd.F_nil _ _ _))) (Reps.none _ _))); intro v170 w8 ho9 hb hg_ hnew_; clear hg_ hnew_; (first | rw [← Ny169.out] at ho9 | (simp only [Int.reduceToNat] at ho9; rw [← Ny169.out] at ho9)); have n0_ := Aside0.mk (Kd.V_elder' (by (with_reducible repeat (first | apply Kd.V_alloc | apply Kd.V_drewN | apply Kd.V_drew)); exact HO_1.out) (Kd.N_base ho9) hb); have n1_ := Aside0.mk (Kd.N_lower ho9 (below_size (by repeat (first | (with_reducible first | exact HB.out | apply below_alloc | apply pw_below_drewN | apply below_drew1) | exact HB.out)))); have n2_ := Aside0.mk (below_step (by repeat (first | (with_reducible first | exact HB.out | apply below_alloc | apply pw_below_drewN | apply below_drew1) | exact HB.out)) hb); clear HO_1; clear HB; have HO_1 := n0_; have HO171 := n1_; have HB := n2_; clear n0_ n1_ n2_; clear hb ho9))
    go_loopg [6, 7] kj2 (fun kq v6 v7 w' => ∃ (x6_2 : List (S38)) (x7_2 : Int), v7 = .int .i64 x7_2 ∧ Aside0 (rosterref12_Group.l0 kq l1 x6_2 x7_2 = some (r1, r2)) ∧ Aside0 (kq ≤ kj2) ∧ Aside0 (Kd.V (Kd.slice 38 k38) 23 w' w.heap.size (fun k_ => (P1_ k_ ∨ w.heap.size ≤ k_) ∧ some k_ ≠ (v6 : Value).ownBlock) (.slice A1 l1.length c1) l1) ∧ Aside0 (Kd.N k38 38 w' w.heap.size (fun k_ => (P1_ k_ ∨ w.heap.size ≤ k_)) v6 x6_2) ∧ Aside0 (Below w.heap.size w w'))
    case atStart => exact ⟨(y169), (0), (by first | rfl | (simp; done) | (simp [*]; done) | (simp [isEmpty_ne_]; done)), H', ⟨Nat.le_refl _⟩, ⟨by (with_reducible repeat (first | apply Kd.V_alloc | apply Kd.V_drewN | apply Kd.V_drew)); exact HO_1.out⟩, ⟨by (with_reducible repeat (first | apply Kd.N_alloc | apply Kd.N_drewN | apply Kd.N_drew)); exact HO171.out⟩, ⟨by repeat (first | (with_reducible first | exact HB.out | apply below_alloc | apply pw_below_drewN | apply below_drew1) | exact HB.out)⟩⟩
    case round =>
     clear H'
     try clear c1
     try clear p2
     try clear c5
     try clear c6
     try clear c6b0
     try clear c6b1
     try clear c7
     try clear c9
     try clear p2
     obtain ⟨x6_2, x7_2, rfl, HA, HK2, HO_1, HO_6, HB⟩ := hrel
     cases gk with
     | zero => exact absurd HA.out (by simp [rosterref12_Group.l0])
     | succ k2 =>
      have H := HA.out
      clear HA
      simp only [rosterref12_Group.l0] at H
      by_cases c10 : x7_2 < (l1.length : Int)
      ·rw [if_pos c10] at H
       have c10b0 : decide (x7_2 < (l1.length : Int)) = true := decide_eq_true c10
       clear c10
       by_cases c11 : 0 ≤ x7_2
       ·rw [if_pos c11] at H
        have c11b0 : decide (0 ≤ x7_2) = true := decide_eq_true c11
        clear c11
        replace H := Option.bind_eq_some_iff.mp H
        obtain ⟨⟨t174, t175⟩, A120, H⟩ := H
        replace H : (if t174 = 0 then ((rosterref12_moved.f k2 (rd_L6 l1 x7_2) 1).bind fun t177 => (if x6_2.length + t177.length < 1099511627776 then (rosterref12_Group.l0 k2 l1 (x6_2 ++ t177) (wrap64 (x7_2 + 1))) else (none))) else (some (([] : List (S38)), t174))) = some (r1, r2) := H
        have A12 := Aside0.mk A120
        clear A120
        by_cases c13 : t174 = 0
        ·rw [if_pos c13] at H
         have c13b0 : (t174 == 0) = true := beq_iff_eq.mpr c13
         have c13b1 : (t174 != 0) = false := bne_eq_false_iff_eq.mpr c13
         clear c13
         replace H := Option.bind_eq_some_iff.mp H
         obtain ⟨t177, A140, H⟩ := H
         replace H : (if x6_2.length + t177.length < 1099511627776 then (rosterref12_Group.l0 k2 l1 (x6_2 ++ t177) (wrap64 (x7_2 + 1))) else (none)) = some (r1, r2) := H
         have A14 := Aside0.mk A140
         clear A140
         by_cases c15 : x6_2.length + t177.length < 1099511627776
         ·rw [if_pos c15] at H
          have LMc15 := Aside0.mk c15
          clear c15
          obtain ⟨y180, hy180⟩ : ∃ y_ : List (S38), y_ = (x6_2 ++ t177) := ⟨_, rfl⟩
          replace H : (rosterref12_Group.l0 k2 l1 y180 (wrap64 (x7_2 + 1))) = some (r1, r2) := by first | (rw [hy180]; with_reducible exact H) | (have H2_ := (Option.bind_some _ _).symm.trans H; rw [hy180]; with_reducible exact H2_) | (have H2_ := (Option.bind_some _ _).symm.trans H; with_reducible exact H2_) | with_reducible exact H | (rw [hy180]; exact H) | exact H
          have Ny180 := Aside0.mk hy180
          clear hy180
          have H' := Aside0.mk H
          clear H
          have p173 : 0 ≤ (x7_2 : Int) := of_decide_eq_true (by first | (with_reducible assumption) | assumption)
          have q173 : x7_2 < (l1.length : Int) := of_decide_eq_true (by first | (with_reducible assumption) | assumption)
          obtain ⟨ad173, A173_0, c173_0, e173, hx173_0, hl173_0, hi173_0⟩ := at_L6 (Kd.V_reads' HO_1.out).2.2 x7_2 p173 q173
          cases e173
          obtain ⟨ce173, hce173, hMe173, hcc173⟩ := Kd.V_get HO_1.out [] x7_2 p173 (by first | exact q173 | exact of_decide_eq_true (by first | (with_reducible assumption) | assumption) | (have e_ := (Kd.V_reads' HO_1.out).1; omega))
          obtain ⟨ua173_0, uc173_0, rfl, ul173_0, ge173_0⟩ := Kd.FK_slice_open hMe173
          have hv173_0 := hcc173 0 _ rfl
          rw [Nat.add_zero, show ((Kd.slice 38 k38)).sz = 1 from rfl, Nat.mul_one] at hv173_0
          replace hv173_0 := Option.some.inj (hv173_0.symm.trans hx173_0)
          injection hv173_0 with hva_ hvn_ hvc_
          rw [hva_] at ge173_0
          rw [hvc_] at ul173_0
          have HL173_0 := Aside0.mk (show Kd.V k38 38 _ w.heap.size _ _ (rd_L6 l1 x7_2) from Kd.V_mk ul173_0 ge173_0)
          clear hva_ hvn_ hvc_ ge173_0 ul173_0
          clear hcc173 hce173
          have HR173_0 := Aside0.mk hi173_0
          have HC173_0 := Aside0.mk hl173_0
          clear hi173_0 hl173_0
          replace p173 := eq_true p173
          replace q173 := eq_true q173
          go_wp2_with (first | ((with_reducible refine gate_callee (f := 12) rfl ?_); refine goesL_ (some 36) rfl rfl Tryd.func12 (by kernel_rfl) rfl #[.slice A173_0 (rd_L6 l1 x7_2).length c173_0] rfl (by (try simp only [List.map_toArray, List.map_cons, List.map_nil]); first | done | rfl | (simp only [List.length_drop, List.length_take]; rfl) | exact congrArg (fun n_ : Nat => #[Value.slice _ n_ _]) (Eq.trans (Aside0.out (by assumption)) (Eq.symm (Aside0.out (by assumption)))) | exact congrArg (fun n_ : Nat => #[Value.slice _ n_ _, Value.slice _ _ _]) (Eq.trans (Aside0.out (by assumption)) (Eq.symm (Aside0.out (by assumption))))) ?_; (with_reducible refine (rosterref12_Check.calls k2 _ _ (rd_L6 l1 x7_2) t174 t175 _ ?side1 ?side2 A12.out ?sideT).mono ?_); (case sideT => exact HTB.out.at (by repeat (first | (with_reducible first | exact HB.out | apply below_alloc | apply pw_below_drewN | apply below_drew1) | exact HB.out | refine below_set ?_ (Aside0.out (by assumption)) | exact Below.refl _ _))); (case side1 => repeat (first | exact (by repeat (first | (with_reducible exact HR173_0.out) | (with_reducible refine Kd.C_alloc ?_ _) | (with_reducible refine Kd.C_drewN ?_ _) | (with_reducible refine Kd.C_drew ?_) | exact HR173_0.out)) | (with_reducible refine Kd.C_alloc ?_ _) | (with_reducible refine Kd.C_drewN ?_ _) | (with_reducible refine Kd.C_drew ?_))); (case side2 => first | exact HC173_0.out | exact Aside0.out (by assumption)); rintro e w16 ⟨rfl, hb⟩; refine ⟨_, rfl, ?_⟩; have n0_ := Aside0.mk (Kd.V_below (by (with_reducible repeat (first | apply Kd.V_alloc | apply Kd.V_drewN | apply Kd.V_drew)); exact HO_1.out) hb); have n1_ := Aside0.mk (Kd.N_below (by (with_reducible repeat (first | apply Kd.N_alloc | apply Kd.N_drewN | apply Kd.N_drew)); exact HO_6.out) hb); have n2_ := Aside0.mk (Kd.V_below (by (with_reducible repeat (first | apply Kd.V_alloc | apply Kd.V_drewN | apply Kd.V_drew)); exact HL173_0.out) hb); have n3_ := Aside0.mk (Kd.C_below (by repeat (first | (with_reducible exact HR173_0.out) | (with_reducible refine Kd.C_alloc ?_ _) | (with_reducible refine Kd.C_drewN ?_ _) | (with_reducible refine Kd.C_drew ?_) | exact HR173_0.out)) hb); have n4_ := Aside0.mk (below_step (by repeat (first | (with_reducible first | exact HB.out | apply below_alloc | apply pw_below_drewN | apply below_drew1) | exact HB.out)) hb); clear HO_1; clear HO_6; clear HL173_0; clear HR173_0; clear HB; have HO_1 := n0_; have HO_6 := n1_; have HL173_0 := n2_; have HR173_0 := n3_; have HB := n4_; clear n0_ n1_ n2_ n3_ n4_; (try clear hb); (try clear hb2); (try clear hk); (try clear hi); have p176 : 0 ≤ (x7_2 : Int) := of_decide_eq_true (by first | (with_reducible assumption) | assumption); have q176 : x7_2 < (l1.length : Int) := of_decide_eq_true (by first | (with_reducible assumption) | assumption); obtain ⟨ad176, A176_0, c176_0, e176, hx176_0, hl176_0, hi176_0⟩ := at_L6 (Kd.V_reads' HO_1.out).2.2 x7_2 p176 q176; obtain rfl : ad173 = ad176 := (by injection e176); obtain ⟨ce176, hce176, hMe176, hcc176⟩ := Kd.V_get HO_1.out [] x7_2 p176 (by first | exact q176 | exact of_decide_eq_true (by first | (with_reducible assumption) | assumption) | (have e_ := (Kd.V_reads' HO_1.out).1; omega)); obtain ⟨ua176_0, uc176_0, rfl, ul176_0, ge176_0⟩ := Kd.FK_slice_open hMe176; have hv176_0 := hcc176 0 _ rfl; rw [Nat.add_zero, show ((Kd.slice 38 k38)).sz = 1 from rfl, Nat.mul_one] at hv176_0; replace hv176_0 := Option.some.inj (hv176_0.symm.trans hx176_0); injection hv176_0 with hva_ hvn_ hvc_; rw [hva_] at ge176_0; rw [hvc_] at ul176_0; have HL176_0 := Aside0.mk (show Kd.V k38 38 _ w.heap.size _ _ (rd_L6 l1 x7_2) from Kd.V_mk ul176_0 ge176_0); clear hva_ hvn_ hvc_ ge176_0 ul176_0; clear hcc176 hce176; have HR176_0 := Aside0.mk hi176_0; have HC176_0 := Aside0.mk hl176_0; clear hi176_0 hl176_0; replace p176 := eq_true p176; replace q176 := eq_true q176) | ((with_reducible refine gate_callee (f := 13) rfl ?_); refine goesL_ (some 47) rfl rfl Tryd.func13 (by kernel_rfl) rfl #[.slice A176_0 (rd_L6 l1 x7_2).length c176_0, .int .i64 1] rfl (by (try simp only [List.map_toArray, List.map_cons, List.map_nil]); first | done | rfl | (simp only [List.length_drop, List.length_take]; rfl) | exact congrArg (fun n_ : Nat => #[Value.slice _ n_ _]) (Eq.trans (Aside0.out (by assumption)) (Eq.symm (Aside0.out (by assumption)))) | exact congrArg (fun n_ : Nat => #[Value.slice _ n_ _, Value.slice _ _ _]) (Eq.trans (Aside0.out (by assumption)) (Eq.symm (Aside0.out (by assumption))))) ?_; (with_reducible refine (rosterref12_moved.calls k2 (fun k_ => ((P1_ k_ ∨ w.heap.size ≤ k_) ∧ some k_ ≠ (u6 : Value).ownBlock)) _ _ (rd_L6 l1 x7_2) 1 t177 _ ?side1 A14.out).mono ?_); (case side1 => exact HL176_0.out); rintro e w17 ⟨v178, rfl, ho0, hb⟩; refine ⟨_, rfl, ?_⟩; have n0_ := Aside0.mk (Kd.V_elder' (by (with_reducible repeat (first | apply Kd.V_alloc | apply Kd.V_drewN | apply Kd.V_drew)); exact HO_1.out) (Kd.N_base ho0) hb); have n1_ := Aside0.mk (Kd.N_elder' (by (with_reducible repeat (first | apply Kd.N_alloc | apply Kd.N_drewN | apply Kd.N_drew)); exact HO_6.out) (Kd.N_base ho0) hb); have n2_ := Aside0.mk (Kd.V_elder' (by (with_reducible repeat (first | apply Kd.V_alloc | apply Kd.V_drewN | apply Kd.V_drew)); exact HL173_0.out) (Kd.N_base ho0) hb); have n3_ := Aside0.mk (Kd.V_elder' (by (with_reducible repeat (first | apply Kd.V_alloc | apply Kd.V_drewN | apply Kd.V_drew)); exact HL176_0.out) (Kd.N_base ho0) hb); have n4_ := Aside0.mk (Kd.N_lower (Kd.N_mono (ok' := fun k_ => (P1_ k_ ∨ w.heap.size ≤ k_) ∧ some k_ ≠ (u6 : Value).ownBlock) ho0 (fun k_ hk_ => ⟨Or.elim hk_ (fun hs_ => hs_.1) (fun hn_ => (.inr (Nat.le_trans (below_size (by repeat (first | (with_reducible first | exact HB.out | apply below_alloc | apply pw_below_drewN | apply below_drew1) | exact HB.out))) hn_))), Or.elim hk_ (fun hs_ => hs_.2) (fun hn_ => (Kd.fresh' (Kd.N_lt (by (with_reducible repeat (first | apply Kd.N_alloc | apply Kd.N_drewN | apply Kd.N_drew)); exact HO_6.out)) k_ hn_))⟩)) (below_size (by repeat (first | (with_reducible first | exact HB.out | apply below_alloc | apply pw_below_drewN | apply below_drew1) | exact HB.out)))); have n5_ := Aside0.mk (Kd.C_below (by repeat (first | (with_reducible exact HR173_0.out) | (with_reducible refine Kd.C_alloc ?_ _) | (with_reducible refine Kd.C_drewN ?_ _) | (with_reducible refine Kd.C_drew ?_) | exact HR173_0.out)) hb); have n6_ := Aside0.mk (Kd.C_below (by repeat (first | (with_reducible exact HR176_0.out) | (with_reducible refine Kd.C_alloc ?_ _) | (with_reducible refine Kd.C_drewN ?_ _) | (with_reducible refine Kd.C_drew ?_) | exact HR176_0.out)) hb); have n7_ := Aside0.mk (below_step (by repeat (first | (with_reducible first | exact HB.out | apply below_alloc | apply pw_below_drewN | apply below_drew1) | exact HB.out)) hb); clear HO_1; clear HO_6; clear HL173_0; clear HL176_0; clear HR173_0; clear HR176_0; clear HB; have HO_1 := n0_; have HO_6 := n1_; have HL173_0 := n2_; have HL176_0 := n3_; have HO179 := n4_; have HR173_0 := n5_; have HR176_0 := n6_; have HB := n7_; clear n0_ n1_ n2_ n3_ n4_ n5_ n6_ n7_; (try clear hb); (try clear hb2); (try clear hk); (try clear hi); (try clear ho0); obtain ⟨Ao19, co19, eo19⟩ := Kd.N_slice HO179.out; subst eo19) | ((with_reducible refine gate_builtin (b := .append) (xs := #[.tmp 42, .tmp 47]) rfl ?_); (try (refine gate_guard (by rfl) ?_; dsimp only)); at_builtin; refine Kd.N_append_rows k38 (w0 := w) w.heap.size rfl (.tmp 42) (.tmp 47) 23 38 (.agg #[(.int .i64 0), (.int .i64 0), (.string ⟨#[]⟩), (.string ⟨#[]⟩), (.string ⟨#[]⟩), (.slice none 0 0), (.string ⟨#[]⟩), (.string ⟨#[]⟩), (.bool false)]) 128 rfl Tryd.underlying23 info38 rfl (by decide) (by omega) u6 x6_2 t177 _ _ _ (fun k_ => (P1_ k_ ∨ w.heap.size ≤ k_)) (fun k_ => ((fun k_ => (P1_ k_ ∨ w.heap.size ≤ k_))) k_ ∧ some k_ ≠ (u6 : Value).ownBlock) rfl rfl ?aO ?aR (fun _ hk => hk) ?aF ?aB ?aS ?aL ?_; (case aR => exact (by skip; exact Kd.N_F (Kd.N_mono (ok' := (fun k_ => ((fun k_ => (P1_ k_ ∨ w.heap.size ≤ k_))) k_ ∧ some k_ ≠ (u6 : Value).ownBlock)) (HO179.out) (fun k_ hk => ⟨hk.1, hk.2⟩)))); (case aB => exact (by repeat (first | (with_reducible first | exact HB.out | apply below_alloc | apply pw_below_drewN | apply below_drew1) | exact HB.out))); (case aF => exact (fun k_ hk => (.inr (Nat.le_trans (below_size (by repeat (first | (with_reducible first | exact HB.out | apply below_alloc | apply pw_below_drewN | apply below_drew1) | exact HB.out))) hk)))); (case aO => exact (by (with_reducible repeat (first | apply Kd.N_alloc | apply Kd.N_drewN | apply Kd.N_drew)); exact Kd.N_mono HO_6.out (fun _ hk => hk.1))); (case aS => exact (below_size (by repeat (first | (with_reducible first | exact HB.out | apply below_alloc | apply pw_below_drewN | apply below_drew1) | exact HB.out)))); (case aL => have := LMc15.out; omega); intro v181 w18 ho hb hg hat; rw [← Ny180.out] at ho; have n0_ := Aside0.mk (Kd.V_afterv (ok := (fun k_ => (P1_ k_ ∨ w.heap.size ≤ k_) ∧ some k_ ≠ (.slice Ao19 t177.length co19 : Value).ownBlock)) (by (with_reducible repeat (first | apply Kd.V_alloc | apply Kd.V_drewN | apply Kd.V_drew)); exact Kd.V_mono HO_1.out (fun _ hk => ⟨⟨hk.1.1, hk.2⟩, hk.1.2⟩)) hg hat); have n1_ := Aside0.mk (Kd.V_afterv (ok := (fun k_ => (P1_ k_ ∨ w.heap.size ≤ k_) ∧ some k_ ≠ (.slice Ao19 t177.length co19 : Value).ownBlock)) (by (with_reducible repeat (first | apply Kd.V_alloc | apply Kd.V_drewN | apply Kd.V_drew)); exact Kd.V_mono HL173_0.out (fun _ hk => ⟨⟨hk.1.1, hk.2⟩, hk.1.2⟩)) hg hat); have n2_ := Aside0.mk (Kd.V_afterv (ok := (fun k_ => (P1_ k_ ∨ w.heap.size ≤ k_) ∧ some k_ ≠ (.slice Ao19 t177.length co19 : Value).ownBlock)) (by (with_reducible repeat (first | apply Kd.V_alloc | apply Kd.V_drewN | apply Kd.V_drew)); exact Kd.V_mono HL176_0.out (fun _ hk => ⟨⟨hk.1.1, hk.2⟩, hk.1.2⟩)) hg hat); have n3_ := Aside0.mk (Kd.N_afterv (ok := (fun k_ => (P1_ k_ ∨ w.heap.size ≤ k_))) (by (with_reducible repeat (first | apply Kd.N_alloc | apply Kd.N_drewN | apply Kd.N_drew)); exact HO179.out) hg hat); have n4_ := Aside0.mk (hb); have n5_ := Aside0.mk (ho); clear HO_1; clear HL173_0; clear HL176_0; clear HO179; clear HB; clear HO_6; have HO_1 := n0_; have HL173_0 := n1_; have HL176_0 := n2_; have HO179 := n3_; have HB := n4_; have HO182 := n5_; clear n0_ n1_ n2_ n3_ n4_ n5_; clear ho hb hg hat))
          go_roundg k2
          case measure => have := HJ2.out; have := HK2.out; omega
          case rel => exact ⟨(y180), (wrap64 (x7_2 + 1)), (by first | rfl | (simp; done) | (simp [*]; done) | (simp [isEmpty_ne_]; done)), H', ⟨by have := HJ2.out; have := HK2.out; omega⟩, ⟨by (with_reducible repeat (first | apply Kd.V_alloc | apply Kd.V_drewN | apply Kd.V_drew)); exact Kd.V_mono HO_1.out (fun _ hk => ⟨hk.1.1, hk.2⟩)⟩, ⟨by (with_reducible repeat (first | apply Kd.N_alloc | apply Kd.N_drewN | apply Kd.N_drew)); exact HO182.out⟩, ⟨by repeat (first | (with_reducible first | exact HB.out | apply below_alloc | apply pw_below_drewN | apply below_drew1) | exact HB.out)⟩⟩
         ·rw [if_neg c15] at H
          exact absurd H (by simp)
        ·rw [if_neg c13] at H
         have c13b0 : (t174 == 0) = false := beq_eq_false_iff_ne.mpr c13
         have c13b1 : (t174 != 0) = true := bne_iff_ne.mpr c13
         simp only [Option.some.injEq, Prod.mk.injEq] at H
         obtain ⟨rfl, rfl⟩ := H
         have p173 : 0 ≤ (x7_2 : Int) := of_decide_eq_true (by first | (with_reducible assumption) | assumption)
         have q173 : x7_2 < (l1.length : Int) := of_decide_eq_true (by first | (with_reducible assumption) | assumption)
         obtain ⟨ad173, A173_0, c173_0, e173, hx173_0, hl173_0, hi173_0⟩ := at_L6 (Kd.V_reads' HO_1.out).2.2 x7_2 p173 q173
         cases e173
         obtain ⟨ce173, hce173, hMe173, hcc173⟩ := Kd.V_get HO_1.out [] x7_2 p173 (by first | exact q173 | exact of_decide_eq_true (by first | (with_reducible assumption) | assumption) | (have e_ := (Kd.V_reads' HO_1.out).1; omega))
         obtain ⟨ua173_0, uc173_0, rfl, ul173_0, ge173_0⟩ := Kd.FK_slice_open hMe173
         have hv173_0 := hcc173 0 _ rfl
         rw [Nat.add_zero, show ((Kd.slice 38 k38)).sz = 1 from rfl, Nat.mul_one] at hv173_0
         replace hv173_0 := Option.some.inj (hv173_0.symm.trans hx173_0)
         injection hv173_0 with hva_ hvn_ hvc_
         rw [hva_] at ge173_0
         rw [hvc_] at ul173_0
         have HL173_0 := Aside0.mk (show Kd.V k38 38 _ w.heap.size _ _ (rd_L6 l1 x7_2) from Kd.V_mk ul173_0 ge173_0)
         clear hva_ hvn_ hvc_ ge173_0 ul173_0
         clear hcc173 hce173
         have HR173_0 := Aside0.mk hi173_0
         have HC173_0 := Aside0.mk hl173_0
         clear hi173_0 hl173_0
         replace p173 := eq_true p173
         replace q173 := eq_true q173
         go_wp2_with (first | ((with_reducible refine gate_callee (f := 12) rfl ?_); refine goesL_ (some 36) rfl rfl Tryd.func12 (by kernel_rfl) rfl #[.slice A173_0 (rd_L6 l1 x7_2).length c173_0] rfl (by (try simp only [List.map_toArray, List.map_cons, List.map_nil]); first | done | rfl | (simp only [List.length_drop, List.length_take]; rfl) | exact congrArg (fun n_ : Nat => #[Value.slice _ n_ _]) (Eq.trans (Aside0.out (by assumption)) (Eq.symm (Aside0.out (by assumption)))) | exact congrArg (fun n_ : Nat => #[Value.slice _ n_ _, Value.slice _ _ _]) (Eq.trans (Aside0.out (by assumption)) (Eq.symm (Aside0.out (by assumption))))) ?_; (with_reducible refine (rosterref12_Check.calls k2 _ _ (rd_L6 l1 x7_2) t174 t175 _ ?side1 ?side2 A12.out ?sideT).mono ?_); (case sideT => exact HTB.out.at (by repeat (first | (with_reducible first | exact HB.out | apply below_alloc | apply pw_below_drewN | apply below_drew1) | exact HB.out | refine below_set ?_ (Aside0.out (by assumption)) | exact Below.refl _ _))); (case side1 => repeat (first | exact (by repeat (first | (with_reducible exact HR173_0.out) | (with_reducible refine Kd.C_alloc ?_ _) | (with_reducible refine Kd.C_drewN ?_ _) | (with_reducible refine Kd.C_drew ?_) | exact HR173_0.out)) | (with_reducible refine Kd.C_alloc ?_ _) | (with_reducible refine Kd.C_drewN ?_ _) | (with_reducible refine Kd.C_drew ?_))); (case side2 => first | exact HC173_0.out | exact Aside0.out (by assumption)); rintro e w20 ⟨rfl, hb⟩; refine ⟨_, rfl, ?_⟩; have n0_ := Aside0.mk (Kd.V_below (by (with_reducible repeat (first | apply Kd.V_alloc | apply Kd.V_drewN | apply Kd.V_drew)); exact HO_1.out) hb); have n1_ := Aside0.mk (Kd.N_below (by (with_reducible repeat (first | apply Kd.N_alloc | apply Kd.N_drewN | apply Kd.N_drew)); exact HO_6.out) hb); have n2_ := Aside0.mk (Kd.V_below (by (with_reducible repeat (first | apply Kd.V_alloc | apply Kd.V_drewN | apply Kd.V_drew)); exact HL173_0.out) hb); have n3_ := Aside0.mk (Kd.C_below (by repeat (first | (with_reducible exact HR173_0.out) | (with_reducible refine Kd.C_alloc ?_ _) | (with_reducible refine Kd.C_drewN ?_ _) | (with_reducible refine Kd.C_drew ?_) | exact HR173_0.out)) hb); have n4_ := Aside0.mk (below_step (by repeat (first | (with_reducible first | exact HB.out | apply below_alloc | apply pw_below_drewN | apply below_drew1) | exact HB.out)) hb); clear HO_1; clear HO_6; clear HL173_0; clear HR173_0; clear HB; have HO_1 := n0_; have HO_6 := n1_; have HL173_0 := n2_; have HR173_0 := n3_; have HB := n4_; clear n0_ n1_ n2_ n3_ n4_; (try clear hb); (try clear hb2); (try clear hk); (try clear hi)))
         go_ret2
         exact ⟨_, by first | rfl | (simp [isEmpty_ne_]; done) | (simp [*, errW_none, errW_some] <;> rfl), by first | exact Kd.S_nil _ _ _ _ _ | exact Kd.N_nil _ _ _ _ _ | exact Kd.V_nil _ _ _ _ _ | exact Kd.Q_nil _ _ _ _ _ | exact Kd.R_nil _ _ _ _ _, by repeat (first | (with_reducible first | exact HB.out | apply below_alloc | apply pw_below_drewN | apply below_drew1) | exact HB.out)⟩
       ·rw [if_neg c11] at H
        exact absurd H (by simp)
      ·rw [if_neg c10] at H
       have c10b0 : decide (x7_2 < (l1.length : Int)) = false := decide_eq_false c10
       clear c10
       replace H := Option.bind_eq_some_iff.mp H
       obtain ⟨t172, A210, H⟩ := H
       replace H : (if t172 > 64 then (some (([] : List (S38)), 121)) else (some (x6_2, 0))) = some (r1, r2) := H
       have A21 := Aside0.mk A210
       clear A210
       by_cases c22 : t172 > 64
       ·rw [if_pos c22] at H
        have c22b0 : decide (64 < t172) = true := decide_eq_true c22
        clear c22
        simp only [Option.some.injEq, Prod.mk.injEq] at H
        obtain ⟨rfl, rfl⟩ := H
        obtain ⟨Ao23, co23, eo23⟩ := Kd.N_slice HO_6.out
        subst eo23
        go_wp2_with (first | ((with_reducible refine gate_callee (f := 14) rfl ?_); refine goesL_ (some 50) rfl rfl Tryd.func14 (by kernel_rfl) rfl #[.slice Ao23 x6_2.length co23] rfl (by (try simp only [List.map_toArray, List.map_cons, List.map_nil]); first | done | rfl | (simp only [List.length_drop, List.length_take]; rfl) | exact congrArg (fun n_ : Nat => #[Value.slice _ n_ _]) (Eq.trans (Aside0.out (by assumption)) (Eq.symm (Aside0.out (by assumption)))) | exact congrArg (fun n_ : Nat => #[Value.slice _ n_ _, Value.slice _ _ _]) (Eq.trans (Aside0.out (by assumption)) (Eq.symm (Aside0.out (by assumption))))) ?_; (with_reducible refine (rosterref12_Depth.calls k2 _ _ x6_2 t172 _ ?side1 ?side2 A21.out).mono ?_); (case side1 => repeat (first | exact (Kd.N_reads' HO_6.out).2.2 | (with_reducible refine Kd.C_alloc ?_ _) | (with_reducible refine Kd.C_drewN ?_ _) | (with_reducible refine Kd.C_drew ?_))); (case side2 => exact (Kd.N_reads' HO_6.out).2.1); rintro e w' ⟨rfl, ⟨nd, rfl⟩⟩; refine ⟨_, rfl, ?_⟩))
        go_ret2
        exact ⟨_, by first | rfl | (simp [isEmpty_ne_]; done) | (simp [*, errW_none, errW_some] <;> rfl), by first | exact Kd.S_nil _ _ _ _ _ | exact Kd.N_nil _ _ _ _ _ | exact Kd.V_nil _ _ _ _ _ | exact Kd.Q_nil _ _ _ _ _ | exact Kd.R_nil _ _ _ _ _, by repeat (first | (with_reducible first | exact HB.out | apply below_alloc | apply pw_below_drewN | apply below_drew1) | exact HB.out)⟩
       ·rw [if_neg c22] at H
        have c22b0 : decide (64 < t172) = false := decide_eq_false c22
        clear c22
        simp only [Option.some.injEq, Prod.mk.injEq] at H
        obtain ⟨rfl, rfl⟩ := H
        obtain ⟨Ao24, co24, eo24⟩ := Kd.N_slice HO_6.out
        subst eo24
        go_wp2_with (first | ((with_reducible refine gate_callee (f := 14) rfl ?_); refine goesL_ (some 50) rfl rfl Tryd.func14 (by kernel_rfl) rfl #[.slice Ao24 x6_2.length co24] rfl (by (try simp only [List.map_toArray, List.map_cons, List.map_nil]); first | done | rfl | (simp only [List.length_drop, List.length_take]; rfl) | exact congrArg (fun n_ : Nat => #[Value.slice _ n_ _]) (Eq.trans (Aside0.out (by assumption)) (Eq.symm (Aside0.out (by assumption)))) | exact congrArg (fun n_ : Nat => #[Value.slice _ n_ _, Value.slice _ _ _]) (Eq.trans (Aside0.out (by assumption)) (Eq.symm (Aside0.out (by assumption))))) ?_; (with_reducible refine (rosterref12_Depth.calls k2 _ _ x6_2 t172 _ ?side1 ?side2 A21.out).mono ?_); (case side1 => repeat (first | exact (Kd.N_reads' HO_6.out).2.2 | (with_reducible refine Kd.C_alloc ?_ _) | (with_reducible refine Kd.C_drewN ?_ _) | (with_reducible refine Kd.C_drew ?_))); (case side2 => exact (Kd.N_reads' HO_6.out).2.1); rintro e w' ⟨rfl, ⟨nd, rfl⟩⟩; refine ⟨_, rfl, ?_⟩))
        go_ret2
        exact ⟨_, by first | rfl | (simp [isEmpty_ne_]; done) | (simp [*, errW_none, errW_some] <;> rfl), by (with_reducible repeat (first | apply Kd.N_alloc | apply Kd.N_drewN | apply Kd.N_drew)); exact HO_6.out, by repeat (first | (with_reducible first | exact HB.out | apply below_alloc | apply pw_below_drewN | apply below_drew1) | exact HB.out)⟩

/-! ### filter_holds: function 15 -/
def filter_holds.f (a0 : Int) : Option (Bool) := if a0 = 0 then (some true) else (if a0 = 1 then (some true) else (some (a0 == 2)))
set_option maxHeartbeats 8000000 in
set_option maxRecDepth 100000 in
theorem filter_holds.calls (a0 : Int) (r : Bool) (w : World) (h : filter_holds.f a0 = some r) :
  Calls Tryd.prog 15 #[.int .i64 a0] w fun e w' => e = .returned (.bool r) ∧ Drawn0 w w' := by
 have H : (if a0 = 0 then (some true) else (if a0 = 1 then (some true) else (some (a0 == 2)))) = some r := h
 clear h
 by_cases c2 : a0 = 0
 ·rw [if_pos c2] at H
  have c2b0 : (a0 == 0) = true := beq_iff_eq.mpr c2
  have c2b1 : (a0 != 0) = false := bne_eq_false_iff_eq.mpr c2
  clear c2
  obtain rfl := Option.some.inj H
  go_enter Tryd.func15, Tryd.ntmps15
  go_wp2
  go_ret
  exact ⟨by first | rfl | (simp; done) | (simp [*]; done) | (simp [isEmpty_ne_]; done), by repeat (first | exact Drawn0.refl _ | apply Drawn0.step)⟩
 ·rw [if_neg c2] at H
  have c2b0 : (a0 == 0) = false := beq_eq_false_iff_ne.mpr c2
  have c2b1 : (a0 != 0) = true := bne_iff_ne.mpr c2
  by_cases c3 : a0 = 1
  ·rw [if_pos c3] at H
   have c3b0 : (a0 == 1) = true := beq_iff_eq.mpr c3
   have c3b1 : (a0 != 1) = false := bne_eq_false_iff_eq.mpr c3
   clear c3
   obtain rfl := Option.some.inj H
   go_enter Tryd.func15, Tryd.ntmps15
   go_wp2
   go_ret
   exact ⟨by first | rfl | (simp; done) | (simp [*]; done) | (simp [isEmpty_ne_]; done), by repeat (first | exact Drawn0.refl _ | apply Drawn0.step)⟩
  ·rw [if_neg c3] at H
   have c3b0 : (a0 == 1) = false := beq_eq_false_iff_ne.mpr c3
   have c3b1 : (a0 != 1) = true := bne_iff_ne.mpr c3
   obtain rfl := Option.some.inj H
   go_enter Tryd.func15, Tryd.ntmps15
   go_wp2
   go_ret
   exact ⟨by first | rfl | (simp; done) | (simp [*]; done) | (simp [isEmpty_ne_]; done), by repeat (first | exact Drawn0.refl _ | apply Drawn0.step)⟩

end Go.Proofs.YtaimjacpenofpaaDoor.GC
