/- Copies of a message's lists with a mark in the room behind each: walked, the marks told. Written by a program of this session (wip/tools/mk_mk.py) over its own print. -/
import Derived.Test.YtbpediccbeoifaaDoorGNx
import Derived.Lib.Hide
namespace Go.Proofs.YtbpediccbeoifaaDoor.W
open Go.RowKit Go.Proofs.YtbpediccbeoifaaDoorW.PrintWords Go.Proofs.YtbpediccbeoifaaDoorW.PrintLast Go.Proofs.YtbpediccbeoifaaDoorW.PrintMore
open Go.Proofs.YtbpediccbeoifaaDoor.GN
attribute [local go_sem] max2_int min2_int max_two min_two max_three min_three max_four min_four
set_option linter.unusedVariables false
set_option linter.unusedSimpArgs false
/-- A list of texts with a mark behind it (none: the nil list). -/
def roomK : Kd (Option (List ByteArray)) where
  sz := 1
  E := [9]
  K := fun w x cs => match x with
    | none => cs = [.slice none 0 0]
    | some l => ∃ A c, cs = [.slice A l.length c] ∧ (l ++ [(⟨#[115, 112, 97, 114, 101]⟩ : ByteArray)]).length ≤ c ∧ Kd.string.C w A (l ++ [(⟨#[115, 112, 97, 114, 101]⟩ : ByteArray)]).length (l ++ [(⟨#[115, 112, 97, 114, 101]⟩ : ByteArray)])
  M := fun w base ok x cs => match x with
    | none => cs = [.slice none 0 0]
    | some l => ∃ A c, cs = [.slice A l.length c] ∧ Kd.string.R 9 w base ok (.slice A (l ++ [(⟨#[115, 112, 97, 114, 101]⟩ : ByteArray)]).length c) (l ++ [(⟨#[115, 112, 97, 114, 101]⟩ : ByteArray)])
  K_len := by
    intro w x cs h
    cases x with
    | none => rw [show cs = _ from h]; rfl
    | some l => obtain ⟨A, c, rfl, _⟩ := h; rfl
  K_one := by
    intro w x cs h u hu
    cases x with
    | none => rw [show cs = _ from h] at hu; rw [List.mem_singleton.1 hu]; rfl
    | some l => obtain ⟨A, c, rfl, _⟩ := h; rw [List.mem_singleton.1 hu]; rfl
  K_below := by
    intro w w1 x cs hb h
    cases x with
    | none => exact h
    | some l => obtain ⟨A, c, rfl, hl, hr⟩ := h; exact ⟨A, c, rfl, hl, Kd.C_below hr hb⟩
  K_of_M := by
    intro w base ok x cs h
    cases x with
    | none => exact h
    | some l =>
      obtain ⟨A, c, rfl, h⟩ := h
      obtain ⟨_, hl, hr⟩ := Kd.R_reads' h
      exact ⟨A, c, rfl, hl, hr⟩
  M_mono := by
    intro w base ok ok' x cs hok h
    cases x with
    | none => exact h
    | some l => obtain ⟨A, c, rfl, h⟩ := h; exact ⟨A, c, rfl, Kd.R_mono h hok⟩
  M_bound := by
    intro w base ok x cs h
    cases x with
    | none => exact h
    | some l => obtain ⟨A, c, rfl, h⟩ := h; exact ⟨A, c, rfl, Kd.R_bound h⟩
  M_move := by
    intro w w1 base ok x cs hm h
    cases x with
    | none => exact h
    | some l => obtain ⟨A, c, rfl, h⟩ := h; exact ⟨A, c, rfl, Kd.R_move h hm⟩
  M_lower := by
    intro w base base' ok x cs hb h
    cases x with
    | none => exact h
    | some l => obtain ⟨A, c, rfl, h⟩ := h; exact ⟨A, c, rfl, Kd.R_lower h hb⟩
theorem room_mk {w : World} {base : Nat} {ok : Nat → Prop} {A : Option Addr} {c : Nat} {l : List ByteArray} (h : Kd.string.R 9 w base ok (.slice A (l.length + 1) c) (l ++ [(⟨#[115, 112, 97, 114, 101]⟩ : ByteArray)])) : roomK.M w base ok (some l) [.slice A l.length c] := ⟨A, c, rfl, by rw [List.length_append, List.length_singleton]; exact h⟩
theorem room_nil (w : World) (base : Nat) (ok : Nat → Prop) : roomK.M w base ok none [.slice none 0 0] := rfl
/-- Attributes, changes, patterns and nodes whose lists bear a mark. -/
structure Q75 where
  f0 : ByteArray
  f1 : ByteArray
  f2 : Option (List ByteArray)
def k75q : Kd Q75 := Kd.iso (Kd.pair Kd.string (Kd.pair Kd.string roomK)) (fun x : Q75 => (x.f0, x.f1, x.f2))
theorem k75q_mkM (w : World) (base : Nat) (ok : Nat → Prop) (x : Q75) {v2 : Value} (g2 : roomK.M w base ok x.f2 [v2]) : k75q.M w base ok x [.string x.f0, .string x.f1, v2] := ⟨[.string x.f0], [.string x.f1, v2], rfl, rfl, ⟨[.string x.f1], [v2], rfl, rfl, g2⟩⟩
structure Q73 where
  f0 : Int
  f1 : ByteArray
  f2 : Option (List ByteArray)
def k73q : Kd Q73 := Kd.iso (Kd.pair (Kd.int .i64) (Kd.pair Kd.string roomK)) (fun x : Q73 => (x.f0, x.f1, x.f2))
theorem k73q_mkM (w : World) (base : Nat) (ok : Nat → Prop) (x : Q73) {v2 : Value} (g2 : roomK.M w base ok x.f2 [v2]) : k73q.M w base ok x [.int .i64 x.f0, .string x.f1, v2] := ⟨[.int .i64 x.f0], [.string x.f1, v2], rfl, rfl, ⟨[.string x.f1], [v2], rfl, rfl, g2⟩⟩
structure Q68 where
  f0 : ByteArray
  f1 : Option (List ByteArray)
  f2 : ByteArray
def k68q : Kd Q68 := Kd.iso (Kd.pair Kd.string (Kd.pair roomK Kd.string)) (fun x : Q68 => (x.f0, x.f1, x.f2))
theorem k68q_mkM (w : World) (base : Nat) (ok : Nat → Prop) (x : Q68) {v1 : Value} (g1 : roomK.M w base ok x.f1 [v1]) : k68q.M w base ok x [.string x.f0, v1, .string x.f2] := ⟨[.string x.f0], [v1, .string x.f2], rfl, rfl, ⟨[v1], [.string x.f2], rfl, g1, rfl⟩⟩
structure Q71 where
  f0 : Int
  f1 : Int
  f2 : ByteArray
  f3 : ByteArray
  f4 : Q68
  f5 : ByteArray
  f6 : Bool
def k71q : Kd Q71 := Kd.iso (Kd.pair (Kd.int .i64) (Kd.pair (Kd.int .i64) (Kd.pair Kd.string (Kd.pair Kd.string (Kd.pair k68q (Kd.pair Kd.string Kd.bool)))))) (fun x : Q71 => (x.f0, x.f1, x.f2, x.f3, x.f4, x.f5, x.f6))
theorem k71q_mkM (w : World) (base : Nat) (ok : Nat → Prop) (x : Q71) {v5 : Value} (g5 : roomK.M w base ok x.f4.f1 [v5]) : k71q.M w base ok x [.int .i64 x.f0, .int .i64 x.f1, .string x.f2, .string x.f3, .string x.f4.f0, v5, .string x.f4.f2, .string x.f5, .bool x.f6] :=
  ⟨[.int .i64 x.f0], [.int .i64 x.f1, .string x.f2, .string x.f3, .string x.f4.f0, v5, .string x.f4.f2, .string x.f5, .bool x.f6], rfl, rfl, ⟨[.int .i64 x.f1], [.string x.f2, .string x.f3, .string x.f4.f0, v5, .string x.f4.f2, .string x.f5, .bool x.f6], rfl, rfl, ⟨[.string x.f2], [.string x.f3, .string x.f4.f0, v5, .string x.f4.f2, .string x.f5, .bool x.f6], rfl, rfl,
    ⟨[.string x.f3], [.string x.f4.f0, v5, .string x.f4.f2, .string x.f5, .bool x.f6], rfl, rfl, ⟨[.string x.f4.f0, v5, .string x.f4.f2], [.string x.f5, .bool x.f6], rfl, k68q_mkM w base ok x.f4 g5, ⟨[.string x.f5], [.bool x.f6], rfl, rfl, rfl⟩⟩⟩⟩⟩⟩
theorem info9 : (Tryd.prog.info? 9).map (fun i => (i.zero, i.size, i.bytes)) = some (some (.string ⟨#[]⟩), 1, 16) := by kernel_rfl
theorem info52 : (Tryd.prog.info? 52).map (fun i => (i.zero, i.size, i.bytes)) = some (some (.agg #[(.string ⟨#[]⟩), (.bool false), (.string ⟨#[]⟩), (.bool false)]), 4, 48) := by kernel_rfl
theorem info71 : (Tryd.prog.info? 71).map (fun i => (i.zero, i.size, i.bytes)) = some (some (.agg #[(.int .i64 0), (.int .i64 0), (.string ⟨#[]⟩), (.string ⟨#[]⟩), (.string ⟨#[]⟩), (.slice none 0 0), (.string ⟨#[]⟩), (.string ⟨#[]⟩), (.bool false)]), 9, 128) := by kernel_rfl
theorem info73 : (Tryd.prog.info? 73).map (fun i => (i.zero, i.size, i.bytes)) = some (some (.agg #[(.int .i64 0), (.string ⟨#[]⟩), (.slice none 0 0)]), 3, 48) := by kernel_rfl
theorem info75 : (Tryd.prog.info? 75).map (fun i => (i.zero, i.size, i.bytes)) = some (some (.agg #[(.string ⟨#[]⟩), (.string ⟨#[]⟩), (.slice none 0 0)]), 3, 56) := by kernel_rfl
/-! ### mk_texts: function 13 -/
def mk_texts.f (l0 : List ByteArray) : Option (List ByteArray) := if ([] : List ByteArray).length + l0.length < 8796093022208 then ((some (([] : List ByteArray) ++ l0 : List ByteArray)).bind fun y101 => (if y101.length < 8796093022208 then ((some (y101 ++ [(⟨#[115, 112, 97, 114, 101]⟩ : ByteArray)] : List ByteArray)).bind fun y104 => (if 0 ≤ (l0.length : Int) then (if (l0.length : Int) ≤ (y104.length : Int) then (some (y104.take ((l0.length : Int) : Int).toNat)) else (none)) else (none))) else (none))) else (none)
set_option maxHeartbeats 8000000 in
set_option maxRecDepth 100000 in
theorem mk_texts.calls (A0 : Option Addr) (c0 : Nat) (l0 : List ByteArray) (r : List ByteArray) (w : World) (hr0 : Kd.C Kd.string w A0 l0.length l0) (hc0 : l0.length ≤ c0) (h : mk_texts.f l0 = some r) :
  Calls Tryd.prog 13 #[.slice A0 l0.length c0] w fun e w' => ∃ A c, e = .returned (.slice A r.length c) ∧ Kd.R Kd.string 9 w' w.heap.size (fun _ => True) (.slice A (r.length + 1) c) (r ++ [(⟨#[115, 112, 97, 114, 101]⟩ : ByteArray)]) ∧ r = l0 ∧ Below w.heap.size w w' := by
 have HR0 := Aside0.mk hr0
 have HC0 := Aside0.mk hc0
 clear hr0 hc0
 have HB := Aside0.mk (Below.refl w.heap.size w)
 have H : (if ([] : List ByteArray).length + l0.length < 8796093022208 then ((some (([] : List ByteArray) ++ l0 : List ByteArray)).bind fun y101 => (if y101.length < 8796093022208 then ((some (y101 ++ [(⟨#[115, 112, 97, 114, 101]⟩ : ByteArray)] : List ByteArray)).bind fun y104 => (if 0 ≤ (l0.length : Int) then (if (l0.length : Int) ≤ (y104.length : Int) then (some (y104.take ((l0.length : Int) : Int).toNat)) else (none)) else (none))) else (none))) else (none)) = some r := h
 clear h
 by_cases c2 : ([] : List ByteArray).length + l0.length < 8796093022208
 ·rw [if_pos c2] at H
  have LMc2 := Aside0.mk c2
  clear c2
  obtain ⟨y101, hy101⟩ : ∃ y_ : List ByteArray, y_ = (([] : List ByteArray) ++ l0) := ⟨_, rfl⟩
  replace H : (if y101.length < 8796093022208 then ((some (y101 ++ [(⟨#[115, 112, 97, 114, 101]⟩ : ByteArray)] : List ByteArray)).bind fun y104 => (if 0 ≤ (l0.length : Int) then (if (l0.length : Int) ≤ (y104.length : Int) then (some (y104.take ((l0.length : Int) : Int).toNat)) else (none)) else (none))) else (none)) = some r := by first | (rw [hy101]; with_reducible exact H) | (have H2_ := (Option.bind_some _ _).symm.trans H; rw [hy101]; with_reducible exact H2_) | (have H2_ := (Option.bind_some _ _).symm.trans H; with_reducible exact H2_) | with_reducible exact H | (rw [hy101]; exact H) | exact H
  have Ny101 := Aside0.mk hy101
  clear hy101
  by_cases c3 : y101.length < 8796093022208
  ·rw [if_pos c3] at H
   have LMc3 := Aside0.mk c3
   clear c3
   obtain ⟨y104, hy104⟩ : ∃ y_ : List ByteArray, y_ = (y101 ++ [(⟨#[115, 112, 97, 114, 101]⟩ : ByteArray)]) := ⟨_, rfl⟩
   replace H : (if 0 ≤ (l0.length : Int) then (if (l0.length : Int) ≤ (y104.length : Int) then (some (y104.take ((l0.length : Int) : Int).toNat)) else (none)) else (none)) = some r := by first | (rw [hy104]; with_reducible exact H) | (have H2_ := (Option.bind_some _ _).symm.trans H; rw [hy104]; with_reducible exact H2_) | (have H2_ := (Option.bind_some _ _).symm.trans H; with_reducible exact H2_) | with_reducible exact H | (rw [hy104]; exact H) | exact H
   have Ny104 := Aside0.mk hy104
   clear hy104
   by_cases c4 : 0 ≤ (l0.length : Int)
   ·rw [if_pos c4] at H
    have c4b0 := eq_true c4
    have c4b1 : decide (0 ≤ (l0.length : Int)) = true := decide_eq_true c4
    clear c4
    by_cases c5 : (l0.length : Int) ≤ (y104.length : Int)
    ·rw [if_pos c5] at H
     have c5b0 := eq_true c5
     have c5b1 : decide ((l0.length : Int) ≤ (y104.length : Int)) = true := decide_eq_true c5
     clear c5
     obtain ⟨y107, hy107⟩ : ∃ y_ : List ByteArray, y_ = (y104.take ((l0.length : Int) : Int).toNat) := ⟨_, rfl⟩
     replace H : (some y107) = some r := by first | (rw [hy107]; with_reducible exact H) | (have H2_ := (Option.bind_some _ _).symm.trans H; rw [hy107]; with_reducible exact H2_) | (have H2_ := (Option.bind_some _ _).symm.trans H; with_reducible exact H2_) | with_reducible exact H | (rw [hy107]; exact H) | exact H
     have Ny107 := Aside0.mk hy107
     clear hy107
     obtain rfl := Option.some.inj H
     go_enter Tryd.func13, Tryd.ntmps13
     go_wp2_with (first | ((with_reducible refine gate_builtin (b := .append) (xs := #[.tmp 4, .tmp 5]) rfl ?_); at_builtin; refine Kd.R_append_rows Kd.string (w0 := w) w.heap.size rfl (.tmp 4) (.tmp 5) 29 9 (.string ⟨#[]⟩) 16 rfl Tryd.underlying29 info9 rfl (by decide) (by omega) (.slice none 0 0) ([] : List ByteArray) l0 _ _ _ (fun _ => True) (fun _ => False) rfl rfl ?aO ?aR (fun _ _ h => h) (fun _ h => h.elim) ?aF ?aB ?aS ?aL ?_; (case aR => repeat (first | exact HR0.out | (with_reducible refine Kd.C_alloc ?_ _) | (with_reducible refine Kd.C_drewN ?_ _) | (with_reducible refine Kd.C_drew ?_))); (case aB => exact (by repeat (first | (with_reducible first | exact HB.out | apply below_alloc | apply pw_below_drewN | apply below_drew1) | exact HB.out))); (case aF => exact (fun _ _ => trivial)); (case aO => exact ((Kd.R_nil _ _ _ _ (fun _ => True)))); (case aS => exact (below_size (by repeat (first | (with_reducible first | exact HB.out | apply below_alloc | apply pw_below_drewN | apply below_drew1) | exact HB.out)))); (case aL => have := LMc2.out; omega); intro v102 w6 ho hb hg hat; rw [← Ny101.out] at ho; have n0_ := Aside0.mk (hb); have n1_ := Aside0.mk (ho); clear HB; have HB := n0_; have HO103 := n1_; clear n0_ n1_; clear ho hb hg hat) | ((with_reducible refine gate_builtin (b := .append) (xs := #[.tmp 7, .tmp 8]) rfl ?_); at_builtin; refine Kd.R_append Kd.string (w0 := w) w.heap.size rfl (.tmp 7) (.tmp 8) 29 9 (.string ⟨#[]⟩) 16 rfl Tryd.underlying29 info9 rfl (by decide) (by omega) v102 y101 (⟨#[115, 112, 97, 114, 101]⟩ : ByteArray) [.string (⟨#[115, 112, 97, 114, 101]⟩ : ByteArray)] (fun _ => True) (fun _ => False) rfl rfl ?aP (fun _ hk => hk.elim) ?aF ?aO ?aB ?aS ?aL ?_; (case aP => exact rfl); (case aB => exact (by repeat (first | (with_reducible first | exact HB.out | apply below_alloc | apply pw_below_drewN | apply below_drew1) | exact HB.out))); (case aF => exact (fun _ _ => trivial)); (case aO => exact (by (with_reducible repeat (first | apply Kd.R_alloc | apply Kd.R_drewN | apply Kd.R_drew)); exact HO103.out)); (case aS => exact (below_size (by repeat (first | (with_reducible first | exact HB.out | apply below_alloc | apply pw_below_drewN | apply below_drew1) | exact HB.out)))); (case aL => have := LMc3.out; omega); intro v105 w7 ho hb hg hat; rw [← Ny104.out] at ho; have n0_ := Aside0.mk (hb); have n1_ := Aside0.mk (ho); clear HB; clear HO103; have HB := n0_; have HO106 := n1_; clear n0_ n1_; clear ho hb hg hat; obtain ⟨Ao8, co8, eo8⟩ := Kd.R_slice HO106.out; subst eo8; have q9 : ((l0.length : Int) : Int) ≤ ((y104.length : Int) : Int) := of_decide_eq_true (by first | (with_reducible assumption) | assumption); obtain ⟨i09, hi09, _, hsz9, _⟩ := info_parts info9; have hcut9 := cut_to (P := Tryd.prog) 29 9 .i64 Tryd.underlying29 hi09 Ao8 y104.length co8 (l0.length : Int) (of_decide_eq_true (by first | (with_reducible assumption) | assumption)) q9 (Kd.R_reads' HO106.out).2.1; have hr9 := Kd.R_take (m := ((l0.length : Int) : Int).toNat) HO106.out (by omega); have hy9 : y107.length = ((l0.length : Int) : Int).toNat := (by rw [Ny107.out, List.length_take]; omega); rw [← Ny107.out] at hr9; rw [← hy9] at hr9 hcut9; clear hy9 hi09 hsz9; have HO109 := Aside0.mk hr9; clear hr9; replace q9 := eq_true q9))
     go_ret
     have e7 : y104 = l0 ++ [(⟨#[115, 112, 97, 114, 101]⟩ : ByteArray)] := by rw [Ny104.out, Ny101.out]; rfl
     have e10 : y107 = l0 := by rw [Ny107.out, e7, Int.toNat_natCast, List.take_left]
     have Z := HO106.out
     rw [e7, List.length_append, List.length_singleton] at Z
     rw [← e10] at Z
     exact ⟨_, _, rfl, by (with_reducible repeat (first | apply Kd.R_alloc | apply Kd.R_drewN | apply Kd.R_drew)); exact Z, e10, by repeat (first | (with_reducible first | exact HB.out | apply below_alloc | apply pw_below_drewN | apply below_drew1) | exact HB.out)⟩
    ·rw [if_neg c5] at H
     exact absurd H (by simp)
   ·rw [if_neg c4] at H
    exact absurd H (by simp)
  ·rw [if_neg c3] at H
   exact absurd H (by simp)
 ·rw [if_neg c2] at H
  exact absurd H (by simp)

/-! ### mk_controls: function 16 -/
def mk_controls.f (l0 : List (S52)) : Option ((List (S52))) := if ([] : List (S52)).length + l0.length < 2932031007402 then ((some (([] : List (S52)) ++ l0 : List (S52))).bind fun y152 => (if y152.length < 2932031007402 then ((some (y152 ++ [(⟨(⟨#[115, 112, 97, 114, 101]⟩ : ByteArray), false, (⟨#[]⟩ : ByteArray), false⟩ : S52)] : List (S52))).bind fun y155 => (if 0 ≤ (l0.length : Int) then (if (l0.length : Int) ≤ (y155.length : Int) then (some (y155.take ((l0.length : Int) : Int).toNat)) else (none)) else (none))) else (none))) else (none)
set_option maxHeartbeats 8000000 in
set_option maxRecDepth 100000 in
theorem mk_controls.calls (A0 : Option Addr) (c0 : Nat) (l0 : List (S52)) (r : List (S52)) (w : World) (hr0 : Kd.C k52 w A0 l0.length l0) (hc0 : l0.length ≤ c0) (h : mk_controls.f l0 = some r) :
  Calls Tryd.prog 16 #[.slice A0 l0.length c0] w fun e w' => ∃ A c, e = .returned (.slice A r.length c) ∧ Kd.R k52 52 w' w.heap.size (fun _ => True) (.slice A (r.length + 1) c) (r ++ [(⟨(⟨#[115, 112, 97, 114, 101]⟩ : ByteArray), false, (⟨#[]⟩ : ByteArray), false⟩ : S52)]) ∧ r = l0 ∧ Below w.heap.size w w' := by
 have hu52 := Tryd.underlying52
 have HR0 := Aside0.mk hr0
 have HC0 := Aside0.mk hc0
 clear hr0 hc0
 have HB := Aside0.mk (Below.refl w.heap.size w)
 have H : (if ([] : List (S52)).length + l0.length < 2932031007402 then ((some (([] : List (S52)) ++ l0 : List (S52))).bind fun y152 => (if y152.length < 2932031007402 then ((some (y152 ++ [(⟨(⟨#[115, 112, 97, 114, 101]⟩ : ByteArray), false, (⟨#[]⟩ : ByteArray), false⟩ : S52)] : List (S52))).bind fun y155 => (if 0 ≤ (l0.length : Int) then (if (l0.length : Int) ≤ (y155.length : Int) then (some (y155.take ((l0.length : Int) : Int).toNat)) else (none)) else (none))) else (none))) else (none)) = some r := h
 clear h
 by_cases c2 : ([] : List (S52)).length + l0.length < 2932031007402
 ·rw [if_pos c2] at H
  have LMc2 := Aside0.mk c2
  clear c2
  obtain ⟨y152, hy152⟩ : ∃ y_ : List (S52), y_ = (([] : List (S52)) ++ l0) := ⟨_, rfl⟩
  replace H : (if y152.length < 2932031007402 then ((some (y152 ++ [(⟨(⟨#[115, 112, 97, 114, 101]⟩ : ByteArray), false, (⟨#[]⟩ : ByteArray), false⟩ : S52)] : List (S52))).bind fun y155 => (if 0 ≤ (l0.length : Int) then (if (l0.length : Int) ≤ (y155.length : Int) then (some (y155.take ((l0.length : Int) : Int).toNat)) else (none)) else (none))) else (none)) = some r := by first | (rw [hy152]; with_reducible exact H) | (have H2_ := (Option.bind_some _ _).symm.trans H; rw [hy152]; with_reducible exact H2_) | (have H2_ := (Option.bind_some _ _).symm.trans H; with_reducible exact H2_) | with_reducible exact H | (rw [hy152]; exact H) | exact H
  have Ny152 := Aside0.mk hy152
  clear hy152
  by_cases c3 : y152.length < 2932031007402
  ·rw [if_pos c3] at H
   have LMc3 := Aside0.mk c3
   clear c3
   obtain ⟨y155, hy155⟩ : ∃ y_ : List (S52), y_ = (y152 ++ [(⟨(⟨#[115, 112, 97, 114, 101]⟩ : ByteArray), false, (⟨#[]⟩ : ByteArray), false⟩ : S52)]) := ⟨_, rfl⟩
   replace H : (if 0 ≤ (l0.length : Int) then (if (l0.length : Int) ≤ (y155.length : Int) then (some (y155.take ((l0.length : Int) : Int).toNat)) else (none)) else (none)) = some r := by first | (rw [hy155]; with_reducible exact H) | (have H2_ := (Option.bind_some _ _).symm.trans H; rw [hy155]; with_reducible exact H2_) | (have H2_ := (Option.bind_some _ _).symm.trans H; with_reducible exact H2_) | with_reducible exact H | (rw [hy155]; exact H) | exact H
   have Ny155 := Aside0.mk hy155
   clear hy155
   by_cases c4 : 0 ≤ (l0.length : Int)
   ·rw [if_pos c4] at H
    have c4b0 := eq_true c4
    have c4b1 : decide (0 ≤ (l0.length : Int)) = true := decide_eq_true c4
    clear c4
    by_cases c5 : (l0.length : Int) ≤ (y155.length : Int)
    ·rw [if_pos c5] at H
     have c5b0 := eq_true c5
     have c5b1 : decide ((l0.length : Int) ≤ (y155.length : Int)) = true := decide_eq_true c5
     clear c5
     obtain ⟨y158, hy158⟩ : ∃ y_ : List (S52), y_ = (y155.take ((l0.length : Int) : Int).toNat) := ⟨_, rfl⟩
     replace H : (some y158) = some r := by first | (rw [hy158]; with_reducible exact H) | (have H2_ := (Option.bind_some _ _).symm.trans H; rw [hy158]; with_reducible exact H2_) | (have H2_ := (Option.bind_some _ _).symm.trans H; with_reducible exact H2_) | with_reducible exact H | (rw [hy158]; exact H) | exact H
     have Ny158 := Aside0.mk hy158
     clear hy158
     obtain rfl := Option.some.inj H
     go_enter Tryd.func16, Tryd.ntmps16
     go_wp2_with (first | ((with_reducible refine gate_builtin (b := .append) (xs := #[.tmp 4, .tmp 5]) rfl ?_); at_builtin; refine Kd.R_append_rows k52 (w0 := w) w.heap.size rfl (.tmp 4) (.tmp 5) 34 52 (.agg #[(.string ⟨#[]⟩), (.bool false), (.string ⟨#[]⟩), (.bool false)]) 48 rfl Tryd.underlying34 info52 rfl (by decide) (by omega) (.slice none 0 0) ([] : List (S52)) l0 _ _ _ (fun _ => True) (fun _ => False) rfl rfl ?aO ?aR (fun _ _ h => h) (fun _ h => h.elim) ?aF ?aB ?aS ?aL ?_; (case aR => repeat (first | exact HR0.out | (with_reducible refine Kd.C_alloc ?_ _) | (with_reducible refine Kd.C_drewN ?_ _) | (with_reducible refine Kd.C_drew ?_))); (case aB => exact (by repeat (first | (with_reducible first | exact HB.out | apply below_alloc | apply pw_below_drewN | apply below_drew1) | exact HB.out))); (case aF => exact (fun _ _ => trivial)); (case aO => exact ((Kd.R_nil _ _ _ _ (fun _ => True)))); (case aS => exact (below_size (by repeat (first | (with_reducible first | exact HB.out | apply below_alloc | apply pw_below_drewN | apply below_drew1) | exact HB.out)))); (case aL => have := LMc2.out; omega); intro v153 w6 ho hb hg hat; rw [← Ny152.out] at ho; have n0_ := Aside0.mk (hb); have n1_ := Aside0.mk (ho); clear HB; have HB := n0_; have HO154 := n1_; clear n0_ n1_; clear ho hb hg hat) | ((with_reducible refine gate_builtin (b := .append) (xs := #[.tmp 7, .tmp 9]) rfl ?_); at_builtin; refine Kd.R_append k52 (w0 := w) w.heap.size rfl (.tmp 7) (.tmp 9) 34 52 (.agg #[(.string ⟨#[]⟩), (.bool false), (.string ⟨#[]⟩), (.bool false)]) 48 rfl Tryd.underlying34 info52 rfl (by decide) (by omega) v153 y152 (⟨(⟨#[115, 112, 97, 114, 101]⟩ : ByteArray), false, (⟨#[]⟩ : ByteArray), false⟩ : S52) [.string (⟨#[115, 112, 97, 114, 101]⟩ : ByteArray), .bool false, .string (⟨#[]⟩ : ByteArray), .bool false] (fun _ => True) (fun _ => False) rfl rfl ?aP (fun _ hk => hk.elim) ?aF ?aO ?aB ?aS ?aL ?_; (case aP => exact k52_mkM _ _ _ (⟨(⟨#[115, 112, 97, 114, 101]⟩ : ByteArray), false, (⟨#[]⟩ : ByteArray), false⟩ : S52)); (case aB => exact (by repeat (first | (with_reducible first | exact HB.out | apply below_alloc | apply pw_below_drewN | apply below_drew1) | exact HB.out))); (case aF => exact (fun _ _ => trivial)); (case aO => exact (by (with_reducible repeat (first | apply Kd.R_alloc | apply Kd.R_drewN | apply Kd.R_drew)); exact HO154.out)); (case aS => exact (below_size (by repeat (first | (with_reducible first | exact HB.out | apply below_alloc | apply pw_below_drewN | apply below_drew1) | exact HB.out)))); (case aL => have := LMc3.out; omega); intro v156 w7 ho hb hg hat; rw [← Ny155.out] at ho; have n0_ := Aside0.mk (hb); have n1_ := Aside0.mk (ho); clear HB; clear HO154; have HB := n0_; have HO157 := n1_; clear n0_ n1_; clear ho hb hg hat; obtain ⟨Ao8, co8, eo8⟩ := Kd.R_slice HO157.out; subst eo8; have q9 : ((l0.length : Int) : Int) ≤ ((y155.length : Int) : Int) := of_decide_eq_true (by first | (with_reducible assumption) | assumption); obtain ⟨i09, hi09, _, hsz9, _⟩ := info_parts info52; have hcut9 := cut_to (P := Tryd.prog) 34 52 .i64 Tryd.underlying34 hi09 Ao8 y155.length co8 (l0.length : Int) (of_decide_eq_true (by first | (with_reducible assumption) | assumption)) q9 (Kd.R_reads' HO157.out).2.1; have hr9 := Kd.R_take (m := ((l0.length : Int) : Int).toNat) HO157.out (by omega); have hy9 : y158.length = ((l0.length : Int) : Int).toNat := (by rw [Ny158.out, List.length_take]; omega); rw [← Ny158.out] at hr9; rw [← hy9] at hr9 hcut9; clear hy9 hi09 hsz9; have HO160 := Aside0.mk hr9; clear hr9; replace q9 := eq_true q9))
     go_ret
     have e7 : y155 = l0 ++ [(⟨(⟨#[115, 112, 97, 114, 101]⟩ : ByteArray), false, (⟨#[]⟩ : ByteArray), false⟩ : S52)] := by rw [Ny155.out, Ny152.out]; rfl
     have e10 : y158 = l0 := by rw [Ny158.out, e7, Int.toNat_natCast, List.take_left]
     have Z := HO157.out
     rw [e7, List.length_append, List.length_singleton] at Z
     rw [← e10] at Z
     exact ⟨_, _, rfl, by (with_reducible repeat (first | apply Kd.R_alloc | apply Kd.R_drewN | apply Kd.R_drew)); exact Z, e10, by repeat (first | (with_reducible first | exact HB.out | apply below_alloc | apply pw_below_drewN | apply below_drew1) | exact HB.out)⟩
    ·rw [if_neg c5] at H
     exact absurd H (by simp)
   ·rw [if_neg c4] at H
    exact absurd H (by simp)
  ·rw [if_neg c3] at H
   exact absurd H (by simp)
 ·rw [if_neg c2] at H
  exact absurd H (by simp)

/-! ### mk_attrs: function 15 -/
def mk_attrs.l0 : Nat → List (S75) → List (Q75) → Int → Option ((List (Q75)))
 | 0, _, _, _ => none
 | k + 1, x0, x3, x4 => if x4 < (x0.length : Int) then (if 0 ≤ x4 then ((mk_texts.f ((rd_T75 x0 x4).f2)).bind fun t112 => (if x3.length < 2513169434916 then (mk_attrs.l0 k x0 (x3 ++ [(⟨(rd_T75 x0 x4).f0, (rd_T75 x0 x4).f1, some t112⟩ : Q75)]) (wrap64 (x4 + 1))) else (none))) else (none)) else (if x3.length < 2513169434916 then ((some (x3 ++ [(⟨(⟨#[115, 112, 97, 114, 101]⟩ : ByteArray), (⟨#[]⟩ : ByteArray), (none : Option (List ByteArray))⟩ : Q75)] : List (Q75))).bind fun y118 => (if 0 ≤ (x0.length : Int) then (if (x0.length : Int) ≤ (y118.length : Int) then (some y118) else (none)) else (none))) else (none))
def mk_attrs.f (k : Nat) (l0 : List (S75)) : Option ((List (Q75))) := mk_attrs.l0 k l0 ([] : List (Q75)) 0
theorem mk_attrs.mono_l : ∀ k, (∀ y0 y1 y2, LeO (mk_attrs.l0 k y0 y1 y2) (mk_attrs.l0 (k + 1) y0 y1 y2))
 | 0 => fun _ _ _ r h => by simp [mk_attrs.l0] at h
 | k + 1 => by
  have ih0 := mk_attrs.mono_l k
  ·intro y0 y1 y2
   unfold mk_attrs.l0
   repeat' first
   | (with_reducible exact ih0 _ _ _)
   | (with_reducible exact LeO.refl _)
   | (with_reducible exact LeO.none _)
   | (with_reducible refine LeO.ite ?_ ?_)
   | (with_reducible refine LeO.bind ?_ (fun _ => ?_))
   | exact ih0 _ _ _
   | exact LeO.none _
   | refine LeO.ite ?_ ?_
   | refine LeO.bind ?_ (fun _ => ?_)
theorem mk_attrs.mono : ∀ a0 k, LeO (mk_attrs.f k a0) (mk_attrs.f (k + 1) a0) := by
 intro a0 k
 have ih0 := mk_attrs.mono_l k
 unfold mk_attrs.f
 repeat' first
   | (with_reducible exact ih0 _ _ _)
   | (with_reducible exact LeO.refl _)
   | (with_reducible exact LeO.none _)
   | (with_reducible refine LeO.ite ?_ ?_)
   | (with_reducible refine LeO.bind ?_ (fun _ => ?_))
   | exact ih0 _ _ _
   | exact LeO.none _
   | refine LeO.ite ?_ ?_
   | refine LeO.bind ?_ (fun _ => ?_)
set_option maxHeartbeats 8000000 in
set_option maxRecDepth 100000 in
theorem mk_attrs.calls (k : Nat) (A0 : Option Addr) (c0 : Nat) (l0 : List (S75)) (r : List (Q75)) (w : World) (hr0 : Kd.C k75 w A0 l0.length l0) (hc0 : l0.length ≤ c0) (h : mk_attrs.f k l0 = some r) :
  Calls Tryd.prog 15 #[.slice A0 l0.length c0] w fun e w' => ∃ A c, e = .returned (.slice A (r.take l0.length).length c) ∧ Kd.S k75q 75 w' w.heap.size (fun _ => True) (.slice A r.length c) r ∧ Below w.heap.size w w' := by
 have hu75 := Tryd.underlying75
 have HR0 := Aside0.mk hr0
 have HC0 := Aside0.mk hc0
 clear hr0 hc0
 have HB := Aside0.mk (Below.refl w.heap.size w)
 have H : (mk_attrs.l0 k l0 ([] : List (Q75)) 0) = some r := h
 clear h
 have H' := Aside0.mk H
 clear H
 go_enter Tryd.func15, Tryd.ntmps15
 go_wp2
 go_loopg [3, 4] k (fun kq v3 v4 w' => ∃ (x3_1 : List (Q75)) (x4_1 : Int), v4 = .int .i64 x4_1 ∧ Aside0 (mk_attrs.l0 kq l0 x3_1 x4_1 = some r) ∧ Aside0 (kq ≤ k) ∧ Aside0 (Kd.S k75q 75 w' w.heap.size (fun _ => True) v3 x3_1) ∧ Aside0 (Below w.heap.size w w'))
 case atStart => exact ⟨(([] : List (Q75))), (0), (by first | rfl | (simp; done) | (simp [*]; done) | (simp [isEmpty_ne_]; done)), H', ⟨Nat.le_refl _⟩, ⟨by first | exact Kd.S_nil _ _ _ _ _ | exact Kd.N_nil _ _ _ _ _ | exact Kd.V_nil _ _ _ _ _ | exact Kd.Q_nil _ _ _ _ _ | exact Kd.R_nil _ _ _ _ _⟩, ⟨by repeat (first | (with_reducible first | exact HB.out | apply below_alloc | apply pw_below_drewN | apply below_drew1) | exact HB.out)⟩⟩
 case round =>
  clear H'
  try clear c1
  obtain ⟨x3_1, x4_1, rfl, HA, HK1, HO_3, HB⟩ := hrel
  cases gk with
  | zero => exact absurd HA.out (by simp [mk_attrs.l0])
  | succ k1 =>
   have H := HA.out
   clear HA
   simp only [mk_attrs.l0] at H
   by_cases c2 : x4_1 < (l0.length : Int)
   ·rw [if_pos c2] at H
    have c2b0 : decide (x4_1 < (l0.length : Int)) = true := decide_eq_true c2
    clear c2
    by_cases c3 : 0 ≤ x4_1
    ·rw [if_pos c3] at H
     have c3b0 : decide (0 ≤ x4_1) = true := decide_eq_true c3
     clear c3
     replace H := Option.bind_eq_some_iff.mp H
     obtain ⟨t112, A40, H⟩ := H
     replace H : (if x3_1.length < 2513169434916 then (mk_attrs.l0 k1 l0 (x3_1 ++ [(⟨(rd_T75 l0 x4_1).f0, (rd_T75 l0 x4_1).f1, some t112⟩ : Q75)]) (wrap64 (x4_1 + 1))) else (none)) = some r := H
     have A4 := Aside0.mk A40
     clear A40
     by_cases c5 : x3_1.length < 2513169434916
     ·rw [if_pos c5] at H
      have LMc5 := Aside0.mk c5
      clear c5
      obtain ⟨y115, hy115⟩ : ∃ y_ : List (Q75), y_ = (x3_1 ++ [(⟨(rd_T75 l0 x4_1).f0, (rd_T75 l0 x4_1).f1, some t112⟩ : Q75)]) := ⟨_, rfl⟩
      replace H : (mk_attrs.l0 k1 l0 y115 (wrap64 (x4_1 + 1))) = some r := by first | (rw [hy115]; with_reducible exact H) | (have H2_ := (Option.bind_some _ _).symm.trans H; rw [hy115]; with_reducible exact H2_) | (have H2_ := (Option.bind_some _ _).symm.trans H; with_reducible exact H2_) | with_reducible exact H | (rw [hy115]; exact H) | exact H
      have Ny115 := Aside0.mk hy115
      clear hy115
      have H' := Aside0.mk H
      clear H
      have p110 : 0 ≤ (x4_1 : Int) := of_decide_eq_true (by first | (with_reducible assumption) | assumption)
      have q110 : x4_1 < (l0.length : Int) := of_decide_eq_true (by first | (with_reducible assumption) | assumption)
      obtain ⟨ad110, A110_2, c110_2, e110, hx110_0, hx110_1, hx110_2, hl110_2, hi110_2⟩ := at_T75 HR0.out x4_1 p110 q110
      cases e110
      replace hx110_0 := cellB_ HB.out hx110_0
      replace hx110_1 := cellB_ HB.out hx110_1
      replace hx110_2 := cellB_ HB.out hx110_2
      have HR110_2 := Aside0.mk hi110_2
      have HC110_2 := Aside0.mk hl110_2
      clear hi110_2 hl110_2
      replace p110 := eq_true p110
      replace q110 := eq_true q110
      go_wp2_with (first | ((with_reducible refine gate_dst (N := 5) rfl ?_); refine box_event ?hg (N := 5) ?hd (cs := #[.string (⟨#[]⟩ : ByteArray), .string (⟨#[]⟩ : ByteArray), .slice none 0 0]) (t := 75) ?hr ?_; (case hd => rfl); (case hg => rfl); (case hr => first | (go_simp; done) | (go_simp; rfl)); intro gb111 hg w6 hbox hb; have n0_ := Aside0.mk (Kd.S_below (Kd.S_elderB (by (with_reducible repeat (first | apply Kd.S_alloc | apply Kd.S_drewN | apply Kd.S_drew)); exact HO_3.out) gb111 (Nat.le_of_eq hg.symm)) hb); have n1_ := Aside0.mk (below_step (by repeat (first | (with_reducible first | exact HB.out | apply below_alloc | apply pw_below_drewN | apply below_drew1) | exact HB.out)) hb); have n2_ := Aside0.mk (hbox); have n3_ := Aside0.mk ((by rw [hg]; exact (below_size (by repeat (first | (with_reducible first | exact HB.out | apply below_alloc | apply pw_below_drewN | apply below_drew1) | exact HB.out))) : w.heap.size ≤ gb111)); have n4_ := Aside0.mk ((by rw [hg]; exact (below_size (by repeat (first | (with_reducible first | exact HB.out | apply below_alloc | apply pw_below_drewN | apply below_drew1) | exact HB.out))) : w.heap.size ≤ gb111)); clear HO_3; clear HB; have HO_3 := n0_; have HB := n1_; have BK111 := n2_; have GW111 := n3_; have GE111 := n4_; clear n0_ n1_ n2_ n3_ n4_; clear hb hbox hg; obtain ⟨hcz7_0, hcz7_1, hcz7_2⟩ := cells3_ BK111.out; obtain ⟨hfz7_0, hfz7_1, hfz7_2⟩ := frz3_ BK111.out) | ((with_reducible refine gate_callee (f := 13) rfl ?_); refine goesL_ (some 18) rfl rfl Tryd.func13 (by kernel_rfl) rfl #[.slice A110_2 ((rd_T75 l0 x4_1).f2).length c110_2] rfl (by (try simp only [List.map_toArray, List.map_cons, List.map_nil]); first | done | rfl | (simp only [List.length_drop, List.length_take]; rfl) | exact congrArg (fun n_ : Nat => #[Value.slice _ n_ _]) (Eq.trans (Aside0.out (by assumption)) (Eq.symm (Aside0.out (by assumption)))) | exact congrArg (fun n_ : Nat => #[Value.slice _ n_ _, Value.slice _ _ _]) (Eq.trans (Aside0.out (by assumption)) (Eq.symm (Aside0.out (by assumption))))) ?_; (with_reducible refine (mk_texts.calls _ _ ((rd_T75 l0 x4_1).f2) t112 _ ?side1 ?side2 A4.out).mono ?_); (case side1 => exact Kd.C_below HR110_2.out (by repeat (first | (with_reducible first | exact HB.out | apply below_alloc | apply pw_below_drewN | apply below_drew1 | refine below_set ?_ GE111.out) | exact HB.out))); (case side2 => first | exact HC110_2.out | exact Aside0.out (by assumption)); rintro e w8 ⟨Ao9, co9, rfl, ho0, he9, hb⟩; clear he9; refine ⟨_, rfl, ?_⟩; have n0_ := Aside0.mk (Kd.S_elder' (by (with_reducible repeat (first | apply Kd.S_alloc | apply Kd.S_drewN | apply Kd.S_drew)); exact (Kd.S_mono (Kd.S_far (p := ⟨gb111, 2, none⟩) (Kd.S_far (p := ⟨gb111, 1, none⟩) (Kd.S_far (p := ⟨gb111, 0, none⟩) (Kd.S_mono HO_3.out (fun k_ hk => (⟨hk, hk.2⟩ : _ ∧ k_ ≠ gb111))) (fun _ hk => hk.2) (.string ((rd_T75 l0 x4_1).f0))) (fun _ hk => hk.2) (.string ((rd_T75 l0 x4_1).f1))) (fun _ hk => hk.2) (.slice A110_2 ((rd_T75 l0 x4_1).f2).length c110_2)) (fun _ h_ => h_.1))) (Kd.R_base ho0) hb); have n1_ := Aside0.mk (Kd.R_lower ho0 (below_size (by repeat (first | (with_reducible first | exact HB.out | apply below_alloc | apply pw_below_drewN | apply below_drew1 | refine below_set ?_ GE111.out) | exact HB.out)))); have n2_ := Aside0.mk (blk_below (g := gb111) (o := .cells #[.string ((rd_T75 l0 x4_1).f0), .string ((rd_T75 l0 x4_1).f1), .slice A110_2 ((rd_T75 l0 x4_1).f2).length c110_2] 75 (0, 0)) (by (with_reducible repeat (first | refine blk_drewN ?_ _ | refine blk_drew ?_ | refine blk_alloc ?_ _)); exact put3_ (by (with_reducible repeat (first | refine blk_drewN ?_ _ | refine blk_drew ?_ | refine blk_alloc ?_ _)); exact BK111.out)) hb); have n3_ := Aside0.mk (below_step (by repeat (first | (with_reducible first | exact HB.out | apply below_alloc | apply pw_below_drewN | apply below_drew1 | refine below_set ?_ GE111.out) | exact HB.out)) hb); clear HO_3; clear BK111; clear HB; have HO_3 := n0_; have HO114 := n1_; have BK111 := n2_; have HB := n3_; clear n0_ n1_ n2_ n3_; (try clear hb); (try clear hb2); (try clear hk); (try clear hi); (try clear ho0); obtain ⟨hcz10_0, hcz10_1, hcz10_2⟩ := cells3_ BK111.out; obtain ⟨hfz10_0, hfz10_1, hfz10_2⟩ := frz3_ BK111.out) | ((with_reducible refine gate_store (t := 29) (p := 19) rfl ?_); refine store_event (t := 29) (p := 19) (v := ?vo_w11) (w1 := (w8.setCell ⟨gb111, 2, none⟩ (.slice Ao9 t112.length co9))) ?hg ?ho ?hn ?hr ?_; (case ho => rfl); (case hg => rfl); (case hn => rfl); (case hr => first | (go_simp; done) | (go_simp; rfl)); intro w11 hw; have n0_ : Aside0 (Kd.S k75q 75 w11 w.heap.size (fun k_ => some k_ ≠ (.slice Ao9 (t112.length + 1) co9 : Value).ownBlock ∧ k_ ≠ gb111) u3 x3_1) := ⟨(by rw [hw]; exact (by (with_reducible repeat (first | apply Kd.S_alloc | apply Kd.S_drewN | apply Kd.S_drew)); exact Kd.S_mono (Kd.S_far (p := ⟨gb111, 2, none⟩) (Kd.S_mono HO_3.out (fun k_ hk => (⟨hk, hk.1.2⟩ : _ ∧ k_ ≠ gb111))) (fun _ hk => hk.2) (.slice Ao9 t112.length co9)) (fun _ hk => ⟨hk.1.2, hk.1.1.2⟩)))⟩; have n1_ : Aside0 (Kd.R Kd.string 9 w11 w.heap.size (fun _ => True) (.slice Ao9 (t112.length + 1) co9) (t112 ++ [(⟨#[115, 112, 97, 114, 101]⟩ : ByteArray)])) := ⟨(by rw [hw]; exact (by (with_reducible repeat (first | apply Kd.R_alloc | apply Kd.R_drewN | apply Kd.R_drew)); exact Kd.R_mono (Kd.R_far (p := ⟨gb111, 2, none⟩) (Kd.R_types HO114.out BK111.out (by decide)) (fun _ hk => hk.2) (.slice Ao9 t112.length co9)) (fun _ hk => trivial)))⟩; have n2_ : Aside0 (w11.heap[gb111]? = some (.cells #[.string ((rd_T75 l0 x4_1).f0), .string ((rd_T75 l0 x4_1).f1), .slice Ao9 t112.length co9] 75 (0, 0))) := ⟨(by rw [hw]; exact (by (with_reducible repeat (first | refine blk_drewN ?_ _ | refine blk_drew ?_ | refine blk_alloc ?_ _)); refine blk_put (cs := #[.string ((rd_T75 l0 x4_1).f0), .string ((rd_T75 l0 x4_1).f1), .slice A110_2 ((rd_T75 l0 x4_1).f2).length c110_2]) ?_ 2 _ rfl; (with_reducible repeat (first | refine blk_drewN ?_ _ | refine blk_drew ?_ | refine blk_alloc ?_ _)); exact BK111.out))⟩; have n3_ : Aside0 (Below w.heap.size w w11) := ⟨(by rw [hw]; exact (by repeat (first | (with_reducible first | exact HB.out | apply below_alloc | apply pw_below_drewN | apply below_drew1 | refine below_set ?_ GE111.out) | exact HB.out)))⟩; clear hw; clear HO_3; clear HO114; clear BK111; clear HB; have HO_3 := n0_; have HO114 := n1_; have BK111 := n2_; have HB := n3_; clear n0_ n1_ n2_ n3_; obtain ⟨hcz12_0, hcz12_1, hcz12_2⟩ := cells3_ BK111.out; obtain ⟨hfz12_0, hfz12_1, hfz12_2⟩ := frz3_ BK111.out) | ((with_reducible refine gate_builtin (b := .append) (xs := #[.tmp 20, .tmp 22]) rfl ?_); at_builtin; refine Kd.S_append k75q (w0 := w) w.heap.size rfl (.tmp 20) (.tmp 22) 33 75 (.agg #[(.string ⟨#[]⟩), (.string ⟨#[]⟩), (.slice none 0 0)]) 56 rfl Tryd.underlying33 info75 rfl (by decide) (by omega) u3 x3_1 (⟨(rd_T75 l0 x4_1).f0, (rd_T75 l0 x4_1).f1, some t112⟩ : Q75) [.string ((rd_T75 l0 x4_1).f0), .string ((rd_T75 l0 x4_1).f1), .slice Ao9 t112.length co9] (fun k_ => k_ ≠ gb111) (fun k_ => some k_ = (.slice Ao9 (t112.length + 1) co9 : Value).ownBlock) rfl rfl ?aP (fun k_ hk_ => ((Kd.R_mono (ok' := fun k_ => ((fun k_ => k_ ≠ gb111)) k_ ∧ some k_ ≠ (u3 : Value).ownBlock) (Kd.R_types (Kd.R_apart' (HO114.out) (Kd.S_typed HO_3.out) (by decide)) BK111.out (by decide)) (fun k_ hk => ⟨hk.2, hk.1.2⟩))).1 k_ hk_.symm) ?aF ?aO ?aB ?aS ?aL ?_; (case aP => exact k75q_mkM _ _ _ (⟨(rd_T75 l0 x4_1).f0, (rd_T75 l0 x4_1).f1, some t112⟩ : Q75) (room_mk (Kd.R_mono (Kd.R_tight rfl (Kd.R_mono (ok' := fun k_ => ((fun k_ => k_ ≠ gb111)) k_ ∧ some k_ ≠ (u3 : Value).ownBlock) (Kd.R_types (Kd.R_apart' (HO114.out) (Kd.S_typed HO_3.out) (by decide)) BK111.out (by decide)) (fun k_ hk => ⟨hk.2, hk.1.2⟩))) (fun _ h_ => h_)))); (case aB => exact (by repeat (first | (with_reducible first | exact HB.out | apply below_alloc | apply pw_below_drewN | apply below_drew1 | refine below_set ?_ GE111.out) | exact HB.out))); (case aF => exact (fun k_ hk => Kd.freshB (g := gb111) (o := .cells #[.string ((rd_T75 l0 x4_1).f0), .string ((rd_T75 l0 x4_1).f1), .slice Ao9 t112.length co9] 75 (0, 0)) (by (with_reducible repeat (first | refine blk_drewN ?_ _ | refine blk_drew ?_ | refine blk_alloc ?_ _)); exact BK111.out) k_ hk)); (case aO => exact (by (with_reducible repeat (first | apply Kd.S_alloc | apply Kd.S_drewN | apply Kd.S_drew)); exact Kd.S_mono HO_3.out (fun k_ hk => ⟨hk.2, fun e_ => hk.1 e_⟩))); (case aS => exact (below_size (by repeat (first | (with_reducible first | exact HB.out | apply below_alloc | apply pw_below_drewN | apply below_drew1 | refine below_set ?_ GE111.out) | exact HB.out)))); (case aL => have := LMc5.out; omega); intro v116 w13 ho hb hg hat; rw [← Ny115.out] at ho; have n0_ := Aside0.mk (blk_grown (g := gb111) (o := .cells #[.string ((rd_T75 l0 x4_1).f0), .string ((rd_T75 l0 x4_1).f1), .slice Ao9 t112.length co9] 75 (0, 0)) (by (with_reducible repeat (first | refine blk_drewN ?_ _ | refine blk_drew ?_ | refine blk_alloc ?_ _)); exact BK111.out) hg (Kd.S_away HO_3.out (fun _ hk => hk.2))); have n1_ := Aside0.mk (hb); have n2_ := Aside0.mk (ho); clear BK111; clear HB; clear HO_3; clear HO114; have BK111 := n0_; have HB := n1_; have HO117 := n2_; clear n0_ n1_ n2_; clear ho hb hg hat))
      go_roundg k1
      case measure => have := HK1.out; omega
      case rel => exact ⟨(y115), (wrap64 (x4_1 + 1)), (by first | rfl | (simp; done) | (simp [*]; done) | (simp [isEmpty_ne_]; done)), H', ⟨by have := HK1.out; omega⟩, ⟨by (with_reducible repeat (first | apply Kd.S_alloc | apply Kd.S_drewN | apply Kd.S_drew)); exact Kd.S_mono HO117.out (fun _ hk => trivial)⟩, ⟨by repeat (first | (with_reducible first | exact HB.out | apply below_alloc | apply pw_below_drewN | apply below_drew1 | refine below_set ?_ GE111.out) | exact HB.out)⟩⟩
     ·rw [if_neg c5] at H
      exact absurd H (by simp)
    ·rw [if_neg c3] at H
     exact absurd H (by simp)
   ·rw [if_neg c2] at H
    have c2b0 : decide (x4_1 < (l0.length : Int)) = false := decide_eq_false c2
    clear c2
    by_cases c14 : x3_1.length < 2513169434916
    ·rw [if_pos c14] at H
     have LMc14 := Aside0.mk c14
     clear c14
     obtain ⟨y118, hy118⟩ : ∃ y_ : List (Q75), y_ = (x3_1 ++ [(⟨(⟨#[115, 112, 97, 114, 101]⟩ : ByteArray), (⟨#[]⟩ : ByteArray), (none : Option (List ByteArray))⟩ : Q75)]) := ⟨_, rfl⟩
     replace H : (if 0 ≤ (l0.length : Int) then (if (l0.length : Int) ≤ (y118.length : Int) then (some y118) else (none)) else (none)) = some r := by first | (rw [hy118]; with_reducible exact H) | (have H2_ := (Option.bind_some _ _).symm.trans H; rw [hy118]; with_reducible exact H2_) | (have H2_ := (Option.bind_some _ _).symm.trans H; with_reducible exact H2_) | with_reducible exact H | (rw [hy118]; exact H) | exact H
     have Ny118 := Aside0.mk hy118
     clear hy118
     by_cases c15 : 0 ≤ (l0.length : Int)
     ·rw [if_pos c15] at H
      have c15b0 := eq_true c15
      have c15b1 : decide (0 ≤ (l0.length : Int)) = true := decide_eq_true c15
      clear c15
      by_cases c16 : (l0.length : Int) ≤ (y118.length : Int)
      ·rw [if_pos c16] at H
       have c16b0 := eq_true c16
       have c16b1 : decide ((l0.length : Int) ≤ (y118.length : Int)) = true := decide_eq_true c16
       clear c16
       obtain ⟨y121, hy121⟩ : ∃ y_ : List (Q75), y_ = (y118.take ((l0.length : Int) : Int).toNat) := ⟨_, rfl⟩
       replace H : (some y118) = some r := by first | (rw [hy121]; with_reducible exact H) | (have H2_ := (Option.bind_some _ _).symm.trans H; rw [hy121]; with_reducible exact H2_) | (have H2_ := (Option.bind_some _ _).symm.trans H; with_reducible exact H2_) | with_reducible exact H | (rw [hy121]; exact H) | exact H
       have Ny121 := Aside0.mk hy121
       clear hy121
       obtain rfl := Option.some.inj H
       go_wp2_with (first | ((with_reducible refine gate_builtin (b := .append) (xs := #[.tmp 24, .tmp 26]) rfl ?_); at_builtin; refine Kd.S_append k75q (w0 := w) w.heap.size rfl (.tmp 24) (.tmp 26) 33 75 (.agg #[(.string ⟨#[]⟩), (.string ⟨#[]⟩), (.slice none 0 0)]) 56 rfl Tryd.underlying33 info75 rfl (by decide) (by omega) u3 x3_1 (⟨(⟨#[115, 112, 97, 114, 101]⟩ : ByteArray), (⟨#[]⟩ : ByteArray), (none : Option (List ByteArray))⟩ : Q75) [.string (⟨#[115, 112, 97, 114, 101]⟩ : ByteArray), .string (⟨#[]⟩ : ByteArray), .slice none 0 0] (fun _ => True) (fun _ => False) rfl rfl ?aP (fun k_ hk_ => hk_.elim) ?aF ?aO ?aB ?aS ?aL ?_; (case aP => exact k75q_mkM _ _ _ (⟨(⟨#[115, 112, 97, 114, 101]⟩ : ByteArray), (⟨#[]⟩ : ByteArray), (none : Option (List ByteArray))⟩ : Q75) (room_nil _ _ _)); (case aB => exact (by repeat (first | (with_reducible first | exact HB.out | apply below_alloc | apply pw_below_drewN | apply below_drew1) | exact HB.out))); (case aF => exact (fun _ _ => trivial)); (case aO => exact (by (with_reducible repeat (first | apply Kd.S_alloc | apply Kd.S_drewN | apply Kd.S_drew)); exact Kd.S_mono HO_3.out (fun k_ hk => ⟨trivial, fun e_ => e_⟩))); (case aS => exact (below_size (by repeat (first | (with_reducible first | exact HB.out | apply below_alloc | apply pw_below_drewN | apply below_drew1) | exact HB.out)))); (case aL => have := LMc14.out; omega); intro v119 w17 ho hb hg hat; rw [← Ny118.out] at ho; have n0_ := Aside0.mk (hb); have n1_ := Aside0.mk (ho); clear HB; clear HO_3; have HB := n0_; have HO120 := n1_; clear n0_ n1_; clear ho hb hg hat; obtain ⟨Ao18, co18, eo18⟩ := Kd.S_slice HO120.out; subst eo18; have q19 : ((l0.length : Int) : Int) ≤ ((y118.length : Int) : Int) := of_decide_eq_true (by first | (with_reducible assumption) | assumption); obtain ⟨i019, hi019, _, hsz19, _⟩ := info_parts info75; have hcut19 := cut_to (P := Tryd.prog) 33 75 .i64 Tryd.underlying33 hi019 Ao18 y118.length co18 (l0.length : Int) (of_decide_eq_true (by first | (with_reducible assumption) | assumption)) q19 (Kd.S_reads' HO120.out).2.1; have hr19 := Kd.S_take (m := ((l0.length : Int) : Int).toNat) HO120.out (by omega); have hy19 : y121.length = ((l0.length : Int) : Int).toNat := (by rw [Ny121.out, List.length_take]; omega); rw [← Ny121.out] at hr19; rw [← hy19] at hr19 hcut19; clear hy19 hi019 hsz19; have HO123 := Aside0.mk hr19; clear hr19; replace q19 := eq_true q19))
       go_ret
       refine ⟨Ao18, co18, ?_, by (with_reducible repeat (first | apply Kd.S_alloc | apply Kd.S_drewN | apply Kd.S_drew)); exact Kd.S_mono HO120.out (fun _ hk => trivial), by repeat (first | (with_reducible first | exact HB.out | apply below_alloc | apply pw_below_drewN | apply below_drew1) | exact HB.out)⟩
       have e26 := Ny121.out
       rw [Int.toNat_natCast] at e26
       have e27 := congrArg List.length e26
       rw [List.length_take] at e27
       simp [e27]
      ·rw [if_neg c16] at H
       exact absurd H (by simp)
     ·rw [if_neg c15] at H
      exact absurd H (by simp)
    ·rw [if_neg c14] at H
     exact absurd H (by simp)

/-! ### mk_changes: function 14 -/
def mk_changes.l0 : Nat → List (S73) → List (Q73) → Int → Option ((List (Q73)))
 | 0, _, _, _ => none
 | k + 1, x0, x3, x4 => if x4 < (x0.length : Int) then (if 0 ≤ x4 then ((mk_texts.f ((rd_T73 x0 x4).f2)).bind fun t140 => (if x3.length < 2932031007402 then (mk_changes.l0 k x0 (x3 ++ [(⟨(rd_T73 x0 x4).f0, (rd_T73 x0 x4).f1, some t140⟩ : Q73)]) (wrap64 (x4 + 1))) else (none))) else (none)) else (if x3.length < 2932031007402 then ((some (x3 ++ [(⟨0, (⟨#[115, 112, 97, 114, 101]⟩ : ByteArray), (none : Option (List ByteArray))⟩ : Q73)] : List (Q73))).bind fun y146 => (if 0 ≤ (x0.length : Int) then (if (x0.length : Int) ≤ (y146.length : Int) then (some y146) else (none)) else (none))) else (none))
def mk_changes.f (k : Nat) (l0 : List (S73)) : Option ((List (Q73))) := mk_changes.l0 k l0 ([] : List (Q73)) 0
theorem mk_changes.mono_l : ∀ k, (∀ y0 y1 y2, LeO (mk_changes.l0 k y0 y1 y2) (mk_changes.l0 (k + 1) y0 y1 y2))
 | 0 => fun _ _ _ r h => by simp [mk_changes.l0] at h
 | k + 1 => by
  have ih0 := mk_changes.mono_l k
  ·intro y0 y1 y2
   unfold mk_changes.l0
   repeat' first
   | (with_reducible exact ih0 _ _ _)
   | (with_reducible exact LeO.refl _)
   | (with_reducible exact LeO.none _)
   | (with_reducible refine LeO.ite ?_ ?_)
   | (with_reducible refine LeO.bind ?_ (fun _ => ?_))
   | exact ih0 _ _ _
   | exact LeO.none _
   | refine LeO.ite ?_ ?_
   | refine LeO.bind ?_ (fun _ => ?_)
theorem mk_changes.mono : ∀ a0 k, LeO (mk_changes.f k a0) (mk_changes.f (k + 1) a0) := by
 intro a0 k
 have ih0 := mk_changes.mono_l k
 unfold mk_changes.f
 repeat' first
   | (with_reducible exact ih0 _ _ _)
   | (with_reducible exact LeO.refl _)
   | (with_reducible exact LeO.none _)
   | (with_reducible refine LeO.ite ?_ ?_)
   | (with_reducible refine LeO.bind ?_ (fun _ => ?_))
   | exact ih0 _ _ _
   | exact LeO.none _
   | refine LeO.ite ?_ ?_
   | refine LeO.bind ?_ (fun _ => ?_)
set_option maxHeartbeats 8000000 in
set_option maxRecDepth 100000 in
theorem mk_changes.calls (k : Nat) (A0 : Option Addr) (c0 : Nat) (l0 : List (S73)) (r : List (Q73)) (w : World) (hr0 : Kd.C k73 w A0 l0.length l0) (hc0 : l0.length ≤ c0) (h : mk_changes.f k l0 = some r) :
  Calls Tryd.prog 14 #[.slice A0 l0.length c0] w fun e w' => ∃ A c, e = .returned (.slice A (r.take l0.length).length c) ∧ Kd.S k73q 73 w' w.heap.size (fun _ => True) (.slice A r.length c) r ∧ Below w.heap.size w w' := by
 have hu73 := Tryd.underlying73
 have HR0 := Aside0.mk hr0
 have HC0 := Aside0.mk hc0
 clear hr0 hc0
 have HB := Aside0.mk (Below.refl w.heap.size w)
 have H : (mk_changes.l0 k l0 ([] : List (Q73)) 0) = some r := h
 clear h
 have H' := Aside0.mk H
 clear H
 go_enter Tryd.func14, Tryd.ntmps14
 go_wp2
 go_loopg [3, 4] k (fun kq v3 v4 w' => ∃ (x3_1 : List (Q73)) (x4_1 : Int), v4 = .int .i64 x4_1 ∧ Aside0 (mk_changes.l0 kq l0 x3_1 x4_1 = some r) ∧ Aside0 (kq ≤ k) ∧ Aside0 (Kd.S k73q 73 w' w.heap.size (fun _ => True) v3 x3_1) ∧ Aside0 (Below w.heap.size w w'))
 case atStart => exact ⟨(([] : List (Q73))), (0), (by first | rfl | (simp; done) | (simp [*]; done) | (simp [isEmpty_ne_]; done)), H', ⟨Nat.le_refl _⟩, ⟨by first | exact Kd.S_nil _ _ _ _ _ | exact Kd.N_nil _ _ _ _ _ | exact Kd.V_nil _ _ _ _ _ | exact Kd.Q_nil _ _ _ _ _ | exact Kd.R_nil _ _ _ _ _⟩, ⟨by repeat (first | (with_reducible first | exact HB.out | apply below_alloc | apply pw_below_drewN | apply below_drew1) | exact HB.out)⟩⟩
 case round =>
  clear H'
  try clear c1
  obtain ⟨x3_1, x4_1, rfl, HA, HK1, HO_3, HB⟩ := hrel
  cases gk with
  | zero => exact absurd HA.out (by simp [mk_changes.l0])
  | succ k1 =>
   have H := HA.out
   clear HA
   simp only [mk_changes.l0] at H
   by_cases c2 : x4_1 < (l0.length : Int)
   ·rw [if_pos c2] at H
    have c2b0 : decide (x4_1 < (l0.length : Int)) = true := decide_eq_true c2
    clear c2
    by_cases c3 : 0 ≤ x4_1
    ·rw [if_pos c3] at H
     have c3b0 : decide (0 ≤ x4_1) = true := decide_eq_true c3
     clear c3
     replace H := Option.bind_eq_some_iff.mp H
     obtain ⟨t140, A40, H⟩ := H
     replace H : (if x3_1.length < 2932031007402 then (mk_changes.l0 k1 l0 (x3_1 ++ [(⟨(rd_T73 l0 x4_1).f0, (rd_T73 l0 x4_1).f1, some t140⟩ : Q73)]) (wrap64 (x4_1 + 1))) else (none)) = some r := H
     have A4 := Aside0.mk A40
     clear A40
     by_cases c5 : x3_1.length < 2932031007402
     ·rw [if_pos c5] at H
      have LMc5 := Aside0.mk c5
      clear c5
      obtain ⟨y143, hy143⟩ : ∃ y_ : List (Q73), y_ = (x3_1 ++ [(⟨(rd_T73 l0 x4_1).f0, (rd_T73 l0 x4_1).f1, some t140⟩ : Q73)]) := ⟨_, rfl⟩
      replace H : (mk_changes.l0 k1 l0 y143 (wrap64 (x4_1 + 1))) = some r := by first | (rw [hy143]; with_reducible exact H) | (have H2_ := (Option.bind_some _ _).symm.trans H; rw [hy143]; with_reducible exact H2_) | (have H2_ := (Option.bind_some _ _).symm.trans H; with_reducible exact H2_) | with_reducible exact H | (rw [hy143]; exact H) | exact H
      have Ny143 := Aside0.mk hy143
      clear hy143
      have H' := Aside0.mk H
      clear H
      have p138 : 0 ≤ (x4_1 : Int) := of_decide_eq_true (by first | (with_reducible assumption) | assumption)
      have q138 : x4_1 < (l0.length : Int) := of_decide_eq_true (by first | (with_reducible assumption) | assumption)
      obtain ⟨ad138, A138_2, c138_2, e138, hx138_0, hx138_1, hx138_2, hl138_2, hi138_2⟩ := at_T73 HR0.out x4_1 p138 q138
      cases e138
      replace hx138_0 := cellB_ HB.out hx138_0
      replace hx138_1 := cellB_ HB.out hx138_1
      replace hx138_2 := cellB_ HB.out hx138_2
      have HR138_2 := Aside0.mk hi138_2
      have HC138_2 := Aside0.mk hl138_2
      clear hi138_2 hl138_2
      replace p138 := eq_true p138
      replace q138 := eq_true q138
      go_wp2_with (first | ((with_reducible refine gate_dst (N := 5) rfl ?_); refine box_event ?hg (N := 5) ?hd (cs := #[.int .i64 0, .string (⟨#[]⟩ : ByteArray), .slice none 0 0]) (t := 73) ?hr ?_; (case hd => rfl); (case hg => rfl); (case hr => first | (go_simp; done) | (go_simp; rfl)); intro gb139 hg w6 hbox hb; have n0_ := Aside0.mk (Kd.S_below (Kd.S_elderB (by (with_reducible repeat (first | apply Kd.S_alloc | apply Kd.S_drewN | apply Kd.S_drew)); exact HO_3.out) gb139 (Nat.le_of_eq hg.symm)) hb); have n1_ := Aside0.mk (below_step (by repeat (first | (with_reducible first | exact HB.out | apply below_alloc | apply pw_below_drewN | apply below_drew1) | exact HB.out)) hb); have n2_ := Aside0.mk (hbox); have n3_ := Aside0.mk ((by rw [hg]; exact (below_size (by repeat (first | (with_reducible first | exact HB.out | apply below_alloc | apply pw_below_drewN | apply below_drew1) | exact HB.out))) : w.heap.size ≤ gb139)); have n4_ := Aside0.mk ((by rw [hg]; exact (below_size (by repeat (first | (with_reducible first | exact HB.out | apply below_alloc | apply pw_below_drewN | apply below_drew1) | exact HB.out))) : w.heap.size ≤ gb139)); clear HO_3; clear HB; have HO_3 := n0_; have HB := n1_; have BK139 := n2_; have GW139 := n3_; have GE139 := n4_; clear n0_ n1_ n2_ n3_ n4_; clear hb hbox hg; obtain ⟨hcz7_0, hcz7_1, hcz7_2⟩ := cells3_ BK139.out; obtain ⟨hfz7_0, hfz7_1, hfz7_2⟩ := frz3_ BK139.out) | ((with_reducible refine gate_callee (f := 13) rfl ?_); refine goesL_ (some 18) rfl rfl Tryd.func13 (by kernel_rfl) rfl #[.slice A138_2 ((rd_T73 l0 x4_1).f2).length c138_2] rfl (by (try simp only [List.map_toArray, List.map_cons, List.map_nil]); first | done | rfl | (simp only [List.length_drop, List.length_take]; rfl) | exact congrArg (fun n_ : Nat => #[Value.slice _ n_ _]) (Eq.trans (Aside0.out (by assumption)) (Eq.symm (Aside0.out (by assumption)))) | exact congrArg (fun n_ : Nat => #[Value.slice _ n_ _, Value.slice _ _ _]) (Eq.trans (Aside0.out (by assumption)) (Eq.symm (Aside0.out (by assumption))))) ?_; (with_reducible refine (mk_texts.calls _ _ ((rd_T73 l0 x4_1).f2) t140 _ ?side1 ?side2 A4.out).mono ?_); (case side1 => exact Kd.C_below HR138_2.out (by repeat (first | (with_reducible first | exact HB.out | apply below_alloc | apply pw_below_drewN | apply below_drew1 | refine below_set ?_ GE139.out) | exact HB.out))); (case side2 => first | exact HC138_2.out | exact Aside0.out (by assumption)); rintro e w8 ⟨Ao9, co9, rfl, ho0, he9, hb⟩; clear he9; refine ⟨_, rfl, ?_⟩; have n0_ := Aside0.mk (Kd.S_elder' (by (with_reducible repeat (first | apply Kd.S_alloc | apply Kd.S_drewN | apply Kd.S_drew)); exact (Kd.S_mono (Kd.S_far (p := ⟨gb139, 2, none⟩) (Kd.S_far (p := ⟨gb139, 1, none⟩) (Kd.S_far (p := ⟨gb139, 0, none⟩) (Kd.S_mono HO_3.out (fun k_ hk => (⟨hk, hk.2⟩ : _ ∧ k_ ≠ gb139))) (fun _ hk => hk.2) (.int .i64 ((rd_T73 l0 x4_1).f0))) (fun _ hk => hk.2) (.string ((rd_T73 l0 x4_1).f1))) (fun _ hk => hk.2) (.slice A138_2 ((rd_T73 l0 x4_1).f2).length c138_2)) (fun _ h_ => h_.1))) (Kd.R_base ho0) hb); have n1_ := Aside0.mk (Kd.R_lower ho0 (below_size (by repeat (first | (with_reducible first | exact HB.out | apply below_alloc | apply pw_below_drewN | apply below_drew1 | refine below_set ?_ GE139.out) | exact HB.out)))); have n2_ := Aside0.mk (blk_below (g := gb139) (o := .cells #[.int .i64 ((rd_T73 l0 x4_1).f0), .string ((rd_T73 l0 x4_1).f1), .slice A138_2 ((rd_T73 l0 x4_1).f2).length c138_2] 73 (0, 0)) (by (with_reducible repeat (first | refine blk_drewN ?_ _ | refine blk_drew ?_ | refine blk_alloc ?_ _)); exact put3_ (by (with_reducible repeat (first | refine blk_drewN ?_ _ | refine blk_drew ?_ | refine blk_alloc ?_ _)); exact BK139.out)) hb); have n3_ := Aside0.mk (below_step (by repeat (first | (with_reducible first | exact HB.out | apply below_alloc | apply pw_below_drewN | apply below_drew1 | refine below_set ?_ GE139.out) | exact HB.out)) hb); clear HO_3; clear BK139; clear HB; have HO_3 := n0_; have HO142 := n1_; have BK139 := n2_; have HB := n3_; clear n0_ n1_ n2_ n3_; (try clear hb); (try clear hb2); (try clear hk); (try clear hi); (try clear ho0); obtain ⟨hcz10_0, hcz10_1, hcz10_2⟩ := cells3_ BK139.out; obtain ⟨hfz10_0, hfz10_1, hfz10_2⟩ := frz3_ BK139.out) | ((with_reducible refine gate_store (t := 29) (p := 19) rfl ?_); refine store_event (t := 29) (p := 19) (v := ?vo_w11) (w1 := (w8.setCell ⟨gb139, 2, none⟩ (.slice Ao9 t140.length co9))) ?hg ?ho ?hn ?hr ?_; (case ho => rfl); (case hg => rfl); (case hn => rfl); (case hr => first | (go_simp; done) | (go_simp; rfl)); intro w11 hw; have n0_ : Aside0 (Kd.S k73q 73 w11 w.heap.size (fun k_ => some k_ ≠ (.slice Ao9 (t140.length + 1) co9 : Value).ownBlock ∧ k_ ≠ gb139) u3 x3_1) := ⟨(by rw [hw]; exact (by (with_reducible repeat (first | apply Kd.S_alloc | apply Kd.S_drewN | apply Kd.S_drew)); exact Kd.S_mono (Kd.S_far (p := ⟨gb139, 2, none⟩) (Kd.S_mono HO_3.out (fun k_ hk => (⟨hk, hk.1.2⟩ : _ ∧ k_ ≠ gb139))) (fun _ hk => hk.2) (.slice Ao9 t140.length co9)) (fun _ hk => ⟨hk.1.2, hk.1.1.2⟩)))⟩; have n1_ : Aside0 (Kd.R Kd.string 9 w11 w.heap.size (fun _ => True) (.slice Ao9 (t140.length + 1) co9) (t140 ++ [(⟨#[115, 112, 97, 114, 101]⟩ : ByteArray)])) := ⟨(by rw [hw]; exact (by (with_reducible repeat (first | apply Kd.R_alloc | apply Kd.R_drewN | apply Kd.R_drew)); exact Kd.R_mono (Kd.R_far (p := ⟨gb139, 2, none⟩) (Kd.R_types HO142.out BK139.out (by decide)) (fun _ hk => hk.2) (.slice Ao9 t140.length co9)) (fun _ hk => trivial)))⟩; have n2_ : Aside0 (w11.heap[gb139]? = some (.cells #[.int .i64 ((rd_T73 l0 x4_1).f0), .string ((rd_T73 l0 x4_1).f1), .slice Ao9 t140.length co9] 73 (0, 0))) := ⟨(by rw [hw]; exact (by (with_reducible repeat (first | refine blk_drewN ?_ _ | refine blk_drew ?_ | refine blk_alloc ?_ _)); refine blk_put (cs := #[.int .i64 ((rd_T73 l0 x4_1).f0), .string ((rd_T73 l0 x4_1).f1), .slice A138_2 ((rd_T73 l0 x4_1).f2).length c138_2]) ?_ 2 _ rfl; (with_reducible repeat (first | refine blk_drewN ?_ _ | refine blk_drew ?_ | refine blk_alloc ?_ _)); exact BK139.out))⟩; have n3_ : Aside0 (Below w.heap.size w w11) := ⟨(by rw [hw]; exact (by repeat (first | (with_reducible first | exact HB.out | apply below_alloc | apply pw_below_drewN | apply below_drew1 | refine below_set ?_ GE139.out) | exact HB.out)))⟩; clear hw; clear HO_3; clear HO142; clear BK139; clear HB; have HO_3 := n0_; have HO142 := n1_; have BK139 := n2_; have HB := n3_; clear n0_ n1_ n2_ n3_; obtain ⟨hcz12_0, hcz12_1, hcz12_2⟩ := cells3_ BK139.out; obtain ⟨hfz12_0, hfz12_1, hfz12_2⟩ := frz3_ BK139.out) | ((with_reducible refine gate_builtin (b := .append) (xs := #[.tmp 20, .tmp 22]) rfl ?_); at_builtin; refine Kd.S_append k73q (w0 := w) w.heap.size rfl (.tmp 20) (.tmp 22) 32 73 (.agg #[(.int .i64 0), (.string ⟨#[]⟩), (.slice none 0 0)]) 48 rfl Tryd.underlying32 info73 rfl (by decide) (by omega) u3 x3_1 (⟨(rd_T73 l0 x4_1).f0, (rd_T73 l0 x4_1).f1, some t140⟩ : Q73) [.int .i64 ((rd_T73 l0 x4_1).f0), .string ((rd_T73 l0 x4_1).f1), .slice Ao9 t140.length co9] (fun k_ => k_ ≠ gb139) (fun k_ => some k_ = (.slice Ao9 (t140.length + 1) co9 : Value).ownBlock) rfl rfl ?aP (fun k_ hk_ => ((Kd.R_mono (ok' := fun k_ => ((fun k_ => k_ ≠ gb139)) k_ ∧ some k_ ≠ (u3 : Value).ownBlock) (Kd.R_types (Kd.R_apart' (HO142.out) (Kd.S_typed HO_3.out) (by decide)) BK139.out (by decide)) (fun k_ hk => ⟨hk.2, hk.1.2⟩))).1 k_ hk_.symm) ?aF ?aO ?aB ?aS ?aL ?_; (case aP => exact k73q_mkM _ _ _ (⟨(rd_T73 l0 x4_1).f0, (rd_T73 l0 x4_1).f1, some t140⟩ : Q73) (room_mk (Kd.R_mono (Kd.R_tight rfl (Kd.R_mono (ok' := fun k_ => ((fun k_ => k_ ≠ gb139)) k_ ∧ some k_ ≠ (u3 : Value).ownBlock) (Kd.R_types (Kd.R_apart' (HO142.out) (Kd.S_typed HO_3.out) (by decide)) BK139.out (by decide)) (fun k_ hk => ⟨hk.2, hk.1.2⟩))) (fun _ h_ => h_)))); (case aB => exact (by repeat (first | (with_reducible first | exact HB.out | apply below_alloc | apply pw_below_drewN | apply below_drew1 | refine below_set ?_ GE139.out) | exact HB.out))); (case aF => exact (fun k_ hk => Kd.freshB (g := gb139) (o := .cells #[.int .i64 ((rd_T73 l0 x4_1).f0), .string ((rd_T73 l0 x4_1).f1), .slice Ao9 t140.length co9] 73 (0, 0)) (by (with_reducible repeat (first | refine blk_drewN ?_ _ | refine blk_drew ?_ | refine blk_alloc ?_ _)); exact BK139.out) k_ hk)); (case aO => exact (by (with_reducible repeat (first | apply Kd.S_alloc | apply Kd.S_drewN | apply Kd.S_drew)); exact Kd.S_mono HO_3.out (fun k_ hk => ⟨hk.2, fun e_ => hk.1 e_⟩))); (case aS => exact (below_size (by repeat (first | (with_reducible first | exact HB.out | apply below_alloc | apply pw_below_drewN | apply below_drew1 | refine below_set ?_ GE139.out) | exact HB.out)))); (case aL => have := LMc5.out; omega); intro v144 w13 ho hb hg hat; rw [← Ny143.out] at ho; have n0_ := Aside0.mk (blk_grown (g := gb139) (o := .cells #[.int .i64 ((rd_T73 l0 x4_1).f0), .string ((rd_T73 l0 x4_1).f1), .slice Ao9 t140.length co9] 73 (0, 0)) (by (with_reducible repeat (first | refine blk_drewN ?_ _ | refine blk_drew ?_ | refine blk_alloc ?_ _)); exact BK139.out) hg (Kd.S_away HO_3.out (fun _ hk => hk.2))); have n1_ := Aside0.mk (hb); have n2_ := Aside0.mk (ho); clear BK139; clear HB; clear HO_3; clear HO142; have BK139 := n0_; have HB := n1_; have HO145 := n2_; clear n0_ n1_ n2_; clear ho hb hg hat))
      go_roundg k1
      case measure => have := HK1.out; omega
      case rel => exact ⟨(y143), (wrap64 (x4_1 + 1)), (by first | rfl | (simp; done) | (simp [*]; done) | (simp [isEmpty_ne_]; done)), H', ⟨by have := HK1.out; omega⟩, ⟨by (with_reducible repeat (first | apply Kd.S_alloc | apply Kd.S_drewN | apply Kd.S_drew)); exact Kd.S_mono HO145.out (fun _ hk => trivial)⟩, ⟨by repeat (first | (with_reducible first | exact HB.out | apply below_alloc | apply pw_below_drewN | apply below_drew1 | refine below_set ?_ GE139.out) | exact HB.out)⟩⟩
     ·rw [if_neg c5] at H
      exact absurd H (by simp)
    ·rw [if_neg c3] at H
     exact absurd H (by simp)
   ·rw [if_neg c2] at H
    have c2b0 : decide (x4_1 < (l0.length : Int)) = false := decide_eq_false c2
    clear c2
    by_cases c14 : x3_1.length < 2932031007402
    ·rw [if_pos c14] at H
     have LMc14 := Aside0.mk c14
     clear c14
     obtain ⟨y146, hy146⟩ : ∃ y_ : List (Q73), y_ = (x3_1 ++ [(⟨0, (⟨#[115, 112, 97, 114, 101]⟩ : ByteArray), (none : Option (List ByteArray))⟩ : Q73)]) := ⟨_, rfl⟩
     replace H : (if 0 ≤ (l0.length : Int) then (if (l0.length : Int) ≤ (y146.length : Int) then (some y146) else (none)) else (none)) = some r := by first | (rw [hy146]; with_reducible exact H) | (have H2_ := (Option.bind_some _ _).symm.trans H; rw [hy146]; with_reducible exact H2_) | (have H2_ := (Option.bind_some _ _).symm.trans H; with_reducible exact H2_) | with_reducible exact H | (rw [hy146]; exact H) | exact H
     have Ny146 := Aside0.mk hy146
     clear hy146
     by_cases c15 : 0 ≤ (l0.length : Int)
     ·rw [if_pos c15] at H
      have c15b0 := eq_true c15
      have c15b1 : decide (0 ≤ (l0.length : Int)) = true := decide_eq_true c15
      clear c15
      by_cases c16 : (l0.length : Int) ≤ (y146.length : Int)
      ·rw [if_pos c16] at H
       have c16b0 := eq_true c16
       have c16b1 : decide ((l0.length : Int) ≤ (y146.length : Int)) = true := decide_eq_true c16
       clear c16
       obtain ⟨y149, hy149⟩ : ∃ y_ : List (Q73), y_ = (y146.take ((l0.length : Int) : Int).toNat) := ⟨_, rfl⟩
       replace H : (some y146) = some r := by first | (rw [hy149]; with_reducible exact H) | (have H2_ := (Option.bind_some _ _).symm.trans H; rw [hy149]; with_reducible exact H2_) | (have H2_ := (Option.bind_some _ _).symm.trans H; with_reducible exact H2_) | with_reducible exact H | (rw [hy149]; exact H) | exact H
       have Ny149 := Aside0.mk hy149
       clear hy149
       obtain rfl := Option.some.inj H
       go_wp2_with (first | ((with_reducible refine gate_builtin (b := .append) (xs := #[.tmp 24, .tmp 26]) rfl ?_); at_builtin; refine Kd.S_append k73q (w0 := w) w.heap.size rfl (.tmp 24) (.tmp 26) 32 73 (.agg #[(.int .i64 0), (.string ⟨#[]⟩), (.slice none 0 0)]) 48 rfl Tryd.underlying32 info73 rfl (by decide) (by omega) u3 x3_1 (⟨0, (⟨#[115, 112, 97, 114, 101]⟩ : ByteArray), (none : Option (List ByteArray))⟩ : Q73) [.int .i64 0, .string (⟨#[115, 112, 97, 114, 101]⟩ : ByteArray), .slice none 0 0] (fun _ => True) (fun _ => False) rfl rfl ?aP (fun k_ hk_ => hk_.elim) ?aF ?aO ?aB ?aS ?aL ?_; (case aP => exact k73q_mkM _ _ _ (⟨0, (⟨#[115, 112, 97, 114, 101]⟩ : ByteArray), (none : Option (List ByteArray))⟩ : Q73) (room_nil _ _ _)); (case aB => exact (by repeat (first | (with_reducible first | exact HB.out | apply below_alloc | apply pw_below_drewN | apply below_drew1) | exact HB.out))); (case aF => exact (fun _ _ => trivial)); (case aO => exact (by (with_reducible repeat (first | apply Kd.S_alloc | apply Kd.S_drewN | apply Kd.S_drew)); exact Kd.S_mono HO_3.out (fun k_ hk => ⟨trivial, fun e_ => e_⟩))); (case aS => exact (below_size (by repeat (first | (with_reducible first | exact HB.out | apply below_alloc | apply pw_below_drewN | apply below_drew1) | exact HB.out)))); (case aL => have := LMc14.out; omega); intro v147 w17 ho hb hg hat; rw [← Ny146.out] at ho; have n0_ := Aside0.mk (hb); have n1_ := Aside0.mk (ho); clear HB; clear HO_3; have HB := n0_; have HO148 := n1_; clear n0_ n1_; clear ho hb hg hat; obtain ⟨Ao18, co18, eo18⟩ := Kd.S_slice HO148.out; subst eo18; have q19 : ((l0.length : Int) : Int) ≤ ((y146.length : Int) : Int) := of_decide_eq_true (by first | (with_reducible assumption) | assumption); obtain ⟨i019, hi019, _, hsz19, _⟩ := info_parts info73; have hcut19 := cut_to (P := Tryd.prog) 32 73 .i64 Tryd.underlying32 hi019 Ao18 y146.length co18 (l0.length : Int) (of_decide_eq_true (by first | (with_reducible assumption) | assumption)) q19 (Kd.S_reads' HO148.out).2.1; have hr19 := Kd.S_take (m := ((l0.length : Int) : Int).toNat) HO148.out (by omega); have hy19 : y149.length = ((l0.length : Int) : Int).toNat := (by rw [Ny149.out, List.length_take]; omega); rw [← Ny149.out] at hr19; rw [← hy19] at hr19 hcut19; clear hy19 hi019 hsz19; have HO151 := Aside0.mk hr19; clear hr19; replace q19 := eq_true q19))
       go_ret
       refine ⟨Ao18, co18, ?_, by (with_reducible repeat (first | apply Kd.S_alloc | apply Kd.S_drewN | apply Kd.S_drew)); exact Kd.S_mono HO148.out (fun _ hk => trivial), by repeat (first | (with_reducible first | exact HB.out | apply below_alloc | apply pw_below_drewN | apply below_drew1) | exact HB.out)⟩
       have e26 := Ny149.out
       rw [Int.toNat_natCast] at e26
       have e27 := congrArg List.length e26
       rw [List.length_take] at e27
       simp [e27]
      ·rw [if_neg c16] at H
       exact absurd H (by simp)
     ·rw [if_neg c15] at H
      exact absurd H (by simp)
    ·rw [if_neg c14] at H
     exact absurd H (by simp)

/-! ### mk_nodes: function 12 -/
def mk_nodes.l0 : Nat → List (S71) → List (Q71) → Int → Option ((List (Q71)))
 | 0, _, _, _ => none
 | k + 1, x0, x3, x4 => if x4 < (x0.length : Int) then (if 0 ≤ x4 then ((mk_texts.f ((rd_T71 x0 x4).f4.f1)).bind fun t126 => (if x3.length < 1099511627776 then (mk_nodes.l0 k x0 (x3 ++ [(⟨(rd_T71 x0 x4).f0, (rd_T71 x0 x4).f1, (rd_T71 x0 x4).f2, (rd_T71 x0 x4).f3, (⟨(rd_T71 x0 x4).f4.f0, some t126, (rd_T71 x0 x4).f4.f2⟩ : Q68), (rd_T71 x0 x4).f5, (rd_T71 x0 x4).f6⟩ : Q71)]) (wrap64 (x4 + 1))) else (none))) else (none)) else (if x3.length < 1099511627776 then ((some (x3 ++ [(⟨0, 0, (⟨#[115, 112, 97, 114, 101]⟩ : ByteArray), (⟨#[]⟩ : ByteArray), (⟨(⟨#[]⟩ : ByteArray), (none : Option (List ByteArray)), (⟨#[]⟩ : ByteArray)⟩ : Q68), (⟨#[]⟩ : ByteArray), false⟩ : Q71)] : List (Q71))).bind fun y132 => (if 0 ≤ (x0.length : Int) then (if (x0.length : Int) ≤ (y132.length : Int) then (some y132) else (none)) else (none))) else (none))
def mk_nodes.f (k : Nat) (l0 : List (S71)) : Option ((List (Q71))) := mk_nodes.l0 k l0 ([] : List (Q71)) 0
theorem mk_nodes.mono_l : ∀ k, (∀ y0 y1 y2, LeO (mk_nodes.l0 k y0 y1 y2) (mk_nodes.l0 (k + 1) y0 y1 y2))
 | 0 => fun _ _ _ r h => by simp [mk_nodes.l0] at h
 | k + 1 => by
  have ih0 := mk_nodes.mono_l k
  ·intro y0 y1 y2
   unfold mk_nodes.l0
   repeat' first
   | (with_reducible exact ih0 _ _ _)
   | (with_reducible exact LeO.refl _)
   | (with_reducible exact LeO.none _)
   | (with_reducible refine LeO.ite ?_ ?_)
   | (with_reducible refine LeO.bind ?_ (fun _ => ?_))
   | exact ih0 _ _ _
   | exact LeO.none _
   | refine LeO.ite ?_ ?_
   | refine LeO.bind ?_ (fun _ => ?_)
theorem mk_nodes.mono : ∀ a0 k, LeO (mk_nodes.f k a0) (mk_nodes.f (k + 1) a0) := by
 intro a0 k
 have ih0 := mk_nodes.mono_l k
 unfold mk_nodes.f
 repeat' first
   | (with_reducible exact ih0 _ _ _)
   | (with_reducible exact LeO.refl _)
   | (with_reducible exact LeO.none _)
   | (with_reducible refine LeO.ite ?_ ?_)
   | (with_reducible refine LeO.bind ?_ (fun _ => ?_))
   | exact ih0 _ _ _
   | exact LeO.none _
   | refine LeO.ite ?_ ?_
   | refine LeO.bind ?_ (fun _ => ?_)
set_option maxHeartbeats 8000000 in
set_option maxRecDepth 100000 in
theorem mk_nodes.calls (k : Nat) (A0 : Option Addr) (c0 : Nat) (l0 : List (S71)) (r : List (Q71)) (w : World) (hr0 : Kd.C k71 w A0 l0.length l0) (hc0 : l0.length ≤ c0) (h : mk_nodes.f k l0 = some r) :
  Calls Tryd.prog 12 #[.slice A0 l0.length c0] w fun e w' => ∃ A c, e = .returned (.slice A (r.take l0.length).length c) ∧ Kd.S k71q 71 w' w.heap.size (fun _ => True) (.slice A r.length c) r ∧ Below w.heap.size w w' := by
 have hu71 := Tryd.underlying71
 have HR0 := Aside0.mk hr0
 have HC0 := Aside0.mk hc0
 clear hr0 hc0
 have HB := Aside0.mk (Below.refl w.heap.size w)
 have H : (mk_nodes.l0 k l0 ([] : List (Q71)) 0) = some r := h
 clear h
 have H' := Aside0.mk H
 clear H
 go_enter Tryd.func12, Tryd.ntmps12
 go_wp2
 go_loopg [3, 4] k (fun kq v3 v4 w' => ∃ (x3_1 : List (Q71)) (x4_1 : Int), v4 = .int .i64 x4_1 ∧ Aside0 (mk_nodes.l0 kq l0 x3_1 x4_1 = some r) ∧ Aside0 (kq ≤ k) ∧ Aside0 (Kd.S k71q 71 w' w.heap.size (fun _ => True) v3 x3_1) ∧ Aside0 (Below w.heap.size w w'))
 case atStart => exact ⟨(([] : List (Q71))), (0), (by first | rfl | (simp; done) | (simp [*]; done) | (simp [isEmpty_ne_]; done)), H', ⟨Nat.le_refl _⟩, ⟨by first | exact Kd.S_nil _ _ _ _ _ | exact Kd.N_nil _ _ _ _ _ | exact Kd.V_nil _ _ _ _ _ | exact Kd.Q_nil _ _ _ _ _ | exact Kd.R_nil _ _ _ _ _⟩, ⟨by repeat (first | (with_reducible first | exact HB.out | apply below_alloc | apply pw_below_drewN | apply below_drew1) | exact HB.out)⟩⟩
 case round =>
  clear H'
  try clear c1
  obtain ⟨x3_1, x4_1, rfl, HA, HK1, HO_3, HB⟩ := hrel
  cases gk with
  | zero => exact absurd HA.out (by simp [mk_nodes.l0])
  | succ k1 =>
   have H := HA.out
   clear HA
   simp only [mk_nodes.l0] at H
   by_cases c2 : x4_1 < (l0.length : Int)
   ·rw [if_pos c2] at H
    have c2b0 : decide (x4_1 < (l0.length : Int)) = true := decide_eq_true c2
    clear c2
    by_cases c3 : 0 ≤ x4_1
    ·rw [if_pos c3] at H
     have c3b0 : decide (0 ≤ x4_1) = true := decide_eq_true c3
     clear c3
     replace H := Option.bind_eq_some_iff.mp H
     obtain ⟨t126, A40, H⟩ := H
     replace H : (if x3_1.length < 1099511627776 then (mk_nodes.l0 k1 l0 (x3_1 ++ [(⟨(rd_T71 l0 x4_1).f0, (rd_T71 l0 x4_1).f1, (rd_T71 l0 x4_1).f2, (rd_T71 l0 x4_1).f3, (⟨(rd_T71 l0 x4_1).f4.f0, some t126, (rd_T71 l0 x4_1).f4.f2⟩ : Q68), (rd_T71 l0 x4_1).f5, (rd_T71 l0 x4_1).f6⟩ : Q71)]) (wrap64 (x4_1 + 1))) else (none)) = some r := H
     have A4 := Aside0.mk A40
     clear A40
     by_cases c5 : x3_1.length < 1099511627776
     ·rw [if_pos c5] at H
      have LMc5 := Aside0.mk c5
      clear c5
      obtain ⟨y129, hy129⟩ : ∃ y_ : List (Q71), y_ = (x3_1 ++ [(⟨(rd_T71 l0 x4_1).f0, (rd_T71 l0 x4_1).f1, (rd_T71 l0 x4_1).f2, (rd_T71 l0 x4_1).f3, (⟨(rd_T71 l0 x4_1).f4.f0, some t126, (rd_T71 l0 x4_1).f4.f2⟩ : Q68), (rd_T71 l0 x4_1).f5, (rd_T71 l0 x4_1).f6⟩ : Q71)]) := ⟨_, rfl⟩
      replace H : (mk_nodes.l0 k1 l0 y129 (wrap64 (x4_1 + 1))) = some r := by first | (rw [hy129]; with_reducible exact H) | (have H2_ := (Option.bind_some _ _).symm.trans H; rw [hy129]; with_reducible exact H2_) | (have H2_ := (Option.bind_some _ _).symm.trans H; with_reducible exact H2_) | with_reducible exact H | (rw [hy129]; exact H) | exact H
      have Ny129 := Aside0.mk hy129
      clear hy129
      have H' := Aside0.mk H
      clear H
      have p124 : 0 ≤ (x4_1 : Int) := of_decide_eq_true (by first | (with_reducible assumption) | assumption)
      have q124 : x4_1 < (l0.length : Int) := of_decide_eq_true (by first | (with_reducible assumption) | assumption)
      obtain ⟨ad124, A124_5, c124_5, e124, hx124_0, hx124_1, hx124_2, hx124_3, hx124_4, hx124_5, hx124_6, hx124_7, hx124_8, hl124_5, hi124_5⟩ := at_T71 HR0.out x4_1 p124 q124
      cases e124
      replace hx124_0 := cellB_ HB.out hx124_0
      replace hx124_1 := cellB_ HB.out hx124_1
      replace hx124_2 := cellB_ HB.out hx124_2
      replace hx124_3 := cellB_ HB.out hx124_3
      replace hx124_4 := cellB_ HB.out hx124_4
      replace hx124_5 := cellB_ HB.out hx124_5
      replace hx124_6 := cellB_ HB.out hx124_6
      replace hx124_7 := cellB_ HB.out hx124_7
      replace hx124_8 := cellB_ HB.out hx124_8
      have HR124_5 := Aside0.mk hi124_5
      have HC124_5 := Aside0.mk hl124_5
      clear hi124_5 hl124_5
      replace p124 := eq_true p124
      replace q124 := eq_true q124
      go_wp2_with (first | ((with_reducible refine gate_dst (N := 5) rfl ?_); refine box_event ?hg (N := 5) ?hd (cs := #[.int .i64 0, .int .i64 0, .string (⟨#[]⟩ : ByteArray), .string (⟨#[]⟩ : ByteArray), .string (⟨#[]⟩ : ByteArray), .slice none 0 0, .string (⟨#[]⟩ : ByteArray), .string (⟨#[]⟩ : ByteArray), .bool false]) (t := 71) ?hr ?_; (case hd => rfl); (case hg => rfl); (case hr => first | (go_simp; done) | (go_simp; rfl)); intro gb125 hg w6 hbox hb; have n0_ := Aside0.mk (Kd.S_below (Kd.S_elderB (by (with_reducible repeat (first | apply Kd.S_alloc | apply Kd.S_drewN | apply Kd.S_drew)); exact HO_3.out) gb125 (Nat.le_of_eq hg.symm)) hb); have n1_ := Aside0.mk (below_step (by repeat (first | (with_reducible first | exact HB.out | apply below_alloc | apply pw_below_drewN | apply below_drew1) | exact HB.out)) hb); have n2_ := Aside0.mk (hbox); have n3_ := Aside0.mk ((by rw [hg]; exact (below_size (by repeat (first | (with_reducible first | exact HB.out | apply below_alloc | apply pw_below_drewN | apply below_drew1) | exact HB.out))) : w.heap.size ≤ gb125)); have n4_ := Aside0.mk ((by rw [hg]; exact (below_size (by repeat (first | (with_reducible first | exact HB.out | apply below_alloc | apply pw_below_drewN | apply below_drew1) | exact HB.out))) : w.heap.size ≤ gb125)); clear HO_3; clear HB; have HO_3 := n0_; have HB := n1_; have BK125 := n2_; have GW125 := n3_; have GE125 := n4_; clear n0_ n1_ n2_ n3_ n4_; clear hb hbox hg; obtain ⟨hcz7_0, hcz7_1, hcz7_2, hcz7_3, hcz7_4, hcz7_5, hcz7_6, hcz7_7, hcz7_8⟩ := cells9_ BK125.out; obtain ⟨hfz7_0, hfz7_1, hfz7_2, hfz7_3, hfz7_4, hfz7_5, hfz7_6, hfz7_7, hfz7_8⟩ := frz9_ BK125.out) | ((with_reducible refine gate_callee (f := 13) rfl ?_); refine goesL_ (some 19) rfl rfl Tryd.func13 (by kernel_rfl) rfl #[.slice A124_5 ((rd_T71 l0 x4_1).f4.f1).length c124_5] rfl (by (try simp only [List.map_toArray, List.map_cons, List.map_nil]); first | done | rfl | (simp only [List.length_drop, List.length_take]; rfl) | exact congrArg (fun n_ : Nat => #[Value.slice _ n_ _]) (Eq.trans (Aside0.out (by assumption)) (Eq.symm (Aside0.out (by assumption)))) | exact congrArg (fun n_ : Nat => #[Value.slice _ n_ _, Value.slice _ _ _]) (Eq.trans (Aside0.out (by assumption)) (Eq.symm (Aside0.out (by assumption))))) ?_; (with_reducible refine (mk_texts.calls _ _ ((rd_T71 l0 x4_1).f4.f1) t126 _ ?side1 ?side2 A4.out).mono ?_); (case side1 => exact Kd.C_below HR124_5.out (by repeat (first | (with_reducible first | exact HB.out | apply below_alloc | apply pw_below_drewN | apply below_drew1 | refine below_set ?_ GE125.out) | exact HB.out))); (case side2 => first | exact HC124_5.out | exact Aside0.out (by assumption)); rintro e w8 ⟨Ao9, co9, rfl, ho0, he9, hb⟩; clear he9; refine ⟨_, rfl, ?_⟩; have n0_ := Aside0.mk (Kd.S_elder' (by (with_reducible repeat (first | apply Kd.S_alloc | apply Kd.S_drewN | apply Kd.S_drew)); exact (Kd.S_mono (Kd.S_far (p := ⟨gb125, 8, none⟩) (Kd.S_far (p := ⟨gb125, 7, none⟩) (Kd.S_far (p := ⟨gb125, 6, none⟩) (Kd.S_far (p := ⟨gb125, 5, none⟩) (Kd.S_far (p := ⟨gb125, 4, none⟩) (Kd.S_far (p := ⟨gb125, 3, none⟩) (Kd.S_far (p := ⟨gb125, 2, none⟩) (Kd.S_far (p := ⟨gb125, 1, none⟩) (Kd.S_far (p := ⟨gb125, 0, none⟩) (Kd.S_mono HO_3.out (fun k_ hk => (⟨hk, hk.2⟩ : _ ∧ k_ ≠ gb125))) (fun _ hk => hk.2) (.int .i64 ((rd_T71 l0 x4_1).f0))) (fun _ hk => hk.2) (.int .i64 ((rd_T71 l0 x4_1).f1))) (fun _ hk => hk.2) (.string ((rd_T71 l0 x4_1).f2))) (fun _ hk => hk.2) (.string ((rd_T71 l0 x4_1).f3))) (fun _ hk => hk.2) (.string ((rd_T71 l0 x4_1).f4.f0))) (fun _ hk => hk.2) (.slice A124_5 ((rd_T71 l0 x4_1).f4.f1).length c124_5)) (fun _ hk => hk.2) (.string ((rd_T71 l0 x4_1).f4.f2))) (fun _ hk => hk.2) (.string ((rd_T71 l0 x4_1).f5))) (fun _ hk => hk.2) (.bool ((rd_T71 l0 x4_1).f6))) (fun _ h_ => h_.1))) (Kd.R_base ho0) hb); have n1_ := Aside0.mk (Kd.R_lower ho0 (below_size (by repeat (first | (with_reducible first | exact HB.out | apply below_alloc | apply pw_below_drewN | apply below_drew1 | refine below_set ?_ GE125.out) | exact HB.out)))); have n2_ := Aside0.mk (blk_below (g := gb125) (o := .cells #[.int .i64 ((rd_T71 l0 x4_1).f0), .int .i64 ((rd_T71 l0 x4_1).f1), .string ((rd_T71 l0 x4_1).f2), .string ((rd_T71 l0 x4_1).f3), .string ((rd_T71 l0 x4_1).f4.f0), .slice A124_5 ((rd_T71 l0 x4_1).f4.f1).length c124_5, .string ((rd_T71 l0 x4_1).f4.f2), .string ((rd_T71 l0 x4_1).f5), .bool ((rd_T71 l0 x4_1).f6)] 71 (0, 0)) (by (with_reducible repeat (first | refine blk_drewN ?_ _ | refine blk_drew ?_ | refine blk_alloc ?_ _)); exact put9_ (by (with_reducible repeat (first | refine blk_drewN ?_ _ | refine blk_drew ?_ | refine blk_alloc ?_ _)); exact BK125.out)) hb); have n3_ := Aside0.mk (below_step (by repeat (first | (with_reducible first | exact HB.out | apply below_alloc | apply pw_below_drewN | apply below_drew1 | refine below_set ?_ GE125.out) | exact HB.out)) hb); clear HO_3; clear BK125; clear HB; have HO_3 := n0_; have HO128 := n1_; have BK125 := n2_; have HB := n3_; clear n0_ n1_ n2_ n3_; (try clear hb); (try clear hb2); (try clear hk); (try clear hi); (try clear ho0); obtain ⟨hcz10_0, hcz10_1, hcz10_2, hcz10_3, hcz10_4, hcz10_5, hcz10_6, hcz10_7, hcz10_8⟩ := cells9_ BK125.out; obtain ⟨hfz10_0, hfz10_1, hfz10_2, hfz10_3, hfz10_4, hfz10_5, hfz10_6, hfz10_7, hfz10_8⟩ := frz9_ BK125.out) | ((with_reducible refine gate_store (t := 29) (p := 21) rfl ?_); refine store_event (t := 29) (p := 21) (v := ?vo_w11) (w1 := (w8.setCell ⟨gb125, 5, none⟩ (.slice Ao9 t126.length co9))) ?hg ?ho ?hn ?hr ?_; (case ho => rfl); (case hg => rfl); (case hn => rfl); (case hr => first | (go_simp; done) | (go_simp; rfl)); intro w11 hw; have n0_ : Aside0 (Kd.S k71q 71 w11 w.heap.size (fun k_ => some k_ ≠ (.slice Ao9 (t126.length + 1) co9 : Value).ownBlock ∧ k_ ≠ gb125) u3 x3_1) := ⟨(by rw [hw]; exact (by (with_reducible repeat (first | apply Kd.S_alloc | apply Kd.S_drewN | apply Kd.S_drew)); exact Kd.S_mono (Kd.S_far (p := ⟨gb125, 5, none⟩) (Kd.S_mono HO_3.out (fun k_ hk => (⟨hk, hk.1.2⟩ : _ ∧ k_ ≠ gb125))) (fun _ hk => hk.2) (.slice Ao9 t126.length co9)) (fun _ hk => ⟨hk.1.2, hk.1.1.2⟩)))⟩; have n1_ : Aside0 (Kd.R Kd.string 9 w11 w.heap.size (fun _ => True) (.slice Ao9 (t126.length + 1) co9) (t126 ++ [(⟨#[115, 112, 97, 114, 101]⟩ : ByteArray)])) := ⟨(by rw [hw]; exact (by (with_reducible repeat (first | apply Kd.R_alloc | apply Kd.R_drewN | apply Kd.R_drew)); exact Kd.R_mono (Kd.R_far (p := ⟨gb125, 5, none⟩) (Kd.R_types HO128.out BK125.out (by decide)) (fun _ hk => hk.2) (.slice Ao9 t126.length co9)) (fun _ hk => trivial)))⟩; have n2_ : Aside0 (w11.heap[gb125]? = some (.cells #[.int .i64 ((rd_T71 l0 x4_1).f0), .int .i64 ((rd_T71 l0 x4_1).f1), .string ((rd_T71 l0 x4_1).f2), .string ((rd_T71 l0 x4_1).f3), .string ((rd_T71 l0 x4_1).f4.f0), .slice Ao9 t126.length co9, .string ((rd_T71 l0 x4_1).f4.f2), .string ((rd_T71 l0 x4_1).f5), .bool ((rd_T71 l0 x4_1).f6)] 71 (0, 0))) := ⟨(by rw [hw]; exact (by (with_reducible repeat (first | refine blk_drewN ?_ _ | refine blk_drew ?_ | refine blk_alloc ?_ _)); refine blk_put (cs := #[.int .i64 ((rd_T71 l0 x4_1).f0), .int .i64 ((rd_T71 l0 x4_1).f1), .string ((rd_T71 l0 x4_1).f2), .string ((rd_T71 l0 x4_1).f3), .string ((rd_T71 l0 x4_1).f4.f0), .slice A124_5 ((rd_T71 l0 x4_1).f4.f1).length c124_5, .string ((rd_T71 l0 x4_1).f4.f2), .string ((rd_T71 l0 x4_1).f5), .bool ((rd_T71 l0 x4_1).f6)]) ?_ 5 _ rfl; (with_reducible repeat (first | refine blk_drewN ?_ _ | refine blk_drew ?_ | refine blk_alloc ?_ _)); exact BK125.out))⟩; have n3_ : Aside0 (Below w.heap.size w w11) := ⟨(by rw [hw]; exact (by repeat (first | (with_reducible first | exact HB.out | apply below_alloc | apply pw_below_drewN | apply below_drew1 | refine below_set ?_ GE125.out) | exact HB.out)))⟩; clear hw; clear HO_3; clear HO128; clear BK125; clear HB; have HO_3 := n0_; have HO128 := n1_; have BK125 := n2_; have HB := n3_; clear n0_ n1_ n2_ n3_; obtain ⟨hcz12_0, hcz12_1, hcz12_2, hcz12_3, hcz12_4, hcz12_5, hcz12_6, hcz12_7, hcz12_8⟩ := cells9_ BK125.out; obtain ⟨hfz12_0, hfz12_1, hfz12_2, hfz12_3, hfz12_4, hfz12_5, hfz12_6, hfz12_7, hfz12_8⟩ := frz9_ BK125.out) | ((with_reducible refine gate_builtin (b := .append) (xs := #[.tmp 22, .tmp 24]) rfl ?_); at_builtin; refine Kd.S_append k71q (w0 := w) w.heap.size rfl (.tmp 22) (.tmp 24) 28 71 (.agg #[(.int .i64 0), (.int .i64 0), (.string ⟨#[]⟩), (.string ⟨#[]⟩), (.string ⟨#[]⟩), (.slice none 0 0), (.string ⟨#[]⟩), (.string ⟨#[]⟩), (.bool false)]) 128 rfl Tryd.underlying28 info71 rfl (by decide) (by omega) u3 x3_1 (⟨(rd_T71 l0 x4_1).f0, (rd_T71 l0 x4_1).f1, (rd_T71 l0 x4_1).f2, (rd_T71 l0 x4_1).f3, (⟨(rd_T71 l0 x4_1).f4.f0, some t126, (rd_T71 l0 x4_1).f4.f2⟩ : Q68), (rd_T71 l0 x4_1).f5, (rd_T71 l0 x4_1).f6⟩ : Q71) [.int .i64 ((rd_T71 l0 x4_1).f0), .int .i64 ((rd_T71 l0 x4_1).f1), .string ((rd_T71 l0 x4_1).f2), .string ((rd_T71 l0 x4_1).f3), .string ((rd_T71 l0 x4_1).f4.f0), .slice Ao9 t126.length co9, .string ((rd_T71 l0 x4_1).f4.f2), .string ((rd_T71 l0 x4_1).f5), .bool ((rd_T71 l0 x4_1).f6)] (fun k_ => k_ ≠ gb125) (fun k_ => some k_ = (.slice Ao9 (t126.length + 1) co9 : Value).ownBlock) rfl rfl ?aP (fun k_ hk_ => ((Kd.R_mono (ok' := fun k_ => ((fun k_ => k_ ≠ gb125)) k_ ∧ some k_ ≠ (u3 : Value).ownBlock) (Kd.R_types (Kd.R_apart' (HO128.out) (Kd.S_typed HO_3.out) (by decide)) BK125.out (by decide)) (fun k_ hk => ⟨hk.2, hk.1.2⟩))).1 k_ hk_.symm) ?aF ?aO ?aB ?aS ?aL ?_; (case aP => exact k71q_mkM _ _ _ (⟨(rd_T71 l0 x4_1).f0, (rd_T71 l0 x4_1).f1, (rd_T71 l0 x4_1).f2, (rd_T71 l0 x4_1).f3, (⟨(rd_T71 l0 x4_1).f4.f0, some t126, (rd_T71 l0 x4_1).f4.f2⟩ : Q68), (rd_T71 l0 x4_1).f5, (rd_T71 l0 x4_1).f6⟩ : Q71) (room_mk (Kd.R_mono (Kd.R_tight rfl (Kd.R_mono (ok' := fun k_ => ((fun k_ => k_ ≠ gb125)) k_ ∧ some k_ ≠ (u3 : Value).ownBlock) (Kd.R_types (Kd.R_apart' (HO128.out) (Kd.S_typed HO_3.out) (by decide)) BK125.out (by decide)) (fun k_ hk => ⟨hk.2, hk.1.2⟩))) (fun _ h_ => h_)))); (case aB => exact (by repeat (first | (with_reducible first | exact HB.out | apply below_alloc | apply pw_below_drewN | apply below_drew1 | refine below_set ?_ GE125.out) | exact HB.out))); (case aF => exact (fun k_ hk => Kd.freshB (g := gb125) (o := .cells #[.int .i64 ((rd_T71 l0 x4_1).f0), .int .i64 ((rd_T71 l0 x4_1).f1), .string ((rd_T71 l0 x4_1).f2), .string ((rd_T71 l0 x4_1).f3), .string ((rd_T71 l0 x4_1).f4.f0), .slice Ao9 t126.length co9, .string ((rd_T71 l0 x4_1).f4.f2), .string ((rd_T71 l0 x4_1).f5), .bool ((rd_T71 l0 x4_1).f6)] 71 (0, 0)) (by (with_reducible repeat (first | refine blk_drewN ?_ _ | refine blk_drew ?_ | refine blk_alloc ?_ _)); exact BK125.out) k_ hk)); (case aO => exact (by (with_reducible repeat (first | apply Kd.S_alloc | apply Kd.S_drewN | apply Kd.S_drew)); exact Kd.S_mono HO_3.out (fun k_ hk => ⟨hk.2, fun e_ => hk.1 e_⟩))); (case aS => exact (below_size (by repeat (first | (with_reducible first | exact HB.out | apply below_alloc | apply pw_below_drewN | apply below_drew1 | refine below_set ?_ GE125.out) | exact HB.out)))); (case aL => have := LMc5.out; omega); intro v130 w13 ho hb hg hat; rw [← Ny129.out] at ho; have n0_ := Aside0.mk (blk_grown (g := gb125) (o := .cells #[.int .i64 ((rd_T71 l0 x4_1).f0), .int .i64 ((rd_T71 l0 x4_1).f1), .string ((rd_T71 l0 x4_1).f2), .string ((rd_T71 l0 x4_1).f3), .string ((rd_T71 l0 x4_1).f4.f0), .slice Ao9 t126.length co9, .string ((rd_T71 l0 x4_1).f4.f2), .string ((rd_T71 l0 x4_1).f5), .bool ((rd_T71 l0 x4_1).f6)] 71 (0, 0)) (by (with_reducible repeat (first | refine blk_drewN ?_ _ | refine blk_drew ?_ | refine blk_alloc ?_ _)); exact BK125.out) hg (Kd.S_away HO_3.out (fun _ hk => hk.2))); have n1_ := Aside0.mk (hb); have n2_ := Aside0.mk (ho); clear BK125; clear HB; clear HO_3; clear HO128; have BK125 := n0_; have HB := n1_; have HO131 := n2_; clear n0_ n1_ n2_; clear ho hb hg hat))
      go_roundg k1
      case measure => have := HK1.out; omega
      case rel => exact ⟨(y129), (wrap64 (x4_1 + 1)), (by first | rfl | (simp; done) | (simp [*]; done) | (simp [isEmpty_ne_]; done)), H', ⟨by have := HK1.out; omega⟩, ⟨by (with_reducible repeat (first | apply Kd.S_alloc | apply Kd.S_drewN | apply Kd.S_drew)); exact Kd.S_mono HO131.out (fun _ hk => trivial)⟩, ⟨by repeat (first | (with_reducible first | exact HB.out | apply below_alloc | apply pw_below_drewN | apply below_drew1 | refine below_set ?_ GE125.out) | exact HB.out)⟩⟩
     ·rw [if_neg c5] at H
      exact absurd H (by simp)
    ·rw [if_neg c3] at H
     exact absurd H (by simp)
   ·rw [if_neg c2] at H
    have c2b0 : decide (x4_1 < (l0.length : Int)) = false := decide_eq_false c2
    clear c2
    by_cases c14 : x3_1.length < 1099511627776
    ·rw [if_pos c14] at H
     have LMc14 := Aside0.mk c14
     clear c14
     obtain ⟨y132, hy132⟩ : ∃ y_ : List (Q71), y_ = (x3_1 ++ [(⟨0, 0, (⟨#[115, 112, 97, 114, 101]⟩ : ByteArray), (⟨#[]⟩ : ByteArray), (⟨(⟨#[]⟩ : ByteArray), (none : Option (List ByteArray)), (⟨#[]⟩ : ByteArray)⟩ : Q68), (⟨#[]⟩ : ByteArray), false⟩ : Q71)]) := ⟨_, rfl⟩
     replace H : (if 0 ≤ (l0.length : Int) then (if (l0.length : Int) ≤ (y132.length : Int) then (some y132) else (none)) else (none)) = some r := by first | (rw [hy132]; with_reducible exact H) | (have H2_ := (Option.bind_some _ _).symm.trans H; rw [hy132]; with_reducible exact H2_) | (have H2_ := (Option.bind_some _ _).symm.trans H; with_reducible exact H2_) | with_reducible exact H | (rw [hy132]; exact H) | exact H
     have Ny132 := Aside0.mk hy132
     clear hy132
     by_cases c15 : 0 ≤ (l0.length : Int)
     ·rw [if_pos c15] at H
      have c15b0 := eq_true c15
      have c15b1 : decide (0 ≤ (l0.length : Int)) = true := decide_eq_true c15
      clear c15
      by_cases c16 : (l0.length : Int) ≤ (y132.length : Int)
      ·rw [if_pos c16] at H
       have c16b0 := eq_true c16
       have c16b1 : decide ((l0.length : Int) ≤ (y132.length : Int)) = true := decide_eq_true c16
       clear c16
       obtain ⟨y135, hy135⟩ : ∃ y_ : List (Q71), y_ = (y132.take ((l0.length : Int) : Int).toNat) := ⟨_, rfl⟩
       replace H : (some y132) = some r := by first | (rw [hy135]; with_reducible exact H) | (have H2_ := (Option.bind_some _ _).symm.trans H; rw [hy135]; with_reducible exact H2_) | (have H2_ := (Option.bind_some _ _).symm.trans H; with_reducible exact H2_) | with_reducible exact H | (rw [hy135]; exact H) | exact H
       have Ny135 := Aside0.mk hy135
       clear hy135
       obtain rfl := Option.some.inj H
       go_wp2_with (first | ((with_reducible refine gate_builtin (b := .append) (xs := #[.tmp 26, .tmp 28]) rfl ?_); at_builtin; refine Kd.S_append k71q (w0 := w) w.heap.size rfl (.tmp 26) (.tmp 28) 28 71 (.agg #[(.int .i64 0), (.int .i64 0), (.string ⟨#[]⟩), (.string ⟨#[]⟩), (.string ⟨#[]⟩), (.slice none 0 0), (.string ⟨#[]⟩), (.string ⟨#[]⟩), (.bool false)]) 128 rfl Tryd.underlying28 info71 rfl (by decide) (by omega) u3 x3_1 (⟨0, 0, (⟨#[115, 112, 97, 114, 101]⟩ : ByteArray), (⟨#[]⟩ : ByteArray), (⟨(⟨#[]⟩ : ByteArray), (none : Option (List ByteArray)), (⟨#[]⟩ : ByteArray)⟩ : Q68), (⟨#[]⟩ : ByteArray), false⟩ : Q71) [.int .i64 0, .int .i64 0, .string (⟨#[115, 112, 97, 114, 101]⟩ : ByteArray), .string (⟨#[]⟩ : ByteArray), .string (⟨#[]⟩ : ByteArray), .slice none 0 0, .string (⟨#[]⟩ : ByteArray), .string (⟨#[]⟩ : ByteArray), .bool false] (fun _ => True) (fun _ => False) rfl rfl ?aP (fun k_ hk_ => hk_.elim) ?aF ?aO ?aB ?aS ?aL ?_; (case aP => exact k71q_mkM _ _ _ (⟨0, 0, (⟨#[115, 112, 97, 114, 101]⟩ : ByteArray), (⟨#[]⟩ : ByteArray), (⟨(⟨#[]⟩ : ByteArray), (none : Option (List ByteArray)), (⟨#[]⟩ : ByteArray)⟩ : Q68), (⟨#[]⟩ : ByteArray), false⟩ : Q71) (room_nil _ _ _)); (case aB => exact (by repeat (first | (with_reducible first | exact HB.out | apply below_alloc | apply pw_below_drewN | apply below_drew1) | exact HB.out))); (case aF => exact (fun _ _ => trivial)); (case aO => exact (by (with_reducible repeat (first | apply Kd.S_alloc | apply Kd.S_drewN | apply Kd.S_drew)); exact Kd.S_mono HO_3.out (fun k_ hk => ⟨trivial, fun e_ => e_⟩))); (case aS => exact (below_size (by repeat (first | (with_reducible first | exact HB.out | apply below_alloc | apply pw_below_drewN | apply below_drew1) | exact HB.out)))); (case aL => have := LMc14.out; omega); intro v133 w17 ho hb hg hat; rw [← Ny132.out] at ho; have n0_ := Aside0.mk (hb); have n1_ := Aside0.mk (ho); clear HB; clear HO_3; have HB := n0_; have HO134 := n1_; clear n0_ n1_; clear ho hb hg hat; obtain ⟨Ao18, co18, eo18⟩ := Kd.S_slice HO134.out; subst eo18; have q19 : ((l0.length : Int) : Int) ≤ ((y132.length : Int) : Int) := of_decide_eq_true (by first | (with_reducible assumption) | assumption); obtain ⟨i019, hi019, _, hsz19, _⟩ := info_parts info71; have hcut19 := cut_to (P := Tryd.prog) 28 71 .i64 Tryd.underlying28 hi019 Ao18 y132.length co18 (l0.length : Int) (of_decide_eq_true (by first | (with_reducible assumption) | assumption)) q19 (Kd.S_reads' HO134.out).2.1; have hr19 := Kd.S_take (m := ((l0.length : Int) : Int).toNat) HO134.out (by omega); have hy19 : y135.length = ((l0.length : Int) : Int).toNat := (by rw [Ny135.out, List.length_take]; omega); rw [← Ny135.out] at hr19; rw [← hy19] at hr19 hcut19; clear hy19 hi019 hsz19; have HO137 := Aside0.mk hr19; clear hr19; replace q19 := eq_true q19))
       go_ret
       refine ⟨Ao18, co18, ?_, by (with_reducible repeat (first | apply Kd.S_alloc | apply Kd.S_drewN | apply Kd.S_drew)); exact Kd.S_mono HO134.out (fun _ hk => trivial), by repeat (first | (with_reducible first | exact HB.out | apply below_alloc | apply pw_below_drewN | apply below_drew1) | exact HB.out)⟩
       have e26 := Ny135.out
       rw [Int.toNat_natCast] at e26
       have e27 := congrArg List.length e26
       rw [List.length_take] at e27
       simp [e27]
      ·rw [if_neg c16] at H
       exact absurd H (by simp)
     ·rw [if_neg c15] at H
      exact absurd H (by simp)
    ·rw [if_neg c14] at H
     exact absurd H (by simp)

end Go.Proofs.YtbpediccbeoifaaDoor.W
