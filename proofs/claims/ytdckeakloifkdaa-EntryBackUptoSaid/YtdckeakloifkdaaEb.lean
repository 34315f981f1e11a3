/- Copies with a mark in their spare room (EntryBack): what roomy and copyAttrs make, the mark told. Written by a program of this session (wip/tools/mk_eb.py) over its own print. -/
import Derived.Test.YtdckeakloifkdaaGMx
import Derived.Lib.Hide
namespace Go.Proofs.Ytdckeakloifkdaa.W
open Go.RowKit Go.Proofs.YtdckeakloifkdaaW.PrintWords Go.Proofs.YtdckeakloifkdaaW.PrintLast Go.Proofs.YtdckeakloifkdaaW.PrintMore
open Go.Proofs.Ytdckeakloifkdaa.GM
attribute [local go_sem] max2_int min2_int max_two min_two max_three min_three max_four min_four
set_option linter.unusedVariables false
set_option linter.unusedSimpArgs false
/-- A list of texts with a mark behind it (none: the nil list). -/
def roomK : Kd (Option (List ByteArray)) where
  sz := 1
  E := [9]
  K := fun w x cs => match x with
    | none => cs = [.slice none 0 0]
    | some l => ∃ A c, cs = [.slice A l.length c] ∧ (l ++ [(⟨#[115, 112, 97, 114, 101, 32, 114, 111, 111, 109]⟩ : ByteArray)]).length ≤ c ∧ Kd.string.C w A (l ++ [(⟨#[115, 112, 97, 114, 101, 32, 114, 111, 111, 109]⟩ : ByteArray)]).length (l ++ [(⟨#[115, 112, 97, 114, 101, 32, 114, 111, 111, 109]⟩ : ByteArray)])
  M := fun w base ok x cs => match x with
    | none => cs = [.slice none 0 0]
    | some l => ∃ A c, cs = [.slice A l.length c] ∧ Kd.string.R 9 w base ok (.slice A (l ++ [(⟨#[115, 112, 97, 114, 101, 32, 114, 111, 111, 109]⟩ : ByteArray)]).length c) (l ++ [(⟨#[115, 112, 97, 114, 101, 32, 114, 111, 111, 109]⟩ : ByteArray)])
  K_len := by
    intro w x cs h
    cases x with
    | none => rw [show cs = _ from h]; rfl
    | some l => obtain ⟨A, c, rfl, _⟩ := h; rfl
  K_one := by
    intro w x cs h u hu
    cases x with
    | none => rw [show cs = _ from h] at hu; rw [List.mem_singleton.1 hu]; rfl
    | some l => obtain ⟨A, c, rfl, _⟩ := h; rw [List.mem_singleton.1 hu]; rfl
  K_below := by
    intro w w1 x cs hb h
    cases x with
    | none => exact h
    | some l => obtain ⟨A, c, rfl, hl, hr⟩ := h; exact ⟨A, c, rfl, hl, Kd.C_below hr hb⟩
  K_of_M := by
    intro w base ok x cs h
    cases x with
    | none => exact h
    | some l =>
      obtain ⟨A, c, rfl, h⟩ := h
      obtain ⟨_, hl, hr⟩ := Kd.R_reads' h
      exact ⟨A, c, rfl, hl, hr⟩
  M_mono := by
    intro w base ok ok' x cs hok h
    cases x with
    | none => exact h
    | some l => obtain ⟨A, c, rfl, h⟩ := h; exact ⟨A, c, rfl, Kd.R_mono h hok⟩
  M_bound := by
    intro w base ok x cs h
    cases x with
    | none => exact h
    | some l => obtain ⟨A, c, rfl, h⟩ := h; exact ⟨A, c, rfl, Kd.R_bound h⟩
  M_move := by
    intro w w1 base ok x cs hm h
    cases x with
    | none => exact h
    | some l => obtain ⟨A, c, rfl, h⟩ := h; exact ⟨A, c, rfl, Kd.R_move h hm⟩
  M_lower := by
    intro w base base' ok x cs hb h
    cases x with
    | none => exact h
    | some l => obtain ⟨A, c, rfl, h⟩ := h; exact ⟨A, c, rfl, Kd.R_lower h hb⟩
theorem room_mk {w : World} {base : Nat} {ok : Nat → Prop} {A : Option Addr} {c : Nat} {l : List ByteArray} (h : Kd.string.R 9 w base ok (.slice A (l.length + 1) c) (l ++ [(⟨#[115, 112, 97, 114, 101, 32, 114, 111, 111, 109]⟩ : ByteArray)])) : roomK.M w base ok (some l) [.slice A l.length c] := ⟨A, c, rfl, by rw [List.length_append, List.length_singleton]; exact h⟩
theorem room_nil (w : World) (base : Nat) (ok : Nat → Prop) : roomK.M w base ok none [.slice none 0 0] := rfl
structure Q37 where
  f0 : ByteArray
  f1 : ByteArray
  f2 : Option (List ByteArray)
def k37q : Kd Q37 := Kd.iso (Kd.pair Kd.string (Kd.pair Kd.string roomK)) (fun x : Q37 => (x.f0, x.f1, x.f2))
theorem k37q_mkM (w : World) (base : Nat) (ok : Nat → Prop) (x : Q37) {v2 : Value} (g2 : roomK.M w base ok x.f2 [v2]) : k37q.M w base ok x [.string x.f0, .string x.f1, v2] := ⟨[.string x.f0], [.string x.f1, v2], rfl, rfl, ⟨[.string x.f1], [v2], rfl, rfl, g2⟩⟩
set_option maxHeartbeats 8000000 in
set_option maxRecDepth 100000 in
theorem roomy_any (A0 : Option Addr) (c0 : Nat) (l0 : List ByteArray) (r : List ByteArray) (w : World) (hr0 : Kd.C Kd.string w A0 l0.length l0) (hc0 : l0.length ≤ c0) (h : GM.rosterlaw08_roomy.f l0 = some r) :
    Calls Try.prog 9 #[.slice A0 l0.length c0] w fun e w' => ∃ A c, e = .returned (.slice A r.length c) ∧ Kd.R Kd.string 9 w' w.heap.size (fun _ => True) (.slice A (r.length + 1) c) (r ++ [(⟨#[115, 112, 97, 114, 101, 32, 114, 111, 111, 109]⟩ : ByteArray)]) ∧ Below w.heap.size w w' := by
  have HR0 := Aside0.mk hr0
  have HC0 := Aside0.mk hc0
  clear hr0 hc0
  have HB := Aside0.mk (Below.refl w.heap.size w)
  have H : ((some (([] : List ByteArray) : List ByteArray)).bind fun y101 => (if y101.length + l0.length < 8796093022208 then ((some (y101 ++ l0 : List ByteArray)).bind fun y104 => (if y104.length < 8796093022208 then ((some (y104 ++ [(⟨#[115, 112, 97, 114, 101, 32, 114, 111, 111, 109]⟩ : ByteArray)] : List ByteArray)).bind fun y107 => (if 0 ≤ (l0.length : Int) then (if (l0.length : Int) ≤ (y107.length : Int) then (some (y107.take ((l0.length : Int) : Int).toNat)) else (none)) else (none))) else (none))) else (none))) = some r := h
  clear h
  obtain ⟨y101, hy101⟩ : ∃ y_ : List ByteArray, y_ = (([] : List ByteArray)) := ⟨_, rfl⟩
  replace H : (if y101.length + l0.length < 8796093022208 then ((some (y101 ++ l0 : List ByteArray)).bind fun y104 => (if y104.length < 8796093022208 then ((some (y104 ++ [(⟨#[115, 112, 97, 114, 101, 32, 114, 111, 111, 109]⟩ : ByteArray)] : List ByteArray)).bind fun y107 => (if 0 ≤ (l0.length : Int) then (if (l0.length : Int) ≤ (y107.length : Int) then (some (y107.take ((l0.length : Int) : Int).toNat)) else (none)) else (none))) else (none))) else (none)) = some r := by first | (rw [hy101]; with_reducible exact H) | (have H2_ := (Option.bind_some _ _).symm.trans H; rw [hy101]; with_reducible exact H2_) | (have H2_ := (Option.bind_some _ _).symm.trans H; with_reducible exact H2_) | with_reducible exact H | (rw [hy101]; exact H) | exact H
  have Ny101 := Aside0.mk hy101
  clear hy101
  by_cases c2 : y101.length + l0.length < 8796093022208
  · rw [if_pos c2] at H
    have LMc2 := Aside0.mk c2
    clear c2
    obtain ⟨y104, hy104⟩ : ∃ y_ : List ByteArray, y_ = (y101 ++ l0) := ⟨_, rfl⟩
    replace H : (if y104.length < 8796093022208 then ((some (y104 ++ [(⟨#[115, 112, 97, 114, 101, 32, 114, 111, 111, 109]⟩ : ByteArray)] : List ByteArray)).bind fun y107 => (if 0 ≤ (l0.length : Int) then (if (l0.length : Int) ≤ (y107.length : Int) then (some (y107.take ((l0.length : Int) : Int).toNat)) else (none)) else (none))) else (none)) = some r := by first | (rw [hy104]; with_reducible exact H) | (have H2_ := (Option.bind_some _ _).symm.trans H; rw [hy104]; with_reducible exact H2_) | (have H2_ := (Option.bind_some _ _).symm.trans H; with_reducible exact H2_) | with_reducible exact H | (rw [hy104]; exact H) | exact H
    have Ny104 := Aside0.mk hy104
    clear hy104
    by_cases c3 : y104.length < 8796093022208
    · rw [if_pos c3] at H
      have LMc3 := Aside0.mk c3
      clear c3
      obtain ⟨y107, hy107⟩ : ∃ y_ : List ByteArray, y_ = (y104 ++ [(⟨#[115, 112, 97, 114, 101, 32, 114, 111, 111, 109]⟩ : ByteArray)]) := ⟨_, rfl⟩
      replace H : (if 0 ≤ (l0.length : Int) then (if (l0.length : Int) ≤ (y107.length : Int) then (some (y107.take ((l0.length : Int) : Int).toNat)) else (none)) else (none)) = some r := by first | (rw [hy107]; with_reducible exact H) | (have H2_ := (Option.bind_some _ _).symm.trans H; rw [hy107]; with_reducible exact H2_) | (have H2_ := (Option.bind_some _ _).symm.trans H; with_reducible exact H2_) | with_reducible exact H | (rw [hy107]; exact H) | exact H
      have Ny107 := Aside0.mk hy107
      clear hy107
      by_cases c4 : 0 ≤ (l0.length : Int)
      · rw [if_pos c4] at H
        have c4b0 := eq_true c4
        have c4b1 : decide (0 ≤ (l0.length : Int)) = true := decide_eq_true c4
        clear c4
        by_cases c5 : (l0.length : Int) ≤ (y107.length : Int)
        · rw [if_pos c5] at H
          have c5b0 := eq_true c5
          have c5b1 : decide ((l0.length : Int) ≤ (y107.length : Int)) = true := decide_eq_true c5
          clear c5
          obtain ⟨y110, hy110⟩ : ∃ y_ : List ByteArray, y_ = (y107.take ((l0.length : Int) : Int).toNat) := ⟨_, rfl⟩
          replace H : (some y110) = some r := by first | (rw [hy110]; with_reducible exact H) | (have H2_ := (Option.bind_some _ _).symm.trans H; rw [hy110]; with_reducible exact H2_) | (have H2_ := (Option.bind_some _ _).symm.trans H; with_reducible exact H2_) | with_reducible exact H | (rw [hy110]; exact H) | exact H
          have Ny110 := Aside0.mk hy110
          clear hy110
          obtain rfl := Option.some.inj H
          go_enter Try.func9, Try.ntmps9
          go_wp2_with (first | ((with_reducible refine gate_dst (N := 4) rfl ?_); refine Kd.R_lit Kd.string _ 9 ?hg (N := 4) ?hd (xs := ([] : List ByteArray)) (inner := []) (ok := fun _ => True) (okp := fun _ => True) ?hr ?hp (fun _ hk => hk) trivial (Below.refl _ _) (Nat.le_refl _) (by simp) ?_; (case hd => rfl); (case hg => rfl); (case hr => first | (go_simp; done) | (go_simp; rfl)); (case hp => exact (Reps.none _ _)); intro v102 w6 ho7 hb hg_ hnew_; clear hg_ hnew_; (first | rw [← Ny101.out] at ho7 | (simp only [Int.reduceToNat] at ho7; rw [← Ny101.out] at ho7)); have n0_ := Aside0.mk (Kd.R_lower ho7 (below_size (by repeat (first | (with_reducible first | exact HB.out | apply below_alloc | apply pw_below_drewN | apply below_drew1) | exact HB.out)))); have n1_ := Aside0.mk (below_step (by repeat (first | (with_reducible first | exact HB.out | apply below_alloc | apply pw_below_drewN | apply below_drew1) | exact HB.out)) hb); clear HB; have HO103 := n0_; have HB := n1_; clear n0_ n1_; clear hb ho7) | ((with_reducible refine gate_builtin (b := .append) (xs := #[.tmp 4, .tmp 5]) rfl ?_); at_builtin; refine Kd.R_append_rows Kd.string (w0 := w) w.heap.size rfl (.tmp 4) (.tmp 5) 22 9 (.string ⟨#[]⟩) 16 rfl Try.underlying22 info9 rfl (by decide) (by omega) v102 y101 l0 _ _ _ (fun _ => True) (fun _ => False) rfl rfl ?aO ?aR (fun _ _ h => h) (fun _ h => h.elim) ?aF ?aB ?aS ?aL ?_; (case aR => repeat (first | exact (Kd.C_below HR0.out HB.out) | (with_reducible refine Kd.C_alloc ?_ _) | (with_reducible refine Kd.C_drewN ?_ _) | (with_reducible refine Kd.C_drew ?_))); (case aB => exact (by repeat (first | (with_reducible first | exact HB.out | apply below_alloc | apply pw_below_drewN | apply below_drew1) | exact HB.out))); (case aF => exact (fun _ _ => trivial)); (case aO => exact (by (with_reducible repeat (first | apply Kd.R_alloc | apply Kd.R_drewN | apply Kd.R_drew)); exact HO103.out)); (case aS => exact (below_size (by repeat (first | (with_reducible first | exact HB.out | apply below_alloc | apply pw_below_drewN | apply below_drew1) | exact HB.out)))); (case aL => have := LMc2.out; omega); intro v105 w8 ho hb hg hat; rw [← Ny104.out] at ho; have n0_ := Aside0.mk (hb); have n1_ := Aside0.mk (ho); clear HB; clear HO103; have HB := n0_; have HO106 := n1_; clear n0_ n1_; clear ho hb hg hat) | ((with_reducible refine gate_builtin (b := .append) (xs := #[.tmp 6, .tmp 7]) rfl ?_); at_builtin; refine Kd.R_append Kd.string (w0 := w) w.heap.size rfl (.tmp 6) (.tmp 7) 22 9 (.string ⟨#[]⟩) 16 rfl Try.underlying22 info9 rfl (by decide) (by omega) v105 y104 (⟨#[115, 112, 97, 114, 101, 32, 114, 111, 111, 109]⟩ : ByteArray) [.string (⟨#[115, 112, 97, 114, 101, 32, 114, 111, 111, 109]⟩ : ByteArray)] (fun _ => True) (fun _ => False) rfl rfl ?aP (fun _ hk => hk.elim) ?aF ?aO ?aB ?aS ?aL ?_; (case aP => exact rfl); (case aB => exact (by repeat (first | (with_reducible first | exact HB.out | apply below_alloc | apply pw_below_drewN | apply below_drew1) | exact HB.out))); (case aF => exact (fun _ _ => trivial)); (case aO => exact (by (with_reducible repeat (first | apply Kd.R_alloc | apply Kd.R_drewN | apply Kd.R_drew)); exact HO106.out)); (case aS => exact (below_size (by repeat (first | (with_reducible first | exact HB.out | apply below_alloc | apply pw_below_drewN | apply below_drew1) | exact HB.out)))); (case aL => have := LMc3.out; omega); intro v108 w9 ho hb hg hat; rw [← Ny107.out] at ho; have n0_ := Aside0.mk (hb); have n1_ := Aside0.mk (ho); clear HB; clear HO106; have HB := n0_; have HO109 := n1_; clear n0_ n1_; clear ho hb hg hat; obtain ⟨Ao10, co10, eo10⟩ := Kd.R_slice HO109.out; subst eo10; have q11 : ((l0.length : Int) : Int) ≤ ((y107.length : Int) : Int) := of_decide_eq_true (by first | (with_reducible assumption) | assumption); obtain ⟨i011, hi011, _, hsz11, _⟩ := info_parts info9; have hcut11 := cut_to (P := Try.prog) 22 9 .i64 Try.underlying22 hi011 Ao10 y107.length co10 (l0.length : Int) (of_decide_eq_true (by first | (with_reducible assumption) | assumption)) q11 (Kd.R_reads' HO109.out).2.1; have hr11 := Kd.R_take (m := ((l0.length : Int) : Int).toNat) HO109.out (by omega); have hy11 : y110.length = ((l0.length : Int) : Int).toNat := (by rw [Ny110.out, List.length_take]; omega); rw [← Ny110.out] at hr11; rw [← hy11] at hr11 hcut11; clear hy11 hi011 hsz11; have HO112 := Aside0.mk hr11; clear hr11; replace q11 := eq_true q11))
          go_ret
          have e7 : y107 = l0 ++ [(⟨#[115, 112, 97, 114, 101, 32, 114, 111, 111, 109]⟩ : ByteArray)] := by rw [Ny107.out, Ny104.out, Ny101.out]; rfl
          have e10 : y110 = l0 := by rw [Ny110.out, e7, Int.toNat_natCast, List.take_left]
          have Z := HO109.out
          rw [e7, List.length_append, List.length_singleton] at Z
          rw [← e10] at Z
          exact ⟨_, _, rfl, by (with_reducible repeat (first | apply Kd.R_alloc | apply Kd.R_drewN | apply Kd.R_drew)); exact Z, by repeat (first | (with_reducible first | exact HB.out | apply below_alloc | apply pw_below_drewN | apply below_drew1) | exact HB.out)⟩
        · rw [if_neg c5] at H
          exact absurd H (by simp)
      · rw [if_neg c4] at H
        exact absurd H (by simp)
    · rw [if_neg c3] at H
      exact absurd H (by simp)
  · rw [if_neg c2] at H
    exact absurd H (by simp)

/-! ### copyQ: function 10 -/
def copyQ.l0 : Nat → List (S37) → List (Q37) → Int → Option ((List (Q37)))
  | 0, _, _, _ => none
  | k + 1, x0, x3, x4 => if x4 < (x0.length : Int) then (if 0 ≤ x4 then ((GM.rosterlaw08_roomy.f ((rd_T37 x0 x4).f2)).bind fun t117 => (if x3.length < 2513169434916 then (copyQ.l0 k x0 (x3 ++ [(⟨(rd_T37 x0 x4).f0, (rd_T37 x0 x4).f1, some t117⟩ : Q37)]) (wrap64 (x4 + 1))) else (none))) else (none)) else (if x3.length < 2513169434916 then ((some (x3 ++ [(⟨(⟨#[115, 112, 97, 114, 101, 32, 114, 111, 111, 109]⟩ : ByteArray), (⟨#[]⟩ : ByteArray), (none : Option (List ByteArray))⟩ : Q37)] : List (Q37))).bind fun y123 => (if 0 ≤ (x0.length : Int) then (if (x0.length : Int) ≤ (y123.length : Int) then (some y123) else (none)) else (none))) else (none))
def copyQ.f (k : Nat) (l0 : List (S37)) : Option ((List (Q37))) := copyQ.l0 k l0 ([] : List (Q37)) 0
theorem copyQ.mono_l : ∀ k, (∀ y0 y1 y2, LeO (copyQ.l0 k y0 y1 y2) (copyQ.l0 (k + 1) y0 y1 y2))
  | 0 => fun _ _ _ r h => by simp [copyQ.l0] at h
  | k + 1 => by
    have ih0 := copyQ.mono_l k
    · intro y0 y1 y2
      unfold copyQ.l0
      repeat' first
      | (with_reducible exact ih0 _ _ _)
      | (with_reducible exact LeO.refl _)
      | (with_reducible exact LeO.none _)
      | (with_reducible refine LeO.ite ?_ ?_)
      | (with_reducible refine LeO.bind ?_ (fun _ => ?_))
      | exact ih0 _ _ _
      | exact LeO.none _
      | refine LeO.ite ?_ ?_
      | refine LeO.bind ?_ (fun _ => ?_)
theorem copyQ.mono : ∀ a0 k, LeO (copyQ.f k a0) (copyQ.f (k + 1) a0) := by
  intro a0 k
  have ih0 := copyQ.mono_l k
  unfold copyQ.f
  repeat' first
      | (with_reducible exact ih0 _ _ _)
      | (with_reducible exact LeO.refl _)
      | (with_reducible exact LeO.none _)
      | (with_reducible refine LeO.ite ?_ ?_)
      | (with_reducible refine LeO.bind ?_ (fun _ => ?_))
      | exact ih0 _ _ _
      | exact LeO.none _
      | refine LeO.ite ?_ ?_
      | refine LeO.bind ?_ (fun _ => ?_)
set_option maxHeartbeats 8000000 in
set_option maxRecDepth 100000 in
theorem copyQ.calls (k : Nat) (A0 : Option Addr) (c0 : Nat) (l0 : List (S37)) (r : List (Q37)) (w : World) (hr0 : Kd.C k37 w A0 l0.length l0) (hc0 : l0.length ≤ c0) (h : copyQ.f k l0 = some r) :
    Calls Try.prog 10 #[.slice A0 l0.length c0] w fun e w' => ∃ A c, e = .returned (.slice A (r.take l0.length).length c) ∧ Kd.S k37q 37 w' w.heap.size (fun _ => True) (.slice A r.length c) r ∧ Below w.heap.size w w' := by
  have hu37 := Try.underlying37
  have HR0 := Aside0.mk hr0
  have HC0 := Aside0.mk hc0
  clear hr0 hc0
  have HB := Aside0.mk (Below.refl w.heap.size w)
  have H : (copyQ.l0 k l0 ([] : List (Q37)) 0) = some r := h
  clear h
  have H' := Aside0.mk H
  clear H
  go_enter Try.func10, Try.ntmps10
  go_wp2
  go_loopg [3, 4] k (fun kq v3 v4 w' => ∃ (x3_1 : List (Q37)) (x4_1 : Int), v4 = .int .i64 x4_1 ∧ Aside0 (copyQ.l0 kq l0 x3_1 x4_1 = some r) ∧ Aside0 (kq ≤ k) ∧ Aside0 (Kd.S k37q 37 w' w.heap.size (fun _ => True) v3 x3_1) ∧ Aside0 (Below w.heap.size w w'))
  case atStart => exact ⟨(([] : List (Q37))), (0), (by first | rfl | (simp; done) | (simp [*]; done) | (simp [show ∀ l_ : List UInt8, l_.isEmpty = !(l_ != []) from fun l_ => by cases l_ <;> rfl]; done)), H', ⟨Nat.le_refl _⟩, ⟨by first | exact Kd.S_nil _ _ _ _ _ | exact Kd.N_nil _ _ _ _ _ | exact Kd.V_nil _ _ _ _ _ | exact Kd.Q_nil _ _ _ _ _ | exact Kd.R_nil _ _ _ _ _⟩, ⟨by repeat (first | (with_reducible first | exact HB.out | apply below_alloc | apply pw_below_drewN | apply below_drew1) | exact HB.out)⟩⟩
  case round =>
    clear H'
    try clear c1
    obtain ⟨x3_1, x4_1, rfl, HA, HK1, HO_3, HB⟩ := hrel
    cases gk with
    | zero => exact absurd HA.out (by simp [copyQ.l0])
    | succ k1 =>
      have H := HA.out
      clear HA
      simp only [copyQ.l0] at H
      by_cases c2 : x4_1 < (l0.length : Int)
      · rw [if_pos c2] at H
        have c2b0 : decide (x4_1 < (l0.length : Int)) = true := decide_eq_true c2
        clear c2
        by_cases c3 : 0 ≤ x4_1
        · rw [if_pos c3] at H
          have c3b0 : decide (0 ≤ x4_1) = true := decide_eq_true c3
          clear c3
          replace H := Option.bind_eq_some_iff.mp H
          obtain ⟨t117, A40, H⟩ := H
          replace H : (if x3_1.length < 2513169434916 then (copyQ.l0 k1 l0 (x3_1 ++ [(⟨(rd_T37 l0 x4_1).f0, (rd_T37 l0 x4_1).f1, some t117⟩ : Q37)]) (wrap64 (x4_1 + 1))) else (none)) = some r := H
          have A4 := Aside0.mk A40
          clear A40
          by_cases c5 : x3_1.length < 2513169434916
          · rw [if_pos c5] at H
            have LMc5 := Aside0.mk c5
            clear c5
            obtain ⟨y120, hy120⟩ : ∃ y_ : List (Q37), y_ = (x3_1 ++ [(⟨(rd_T37 l0 x4_1).f0, (rd_T37 l0 x4_1).f1, some t117⟩ : Q37)]) := ⟨_, rfl⟩
            replace H : (copyQ.l0 k1 l0 y120 (wrap64 (x4_1 + 1))) = some r := by first | (rw [hy120]; with_reducible exact H) | (have H2_ := (Option.bind_some _ _).symm.trans H; rw [hy120]; with_reducible exact H2_) | (have H2_ := (Option.bind_some _ _).symm.trans H; with_reducible exact H2_) | with_reducible exact H | (rw [hy120]; exact H) | exact H
            have Ny120 := Aside0.mk hy120
            clear hy120
            have H' := Aside0.mk H
            clear H
            have p115 : 0 ≤ (x4_1 : Int) := of_decide_eq_true (by first | (with_reducible assumption) | assumption)
            have q115 : x4_1 < (l0.length : Int) := of_decide_eq_true (by first | (with_reducible assumption) | assumption)
            obtain ⟨ad115, A113_2, c113_2, e115, hx113_0, hx113_1, hx113_2, hl113_2, hi113_2⟩ := at_T37 HR0.out x4_1 p115 q115
            cases e115
            replace hx113_0 := (HB.out.cell (World.block_lt_of_cell? w _ hx113_0)).trans hx113_0
            replace hx113_1 := (HB.out.cell (World.block_lt_of_cell? w _ hx113_1)).trans hx113_1
            replace hx113_2 := (HB.out.cell (World.block_lt_of_cell? w _ hx113_2)).trans hx113_2
            have HR113_2 := Aside0.mk hi113_2
            have HC113_2 := Aside0.mk hl113_2
            clear hi113_2 hl113_2
            replace p115 := eq_true p115
            replace q115 := eq_true q115
            go_wp2_with (first | ((with_reducible refine gate_dst (N := 5) rfl ?_); refine box_event ?hg (N := 5) ?hd (cs := #[.string (⟨#[]⟩ : ByteArray), .string (⟨#[]⟩ : ByteArray), .slice none 0 0]) (t := 37) ?hr ?_; (case hd => rfl); (case hg => rfl); (case hr => first | (go_simp; done) | (go_simp; rfl)); intro gb116 hg w6 hbox hb; have n0_ := Aside0.mk (Kd.S_below (Kd.S_elderB (by (with_reducible repeat (first | apply Kd.S_alloc | apply Kd.S_drewN | apply Kd.S_drew)); exact HO_3.out) gb116 (Nat.le_of_eq hg.symm)) hb); have n1_ := Aside0.mk (below_step (by repeat (first | (with_reducible first | exact HB.out | apply below_alloc | apply pw_below_drewN | apply below_drew1) | exact HB.out)) hb); have n2_ := Aside0.mk (hbox); have n3_ := Aside0.mk ((by rw [hg]; exact (below_size (by repeat (first | (with_reducible first | exact HB.out | apply below_alloc | apply pw_below_drewN | apply below_drew1) | exact HB.out))) : w.heap.size ≤ gb116)); have n4_ := Aside0.mk ((by rw [hg]; exact (below_size (by repeat (first | (with_reducible first | exact HB.out | apply below_alloc | apply pw_below_drewN | apply below_drew1) | exact HB.out))) : w.heap.size ≤ gb116)); clear HO_3; clear HB; have HO_3 := n0_; have HB := n1_; have BK116 := n2_; have GW116 := n3_; have GE116 := n4_; clear n0_ n1_ n2_ n3_ n4_; clear hb hbox hg; have hcz7_0 : w6.cell? ⟨gb116, 0, none⟩ = some (.string (⟨#[]⟩ : ByteArray)) := (blk_cell BK116.out 0).trans rfl; have hcz7_1 : w6.cell? ⟨gb116, 1, none⟩ = some (.string (⟨#[]⟩ : ByteArray)) := (blk_cell BK116.out 1).trans rfl; have hcz7_2 : w6.cell? ⟨gb116, 2, none⟩ = some (.slice none 0 0) := (blk_cell BK116.out 2).trans rfl; have hfz7_0 := blk_frozen BK116.out 0; have hfz7_1 := blk_frozen BK116.out 1; have hfz7_2 := blk_frozen BK116.out 2))
            (with_reducible refine (roomy_any _ _ ((rd_T37 l0 x4_1).f2) t117 _ ?side1 ?side2 A4.out).mono ?_); (case side1 => exact Kd.C_below HR113_2.out (by repeat (first | (with_reducible first | exact HB.out | apply below_alloc | apply pw_below_drewN | apply below_drew1 | refine below_set ?_ GE116.out) | exact HB.out))); (case side2 => exact HC113_2.out); rintro e w8 ⟨Ao9, co9, rfl, ho0, hb⟩
            have n0_ := Aside0.mk (Kd.S_elder' (by (with_reducible repeat (first | apply Kd.S_alloc | apply Kd.S_drewN | apply Kd.S_drew)); exact (Kd.S_mono (Kd.S_far (p := ⟨gb116, 2, none⟩) (Kd.S_far (p := ⟨gb116, 1, none⟩) (Kd.S_far (p := ⟨gb116, 0, none⟩) (Kd.S_mono HO_3.out (fun k_ hk => (⟨hk, hk.2⟩ : _ ∧ k_ ≠ gb116))) (fun _ hk => hk.2) (.string ((rd_T37 l0 x4_1).f0))) (fun _ hk => hk.2) (.string ((rd_T37 l0 x4_1).f1))) (fun _ hk => hk.2) (.slice A113_2 ((rd_T37 l0 x4_1).f2).length c113_2)) (fun _ h_ => h_.1))) (Kd.R_base ho0) hb); have n1_ := Aside0.mk (Kd.R_lower ho0 (below_size (by repeat (first | (with_reducible first | exact HB.out | apply below_alloc | apply pw_below_drewN | apply below_drew1 | refine below_set ?_ GE116.out) | exact HB.out)))); have n2_ := Aside0.mk (blk_below (g := gb116) (o := .cells #[.string ((rd_T37 l0 x4_1).f0), .string ((rd_T37 l0 x4_1).f1), .slice A113_2 ((rd_T37 l0 x4_1).f2).length c113_2] 37 (0, 0)) (by (with_reducible repeat (first | refine blk_drewN ?_ _ | refine blk_drew ?_ | refine blk_alloc ?_ _)); refine blk_put (cs := #[.string ((rd_T37 l0 x4_1).f0), .string ((rd_T37 l0 x4_1).f1), .slice none 0 0]) ?_ 2 _ rfl; (with_reducible repeat (first | refine blk_drewN ?_ _ | refine blk_drew ?_ | refine blk_alloc ?_ _)); refine blk_put (cs := #[.string ((rd_T37 l0 x4_1).f0), .string (⟨#[]⟩ : ByteArray), .slice none 0 0]) ?_ 1 _ rfl; (with_reducible repeat (first | refine blk_drewN ?_ _ | refine blk_drew ?_ | refine blk_alloc ?_ _)); refine blk_put (cs := #[.string (⟨#[]⟩ : ByteArray), .string (⟨#[]⟩ : ByteArray), .slice none 0 0]) ?_ 0 _ rfl; (with_reducible repeat (first | refine blk_drewN ?_ _ | refine blk_drew ?_ | refine blk_alloc ?_ _)); exact BK116.out) hb); have n3_ := Aside0.mk (below_step (by repeat (first | (with_reducible first | exact HB.out | apply below_alloc | apply pw_below_drewN | apply below_drew1 | refine below_set ?_ GE116.out) | exact HB.out)) hb); clear HO_3; clear BK116; clear HB; have HO_3 := n0_; have HO119 := n1_; have BK116 := n2_; have HB := n3_; clear n0_ n1_ n2_ n3_; (try clear hb); (try clear hb2); (try clear hk); (try clear hi); (try clear ho0); have hcz10_0 : w8.cell? ⟨gb116, 0, none⟩ = some (.string ((rd_T37 l0 x4_1).f0)) := (blk_cell BK116.out 0).trans rfl; have hcz10_1 : w8.cell? ⟨gb116, 1, none⟩ = some (.string ((rd_T37 l0 x4_1).f1)) := (blk_cell BK116.out 1).trans rfl; have hcz10_2 : w8.cell? ⟨gb116, 2, none⟩ = some (.slice A113_2 ((rd_T37 l0 x4_1).f2).length c113_2) := (blk_cell BK116.out 2).trans rfl; have hfz10_0 := blk_frozen BK116.out 0; have hfz10_1 := blk_frozen BK116.out 1; have hfz10_2 := blk_frozen BK116.out 2
            go_wp2_with (first | ((with_reducible refine gate_store (t := 22) (p := 19) rfl ?_); refine store_event (t := 22) (p := 19) (v := ?vo_w11) (w1 := (w8.setCell ⟨gb116, 2, none⟩ (.slice Ao9 t117.length co9))) ?hg ?ho ?hn ?hr ?_; (case ho => rfl); (case hg => rfl); (case hn => rfl); (case hr => first | (go_simp; done) | (go_simp; rfl)); intro w11 hw; have n0_ : Aside0 (Kd.S k37q 37 w11 w.heap.size (fun k_ => some k_ ≠ (.slice Ao9 (t117.length + 1) co9 : Value).ownBlock ∧ k_ ≠ gb116) u3 x3_1) := ⟨(by rw [hw]; exact (by (with_reducible repeat (first | apply Kd.S_alloc | apply Kd.S_drewN | apply Kd.S_drew)); exact Kd.S_mono (Kd.S_far (p := ⟨gb116, 2, none⟩) (Kd.S_mono HO_3.out (fun k_ hk => (⟨hk, hk.1.2⟩ : _ ∧ k_ ≠ gb116))) (fun _ hk => hk.2) (.slice Ao9 t117.length co9)) (fun _ hk => ⟨hk.1.2, hk.1.1.2⟩)))⟩; have n1_ : Aside0 (Kd.R Kd.string 9 w11 w.heap.size (fun _ => True) (.slice Ao9 (t117.length + 1) co9) (t117 ++ [(⟨#[115, 112, 97, 114, 101, 32, 114, 111, 111, 109]⟩ : ByteArray)])) := ⟨(by rw [hw]; exact (by (with_reducible repeat (first | apply Kd.R_alloc | apply Kd.R_drewN | apply Kd.R_drew)); exact Kd.R_mono (Kd.R_far (p := ⟨gb116, 2, none⟩) (Kd.R_types HO119.out BK116.out (by decide)) (fun _ hk => hk.2) (.slice Ao9 t117.length co9)) (fun _ hk => trivial)))⟩; have n2_ : Aside0 (w11.heap[gb116]? = some (.cells #[.string ((rd_T37 l0 x4_1).f0), .string ((rd_T37 l0 x4_1).f1), .slice Ao9 t117.length co9] 37 (0, 0))) := ⟨(by rw [hw]; exact (by (with_reducible repeat (first | refine blk_drewN ?_ _ | refine blk_drew ?_ | refine blk_alloc ?_ _)); refine blk_put (cs := #[.string ((rd_T37 l0 x4_1).f0), .string ((rd_T37 l0 x4_1).f1), .slice A113_2 ((rd_T37 l0 x4_1).f2).length c113_2]) ?_ 2 _ rfl; (with_reducible repeat (first | refine blk_drewN ?_ _ | refine blk_drew ?_ | refine blk_alloc ?_ _)); exact BK116.out))⟩; have n3_ : Aside0 (Below w.heap.size w w11) := ⟨(by rw [hw]; exact (by repeat (first | (with_reducible first | exact HB.out | apply below_alloc | apply pw_below_drewN | apply below_drew1 | refine below_set ?_ GE116.out) | exact HB.out)))⟩; clear hw; clear HO_3; clear HO119; clear BK116; clear HB; have HO_3 := n0_; have HO119 := n1_; have BK116 := n2_; have HB := n3_; clear n0_ n1_ n2_ n3_; have hcz12_0 : w11.cell? ⟨gb116, 0, none⟩ = some (.string ((rd_T37 l0 x4_1).f0)) := (blk_cell BK116.out 0).trans rfl; have hcz12_1 : w11.cell? ⟨gb116, 1, none⟩ = some (.string ((rd_T37 l0 x4_1).f1)) := (blk_cell BK116.out 1).trans rfl; have hcz12_2 : w11.cell? ⟨gb116, 2, none⟩ = some (.slice Ao9 t117.length co9) := (blk_cell BK116.out 2).trans rfl; have hfz12_0 := blk_frozen BK116.out 0; have hfz12_1 := blk_frozen BK116.out 1; have hfz12_2 := blk_frozen BK116.out 2) | ((with_reducible refine gate_builtin (b := .append) (xs := #[.tmp 20, .tmp 22]) rfl ?_); at_builtin; refine Kd.S_append k37q (w0 := w) w.heap.size rfl (.tmp 20) (.tmp 22) 23 37 (.agg #[(.string ⟨#[]⟩), (.string ⟨#[]⟩), (.slice none 0 0)]) 56 rfl Try.underlying23 info37 rfl (by decide) (by omega) u3 x3_1 (⟨(rd_T37 l0 x4_1).f0, (rd_T37 l0 x4_1).f1, some t117⟩ : Q37) [.string ((rd_T37 l0 x4_1).f0), .string ((rd_T37 l0 x4_1).f1), .slice Ao9 t117.length co9] (fun k_ => k_ ≠ gb116) (fun k_ => some k_ = (.slice Ao9 (t117.length + 1) co9 : Value).ownBlock) rfl rfl ?aP (fun k_ hk_ => ((Kd.R_mono (ok' := fun k_ => ((fun k_ => k_ ≠ gb116)) k_ ∧ some k_ ≠ (u3 : Value).ownBlock) (Kd.R_types (Kd.R_apart' (HO119.out) (Kd.S_typed HO_3.out) (by decide)) BK116.out (by decide)) (fun k_ hk => ⟨hk.2, hk.1.2⟩))).1 k_ hk_.symm) ?aF ?aO ?aB ?aS ?aL ?_; (case aP => exact k37q_mkM _ _ _ (⟨(rd_T37 l0 x4_1).f0, (rd_T37 l0 x4_1).f1, some t117⟩ : Q37) (room_mk (Kd.R_mono (Kd.R_tight rfl (Kd.R_mono (ok' := fun k_ => ((fun k_ => k_ ≠ gb116)) k_ ∧ some k_ ≠ (u3 : Value).ownBlock) (Kd.R_types (Kd.R_apart' (HO119.out) (Kd.S_typed HO_3.out) (by decide)) BK116.out (by decide)) (fun k_ hk => ⟨hk.2, hk.1.2⟩))) (fun _ h_ => h_)))); (case aB => exact (by repeat (first | (with_reducible first | exact HB.out | apply below_alloc | apply pw_below_drewN | apply below_drew1 | refine below_set ?_ GE116.out) | exact HB.out))); (case aF => exact (fun k_ hk => Kd.freshB (g := gb116) (o := .cells #[.string ((rd_T37 l0 x4_1).f0), .string ((rd_T37 l0 x4_1).f1), .slice Ao9 t117.length co9] 37 (0, 0)) (by (with_reducible repeat (first | refine blk_drewN ?_ _ | refine blk_drew ?_ | refine blk_alloc ?_ _)); exact BK116.out) k_ hk)); (case aO => exact (by (with_reducible repeat (first | apply Kd.S_alloc | apply Kd.S_drewN | apply Kd.S_drew)); exact Kd.S_mono HO_3.out (fun k_ hk => ⟨hk.2, fun e_ => hk.1 e_⟩))); (case aS => exact (below_size (by repeat (first | (with_reducible first | exact HB.out | apply below_alloc | apply pw_below_drewN | apply below_drew1 | refine below_set ?_ GE116.out) | exact HB.out)))); (case aL => have := LMc5.out; omega); intro v121 w13 ho hb hg hat; rw [← Ny120.out] at ho; have n0_ := Aside0.mk (blk_grown (g := gb116) (o := .cells #[.string ((rd_T37 l0 x4_1).f0), .string ((rd_T37 l0 x4_1).f1), .slice Ao9 t117.length co9] 37 (0, 0)) (by (with_reducible repeat (first | refine blk_drewN ?_ _ | refine blk_drew ?_ | refine blk_alloc ?_ _)); exact BK116.out) hg (Kd.S_away HO_3.out (fun _ hk => hk.2))); have n1_ := Aside0.mk (hb); have n2_ := Aside0.mk (ho); clear BK116; clear HB; clear HO_3; clear HO119; have BK116 := n0_; have HB := n1_; have HO122 := n2_; clear n0_ n1_ n2_; clear ho hb hg hat))
            go_roundg k1
            case measure => have := HK1.out; omega
            case rel => exact ⟨(y120), (wrap64 (x4_1 + 1)), (by first | rfl | (simp; done) | (simp [*]; done) | (simp [show ∀ l_ : List UInt8, l_.isEmpty = !(l_ != []) from fun l_ => by cases l_ <;> rfl]; done)), H', ⟨by have := HK1.out; omega⟩, ⟨by (with_reducible repeat (first | apply Kd.S_alloc | apply Kd.S_drewN | apply Kd.S_drew)); exact Kd.S_mono HO122.out (fun _ hk => trivial)⟩, ⟨by repeat (first | (with_reducible first | exact HB.out | apply below_alloc | apply pw_below_drewN | apply below_drew1 | refine below_set ?_ GE116.out) | exact HB.out)⟩⟩
          · rw [if_neg c5] at H
            exact absurd H (by simp)
        · rw [if_neg c3] at H
          exact absurd H (by simp)
      · rw [if_neg c2] at H
        have c2b0 : decide (x4_1 < (l0.length : Int)) = false := decide_eq_false c2
        clear c2
        by_cases c14 : x3_1.length < 2513169434916
        · rw [if_pos c14] at H
          have LMc14 := Aside0.mk c14
          clear c14
          obtain ⟨y123, hy123⟩ : ∃ y_ : List (Q37), y_ = (x3_1 ++ [(⟨(⟨#[115, 112, 97, 114, 101, 32, 114, 111, 111, 109]⟩ : ByteArray), (⟨#[]⟩ : ByteArray), (none : Option (List ByteArray))⟩ : Q37)]) := ⟨_, rfl⟩
          replace H : (if 0 ≤ (l0.length : Int) then (if (l0.length : Int) ≤ (y123.length : Int) then (some y123) else (none)) else (none)) = some r := by first | (rw [hy123]; with_reducible exact H) | (have H2_ := (Option.bind_some _ _).symm.trans H; rw [hy123]; with_reducible exact H2_) | (have H2_ := (Option.bind_some _ _).symm.trans H; with_reducible exact H2_) | with_reducible exact H | (rw [hy123]; exact H) | exact H
          have Ny123 := Aside0.mk hy123
          clear hy123
          by_cases c15 : 0 ≤ (l0.length : Int)
          · rw [if_pos c15] at H
            have c15b0 := eq_true c15
            have c15b1 : decide (0 ≤ (l0.length : Int)) = true := decide_eq_true c15
            clear c15
            by_cases c16 : (l0.length : Int) ≤ (y123.length : Int)
            · rw [if_pos c16] at H
              have c16b0 := eq_true c16
              have c16b1 : decide ((l0.length : Int) ≤ (y123.length : Int)) = true := decide_eq_true c16
              clear c16
              obtain ⟨y126, hy126⟩ : ∃ y_ : List (Q37), y_ = (y123.take ((l0.length : Int) : Int).toNat) := ⟨_, rfl⟩
              replace H : (some y123) = some r := by first | (rw [hy126]; with_reducible exact H) | (have H2_ := (Option.bind_some _ _).symm.trans H; rw [hy126]; with_reducible exact H2_) | (have H2_ := (Option.bind_some _ _).symm.trans H; with_reducible exact H2_) | with_reducible exact H | (rw [hy126]; exact H) | exact H
              have Ny126 := Aside0.mk hy126
              clear hy126
              obtain rfl := Option.some.inj H
              go_wp2_with (first | ((with_reducible refine gate_builtin (b := .append) (xs := #[.tmp 24, .tmp 26]) rfl ?_); at_builtin; refine Kd.S_append k37q (w0 := w) w.heap.size rfl (.tmp 24) (.tmp 26) 23 37 (.agg #[(.string ⟨#[]⟩), (.string ⟨#[]⟩), (.slice none 0 0)]) 56 rfl Try.underlying23 info37 rfl (by decide) (by omega) u3 x3_1 (⟨(⟨#[115, 112, 97, 114, 101, 32, 114, 111, 111, 109]⟩ : ByteArray), (⟨#[]⟩ : ByteArray), (none : Option (List ByteArray))⟩ : Q37) [.string (⟨#[115, 112, 97, 114, 101, 32, 114, 111, 111, 109]⟩ : ByteArray), .string (⟨#[]⟩ : ByteArray), .slice none 0 0] (fun _ => True) (fun _ => False) rfl rfl ?aP (fun k_ hk_ => hk_.elim) ?aF ?aO ?aB ?aS ?aL ?_; (case aP => exact k37q_mkM _ _ _ (⟨(⟨#[115, 112, 97, 114, 101, 32, 114, 111, 111, 109]⟩ : ByteArray), (⟨#[]⟩ : ByteArray), (none : Option (List ByteArray))⟩ : Q37) (room_nil _ _ _)); (case aB => exact (by repeat (first | (with_reducible first | exact HB.out | apply below_alloc | apply pw_below_drewN | apply below_drew1) | exact HB.out))); (case aF => exact (fun _ _ => trivial)); (case aO => exact (by (with_reducible repeat (first | apply Kd.S_alloc | apply Kd.S_drewN | apply Kd.S_drew)); exact Kd.S_mono HO_3.out (fun k_ hk => ⟨trivial, fun e_ => e_⟩))); (case aS => exact (below_size (by repeat (first | (with_reducible first | exact HB.out | apply below_alloc | apply pw_below_drewN | apply below_drew1) | exact HB.out)))); (case aL => have := LMc14.out; omega); intro v124 w17 ho hb hg hat; rw [← Ny123.out] at ho; have n0_ := Aside0.mk (hb); have n1_ := Aside0.mk (ho); clear HB; clear HO_3; have HB := n0_; have HO125 := n1_; clear n0_ n1_; clear ho hb hg hat; obtain ⟨Ao18, co18, eo18⟩ := Kd.S_slice HO125.out; subst eo18; have q19 : ((l0.length : Int) : Int) ≤ ((y123.length : Int) : Int) := of_decide_eq_true (by first | (with_reducible assumption) | assumption); obtain ⟨i019, hi019, _, hsz19, _⟩ := info_parts info37; have hcut19 := cut_to (P := Try.prog) 23 37 .i64 Try.underlying23 hi019 Ao18 y123.length co18 (l0.length : Int) (of_decide_eq_true (by first | (with_reducible assumption) | assumption)) q19 (Kd.S_reads' HO125.out).2.1; have hr19 := Kd.S_take (m := ((l0.length : Int) : Int).toNat) HO125.out (by omega); have hy19 : y126.length = ((l0.length : Int) : Int).toNat := (by rw [Ny126.out, List.length_take]; omega); rw [← Ny126.out] at hr19; rw [← hy19] at hr19 hcut19; clear hy19 hi019 hsz19; have HO128 := Aside0.mk hr19; clear hr19; replace q19 := eq_true q19))
              go_ret
              refine ⟨Ao18, co18, ?_, by (with_reducible repeat (first | apply Kd.S_alloc | apply Kd.S_drewN | apply Kd.S_drew)); exact Kd.S_mono HO125.out (fun _ hk => trivial), by repeat (first | (with_reducible first | exact HB.out | apply below_alloc | apply pw_below_drewN | apply below_drew1) | exact HB.out)⟩
              have e26 := Ny126.out
              rw [Int.toNat_natCast] at e26
              have e27 := congrArg List.length e26
              rw [List.length_take] at e27
              simp [e27]
            · rw [if_neg c16] at H
              exact absurd H (by simp)
          · rw [if_neg c15] at H
            exact absurd H (by simp)
        · rw [if_neg c14] at H
          exact absurd H (by simp)

end Go.Proofs.Ytdckeakloifkdaa.W
