-- Written for this claim by a program of this session (wip/tools/rows2.py).
import Derived.Test.YtaimjacpenofpaaDoorCards
import Derived.Test.YtaimjacpenofpaaDoorTie
import Derived.Deep.DeepHandedRow
import Derived.Lib.LaidTab
import Derived.Test.YtaimjacpenofpaaDoorRows
import Derived.Test.YtaimjacpenofpaaDoorTyFilterGroups
import Derived.Test.YtaimjacpenofpaaDoorPureFilterGroups
import Derived.Test.YtaimjacpenofpaaDoorRw
import Derived.WalkKit
import Derived.ProofKit
import Derived.OpenShut
import Derived.ShutString
import Derived.ChangeOld
import Derived.Below
import Derived.SizedLaws
import Derived.JoinedCond
import Derived.Lib.SmallJoins
namespace Go.Proofs.YtaimjacpenofpaaDoor.filterGroups
open Go.ChangeShapes Go.WideShapes Go.ChangeAt Go.RowKit Go.Joins Go.Proofs.YtaimjacpenofpaaDoor Go.Proofs.YtaimjacpenofpaaDoorW.PrintWords Go.Proofs.YtaimjacpenofpaaDoorW.PrintLast
open Go.ChangeMaps (open_string shut_string)
open Go.Proofs.YtaimjacpenofpaaDoor.TyFilterGroups
set_option linter.unusedVariables false
set_option linter.unusedSimpArgs false
theorem own : ownKnob Tryd.prog.godebug = none := by kernel_rfl
theorem laidOut : laidOutB Tryd.prog = true := by kernel_rfl
set_option maxRecDepth 100000 in
theorem contract (H : Type) (enc : TypeId × Value → H) (W : World) (base : Nat) (args : Array Value) (ds gs : List (DataW H)) (before : List MemPlace)
    (hval : ∀ (j : Nat) t v, Tryd.f3.params[j]? = some t → args[j]? = some v → Value.okWide Tryd.prog W .any base t v)
    (hW : DataW.Whole enc Tryd.prog Tryd.f3.params.toList Rows.filterGroupsSpec.vars false W args.toList ds gs before)
    (hk : Rows.uptoSmall H (ds ++ gs) = true) (hL : laidMetH Tryd.prog Rows.filterGroupsUptoRow.laid W) :
    Calls Tryd.prog 3 args W fun e W' => ∃ v, e = .returned v ∧ Rows.filterGroupsSpec.post enc Tryd.prog Tryd.f3 false true false false W args v W' := by
  have hW' := hW
  obtain ⟨p, q, hA0, hV, rfl, hfz, hnd⟩ := hW
  have hA : DataW.TrodAll enc Tryd.prog W 0 (fun _ => true) true Tryd.f3.params.toList args.toList ds p := hA0
  rw [Tryd.params3] at hA hval
  obtain ⟨v0, vs0, d0, ds0, p0, q0, hargs, rfl, rfl, h0, r0⟩ := trodAll_cons hA
  obtain ⟨v1, vs1, d1, ds1, p1, q1, rfl, rfl, rfl, h1, r1⟩ := trodAll_cons r0
  obtain ⟨v2, vs2, d2, ds2, p2, q2, rfl, rfl, rfl, h2, r2⟩ := trodAll_cons r1
  obtain ⟨v3, vs3, d3, ds3, p3, q3, rfl, rfl, rfl, h3, r3⟩ := trodAll_cons r2
  obtain ⟨v4, vs4, d4, ds4, p4, q4, rfl, rfl, rfl, h4, r4⟩ := trodAll_cons r3
  obtain ⟨rfl, rfl, rfl⟩ := trodAll_nil r4
  obtain rfl : args = #[v0, v1, v2, v3, v4] := by cases args; simp_all
  obtain ⟨rfl, rfl⟩ := trodVars_none hV
  have b0 : Rows.uptoBulk d0 ≤ 1048576 := Rw.bulk_one hk (by simp)
  have b1 : Rows.uptoBulk d1 ≤ 1048576 := Rw.bulk_one hk (by simp)
  have b2 : Rows.uptoBulk d2 ≤ 1048576 := Rw.bulk_one hk (by simp)
  have b3 : Rows.uptoBulk d3 ≤ 1048576 := Rw.bulk_one hk (by simp)
  have b4 : Rows.uptoBulk d4 ≤ 1048576 := Rw.bulk_one hk (by simp)
  obtain ⟨a0, rfl, rfl, rfl, w0⟩ := open_int Tryd.underlying3 (hval 0 3 v0 rfl rfl) h0
  obtain ⟨a1, rfl, rfl, rfl, w1⟩ := open_int Tryd.underlying3 (hval 1 3 v1 rfl rfl) h1
  have k2 := h2
  have lt2 : ∀ x ∈ p2, x.block < W.heap.size := by obtain ⟨m, hm⟩ := k2; exact DataW.trod_lt m _ _ _ hm
  obtain ⟨A2, len2, cap2, rfl⟩ := okWide_slice Tryd.underlying23 (hval 2 23 v2 rfl rfl)
  obtain ⟨n2, g2⟩ := h2
  obtain ⟨x2, m2, f2, u2⟩ := op23 g2
  have u2' : bulk23 x2 ≤ 1048576 := Nat.le_trans u2 b2
  obtain ⟨A2', c2', e2, lc2, hc2⟩ := m2
  obtain ⟨rfl, rfl, rfl⟩ : A2' = A2 ∧ x2.length = len2 ∧ c2' = cap2 := by
    have e2 := (List.cons.inj e2).1
    injection e2 with e3 e4 e5
    exact ⟨e3.symm, e4.symm, e5.symm⟩
  have k3 := h3
  have lt3 : ∀ x ∈ p3, x.block < W.heap.size := by obtain ⟨m, hm⟩ := k3; exact DataW.trod_lt m _ _ _ hm
  obtain ⟨A3, len3, cap3, rfl⟩ := okWide_slice Tryd.underlying23 (hval 3 23 v3 rfl rfl)
  obtain ⟨n3, g3⟩ := h3
  obtain ⟨x3, m3, f3, u3⟩ := op23 g3
  have u3' : bulk23 x3 ≤ 1048576 := Nat.le_trans u3 b3
  obtain ⟨A3', c3', e3, lc3, hc3⟩ := m3
  obtain ⟨rfl, rfl, rfl⟩ : A3' = A3 ∧ x3.length = len3 ∧ c3' = cap3 := by
    have e2 := (List.cons.inj e3).1
    injection e2 with e3 e4 e5
    exact ⟨e3.symm, e4.symm, e5.symm⟩
  have k4 := h4
  have lt4 : ∀ x ∈ p4, x.block < W.heap.size := by obtain ⟨m, hm⟩ := k4; exact DataW.trod_lt m _ _ _ hm
  obtain ⟨A4, len4, cap4, rfl⟩ := okWide_slice Tryd.underlying23 (hval 4 23 v4 rfl rfl)
  obtain ⟨n4, g4⟩ := h4
  obtain ⟨x4, m4, f4, u4⟩ := op23 g4
  have u4' : bulk23 x4 ≤ 1048576 := Nat.le_trans u4 b4
  obtain ⟨A4', c4', e4, lc4, hc4⟩ := m4
  obtain ⟨rfl, rfl, rfl⟩ : A4' = A4 ∧ x4.length = len4 ∧ c4' = cap4 := by
    have e2 := (List.cons.inj e4).1
    injection e2 with e3 e4 e5
    exact ⟨e3.symm, e4.symm, e5.symm⟩
  refine (Pure.FilterGroups W hL a0 w0 a1 w1 _ _ x2 lc2 hc2 f2 u2' _ _ x3 lc3 hc3 f3 u3' _ _ x4 lc4 hc4 f4 u4').mono fun e W' ⟨he, bel⟩ => ?_
  clear hA0
  subst he
  exact ⟨_, rfl, _, _, _, [], _, [], hW', trodAll_mk1 (shut_bool Tryd.underlying4 _), (trodAll_cons_mk (shut_int Tryd.underlying3 w0) (trodAll_cons_mk (shut_int Tryd.underlying3 w1) (trodAll_cons_mk (Below.trod laidOut (by kernel_rfl) (of_decide_eq_true (by kernel_rfl)) k2 bel lt2) (trodAll_cons_mk (Below.trod laidOut (by kernel_rfl) (of_decide_eq_true (by kernel_rfl)) k3 bel lt3) (trodAll_cons_mk (Below.trod laidOut (by kernel_rfl) (of_decide_eq_true (by kernel_rfl)) k4 bel lt4) trodAll_mk0))))), rfl, bel.frame _, fun h => by cases h⟩
/-- A WORLD FOR THE WITNESS: the settled one, the table (block 0) as its initialiser lays it. -/
noncomputable def laidWorld (os : Os) : World :=
  { World.holding Tryd.prog os ⟨#[], #[], []⟩ with heap := (World.holding Tryd.prog os ⟨#[], #[], []⟩).heap.modify 0 fun
      | .cells _ t frozen => .cells #[.int .i64 1, .int .i64 0, .int .i64 127, .int .i64 0, .int .i64 0, .int .i64 0, .int .i64 0, .int .i64 0, .int .i64 0, .int .i64 2, .int .i64 194, .int .i64 223, .int .i64 128, .int .i64 191, .int .i64 0, .int .i64 0, .int .i64 0, .int .i64 0, .int .i64 3, .int .i64 224, .int .i64 224, .int .i64 160, .int .i64 191, .int .i64 128, .int .i64 191, .int .i64 0, .int .i64 0, .int .i64 3, .int .i64 225, .int .i64 236, .int .i64 128, .int .i64 191, .int .i64 128, .int .i64 191, .int .i64 0, .int .i64 0, .int .i64 3, .int .i64 237, .int .i64 237, .int .i64 128, .int .i64 159, .int .i64 128, .int .i64 191, .int .i64 0, .int .i64 0, .int .i64 3, .int .i64 238, .int .i64 239, .int .i64 128, .int .i64 191, .int .i64 128, .int .i64 191, .int .i64 0, .int .i64 0, .int .i64 4, .int .i64 240, .int .i64 240, .int .i64 144, .int .i64 191, .int .i64 128, .int .i64 191, .int .i64 128, .int .i64 191, .int .i64 4, .int .i64 241, .int .i64 243, .int .i64 128, .int .i64 191, .int .i64 128, .int .i64 191, .int .i64 128, .int .i64 191, .int .i64 4, .int .i64 244, .int .i64 244, .int .i64 128, .int .i64 143, .int .i64 128, .int .i64 191, .int .i64 128, .int .i64 191] t frozen
      | o => o }
theorem laid_met (os : Os) : laidMet Tryd.prog Rows.filterGroupsUptoRow.laid ((laidWorld os).forCall (fun _ _ => 0) ⟨#[], #[.int .i64 0, .int .i64 0, .slice none 0 0, .slice none 0 0, .slice none 0 0], []⟩).memory :=
  laidMet_of_run' 8 (by kernel_rfl) (by kernel_rfl)
theorem reads (os : Os) {H : Type} (enc : TypeId × Value → H) : ∃ places, DataW.whole enc Tryd.prog ((laidWorld os).forCall (fun _ _ => 0) ⟨#[], #[.int .i64 0, .int .i64 0, .slice none 0 0, .slice none 0 0, .slice none 0 0], []⟩).memory Tryd.f3.params.toList Rows.filterGroupsSpec.vars false (#[.int .i64 0, .int .i64 0, .slice none 0 0, .slice none 0 0, .slice none 0 0] : Array Value).toList 8 = some ([.lit (.int .i64 0), .lit (.int .i64 0), .nil, .nil, .nil], [], places) :=
  ⟨[], by kernel_rfl⟩
set_option maxRecDepth 100000 in
theorem lifted (os : Os) (started : os.Started) (H : Type) (enc : TypeId × Value → H) (F : Stop.Interp) :
    ReturnsInHanded {} Tryd.checked os 3 .any ((Rows.OpenSpec.upto Rows.filterGroupsSpec).preRow enc Tryd.prog Tryd.f3 Rows.filterGroupsUptoRow.domain false Rows.filterGroupsUptoRow.laid) (((Rows.OpenSpec.upto Rows.filterGroupsSpec).at F).post enc Tryd.prog Tryd.f3 false true false false) := by
  obtain ⟨places, hx⟩ := reads os enc
  refine returnsInHanded_of_row (C := Tryd.checked) (s := Rows.OpenSpec.upto Rows.filterGroupsSpec) own started (by kernel_rfl) Tryd.func3
    (witness_row_at (enc := enc) (C := Tryd.checked) false (laidWorld os) #[.int .i64 0, .int .i64 0, .slice none 0 0, .slice none 0 0, .slice none 0 0] rfl (by kernel_rfl) (by kernel_rfl) (by kernel_rfl)
      (OpenSpec.preRow_of_cond 8 hx (by kernel_rfl) (fun k hk => by cases hk; kernel_rfl) (by kernel_rfl) (laid_met os))) ?_
  intro W base args ds gs before hval hW _ hcond _ hL _ _
  exact contract H enc W base args ds gs before hval hW (hcond _ rfl) hL
theorem over : Rows.filterGroupsUptoRow.holds Tryd.pinned (Rows.OpenSpec.upto Rows.filterGroupsSpec) :=
  OpenClaim.holds_of_cond 3 Tryd.f3 rfl rfl rfl rfl rfl rfl rfl ⟨rfl, rfl, rfl, rfl, rfl⟩ rfl rfl rfl rfl rfl (by kernel_rfl) Tryd.func3 (by kernel_rfl)
    (of_decide_eq_true (by kernel_rfl)) (by unfold Func.isWrapper; first | (rw [if_pos (by decide +kernel)]; kernel_rfl) | (rw [if_neg (by decide +kernel)]; exact ⟨rfl, rfl⟩))
    (fun os started H enc _ F => by rw [OpenClaim.pre_eq_preRow]; exact lifted os started H enc F)
theorem plain (f : FuncId) (fn : Func) (hf : Tryd.pinned.checked.prog.funcNamed "roster/rosterlaw12.FilterGroups" = some f) (hfn : Tryd.pinned.checked.prog.funcs[f]? = some fn) :
    false = Tryd.pinned.checked.prog.looks [] ∧ ∀ (j : Nat) t, fn.params[j]? = some t → Tryd.pinned.checked.prog.wantsStandIn t = false := by
  obtain rfl : f = 3 := Option.some.inj ((show Tryd.prog.funcNamed "roster/rosterlaw12.FilterGroups" = some 3 by kernel_rfl).symm.trans hf) |>.symm
  obtain rfl : fn = Tryd.f3 := (Option.some.inj (Tryd.func3.symm.trans hfn)).symm
  refine ⟨by kernel_rfl, fun j t ht => ?_⟩
  rw [Tryd.params3] at ht
  have hm : t = 3 ∨ t = 23 := by have := Array.mem_of_getElem? ht; simp at this; omega
  rcases hm with rfl | rfl
  · exact (show Tryd.prog.wantsStandIn 3 = false by kernel_rfl)
  · exact (show Tryd.prog.wantsStandIn 23 = false by kernel_rfl)
theorem card : Rows.FilterGroupsUptoCardSaid :=
  Claim7.holds_tied_plain_at .later [] _ _ _ _ over (fun _ h => by cases h) (by kernel_rfl) (fun _ h => by cases h) filterGroupsUpto_row_tie rfl ⟨rfl, rfl⟩ (by kernel_rfl) rfl plain (by kernel_rfl)
end Go.Proofs.YtaimjacpenofpaaDoor.filterGroups
namespace Go.Proofs.YtaimjacpenofpaaDoor
/-- The card, under a short name, for the claim. -/
theorem filterGroups_holds : Rows.FilterGroupsUptoCardSaid := filterGroups.card
#print axioms filterGroups_holds
end Go.Proofs.YtaimjacpenofpaaDoor
