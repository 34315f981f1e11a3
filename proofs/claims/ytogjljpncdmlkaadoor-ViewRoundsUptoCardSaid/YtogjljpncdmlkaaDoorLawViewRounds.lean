-- Written for this claim by a program of this session (wip/tools/rows2.py).
import Derived.Test.YtogjljpncdmlkaaDoorCards
import Derived.Test.YtogjljpncdmlkaaDoorTie
import Derived.Deep.DeepHandedRow
import Derived.Lib.LaidTab
import Derived.Test.YtogjljpncdmlkaaDoorRows
import Derived.Test.YtogjljpncdmlkaaDoorB3
import Derived.Test.YtogjljpncdmlkaaDoorB18
import Derived.WalkKit
import Derived.ProofKit
import Derived.OpenShut
import Derived.ShutString
import Derived.ChangeOld
import Derived.Below
import Derived.SizedLaws
import Derived.JoinedCond
import Derived.Lib.SmallJoins
namespace Go.Proofs.YtogjljpncdmlkaaDoor.viewRounds
open Go.ChangeShapes Go.WideShapes Go.ChangeAt Go.RowKit Go.Joins Go.Proofs.YtogjljpncdmlkaaDoor Go.Proofs.YtogjljpncdmlkaaDoorW.PrintWords Go.Proofs.YtogjljpncdmlkaaDoorW.PrintLast
open Go.ChangeMaps (open_string shut_string)
open Go.Proofs.YtogjljpncdmlkaaDoor.TyViewRounds
set_option linter.unusedVariables false
set_option linter.unusedSimpArgs false
theorem own : ownKnob Tryd.prog.godebug = none := by kernel_rfl
theorem laidOut : laidOutB Tryd.prog = true := by kernel_rfl
set_option maxRecDepth 100000 in
theorem contract (H : Type) (enc : TypeId × Value → H) (W : World) (base : Nat) (args : Array Value) (ds gs : List (DataW H)) (before : List MemPlace)
    (hval : ∀ (j : Nat) t v, Tryd.f4.params[j]? = some t → args[j]? = some v → Value.okWide Tryd.prog W .any base t v)
    (hW : DataW.Whole enc Tryd.prog Tryd.f4.params.toList Rows.viewRoundsSpec.vars false W args.toList ds gs before)
    (hk : Rows.uptoSmall H (ds ++ gs) = true) (hL : laidMetH Tryd.prog Rows.viewRoundsUptoRow.laid W) :
    Calls Tryd.prog 4 args W fun e W' => ∃ v, e = .returned v ∧ Rows.viewRoundsSpec.post enc Tryd.prog Tryd.f4 false true false false W args v W' := by
  have hW' := hW
  obtain ⟨p, q, hA0, hV, rfl, hfz, hnd⟩ := hW
  have hA : DataW.TrodAll enc Tryd.prog W 0 (fun _ => true) true Tryd.f4.params.toList args.toList ds p := hA0
  rw [Tryd.params4] at hA hval
  obtain ⟨v0, vs0, d0, ds0, p0, q0, hargs, rfl, rfl, h0, r0⟩ := trodAll_cons hA
  obtain ⟨v1, vs1, d1, ds1, p1, q1, rfl, rfl, rfl, h1, r1⟩ := trodAll_cons r0
  obtain ⟨v2, vs2, d2, ds2, p2, q2, rfl, rfl, rfl, h2, r2⟩ := trodAll_cons r1
  obtain ⟨v3, vs3, d3, ds3, p3, q3, rfl, rfl, rfl, h3, r3⟩ := trodAll_cons r2
  obtain ⟨rfl, rfl, rfl⟩ := trodAll_nil r3
  obtain rfl : args = #[v0, v1, v2, v3] := by cases args; simp_all
  obtain ⟨rfl, rfl⟩ := trodVars_none hV
  have b0 : Rows.uptoBulk d0 ≤ 1048576 := Rw.bulk_one hk (by simp)
  have b1 : Rows.uptoBulk d1 ≤ 1048576 := Rw.bulk_one hk (by simp)
  have b2 : Rows.uptoBulk d2 ≤ 1048576 := Rw.bulk_one hk (by simp)
  have b3 : Rows.uptoBulk d3 ≤ 1048576 := Rw.bulk_one hk (by simp)
  have k0 := h0
  have lt0 : ∀ x ∈ p0, x.block < W.heap.size := by obtain ⟨m, hm⟩ := k0; exact DataW.trod_lt m _ _ _ hm
  obtain ⟨A0, len0, cap0, rfl⟩ := okWide_slice Tryd.underlying22 (hval 0 22 v0 rfl rfl)
  obtain ⟨n0, g0⟩ := h0
  obtain ⟨x0, m0, f0, u0⟩ := op22 g0
  have u0' : bulk22 x0 ≤ 1048576 := Nat.le_trans u0 b0
  obtain ⟨A0', c0', e0, lc0, hc0⟩ := m0
  obtain ⟨rfl, rfl, rfl⟩ : A0' = A0 ∧ x0.length = len0 ∧ c0' = cap0 := by
    have e2 := (List.cons.inj e0).1
    injection e2 with e3 e4 e5
    exact ⟨e3.symm, e4.symm, e5.symm⟩
  obtain ⟨a1, rfl, rfl, rfl, w1⟩ := open_int Tryd.underlying3 (hval 1 3 v1 rfl rfl) h1
  obtain ⟨a2, rfl, rfl, rfl, y2⟩ := open_string Tryd.underlying9 (hval 2 9 v2 rfl rfl) h2
  have w2 : a2.size ≤ 1048576 := Rw.bulk_str b2
  obtain ⟨a3, rfl, rfl, rfl, w3⟩ := open_int Tryd.underlying3 (hval 3 3 v3 rfl rfl) h3
  refine (Pure.ViewRounds W hL _ _ x0 lc0 hc0 f0 u0' a1 w1 a2 w2 a3 w3).mono fun e W' ⟨he, bel⟩ => ?_
  clear hA0
  subst he
  exact ⟨_, rfl, _, _, _, [], _, [], hW', trodAll_mk1 (shut_bool Tryd.underlying4 _), (trodAll_cons_mk (Below.trod laidOut (by kernel_rfl) (of_decide_eq_true (by kernel_rfl)) k0 bel lt0) (trodAll_cons_mk (shut_int Tryd.underlying3 w1) (trodAll_cons_mk (shut_string Tryd.underlying9 y2) (trodAll_cons_mk (shut_int Tryd.underlying3 w3) trodAll_mk0)))), rfl, bel.frame _, fun h => by cases h⟩
/-- A WORLD FOR THE WITNESS: the settled one, the table (block 0) as its initialiser lays it. -/
noncomputable def laidWorld (os : Os) : World :=
  { World.holding Tryd.prog os ⟨#[], #[], []⟩ with heap := (World.holding Tryd.prog os ⟨#[], #[], []⟩).heap.modify 0 fun
      | .cells _ t frozen => .cells #[.int .i64 1, .int .i64 0, .int .i64 127, .int .i64 0, .int .i64 0, .int .i64 0, .int .i64 0, .int .i64 0, .int .i64 0, .int .i64 2, .int .i64 194, .int .i64 223, .int .i64 128, .int .i64 191, .int .i64 0, .int .i64 0, .int .i64 0, .int .i64 0, .int .i64 3, .int .i64 224, .int .i64 224, .int .i64 160, .int .i64 191, .int .i64 128, .int .i64 191, .int .i64 0, .int .i64 0, .int .i64 3, .int .i64 225, .int .i64 236, .int .i64 128, .int .i64 191, .int .i64 128, .int .i64 191, .int .i64 0, .int .i64 0, .int .i64 3, .int .i64 237, .int .i64 237, .int .i64 128, .int .i64 159, .int .i64 128, .int .i64 191, .int .i64 0, .int .i64 0, .int .i64 3, .int .i64 238, .int .i64 239, .int .i64 128, .int .i64 191, .int .i64 128, .int .i64 191, .int .i64 0, .int .i64 0, .int .i64 4, .int .i64 240, .int .i64 240, .int .i64 144, .int .i64 191, .int .i64 128, .int .i64 191, .int .i64 128, .int .i64 191, .int .i64 4, .int .i64 241, .int .i64 243, .int .i64 128, .int .i64 191, .int .i64 128, .int .i64 191, .int .i64 128, .int .i64 191, .int .i64 4, .int .i64 244, .int .i64 244, .int .i64 128, .int .i64 143, .int .i64 128, .int .i64 191, .int .i64 128, .int .i64 191] t frozen
      | o => o }
theorem laid_met (os : Os) : laidMet Tryd.prog Rows.viewRoundsUptoRow.laid ((laidWorld os).forCall (fun _ _ => 0) ⟨#[], #[.slice none 0 0, .int .i64 0, .string ByteArray.empty, .int .i64 0], []⟩).memory :=
  laidMet_of_run' 8 (by kernel_rfl) (by kernel_rfl)
theorem reads (os : Os) {H : Type} (enc : TypeId × Value → H) : ∃ places, DataW.whole enc Tryd.prog ((laidWorld os).forCall (fun _ _ => 0) ⟨#[], #[.slice none 0 0, .int .i64 0, .string ByteArray.empty, .int .i64 0], []⟩).memory Tryd.f4.params.toList Rows.viewRoundsSpec.vars false (#[.slice none 0 0, .int .i64 0, .string ByteArray.empty, .int .i64 0] : Array Value).toList 8 = some ([.nil, .lit (.int .i64 0), .lit (.string []), .lit (.int .i64 0)], [], places) :=
  ⟨[], by kernel_rfl⟩
set_option maxRecDepth 100000 in
theorem lifted (os : Os) (started : os.Started) (H : Type) (enc : TypeId × Value → H) (F : Stop.Interp) :
    ReturnsInHanded {} Tryd.checked os 4 .any ((Rows.OpenSpec.upto Rows.viewRoundsSpec).preRow enc Tryd.prog Tryd.f4 Rows.viewRoundsUptoRow.domain false Rows.viewRoundsUptoRow.laid) (((Rows.OpenSpec.upto Rows.viewRoundsSpec).at F).post enc Tryd.prog Tryd.f4 false true false false) := by
  obtain ⟨places, hx⟩ := reads os enc
  refine returnsInHanded_of_row (C := Tryd.checked) (s := Rows.OpenSpec.upto Rows.viewRoundsSpec) own started (by kernel_rfl) Tryd.func4
    (witness_row_at (enc := enc) (C := Tryd.checked) false (laidWorld os) #[.slice none 0 0, .int .i64 0, .string ByteArray.empty, .int .i64 0] rfl (by kernel_rfl) (by kernel_rfl) (by kernel_rfl)
      (OpenSpec.preRow_of_cond 8 hx (by kernel_rfl) (fun k hk => by cases hk; kernel_rfl) (by kernel_rfl) (laid_met os))) ?_
  intro W base args ds gs before hval hW _ hcond _ hL _ _
  exact contract H enc W base args ds gs before hval hW (hcond _ rfl) hL
theorem over : Rows.viewRoundsUptoRow.holds Tryd.pinned (Rows.OpenSpec.upto Rows.viewRoundsSpec) :=
  OpenClaim.holds_of_cond 4 Tryd.f4 rfl rfl rfl rfl rfl rfl rfl ⟨rfl, rfl, rfl, rfl, rfl⟩ rfl rfl rfl rfl rfl (by kernel_rfl) Tryd.func4 (by kernel_rfl)
    (of_decide_eq_true (by kernel_rfl)) (by unfold Func.isWrapper; first | (rw [if_pos (by decide +kernel)]; kernel_rfl) | (rw [if_neg (by decide +kernel)]; exact ⟨rfl, rfl⟩))
    (fun os started H enc _ F => by rw [OpenClaim.pre_eq_preRow]; exact lifted os started H enc F)
theorem plain (f : FuncId) (fn : Func) (hf : Tryd.pinned.checked.prog.funcNamed "roster/rosterlaw22.ViewRounds" = some f) (hfn : Tryd.pinned.checked.prog.funcs[f]? = some fn) :
    true = Tryd.pinned.checked.prog.looks [] ∧ ∀ (j : Nat) t, fn.params[j]? = some t → Tryd.pinned.checked.prog.wantsStandIn t = false := by
  obtain rfl : f = 4 := Option.some.inj ((show Tryd.prog.funcNamed "roster/rosterlaw22.ViewRounds" = some 4 by kernel_rfl).symm.trans hf) |>.symm
  obtain rfl : fn = Tryd.f4 := (Option.some.inj (Tryd.func4.symm.trans hfn)).symm
  refine ⟨by kernel_rfl, fun j t ht => ?_⟩
  rw [Tryd.params4] at ht
  have hm : t = 22 ∨ t = 3 ∨ t = 9 := by have := Array.mem_of_getElem? ht; simp at this; rcases this with h | h | h | h <;> simp [h]
  rcases hm with rfl | rfl | rfl
  · exact (show Tryd.prog.wantsStandIn 22 = false by kernel_rfl)
  · exact (show Tryd.prog.wantsStandIn 3 = false by kernel_rfl)
  · exact (show Tryd.prog.wantsStandIn 9 = false by kernel_rfl)
theorem card : Rows.ViewRoundsUptoCardSaid :=
  Claim7.holds_tied_plain_at .later [] _ _ _ _ over (fun _ h => by cases h) (by kernel_rfl) (fun _ h => by cases h) viewRoundsUpto_row_tie rfl ⟨rfl, rfl⟩ (by kernel_rfl) rfl plain (by kernel_rfl)
end Go.Proofs.YtogjljpncdmlkaaDoor.viewRounds
namespace Go.Proofs.YtogjljpncdmlkaaDoor
/-- The card, under a short name, for the claim. -/
theorem viewRounds_holds : Rows.ViewRoundsUptoCardSaid := viewRounds.card
#print axioms viewRounds_holds
end Go.Proofs.YtogjljpncdmlkaaDoor
