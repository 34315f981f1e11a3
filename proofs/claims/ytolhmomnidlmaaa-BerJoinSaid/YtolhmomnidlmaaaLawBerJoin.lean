-- Written for this claim by a program of this session (wip/tools/rows.py).
import Derived.Test.YtolhmomnidlmaaaRows
import Derived.Test.YtolhmomnidlmaaaStBerJoin
import Derived.Test.YtolhmomnidlmaaaPureBerJoin
import Derived.Test.YtolhmomnidlmaaaRw
import Derived.WalkKit
import Derived.ProofKit
import Derived.OpenShut
import Derived.ShutString
import Derived.ChangeOld
import Derived.Below
import Derived.SizedLaws
import Derived.JoinedCond
import Derived.Lib.SmallJoins
namespace Go.Proofs.Ytolhmomnidlmaaa.berJoin
open Go.ChangeShapes Go.WideShapes Go.ChangeAt Go.RowKit Go.Joins Go.Proofs.Ytolhmomnidlmaaa.GJ Go.Proofs.YtolhmomnidlmaaaW.PrintWords Go.Proofs.YtolhmomnidlmaaaW.PrintLast
open Go.ChangeMaps (open_string shut_string)
open Go.Proofs.Ytolhmomnidlmaaa.StBerJoin
set_option linter.unusedVariables false
set_option linter.unusedSimpArgs false
theorem own : ownKnob Try.prog.godebug = none := by kernel_rfl
theorem laidOut : laidOutB Try.prog = true := by kernel_rfl
theorem cells3 : Try.prog.cellsOf 3 = 1 := by kernel_rfl
theorem cells4 : Try.prog.cellsOf 4 = 1 := by kernel_rfl
theorem cells9 : Try.prog.cellsOf 9 = 1 := by kernel_rfl
theorem cells33 : Try.prog.cellsOf 33 = 1 := by kernel_rfl
theorem list4 {α : Type} {l : List α} (h : l.length = 4) : ∃ c0 c1 c2 c3, l = [c0, c1, c2, c3] := by
  match l, h with
  | [c0, c1, c2, c3], _ => exact ⟨c0, c1, c2, c3, rfl⟩
theorem el35 {H : Type} {enc : TypeId × Value → H} {w : World} {base : Nat} {spare : Nat → Bool} {held : Bool} {n : Nat} {cs : List Value} {y : DataW H × List MemPlace} (h : DataW.trod enc Try.prog w base spare held n 35 cs = some y) :
    ∃ (x0 : Int) (x1 : Bool) (x2 : Int) (x3 : ByteArray), cs = [.int .i64 x0, .bool (x1), .int .i64 x2, .string x3] ∧ 5 + x3.size ≤ Rows.uptoBulk y.1 ∧ (Lit.int .i64 x0).wf = true ∧ (Lit.int .i64 x2).wf = true ∧ x3.size ≤ 9223372036854775807 := by
  obtain ⟨ys, m, _, hy, hl, hn, hf⟩ := DataW.trod_struct Try.underlying35 h
  have hl' : cs.length = 4 := hl.trans (by kernel_rfl)
  clear hl
  obtain ⟨c0, c1, c2, c3, rfl⟩ := list4 hl'
  obtain ⟨y0, y1, y2, y3, rfl⟩ := list4 (hn.trans (by kernel_rfl) : ys.length = 4)
  subst hy
  have t0 : DataW.trod enc Try.prog w base spare held m 33 (([c0, c1, c2, c3].drop 0).take (Try.prog.cellsOf 33)) = [y0, y1, y2, y3][0]? := hf 0 _ rfl
  rw [cells33] at t0
  replace t0 : DataW.trod enc Try.prog w base spare held m 33 [c0] = some y0 := t0
  obtain ⟨x0, e0, rfl, w0⟩ := DataW.trod_int Try.underlying33 t0
  obtain rfl := (List.cons.inj e0).1
  have t1 : DataW.trod enc Try.prog w base spare held m 4 (([.int .i64 x0, c1, c2, c3].drop 1).take (Try.prog.cellsOf 4)) = [(.lit (.int .i64 x0), []), y1, y2, y3][1]? := hf 1 _ rfl
  rw [cells4] at t1
  replace t1 : DataW.trod enc Try.prog w base spare held m 4 [c1] = some y1 := t1
  obtain ⟨x1, e1, rfl⟩ := DataW.trod_bool Try.underlying4 t1
  obtain rfl := (List.cons.inj e1).1
  have t2 : DataW.trod enc Try.prog w base spare held m 3 (([.int .i64 x0, .bool (x1), c2, c3].drop 2).take (Try.prog.cellsOf 3)) = [(.lit (.int .i64 x0), []), (.lit (.bool x1), []), y2, y3][2]? := hf 2 _ rfl
  rw [cells3] at t2
  replace t2 : DataW.trod enc Try.prog w base spare held m 3 [c2] = some y2 := t2
  obtain ⟨x2, e2, rfl, w2⟩ := DataW.trod_int Try.underlying3 t2
  obtain rfl := (List.cons.inj e2).1
  have t3 : DataW.trod enc Try.prog w base spare held m 9 (([.int .i64 x0, .bool (x1), .int .i64 x2, c3].drop 3).take (Try.prog.cellsOf 9)) = [(.lit (.int .i64 x0), []), (.lit (.bool x1), []), (.lit (.int .i64 x2), []), y3][3]? := hf 3 _ rfl
  rw [cells9] at t3
  replace t3 : DataW.trod enc Try.prog w base spare held m 9 [c3] = some y3 := t3
  obtain ⟨x3, e3, rfl, w3⟩ := DataW.trod_string Try.underlying9 t3
  obtain rfl := (List.cons.inj e3).1
  refine ⟨x0, x1, x2, x3, rfl, ?_, w0, w2, w3⟩
  simp only [Rows.uptoBulk, Rows.uptoBulkAll, List.map_cons, List.map_nil, Array.length_toList, ByteArray.size_data]
  omega
set_option maxRecDepth 100000 in
theorem contract (H : Type) (enc : TypeId × Value → H) (W : World) (base : Nat) (args : Array Value) (ds gs : List (DataW H)) (before : List MemPlace)
    (hval : ∀ (j : Nat) t v, Try.f6.params[j]? = some t → args[j]? = some v → Value.okWide Try.prog W .any base t v)
    (hW : DataW.Whole enc Try.prog Try.f6.params.toList Rows.berJoinSpec.vars false W args.toList ds gs before)
    (hsz : (DataW.weightsEach Try.prog (Try.f6.params.toList ++ Rows.berJoinSpec.plain.varTypes Try.prog) (ds ++ gs)).all (· ≤ reachBytes) = true) :
    Calls Try.prog 6 args W fun e W' => ∃ v, e = .returned v ∧ Rows.berJoinSpec.post enc Try.prog Try.f6 false true false false W args v W' := by
  have hW' := hW
  obtain ⟨p, q, hA0, hV, rfl, hfz, hnd⟩ := hW
  have hA : DataW.TrodAll enc Try.prog W 0 (fun _ => true) true Try.f6.params.toList args.toList ds p := hA0
  rw [Try.params6] at hA hval hsz
  obtain ⟨v0, vs0, d0, ds0, p0, q0, hargs, rfl, rfl, h0, r0⟩ := trodAll_cons hA
  obtain ⟨rfl, rfl, rfl⟩ := trodAll_nil r0
  obtain rfl : args = #[v0] := by cases args; simp_all
  obtain ⟨rfl, rfl⟩ := trodVars_none hV
  have k0 := h0
  have lt0 : ∀ x ∈ p0, x.block < W.heap.size := by obtain ⟨m, hm⟩ := k0; exact DataW.trod_lt m _ _ _ hm
  obtain ⟨cs0, rfl, _⟩ := okWide_struct Try.underlying35 (hval 0 35 v0 rfl rfl)
  obtain ⟨n0, g0⟩ := h0
  obtain ⟨a0_0, a0_1, a0_2, a0_3, c0, u0, w0_0, w0_2, w0_3⟩ := el35 g0
  obtain rfl : cs0 = #[.int .i64 a0_0, .bool (a0_1), .int .i64 a0_2, .string a0_3] := by cases cs0; simpa [Value.cells] using c0
  obtain ⟨k, h⟩ := Pure.BerJoin a0_0 a0_1 a0_2 a0_3 w0_0 w0_2 w0_3
  refine (rosterlaw02_BerJoin.calls k a0_0 a0_1 a0_2 a0_3 true W h).mono fun e W' ⟨he, hd⟩ => ?_
  have bel : Below W.heap.size W W' := hd
  clear hA0
  subst he
  exact ⟨_, rfl, _, _, _, [], _, [], hW', trodAll_mk1 (shut_bool Try.underlying4 _), (trodAll_cons_mk (Below.trod laidOut (by kernel_rfl) (of_decide_eq_true (by kernel_rfl)) k0 bel lt0) trodAll_mk0), rfl, bel.frame _, fun h => by cases h⟩
set_option maxRecDepth 100000 in
theorem lifted (os : Os) (started : os.Started) (H : Type) (enc : TypeId × Value → H) :
    ReturnsInHanded {} Try.checked os 6 .any (Rows.berJoinSpec.pre6 enc Try.prog Try.f6 Rows.berJoinRow.domain false) (Rows.berJoinSpec.post enc Try.prog Try.f6 false true false false) := by
  refine returnsInHanded_of_change_sized (C := Try.checked) own started (by kernel_rfl) Try.func6
    (ChangeSpec.witness6 (enc := enc) (C := Try.checked) false ⟨#[], #[(.agg #[(.int .i64 0), (.bool false), (.int .i64 0), (.string ⟨#[]⟩)])], []⟩ 8 (by kernel_rfl) (by kernel_rfl) (by kernel_rfl) (by kernel_rfl)) ?_
  intro W base args ds gs before hval hW hcnd hsz _
  exact contract H enc W base args ds gs before hval hW hsz
theorem over : Rows.berJoinRow.holds Try.pinned (OpenSpec.ofChange Rows.berJoinSpec) :=
  OpenClaim.holds_of_wide 6 Try.f6 rfl rfl rfl rfl rfl rfl rfl ⟨rfl, rfl, rfl, rfl, rfl⟩ rfl rfl rfl rfl rfl (by kernel_rfl) Try.func6 (by kernel_rfl)
    (of_decide_eq_true (by kernel_rfl)) (by unfold Func.isWrapper; first | (rw [if_pos (by decide +kernel)]; kernel_rfl) | (rw [if_neg (by decide +kernel)]; exact ⟨rfl, rfl⟩))
    (fun os started H enc _ => lifted os started H enc)
end Go.Proofs.Ytolhmomnidlmaaa.berJoin
namespace Go.Proofs.Ytolhmomnidlmaaa
/-- The row, under a short name, for the claim. -/
theorem berJoin_holds : Rows.BerJoinSaid := berJoin.over
#print axioms berJoin_holds
end Go.Proofs.Ytolhmomnidlmaaa
