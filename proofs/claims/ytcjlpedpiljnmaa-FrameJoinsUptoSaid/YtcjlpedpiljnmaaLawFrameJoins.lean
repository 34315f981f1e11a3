-- Written for this claim by a program of this session (wip/tools/rows.py).
import Derived.Test.YtcjlpedpiljnmaaRows
import Derived.Test.YtcjlpedpiljnmaaStFrameJoins
import Derived.Test.YtcjlpedpiljnmaaPureFrameJoins
import Derived.Test.YtcjlpedpiljnmaaRw
import Derived.WalkKit
import Derived.ProofKit
import Derived.OpenShut
import Derived.ShutString
import Derived.ChangeOld
import Derived.Below
import Derived.SizedLaws
import Derived.JoinedCond
import Derived.Lib.SmallJoins
namespace Go.Proofs.Ytcjlpedpiljnmaa.frameJoins
open Go.ChangeShapes Go.WideShapes Go.ChangeAt Go.RowKit Go.Joins Go.Proofs.Ytcjlpedpiljnmaa.GJ Go.Proofs.YtcjlpedpiljnmaaW.PrintWords Go.Proofs.YtcjlpedpiljnmaaW.PrintLast
open Go.ChangeMaps (open_string shut_string)
open Go.Proofs.Ytcjlpedpiljnmaa.StFrameJoins
set_option linter.unusedVariables false
set_option linter.unusedSimpArgs false
theorem own : ownKnob Try.prog.godebug = none := by kernel_rfl
theorem laidOut : laidOutB Try.prog = true := by kernel_rfl
theorem cells3 : Try.prog.cellsOf 3 = 1 := by kernel_rfl
theorem cells9 : Try.prog.cellsOf 9 = 1 := by kernel_rfl
theorem list2 {α : Type} {l : List α} (h : l.length = 2) : ∃ c0 c1, l = [c0, c1] := by
  match l, h with
  | [c0, c1], _ => exact ⟨c0, c1, rfl⟩
theorem el58 {H : Type} {enc : TypeId × Value → H} {w : World} {base : Nat} {spare : Nat → Bool} {held : Bool} {n : Nat} {cs : List Value} {y : DataW H × List MemPlace} (h : DataW.trod enc Try.prog w base spare held n 58 cs = some y) :
    ∃ (x0 : Int) (x1 : ByteArray), cs = [.int .i64 x0, .string x1] ∧ 3 + x1.size ≤ Rows.uptoBulk y.1 ∧ (Lit.int .i64 x0).wf = true ∧ x1.size ≤ 9223372036854775807 := by
  obtain ⟨ys, m, _, hy, hl, hn, hf⟩ := DataW.trod_struct Try.underlying58 h
  have hl' : cs.length = 2 := hl.trans (by kernel_rfl)
  clear hl
  obtain ⟨c0, c1, rfl⟩ := list2 hl'
  obtain ⟨y0, y1, rfl⟩ := list2 (hn.trans (by kernel_rfl) : ys.length = 2)
  subst hy
  have t0 : DataW.trod enc Try.prog w base spare held m 3 (([c0, c1].drop 0).take (Try.prog.cellsOf 3)) = [y0, y1][0]? := hf 0 _ rfl
  rw [cells3] at t0
  replace t0 : DataW.trod enc Try.prog w base spare held m 3 [c0] = some y0 := t0
  obtain ⟨x0, e0, rfl, w0⟩ := DataW.trod_int Try.underlying3 t0
  obtain rfl := (List.cons.inj e0).1
  have t1 : DataW.trod enc Try.prog w base spare held m 9 (([.int .i64 x0, c1].drop 1).take (Try.prog.cellsOf 9)) = [(.lit (.int .i64 x0), []), y1][1]? := hf 1 _ rfl
  rw [cells9] at t1
  replace t1 : DataW.trod enc Try.prog w base spare held m 9 [c1] = some y1 := t1
  obtain ⟨x1, e1, rfl, w1⟩ := DataW.trod_string Try.underlying9 t1
  obtain rfl := (List.cons.inj e1).1
  refine ⟨x0, x1, rfl, ?_, w0, w1⟩
  simp only [Rows.uptoBulk, Rows.uptoBulkAll, List.map_cons, List.map_nil, Array.length_toList, ByteArray.size_data]
  omega
set_option maxRecDepth 100000 in
theorem contract (H : Type) (enc : TypeId × Value → H) (W : World) (base : Nat) (args : Array Value) (ds gs : List (DataW H)) (before : List MemPlace)
    (hval : ∀ (j : Nat) t v, Try.f11.params[j]? = some t → args[j]? = some v → Value.okWide Try.prog W .any base t v)
    (hW : DataW.Whole enc Try.prog Try.f11.params.toList Rows.frameJoinsSpec.vars false W args.toList ds gs before)
    (hk : Rows.uptoSmall H (ds ++ gs) = true) :
    Calls Try.prog 11 args W fun e W' => ∃ v, e = .returned v ∧ Rows.frameJoinsSpec.post enc Try.prog Try.f11 false true false false W args v W' := by
  have hW' := hW
  obtain ⟨p, q, hA0, hV, rfl, hfz, hnd⟩ := hW
  have hA : DataW.TrodAll enc Try.prog W 0 (fun _ => true) true Try.f11.params.toList args.toList ds p := hA0
  rw [Try.params11] at hA hval
  obtain ⟨v0, vs0, d0, ds0, p0, q0, hargs, rfl, rfl, h0, r0⟩ := trodAll_cons hA
  obtain ⟨rfl, rfl, rfl⟩ := trodAll_nil r0
  obtain rfl : args = #[v0] := by cases args; simp_all
  obtain ⟨rfl, rfl⟩ := trodVars_none hV
  have b0 : Rows.uptoBulk d0 ≤ 1048576 := Rw.bulk_one hk (by simp)
  obtain ⟨a0, len0, cap0, rfl⟩ := okWide_slice Try.underlying55 (hval 0 55 v0 rfl rfl)
  have k0 := h0
  have lt0 : ∀ x ∈ p0, x.block < W.heap.size := by obtain ⟨m, hm⟩ := k0; exact DataW.trod_lt m _ _ _ hm
  obtain ⟨l0, rfl, hc0, hm0, hb0, hw0, hn0, hr0⟩ := Rw.open_rows (ok := fun (x : S58) cs => cs = [.int .i64 x.f0, .string x.f1] ∧ wf58 x) (bulk := bulk58) (sz := 2) Try.underlying55 (by kernel_rfl)
    (fun n cs y h => by
      obtain ⟨x0, x1, hc, hb, z0, z1⟩ := el58 h
      exact ⟨⟨x0, x1⟩, ⟨hc, z0⟩, hb⟩) k0
  have hr0' : Kd.C k58 W a0 l0.length l0 := ReadsRow.imp_ hr0 (Below.refl _ _) (fun p c hp => by rw [hp.1]; exact k58_mk W p)
  have hw0' : ∀ x ∈ l0, wf58 x := fun x hx => by obtain ⟨c, _, h⟩ := hw0 x hx; exact h
  have h := Pure.FrameJoins l0 (by omega) (by omega) hw0'
  refine (rosterlaw03_FrameJoins.calls _ _ l0 true W hr0' hc0 h).mono fun e W' ⟨he, hd⟩ => ?_
  have bel : Below W.heap.size W W' := hd
  clear hA0
  subst he
  exact ⟨_, rfl, _, _, _, [], _, [], hW', trodAll_mk1 (shut_bool Try.underlying4 _), (trodAll_cons_mk (Below.trod laidOut (by kernel_rfl) (of_decide_eq_true (by kernel_rfl)) k0 bel lt0) trodAll_mk0), rfl, bel.frame _, fun h => by cases h⟩
set_option maxRecDepth 100000 in
theorem lifted (os : Os) (started : os.Started) (H : Type) (enc : TypeId × Value → H) (F : Stop.Interp) :
    ReturnsInHanded {} Try.checked os 11 .any ((Rows.OpenSpec.upto Rows.frameJoinsSpec).pre6 enc Try.prog Try.f11 Rows.frameJoinsUptoRow.domain false) (((Rows.OpenSpec.upto Rows.frameJoinsSpec).at F).post enc Try.prog Try.f11 false true false false) := by
  refine returnsInHanded_of_cond (C := Try.checked) (s := Rows.OpenSpec.upto Rows.frameJoinsSpec) (k := Rows.uptoSmall) rfl own started (by kernel_rfl) Try.func11
    (OpenSpec.witness (enc := enc) (C := Try.checked) (s := Rows.OpenSpec.upto Rows.frameJoinsSpec) (k := Rows.uptoSmall) rfl false ⟨#[], #[.slice none 0 0], []⟩ 8 (by kernel_rfl) (by kernel_rfl) (by kernel_rfl)
      (x := ([.nil], [], [])) (by kernel_rfl) rfl (by kernel_rfl)) ?_
  intro W base args ds gs before hval hW _ hk _
  exact contract H enc W base args ds gs before hval hW hk
theorem over : Rows.frameJoinsUptoRow.holds Try.pinned (Rows.OpenSpec.upto Rows.frameJoinsSpec) :=
  OpenClaim.holds_of_cond 11 Try.f11 rfl rfl rfl rfl rfl rfl rfl ⟨rfl, rfl, rfl, rfl, rfl⟩ rfl rfl rfl rfl rfl (by kernel_rfl) Try.func11 (by kernel_rfl)
    (of_decide_eq_true (by kernel_rfl)) (by unfold Func.isWrapper; first | (rw [if_pos (by decide +kernel)]; kernel_rfl) | (rw [if_neg (by decide +kernel)]; exact ⟨rfl, rfl⟩))
    (fun os started H enc _ F => lifted os started H enc F)
end Go.Proofs.Ytcjlpedpiljnmaa.frameJoins
namespace Go.Proofs.Ytcjlpedpiljnmaa
/-- The row, under a short name, for the claim. -/
theorem frameJoins_holds : Rows.FrameJoinsUptoSaid := frameJoins.over
#print axioms frameJoins_holds
end Go.Proofs.Ytcjlpedpiljnmaa
