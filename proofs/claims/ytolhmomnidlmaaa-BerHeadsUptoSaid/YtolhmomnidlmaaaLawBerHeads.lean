-- Written for this claim by a program of this session (wip/tools/rows.py).
import Derived.Test.YtolhmomnidlmaaaRows
import Derived.Test.YtolhmomnidlmaaaStBerHeads
import Derived.Test.YtolhmomnidlmaaaPureBerHeads
import Derived.Test.YtolhmomnidlmaaaRw
import Derived.WalkKit
import Derived.ProofKit
import Derived.OpenShut
import Derived.ShutString
import Derived.ChangeOld
import Derived.Below
import Derived.SizedLaws
import Derived.JoinedCond
import Derived.Lib.SmallJoins
import Derived.Test.YtolhmomnidlmaaaWSized
namespace Go.Proofs.Ytolhmomnidlmaaa.berHeads
open Go.ChangeShapes Go.WideShapes Go.ChangeAt Go.RowKit Go.Joins Go.Proofs.Ytolhmomnidlmaaa.GF Go.Proofs.YtolhmomnidlmaaaW.PrintWords Go.Proofs.YtolhmomnidlmaaaW.PrintLast
open Go.ChangeMaps (open_string shut_string)
open Go.Proofs.Ytolhmomnidlmaaa.StBerHeads
set_option linter.unusedVariables false
set_option linter.unusedSimpArgs false
theorem own : ownKnob Try.prog.godebug = none := by kernel_rfl
theorem laidOut : laidOutB Try.prog = true := by kernel_rfl
theorem cells3 : Try.prog.cellsOf 3 = 1 := by kernel_rfl
theorem cells4 : Try.prog.cellsOf 4 = 1 := by kernel_rfl
theorem cells9 : Try.prog.cellsOf 9 = 1 := by kernel_rfl
theorem cells33 : Try.prog.cellsOf 33 = 1 := by kernel_rfl
theorem list5 {α : Type} {l : List α} (h : l.length = 5) : ∃ c0 c1 c2 c3 c4, l = [c0, c1, c2, c3, c4] := by
  match l, h with
  | [c0, c1, c2, c3, c4], _ => exact ⟨c0, c1, c2, c3, c4, rfl⟩
theorem el49 {H : Type} {enc : TypeId × Value → H} {w : World} {base : Nat} {spare : Nat → Bool} {held : Bool} {n : Nat} {cs : List Value} {y : DataW H × List MemPlace} (h : DataW.trod enc Try.prog w base spare held n 49 cs = some y) :
    ∃ (x0 : Int) (x1 : Int) (x2 : Bool) (x3 : Int) (x4 : ByteArray), cs = [.int .i64 x0, .int .i64 x1, .bool (x2), .int .i64 x3, .string x4] ∧ 6 + x4.size ≤ Rows.uptoBulk y.1 ∧ (Lit.int .i64 x0).wf = true ∧ (Lit.int .i64 x1).wf = true ∧ (Lit.int .i64 x3).wf = true ∧ x4.size ≤ 9223372036854775807 := by
  obtain ⟨ys, m, _, hy, hl, hn, hf⟩ := DataW.trod_struct Try.underlying49 h
  have hl' : cs.length = 5 := hl.trans (by kernel_rfl)
  clear hl
  obtain ⟨c0, c1, c2, c3, c4, rfl⟩ := list5 hl'
  obtain ⟨y0, y1, y2, y3, y4, rfl⟩ := list5 (hn.trans (by kernel_rfl) : ys.length = 5)
  subst hy
  have t0 : DataW.trod enc Try.prog w base spare held m 3 (([c0, c1, c2, c3, c4].drop 0).take (Try.prog.cellsOf 3)) = [y0, y1, y2, y3, y4][0]? := hf 0 _ rfl
  rw [cells3] at t0
  replace t0 : DataW.trod enc Try.prog w base spare held m 3 [c0] = some y0 := t0
  obtain ⟨x0, e0, rfl, w0⟩ := DataW.trod_int Try.underlying3 t0
  obtain rfl := (List.cons.inj e0).1
  have t1 : DataW.trod enc Try.prog w base spare held m 33 (([.int .i64 x0, c1, c2, c3, c4].drop 1).take (Try.prog.cellsOf 33)) = [(.lit (.int .i64 x0), []), y1, y2, y3, y4][1]? := hf 1 _ rfl
  rw [cells33] at t1
  replace t1 : DataW.trod enc Try.prog w base spare held m 33 [c1] = some y1 := t1
  obtain ⟨x1, e1, rfl, w1⟩ := DataW.trod_int Try.underlying33 t1
  obtain rfl := (List.cons.inj e1).1
  have t2 : DataW.trod enc Try.prog w base spare held m 4 (([.int .i64 x0, .int .i64 x1, c2, c3, c4].drop 2).take (Try.prog.cellsOf 4)) = [(.lit (.int .i64 x0), []), (.lit (.int .i64 x1), []), y2, y3, y4][2]? := hf 2 _ rfl
  rw [cells4] at t2
  replace t2 : DataW.trod enc Try.prog w base spare held m 4 [c2] = some y2 := t2
  obtain ⟨x2, e2, rfl⟩ := DataW.trod_bool Try.underlying4 t2
  obtain rfl := (List.cons.inj e2).1
  have t3 : DataW.trod enc Try.prog w base spare held m 3 (([.int .i64 x0, .int .i64 x1, .bool (x2), c3, c4].drop 3).take (Try.prog.cellsOf 3)) = [(.lit (.int .i64 x0), []), (.lit (.int .i64 x1), []), (.lit (.bool x2), []), y3, y4][3]? := hf 3 _ rfl
  rw [cells3] at t3
  replace t3 : DataW.trod enc Try.prog w base spare held m 3 [c3] = some y3 := t3
  obtain ⟨x3, e3, rfl, w3⟩ := DataW.trod_int Try.underlying3 t3
  obtain rfl := (List.cons.inj e3).1
  have t4 : DataW.trod enc Try.prog w base spare held m 9 (([.int .i64 x0, .int .i64 x1, .bool (x2), .int .i64 x3, c4].drop 4).take (Try.prog.cellsOf 9)) = [(.lit (.int .i64 x0), []), (.lit (.int .i64 x1), []), (.lit (.bool x2), []), (.lit (.int .i64 x3), []), y4][4]? := hf 4 _ rfl
  rw [cells9] at t4
  replace t4 : DataW.trod enc Try.prog w base spare held m 9 [c4] = some y4 := t4
  obtain ⟨x4, e4, rfl, w4⟩ := DataW.trod_string Try.underlying9 t4
  obtain rfl := (List.cons.inj e4).1
  refine ⟨x0, x1, x2, x3, x4, rfl, ?_, w0, w1, w3, w4⟩
  simp only [Rows.uptoBulk, Rows.uptoBulkAll, List.map_cons, List.map_nil, Array.length_toList, ByteArray.size_data]
  omega
set_option maxRecDepth 100000 in
theorem contract (H : Type) (enc : TypeId × Value → H) (W : World) (base : Nat) (args : Array Value) (ds gs : List (DataW H)) (before : List MemPlace)
    (hval : ∀ (j : Nat) t v, Try.f8.params[j]? = some t → args[j]? = some v → Value.okWide Try.prog W .any base t v)
    (hW : DataW.Whole enc Try.prog Try.f8.params.toList Rows.berHeadsSpec.vars false W args.toList ds gs before)
    (hk : Rows.uptoSmall H (ds ++ gs) = true) :
    Calls Try.prog 8 args W fun e W' => ∃ v, e = .returned v ∧ Rows.berHeadsSpec.post enc Try.prog Try.f8 false true false false W args v W' := by
  have hW' := hW
  obtain ⟨p, q, hA0, hV, rfl, hfz, hnd⟩ := hW
  have hA : DataW.TrodAll enc Try.prog W 0 (fun _ => true) true Try.f8.params.toList args.toList ds p := hA0
  rw [Try.params8] at hA hval
  obtain ⟨v0, vs0, d0, ds0, p0, q0, hargs, rfl, rfl, h0, r0⟩ := trodAll_cons hA
  obtain ⟨v1, vs1, d1, ds1, p1, q1, rfl, rfl, rfl, h1, r1⟩ := trodAll_cons r0
  obtain ⟨v2, vs2, d2, ds2, p2, q2, rfl, rfl, rfl, h2, r2⟩ := trodAll_cons r1
  obtain ⟨v3, vs3, d3, ds3, p3, q3, rfl, rfl, rfl, h3, r3⟩ := trodAll_cons r2
  obtain ⟨rfl, rfl, rfl⟩ := trodAll_nil r3
  obtain rfl : args = #[v0, v1, v2, v3] := by cases args; simp_all
  obtain ⟨rfl, rfl⟩ := trodVars_none hV
  have b0 : Rows.uptoBulk d0 ≤ 1048576 := Rw.bulk_one hk (by simp)
  have b1 : Rows.uptoBulk d1 ≤ 1048576 := Rw.bulk_one hk (by simp)
  have b2 : Rows.uptoBulk d2 ≤ 1048576 := Rw.bulk_one hk (by simp)
  have b3 : Rows.uptoBulk d3 ≤ 1048576 := Rw.bulk_one hk (by simp)
  obtain ⟨a0, len0, cap0, rfl⟩ := okWide_slice Try.underlying43 (hval 0 43 v0 rfl rfl)
  have k0 := h0
  have lt0 : ∀ x ∈ p0, x.block < W.heap.size := by obtain ⟨m, hm⟩ := k0; exact DataW.trod_lt m _ _ _ hm
  obtain ⟨l0, rfl, hc0, hm0, hb0, hw0, hn0, hr0⟩ := Rw.open_rows (ok := fun (x : S49) cs => cs = [.int .i64 x.f0, .int .i64 x.f1, .bool (x.f2), .int .i64 x.f3, .string x.f4] ∧ wf49 x) (bulk := bulk49) (sz := 5) Try.underlying43 (by kernel_rfl)
    (fun n cs y h => by
      obtain ⟨x0, x1, x2, x3, x4, hc, hb, z0, z1, z3, z4⟩ := el49 h
      exact ⟨⟨x0, x1, x2, x3, x4⟩, ⟨hc, ⟨z0, z1, z3⟩⟩, hb⟩) k0
  have hr0' : Kd.C k49 W a0 l0.length l0 := ReadsRow.imp_ hr0 (Below.refl _ _) (fun p c hp => by rw [hp.1]; exact k49_mk W p)
  have hw0' : ∀ x ∈ l0, wf49 x := fun x hx => by obtain ⟨c, _, h⟩ := hw0 x hx; exact h
  obtain ⟨a1, len1, cap1, rfl⟩ := okWide_slice Try.underlying44 (hval 1 44 v1 rfl rfl)
  have k1 := h1
  have lt1 : ∀ x ∈ p1, x.block < W.heap.size := by obtain ⟨m, hm⟩ := k1; exact DataW.trod_lt m _ _ _ hm
  obtain ⟨zs1, w1⟩ : ∃ zs : List Int, (a1 = none ∧ len1 = 0 ∧ cap1 = 0 ∧ zs = []) ∨ ∃ x, a1 = some x ∧ len1 ≤ cap1 ∧ cap1 ≤ maxLen ∧ zs.length = cap1 ∧ (∀ i, i < zs.length → W.cell? (x.add i) = some (.int .i64 (zs.getD i 0))) ∧ ∀ n ∈ zs, (Lit.int .i64 n).wf = true := by
    obtain ⟨fuel, hf⟩ := h1
    rcases open_ints Try.underlying44 Try.underlying3 (by kernel_rfl) hf with ⟨hcs, _⟩ | ⟨x, l, c, zs, hcs, _, hl, hm, hz, _, hcell, hwz⟩
    · simp [Value.cells] at hcs
      obtain ⟨rfl, rfl, rfl⟩ := hcs
      exact ⟨[], .inl ⟨rfl, rfl, rfl, rfl⟩⟩
    · simp [Value.cells] at hcs
      obtain ⟨rfl, rfl, rfl⟩ := hcs
      exact ⟨zs, .inr ⟨_, rfl, hl, hm, by simpa using hz, hcell, hwz⟩⟩
  have y1 : len1 ≤ 1048576 := by have z := sliceLen_Trod Try.underlying44 k1; have z2 := Rw.slen_le d1; omega
  obtain ⟨l1, rfl, hr1, hm1, hw1, hc1⟩ := ReadsInt.ofRowC w1
  obtain ⟨a2, rfl, rfl, rfl, w2⟩ := open_int Try.underlying3 (hval 2 3 v2 rfl rfl) h2
  obtain ⟨a3, rfl, rfl, rfl, y3⟩ := open_string Try.underlying9 (hval 3 9 v3 rfl rfl) h3
  have w3 : a3.size ≤ 1048576 := Rw.bulk_str b3
  obtain ⟨k, h⟩ := Pure.BerHeads l0 l1 a2 a3 (by omega) (by omega) hw0' y1 hw1 w2 w3
  refine (rosterlaw02_BerHeads.calls k _ _ l0 _ _ l1 a2 a3 true W hr0' hc0 (Kd.C_of_reads (d := (0 : Int)) (h1 := fun _ => rfl) hr1) hc1 h).mono fun e W' ⟨he, hd⟩ => ?_
  have bel : Below W.heap.size W W' := hd
  clear hA0
  subst he
  exact ⟨_, rfl, _, _, _, [], _, [], hW', trodAll_mk1 (shut_bool Try.underlying4 _), (trodAll_cons_mk (Below.trod laidOut (by kernel_rfl) (of_decide_eq_true (by kernel_rfl)) k0 bel lt0) (trodAll_cons_mk (Below.trod laidOut (by kernel_rfl) (of_decide_eq_true (by kernel_rfl)) k1 bel lt1) (trodAll_cons_mk (shut_int Try.underlying3 w2) (trodAll_cons_mk (shut_string Try.underlying9 y3) trodAll_mk0)))), rfl, bel.frame _, fun h => by cases h⟩
set_option maxRecDepth 100000 in
theorem lifted (os : Os) (started : os.Started) (H : Type) (enc : TypeId × Value → H) (F : Stop.Interp) :
    ReturnsInHanded {} Try.checked os 8 .any ((Rows.OpenSpec.upto Rows.berHeadsSpec).pre6 enc Try.prog Try.f8 Rows.berHeadsUptoRow.domain false) (((Rows.OpenSpec.upto Rows.berHeadsSpec).at F).post enc Try.prog Try.f8 false true false false) := by
  refine returnsInHanded_of_cond (C := Try.checked) (s := Rows.OpenSpec.upto Rows.berHeadsSpec) (k := Rows.uptoSmall) rfl own started (by kernel_rfl) Try.func8
    (OpenSpec.witness (enc := enc) (C := Try.checked) (s := Rows.OpenSpec.upto Rows.berHeadsSpec) (k := Rows.uptoSmall) rfl false ⟨#[], #[.slice none 0 0, .slice none 0 0, .int .i64 0, .string ByteArray.empty], []⟩ 8 (by kernel_rfl) (by kernel_rfl) (by kernel_rfl)
      (x := ([.nil, .nil, .lit (.int .i64 0), .lit (.string [])], [], [])) (by kernel_rfl) rfl (by kernel_rfl)) ?_
  intro W base args ds gs before hval hW _ hk _
  exact contract H enc W base args ds gs before hval hW hk
theorem over : Rows.berHeadsUptoRow.holds Try.pinned (Rows.OpenSpec.upto Rows.berHeadsSpec) :=
  OpenClaim.holds_of_cond 8 Try.f8 rfl rfl rfl rfl rfl rfl rfl ⟨rfl, rfl, rfl, rfl, rfl⟩ rfl rfl rfl rfl rfl (by kernel_rfl) Try.func8 (by kernel_rfl)
    (of_decide_eq_true (by kernel_rfl)) (by unfold Func.isWrapper; first | (rw [if_pos (by decide +kernel)]; kernel_rfl) | (rw [if_neg (by decide +kernel)]; exact ⟨rfl, rfl⟩))
    (fun os started H enc _ F => lifted os started H enc F)
end Go.Proofs.Ytolhmomnidlmaaa.berHeads
namespace Go.Proofs.Ytolhmomnidlmaaa
/-- The row, under a short name, for the claim. -/
theorem berHeads_holds : Rows.BerHeadsUptoSaid := berHeads.over
#print axioms berHeads_holds
end Go.Proofs.Ytolhmomnidlmaaa
