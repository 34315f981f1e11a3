/- The statement FramePlays, as its row takes it: over the kinds of its parameter. -/
import Derived.Test.YtcjlpedpiljnmaaTyFramePlays
import Derived.Test.YtcjlpedpiljnmaaLp
namespace Go.Proofs.Ytcjlpedpiljnmaa.Pure
open Go.ChangeShapes Go.WideShapes Go.ChangeAt Go.RowKit Go.Proofs.YtcjlpedpiljnmaaW.PrintWords Go.Proofs.Ytcjlpedpiljnmaa.TyFramePlays Go.Proofs.Ytcjlpedpiljnmaa.W
theorem bulk_tot (l : List (Int × ByteArray)) : l.length + tot l l.length ≤ (l.map bulk46).sum := by
  unfold tot
  rw [List.take_length]
  induction l with
  | nil => simp
  | cons x r ih =>
    simp only [List.map_cons, List.sum_cons, List.length_cons]
    have e : bulk46 x = 1 + 1 + (x.2.size + 1) := rfl
    omega
theorem FramePlays (w : World) (x : T39) (cs : Array Value) (h : k39.K w x cs.toList) (hw : wf39 x) (hb : bulk39 x ≤ 1048576) :
    Calls Try.prog 7 #[.agg cs] w fun en w' => en = .returned (.bool true) ∧ Below w.heap.size w w' := by
  obtain ⟨limit, other, ops⟩ := x
  obtain ⟨c0, c1, e0, h0, c2, c3, e1, h1, A, c, e2, hc, hC⟩ := h
  have q0 : c0 = [.int .i64 limit] := h0
  have q1 : c2 = [.int .i64 other] := h1
  subst q0; subst q1; subst e2; subst e1
  obtain rfl : cs = #[.int .i64 limit, .int .i64 other, .slice A ops.length c] := by
    cases cs
    simpa using e0
  have hb2 : 1 + (1 + (1 + ((ops.map bulk46).sum + 1))) ≤ 1048576 := by
    have : bulk39 (limit, other, ops) = 1 + 1 + 1 + ((ops.map bulk46).sum + 1) := rfl
    omega
  have ht := bulk_tot ops
  exact plays_any limit other A c ops w hC hc (by omega) (by omega)
end Go.Proofs.Ytcjlpedpiljnmaa.Pure
