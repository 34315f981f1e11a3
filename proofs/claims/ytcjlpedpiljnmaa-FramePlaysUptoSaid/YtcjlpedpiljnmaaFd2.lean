/- Walks of frame.New and of the Framer's questions: Held, Need, Fault. -/
import Derived.Test.YtcjlpedpiljnmaaFd
namespace Go.Proofs.Ytcjlpedpiljnmaa.W
open Go.RowKit Go.Proofs.YtcjlpedpiljnmaaW.PrintWords Go.Proofs.YtcjlpedpiljnmaaW.PrintLast Go.Proofs.YtcjlpedpiljnmaaW.PrintMore
attribute [local go_sem] max2_int min2_int max_two min_two   -- for this text's walks alone
set_option linter.unusedVariables false
set_option linter.unusedSimpArgs false

theorem New_any (limit : Int) (w : World) : Calls Try.prog 23 #[.int .i64 limit] w fun en w' => ∃ g, en = .returned (.pointer (some ⟨g, 0, none⟩)) ∧ w.heap.size ≤ g ∧ FrAt w' w.heap.size g (.slice none 0 0) limit ⟨#[]⟩ 0 0 ∧ Below w.heap.size w w' := by
  go_enter Try.func23, Try.ntmps23
  go_wp2_with fail
  go_ret
  exact ⟨_, rfl, Nat.le_refl _, ⟨At.new _ _ _, Kd.R_nil _ _ _ _ _⟩, (Below.refl _ _).alloc (Nat.le_refl _) _⟩
theorem Held_any (w : World) (B g : Nat) (v : Value) (limit given err : Int) (H : ByteArray) (h : FrAt w B g v limit H given err) :
    Calls Try.prog 27 #[.pointer (some ⟨g, 0, none⟩)] w fun en w' => en = .returned (.int .i64 (H.size : Int)) ∧ w = w' := by
  obtain ⟨A, c, rfl⟩ := Kd.R_slice h.row
  have c1 := (h.mem.cell 1).trans rfl
  have e := nums_len H
  have HE := Lib.hid e
  clear e
  go_enter Try.func27, Try.ntmps27
  go_wp2
  go_ret
  rw [HE.out]
  exact ⟨rfl, rfl⟩
theorem Fault_ok (w : World) (B g : Nat) (v : Value) (limit given : Int) (H : ByteArray) (h : FrAt w B g v limit H given 0) :
    Calls Try.prog 29 #[.pointer (some ⟨g, 0, none⟩)] w fun en w' => en = .returned (.tuple #[.int .i64 0, .int .i64 0]) ∧ Below w.heap.size w w' := by
  have c3 := (h.mem.cell 3).trans rfl
  have hb : ((0 : Int) == 0) = true := rfl
  go_enter Try.func29, Try.ntmps29
  go_wp2
  go_ret2
  exact ⟨rfl, Below.refl _ _⟩
theorem Fault_err (w : World) (B g : Nat) (v : Value) (limit given err : Int) (H : ByteArray) (h : FrAt w B g v limit H given err) (he : err ≠ 0) :
    Calls Try.prog 29 #[.pointer (some ⟨g, 0, none⟩)] w fun en w' => en = .returned (.tuple #[.int .i64 err, .int .i64 given]) ∧ Below w.heap.size w w' := by
  have c3 := (h.mem.cell 3).trans rfl
  have c2 := (h.mem.cell 2).trans rfl
  have hb : (err == 0) = false := by simp [he]
  go_enter Try.func29, Try.ntmps29
  go_wp2_with fail
  go_quiet (fail)
  go_wp2
  go_ret2
  exact ⟨rfl, below_draws (Below.refl _ _) _⟩
theorem FrNeed_err (w : World) (B g : Nat) (v : Value) (limit given err : Int) (H : ByteArray) (h : FrAt w B g v limit H given err) (he : err ≠ 0) :
    Calls Try.prog 28 #[.pointer (some ⟨g, 0, none⟩)] w fun en w' => en = .returned (.int .i64 0) ∧ Below w.heap.size w w' := by
  have c3 := (h.mem.cell 3).trans rfl
  have hb : (err != 0) = true := by simp [he]
  go_enter Try.func28, Try.ntmps28
  go_wp2
  go_ret
  exact ⟨rfl, Below.refl _ _⟩
end Go.Proofs.Ytcjlpedpiljnmaa.W
