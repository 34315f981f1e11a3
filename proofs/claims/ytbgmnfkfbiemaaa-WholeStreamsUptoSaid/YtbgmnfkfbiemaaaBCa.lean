/- Walks of ber.caught's deferred function: it turns a panic that bears a fault into the named result, and does nothing where nothing was thrown. -/
import Derived.Test.YtbgmnfkfbiemaaaBBn
import Derived.Defers
import Derived.Recover
import Derived.Laws.Pointers
import Derived.KernelRfl
namespace Go.Proofs.Ytbgmnfkfbiemaaa.W
open Go.RowKit
set_option linter.unusedVariables false
set_option linter.unusedSimpArgs false

theorem assert_fault (v : Value) (W : World) : (Instr.typeAssert (.iface 61 v) 20 61 true).run Try.prog W = .ok (.tuple #[v, .bool true]) W := by kernel_rfl

theorem fault_not_nil (v : Value) (W : World) : (binOp .eql 20 (.iface 61 v) .nilIface).run Try.prog W = .ok (.bool false) W := by kernel_rfl

/-- Only block b was written to; blocks may be new. -/
theorem grown_set {w w' : World} {b : Nat} (h : w.grownBy w' (some b)) (i : Nat) (u : Value) : w.grownBy (w'.setCell ⟨b, i, none⟩ u) (some b) :=
  ⟨h.os, h.tape, h.output, by simpa [World.setCell] using h.size, fun k hk hne => (Below.heap_setCell w' ⟨b, i, none⟩ u k (fun e => hne (by rw [e]))).trans (h.block k hk hne)⟩
theorem grown_alloc {w w' : World} {r : Option Nat} (h : w.grownBy w' r) (o : Obj) : w.grownBy (w'.alloc o) r :=
  ⟨h.os, h.tape, h.output, Nat.le_trans h.size (by simp), fun k hk hne => (Below.heap_alloc w' o k (Nat.lt_of_lt_of_le hk h.size)).trans (h.block k hk hne)⟩
theorem grown_refl (w : World) (r : Option Nat) : w.grownBy w r := ⟨rfl, rfl, rfl, Nat.le_refl _, fun _ _ _ => rfl⟩

theorem caughtD_panicking (b : Nat) (c q : Int) (w : World) (hA : At w b 61 #[.int .i64 0, .int .i64 0]) :
    CallsD Try.prog 28 #[.pointer (some ⟨b, 0, none⟩)] (.panicking [{ v := .iface 61 (.agg #[.int .i64 c, .int .i64 q]), recovered := false }]) w fun e u' w' =>
      e = .returned (.tuple #[]) ∧ u' = .panicking [{ v := .iface 61 (.agg #[.int .i64 c, .int .i64 q]), recovered := true }] ∧ At w' b 61 #[.int .i64 c, .int .i64 q] ∧ w.grownBy w' (some b) := by
  have hlt := hA.lt
  have a0 := (hA.cell 0).trans rfl
  have a1 := (hA.cell 1).trans rfl
  have e0 := hA.free 0
  have e1 := hA.free 1
  refine callsD_of_wpS Try.func28 rfl fun c₀ cs hu => ?_
  apply wpS_seq
  apply wpS_region
  simp [wpOpsS, go_sem, recoverD, hu, Try.ntmps28, Exit.thenS]
  refine wpS_of_wp ?_
  have hta := assert_fault
  have hnn := fault_not_nil
  have HA := Lib.hid hA
  clear hA
  rw [show #[Value.pointer (some ⟨b, 0, none⟩)] ++ (Array.replicate 10 undef).setIfInBounds 3 (Value.iface 61 (Value.agg #[Value.int IntKind.i64 c, Value.int IntKind.i64 q])) =
    #[Value.pointer (some ⟨b, 0, none⟩), undef, undef, undef, .iface 61 (.agg #[.int .i64 c, .int .i64 q]), undef, undef, undef, undef, undef, undef] from rfl]
  go_wp2
  exact ⟨rfl, _, rfl, .tuple #[], by simp [results, Try.results28], rfl, rfl, ((HA.out.set 0 _).set 1 _).alloc _, grown_alloc (grown_set (grown_set (grown_refl w _) 0 _) 1 _) _⟩

theorem caughtD_idle (b : Nat) (w : World) :
    CallsD Try.prog 28 #[.pointer (some ⟨b, 0, none⟩)] .returning w fun e u' w' => e = .returned (.tuple #[]) ∧ u' = .returning ∧ w' = w := by
  refine callsD_of_wpS Try.func28 rfl fun c₀ cs hu => ?_
  apply wpS_seq
  apply wpS_region
  simp [wpOpsS, go_sem, recoverD, hu, Try.ntmps28, Exit.thenS]
  refine wpS_of_wp ?_
  go_wp2
  refine ⟨rfl, .returning, ?_, .tuple #[], by simp [results, Try.results28], rfl, rfl, rfl⟩
  cases c₀
  simp_all

def errOf : Option (Int × Int) → Int | some x => x.1 | none => 0
def atOf : Option (Int × Int) → Int | some x => x.2 | none => 0
/-- How a reader ends that caught runs. -/
def RunEnd (r : Option (Int × Int)) (B : Nat) (Q : World → Prop) (en : Ending) (w1 : World) : Prop :=
  (match r with
    | none => en = .returned (.tuple #[])
    | some (c, q) => en = .panicked [{ v := .iface 61 (.agg #[.int .i64 c, .int .i64 q]), recovered := false }]) ∧ At w1 B 61 #[.int .i64 0, .int .i64 0] ∧ Q w1

theorem caught_TreeC (cap : Array Value) (w : World) (r : Option (Int × Int)) (Q : World → Prop)
    (hR : Calls Try.prog 21 cap (w.alloc (.cells #[.int .i64 0, .int .i64 0] 61)) (RunEnd r w.heap.size Q)) :
    Calls Try.prog 20 #[.func (.func 21) #[] cap] w fun en w' => en = .returned (.agg #[.int .i64 (errOf r), .int .i64 (atOf r)]) ∧ ∃ w1, Q w1 ∧ w1.grownBy w' (some w.heap.size) := by
  have hmf : ∀ (fn : Fn) (first cap : Array Value) (w : World), (Instr.makeFunc fn first cap).run Try.prog w = .ok (.func fn first cap) w := fun _ _ _ _ => rfl
  go_enter_defers Try.func20, Try.ntmps20
  go_wp2_with fail
  refine hR.mono ?_
  rintro en w1 ⟨h1, hA, hq⟩
  have a0 := (hA.cell 0).trans rfl
  have a1 := (hA.cell 1).trans rfl
  have e0 := hA.free 0
  have e1 := hA.free 1
  have HA := Lib.hid hA
  have HQ := Lib.hid hq
  clear hA hq hR
  cases r with
  | none =>
    simp only at h1
    subst h1
    go_wp2_with fail
    refine leaves_cons (f := 28) (args := #[.pointer (some ⟨w.heap.size, 0, none⟩)]) (by simp) (by simp [go_sem]) ?_
    refine (caughtD_idle w.heap.size _).mono ?_
    rintro e u' w'' ⟨rfl, rfl, rfl⟩
    refine ⟨.agg #[.int .i64 0, .int .i64 0], ?_, rfl, w1, HQ.out, ?_⟩
    · simp [results, Try.results20, go_sem, a0, a1]
    · exact grown_set (grown_set (grown_refl w1 _) 0 _) 1 _
  | some x =>
    obtain ⟨c, q⟩ := x
    simp only at h1
    subst h1
    refine leaves_cons (f := 28) (args := #[.pointer (some ⟨w.heap.size, 0, none⟩)]) (by simp) (by simp [go_sem]) ?_
    refine (caughtD_panicking w.heap.size c q w1 HA.out).mono ?_
    rintro e u' w'' ⟨rfl, rfl, hA2, hg⟩
    refine ⟨.agg #[.int .i64 c, .int .i64 q], ?_, rfl, w1, HQ.out, hg⟩
    have b0 := (hA2.cell 0).trans rfl
    have b1 := (hA2.cell 1).trans rfl
    simp [results, Try.results20, go_sem, b0, b1]

theorem caught_WriteC (cap : Array Value) (w : World) (r : Option (Int × Int)) (Q : World → Prop)
    (hR : Calls Try.prog 24 cap (w.alloc (.cells #[.int .i64 0, .int .i64 0] 61)) (RunEnd r w.heap.size Q)) :
    Calls Try.prog 20 #[.func (.func 24) #[] cap] w fun en w' => en = .returned (.agg #[.int .i64 (errOf r), .int .i64 (atOf r)]) ∧ ∃ w1, Q w1 ∧ w1.grownBy w' (some w.heap.size) := by
  have hmf : ∀ (fn : Fn) (first cap : Array Value) (w : World), (Instr.makeFunc fn first cap).run Try.prog w = .ok (.func fn first cap) w := fun _ _ _ _ => rfl
  go_enter_defers Try.func20, Try.ntmps20
  go_wp2_with fail
  refine hR.mono ?_
  rintro en w1 ⟨h1, hA, hq⟩
  have a0 := (hA.cell 0).trans rfl
  have a1 := (hA.cell 1).trans rfl
  have e0 := hA.free 0
  have e1 := hA.free 1
  have HA := Lib.hid hA
  have HQ := Lib.hid hq
  clear hA hq hR
  cases r with
  | none =>
    simp only at h1
    subst h1
    go_wp2_with fail
    refine leaves_cons (f := 28) (args := #[.pointer (some ⟨w.heap.size, 0, none⟩)]) (by simp) (by simp [go_sem]) ?_
    refine (caughtD_idle w.heap.size _).mono ?_
    rintro e u' w'' ⟨rfl, rfl, rfl⟩
    refine ⟨.agg #[.int .i64 0, .int .i64 0], ?_, rfl, w1, HQ.out, ?_⟩
    · simp [results, Try.results20, go_sem, a0, a1]
    · exact grown_set (grown_set (grown_refl w1 _) 0 _) 1 _
  | some x =>
    obtain ⟨c, q⟩ := x
    simp only at h1
    subst h1
    refine leaves_cons (f := 28) (args := #[.pointer (some ⟨w.heap.size, 0, none⟩)]) (by simp) (by simp [go_sem]) ?_
    refine (caughtD_panicking w.heap.size c q w1 HA.out).mono ?_
    rintro e u' w'' ⟨rfl, rfl, hA2, hg⟩
    refine ⟨.agg #[.int .i64 c, .int .i64 q], ?_, rfl, w1, HQ.out, hg⟩
    have b0 := (hA2.cell 0).trans rfl
    have b1 := (hA2.cell 1).trans rfl
    simp [results, Try.results20, go_sem, b0, b1]
end Go.Proofs.Ytbgmnfkfbiemaaa.W
