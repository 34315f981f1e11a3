/-
  No cell of these rows narrows 'for every input' (looked for: loops, veiled, ifaces, maps, wideKeys, modest, calm, conditions, laid).
  DERIVED. THE GIVEN ROWS OF THIS SEAT. 4 by the template 'for every input the law returns true; each argument reads behind the call as it read before'; 0 by the template 'total and deterministic' (their statements: YtakcnckiakjpiaaTotals.lean).
  GIVEN WITH THE SEED: the statements are not yours to turn. If you find one false, say at which input.
  Laid BY PROGRAM, IN A SANDBOX (cutbox-rows.mjs): the forced cells as the released guide's own fill.sh prints them over the translation 96548b73e7b7909b… (all of the seat's roots in one cut). By AI agents, Wed Nov 11 2026. No macro, syntax, notation, axiom, sorry.
-/
import Derived.Test.YtakcnckiakjpiaaChecked
import GoSem.Claim
import GoSem.ClaimJoined
import GoSem.ClaimMapViews
import Derived.JoinedTies
import Derived.KernelRfl
namespace Go.Proofs.Ytakcnckiakjpiaa
/- THE CELL 'sum', in the pinned program and in every row, IS THE sha256 OF THE DUMP (.gsa) THAT YtakcnckiakjpiaaProg.lean LOADS. Nothing in Lean hashes anything: it is a label: what it is worth is what the hold of that sum in a sandbox is worth. -/
noncomputable def Try.pinned : Pinned := { name := "ytakcnckiakjpiaa", sum := "96548b73e7b7909bed029be9202ab8001aee5d508e235aeeaa2ee2b5e1e1065d", checked := Try.checked }
namespace Rows
def none {H : Type} : Left H := { results := [], args := [] }

/-- 'rosterlaw02.BerWrite': WHATEVER THE INPUT: true; the input reads as it did. -/
def berWriteSpec : ChangeSpec := { name := "berWrite", fn := fun _ => fun
  | [d] => { results := [.lit (.bool true)], args := [d] }
  | _ => none }
def berWriteRow : OpenClaim := { program := "ytakcnckiakjpiaa", sum := "96548b73e7b7909bed029be9202ab8001aee5d508e235aeeaa2ee2b5e1e1065d", func := "roster/rosterlaw02.BerWrite", spec := "berWrite", unfollowed := true, recurses := true, apart := false }
def BerWriteSaid : Prop := berWriteRow.holds Try.pinned (OpenSpec.ofChange berWriteSpec)

/-- ITS FALSE NEIGHBOUR: 'it returns false'. Refute it at one input. -/
def berWriteWrong : ChangeSpec := { name := "berWrite", fn := fun _ => fun
  | [d] => { results := [.lit (.bool false)], args := [d] }
  | _ => none }
def BerWriteWrongFalsely : Prop := berWriteRow.holds Try.pinned (OpenSpec.ofChange berWriteWrong)

/-- 'rosterlaw02.BerJoin': WHATEVER THE INPUT: true; the input reads as it did. -/
def berJoinSpec : ChangeSpec := { name := "berJoin", fn := fun _ => fun
  | [d] => { results := [.lit (.bool true)], args := [d] }
  | _ => none }
def berJoinRow : OpenClaim := { program := "ytakcnckiakjpiaa", sum := "96548b73e7b7909bed029be9202ab8001aee5d508e235aeeaa2ee2b5e1e1065d", func := "roster/rosterlaw02.BerJoin", spec := "berJoin", unfollowed := true, recurses := true, apart := false }
def BerJoinSaid : Prop := berJoinRow.holds Try.pinned (OpenSpec.ofChange berJoinSpec)

/-- ITS FALSE NEIGHBOUR: 'it returns false'. Refute it at one input. -/
def berJoinWrong : ChangeSpec := { name := "berJoin", fn := fun _ => fun
  | [d] => { results := [.lit (.bool false)], args := [d] }
  | _ => none }
def BerJoinWrongFalsely : Prop := berJoinRow.holds Try.pinned (OpenSpec.ofChange berJoinWrong)

/-- 'rosterlaw02.BerKids': WHATEVER THE INPUT: true; the input reads as it did. -/
def berKidsSpec : ChangeSpec := { name := "berKids", fn := fun _ => fun
  | [d] => { results := [.lit (.bool true)], args := [d] }
  | _ => none }
def berKidsRow : OpenClaim := { program := "ytakcnckiakjpiaa", sum := "96548b73e7b7909bed029be9202ab8001aee5d508e235aeeaa2ee2b5e1e1065d", func := "roster/rosterlaw02.BerKids", spec := "berKids", unfollowed := true, recurses := true, apart := false }
def BerKidsSaid : Prop := berKidsRow.holds Try.pinned (OpenSpec.ofChange berKidsSpec)

/-- ITS FALSE NEIGHBOUR: 'it returns false'. Refute it at one input. -/
def berKidsWrong : ChangeSpec := { name := "berKids", fn := fun _ => fun
  | [d] => { results := [.lit (.bool false)], args := [d] }
  | _ => none }
def BerKidsWrongFalsely : Prop := berKidsRow.holds Try.pinned (OpenSpec.ofChange berKidsWrong)

/-- 'rosterlaw02.BerForms': WHATEVER THE INPUT: true; the input reads as it did. -/
def berFormsSpec : ChangeSpec := { name := "berForms", fn := fun _ => fun
  | [d1, d2] => { results := [.lit (.bool true)], args := [d1, d2] }
  | _ => none }
def berFormsRow : OpenClaim := { program := "ytakcnckiakjpiaa", sum := "96548b73e7b7909bed029be9202ab8001aee5d508e235aeeaa2ee2b5e1e1065d", func := "roster/rosterlaw02.BerForms", spec := "berForms", unfollowed := true, recurses := true, apart := false }
def BerFormsSaid : Prop := berFormsRow.holds Try.pinned (OpenSpec.ofChange berFormsSpec)

/-- ITS FALSE NEIGHBOUR: 'it returns false'. Refute it at one input. -/
def berFormsWrong : ChangeSpec := { name := "berForms", fn := fun _ => fun
  | [d1, d2] => { results := [.lit (.bool false)], args := [d1, d2] }
  | _ => none }
def BerFormsWrongFalsely : Prop := berFormsRow.holds Try.pinned (OpenSpec.ofChange berFormsWrong)

/- THE SECOND FORM. 'bulk': how many values and letters a reading holds, each counted each time it is reached (what is shared counts as often as it is met; a slice's spare places count too). A statement '..UptoSaid' is the law's where the arguments, and the package variables that the reading takes, are together of bulk at most 1048576: NARROWER than '..Said'. Prove '..Said' where nothing that the law and all that it calls make is longer than what came in: it says more and counts as full. Else prove '..UptoSaid'. A law counts once. -/
mutual
def uptoBulk {H : Type} : DataW H → Nat
  | .lit (.string bytes) => bytes.length + 1
  | .lit _ => 1
  | .nil => 1
  | .ptr d => uptoBulk d + 1
  | .slice elems spare => uptoBulkAll elems + uptoBulkAll spare + 1
  | .agg parts => uptoBulkAll parts + 1
  | .iface _ d => uptoBulk d + 1
  | .map entries => uptoBulkEntries entries + 1
  | .held _ => 1
def uptoBulkAll {H : Type} : List (DataW H) → Nat
  | [] => 0
  | d :: r => uptoBulk d + uptoBulkAll r
def uptoBulkEntries {H : Type} : List (Lit × DataW H) → Nat
  | [] => 0
  | x :: r => uptoBulkEntry x + uptoBulkEntries r
def uptoBulkEntry {H : Type} : Lit × DataW H → Nat
  | (.string bytes, d) => bytes.length + uptoBulk d + 1
  | (_, d) => uptoBulk d + 1
 end
def uptoSmall : (H : Type) → List (DataW H) → Bool := fun _ ds => decide (uptoBulkAll ds ≤ 1048576)
def OpenSpec.upto (s : _root_.Go.ChangeSpec) : _root_.Go.OpenSpec := { _root_.Go.OpenSpec.ofChange s with cond := some uptoSmall }

/-- 'rosterlaw02.BerWrite', WHERE WHAT IT READS IS OF BULK AT MOST 1048576: true; the input reads as it did. -/
def berWriteUptoRow : OpenClaim := { program := "ytakcnckiakjpiaa", sum := "96548b73e7b7909bed029be9202ab8001aee5d508e235aeeaa2ee2b5e1e1065d", func := "roster/rosterlaw02.BerWrite", spec := "berWrite", unfollowed := true, recurses := true, apart := false, narrowed := true }
def BerWriteUptoSaid : Prop := berWriteUptoRow.holds Try.pinned (OpenSpec.upto berWriteSpec)

/-- 'rosterlaw02.BerJoin', WHERE WHAT IT READS IS OF BULK AT MOST 1048576: true; the input reads as it did. -/
def berJoinUptoRow : OpenClaim := { program := "ytakcnckiakjpiaa", sum := "96548b73e7b7909bed029be9202ab8001aee5d508e235aeeaa2ee2b5e1e1065d", func := "roster/rosterlaw02.BerJoin", spec := "berJoin", unfollowed := true, recurses := true, apart := false, narrowed := true }
def BerJoinUptoSaid : Prop := berJoinUptoRow.holds Try.pinned (OpenSpec.upto berJoinSpec)

/-- 'rosterlaw02.BerKids', WHERE WHAT IT READS IS OF BULK AT MOST 1048576: true; the input reads as it did. -/
def berKidsUptoRow : OpenClaim := { program := "ytakcnckiakjpiaa", sum := "96548b73e7b7909bed029be9202ab8001aee5d508e235aeeaa2ee2b5e1e1065d", func := "roster/rosterlaw02.BerKids", spec := "berKids", unfollowed := true, recurses := true, apart := false, narrowed := true }
def BerKidsUptoSaid : Prop := berKidsUptoRow.holds Try.pinned (OpenSpec.upto berKidsSpec)

/-- 'rosterlaw02.BerForms', WHERE WHAT IT READS IS OF BULK AT MOST 1048576: true; the input reads as it did. -/
def berFormsUptoRow : OpenClaim := { program := "ytakcnckiakjpiaa", sum := "96548b73e7b7909bed029be9202ab8001aee5d508e235aeeaa2ee2b5e1e1065d", func := "roster/rosterlaw02.BerForms", spec := "berForms", unfollowed := true, recurses := true, apart := false, narrowed := true }
def BerFormsUptoSaid : Prop := berFormsUptoRow.holds Try.pinned (OpenSpec.upto berFormsSpec)

end Rows
end Go.Proofs.Ytakcnckiakjpiaa
