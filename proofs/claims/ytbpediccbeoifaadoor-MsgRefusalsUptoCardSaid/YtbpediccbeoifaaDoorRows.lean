/-
  NARROWER THAN 'FOR EVERY INPUT', by the rows' own cells (each row's printed sentence says how): MsgRefusals: laid.
  DERIVED. THE GIVEN ROWS OF THIS SEAT. 1 by the template 'for every input the law returns true; each argument reads behind the call as it read before'; 0 by the template 'total and deterministic' (their statements: YtbpediccbeoifaaDoorTotals.lean).
  GIVEN WITH THE SEED: the statements are not yours to turn. If you find one false, say at which input.
  Laid BY PROGRAM, IN A SANDBOX (cutbox-rows.mjs): the forced cells as the released guide's own fill.sh prints them over the translation 615939a7a234cdd7… (all of the seat's roots in one cut). By AI agents, Wed Nov 11 2026. No macro, syntax, notation, axiom, sorry.
-/
import Derived.Test.YtbpediccbeoifaaDoorChecked
import GoSem.Claim
import GoSem.ClaimJoined
import GoSem.ClaimMapViews
import Derived.JoinedTies
import Derived.KernelRfl
namespace Go.Proofs.YtbpediccbeoifaaDoor
/- THE CELL 'sum', in the pinned program and in every row, IS THE sha256 OF THE DUMP (.gsa) THAT YtbpediccbeoifaaDoorProg.lean LOADS. Nothing in Lean hashes anything: it is a label: what it is worth is what the hold of that sum in a sandbox is worth. -/
noncomputable def Tryd.pinned : Pinned := { name := "ytbpediccbeoifaadoor", sum := "615939a7a234cdd7daa8d850d1b8090d1a13d0a400265448f5827c624afb61d1", checked := Tryd.checked }
namespace Rows
def none {H : Type} : Left H := { results := [], args := [] }

/- WHAT THE LISTED PACKAGE-LEVEL VARIABLES READ AS WHEN THE CALL BEGINS. Each datum BY PROGRAM (the guide's laid-datum.mjs) off the statement by which the dump's own 'gosem.cut.vars' lays the variable. In a bare row this is a premise. The card (YtbpediccbeoifaaDoorCards.lean) ties it to the program's text. -/
def laid_roster_rosterref13_kinds {H : Type} : DataW H := .agg [.lit (.int .i64 0), .lit (.int .i64 (-1)), .lit (.int .i64 2), .lit (.int .i64 3), .lit (.int .i64 4), .lit (.int .i64 5), .lit (.int .i64 6), .lit (.int .i64 7), .lit (.int .i64 (-1)), .lit (.int .i64 8)]
def laid_roster_msg_replyTo {H : Type} : DataW H := .map [(.int .i64 0, .lit (.int .i64 0)), (.int .i64 2, .lit (.int .i64 2)), (.int .i64 3, .lit (.int .i64 3)), (.int .i64 4, .lit (.int .i64 4)), (.int .i64 5, .lit (.int .i64 5)), (.int .i64 6, .lit (.int .i64 6)), (.int .i64 7, .lit (.int .i64 7)), (.int .i64 9, .lit (.int .i64 8))]

/-- 'rosterlaw13.MsgRefusals': WHATEVER THE INPUT: true; the input reads as it did. -/
def msgRefusalsSpec : ChangeSpec := { name := "msgRefusals", fn := fun _ => fun
  | [d1, d2] => { results := [.lit (.bool true)], args := [d1, d2] }
  | _ => none }
def msgRefusalsRow : OpenClaim := { program := "ytbpediccbeoifaadoor", sum := "615939a7a234cdd7daa8d850d1b8090d1a13d0a400265448f5827c624afb61d1", func := "roster/rosterlaw13.MsgRefusals", spec := "msgRefusals", named := ["roster/rosterref13.kinds", "roster/msg.replyTo"], apart := false, laid := [("roster/rosterref13.kinds", laid_roster_rosterref13_kinds), ("roster/msg.replyTo", laid_roster_msg_replyTo)] }
def MsgRefusalsSaid : Prop := msgRefusalsRow.holds Tryd.pinned (OpenSpec.ofChange msgRefusalsSpec)

/-- ITS FALSE NEIGHBOUR: 'it returns false'. Refute it at one input. -/
def msgRefusalsWrong : ChangeSpec := { name := "msgRefusals", fn := fun _ => fun
  | [d1, d2] => { results := [.lit (.bool false)], args := [d1, d2] }
  | _ => none }
def MsgRefusalsWrongFalsely : Prop := msgRefusalsRow.holds Tryd.pinned (OpenSpec.ofChange msgRefusalsWrong)

/- THE SECOND FORM. 'bulk': how many values and letters a reading holds, each counted each time it is reached (what is shared counts as often as it is met; a slice's spare places count too). A statement '..UptoSaid' is the law's where the arguments, and the package variables that the reading takes, are together of bulk at most 1048576: NARROWER than '..Said'. Prove '..Said' where nothing that the law and all that it calls make is longer than what came in: it says more and counts as full. Else prove '..UptoSaid'. A law counts once. -/
mutual
def uptoBulk {H : Type} : DataW H → Nat
  | .lit (.string bytes) => bytes.length + 1
  | .lit _ => 1
  | .nil => 1
  | .ptr d => uptoBulk d + 1
  | .slice elems spare => uptoBulkAll elems + uptoBulkAll spare + 1
  | .agg parts => uptoBulkAll parts + 1
  | .iface _ d => uptoBulk d + 1
  | .map entries => uptoBulkEntries entries + 1
  | .held _ => 1
def uptoBulkAll {H : Type} : List (DataW H) → Nat
  | [] => 0
  | d :: r => uptoBulk d + uptoBulkAll r
def uptoBulkEntries {H : Type} : List (Lit × DataW H) → Nat
  | [] => 0
  | x :: r => uptoBulkEntry x + uptoBulkEntries r
def uptoBulkEntry {H : Type} : Lit × DataW H → Nat
  | (.string bytes, d) => bytes.length + uptoBulk d + 1
  | (_, d) => uptoBulk d + 1
 end
def uptoSmall : (H : Type) → List (DataW H) → Bool := fun _ ds => decide (uptoBulkAll ds ≤ 1048576)
def OpenSpec.upto (s : _root_.Go.ChangeSpec) : _root_.Go.OpenSpec := { _root_.Go.OpenSpec.ofChange s with cond := some uptoSmall }

/-- 'rosterlaw13.MsgRefusals', WHERE WHAT IT READS IS OF BULK AT MOST 1048576: true; the input reads as it did. -/
def msgRefusalsUptoRow : OpenClaim := { program := "ytbpediccbeoifaadoor", sum := "615939a7a234cdd7daa8d850d1b8090d1a13d0a400265448f5827c624afb61d1", func := "roster/rosterlaw13.MsgRefusals", spec := "msgRefusals", named := ["roster/rosterref13.kinds", "roster/msg.replyTo"], apart := false, laid := [("roster/rosterref13.kinds", laid_roster_rosterref13_kinds), ("roster/msg.replyTo", laid_roster_msg_replyTo)], narrowed := true }
def MsgRefusalsUptoSaid : Prop := msgRefusalsUptoRow.holds Tryd.pinned (OpenSpec.upto msgRefusalsSpec)

end Rows
end Go.Proofs.YtbpediccbeoifaaDoor
