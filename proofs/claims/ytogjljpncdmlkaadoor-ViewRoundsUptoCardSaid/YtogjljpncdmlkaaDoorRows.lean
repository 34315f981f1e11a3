/-
  NARROWER THAN 'FOR EVERY INPUT', by the rows' own cells (each row's printed sentence says how): ViewWires: laid · ViewRounds: laid.
  DERIVED. THE GIVEN ROWS OF THIS SEAT. 2 by the template 'for every input the law returns true; each argument reads behind the call as it read before'; 0 by the template 'total and deterministic' (their statements: YtogjljpncdmlkaaDoorTotals.lean).
  GIVEN WITH THE SEED: the statements are not yours to turn. If you find one false, say at which input.
  Laid BY PROGRAM, IN A SANDBOX (cutbox-rows.mjs): the forced cells as the released guide's own fill.sh prints them over the translation c77dfdb3db93af26… (all of the seat's roots in one cut). By AI agents, Wed Nov 11 2026. No macro, syntax, notation, axiom, sorry.
-/
import Derived.Test.YtogjljpncdmlkaaDoorChecked
import GoSem.Claim
import GoSem.ClaimJoined
import GoSem.ClaimMapViews
import Derived.JoinedTies
import Derived.KernelRfl
namespace Go.Proofs.YtogjljpncdmlkaaDoor
/- THE CELL 'sum', in the pinned program and in every row, IS THE sha256 OF THE DUMP (.gsa) THAT YtogjljpncdmlkaaDoorProg.lean LOADS. Nothing in Lean hashes anything: it is a label: what it is worth is what the hold of that sum in a sandbox is worth. -/
noncomputable def Tryd.pinned : Pinned := { name := "ytogjljpncdmlkaadoor", sum := "c77dfdb3db93af26fc1a5add8660a8d220e951b902378418a918b636aff022f6", checked := Tryd.checked }
namespace Rows
def none {H : Type} : Left H := { results := [], args := [] }

/- WHAT THE LISTED PACKAGE-LEVEL VARIABLES READ AS WHEN THE CALL BEGINS. Each datum BY PROGRAM (the guide's laid-datum.mjs) off the statement by which the dump's own 'gosem.cut.vars' lays the variable. In a bare row this is a premise. The card (YtogjljpncdmlkaaDoorCards.lean) ties it to the program's text. -/
def laid_roster_rosterref01_rows {H : Type} : DataW H := .agg [.agg [.lit (.int .i64 1), .lit (.int .i64 0), .lit (.int .i64 127), .lit (.int .i64 0), .lit (.int .i64 0), .lit (.int .i64 0), .lit (.int .i64 0), .lit (.int .i64 0), .lit (.int .i64 0)], .agg [.lit (.int .i64 2), .lit (.int .i64 194), .lit (.int .i64 223), .lit (.int .i64 128), .lit (.int .i64 191), .lit (.int .i64 0), .lit (.int .i64 0), .lit (.int .i64 0), .lit (.int .i64 0)], .agg [.lit (.int .i64 3), .lit (.int .i64 224), .lit (.int .i64 224), .lit (.int .i64 160), .lit (.int .i64 191), .lit (.int .i64 128), .lit (.int .i64 191), .lit (.int .i64 0), .lit (.int .i64 0)], .agg [.lit (.int .i64 3), .lit (.int .i64 225), .lit (.int .i64 236), .lit (.int .i64 128), .lit (.int .i64 191), .lit (.int .i64 128), .lit (.int .i64 191), .lit (.int .i64 0), .lit (.int .i64 0)], .agg [.lit (.int .i64 3), .lit (.int .i64 237), .lit (.int .i64 237), .lit (.int .i64 128), .lit (.int .i64 159), .lit (.int .i64 128), .lit (.int .i64 191), .lit (.int .i64 0), .lit (.int .i64 0)], .agg [.lit (.int .i64 3), .lit (.int .i64 238), .lit (.int .i64 239), .lit (.int .i64 128), .lit (.int .i64 191), .lit (.int .i64 128), .lit (.int .i64 191), .lit (.int .i64 0), .lit (.int .i64 0)], .agg [.lit (.int .i64 4), .lit (.int .i64 240), .lit (.int .i64 240), .lit (.int .i64 144), .lit (.int .i64 191), .lit (.int .i64 128), .lit (.int .i64 191), .lit (.int .i64 128), .lit (.int .i64 191)], .agg [.lit (.int .i64 4), .lit (.int .i64 241), .lit (.int .i64 243), .lit (.int .i64 128), .lit (.int .i64 191), .lit (.int .i64 128), .lit (.int .i64 191), .lit (.int .i64 128), .lit (.int .i64 191)], .agg [.lit (.int .i64 4), .lit (.int .i64 244), .lit (.int .i64 244), .lit (.int .i64 128), .lit (.int .i64 143), .lit (.int .i64 128), .lit (.int .i64 191), .lit (.int .i64 128), .lit (.int .i64 191)]]

/-- 'rosterlaw22.ViewWires': WHATEVER THE INPUT: true; the input reads as it did. -/
def viewWiresSpec : ChangeSpec := { name := "viewWires", fn := fun _ => fun
  | [d1, d2, d3, d4] => { results := [.lit (.bool true)], args := [d1, d2, d3, d4] }
  | _ => none }
def viewWiresRow : OpenClaim := { program := "ytogjljpncdmlkaadoor", sum := "c77dfdb3db93af26fc1a5add8660a8d220e951b902378418a918b636aff022f6", func := "roster/rosterlaw22.ViewWires", spec := "viewWires", unfollowed := true, recurses := true, named := ["roster/rosterref01.rows"], apart := false, laid := [("roster/rosterref01.rows", laid_roster_rosterref01_rows)] }
def ViewWiresSaid : Prop := viewWiresRow.holds Tryd.pinned (OpenSpec.ofChange viewWiresSpec)

/-- ITS FALSE NEIGHBOUR: 'it returns false'. Refute it at one input. -/
def viewWiresWrong : ChangeSpec := { name := "viewWires", fn := fun _ => fun
  | [d1, d2, d3, d4] => { results := [.lit (.bool false)], args := [d1, d2, d3, d4] }
  | _ => none }
def ViewWiresWrongFalsely : Prop := viewWiresRow.holds Tryd.pinned (OpenSpec.ofChange viewWiresWrong)

/-- 'rosterlaw22.ViewRounds': WHATEVER THE INPUT: true; the input reads as it did. -/
def viewRoundsSpec : ChangeSpec := { name := "viewRounds", fn := fun _ => fun
  | [d1, d2, d3, d4] => { results := [.lit (.bool true)], args := [d1, d2, d3, d4] }
  | _ => none }
def viewRoundsRow : OpenClaim := { program := "ytogjljpncdmlkaadoor", sum := "c77dfdb3db93af26fc1a5add8660a8d220e951b902378418a918b636aff022f6", func := "roster/rosterlaw22.ViewRounds", spec := "viewRounds", unfollowed := true, recurses := true, named := ["roster/rosterref01.rows"], apart := false, laid := [("roster/rosterref01.rows", laid_roster_rosterref01_rows)] }
def ViewRoundsSaid : Prop := viewRoundsRow.holds Tryd.pinned (OpenSpec.ofChange viewRoundsSpec)

/-- ITS FALSE NEIGHBOUR: 'it returns false'. Refute it at one input. -/
def viewRoundsWrong : ChangeSpec := { name := "viewRounds", fn := fun _ => fun
  | [d1, d2, d3, d4] => { results := [.lit (.bool false)], args := [d1, d2, d3, d4] }
  | _ => none }
def ViewRoundsWrongFalsely : Prop := viewRoundsRow.holds Tryd.pinned (OpenSpec.ofChange viewRoundsWrong)

/- THE SECOND FORM. 'bulk': how many values and letters a reading holds, each counted each time it is reached (what is shared counts as often as it is met; a slice's spare places count too). A statement '..UptoSaid' is the law's where the arguments, and the package variables that the reading takes, are together of bulk at most 1048576: NARROWER than '..Said'. Prove '..Said' where nothing that the law and all that it calls make is longer than what came in: it says more and counts as full. Else prove '..UptoSaid'. A law counts once. -/
mutual
def uptoBulk {H : Type} : DataW H → Nat
  | .lit (.string bytes) => bytes.length + 1
  | .lit _ => 1
  | .nil => 1
  | .ptr d => uptoBulk d + 1
  | .slice elems spare => uptoBulkAll elems + uptoBulkAll spare + 1
  | .agg parts => uptoBulkAll parts + 1
  | .iface _ d => uptoBulk d + 1
  | .map entries => uptoBulkEntries entries + 1
  | .held _ => 1
def uptoBulkAll {H : Type} : List (DataW H) → Nat
  | [] => 0
  | d :: r => uptoBulk d + uptoBulkAll r
def uptoBulkEntries {H : Type} : List (Lit × DataW H) → Nat
  | [] => 0
  | x :: r => uptoBulkEntry x + uptoBulkEntries r
def uptoBulkEntry {H : Type} : Lit × DataW H → Nat
  | (.string bytes, d) => bytes.length + uptoBulk d + 1
  | (_, d) => uptoBulk d + 1
 end
def uptoSmall : (H : Type) → List (DataW H) → Bool := fun _ ds => decide (uptoBulkAll ds ≤ 1048576)
def OpenSpec.upto (s : _root_.Go.ChangeSpec) : _root_.Go.OpenSpec := { _root_.Go.OpenSpec.ofChange s with cond := some uptoSmall }

/-- 'rosterlaw22.ViewWires', WHERE WHAT IT READS IS OF BULK AT MOST 1048576: true; the input reads as it did. -/
def viewWiresUptoRow : OpenClaim := { program := "ytogjljpncdmlkaadoor", sum := "c77dfdb3db93af26fc1a5add8660a8d220e951b902378418a918b636aff022f6", func := "roster/rosterlaw22.ViewWires", spec := "viewWires", unfollowed := true, recurses := true, named := ["roster/rosterref01.rows"], apart := false, laid := [("roster/rosterref01.rows", laid_roster_rosterref01_rows)], narrowed := true }
def ViewWiresUptoSaid : Prop := viewWiresUptoRow.holds Tryd.pinned (OpenSpec.upto viewWiresSpec)

/-- 'rosterlaw22.ViewRounds', WHERE WHAT IT READS IS OF BULK AT MOST 1048576: true; the input reads as it did. -/
def viewRoundsUptoRow : OpenClaim := { program := "ytogjljpncdmlkaadoor", sum := "c77dfdb3db93af26fc1a5add8660a8d220e951b902378418a918b636aff022f6", func := "roster/rosterlaw22.ViewRounds", spec := "viewRounds", unfollowed := true, recurses := true, named := ["roster/rosterref01.rows"], apart := false, laid := [("roster/rosterref01.rows", laid_roster_rosterref01_rows)], narrowed := true }
def ViewRoundsUptoSaid : Prop := viewRoundsUptoRow.holds Tryd.pinned (OpenSpec.upto viewRoundsSpec)

end Rows
end Go.Proofs.YtogjljpncdmlkaaDoor
