/-
  No cell of these rows narrows 'for every input' (looked for: loops, veiled, ifaces, maps, wideKeys, modest, calm, conditions, laid).
  DERIVED. THE GIVEN ROWS OF THIS SEAT. 5 by the template 'for every input the law returns true; each argument reads behind the call as it read before'; 0 by the template 'total and deterministic' (their statements: YtbloccjogadlmaaTotals.lean).
  GIVEN WITH THE SEED: the statements are not yours to turn. If you find one false, say at which input.
  Laid BY PROGRAM, IN A SANDBOX (cutbox-rows.mjs): the forced cells as the released guide's own fill.sh prints them over the translation 06022d0d4fddfea9… (all of the seat's roots in one cut). By AI agents, Wed Nov 11 2026. No macro, syntax, notation, axiom, sorry.
-/
import Derived.Test.YtbloccjogadlmaaChecked
import GoSem.Claim
import GoSem.ClaimJoined
import GoSem.ClaimMapViews
import Derived.JoinedTies
import Derived.KernelRfl
namespace Go.Proofs.Ytbloccjogadlmaa
/- THE CELL 'sum', in the pinned program and in every row, IS THE sha256 OF THE DUMP (.gsa) THAT YtbloccjogadlmaaProg.lean LOADS. Nothing in Lean hashes anything: it is a label: what it is worth is what the hold of that sum in a sandbox is worth. -/
noncomputable def Try.pinned : Pinned := { name := "ytbloccjogadlmaa", sum := "06022d0d4fddfea9615990ee7b9c26d00951f6524864b7e5b8c3c7bbed1292fb", checked := Try.checked }
namespace Rows
def none {H : Type} : Left H := { results := [], args := [] }

/-- 'rosterlaw02.BerElems': WHATEVER THE INPUT: true; the input reads as it did. -/
def berElemsSpec : ChangeSpec := { name := "berElems", fn := fun _ => fun
  | [d1, d2] => { results := [.lit (.bool true)], args := [d1, d2] }
  | _ => none }
def berElemsRow : OpenClaim := { program := "ytbloccjogadlmaa", sum := "06022d0d4fddfea9615990ee7b9c26d00951f6524864b7e5b8c3c7bbed1292fb", func := "roster/rosterlaw02.BerElems", spec := "berElems", unfollowed := true, recurses := true, apart := false }
def BerElemsSaid : Prop := berElemsRow.holds Try.pinned (OpenSpec.ofChange berElemsSpec)

/-- ITS FALSE NEIGHBOUR: 'it returns false'. Refute it at one input. -/
def berElemsWrong : ChangeSpec := { name := "berElems", fn := fun _ => fun
  | [d1, d2] => { results := [.lit (.bool false)], args := [d1, d2] }
  | _ => none }
def BerElemsWrongFalsely : Prop := berElemsRow.holds Try.pinned (OpenSpec.ofChange berElemsWrong)

/-- 'rosterlaw02.BerPlaces': WHATEVER THE INPUT: true; the input reads as it did. -/
def berPlacesSpec : ChangeSpec := { name := "berPlaces", fn := fun _ => fun
  | [d1, d2] => { results := [.lit (.bool true)], args := [d1, d2] }
  | _ => none }
def berPlacesRow : OpenClaim := { program := "ytbloccjogadlmaa", sum := "06022d0d4fddfea9615990ee7b9c26d00951f6524864b7e5b8c3c7bbed1292fb", func := "roster/rosterlaw02.BerPlaces", spec := "berPlaces", unfollowed := true, recurses := true, apart := false }
def BerPlacesSaid : Prop := berPlacesRow.holds Try.pinned (OpenSpec.ofChange berPlacesSpec)

/-- ITS FALSE NEIGHBOUR: 'it returns false'. Refute it at one input. -/
def berPlacesWrong : ChangeSpec := { name := "berPlaces", fn := fun _ => fun
  | [d1, d2] => { results := [.lit (.bool false)], args := [d1, d2] }
  | _ => none }
def BerPlacesWrongFalsely : Prop := berPlacesRow.holds Try.pinned (OpenSpec.ofChange berPlacesWrong)

/-- 'rosterlaw02.BerTree': WHATEVER THE INPUT: true; the input reads as it did. -/
def berTreeSpec : ChangeSpec := { name := "berTree", fn := fun _ => fun
  | [d] => { results := [.lit (.bool true)], args := [d] }
  | _ => none }
def berTreeRow : OpenClaim := { program := "ytbloccjogadlmaa", sum := "06022d0d4fddfea9615990ee7b9c26d00951f6524864b7e5b8c3c7bbed1292fb", func := "roster/rosterlaw02.BerTree", spec := "berTree", unfollowed := true, recurses := true, apart := false }
def BerTreeSaid : Prop := berTreeRow.holds Try.pinned (OpenSpec.ofChange berTreeSpec)

/-- ITS FALSE NEIGHBOUR: 'it returns false'. Refute it at one input. -/
def berTreeWrong : ChangeSpec := { name := "berTree", fn := fun _ => fun
  | [d] => { results := [.lit (.bool false)], args := [d] }
  | _ => none }
def BerTreeWrongFalsely : Prop := berTreeRow.holds Try.pinned (OpenSpec.ofChange berTreeWrong)

/-- 'rosterlaw02.BerSplit': WHATEVER THE INPUT: true; the input reads as it did. -/
def berSplitSpec : ChangeSpec := { name := "berSplit", fn := fun _ => fun
  | [d] => { results := [.lit (.bool true)], args := [d] }
  | _ => none }
def berSplitRow : OpenClaim := { program := "ytbloccjogadlmaa", sum := "06022d0d4fddfea9615990ee7b9c26d00951f6524864b7e5b8c3c7bbed1292fb", func := "roster/rosterlaw02.BerSplit", spec := "berSplit", unfollowed := true, recurses := true, apart := false }
def BerSplitSaid : Prop := berSplitRow.holds Try.pinned (OpenSpec.ofChange berSplitSpec)

/-- ITS FALSE NEIGHBOUR: 'it returns false'. Refute it at one input. -/
def berSplitWrong : ChangeSpec := { name := "berSplit", fn := fun _ => fun
  | [d] => { results := [.lit (.bool false)], args := [d] }
  | _ => none }
def BerSplitWrongFalsely : Prop := berSplitRow.holds Try.pinned (OpenSpec.ofChange berSplitWrong)

/-- 'rosterlaw02.BerForms': WHATEVER THE INPUT: true; the input reads as it did. -/
def berFormsSpec : ChangeSpec := { name := "berForms", fn := fun _ => fun
  | [d1, d2] => { results := [.lit (.bool true)], args := [d1, d2] }
  | _ => none }
def berFormsRow : OpenClaim := { program := "ytbloccjogadlmaa", sum := "06022d0d4fddfea9615990ee7b9c26d00951f6524864b7e5b8c3c7bbed1292fb", func := "roster/rosterlaw02.BerForms", spec := "berForms", unfollowed := true, recurses := true, apart := false }
def BerFormsSaid : Prop := berFormsRow.holds Try.pinned (OpenSpec.ofChange berFormsSpec)

/-- ITS FALSE NEIGHBOUR: 'it returns false'. Refute it at one input. -/
def berFormsWrong : ChangeSpec := { name := "berForms", fn := fun _ => fun
  | [d1, d2] => { results := [.lit (.bool false)], args := [d1, d2] }
  | _ => none }
def BerFormsWrongFalsely : Prop := berFormsRow.holds Try.pinned (OpenSpec.ofChange berFormsWrong)

/- THE SECOND FORM. 'bulk': how many values and letters a reading holds, each counted each time it is reached (what is shared counts as often as it is met; a slice's spare places count too). A statement '..UptoSaid' is the law's where the arguments, and the package variables that the reading takes, are together of bulk at most 1048576: NARROWER than '..Said'. Prove '..Said' where nothing that the law and all that it calls make is longer than what came in: it says more and counts as full. Else prove '..UptoSaid'. A law counts once. -/
mutual
def uptoBulk {H : Type} : DataW H → Nat
  | .lit (.string bytes) => bytes.length + 1
  | .lit _ => 1
  | .nil => 1
  | .ptr d => uptoBulk d + 1
  | .slice elems spare => uptoBulkAll elems + uptoBulkAll spare + 1
  | .agg parts => uptoBulkAll parts + 1
  | .iface _ d => uptoBulk d + 1
  | .map entries => uptoBulkEntries entries + 1
  | .held _ => 1
def uptoBulkAll {H : Type} : List (DataW H) → Nat
  | [] => 0
  | d :: r => uptoBulk d + uptoBulkAll r
def uptoBulkEntries {H : Type} : List (Lit × DataW H) → Nat
  | [] => 0
  | x :: r => uptoBulkEntry x + uptoBulkEntries r
def uptoBulkEntry {H : Type} : Lit × DataW H → Nat
  | (.string bytes, d) => bytes.length + uptoBulk d + 1
  | (_, d) => uptoBulk d + 1
 end
def uptoSmall : (H : Type) → List (DataW H) → Bool := fun _ ds => decide (uptoBulkAll ds ≤ 1048576)
def OpenSpec.upto (s : _root_.Go.ChangeSpec) : _root_.Go.OpenSpec := { _root_.Go.OpenSpec.ofChange s with cond := some uptoSmall }

/-- 'rosterlaw02.BerElems', WHERE WHAT IT READS IS OF BULK AT MOST 1048576: true; the input reads as it did. -/
def berElemsUptoRow : OpenClaim := { program := "ytbloccjogadlmaa", sum := "06022d0d4fddfea9615990ee7b9c26d00951f6524864b7e5b8c3c7bbed1292fb", func := "roster/rosterlaw02.BerElems", spec := "berElems", unfollowed := true, recurses := true, apart := false, narrowed := true }
def BerElemsUptoSaid : Prop := berElemsUptoRow.holds Try.pinned (OpenSpec.upto berElemsSpec)

/-- 'rosterlaw02.BerPlaces', WHERE WHAT IT READS IS OF BULK AT MOST 1048576: true; the input reads as it did. -/
def berPlacesUptoRow : OpenClaim := { program := "ytbloccjogadlmaa", sum := "06022d0d4fddfea9615990ee7b9c26d00951f6524864b7e5b8c3c7bbed1292fb", func := "roster/rosterlaw02.BerPlaces", spec := "berPlaces", unfollowed := true, recurses := true, apart := false, narrowed := true }
def BerPlacesUptoSaid : Prop := berPlacesUptoRow.holds Try.pinned (OpenSpec.upto berPlacesSpec)

/-- 'rosterlaw02.BerTree', WHERE WHAT IT READS IS OF BULK AT MOST 1048576: true; the input reads as it did. -/
def berTreeUptoRow : OpenClaim := { program := "ytbloccjogadlmaa", sum := "06022d0d4fddfea9615990ee7b9c26d00951f6524864b7e5b8c3c7bbed1292fb", func := "roster/rosterlaw02.BerTree", spec := "berTree", unfollowed := true, recurses := true, apart := false, narrowed := true }
def BerTreeUptoSaid : Prop := berTreeUptoRow.holds Try.pinned (OpenSpec.upto berTreeSpec)

/-- 'rosterlaw02.BerSplit', WHERE WHAT IT READS IS OF BULK AT MOST 1048576: true; the input reads as it did. -/
def berSplitUptoRow : OpenClaim := { program := "ytbloccjogadlmaa", sum := "06022d0d4fddfea9615990ee7b9c26d00951f6524864b7e5b8c3c7bbed1292fb", func := "roster/rosterlaw02.BerSplit", spec := "berSplit", unfollowed := true, recurses := true, apart := false, narrowed := true }
def BerSplitUptoSaid : Prop := berSplitUptoRow.holds Try.pinned (OpenSpec.upto berSplitSpec)

/-- 'rosterlaw02.BerForms', WHERE WHAT IT READS IS OF BULK AT MOST 1048576: true; the input reads as it did. -/
def berFormsUptoRow : OpenClaim := { program := "ytbloccjogadlmaa", sum := "06022d0d4fddfea9615990ee7b9c26d00951f6524864b7e5b8c3c7bbed1292fb", func := "roster/rosterlaw02.BerForms", spec := "berForms", unfollowed := true, recurses := true, apart := false, narrowed := true }
def BerFormsUptoSaid : Prop := berFormsUptoRow.holds Try.pinned (OpenSpec.upto berFormsSpec)

end Rows
end Go.Proofs.Ytbloccjogadlmaa
