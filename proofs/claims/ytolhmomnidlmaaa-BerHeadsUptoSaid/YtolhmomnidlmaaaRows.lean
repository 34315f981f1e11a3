/-
  No cell of these rows narrows 'for every input' (looked for: loops, veiled, ifaces, maps, wideKeys, modest, calm, conditions, laid).
  DERIVED. THE GIVEN ROWS OF THIS SEAT. 17 by the template 'for every input the law returns true; each argument reads behind the call as it read before'; 0 by the template 'total and deterministic' (their statements: YtolhmomnidlmaaaTotals.lean).
  GIVEN WITH THE SEED: the statements are not yours to turn. If you find one false, say at which input.
  Laid BY PROGRAM, IN A SANDBOX (cutbox-rows.mjs): the forced cells as the released guide's own fill.sh prints them over the translation 85dfa63b81a9a8ed… (all of the seat's roots in one cut). By AI agents, Wed Nov 11 2026. No macro, syntax, notation, axiom, sorry.
-/
import Derived.Test.YtolhmomnidlmaaaChecked
import GoSem.Claim
import GoSem.ClaimJoined
import GoSem.ClaimMapViews
import Derived.JoinedTies
import Derived.KernelRfl
namespace Go.Proofs.Ytolhmomnidlmaaa
/- THE CELL 'sum', in the pinned program and in every row, IS THE sha256 OF THE DUMP (.gsa) THAT YtolhmomnidlmaaaProg.lean LOADS. Nothing in Lean hashes anything: it is a label: what it is worth is what the hold of that sum in a sandbox is worth. -/
noncomputable def Try.pinned : Pinned := { name := "ytolhmomnidlmaaa", sum := "85dfa63b81a9a8edb1708d7a013062e12aa7370d22576147f14636139b7001e9", checked := Try.checked }
namespace Rows
def none {H : Type} : Left H := { results := [], args := [] }

/-- 'rosterlaw02.BerIntBack': WHATEVER THE INPUT: true; the input reads as it did. -/
def berIntBackSpec : ChangeSpec := { name := "berIntBack", fn := fun _ => fun
  | [d1, d2] => { results := [.lit (.bool true)], args := [d1, d2] }
  | _ => none }
def berIntBackRow : OpenClaim := { program := "ytolhmomnidlmaaa", sum := "85dfa63b81a9a8edb1708d7a013062e12aa7370d22576147f14636139b7001e9", func := "roster/rosterlaw02.BerIntBack", spec := "berIntBack", apart := false }
def BerIntBackSaid : Prop := berIntBackRow.holds Try.pinned (OpenSpec.ofChange berIntBackSpec)

/-- ITS FALSE NEIGHBOUR: 'it returns false'. Refute it at one input. -/
def berIntBackWrong : ChangeSpec := { name := "berIntBack", fn := fun _ => fun
  | [d1, d2] => { results := [.lit (.bool false)], args := [d1, d2] }
  | _ => none }
def BerIntBackWrongFalsely : Prop := berIntBackRow.holds Try.pinned (OpenSpec.ofChange berIntBackWrong)

/-- 'rosterlaw02.BerIntOnly': WHATEVER THE INPUT: true; the input reads as it did. -/
def berIntOnlySpec : ChangeSpec := { name := "berIntOnly", fn := fun _ => fun
  | [d] => { results := [.lit (.bool true)], args := [d] }
  | _ => none }
def berIntOnlyRow : OpenClaim := { program := "ytolhmomnidlmaaa", sum := "85dfa63b81a9a8edb1708d7a013062e12aa7370d22576147f14636139b7001e9", func := "roster/rosterlaw02.BerIntOnly", spec := "berIntOnly", apart := false }
def BerIntOnlySaid : Prop := berIntOnlyRow.holds Try.pinned (OpenSpec.ofChange berIntOnlySpec)

/-- ITS FALSE NEIGHBOUR: 'it returns false'. Refute it at one input. -/
def berIntOnlyWrong : ChangeSpec := { name := "berIntOnly", fn := fun _ => fun
  | [d] => { results := [.lit (.bool false)], args := [d] }
  | _ => none }
def BerIntOnlyWrongFalsely : Prop := berIntOnlyRow.holds Try.pinned (OpenSpec.ofChange berIntOnlyWrong)

/-- 'rosterlaw02.BerInt': WHATEVER THE INPUT: true; the input reads as it did. -/
def berIntSpec : ChangeSpec := { name := "berInt", fn := fun _ => fun
  | [d1, d2, d3] => { results := [.lit (.bool true)], args := [d1, d2, d3] }
  | _ => none }
def berIntRow : OpenClaim := { program := "ytolhmomnidlmaaa", sum := "85dfa63b81a9a8edb1708d7a013062e12aa7370d22576147f14636139b7001e9", func := "roster/rosterlaw02.BerInt", spec := "berInt", apart := false }
def BerIntSaid : Prop := berIntRow.holds Try.pinned (OpenSpec.ofChange berIntSpec)

/-- ITS FALSE NEIGHBOUR: 'it returns false'. Refute it at one input. -/
def berIntWrong : ChangeSpec := { name := "berInt", fn := fun _ => fun
  | [d1, d2, d3] => { results := [.lit (.bool false)], args := [d1, d2, d3] }
  | _ => none }
def BerIntWrongFalsely : Prop := berIntRow.holds Try.pinned (OpenSpec.ofChange berIntWrong)

/-- 'rosterlaw02.BerJoin': WHATEVER THE INPUT: true; the input reads as it did. -/
def berJoinSpec : ChangeSpec := { name := "berJoin", fn := fun _ => fun
  | [d] => { results := [.lit (.bool true)], args := [d] }
  | _ => none }
def berJoinRow : OpenClaim := { program := "ytolhmomnidlmaaa", sum := "85dfa63b81a9a8edb1708d7a013062e12aa7370d22576147f14636139b7001e9", func := "roster/rosterlaw02.BerJoin", spec := "berJoin", unfollowed := true, recurses := true, apart := false }
def BerJoinSaid : Prop := berJoinRow.holds Try.pinned (OpenSpec.ofChange berJoinSpec)

/-- ITS FALSE NEIGHBOUR: 'it returns false'. Refute it at one input. -/
def berJoinWrong : ChangeSpec := { name := "berJoin", fn := fun _ => fun
  | [d] => { results := [.lit (.bool false)], args := [d] }
  | _ => none }
def BerJoinWrongFalsely : Prop := berJoinRow.holds Try.pinned (OpenSpec.ofChange berJoinWrong)

/-- 'rosterlaw02.BerHead': WHATEVER THE INPUT: true; the input reads as it did. -/
def berHeadSpec : ChangeSpec := { name := "berHead", fn := fun _ => fun
  | [d] => { results := [.lit (.bool true)], args := [d] }
  | _ => none }
def berHeadRow : OpenClaim := { program := "ytolhmomnidlmaaa", sum := "85dfa63b81a9a8edb1708d7a013062e12aa7370d22576147f14636139b7001e9", func := "roster/rosterlaw02.BerHead", spec := "berHead", unfollowed := true, recurses := true, apart := false }
def BerHeadSaid : Prop := berHeadRow.holds Try.pinned (OpenSpec.ofChange berHeadSpec)

/-- ITS FALSE NEIGHBOUR: 'it returns false'. Refute it at one input. -/
def berHeadWrong : ChangeSpec := { name := "berHead", fn := fun _ => fun
  | [d] => { results := [.lit (.bool false)], args := [d] }
  | _ => none }
def BerHeadWrongFalsely : Prop := berHeadRow.holds Try.pinned (OpenSpec.ofChange berHeadWrong)

/-- 'rosterlaw02.BerHeads': WHATEVER THE INPUT: true; the input reads as it did. -/
def berHeadsSpec : ChangeSpec := { name := "berHeads", fn := fun _ => fun
  | [d1, d2, d3, d4] => { results := [.lit (.bool true)], args := [d1, d2, d3, d4] }
  | _ => none }
def berHeadsRow : OpenClaim := { program := "ytolhmomnidlmaaa", sum := "85dfa63b81a9a8edb1708d7a013062e12aa7370d22576147f14636139b7001e9", func := "roster/rosterlaw02.BerHeads", spec := "berHeads", unfollowed := true, recurses := true, apart := false }
def BerHeadsSaid : Prop := berHeadsRow.holds Try.pinned (OpenSpec.ofChange berHeadsSpec)

/-- ITS FALSE NEIGHBOUR: 'it returns false'. Refute it at one input. -/
def berHeadsWrong : ChangeSpec := { name := "berHeads", fn := fun _ => fun
  | [d1, d2, d3, d4] => { results := [.lit (.bool false)], args := [d1, d2, d3, d4] }
  | _ => none }
def BerHeadsWrongFalsely : Prop := berHeadsRow.holds Try.pinned (OpenSpec.ofChange berHeadsWrong)

/-- 'rosterlaw02.BerSplit': WHATEVER THE INPUT: true; the input reads as it did. -/
def berSplitSpec : ChangeSpec := { name := "berSplit", fn := fun _ => fun
  | [d] => { results := [.lit (.bool true)], args := [d] }
  | _ => none }
def berSplitRow : OpenClaim := { program := "ytolhmomnidlmaaa", sum := "85dfa63b81a9a8edb1708d7a013062e12aa7370d22576147f14636139b7001e9", func := "roster/rosterlaw02.BerSplit", spec := "berSplit", unfollowed := true, recurses := true, apart := false }
def BerSplitSaid : Prop := berSplitRow.holds Try.pinned (OpenSpec.ofChange berSplitSpec)

/-- ITS FALSE NEIGHBOUR: 'it returns false'. Refute it at one input. -/
def berSplitWrong : ChangeSpec := { name := "berSplit", fn := fun _ => fun
  | [d] => { results := [.lit (.bool false)], args := [d] }
  | _ => none }
def BerSplitWrongFalsely : Prop := berSplitRow.holds Try.pinned (OpenSpec.ofChange berSplitWrong)

/-- 'rosterlaw02.BerElems': WHATEVER THE INPUT: true; the input reads as it did. -/
def berElemsSpec : ChangeSpec := { name := "berElems", fn := fun _ => fun
  | [d1, d2] => { results := [.lit (.bool true)], args := [d1, d2] }
  | _ => none }
def berElemsRow : OpenClaim := { program := "ytolhmomnidlmaaa", sum := "85dfa63b81a9a8edb1708d7a013062e12aa7370d22576147f14636139b7001e9", func := "roster/rosterlaw02.BerElems", spec := "berElems", unfollowed := true, recurses := true, apart := false }
def BerElemsSaid : Prop := berElemsRow.holds Try.pinned (OpenSpec.ofChange berElemsSpec)

/-- ITS FALSE NEIGHBOUR: 'it returns false'. Refute it at one input. -/
def berElemsWrong : ChangeSpec := { name := "berElems", fn := fun _ => fun
  | [d1, d2] => { results := [.lit (.bool false)], args := [d1, d2] }
  | _ => none }
def BerElemsWrongFalsely : Prop := berElemsRow.holds Try.pinned (OpenSpec.ofChange berElemsWrong)

/-- 'rosterlaw02.BerPlaces': WHATEVER THE INPUT: true; the input reads as it did. -/
def berPlacesSpec : ChangeSpec := { name := "berPlaces", fn := fun _ => fun
  | [d1, d2] => { results := [.lit (.bool true)], args := [d1, d2] }
  | _ => none }
def berPlacesRow : OpenClaim := { program := "ytolhmomnidlmaaa", sum := "85dfa63b81a9a8edb1708d7a013062e12aa7370d22576147f14636139b7001e9", func := "roster/rosterlaw02.BerPlaces", spec := "berPlaces", unfollowed := true, recurses := true, apart := false }
def BerPlacesSaid : Prop := berPlacesRow.holds Try.pinned (OpenSpec.ofChange berPlacesSpec)

/-- ITS FALSE NEIGHBOUR: 'it returns false'. Refute it at one input. -/
def berPlacesWrong : ChangeSpec := { name := "berPlaces", fn := fun _ => fun
  | [d1, d2] => { results := [.lit (.bool false)], args := [d1, d2] }
  | _ => none }
def BerPlacesWrongFalsely : Prop := berPlacesRow.holds Try.pinned (OpenSpec.ofChange berPlacesWrong)

/-- 'rosterlaw02.BerWrite': WHATEVER THE INPUT: true; the input reads as it did. -/
def berWriteSpec : ChangeSpec := { name := "berWrite", fn := fun _ => fun
  | [d] => { results := [.lit (.bool true)], args := [d] }
  | _ => none }
def berWriteRow : OpenClaim := { program := "ytolhmomnidlmaaa", sum := "85dfa63b81a9a8edb1708d7a013062e12aa7370d22576147f14636139b7001e9", func := "roster/rosterlaw02.BerWrite", spec := "berWrite", unfollowed := true, recurses := true, apart := false }
def BerWriteSaid : Prop := berWriteRow.holds Try.pinned (OpenSpec.ofChange berWriteSpec)

/-- ITS FALSE NEIGHBOUR: 'it returns false'. Refute it at one input. -/
def berWriteWrong : ChangeSpec := { name := "berWrite", fn := fun _ => fun
  | [d] => { results := [.lit (.bool false)], args := [d] }
  | _ => none }
def BerWriteWrongFalsely : Prop := berWriteRow.holds Try.pinned (OpenSpec.ofChange berWriteWrong)

/-- 'rosterlaw02.BerTree': WHATEVER THE INPUT: true; the input reads as it did. -/
def berTreeSpec : ChangeSpec := { name := "berTree", fn := fun _ => fun
  | [d] => { results := [.lit (.bool true)], args := [d] }
  | _ => none }
def berTreeRow : OpenClaim := { program := "ytolhmomnidlmaaa", sum := "85dfa63b81a9a8edb1708d7a013062e12aa7370d22576147f14636139b7001e9", func := "roster/rosterlaw02.BerTree", spec := "berTree", unfollowed := true, recurses := true, apart := false }
def BerTreeSaid : Prop := berTreeRow.holds Try.pinned (OpenSpec.ofChange berTreeSpec)

/-- ITS FALSE NEIGHBOUR: 'it returns false'. Refute it at one input. -/
def berTreeWrong : ChangeSpec := { name := "berTree", fn := fun _ => fun
  | [d] => { results := [.lit (.bool false)], args := [d] }
  | _ => none }
def BerTreeWrongFalsely : Prop := berTreeRow.holds Try.pinned (OpenSpec.ofChange berTreeWrong)

/-- 'rosterlaw02.BerFronts': WHATEVER THE INPUT: true; the input reads as it did. -/
def berFrontsSpec : ChangeSpec := { name := "berFronts", fn := fun _ => fun
  | [d1, d2, d3, d4] => { results := [.lit (.bool true)], args := [d1, d2, d3, d4] }
  | _ => none }
def berFrontsRow : OpenClaim := { program := "ytolhmomnidlmaaa", sum := "85dfa63b81a9a8edb1708d7a013062e12aa7370d22576147f14636139b7001e9", func := "roster/rosterlaw02.BerFronts", spec := "berFronts", unfollowed := true, recurses := true, apart := false }
def BerFrontsSaid : Prop := berFrontsRow.holds Try.pinned (OpenSpec.ofChange berFrontsSpec)

/-- ITS FALSE NEIGHBOUR: 'it returns false'. Refute it at one input. -/
def berFrontsWrong : ChangeSpec := { name := "berFronts", fn := fun _ => fun
  | [d1, d2, d3, d4] => { results := [.lit (.bool false)], args := [d1, d2, d3, d4] }
  | _ => none }
def BerFrontsWrongFalsely : Prop := berFrontsRow.holds Try.pinned (OpenSpec.ofChange berFrontsWrong)

/-- 'rosterlaw02.BerOwn': WHATEVER THE INPUT: true; the input reads as it did. -/
def berOwnSpec : ChangeSpec := { name := "berOwn", fn := fun _ => fun
  | [d1, d2] => { results := [.lit (.bool true)], args := [d1, d2] }
  | _ => none }
def berOwnRow : OpenClaim := { program := "ytolhmomnidlmaaa", sum := "85dfa63b81a9a8edb1708d7a013062e12aa7370d22576147f14636139b7001e9", func := "roster/rosterlaw02.BerOwn", spec := "berOwn", unfollowed := true, recurses := true, apart := false }
def BerOwnSaid : Prop := berOwnRow.holds Try.pinned (OpenSpec.ofChange berOwnSpec)

/-- ITS FALSE NEIGHBOUR: 'it returns false'. Refute it at one input. -/
def berOwnWrong : ChangeSpec := { name := "berOwn", fn := fun _ => fun
  | [d1, d2] => { results := [.lit (.bool false)], args := [d1, d2] }
  | _ => none }
def BerOwnWrongFalsely : Prop := berOwnRow.holds Try.pinned (OpenSpec.ofChange berOwnWrong)

/-- 'rosterlaw02.BerNest': WHATEVER THE INPUT: true; the input reads as it did. -/
def berNestSpec : ChangeSpec := { name := "berNest", fn := fun _ => fun
  | [d1, d2, d3] => { results := [.lit (.bool true)], args := [d1, d2, d3] }
  | _ => none }
def berNestRow : OpenClaim := { program := "ytolhmomnidlmaaa", sum := "85dfa63b81a9a8edb1708d7a013062e12aa7370d22576147f14636139b7001e9", func := "roster/rosterlaw02.BerNest", spec := "berNest", unfollowed := true, recurses := true, apart := false }
def BerNestSaid : Prop := berNestRow.holds Try.pinned (OpenSpec.ofChange berNestSpec)

/-- ITS FALSE NEIGHBOUR: 'it returns false'. Refute it at one input. -/
def berNestWrong : ChangeSpec := { name := "berNest", fn := fun _ => fun
  | [d1, d2, d3] => { results := [.lit (.bool false)], args := [d1, d2, d3] }
  | _ => none }
def BerNestWrongFalsely : Prop := berNestRow.holds Try.pinned (OpenSpec.ofChange berNestWrong)

/-- 'rosterlaw02.BerKids': WHATEVER THE INPUT: true; the input reads as it did. -/
def berKidsSpec : ChangeSpec := { name := "berKids", fn := fun _ => fun
  | [d] => { results := [.lit (.bool true)], args := [d] }
  | _ => none }
def berKidsRow : OpenClaim := { program := "ytolhmomnidlmaaa", sum := "85dfa63b81a9a8edb1708d7a013062e12aa7370d22576147f14636139b7001e9", func := "roster/rosterlaw02.BerKids", spec := "berKids", unfollowed := true, recurses := true, apart := false }
def BerKidsSaid : Prop := berKidsRow.holds Try.pinned (OpenSpec.ofChange berKidsSpec)

/-- ITS FALSE NEIGHBOUR: 'it returns false'. Refute it at one input. -/
def berKidsWrong : ChangeSpec := { name := "berKids", fn := fun _ => fun
  | [d] => { results := [.lit (.bool false)], args := [d] }
  | _ => none }
def BerKidsWrongFalsely : Prop := berKidsRow.holds Try.pinned (OpenSpec.ofChange berKidsWrong)

/-- 'rosterlaw02.BerBack': WHATEVER THE INPUT: true; the input reads as it did. -/
def berBackSpec : ChangeSpec := { name := "berBack", fn := fun _ => fun
  | [d] => { results := [.lit (.bool true)], args := [d] }
  | _ => none }
def berBackRow : OpenClaim := { program := "ytolhmomnidlmaaa", sum := "85dfa63b81a9a8edb1708d7a013062e12aa7370d22576147f14636139b7001e9", func := "roster/rosterlaw02.BerBack", spec := "berBack", unfollowed := true, recurses := true, apart := false }
def BerBackSaid : Prop := berBackRow.holds Try.pinned (OpenSpec.ofChange berBackSpec)

/-- ITS FALSE NEIGHBOUR: 'it returns false'. Refute it at one input. -/
def berBackWrong : ChangeSpec := { name := "berBack", fn := fun _ => fun
  | [d] => { results := [.lit (.bool false)], args := [d] }
  | _ => none }
def BerBackWrongFalsely : Prop := berBackRow.holds Try.pinned (OpenSpec.ofChange berBackWrong)

/-- 'rosterlaw02.BerForms': WHATEVER THE INPUT: true; the input reads as it did. -/
def berFormsSpec : ChangeSpec := { name := "berForms", fn := fun _ => fun
  | [d1, d2] => { results := [.lit (.bool true)], args := [d1, d2] }
  | _ => none }
def berFormsRow : OpenClaim := { program := "ytolhmomnidlmaaa", sum := "85dfa63b81a9a8edb1708d7a013062e12aa7370d22576147f14636139b7001e9", func := "roster/rosterlaw02.BerForms", spec := "berForms", unfollowed := true, recurses := true, apart := false }
def BerFormsSaid : Prop := berFormsRow.holds Try.pinned (OpenSpec.ofChange berFormsSpec)

/-- ITS FALSE NEIGHBOUR: 'it returns false'. Refute it at one input. -/
def berFormsWrong : ChangeSpec := { name := "berForms", fn := fun _ => fun
  | [d1, d2] => { results := [.lit (.bool false)], args := [d1, d2] }
  | _ => none }
def BerFormsWrongFalsely : Prop := berFormsRow.holds Try.pinned (OpenSpec.ofChange berFormsWrong)

/- THE SECOND FORM. 'bulk': how many values and letters a reading holds, each counted each time it is reached (what is shared counts as often as it is met; a slice's spare places count too). A statement '..UptoSaid' is the law's where the arguments, and the package variables that the reading takes, are together of bulk at most 1048576: NARROWER than '..Said'. Prove '..Said' where nothing that the law and all that it calls make is longer than what came in: it says more and counts as full. Else prove '..UptoSaid'. A law counts once. -/
mutual
def uptoBulk {H : Type} : DataW H → Nat
  | .lit (.string bytes) => bytes.length + 1
  | .lit _ => 1
  | .nil => 1
  | .ptr d => uptoBulk d + 1
  | .slice elems spare => uptoBulkAll elems + uptoBulkAll spare + 1
  | .agg parts => uptoBulkAll parts + 1
  | .iface _ d => uptoBulk d + 1
  | .map entries => uptoBulkEntries entries + 1
  | .held _ => 1
def uptoBulkAll {H : Type} : List (DataW H) → Nat
  | [] => 0
  | d :: r => uptoBulk d + uptoBulkAll r
def uptoBulkEntries {H : Type} : List (Lit × DataW H) → Nat
  | [] => 0
  | x :: r => uptoBulkEntry x + uptoBulkEntries r
def uptoBulkEntry {H : Type} : Lit × DataW H → Nat
  | (.string bytes, d) => bytes.length + uptoBulk d + 1
  | (_, d) => uptoBulk d + 1
 end
def uptoSmall : (H : Type) → List (DataW H) → Bool := fun _ ds => decide (uptoBulkAll ds ≤ 1048576)
def OpenSpec.upto (s : _root_.Go.ChangeSpec) : _root_.Go.OpenSpec := { _root_.Go.OpenSpec.ofChange s with cond := some uptoSmall }

/-- 'rosterlaw02.BerIntBack', WHERE WHAT IT READS IS OF BULK AT MOST 1048576: true; the input reads as it did. -/
def berIntBackUptoRow : OpenClaim := { program := "ytolhmomnidlmaaa", sum := "85dfa63b81a9a8edb1708d7a013062e12aa7370d22576147f14636139b7001e9", func := "roster/rosterlaw02.BerIntBack", spec := "berIntBack", apart := false, narrowed := true }
def BerIntBackUptoSaid : Prop := berIntBackUptoRow.holds Try.pinned (OpenSpec.upto berIntBackSpec)

/-- 'rosterlaw02.BerIntOnly', WHERE WHAT IT READS IS OF BULK AT MOST 1048576: true; the input reads as it did. -/
def berIntOnlyUptoRow : OpenClaim := { program := "ytolhmomnidlmaaa", sum := "85dfa63b81a9a8edb1708d7a013062e12aa7370d22576147f14636139b7001e9", func := "roster/rosterlaw02.BerIntOnly", spec := "berIntOnly", apart := false, narrowed := true }
def BerIntOnlyUptoSaid : Prop := berIntOnlyUptoRow.holds Try.pinned (OpenSpec.upto berIntOnlySpec)

/-- 'rosterlaw02.BerInt', WHERE WHAT IT READS IS OF BULK AT MOST 1048576: true; the input reads as it did. -/
def berIntUptoRow : OpenClaim := { program := "ytolhmomnidlmaaa", sum := "85dfa63b81a9a8edb1708d7a013062e12aa7370d22576147f14636139b7001e9", func := "roster/rosterlaw02.BerInt", spec := "berInt", apart := false, narrowed := true }
def BerIntUptoSaid : Prop := berIntUptoRow.holds Try.pinned (OpenSpec.upto berIntSpec)

/-- 'rosterlaw02.BerJoin', WHERE WHAT IT READS IS OF BULK AT MOST 1048576: true; the input reads as it did. -/
def berJoinUptoRow : OpenClaim := { program := "ytolhmomnidlmaaa", sum := "85dfa63b81a9a8edb1708d7a013062e12aa7370d22576147f14636139b7001e9", func := "roster/rosterlaw02.BerJoin", spec := "berJoin", unfollowed := true, recurses := true, apart := false, narrowed := true }
def BerJoinUptoSaid : Prop := berJoinUptoRow.holds Try.pinned (OpenSpec.upto berJoinSpec)

/-- 'rosterlaw02.BerHead', WHERE WHAT IT READS IS OF BULK AT MOST 1048576: true; the input reads as it did. -/
def berHeadUptoRow : OpenClaim := { program := "ytolhmomnidlmaaa", sum := "85dfa63b81a9a8edb1708d7a013062e12aa7370d22576147f14636139b7001e9", func := "roster/rosterlaw02.BerHead", spec := "berHead", unfollowed := true, recurses := true, apart := false, narrowed := true }
def BerHeadUptoSaid : Prop := berHeadUptoRow.holds Try.pinned (OpenSpec.upto berHeadSpec)

/-- 'rosterlaw02.BerHeads', WHERE WHAT IT READS IS OF BULK AT MOST 1048576: true; the input reads as it did. -/
def berHeadsUptoRow : OpenClaim := { program := "ytolhmomnidlmaaa", sum := "85dfa63b81a9a8edb1708d7a013062e12aa7370d22576147f14636139b7001e9", func := "roster/rosterlaw02.BerHeads", spec := "berHeads", unfollowed := true, recurses := true, apart := false, narrowed := true }
def BerHeadsUptoSaid : Prop := berHeadsUptoRow.holds Try.pinned (OpenSpec.upto berHeadsSpec)

/-- 'rosterlaw02.BerSplit', WHERE WHAT IT READS IS OF BULK AT MOST 1048576: true; the input reads as it did. -/
def berSplitUptoRow : OpenClaim := { program := "ytolhmomnidlmaaa", sum := "85dfa63b81a9a8edb1708d7a013062e12aa7370d22576147f14636139b7001e9", func := "roster/rosterlaw02.BerSplit", spec := "berSplit", unfollowed := true, recurses := true, apart := false, narrowed := true }
def BerSplitUptoSaid : Prop := berSplitUptoRow.holds Try.pinned (OpenSpec.upto berSplitSpec)

/-- 'rosterlaw02.BerElems', WHERE WHAT IT READS IS OF BULK AT MOST 1048576: true; the input reads as it did. -/
def berElemsUptoRow : OpenClaim := { program := "ytolhmomnidlmaaa", sum := "85dfa63b81a9a8edb1708d7a013062e12aa7370d22576147f14636139b7001e9", func := "roster/rosterlaw02.BerElems", spec := "berElems", unfollowed := true, recurses := true, apart := false, narrowed := true }
def BerElemsUptoSaid : Prop := berElemsUptoRow.holds Try.pinned (OpenSpec.upto berElemsSpec)

/-- 'rosterlaw02.BerPlaces', WHERE WHAT IT READS IS OF BULK AT MOST 1048576: true; the input reads as it did. -/
def berPlacesUptoRow : OpenClaim := { program := "ytolhmomnidlmaaa", sum := "85dfa63b81a9a8edb1708d7a013062e12aa7370d22576147f14636139b7001e9", func := "roster/rosterlaw02.BerPlaces", spec := "berPlaces", unfollowed := true, recurses := true, apart := false, narrowed := true }
def BerPlacesUptoSaid : Prop := berPlacesUptoRow.holds Try.pinned (OpenSpec.upto berPlacesSpec)

/-- 'rosterlaw02.BerWrite', WHERE WHAT IT READS IS OF BULK AT MOST 1048576: true; the input reads as it did. -/
def berWriteUptoRow : OpenClaim := { program := "ytolhmomnidlmaaa", sum := "85dfa63b81a9a8edb1708d7a013062e12aa7370d22576147f14636139b7001e9", func := "roster/rosterlaw02.BerWrite", spec := "berWrite", unfollowed := true, recurses := true, apart := false, narrowed := true }
def BerWriteUptoSaid : Prop := berWriteUptoRow.holds Try.pinned (OpenSpec.upto berWriteSpec)

/-- 'rosterlaw02.BerTree', WHERE WHAT IT READS IS OF BULK AT MOST 1048576: true; the input reads as it did. -/
def berTreeUptoRow : OpenClaim := { program := "ytolhmomnidlmaaa", sum := "85dfa63b81a9a8edb1708d7a013062e12aa7370d22576147f14636139b7001e9", func := "roster/rosterlaw02.BerTree", spec := "berTree", unfollowed := true, recurses := true, apart := false, narrowed := true }
def BerTreeUptoSaid : Prop := berTreeUptoRow.holds Try.pinned (OpenSpec.upto berTreeSpec)

/-- 'rosterlaw02.BerFronts', WHERE WHAT IT READS IS OF BULK AT MOST 1048576: true; the input reads as it did. -/
def berFrontsUptoRow : OpenClaim := { program := "ytolhmomnidlmaaa", sum := "85dfa63b81a9a8edb1708d7a013062e12aa7370d22576147f14636139b7001e9", func := "roster/rosterlaw02.BerFronts", spec := "berFronts", unfollowed := true, recurses := true, apart := false, narrowed := true }
def BerFrontsUptoSaid : Prop := berFrontsUptoRow.holds Try.pinned (OpenSpec.upto berFrontsSpec)

/-- 'rosterlaw02.BerOwn', WHERE WHAT IT READS IS OF BULK AT MOST 1048576: true; the input reads as it did. -/
def berOwnUptoRow : OpenClaim := { program := "ytolhmomnidlmaaa", sum := "85dfa63b81a9a8edb1708d7a013062e12aa7370d22576147f14636139b7001e9", func := "roster/rosterlaw02.BerOwn", spec := "berOwn", unfollowed := true, recurses := true, apart := false, narrowed := true }
def BerOwnUptoSaid : Prop := berOwnUptoRow.holds Try.pinned (OpenSpec.upto berOwnSpec)

/-- 'rosterlaw02.BerNest', WHERE WHAT IT READS IS OF BULK AT MOST 1048576: true; the input reads as it did. -/
def berNestUptoRow : OpenClaim := { program := "ytolhmomnidlmaaa", sum := "85dfa63b81a9a8edb1708d7a013062e12aa7370d22576147f14636139b7001e9", func := "roster/rosterlaw02.BerNest", spec := "berNest", unfollowed := true, recurses := true, apart := false, narrowed := true }
def BerNestUptoSaid : Prop := berNestUptoRow.holds Try.pinned (OpenSpec.upto berNestSpec)

/-- 'rosterlaw02.BerKids', WHERE WHAT IT READS IS OF BULK AT MOST 1048576: true; the input reads as it did. -/
def berKidsUptoRow : OpenClaim := { program := "ytolhmomnidlmaaa", sum := "85dfa63b81a9a8edb1708d7a013062e12aa7370d22576147f14636139b7001e9", func := "roster/rosterlaw02.BerKids", spec := "berKids", unfollowed := true, recurses := true, apart := false, narrowed := true }
def BerKidsUptoSaid : Prop := berKidsUptoRow.holds Try.pinned (OpenSpec.upto berKidsSpec)

/-- 'rosterlaw02.BerBack', WHERE WHAT IT READS IS OF BULK AT MOST 1048576: true; the input reads as it did. -/
def berBackUptoRow : OpenClaim := { program := "ytolhmomnidlmaaa", sum := "85dfa63b81a9a8edb1708d7a013062e12aa7370d22576147f14636139b7001e9", func := "roster/rosterlaw02.BerBack", spec := "berBack", unfollowed := true, recurses := true, apart := false, narrowed := true }
def BerBackUptoSaid : Prop := berBackUptoRow.holds Try.pinned (OpenSpec.upto berBackSpec)

/-- 'rosterlaw02.BerForms', WHERE WHAT IT READS IS OF BULK AT MOST 1048576: true; the input reads as it did. -/
def berFormsUptoRow : OpenClaim := { program := "ytolhmomnidlmaaa", sum := "85dfa63b81a9a8edb1708d7a013062e12aa7370d22576147f14636139b7001e9", func := "roster/rosterlaw02.BerForms", spec := "berForms", unfollowed := true, recurses := true, apart := false, narrowed := true }
def BerFormsUptoSaid : Prop := berFormsUptoRow.holds Try.pinned (OpenSpec.upto berFormsSpec)

end Rows
end Go.Proofs.Ytolhmomnidlmaaa
