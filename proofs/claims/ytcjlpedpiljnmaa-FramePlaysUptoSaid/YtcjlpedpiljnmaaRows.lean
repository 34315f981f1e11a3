/-
  No cell of these rows narrows 'for every input' (looked for: loops, veiled, ifaces, maps, wideKeys, modest, calm, conditions, laid).
  DERIVED. THE GIVEN ROWS OF THIS SEAT. 12 by the template 'for every input the law returns true; each argument reads behind the call as it read before'; 0 by the template 'total and deterministic' (their statements: YtcjlpedpiljnmaaTotals.lean).
  GIVEN WITH THE SEED: the statements are not yours to turn. If you find one false, say at which input.
  Laid BY PROGRAM, IN A SANDBOX (cutbox-rows.mjs): the forced cells as the released guide's own fill.sh prints them over the translation abbe91b197cdf078… (all of the seat's roots in one cut). By AI agents, Wed Nov 11 2026. No macro, syntax, notation, axiom, sorry.
-/
import Derived.Test.YtcjlpedpiljnmaaChecked
import GoSem.Claim
import GoSem.ClaimJoined
import GoSem.ClaimMapViews
import Derived.JoinedTies
import Derived.KernelRfl
namespace Go.Proofs.Ytcjlpedpiljnmaa
/- THE CELL 'sum', in the pinned program and in every row, IS THE sha256 OF THE DUMP (.gsa) THAT YtcjlpedpiljnmaaProg.lean LOADS. Nothing in Lean hashes anything: it is a label: what it is worth is what the hold of that sum in a sandbox is worth. -/
noncomputable def Try.pinned : Pinned := { name := "ytcjlpedpiljnmaa", sum := "abbe91b197cdf078a7adfd6f1eb717e3bbc1f3947be737fa8b5d9a9c838971e0", checked := Try.checked }
namespace Rows
def none {H : Type} : Left H := { results := [], args := [] }

/-- 'rosterlaw03.FrameNeeds': WHATEVER THE INPUT: true; the input reads as it did. -/
def frameNeedsSpec : ChangeSpec := { name := "frameNeeds", fn := fun _ => fun
  | [d1, d2] => { results := [.lit (.bool true)], args := [d1, d2] }
  | _ => none }
def frameNeedsRow : OpenClaim := { program := "ytcjlpedpiljnmaa", sum := "abbe91b197cdf078a7adfd6f1eb717e3bbc1f3947be737fa8b5d9a9c838971e0", func := "roster/rosterlaw03.FrameNeeds", spec := "frameNeeds", unfollowed := true, recurses := true, apart := false }
def FrameNeedsSaid : Prop := frameNeedsRow.holds Try.pinned (OpenSpec.ofChange frameNeedsSpec)

/-- ITS FALSE NEIGHBOUR: 'it returns false'. Refute it at one input. -/
def frameNeedsWrong : ChangeSpec := { name := "frameNeeds", fn := fun _ => fun
  | [d1, d2] => { results := [.lit (.bool false)], args := [d1, d2] }
  | _ => none }
def FrameNeedsWrongFalsely : Prop := frameNeedsRow.holds Try.pinned (OpenSpec.ofChange frameNeedsWrong)

/-- 'rosterlaw03.FrameSplits': WHATEVER THE INPUT: true; the input reads as it did. -/
def frameSplitsSpec : ChangeSpec := { name := "frameSplits", fn := fun _ => fun
  | [d1, d2] => { results := [.lit (.bool true)], args := [d1, d2] }
  | _ => none }
def frameSplitsRow : OpenClaim := { program := "ytcjlpedpiljnmaa", sum := "abbe91b197cdf078a7adfd6f1eb717e3bbc1f3947be737fa8b5d9a9c838971e0", func := "roster/rosterlaw03.FrameSplits", spec := "frameSplits", unfollowed := true, recurses := true, apart := false }
def FrameSplitsSaid : Prop := frameSplitsRow.holds Try.pinned (OpenSpec.ofChange frameSplitsSpec)

/-- ITS FALSE NEIGHBOUR: 'it returns false'. Refute it at one input. -/
def frameSplitsWrong : ChangeSpec := { name := "frameSplits", fn := fun _ => fun
  | [d1, d2] => { results := [.lit (.bool false)], args := [d1, d2] }
  | _ => none }
def FrameSplitsWrongFalsely : Prop := frameSplitsRow.holds Try.pinned (OpenSpec.ofChange frameSplitsWrong)

/-- 'rosterlaw03.FrameEnough': WHATEVER THE INPUT: true; the input reads as it did. -/
def frameEnoughSpec : ChangeSpec := { name := "frameEnough", fn := fun _ => fun
  | [d1, d2, d3] => { results := [.lit (.bool true)], args := [d1, d2, d3] }
  | _ => none }
def frameEnoughRow : OpenClaim := { program := "ytcjlpedpiljnmaa", sum := "abbe91b197cdf078a7adfd6f1eb717e3bbc1f3947be737fa8b5d9a9c838971e0", func := "roster/rosterlaw03.FrameEnough", spec := "frameEnough", unfollowed := true, recurses := true, apart := false }
def FrameEnoughSaid : Prop := frameEnoughRow.holds Try.pinned (OpenSpec.ofChange frameEnoughSpec)

/-- ITS FALSE NEIGHBOUR: 'it returns false'. Refute it at one input. -/
def frameEnoughWrong : ChangeSpec := { name := "frameEnough", fn := fun _ => fun
  | [d1, d2, d3] => { results := [.lit (.bool false)], args := [d1, d2, d3] }
  | _ => none }
def FrameEnoughWrongFalsely : Prop := frameEnoughRow.holds Try.pinned (OpenSpec.ofChange frameEnoughWrong)

/-- 'rosterlaw03.FrameLimits': WHATEVER THE INPUT: true; the input reads as it did. -/
def frameLimitsSpec : ChangeSpec := { name := "frameLimits", fn := fun _ => fun
  | [d1, d2, d3] => { results := [.lit (.bool true)], args := [d1, d2, d3] }
  | _ => none }
def frameLimitsRow : OpenClaim := { program := "ytcjlpedpiljnmaa", sum := "abbe91b197cdf078a7adfd6f1eb717e3bbc1f3947be737fa8b5d9a9c838971e0", func := "roster/rosterlaw03.FrameLimits", spec := "frameLimits", unfollowed := true, recurses := true, apart := false }
def FrameLimitsSaid : Prop := frameLimitsRow.holds Try.pinned (OpenSpec.ofChange frameLimitsSpec)

/-- ITS FALSE NEIGHBOUR: 'it returns false'. Refute it at one input. -/
def frameLimitsWrong : ChangeSpec := { name := "frameLimits", fn := fun _ => fun
  | [d1, d2, d3] => { results := [.lit (.bool false)], args := [d1, d2, d3] }
  | _ => none }
def FrameLimitsWrongFalsely : Prop := frameLimitsRow.holds Try.pinned (OpenSpec.ofChange frameLimitsWrong)

/-- 'rosterlaw03.FramePlays': WHATEVER THE INPUT: true; the input reads as it did. -/
def framePlaysSpec : ChangeSpec := { name := "framePlays", fn := fun _ => fun
  | [d] => { results := [.lit (.bool true)], args := [d] }
  | _ => none }
def framePlaysRow : OpenClaim := { program := "ytcjlpedpiljnmaa", sum := "abbe91b197cdf078a7adfd6f1eb717e3bbc1f3947be737fa8b5d9a9c838971e0", func := "roster/rosterlaw03.FramePlays", spec := "framePlays", unfollowed := true, recurses := true, apart := false }
def FramePlaysSaid : Prop := framePlaysRow.holds Try.pinned (OpenSpec.ofChange framePlaysSpec)

/-- ITS FALSE NEIGHBOUR: 'it returns false'. Refute it at one input. -/
def framePlaysWrong : ChangeSpec := { name := "framePlays", fn := fun _ => fun
  | [d] => { results := [.lit (.bool false)], args := [d] }
  | _ => none }
def FramePlaysWrongFalsely : Prop := framePlaysRow.holds Try.pinned (OpenSpec.ofChange framePlaysWrong)

/-- 'rosterlaw03.FrameEnds': WHATEVER THE INPUT: true; the input reads as it did. -/
def frameEndsSpec : ChangeSpec := { name := "frameEnds", fn := fun _ => fun
  | [d1, d2, d3, d4] => { results := [.lit (.bool true)], args := [d1, d2, d3, d4] }
  | _ => none }
def frameEndsRow : OpenClaim := { program := "ytcjlpedpiljnmaa", sum := "abbe91b197cdf078a7adfd6f1eb717e3bbc1f3947be737fa8b5d9a9c838971e0", func := "roster/rosterlaw03.FrameEnds", spec := "frameEnds", unfollowed := true, recurses := true, apart := false }
def FrameEndsSaid : Prop := frameEndsRow.holds Try.pinned (OpenSpec.ofChange frameEndsSpec)

/-- ITS FALSE NEIGHBOUR: 'it returns false'. Refute it at one input. -/
def frameEndsWrong : ChangeSpec := { name := "frameEnds", fn := fun _ => fun
  | [d1, d2, d3, d4] => { results := [.lit (.bool false)], args := [d1, d2, d3, d4] }
  | _ => none }
def FrameEndsWrongFalsely : Prop := frameEndsRow.holds Try.pinned (OpenSpec.ofChange frameEndsWrong)

/-- 'rosterlaw03.FrameKeeps': WHATEVER THE INPUT: true; the input reads as it did. -/
def frameKeepsSpec : ChangeSpec := { name := "frameKeeps", fn := fun _ => fun
  | [d] => { results := [.lit (.bool true)], args := [d] }
  | _ => none }
def frameKeepsRow : OpenClaim := { program := "ytcjlpedpiljnmaa", sum := "abbe91b197cdf078a7adfd6f1eb717e3bbc1f3947be737fa8b5d9a9c838971e0", func := "roster/rosterlaw03.FrameKeeps", spec := "frameKeeps", unfollowed := true, recurses := true, apart := false }
def FrameKeepsSaid : Prop := frameKeepsRow.holds Try.pinned (OpenSpec.ofChange frameKeepsSpec)

/-- ITS FALSE NEIGHBOUR: 'it returns false'. Refute it at one input. -/
def frameKeepsWrong : ChangeSpec := { name := "frameKeeps", fn := fun _ => fun
  | [d] => { results := [.lit (.bool false)], args := [d] }
  | _ => none }
def FrameKeepsWrongFalsely : Prop := frameKeepsRow.holds Try.pinned (OpenSpec.ofChange frameKeepsWrong)

/-- 'rosterlaw03.FrameCuts': WHATEVER THE INPUT: true; the input reads as it did. -/
def frameCutsSpec : ChangeSpec := { name := "frameCuts", fn := fun _ => fun
  | [d1, d2, d3] => { results := [.lit (.bool true)], args := [d1, d2, d3] }
  | _ => none }
def frameCutsRow : OpenClaim := { program := "ytcjlpedpiljnmaa", sum := "abbe91b197cdf078a7adfd6f1eb717e3bbc1f3947be737fa8b5d9a9c838971e0", func := "roster/rosterlaw03.FrameCuts", spec := "frameCuts", unfollowed := true, recurses := true, apart := false }
def FrameCutsSaid : Prop := frameCutsRow.holds Try.pinned (OpenSpec.ofChange frameCutsSpec)

/-- ITS FALSE NEIGHBOUR: 'it returns false'. Refute it at one input. -/
def frameCutsWrong : ChangeSpec := { name := "frameCuts", fn := fun _ => fun
  | [d1, d2, d3] => { results := [.lit (.bool false)], args := [d1, d2, d3] }
  | _ => none }
def FrameCutsWrongFalsely : Prop := frameCutsRow.holds Try.pinned (OpenSpec.ofChange frameCutsWrong)

/-- 'rosterlaw03.FrameJoins': WHATEVER THE INPUT: true; the input reads as it did. -/
def frameJoinsSpec : ChangeSpec := { name := "frameJoins", fn := fun _ => fun
  | [d] => { results := [.lit (.bool true)], args := [d] }
  | _ => none }
def frameJoinsRow : OpenClaim := { program := "ytcjlpedpiljnmaa", sum := "abbe91b197cdf078a7adfd6f1eb717e3bbc1f3947be737fa8b5d9a9c838971e0", func := "roster/rosterlaw03.FrameJoins", spec := "frameJoins", unfollowed := true, recurses := true, apart := false }
def FrameJoinsSaid : Prop := frameJoinsRow.holds Try.pinned (OpenSpec.ofChange frameJoinsSpec)

/-- ITS FALSE NEIGHBOUR: 'it returns false'. Refute it at one input. -/
def frameJoinsWrong : ChangeSpec := { name := "frameJoins", fn := fun _ => fun
  | [d] => { results := [.lit (.bool false)], args := [d] }
  | _ => none }
def FrameJoinsWrongFalsely : Prop := frameJoinsRow.holds Try.pinned (OpenSpec.ofChange frameJoinsWrong)

/-- 'rostertop.WholeStreams': WHATEVER THE INPUT: true; the input reads as it did. -/
def wholeStreamsSpec : ChangeSpec := { name := "wholeStreams", fn := fun _ => fun
  | [d1, d2] => { results := [.lit (.bool true)], args := [d1, d2] }
  | _ => none }
def wholeStreamsRow : OpenClaim := { program := "ytcjlpedpiljnmaa", sum := "abbe91b197cdf078a7adfd6f1eb717e3bbc1f3947be737fa8b5d9a9c838971e0", func := "roster/rostertop.WholeStreams", spec := "wholeStreams", unfollowed := true, recurses := true, apart := false }
def WholeStreamsSaid : Prop := wholeStreamsRow.holds Try.pinned (OpenSpec.ofChange wholeStreamsSpec)

/-- ITS FALSE NEIGHBOUR: 'it returns false'. Refute it at one input. -/
def wholeStreamsWrong : ChangeSpec := { name := "wholeStreams", fn := fun _ => fun
  | [d1, d2] => { results := [.lit (.bool false)], args := [d1, d2] }
  | _ => none }
def WholeStreamsWrongFalsely : Prop := wholeStreamsRow.holds Try.pinned (OpenSpec.ofChange wholeStreamsWrong)

/-- 'rosterlaw08.EntryBack': WHATEVER THE INPUT: true; the input reads as it did. -/
def entryBackSpec : ChangeSpec := { name := "entryBack", fn := fun _ => fun
  | [d] => { results := [.lit (.bool true)], args := [d] }
  | _ => none }
def entryBackRow : OpenClaim := { program := "ytcjlpedpiljnmaa", sum := "abbe91b197cdf078a7adfd6f1eb717e3bbc1f3947be737fa8b5d9a9c838971e0", func := "roster/rosterlaw08.EntryBack", spec := "entryBack", apart := false }
def EntryBackSaid : Prop := entryBackRow.holds Try.pinned (OpenSpec.ofChange entryBackSpec)

/-- ITS FALSE NEIGHBOUR: 'it returns false'. Refute it at one input. -/
def entryBackWrong : ChangeSpec := { name := "entryBack", fn := fun _ => fun
  | [d] => { results := [.lit (.bool false)], args := [d] }
  | _ => none }
def EntryBackWrongFalsely : Prop := entryBackRow.holds Try.pinned (OpenSpec.ofChange entryBackWrong)

/-- 'rosterlaw14.EvalLogic': WHATEVER THE INPUT: true; the input reads as it did. -/
def evalLogicSpec : ChangeSpec := { name := "evalLogic", fn := fun _ => fun
  | [d1, d2] => { results := [.lit (.bool true)], args := [d1, d2] }
  | _ => none }
def evalLogicRow : OpenClaim := { program := "ytcjlpedpiljnmaa", sum := "abbe91b197cdf078a7adfd6f1eb717e3bbc1f3947be737fa8b5d9a9c838971e0", func := "roster/rosterlaw14.EvalLogic", spec := "evalLogic", apart := false }
def EvalLogicSaid : Prop := evalLogicRow.holds Try.pinned (OpenSpec.ofChange evalLogicSpec)

/-- ITS FALSE NEIGHBOUR: 'it returns false'. Refute it at one input. -/
def evalLogicWrong : ChangeSpec := { name := "evalLogic", fn := fun _ => fun
  | [d1, d2] => { results := [.lit (.bool false)], args := [d1, d2] }
  | _ => none }
def EvalLogicWrongFalsely : Prop := evalLogicRow.holds Try.pinned (OpenSpec.ofChange evalLogicWrong)

/- THE SECOND FORM. 'bulk': how many values and letters a reading holds, each counted each time it is reached (what is shared counts as often as it is met; a slice's spare places count too). A statement '..UptoSaid' is the law's where the arguments, and the package variables that the reading takes, are together of bulk at most 1048576: NARROWER than '..Said'. Prove '..Said' where nothing that the law and all that it calls make is longer than what came in: it says more and counts as full. Else prove '..UptoSaid'. A law counts once. -/
mutual
def uptoBulk {H : Type} : DataW H → Nat
  | .lit (.string bytes) => bytes.length + 1
  | .lit _ => 1
  | .nil => 1
  | .ptr d => uptoBulk d + 1
  | .slice elems spare => uptoBulkAll elems + uptoBulkAll spare + 1
  | .agg parts => uptoBulkAll parts + 1
  | .iface _ d => uptoBulk d + 1
  | .map entries => uptoBulkEntries entries + 1
  | .held _ => 1
def uptoBulkAll {H : Type} : List (DataW H) → Nat
  | [] => 0
  | d :: r => uptoBulk d + uptoBulkAll r
def uptoBulkEntries {H : Type} : List (Lit × DataW H) → Nat
  | [] => 0
  | x :: r => uptoBulkEntry x + uptoBulkEntries r
def uptoBulkEntry {H : Type} : Lit × DataW H → Nat
  | (.string bytes, d) => bytes.length + uptoBulk d + 1
  | (_, d) => uptoBulk d + 1
 end
def uptoSmall : (H : Type) → List (DataW H) → Bool := fun _ ds => decide (uptoBulkAll ds ≤ 1048576)
def OpenSpec.upto (s : _root_.Go.ChangeSpec) : _root_.Go.OpenSpec := { _root_.Go.OpenSpec.ofChange s with cond := some uptoSmall }

/-- 'rosterlaw03.FrameNeeds', WHERE WHAT IT READS IS OF BULK AT MOST 1048576: true; the input reads as it did. -/
def frameNeedsUptoRow : OpenClaim := { program := "ytcjlpedpiljnmaa", sum := "abbe91b197cdf078a7adfd6f1eb717e3bbc1f3947be737fa8b5d9a9c838971e0", func := "roster/rosterlaw03.FrameNeeds", spec := "frameNeeds", unfollowed := true, recurses := true, apart := false, narrowed := true }
def FrameNeedsUptoSaid : Prop := frameNeedsUptoRow.holds Try.pinned (OpenSpec.upto frameNeedsSpec)

/-- 'rosterlaw03.FrameSplits', WHERE WHAT IT READS IS OF BULK AT MOST 1048576: true; the input reads as it did. -/
def frameSplitsUptoRow : OpenClaim := { program := "ytcjlpedpiljnmaa", sum := "abbe91b197cdf078a7adfd6f1eb717e3bbc1f3947be737fa8b5d9a9c838971e0", func := "roster/rosterlaw03.FrameSplits", spec := "frameSplits", unfollowed := true, recurses := true, apart := false, narrowed := true }
def FrameSplitsUptoSaid : Prop := frameSplitsUptoRow.holds Try.pinned (OpenSpec.upto frameSplitsSpec)

/-- 'rosterlaw03.FrameEnough', WHERE WHAT IT READS IS OF BULK AT MOST 1048576: true; the input reads as it did. -/
def frameEnoughUptoRow : OpenClaim := { program := "ytcjlpedpiljnmaa", sum := "abbe91b197cdf078a7adfd6f1eb717e3bbc1f3947be737fa8b5d9a9c838971e0", func := "roster/rosterlaw03.FrameEnough", spec := "frameEnough", unfollowed := true, recurses := true, apart := false, narrowed := true }
def FrameEnoughUptoSaid : Prop := frameEnoughUptoRow.holds Try.pinned (OpenSpec.upto frameEnoughSpec)

/-- 'rosterlaw03.FrameLimits', WHERE WHAT IT READS IS OF BULK AT MOST 1048576: true; the input reads as it did. -/
def frameLimitsUptoRow : OpenClaim := { program := "ytcjlpedpiljnmaa", sum := "abbe91b197cdf078a7adfd6f1eb717e3bbc1f3947be737fa8b5d9a9c838971e0", func := "roster/rosterlaw03.FrameLimits", spec := "frameLimits", unfollowed := true, recurses := true, apart := false, narrowed := true }
def FrameLimitsUptoSaid : Prop := frameLimitsUptoRow.holds Try.pinned (OpenSpec.upto frameLimitsSpec)

/-- 'rosterlaw03.FramePlays', WHERE WHAT IT READS IS OF BULK AT MOST 1048576: true; the input reads as it did. -/
def framePlaysUptoRow : OpenClaim := { program := "ytcjlpedpiljnmaa", sum := "abbe91b197cdf078a7adfd6f1eb717e3bbc1f3947be737fa8b5d9a9c838971e0", func := "roster/rosterlaw03.FramePlays", spec := "framePlays", unfollowed := true, recurses := true, apart := false, narrowed := true }
def FramePlaysUptoSaid : Prop := framePlaysUptoRow.holds Try.pinned (OpenSpec.upto framePlaysSpec)

/-- 'rosterlaw03.FrameEnds', WHERE WHAT IT READS IS OF BULK AT MOST 1048576: true; the input reads as it did. -/
def frameEndsUptoRow : OpenClaim := { program := "ytcjlpedpiljnmaa", sum := "abbe91b197cdf078a7adfd6f1eb717e3bbc1f3947be737fa8b5d9a9c838971e0", func := "roster/rosterlaw03.FrameEnds", spec := "frameEnds", unfollowed := true, recurses := true, apart := false, narrowed := true }
def FrameEndsUptoSaid : Prop := frameEndsUptoRow.holds Try.pinned (OpenSpec.upto frameEndsSpec)

/-- 'rosterlaw03.FrameKeeps', WHERE WHAT IT READS IS OF BULK AT MOST 1048576: true; the input reads as it did. -/
def frameKeepsUptoRow : OpenClaim := { program := "ytcjlpedpiljnmaa", sum := "abbe91b197cdf078a7adfd6f1eb717e3bbc1f3947be737fa8b5d9a9c838971e0", func := "roster/rosterlaw03.FrameKeeps", spec := "frameKeeps", unfollowed := true, recurses := true, apart := false, narrowed := true }
def FrameKeepsUptoSaid : Prop := frameKeepsUptoRow.holds Try.pinned (OpenSpec.upto frameKeepsSpec)

/-- 'rosterlaw03.FrameCuts', WHERE WHAT IT READS IS OF BULK AT MOST 1048576: true; the input reads as it did. -/
def frameCutsUptoRow : OpenClaim := { program := "ytcjlpedpiljnmaa", sum := "abbe91b197cdf078a7adfd6f1eb717e3bbc1f3947be737fa8b5d9a9c838971e0", func := "roster/rosterlaw03.FrameCuts", spec := "frameCuts", unfollowed := true, recurses := true, apart := false, narrowed := true }
def FrameCutsUptoSaid : Prop := frameCutsUptoRow.holds Try.pinned (OpenSpec.upto frameCutsSpec)

/-- 'rosterlaw03.FrameJoins', WHERE WHAT IT READS IS OF BULK AT MOST 1048576: true; the input reads as it did. -/
def frameJoinsUptoRow : OpenClaim := { program := "ytcjlpedpiljnmaa", sum := "abbe91b197cdf078a7adfd6f1eb717e3bbc1f3947be737fa8b5d9a9c838971e0", func := "roster/rosterlaw03.FrameJoins", spec := "frameJoins", unfollowed := true, recurses := true, apart := false, narrowed := true }
def FrameJoinsUptoSaid : Prop := frameJoinsUptoRow.holds Try.pinned (OpenSpec.upto frameJoinsSpec)

/-- 'rostertop.WholeStreams', WHERE WHAT IT READS IS OF BULK AT MOST 1048576: true; the input reads as it did. -/
def wholeStreamsUptoRow : OpenClaim := { program := "ytcjlpedpiljnmaa", sum := "abbe91b197cdf078a7adfd6f1eb717e3bbc1f3947be737fa8b5d9a9c838971e0", func := "roster/rostertop.WholeStreams", spec := "wholeStreams", unfollowed := true, recurses := true, apart := false, narrowed := true }
def WholeStreamsUptoSaid : Prop := wholeStreamsUptoRow.holds Try.pinned (OpenSpec.upto wholeStreamsSpec)

/-- 'rosterlaw08.EntryBack', WHERE WHAT IT READS IS OF BULK AT MOST 1048576: true; the input reads as it did. -/
def entryBackUptoRow : OpenClaim := { program := "ytcjlpedpiljnmaa", sum := "abbe91b197cdf078a7adfd6f1eb717e3bbc1f3947be737fa8b5d9a9c838971e0", func := "roster/rosterlaw08.EntryBack", spec := "entryBack", apart := false, narrowed := true }
def EntryBackUptoSaid : Prop := entryBackUptoRow.holds Try.pinned (OpenSpec.upto entryBackSpec)

/-- 'rosterlaw14.EvalLogic', WHERE WHAT IT READS IS OF BULK AT MOST 1048576: true; the input reads as it did. -/
def evalLogicUptoRow : OpenClaim := { program := "ytcjlpedpiljnmaa", sum := "abbe91b197cdf078a7adfd6f1eb717e3bbc1f3947be737fa8b5d9a9c838971e0", func := "roster/rosterlaw14.EvalLogic", spec := "evalLogic", apart := false, narrowed := true }
def EvalLogicUptoSaid : Prop := evalLogicUptoRow.holds Try.pinned (OpenSpec.upto evalLogicSpec)

end Rows
end Go.Proofs.Ytcjlpedpiljnmaa
