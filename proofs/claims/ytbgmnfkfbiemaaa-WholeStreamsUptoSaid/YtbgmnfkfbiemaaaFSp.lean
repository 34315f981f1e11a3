/- Walk of frame.Split: how a whole stream is cut. -/
import Derived.Test.YtbgmnfkfbiemaaaProg
import Derived.Test.YtbgmnfkfbiemaaaMa
import Derived.Test.YtbgmnfkfbiemaaaFN
import Derived.WalkLawsBesides
import Derived.WalkSpells
import Derived.RegionTactic
import Derived.ChangeAlike
import Derived.BigRegion
import Derived.IntWalk
import Derived.Lib.Hide
import Derived.Outline
import Derived.Deep.AppendLies
import Derived.Deep.RegionLaw
namespace Go.Proofs.Ytbgmnfkfbiemaaa.W
open Go.RowKit Go.Proofs.YtbgmnfkfbiemaaaW.PrintWords
set_option linter.unusedVariables false
set_option linter.unusedSimpArgs false

theorem info_str : (Try.prog.info? 9).map (fun i => (i.zero, i.size, i.bytes)) = some (some (.string ⟨#[]⟩), 1, 16) := by kernel_rfl

end Go.Proofs.Ytbgmnfkfbiemaaa.W
