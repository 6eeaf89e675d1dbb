/- Text LawSinkNamesC of this seat: written by a program of ours, or by hand; checked by Lean. -/
import Derived.Test.YtfgphjencdhdgaaGreatDoorRows
import Derived.JoinedOf
import Derived.KernelRfl
namespace Go.Proofs.YtfgphjencdhdgaaGreatDoor.sinkNames
open Go.Proofs
theorem joined_ : joinedFacts Tryz.prog 6 Tryz.f6 Rows.sinkNamesSpec Rows.sinkNamesRow = true := by kernel_rfl
end Go.Proofs.YtfgphjencdhdgaaGreatDoor.sinkNames
