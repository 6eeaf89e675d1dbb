/- Text LawSinkFreeC of this seat: written by a program of ours, or by hand; checked by Lean. -/
import Derived.Test.YtfgphjencdhdgaaGreatDoorRows
import Derived.JoinedOf
import Derived.KernelRfl
namespace Go.Proofs.YtfgphjencdhdgaaGreatDoor.sinkFree
open Go.Proofs
theorem joined_ : joinedFacts Tryz.prog 5 Tryz.f5 Rows.sinkFreeSpec Rows.sinkFreeRow = true := by kernel_rfl
end Go.Proofs.YtfgphjencdhdgaaGreatDoor.sinkFree
