/- Text LawSinkTakesC of this seat: written by a program of ours, or by hand; checked by Lean. -/
import Derived.Test.YtfgphjencdhdgaaGreatDoorRows
import Derived.JoinedOf
import Derived.KernelRfl
namespace Go.Proofs.YtfgphjencdhdgaaGreatDoor.sinkTakes
open Go.Proofs
theorem joined_ : joinedFacts Tryz.prog 3 Tryz.f3 Rows.sinkTakesSpec Rows.sinkTakesRow = true := by kernel_rfl
end Go.Proofs.YtfgphjencdhdgaaGreatDoor.sinkTakes
