/- Text LawSinkTakesB of this seat: written by a program of ours, or by hand; checked by Lean. -/
import Derived.Test.YtfgphjencdhdgaaGreatDoorE12
import Derived.Test.YtfgphjencdhdgaaGreatDoorE13
import Derived.Test.YtfgphjencdhdgaaGreatDoorRows
import Derived.Test.YtfgphjencdhdgaaGreatDoorTie
import Derived.Test.YtfgphjencdhdgaaGreatDoorCards
import Derived.SevenTiedAt
import Derived.Lay
import Derived.MakeChecks
import Derived.WalkKit
import Derived.ProofKit
namespace Go.Proofs.YtfgphjencdhdgaaGreatDoor.sinkTakes
open Go.Proofs Go.ChangeShapes Go.WideShapes Go.ChangeAt Go.RowKit Go.En
open Go.ChangeMaps (open_string shut_string)
set_option linter.unusedVariables false
theorem goes_ : false = Rows.sinkTakesRow.goesBy Tryz.prog := by kernel_rfl
end Go.Proofs.YtfgphjencdhdgaaGreatDoor.sinkTakes
