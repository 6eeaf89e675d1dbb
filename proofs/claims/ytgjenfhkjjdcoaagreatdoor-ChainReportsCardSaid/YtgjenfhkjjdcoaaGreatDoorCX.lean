/- Text CX of this seat: written by a program of ours, or by hand; checked by Lean. -/
import Derived.Test.YtgjenfhkjjdcoaaGreatDoorW
import Derived.Test.YtgjenfhkjjdcoaaGreatDoorG
set_option linter.unusedSimpArgs false
set_option linter.unusedVariables false
namespace Go.En.Pl
/-! The chapter's example. -/
theorem exC : pouncelaw12_chains_ (Ev.upto 200000) ((), ()) = some ((true, ()), ()) := by kernel_rfl
end Go.En.Pl
