/- Text Lay of this seat: written by a program of ours, or by hand; checked by Lean. -/
import Derived.Test.YtadpiodjbcjlcaaE14
import Derived.Shelf.Strings.Builder1
import Derived.Test.YtadpiodjbcjlcaaProg
namespace Go.En.Pl
open Go.Shelf Go.Proofs
def rho : Ren := ⟨fun | 240 => 71 | 276 => 76 | x => x, fun | 0 => 0 | 4 => 4 | 9 => 9 | 20 => 20 | 37 => 70 | 70 => 69 | 72 => 72 | 164 => 97 | x => x, fun x => x⟩
theorem lays : Lays.n240 Try.prog rho where
  mixed := by kernel_rfl
  f240 := by kernel_rfl
  f276 := by kernel_rfl
  t0 := Try.underlying0
  a0 := Try.isAgg0
  z0 := Try.sizeOf0
  v0 := Try.zeroValue0
  t4 := Try.underlying4
  a4 := Try.isAgg4
  z4 := Try.sizeOf4
  v4 := Try.zeroValue4
  t9 := Try.underlying9
  a9 := Try.isAgg9
  z9 := Try.sizeOf9
  v9 := Try.zeroValue9
  t20 := Try.underlying20
  a20 := Try.isAgg20
  z20 := Try.sizeOf20
  v20 := Try.zeroValue20
  t70 := Try.underlying69
  a70 := Try.isAgg69
  z70 := Try.sizeOf69
  v70 := Try.zeroValue69
  t72 := Try.underlying72
  a72 := Try.isAgg72
  z72 := Try.sizeOf72
  v72 := Try.zeroValue72
  t164 := Try.underlying97
  a164 := Try.isAgg97
  z164 := Try.sizeOf97
  v164 := Try.zeroValue97
theorem laysX : Builder.X72 Try.prog rho := ⟨by kernel_rfl, by kernel_rfl⟩
end Go.En.Pl
