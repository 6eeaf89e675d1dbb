/- Text Lay of this seat: written by a program of ours, or by hand; checked by Lean. -/
import Derived.Test.YtikphcnjknbdmaaGreatDoorE11
import Derived.Shelf.Strings.Builder1
import Derived.Test.YtikphcnjknbdmaaGreatDoorProg
namespace Go.En.Allow
open Go.Shelf Go.Proofs
def rho : Ren := ⟨fun | 240 => 163 | 276 => 180 | x => x, fun | 0 => 0 | 4 => 4 | 9 => 9 | 20 => 20 | 37 => 72 | 70 => 126 | 72 => 128 | 164 => 145 | x => x, fun x => x⟩
theorem lays : Lays.n240 Tryz.prog rho where
  mixed := by kernel_rfl
  f240 := by kernel_rfl
  f276 := by kernel_rfl
  t0 := Tryz.underlying0
  a0 := Tryz.isAgg0
  z0 := Tryz.sizeOf0
  v0 := Tryz.zeroValue0
  t4 := Tryz.underlying4
  a4 := Tryz.isAgg4
  z4 := Tryz.sizeOf4
  v4 := Tryz.zeroValue4
  t9 := Tryz.underlying9
  a9 := Tryz.isAgg9
  z9 := Tryz.sizeOf9
  v9 := Tryz.zeroValue9
  t20 := Tryz.underlying20
  a20 := Tryz.isAgg20
  z20 := Tryz.sizeOf20
  v20 := Tryz.zeroValue20
  t70 := Tryz.underlying126
  a70 := Tryz.isAgg126
  z70 := Tryz.sizeOf126
  v70 := Tryz.zeroValue126
  t72 := Tryz.underlying128
  a72 := Tryz.isAgg128
  z72 := Tryz.sizeOf128
  v72 := Tryz.zeroValue128
  t164 := Tryz.underlying145
  a164 := Tryz.isAgg145
  z164 := Tryz.sizeOf145
  v164 := Tryz.zeroValue145
theorem laysX : Builder.X72 Tryz.prog rho := ⟨by kernel_rfl, by kernel_rfl⟩
end Go.En.Allow
