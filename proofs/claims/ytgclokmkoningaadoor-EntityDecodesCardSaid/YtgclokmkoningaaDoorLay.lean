/- Text Lay of this seat: written by a program of ours, or by hand; checked by Lean. -/
import Derived.Test.YtgclokmkoningaaDoorE11
import Derived.Shelf.Strings.Builder1
import Derived.Test.YtgclokmkoningaaDoorProg
namespace Go.En.Ent
open Go.Shelf Go.Proofs
def rho : Ren := ⟨fun | 240 => 27 | 276 => 35 | x => x, fun | 0 => 0 | 4 => 4 | 9 => 9 | 20 => 20 | 37 => 36 | 70 => 35 | 72 => 38 | 164 => 64 | x => x, fun x => x⟩
theorem lays : Lays.n240 Tryd.prog rho where
  mixed := by kernel_rfl
  f240 := by kernel_rfl
  f276 := by kernel_rfl
  t0 := Tryd.underlying0
  a0 := Tryd.isAgg0
  z0 := Tryd.sizeOf0
  v0 := Tryd.zeroValue0
  t4 := Tryd.underlying4
  a4 := Tryd.isAgg4
  z4 := Tryd.sizeOf4
  v4 := Tryd.zeroValue4
  t9 := Tryd.underlying9
  a9 := Tryd.isAgg9
  z9 := Tryd.sizeOf9
  v9 := Tryd.zeroValue9
  t20 := Tryd.underlying20
  a20 := Tryd.isAgg20
  z20 := Tryd.sizeOf20
  v20 := Tryd.zeroValue20
  t70 := Tryd.underlying35
  a70 := Tryd.isAgg35
  z70 := Tryd.sizeOf35
  v70 := Tryd.zeroValue35
  t72 := Tryd.underlying38
  a72 := Tryd.isAgg38
  z72 := Tryd.sizeOf38
  v72 := Tryd.zeroValue38
  t164 := Tryd.underlying64
  a164 := Tryd.isAgg64
  z164 := Tryd.sizeOf64
  v164 := Tryd.zeroValue64
theorem laysX : Builder.X72 Tryd.prog rho := ⟨by kernel_rfl, by kernel_rfl⟩
end Go.En.Ent
