/- Text PS2 of this seat: written by a program of ours, or by hand; checked by Lean. -/
import Derived.Test.YtgenjkaccmjfkaaGreatDoorPS1
set_option linter.unusedSimpArgs false
set_option linter.unusedVariables false
namespace Go.En.Pl
/-! ### base: a sign's value -/
noncomputable def valB (c : UInt8) : Int := match base_value_ Ev.all ((((c.toNat : Nat) : Int), ()), ()) with
  | some r => r.1.1
  | none => 0
theorem fa_byte {P : UInt8 → Bool} (h : (List.range 256).all (fun n => P (UInt8.ofNat n)) = true) (c : UInt8) : P c = true := by
  have h2 := List.all_eq_true.1 h c.toNat (List.mem_range.2 c.toNat_lt)
  rwa [UInt8.ofNat_toNat] at h2
theorem bvalue_eq (V : Ev) (c : UInt8) : base_value_ V ((((c.toNat : Nat) : Int), ()), ()) = some ((valB c, ()), ()) := by
  have := fa_byte (P := fun c => base_value_ Ev.all ((((c.toNat : Nat) : Int), ()), ()) == some ((valB c, ()), ())) (by kernel_rfl) c
  exact beq_iff_eq.1 this
theorem rbvalue_eq (c : UInt8) : pounceref04_value_ (Ev.upto 200000) ((((c.toNat : Nat) : Int), ()), ()) = some ((valB c, ()), ()) := by
  have := fa_byte (P := fun c => pounceref04_value_ (Ev.upto 200000) ((((c.toNat : Nat) : Int), ()), ()) == some ((valB c, ()), ())) (by kernel_rfl) c
  exact beq_iff_eq.1 this
end Go.En.Pl
