/- Text PS8 of this seat: written by a program of ours, or by hand; checked by Lean. -/
import Derived.Test.YtgenjkaccmjfkaaGreatDoorPS7
set_option linter.unusedSimpArgs false
set_option linter.unusedVariables false
namespace Go.En.Pl
/-! ### the reference's: as rows of bits -/
def bitsE (n : Nat) : List Bool := [n / 128 % 2 == 1, n / 64 % 2 == 1, n / 32 % 2 == 1, n / 16 % 2 == 1, n / 8 % 2 == 1, n / 4 % 2 == 1, n / 2 % 2 == 1, n % 2 == 1]
theorem bits_eq (c : UInt8) : pounceref04_bits_ (Ev.upto 200000) ((((c.toNat : Nat) : Int), ((8 : Int), ())), ()) = some ((), (bitsE c.toNat, ())) := by
  have := fa_byte (P := fun c => pounceref04_bits_ (Ev.upto 200000) ((((c.toNat : Nat) : Int), ((8 : Int), ())), ()) == some ((), (bitsE c.toNat, ()))) (by kernel_rfl) c
  exact beq_iff_eq.1 this
def bv (b : Bool) : Nat := bif b then 1 else 0
def num2 (a b : Bool) : Nat := 2 * bv a + bv b
def num4 (a b c d : Bool) : Nat := 8 * bv a + 4 * bv b + 2 * bv c + bv d
def num6 (a b c d e f : Bool) : Nat := num2 a b * 16 + num4 c d e f
theorem number_eq (a b c d e f : Bool) : pounceref04_number_ (Ev.upto 200000) (([a, b, c, d, e, f], ()), ()) = some ((((num6 a b c d e f : Nat) : Int), ()), ()) := by
  cases a <;> cases b <;> cases c <;> cases d <;> cases e <;> cases f <;> (show _ = _; kernel_rfl)
def sig6 : List Bool → Bs
  | a :: b :: c :: d :: e :: f :: r => sgn (num6 a b c d e f) :: sig6 r
  | _ => []
theorem num6_lt (a b c d e f : Bool) : num6 a b c d e f < 64 := by
  cases a <;> cases b <;> cases c <;> cases d <;> cases e <;> cases f <;> decide
/-- three bytes are four signs -/
theorem hi6 (c : UInt8) : num6 (c.toNat / 128 % 2 == 1) (c.toNat / 64 % 2 == 1) (c.toNat / 32 % 2 == 1) (c.toNat / 16 % 2 == 1) (c.toNat / 8 % 2 == 1) (c.toNat / 4 % 2 == 1) = c.toNat / 4 := by
  have := fa_byte (P := fun c => num6 (c.toNat / 128 % 2 == 1) (c.toNat / 64 % 2 == 1) (c.toNat / 32 % 2 == 1) (c.toNat / 16 % 2 == 1) (c.toNat / 8 % 2 == 1) (c.toNat / 4 % 2 == 1) == c.toNat / 4) (by kernel_rfl) c
  exact beq_iff_eq.1 this
theorem lo6 (c : UInt8) : num6 (c.toNat / 32 % 2 == 1) (c.toNat / 16 % 2 == 1) (c.toNat / 8 % 2 == 1) (c.toNat / 4 % 2 == 1) (c.toNat / 2 % 2 == 1) (c.toNat % 2 == 1) = c.toNat % 64 := by
  have := fa_byte (P := fun c => num6 (c.toNat / 32 % 2 == 1) (c.toNat / 16 % 2 == 1) (c.toNat / 8 % 2 == 1) (c.toNat / 4 % 2 == 1) (c.toNat / 2 % 2 == 1) (c.toNat % 2 == 1) == c.toNat % 64) (by kernel_rfl) c
  exact beq_iff_eq.1 this
theorem lo2 (c : UInt8) : num2 (c.toNat / 2 % 2 == 1) (c.toNat % 2 == 1) = c.toNat % 4 := by
  have := fa_byte (P := fun c => num2 (c.toNat / 2 % 2 == 1) (c.toNat % 2 == 1) == c.toNat % 4) (by kernel_rfl) c
  exact beq_iff_eq.1 this
theorem hi4 (c : UInt8) : num4 (c.toNat / 128 % 2 == 1) (c.toNat / 64 % 2 == 1) (c.toNat / 32 % 2 == 1) (c.toNat / 16 % 2 == 1) = c.toNat / 16 := by
  have := fa_byte (P := fun c => num4 (c.toNat / 128 % 2 == 1) (c.toNat / 64 % 2 == 1) (c.toNat / 32 % 2 == 1) (c.toNat / 16 % 2 == 1) == c.toNat / 16) (by kernel_rfl) c
  exact beq_iff_eq.1 this
theorem lo4 (c : UInt8) : num4 (c.toNat / 8 % 2 == 1) (c.toNat / 4 % 2 == 1) (c.toNat / 2 % 2 == 1) (c.toNat % 2 == 1) = c.toNat % 16 := by
  have := fa_byte (P := fun c => num4 (c.toNat / 8 % 2 == 1) (c.toNat / 4 % 2 == 1) (c.toNat / 2 % 2 == 1) (c.toNat % 2 == 1) == c.toNat % 16) (by kernel_rfl) c
  exact beq_iff_eq.1 this
theorem hi2 (c : UInt8) : num2 (c.toNat / 128 % 2 == 1) (c.toNat / 64 % 2 == 1) = c.toNat / 64 := by
  have := fa_byte (P := fun c => num2 (c.toNat / 128 % 2 == 1) (c.toNat / 64 % 2 == 1) == c.toNat / 64) (by kernel_rfl) c
  exact beq_iff_eq.1 this
theorem num42 (a b c d e f : Bool) : num6 a b c d e f = num4 a b c d * 4 + num2 e f := by
  unfold num6 num4 num2; omega
theorem sig_three (a b c : UInt8) (r : List Bool) : sig6 (bitsE a.toNat ++ (bitsE b.toNat ++ (bitsE c.toNat ++ r))) = enc4 (n3 a b c) ++ sig6 r := by
  have ha := a.toNat_lt; have hb := b.toNat_lt; have hc := c.toNat_lt
  show sgn (num6 (a.toNat / 128 % 2 == 1) (a.toNat / 64 % 2 == 1) (a.toNat / 32 % 2 == 1) (a.toNat / 16 % 2 == 1) (a.toNat / 8 % 2 == 1) (a.toNat / 4 % 2 == 1)) :: sgn (num2 (a.toNat / 2 % 2 == 1) (a.toNat % 2 == 1) * 16 + num4 (b.toNat / 128 % 2 == 1) (b.toNat / 64 % 2 == 1) (b.toNat / 32 % 2 == 1) (b.toNat / 16 % 2 == 1)) :: sgn (num6 (b.toNat / 8 % 2 == 1) (b.toNat / 4 % 2 == 1) (b.toNat / 2 % 2 == 1) (b.toNat % 2 == 1) (c.toNat / 128 % 2 == 1) (c.toNat / 64 % 2 == 1)) :: sgn (num6 (c.toNat / 32 % 2 == 1) (c.toNat / 16 % 2 == 1) (c.toNat / 8 % 2 == 1) (c.toNat / 4 % 2 == 1) (c.toNat / 2 % 2 == 1) (c.toNat % 2 == 1)) :: sig6 r = _
  rw [hi6, lo2, hi4, num42 (b.toNat / 8 % 2 == 1), lo4, hi2, lo6]
  have e1 : n3 a b c / 2 ^ 18 % 64 = a.toNat / 4 := by unfold n3; omega
  have e2 : n3 a b c / 2 ^ 12 % 64 = a.toNat % 4 * 16 + b.toNat / 16 := by unfold n3; omega
  have e3 : n3 a b c / 2 ^ 6 % 64 = b.toNat % 16 * 4 + c.toNat / 64 := by unfold n3; omega
  have e4 : n3 a b c / 2 ^ 0 % 64 = c.toNat % 64 := by unfold n3; omega
  unfold enc4
  rw [e1, e2, e3, e4]
  rfl
theorem sig_one (a : UInt8) : sig6 (bitsE a.toNat ++ [false, false, false, false]) = (enc4 (n3 a 0 0)).take 2 := by
  have ha := a.toNat_lt
  show sgn (num6 (a.toNat / 128 % 2 == 1) (a.toNat / 64 % 2 == 1) (a.toNat / 32 % 2 == 1) (a.toNat / 16 % 2 == 1) (a.toNat / 8 % 2 == 1) (a.toNat / 4 % 2 == 1)) :: sgn (num2 (a.toNat / 2 % 2 == 1) (a.toNat % 2 == 1) * 16 + num4 false false false false) :: [] = _
  rw [hi6, lo2]
  have e1 : n3 a 0 0 / 2 ^ 18 % 64 = a.toNat / 4 := by unfold n3; rw [show (0 : UInt8).toNat = 0 from rfl]; omega
  have e2 : n3 a 0 0 / 2 ^ 12 % 64 = a.toNat % 4 * 16 + 0 := by unfold n3; rw [show (0 : UInt8).toNat = 0 from rfl]; omega
  unfold enc4
  rw [e1, e2]
  rfl
def bitsL (s : Bs) : List Bool := s.flatMap fun c => bitsE c.toNat
theorem bitsL_len (s : Bs) : (bitsL s).length = 8 * s.length := by
  induction s with
  | nil => rfl
  | cons c s ih =>
    have e : bitsL (c :: s) = bitsE c.toNat ++ bitsL s := by simp [bitsL]
    rw [e, List.length_append, ih]
    simp [bitsE]
    omega
theorem bitsL_cons (c : UInt8) (s : Bs) : bitsL (c :: s) = bitsE c.toNat ++ bitsL s := by simp [bitsL]
theorem sig_enc : ∀ (s : Bs), s.length % 3 = 1 → sig6 (bitsL s ++ [false, false, false, false]) ++ [61, 61] = encW s
  | [], h => by simp at h
  | [a], _ => by
    rw [encW, bitsL_cons, show bitsL [] = [] from rfl, List.append_nil, sig_one]
  | [a, b], h => by simp at h
  | a :: b :: c :: r, h => by
    rw [encW, bitsL_cons, bitsL_cons, bitsL_cons, List.append_assoc, List.append_assoc, List.append_assoc, sig_three, List.append_assoc, sig_enc r (by simp at h; omega)]
end Go.En.Pl
