/- Text OA of this seat: written by a program of ours, or by hand; checked by Lean. -/
import Derived.Test.YtadpiodjbcjlcaaO9
set_option linter.unusedVariables false
set_option linter.unusedSimpArgs false
namespace Go.En.Pl
/-! -/
theorem laysOk : pouncelaw16_lays_ (Ev.upto 5000) ((), ()) = some ((true, ()), ()) := by kernel_rfl
theorem gt300 (n : Nat) : decide ((n : Int) > 300) = decide (n > 300) := lenGt n 300
theorem plainDomChecks (d : List Nd) (n : Int) (name : Bs) : pouncelaw16_DomChecks_ (Ev.upto 5000) ((d, (n, (name, ()))), ()) = some ((true, ()), ()) := by
  unfold pouncelaw16_DomChecks_
  obtain ⟨b, hb, hk⟩ := big d
  simp only [hb, Option.bind_some]
  cases b with
  | true => rfl
  | false =>
    have hd := hk rfl
    have hs := hd.sm
    simp only [beq_self_eq_true, cond_true, Option.bind_some]
    cases hg : decide ((name.length : Int) > (300 : Int)) with
    | true => rfl
    | false =>
      simp only [cond_false, own d hs, Option.bind_some, (attrBoth d n name hs).1, (attrBoth d n name hs).2, domCheck d hs, refCheck d hs, beq_self_eq_true, cond_true, laysOk, (belowBoth d n hs).1, (belowBoth d n hs).2, intsRefl _ (Nat.le_trans (blw_len d n) (by omega)), (textBoth d n hd).1, (textBoth d n hd).2, (inBoth d n hs).1, (inBoth d n hs).2, sameRefl d hs]
      rw [laysOk]
      rfl
end Go.En.Pl
