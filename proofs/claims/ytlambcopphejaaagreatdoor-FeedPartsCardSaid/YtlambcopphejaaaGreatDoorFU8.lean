/- Text FU8 of this seat: written by a program of ours, or by hand; checked by Lean. -/
import Derived.Test.YtlambcopphejaaaGreatDoorFU4
import Derived.Test.YtlambcopphejaaaGreatDoorFU7
import Derived.Test.YtlambcopphejaaaGreatDoorFB
set_option linter.unusedSimpArgs false
set_option linter.unusedVariables false
namespace Go.En.Pl
theorem exH : pouncelaw15_feeds_ (Ev.upto 200000000) ((), ()) = some ((true, ()), ()) := by kernel_rfl
theorem runT_b3 (s : Bs) (hs : s.length ≤ 6000) : (runT s).2.1.length ≤ 100000000 ∧ (∀ t ∈ (runT s).2.1, t.2.2.2.1.length ≤ 4000) ∧ (runT s).2.2.length ≤ 192000000 := by
  have hI := run_inv (by omega) s.length _ (inv0 s)
  have hA := run_al s s.length (0, [], []) (fun u hu => by cases hu)
  have h1 := hI.len
  have h2 := hI.fl
  have h3 := hI.le
  exact ⟨by show (runS s s.length (0, [], [])).2.1.length ≤ _; omega, fun t ht => by have := hA t ht; omega, by show (runS s s.length (0, [], [])).2.2.length ≤ _; omega⟩
theorem rWhole_eq (s : Bs) (hs : s.length ≤ 2000) : pounceref15_Whole_ (Ev.upto 200000000) ((s, ()), ()) = some (((0 : Int), ()), ((runT (U s)).2.1, ((runT (U s)).2.2, ()))) := by
  have h6 := U_len s.length s (Nat.le_refl _)
  have q1 := rDec_eq 200000000 s (by omega) (by decide)
  have q2 := rTokens_wp 200000000 (U s) (by omega) (by decide)
  have c0 : decide ((s.length : Int) > 20000) = false := decide_eq_false (by omega)
  unfold pounceref15_Whole_
  simp -implicitDefEqProofs only [c0, cond_false, q1, q2, Option.bind_some]
theorem rWhole_big (V : Ev) (s : Bs) (hs : 20000 < s.length) : pounceref15_Whole_ V ((s, ()), ()) = some (((2 : Int), ()), ([], ([], ()))) := by
  have c0 : decide ((s.length : Int) > 20000) = true := decide_eq_true (by omega)
  unfold pounceref15_Whole_
  simp -implicitDefEqProofs only [c0, cond_true]
end Go.En.Pl
