/- Text FU9 of this seat: written by a program of ours, or by hand; checked by Lean. -/
import Derived.Test.YtlambcopphejaaaGreatDoorFU8
set_option linter.unusedSimpArgs false
set_option linter.unusedVariables false
namespace Go.En.Pl
theorem plainWhole (b : List Int) (hb : (Ty.slice 5 (.int .u8)).ok b) : pouncelaw15_FeedWhole_ (Ev.upto 200000000) ((b, ()), ()) = some ((true, ()), ()) := by
  obtain ⟨s, rfl⟩ := bytes_ok hb
  have guard : ∃ c, ((bif (decide (((ofBs s).length : Int) > (2000 : Int)) == true) then (bif (decide (((ofBs s).length : Int) ≤ (20000 : Int)) == false) then (some ((ofBs s, (decide (((ofBs s).length : Int) > (30000 : Int)), ())), ())) else (some ((ofBs s, (true, ())), ()))) else (some ((ofBs s, (decide (((ofBs s).length : Int) > (30000 : Int)), ())), ()))) : Option ((List Int × Bool × Unit) × Unit)) = some ((ofBs s, (c, ())), ()) ∧ (c = false → s.length ≤ 2000 ∨ 20000 < s.length) := by
    rw [ofBs_length]
    by_cases h1 : 2000 < s.length
    · rw [show decide ((s.length : Int) > (2000 : Int)) = true from decide_eq_true (by omega)]
      by_cases h2 : s.length ≤ 20000
      · rw [show decide ((s.length : Int) ≤ (20000 : Int)) = true from decide_eq_true (by omega)]
        exact ⟨true, rfl, fun h => by cases h⟩
      · rw [show decide ((s.length : Int) ≤ (20000 : Int)) = false from decide_eq_false (by omega)]
        exact ⟨_, rfl, fun _ => Or.inr (by omega)⟩
    · rw [show decide ((s.length : Int) > (2000 : Int)) = false from decide_eq_false (by omega)]
      exact ⟨_, rfl, fun _ => Or.inl (by omega)⟩
  obtain ⟨c, e, hc⟩ := guard
  unfold pouncelaw15_FeedWhole_
  simp -implicitDefEqProofs only [e, Option.bind_some]
  cases c with
  | true => rfl
  | false =>
    simp -implicitDefEqProofs only [cond_false, toBs_ofBs]
    rcases hc rfl with h | h
    · have h6 := U_len s.length s (Nat.le_refl _)
      obtain ⟨b1, b2, b3⟩ := runT_b3 (U s) (by omega)
      have q1 := Whole_eq 200000000 s (by omega) (by decide)
      have q2 := rWhole_eq s h
      have q4 := Same2_eq 200000000 (runT (U s)).2.1 (by omega) (by omega) b2 (by decide)
      have q5 := Fails2_eq 200000000 (runT (U s)).2.2 (by omega) (by omega)
      simp -implicitDefEqProofs only [q1, q2, Option.bind_some]
      rw [exH]
      simp -implicitDefEqProofs only [Option.bind_some, beq_self_eq_true, cond_true, q4, q5]
    · have q1 := Whole_big (Ev.upto 200000000) (ofBs s) (by rw [ofBs_length]; exact h)
      have q2 := rWhole_big (Ev.upto 200000000) s h
      have q4 := Same2_eq 200000000 [] (by decide) (by decide) (fun t ht => by cases ht) (by decide)
      have q5 := Fails2_eq 200000000 [] (by decide) (by decide)
      simp -implicitDefEqProofs only [q1, q2, Option.bind_some]
      rw [exH]
      simp -implicitDefEqProofs only [Option.bind_some, beq_self_eq_true, cond_true, q4, q5]
end Go.En.Pl
