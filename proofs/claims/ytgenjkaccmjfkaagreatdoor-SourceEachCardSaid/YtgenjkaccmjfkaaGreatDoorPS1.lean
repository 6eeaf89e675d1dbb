/- Text PS1 of this seat: written by a program of ours, or by hand; checked by Lean. -/
import Derived.Test.YtgenjkaccmjfkaaGreatDoorW
import Derived.Test.YtgenjkaccmjfkaaGreatDoorG
set_option linter.unusedSimpArgs false
set_option linter.unusedVariables false
namespace Go.En.Pl
theorem exw : pouncelaw09_words_ (Ev.upto 5000) ((), ()) = some ((true, ()), ()) := by kernel_rfl
abbrev kS (k : Int) : Int × (Bs × (Bs × (Bs × (Bool × (Int × Bs))))) := (k, (([] : Bs), (([] : Bs), (([] : Bs), (false, ((0 : Int), ([] : Bs)))))))
def keptW (k : Int) : Bs := if k = 1 then [39, 110, 111, 110, 101, 39] else if k = 2 then [39, 115, 101, 108, 102, 39] else if k = 3 then [39, 117, 110, 115, 97, 102, 101, 45, 105, 110, 108, 105, 110, 101, 39] else if k = 4 then [39, 117, 110, 115, 97, 102, 101, 45, 101, 118, 97, 108, 39] else if k = 5 then [39, 119, 97, 115, 109, 45, 117, 110, 115, 97, 102, 101, 45, 101, 118, 97, 108, 39] else if k = 6 then [39, 115, 116, 114, 105, 99, 116, 45, 100, 121, 110, 97, 109, 105, 99, 39] else if k = 7 then [39, 117, 110, 115, 97, 102, 101, 45, 104, 97, 115, 104, 101, 115, 39] else [39, 114, 101, 112, 111, 114, 116, 45, 115, 97, 109, 112, 108, 101, 39]
theorem prOk (k : Int) (h0 : 1 ≤ k) (h1 : k ≤ 8) : source_Print_ (Ev.upto 5000) ((kS k, ()), ()) = some ((keptW k, (true, ())), ()) := by
  have : k = 1 ∨ k = 2 ∨ k = 3 ∨ k = 4 ∨ k = 5 ∨ k = 6 ∨ k = 7 ∨ k = 8 := by omega
  rcases this with rfl | rfl | rfl | rfl | rfl | rfl | rfl | rfl <;> (show _ = _; kernel_rfl)
theorem prNo (k : Int) (h : ¬ (1 ≤ k ∧ k ≤ 8)) : source_Print_ (Ev.upto 5000) ((kS k, ()), ()) = some ((([] : Bs), (false, ())), ()) := by
  by_cases h9 : k = 9
  · subst h9; kernel_rfl
  by_cases h10 : k = 10
  · subst h10; kernel_rfl
  by_cases h11 : k = 11
  · subst h11; kernel_rfl
  by_cases h12 : k = 12
  · subst h12; kernel_rfl
  have e9 : (k == 9) = false := by simp [h9]
  have e10 : (k == 10) = false := by simp [h10]
  have e11 : (k == 11) = false := by simp [h11]
  have e12 : (k == 12) = false := by simp [h12]
  have hr : source_right_ (Ev.upto 5000) ((kS k, ()), ()) = some ((false, ()), ()) := by
    unfold source_right_
    by_cases h1 : k ≥ 1
    · have d1 : decide (k ≥ 1) = true := decide_eq_true h1
      have d2 : decide (k ≤ 8) = false := decide_eq_false (by omega)
      simp -implicitDefEqProofs only [d1, d2, beq_self_eq_true, cond_true, cond_false, Option.bind_some, e9, e10, e11, e12]
      rfl
    · have d1 : decide (k ≥ 1) = false := decide_eq_false h1
      simp -implicitDefEqProofs only [d1, show (false == true) = false from rfl, cond_true, cond_false, Option.bind_some, e9, e10, e11, e12]
  unfold source_Print_
  rw [hr]
  rfl
theorem paOk (k : Int) (h0 : 1 ≤ k) (h1 : k ≤ 8) : source_Parse_ (Ev.upto 5000) ((keptW k, ()), ()) = some ((kS k, (true, ())), ()) := by
  have : k = 1 ∨ k = 2 ∨ k = 3 ∨ k = 4 ∨ k = 5 ∨ k = 6 ∨ k = 7 ∨ k = 8 := by omega
  rcases this with rfl | rfl | rfl | rfl | rfl | rfl | rfl | rfl <;> (show _ = _; kernel_rfl)
theorem plainKept (a b : Int) : pouncelaw09_SourceKept_ (Ev.upto 5000) ((a, (b, ())), ()) = some ((true, ()), ()) := by
  unfold pouncelaw09_SourceKept_
  by_cases ha : 1 ≤ a ∧ a ≤ 8
  · obtain ⟨a0, a1⟩ := ha
    have pa := prOk a a0 a1
    have pp := paOk a a0 a1
    by_cases hb : 1 ≤ b ∧ b ≤ 8
    · obtain ⟨b0, b1⟩ := hb
      have pb := prOk b b0 b1
      simp -implicitDefEqProofs only [pa, pb, Option.bind_some, pp]
      rw [exw]
      have ea : a = 1 ∨ a = 2 ∨ a = 3 ∨ a = 4 ∨ a = 5 ∨ a = 6 ∨ a = 7 ∨ a = 8 := by omega
      have eb : b = 1 ∨ b = 2 ∨ b = 3 ∨ b = 4 ∨ b = 5 ∨ b = 6 ∨ b = 7 ∨ b = 8 := by omega
      clear pa pb pp a0 a1 b0 b1
      rcases ea with rfl | rfl | rfl | rfl | rfl | rfl | rfl | rfl <;> rcases eb with rfl | rfl | rfl | rfl | rfl | rfl | rfl | rfl <;> (show _ = _; kernel_rfl)
    · have pb := prNo b hb
      simp -implicitDefEqProofs only [pa, pb, Option.bind_some, pp]
      rw [exw]
      have ea : a = 1 ∨ a = 2 ∨ a = 3 ∨ a = 4 ∨ a = 5 ∨ a = 6 ∨ a = 7 ∨ a = 8 := by omega
      clear pa pb pp a0 a1
      rcases ea with rfl | rfl | rfl | rfl | rfl | rfl | rfl | rfl <;> (show _ = _; kernel_rfl)
  · have pa := prNo a ha
    have pb : ∃ w i, source_Print_ (Ev.upto 5000) ((kS b, ()), ()) = some ((w, (i, ())), ()) := by
      by_cases hb : 1 ≤ b ∧ b ≤ 8
      · exact ⟨_, _, prOk b hb.1 hb.2⟩
      · exact ⟨_, _, prNo b hb⟩
    obtain ⟨w, i, pb⟩ := pb
    simp -implicitDefEqProofs only [pa, pb, Option.bind_some]
    rw [exw]
    by_cases h1 : a ≥ 1
    · have d1 : decide (a ≥ 1) = true := decide_eq_true h1
      have d2 : decide (a ≤ 8) = false := decide_eq_false (by omega)
      simp -implicitDefEqProofs only [d1, d2]
      rfl
    · have d1 : decide (a ≥ 1) = false := decide_eq_false h1
      simp -implicitDefEqProofs only [d1]
      rfl
end Go.En.Pl
