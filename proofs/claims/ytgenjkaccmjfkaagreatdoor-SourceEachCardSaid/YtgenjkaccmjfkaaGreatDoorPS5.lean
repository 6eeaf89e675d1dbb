/- Text PS5 of this seat: written by a program of ours, or by hand; checked by Lean. -/
import Derived.Test.YtgenjkaccmjfkaaGreatDoorPS4
set_option linter.unusedSimpArgs false
set_option linter.unusedVariables false
namespace Go.En.Pl
/-! ### A source is right -/
def bareB (s : Src) : Bool := s.2.2.2.1 == ([] : Bs) && (!s.2.2.2.2.1 && (s.2.2.2.2.2.1 == 0 && s.2.2.2.2.2.2 == ([] : Bs)))
def hostS (s : Src) : Bool := s.2.1 == ([] : Bs) && ((s.2.2.1 == ([] : Bs) || schemeB s.2.2.1) && ((bif s.2.2.2.1 == ([] : Bs) then s.2.2.2.2.1 else hostB s.2.2.2.1) && (decide (s.2.2.2.2.2.1 ≥ -1) && (decide (s.2.2.2.2.2.1 ≤ 65535) && pathB s.2.2.2.2.2.2))))
def keptB (k : Int) : Bool := decide (1 ≤ k) && decide (k ≤ 8)
noncomputable def rightB (s : Src) : Bool :=
  bif s.1 == 9 then bareB s && (s.2.2.1 == ([] : Bs) && (decide ((s.2.1.length : Int) ≤ 200) && formB s.2.1))
  else bif s.1 == 10 then bareB s && (s.2.2.1 == ([] : Bs) && ((s.2.1.length : Int) == 16))
  else bif s.1 == 11 then bareB s && (s.2.1 == ([] : Bs) && schemeB s.2.2.1)
  else bif s.1 == 12 then hostS s
  else keptB s.1 && (bareB s && (s.2.2.1 == ([] : Bs) && s.2.1 == ([] : Bs)))
def smallS (s : Src) : Prop := s.2.1.length ≤ 1000 ∧ s.2.2.1.length ≤ 1000 ∧ s.2.2.2.1.length ≤ 1000 ∧ s.2.2.2.2.2.2.length ≤ 1000
theorem nil_beq (x : Bs) : (([] : Bs) == x) = (x == ([] : Bs)) := by cases x <;> rfl
set_option maxHeartbeats 2000000 in
theorem right_eq (s : Src) (h : smallS s) : source_right_ (Ev.upto 200000) ((s, ()), ()) = some ((rightB s, ()), ()) := by
  obtain ⟨k, tx, sc, ho, wi, po, pa⟩ := s
  obtain ⟨h1, h2, h3, h4⟩ := h
  simp only at h1 h2 h3 h4
  have q1 := form_eq 200000 tx (by omega) (by omega)
  have q2 := sscheme_eq 200000 sc (by omega) (by decide)
  have q3 := shost_eq 200000 ho (by omega) (by decide)
  have q4 := spath_eq 200000 pa (by omega) (by omega)
  have p0 : ((0 : Int) == po) = (po == 0) := by rw [Bool.eq_iff_iff, beq_iff_eq, beq_iff_eq]; exact eq_comm
  unfold source_right_
  by_cases hk : 1 ≤ k ∧ k ≤ 8
  · have d1 : decide (k ≥ 1) = true := decide_eq_true hk.1
    have d2 : decide (k ≤ 8) = true := decide_eq_true hk.2
    have e9 : (k == 9) = false := by simp; omega
    have e10 : (k == 10) = false := by simp; omega
    have e11 : (k == 11) = false := by simp; omega
    have e12 : (k == 12) = false := by simp; omega
    simp -implicitDefEqProofs only [d1, d2, beq_self_eq_true, cond_true, cond_false, Option.bind_some]
    unfold rightB keptB bareB
    simp only [e9, e10, e11, e12, cond_false, nil_beq, show decide (1 ≤ k) = true from d1, d2, Bool.and_true, Bool.true_and]
    simp -implicitDefEqProofs only [nil_beq, p0, beq_self_eq_true, Bool.and_true, Bool.true_and]
    generalize (tx == ([] : Bs)) = b1
    generalize (sc == ([] : Bs)) = b2
    generalize (ho == ([] : Bs)) = b3
    generalize (po == 0) = b4
    generalize (pa == ([] : Bs)) = b5
    cases wi <;> cases b1 <;> cases b2 <;> cases b3 <;> cases b4 <;> cases b5 <;> rfl
  · have hkb : keptB k = false := by
      unfold keptB
      by_cases h0 : 1 ≤ k
      · rw [decide_eq_false (show ¬ k ≤ 8 by omega), Bool.and_false]
      · rw [decide_eq_false h0]; rfl
    have first : wp ((bif (decide (k ≥ (1 : Int)) == true) then (some ((false, (k, (decide (k ≤ (8 : Int)), ()))), (((k, (tx, (sc, (ho, (wi, (po, pa)))))), ()), (((k, (([] : Bs), (([] : Bs), (([] : Bs), (false, ((0 : Int), ([] : Bs))))))), ()), ())))) else (some ((false, (k, (false, ()))), (((k, (tx, (sc, (ho, (wi, (po, pa)))))), ()), (((k, (([] : Bs), (([] : Bs), (([] : Bs), (false, ((0 : Int), ([] : Bs))))))), ()), ())))) : Option ((Bool × Int × Bool × Unit) × ((Src × Unit) × (Src × Unit) × Unit)))) (fun o => o = ((false, (k, (false, ()))), (((k, (tx, (sc, (ho, (wi, (po, pa)))))), ()), (((k, (([] : Bs), (([] : Bs), (([] : Bs), (false, ((0 : Int), ([] : Bs))))))), ()), ())))) := by
      by_cases h0 : k ≥ 1
      · rw [decide_eq_true h0, decide_eq_false (show ¬ k ≤ 8 by omega)]; exact ⟨_, rfl, rfl⟩
      · rw [decide_eq_false h0]; exact ⟨_, rfl, rfl⟩
    obtain ⟨_, e, rfl⟩ := first
    simp -implicitDefEqProofs only []
    rw [e]
    unfold rightB
    simp only
    cases e9 : (k == 9) with
    | true =>
      simp -implicitDefEqProofs only [Option.bind_some, cond_false, cond_true, e9, q1]
      unfold bareB
      cases f1 : formB tx <;>
      cases f2 : decide ((tx.length : Int) ≤ 200) <;>
      (simp -implicitDefEqProofs only [f1, f2, e9, Option.bind_some, cond_true, cond_false, beq_self_eq_true, nil_beq, p0, show (false == true) = false from rfl, show (true == false) = false from rfl, Bool.and_true, Bool.true_and, Bool.and_false, Bool.false_and, Bool.not_true, Bool.not_false, Bool.true_or, Bool.false_or]
       all_goals (
        generalize (sc == ([] : Bs)) = b2
        generalize (ho == ([] : Bs)) = b3
        generalize (po == 0) = b4
        generalize (pa == ([] : Bs)) = b5
        generalize (wi) = wj
        cases b2 <;> cases b3 <;> cases b4 <;> cases b5 <;> cases wj <;> rfl))
    | false =>
      cases e10 : (k == 10) with
      | true =>
        simp -implicitDefEqProofs only [Option.bind_some, cond_false, cond_true, e9, e10]
        unfold bareB
        cases f1 : ((tx.length : Int) == 16) <;>
        (simp -implicitDefEqProofs only [f1, e9, e10, Option.bind_some, cond_true, cond_false, beq_self_eq_true, nil_beq, p0, show (false == true) = false from rfl, show (true == false) = false from rfl, Bool.and_true, Bool.true_and, Bool.and_false, Bool.false_and, Bool.not_true, Bool.not_false, Bool.true_or, Bool.false_or]
         all_goals (
          generalize (sc == ([] : Bs)) = b2
          generalize (ho == ([] : Bs)) = b3
          generalize (po == 0) = b4
          generalize (pa == ([] : Bs)) = b5
          generalize (wi) = wj
          cases b2 <;> cases b3 <;> cases b4 <;> cases b5 <;> cases wj <;> rfl))
      | false =>
        cases e11 : (k == 11) with
        | true =>
          simp -implicitDefEqProofs only [Option.bind_some, cond_false, cond_true, e9, e10, e11, q2]
          unfold bareB
          cases f1 : schemeB sc <;>
          (simp -implicitDefEqProofs only [f1, e9, e10, e11, Option.bind_some, cond_true, cond_false, beq_self_eq_true, nil_beq, p0, show (false == true) = false from rfl, show (true == false) = false from rfl, Bool.and_true, Bool.true_and, Bool.and_false, Bool.false_and, Bool.not_true, Bool.not_false, Bool.true_or, Bool.false_or]
           all_goals (
            generalize (tx == ([] : Bs)) = b1
            generalize (ho == ([] : Bs)) = b3
            generalize (po == 0) = b4
            generalize (pa == ([] : Bs)) = b5
            generalize (wi) = wj
            cases b1 <;> cases b3 <;> cases b4 <;> cases b5 <;> cases wj <;> rfl))
        | false =>
          cases e12 : (k == 12) with
          | true =>
            simp -implicitDefEqProofs only [Option.bind_some, cond_false, cond_true, e9, e10, e11, e12, q2, q3, q4]
            unfold hostS
            cases f1 : (sc == ([] : Bs)) <;>
            cases f2 : schemeB sc <;>
            cases f3 : (ho == ([] : Bs)) <;>
            cases f4 : hostB ho <;>
            cases f5 : decide (po ≥ -1) <;>
            cases f6 : decide (po ≤ 65535) <;>
            cases f7 : pathB pa <;>
            cases f8 : wi <;>
            (simp -implicitDefEqProofs only [f1, f2, f3, f4, f5, f6, f7, f8, e9, e10, e11, e12, q2, q3, q4, Option.bind_some, cond_true, cond_false, beq_self_eq_true, nil_beq, p0, show (false == true) = false from rfl, show (true == false) = false from rfl, Bool.and_true, Bool.true_and, Bool.and_false, Bool.false_and, Bool.not_true, Bool.not_false, Bool.true_or, Bool.false_or]
             all_goals (
              generalize (tx == ([] : Bs)) = b1
              cases b1 <;> rfl))
          | false =>
            simp -implicitDefEqProofs only [Option.bind_some, cond_false, cond_true, e9, e10, e11, e12, hkb, Bool.false_and]
            rfl
end Go.En.Pl
