/- Text PS6 of this seat: written by a program of ours, or by hand; checked by Lean. -/
import Derived.Test.YtgenjkaccmjfkaaGreatDoorPS5
set_option linter.unusedSimpArgs false
set_option linter.unusedVariables false
namespace Go.En.Pl
def keptO (k : Int) : Bs := bif keptB k then keptW k else []
theorem rkept_eq (V : Ev) (k : Int) : pounceref09_Kept_ V ((k, ()), ()) = some ((keptO k, ()), ()) := by
  by_cases hk : 1 ≤ k ∧ k ≤ 8
  · have : k = 1 ∨ k = 2 ∨ k = 3 ∨ k = 4 ∨ k = 5 ∨ k = 6 ∨ k = 7 ∨ k = 8 := by omega
    rcases this with rfl | rfl | rfl | rfl | rfl | rfl | rfl | rfl <;> (show _ = _; kernel_rfl)
  · have hkb : keptB k = false := by
      unfold keptB
      by_cases h0 : 1 ≤ k
      · rw [decide_eq_false (show ¬ k ≤ 8 by omega), Bool.and_false]
      · rw [decide_eq_false h0]; rfl
    unfold pounceref09_Kept_ keptO
    rw [hkb]
    by_cases h0 : k < 1
    · rw [decide_eq_true h0]; rfl
    · rw [decide_eq_false h0, decide_eq_true (show k > 8 by omega)]; rfl
theorem keptO_ne (k : Int) : (keptO k == ([] : Bs)) = !keptB k := by
  unfold keptO
  cases hk : keptB k with
  | false => rfl
  | true =>
    unfold keptB at hk
    simp only [Bool.and_eq_true, decide_eq_true_eq] at hk
    have : k = 1 ∨ k = 2 ∨ k = 3 ∨ k = 4 ∨ k = 5 ∨ k = 6 ∨ k = 7 ∨ k = 8 := by omega
    rcases this with rfl | rfl | rfl | rfl | rfl | rfl | rfl | rfl <;> (show _ = _; kernel_rfl)
theorem rhostS_eq (s : Src) (h : smallS s) : pounceref09_host_ (Ev.upto 200000) ((s, ()), ()) = some ((hostS s, ()), ()) := by
  obtain ⟨k, tx, sc, ho, wi, po, pa⟩ := s
  obtain ⟨h1, h2, h3, h4⟩ := h
  simp only at h1 h2 h3 h4
  have q2 := rscheme_eq 200000 sc (by omega)
  have q3 := rhost_eq 200000 ho (by omega)
  have q4 := rpath_eq 200000 pa (by omega) (by omega)
  unfold pounceref09_host_ hostS
  simp -implicitDefEqProofs only [q2, q3, q4, Option.bind_some]
  cases f8 : (tx == ([] : Bs)) <;>
  cases f1 : (sc == ([] : Bs)) <;>
  cases f2 : schemeB sc <;>
  cases f3 : (ho == ([] : Bs)) <;>
  cases f4 : hostB ho <;>
  cases f5 : decide (po ≥ -1) <;>
  cases f6 : decide (po ≤ 65535) <;>
  (simp -implicitDefEqProofs only [f8, f1, f2, f3, f4, f5, f6, q2, q3, q4, Option.bind_some, cond_true, cond_false, beq_self_eq_true, nil_beq, show (false == true) = false from rfl, show (true == false) = false from rfl, Bool.and_true, Bool.true_and, Bool.and_false, Bool.false_and, Bool.not_true, Bool.not_false, Bool.true_or, Bool.false_or]
   all_goals (
    generalize (wi) = wj
    generalize (pathB pa) = pb
    cases wj <;> cases pb <;> rfl))
set_option maxHeartbeats 2000000 in
theorem rright_eq (s : Src) (h : smallS s) : pounceref09_Right_ (Ev.upto 200000) ((s, ()), ()) = some ((rightB s, ()), ()) := by
  have q5 := rhostS_eq s h
  obtain ⟨k, tx, sc, ho, wi, po, pa⟩ := s
  obtain ⟨h1, h2, h3, h4⟩ := h
  simp only at h1 h2 h3 h4
  have q1 := rform_eq tx (by omega)
  have q2 := rscheme_eq 200000 sc (by omega)
  have q6 := rkept_eq (Ev.upto 200000) k
  unfold pounceref09_Right_
  have first : wp ((bif ((ho == ([] : Bs)) == true) then (bif ((!wi) == true) then (bif ((po == (0 : Int)) == true) then (some (((pa == ([] : Bs)), ()), (((k, (tx, (sc, (ho, (wi, (po, pa)))))), ()), ()))) else (some ((false, ()), (((k, (tx, (sc, (ho, (wi, (po, pa)))))), ()), ())))) else (some ((false, ()), (((k, (tx, (sc, (ho, (wi, (po, pa)))))), ()), ())))) else (some ((false, ()), (((k, (tx, (sc, (ho, (wi, (po, pa)))))), ()), ()))) : Option ((Bool × Unit) × ((Src × Unit) × Unit)))) (fun o => o = ((bareB (k, (tx, (sc, (ho, (wi, (po, pa)))))), ()), (((k, (tx, (sc, (ho, (wi, (po, pa)))))), ()), ()))) := by
    unfold bareB
    simp only
    cases (ho == ([] : Bs)) <;> cases wi <;> cases (po == 0) <;> exact ⟨_, rfl, rfl⟩
  obtain ⟨_, e, rfl⟩ := first
  simp -implicitDefEqProofs only []
  rw [e]
  unfold rightB
  simp -implicitDefEqProofs only [Option.bind_some, q1, q2, q5, q6, keptO_ne, Bool.not_not]
  generalize bareB (k, (tx, (sc, (ho, (wi, (po, pa)))))) = ba
  cases (k == 9) with
  | true => cases ba <;> cases (sc == ([] : Bs)) <;> cases decide ((tx.length : Int) ≤ 200) <;> cases formB tx <;> rfl
  | false =>
    cases (k == 10) with
    | true => cases ba <;> cases (sc == ([] : Bs)) <;> cases ((tx.length : Int) == 16) <;> rfl
    | false =>
      cases (k == 11) with
      | true => cases ba <;> cases (tx == ([] : Bs)) <;> cases schemeB sc <;> rfl
      | false =>
        cases (k == 12) with
        | true => rfl
        | false => cases keptB k <;> cases ba <;> cases (sc == ([] : Bs)) <;> cases (tx == ([] : Bs)) <;> rfl
end Go.En.Pl
