/- Text OE of this seat: written by a program of ours, or by hand; checked by Lean. -/
import Derived.Test.YtadpiodjbcjlcaaOD
set_option linter.unusedVariables false
set_option linter.unusedSimpArgs false
namespace Go.En.Pl
theorem setA_len (l : List At) (nm v : Bs) : (setA l nm v).length ≤ l.length + 1 := by
  rcases fnd_cases l nm with ⟨e, _⟩ | ⟨j, hj, e, _⟩
  · rw [setA_neg e]; simp
  · rw [setA_pos hj e]; simp
theorem smSets {d : List Nd} (x : Int) (nm v : Bs) (h : DocOk d) : Sm (sets d x nm v).2 := by
  unfold sets
  have h0 : Sm [] := ⟨by simp, by simp⟩
  by_cases hc : chk d = 0
  · rw [if_pos hc]
    cases hn : idx d x with
    | none => exact h0
    | some n =>
      have hm := h.2 n (List.mem_of_getElem? (idx_some hn).2.2)
      unfold NdOk at hm
      simp only
      by_cases h2 : n.1 = 2
      · rw [if_pos h2]
        by_cases h3 : fnd n.2.2.2.1 nm = -1 ∧ 30 ≤ n.2.2.2.1.length
        · rw [if_pos h3]; exact h0
        · rw [if_neg h3]
          exact smSet h.sm _ (by have := setA_len n.2.2.2.1 nm v; show (setA n.2.2.2.1 nm v).length ≤ 4000; omega) (by show n.2.2.2.2.2.1.length ≤ 4000; omega)
      · rw [if_neg h2]; exact h0
  · rw [if_neg hc]; exact h0
theorem plainDomSets (d : List Nd) (x : Int) (nm v : Bs) : pouncelaw16_DomSets_ (Ev.upto 5000) ((d, (x, (nm, (v, ())))), ()) = some ((true, ()), ()) := by
  unfold pouncelaw16_DomSets_
  obtain ⟨b, hb, hk⟩ := big d
  simp only [hb, Option.bind_some]
  cases b with
  | true => rfl
  | false =>
    have hd := hk rfl
    have hs := hd.sm
    simp only [beq_self_eq_true, cond_true]
    cases hg : decide ((nm.length : Int) > (300 : Int)) with
    | true => rfl
    | false =>
      simp only [beq_self_eq_true, cond_true, Option.bind_some]
      cases hv : decide ((v.length : Int) > (1000 : Int)) with
      | true => rfl
      | false =>
        obtain ⟨o, ho, -⟩ := smudge (sets d x nm v).2 (smSets x nm v hd)
        simp only [cond_false, own d hs, Option.bind_some, domSet d x nm v hs]
        rw [refSet d x nm v hs]
        simp only [Option.bind_some, beq_self_eq_true, cond_true, sameRefl _ (smSets x nm v hd), ho, sameRefl d hs]
        rw [laysOk]
        rfl
end Go.En.Pl
