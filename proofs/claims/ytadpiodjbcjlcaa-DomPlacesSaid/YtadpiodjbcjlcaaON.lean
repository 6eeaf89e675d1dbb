/- Text ON of this seat: written by a program of ours, or by hand; checked by Lean. -/
import Derived.Test.YtadpiodjbcjlcaaOM
set_option linter.unusedVariables false
set_option linter.unusedSimpArgs false
namespace Go.En.Pl
/-! -/
theorem mk_spec {d : List Nd} {n : Nd} (h : (mk d n).2.1 = 0) : Right d ∧ mayB n = true ∧ n.1 ≠ 1 ∧ d.length < 300 ∧ (mk d n).1 = d.length ∧ (mk d n).2.2 = d ++ [mkN n] := by
  unfold mk at h ⊢
  by_cases hc : chk d = 0
  · rw [if_pos hc] at h ⊢
    cases hb : (!mayB n || n.1 == 1) with
    | true => rw [hb, if_pos rfl] at h; cases h
    | false =>
      rw [hb, if_neg (by simp)] at h
      simp only [Bool.or_eq_false_iff, Bool.not_eq_false', beq_eq_false_iff_ne] at hb
      by_cases hl : 300 ≤ d.length
      · rw [if_pos hl] at h; cases h
      · rw [if_neg (by simp), if_neg hl]
        exact ⟨chk0.1 hc, hb.1, hb.2, by omega, rfl, rfl⟩
  · rw [if_neg hc] at h
    exact absurd h hc
theorem cuts_spec {d : List Nd} {x : Int} (h : (cuts d x).1 = 0) : Right d ∧ 1 ≤ x ∧ In' d x ∧ (cuts d x).2 = outD d x := by
  unfold cuts at h ⊢
  by_cases hc : chk d = 0
  · rw [if_pos hc] at h ⊢
    by_cases hx : 1 ≤ x ∧ x < (d.length : Int)
    · rw [if_pos hx]
      exact ⟨chk0.1 hc, hx.1, ⟨by omega, hx.2⟩, rfl⟩
    · rw [if_neg hx] at h; cases h
  · rw [if_neg hc] at h
    exact absurd h hc
theorem puts_spec {d : List Nd} {q x : Int} (h : (puts d q x).1 = 0) : ∃ p, Right d ∧ In' d q ∧ 1 ≤ x ∧ In' d x ∧ idx d q = some p ∧ holdsB p = true ∧ q ∉ below d x ∧ (puts d q x).2 = putD d q x := by
  unfold puts at h ⊢
  by_cases hc : chk d = 0
  · rw [if_pos hc] at h ⊢
    by_cases hall : (0 ≤ q ∧ q < (d.length : Int)) ∧ 1 ≤ x ∧ x < (d.length : Int)
    · rw [if_pos hall] at h ⊢
      have hx : In' d x := ⟨by omega, hall.2.2⟩
      cases hp : idx d q with
      | none => rw [hp] at h; cases h
      | some p =>
        rw [hp] at h
        simp only at h ⊢
        cases hh : holdsB p with
        | false => rw [hh] at h; simp at h
        | true =>
          rw [hh, if_pos rfl] at h
          cases hu : undB d q x with
          | true => rw [hu] at h; simp at h
          | false =>
            refine ⟨p, chk0.1 hc, hall.1, hall.2.1, hx, rfl, hh, fun hb => ?_, ?_⟩
            · have := (undB_iff (chk0.1 hc) hall.1 hx).2 hb
              rw [hu] at this; cases this
            · simp
    · rw [if_neg hall] at h; cases h
  · rw [if_neg hc] at h
    exact absurd h hc
def newD : List Nd := [((1 : Int), (([] : Bs), (([] : Bs), (([] : List At), ((-1 : Int), (([] : List Int), (false, false)))))))]
theorem newOk : dom_New_ (Ev.upto 5000) ((), ()) = some ((), (newD, ())) := by kernel_rfl
theorem newRight : dom_Check_ (Ev.upto 5000) ((newD, ()), ()) = some (((0 : Int), ()), ()) := by kernel_rfl
theorem plainDomRight (d : List Nd) (n : Nd) (i k : Int) (nm v : Bs) : pouncelaw16_DomRight_ (Ev.upto 5000) ((d, (n, (i, (k, (nm, (v, ())))))), ()) = some ((true, ()), ()) := by
  unfold pouncelaw16_DomRight_
  obtain ⟨b, hb, hk⟩ := big d
  obtain ⟨c, hc, hkc⟩ := bigNode n
  simp only [hb, hc, Option.bind_some]
  cases b with
  | true => rfl
  | false =>
    have hd := hk rfl
    have hs := hd.sm
    simp only [beq_self_eq_true, cond_true, Option.bind_some]
    cases c with
    | true => rfl
    | false =>
      have hn := hkc rfl
      unfold NdOk at hn
      have h1 : n.2.2.2.1.length ≤ 4000 := by omega
      simp only [beq_self_eq_true, cond_true, Option.bind_some]
      cases hg1 : decide ((nm.length : Int) > (300 : Int)) with
      | true => rfl
      | false =>
        simp only [beq_self_eq_true, cond_true, Option.bind_some]
        cases hg2 : decide ((v.length : Int) > (1000 : Int)) with
        | true => rfl
        | false =>
          have s1 := smMk (n := n) hs hn.2.2.1
          have s2 := (skPuts i k hd).sm (by omega)
          have s3 := (skCuts k hd).sm (by omega)
          have s4 := smSets i nm v hd
          have f1 : ((mk d n).2.1 != 0) = false → (chk (mk d n).2.2 == 0) = true ∧ ((mk d n).1 == (d.length : Int)) = true := fun h => by
            obtain ⟨R, g1, g2, g3, g4, g5⟩ := mk_spec (bne_eq_false_iff_eq.1 h)
            rw [g5, g4]
            exact ⟨beq_iff_eq.2 (chk0.2 (R.made g1 g2 g3)), beq_self_eq_true _⟩
          have f2 : ((puts d i k).1 != 0) = false → (chk (puts d i k).2 == 0) = true := fun h => by
            obtain ⟨p, R, g1, g2, g3, g4, g5, g6, g7⟩ := puts_spec (bne_eq_false_iff_eq.1 h)
            rw [g7]
            exact beq_iff_eq.2 (chk0.2 (R.put g3 g2 g1 g4 g5 g6))
          have f3 : ((cuts d k).1 != 0) = false → (chk (cuts d k).2 == 0) = true := fun h => by
            obtain ⟨R, g1, g2, g3⟩ := cuts_spec (bne_eq_false_iff_eq.1 h)
            rw [g3]
            exact beq_iff_eq.2 (chk0.2 (R.out g2 g1))
          have f4 : ((sets d i nm v).1 != 0) = false → (chk (sets d i nm v).2 == 0) = true := fun h => by
            obtain ⟨m, R, g1, g2, g3, g4⟩ := sets_spec (bne_eq_false_iff_eq.1 h)
            rw [g4]
            exact beq_iff_eq.2 (chk0.2 (R.setN g1 g2 g3))
          simp only [cond_false, domMake d n hs h1, domPut d i k hs, domCut d k hs, domSet d i nm v hs, Option.bind_some, domCheck _ s1, domCheck _ s2, domCheck _ s3, domCheck _ s4]
          rw [laysOk, newOk]
          simp only [Option.bind_some]
          rw [newRight]
          simp only [Option.bind_some, beq_self_eq_true, cond_true]
          cases e1 : ((mk d n).2.1 != 0) with
          | false =>
            rw [(f1 e1).1, (f1 e1).2]
            cases e2 : ((puts d i k).1 != 0) with
            | false =>
              rw [f2 e2]
              cases e3 : ((cuts d k).1 != 0) with
              | false =>
                cases e4 : ((sets d i nm v).1 != 0) with
                | false => simp [f3 e3, f4 e4, e3, e4, domCheck _ s3, domCheck _ s4]
                | true => simp [f3 e3, e3, e4, domCheck _ s3, domCheck _ s4]
              | true =>
                cases e4 : ((sets d i nm v).1 != 0) with
                | false => simp [f4 e4, e3, e4, domCheck _ s3, domCheck _ s4]
                | true => simp [e3, e4, domCheck _ s3, domCheck _ s4]
            | true =>
              cases e3 : ((cuts d k).1 != 0) with
              | false =>
                cases e4 : ((sets d i nm v).1 != 0) with
                | false => simp [f3 e3, f4 e4, e3, e4, domCheck _ s3, domCheck _ s4]
                | true => simp [f3 e3, e3, e4, domCheck _ s3, domCheck _ s4]
              | true =>
                cases e4 : ((sets d i nm v).1 != 0) with
                | false => simp [f4 e4, e3, e4, domCheck _ s3, domCheck _ s4]
                | true => simp [e3, e4, domCheck _ s3, domCheck _ s4]
          | true =>
            cases e2 : ((puts d i k).1 != 0) with
            | false =>
              rw [f2 e2]
              cases e3 : ((cuts d k).1 != 0) with
              | false =>
                cases e4 : ((sets d i nm v).1 != 0) with
                | false => simp [f3 e3, f4 e4, e3, e4, domCheck _ s3, domCheck _ s4]
                | true => simp [f3 e3, e3, e4, domCheck _ s3, domCheck _ s4]
              | true =>
                cases e4 : ((sets d i nm v).1 != 0) with
                | false => simp [f4 e4, e3, e4, domCheck _ s3, domCheck _ s4]
                | true => simp [e3, e4, domCheck _ s3, domCheck _ s4]
            | true =>
              cases e3 : ((cuts d k).1 != 0) with
              | false =>
                cases e4 : ((sets d i nm v).1 != 0) with
                | false => simp [f3 e3, f4 e4, e3, e4, domCheck _ s3, domCheck _ s4]
                | true => simp [f3 e3, e3, e4, domCheck _ s3, domCheck _ s4]
              | true =>
                cases e4 : ((sets d i nm v).1 != 0) with
                | false => simp [f4 e4, e3, e4, domCheck _ s3, domCheck _ s4]
                | true => simp [e3, e4, domCheck _ s3, domCheck _ s4]
end Go.En.Pl
