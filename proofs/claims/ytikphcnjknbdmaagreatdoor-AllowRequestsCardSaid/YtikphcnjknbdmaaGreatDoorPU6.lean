/- Text PU6 of this seat: written by a program of ours, or by hand; checked by Lean. -/
import Derived.Test.YtikphcnjknbdmaaGreatDoorPU5
set_option linter.unusedSimpArgs false
set_option linter.unusedVariables false
namespace Go.En.Pl
theorem text_nonneg (u : Url) (h : urlB u = true) : 0 ≤ u.2.2.2.1 ∧ u.2.2.2.1 ≤ 65535 := by
  unfold urlB at h
  simp only [Bool.and_eq_true] at h
  cases hu : u.1 with
  | true =>
    rw [hu, cond_true] at h
    have h1 := h.2.2.1
    unfold opqB at h1
    simp only [Bool.and_eq_true, beq_iff_eq] at h1
    omega
  | false =>
    rw [hu, cond_false] at h
    have h1 := h.2.2.1
    unfold rankB at h1
    simp only [Bool.and_eq_true, decide_eq_true_eq] at h1
    omega
theorem Check_eq (N : Nat) (u : Url) (hu : small u) (hN : 100005 < N) : url_Check_ (Ev.upto N) ((u, ()), ()) = some ((bif urlB u then 0 else 50, ()), ()) := by
  obtain ⟨o, sc, h, p, pa, q⟩ := u
  have hu' := hu
  obtain ⟨h1, h2, h3, h4⟩ := hu'
  simp only at h1 h2 h3 h4
  have qs := scheme_eq N sc (by omega)
  have qh := host_eq N h (by omega)
  have qc := Clean_eq N pa (by omega) (by omega)
  have q1 := all315_eq N pa (by omega) (by omega)
  have q2 := all890_eq N pa (by omega) (by omega)
  have qt : fold_Trim_ (Ev.upto N) ((pa, ()), ()) = some ((trimB pa, ()), ()) := rfl
  have qx : 0 ≤ p → url_text_ (Ev.upto N) (((o, (sc, (h, (p, (pa, q))))), ()), ()) = some ((textB (o, (sc, (h, (p, (pa, q))))), ()), ()) := fun hp => text_eq (Ev.upto N) _ hu hp
  have qq := query_loop N q (by omega) (by omega)
  unfold url_Check_ urlB opqB rankB
  simp -implicitDefEqProofs only [default_eq, qs, Option.bind_some]
  cases schemeB sc with
  | false => rfl
  | true =>
    simp -implicitDefEqProofs only [Bool.not_true, beq_self_eq_true, cond_true, Option.bind_some, Bool.true_and]
    cases hod : (o == (defB sc == 0)) with
    | false => rfl
    | true =>
      simp -implicitDefEqProofs only [Bool.not_true, cond_false, Bool.true_and]
      cases o with
      | true =>
        simp -implicitDefEqProofs only [cond_true]
        cases h == ([] : Bs) with
        | false => rfl
        | true =>
          cases q == ([] : Bs) with
          | false => rfl
          | true =>
            cases hp : p == 0 with
            | false => simp -implicitDefEqProofs only [bne, hp]; rfl
            | true =>
              have hp' : p = 0 := by simpa using hp
              have qx := qx (by omega)
              simp -implicitDefEqProofs only [bne, hp, Bool.not_true, beq_self_eq_true, cond_true, qt, Option.bind_some, Bool.true_and]
              cases trimB pa == pa with
              | false => rfl
              | true =>
                simp -implicitDefEqProofs only [Bool.not_true, beq_self_eq_true, cond_true, q2, Option.bind_some, Bool.true_and]
                cases pa.all fun c => opqI (c.toNat : Int) with
                | false => rfl
                | true =>
                  simp -implicitDefEqProofs only [Bool.not_true, cond_false, Option.bind_some, qx, Bool.true_and]
                  cases decide (((textB (true, (sc, (h, (p, (pa, q)))))).length : Int) ≤ 500) <;> rfl
      | false =>
        simp -implicitDefEqProofs only [cond_false, qh, Option.bind_some]
        cases hostB h with
        | false => rfl
        | true =>
          simp -implicitDefEqProofs only [Bool.not_true, beq_self_eq_true, cond_true, Bool.true_and]
          by_cases hp0 : p < 0
          · simp only [decide_eq_true hp0, decide_eq_false (show ¬ 0 ≤ p by omega), Bool.false_and]; rfl
          · simp -implicitDefEqProofs only [decide_eq_false hp0, decide_eq_true (show 0 ≤ p by omega), beq_self_eq_true, cond_true, Bool.true_and]
            by_cases hp1 : p > 65535
            · simp only [decide_eq_true hp1, decide_eq_false (show ¬ p ≤ 65535 by omega), Bool.false_and]; rfl
            · have qx := qx (by omega)
              simp -implicitDefEqProofs only [decide_eq_false hp1, decide_eq_true (show p ≤ 65535 by omega), beq_self_eq_true, cond_true, Bool.true_and]
              cases p == defB sc with
              | true => rfl
              | false =>
                simp -implicitDefEqProofs only [beq_self_eq_true, cond_true, q1, Option.bind_some, Bool.not_false, Bool.true_and]
                cases pa.all fun c => visI (c.toNat : Int) with
                | false => simp only [Bool.and_false, Bool.false_and]; rfl
                | true =>
                  simp -implicitDefEqProofs only [Bool.not_true, beq_self_eq_true, cond_true, Bool.and_true]
                  cases hpe : pa == ([] : Bs) with
                  | true =>
                    have : pa = [] := by simpa using hpe
                    subst this
                    rfl
                  | false =>
                    simp -implicitDefEqProofs only [beq_self_eq_true, cond_true, qc, Option.bind_some, cleanP_beq pa hpe]
                    cases cleanB pa with
                    | false => rfl
                    | true =>
                      simp -implicitDefEqProofs only [Bool.not_true, cond_false, Bool.true_and]
                      cases q with
                      | nil =>
                        simp -implicitDefEqProofs only [show (([] : Bs) == ([] : Bs)) = true from rfl, Bool.not_true, show (false == true) = false from rfl, cond_false, Option.bind_some, qx, show queryB [] = true from rfl, Bool.true_and]
                        cases decide (((textB (false, (sc, (h, (p, (pa, []))))) ).length : Int) ≤ 500) <;> rfl
                      | cons c r =>
                        have s1 : sl (c :: r) 1 ((c :: r).length : Int) = some r := by rw [show (1 : Int) = ((1 : Nat) : Int) from rfl, sl_end (by simp)]; rfl
                        have qa := allaf7_eq N r (by simp at h4; omega) (by simp at h4; omega)
                        have hq : queryB (c :: r) = ((c.toNat : Int) == 63 && r.all fun c => visI (c.toNat : Int) || (c.toNat : Int) == 63) := rfl
                        simp -implicitDefEqProofs only [hq, nil_beq_cons, Bool.not_false, beq_self_eq_true, cond_true, idx_zero, Option.bind_some, bne]
                        cases ((c.toNat : Int) == 63) with
                        | false => rfl
                        | true =>
                          simp -implicitDefEqProofs only [Bool.not_true, beq_self_eq_true, cond_true, s1, qa, Option.bind_some, Bool.true_and]
                          cases r.all fun c => visI (c.toNat : Int) || (c.toNat : Int) == 63 with
                          | false => rfl
                          | true =>
                            simp -implicitDefEqProofs only [Bool.not_true, cond_false, Option.bind_some, qx, Bool.true_and]
                            cases decide (((textB (false, (sc, (h, (p, (pa, c :: r)))))).length : Int) ≤ 500) <;> rfl
theorem long_text (u : Url) (h : 500 < u.2.2.2.2.1.length ∨ 500 < u.2.2.2.2.2.length ∧ u.1 = false ∨ 500 < u.2.2.1.length ∧ u.1 = false) : decide (((textB u).length : Int) ≤ 500) = false := by
  apply decide_eq_false
  unfold textB
  rcases h with h | ⟨h, hu⟩ | ⟨h, hu⟩
  · cases u.1 <;> simp only [cond_true, cond_false, List.length_append] <;> omega
  · rw [hu]; simp only [cond_false, List.length_append]; omega
  · rw [hu]; simp only [cond_false, List.length_append]; omega
theorem Right_eq (N : Nat) (u : Url) (hu : small u) (hN : 100005 < N) : pounceref05_Right_ (Ev.upto N) ((u, ()), ()) = some ((urlB u, ()), ()) := by
  obtain ⟨o, sc, h, p, pa, q⟩ := u
  have hu' := hu
  obtain ⟨h1, h2, h3, h4⟩ := hu'
  simp only at h1 h2 h3 h4
  have qs := rscheme_eq N sc (by omega)
  have qh := rhost_eq N h (by omega)
  have qc := clean_eq N pa (by omega) (by omega)
  have qr := rest_eq N pa (by omega) (by omega)
  have qx : 0 ≤ p → p ≤ 65535 → pounceref05_Text_ (Ev.upto N) (((o, (sc, (h, (p, (pa, q))))), ()), ()) = some ((textB (o, (sc, (h, (p, (pa, q))))), ()), ()) := fun hp hp1 => rtext_eq N _ hu hp hp1 (by omega)
  have qv := visible_eq N q 35 35 (by omega) (by omega)
  simp only [vis_one] at qv
  have lt := long_text (o, (sc, (h, (p, (pa, q)))))
  simp only at lt
  unfold pounceref05_Right_ urlB opqB rankB
  simp -implicitDefEqProofs only [rdefault_eq, qs, Option.bind_some]
  cases schemeB sc with
  | false => rfl
  | true =>
    simp -implicitDefEqProofs only [Bool.not_true, beq_self_eq_true, cond_true, Option.bind_some, Bool.true_and]
    by_cases g1 : 500 < pa.length
    · simp only [decide_eq_true (show (pa.length : Int) > 500 by omega), lt (.inl g1), Bool.and_false]; rfl
    simp -implicitDefEqProofs only [decide_eq_false (show ¬ (pa.length : Int) > 500 by omega), beq_self_eq_true, cond_true]
    by_cases g2 : 500 < q.length
    · have : ((bif o then h == ([] : Bs) && (q == ([] : Bs) && (p == 0 && ((trimB pa == pa) && pa.all fun c => opqI (c.toNat : Int)))) else hostB h && (decide (0 ≤ p) && (decide (p ≤ 65535) && (!(p == defB sc) && ((cleanB pa && pa.all fun c => visI (c.toNat : Int)) && queryB q))))) && decide (((textB (o, (sc, (h, (p, (pa, q)))))).length : Int) ≤ 500)) = false := by
        cases o with
        | true =>
          have : (q == ([] : Bs)) = false := by cases q with
            | nil => simp at g2
            | cons _ _ => rfl
          rw [this]; simp
        | false => rw [lt (.inr (.inl ⟨g2, rfl⟩)), Bool.and_false]
      simp only [decide_eq_true (show (q.length : Int) > 500 by omega), this, Bool.and_false]; rfl
    simp -implicitDefEqProofs only [decide_eq_false (show ¬ (q.length : Int) > 500 by omega), beq_self_eq_true, cond_true, Option.bind_some]
    by_cases g3 : 500 < h.length
    · have : ((bif o then h == ([] : Bs) && (q == ([] : Bs) && (p == 0 && ((trimB pa == pa) && pa.all fun c => opqI (c.toNat : Int)))) else hostB h && (decide (0 ≤ p) && (decide (p ≤ 65535) && (!(p == defB sc) && ((cleanB pa && pa.all fun c => visI (c.toNat : Int)) && queryB q))))) && decide (((textB (o, (sc, (h, (p, (pa, q)))))).length : Int) ≤ 500)) = false := by
        cases o with
        | true =>
          have : (h == ([] : Bs)) = false := by cases h with
            | nil => simp at g3
            | cons _ _ => rfl
          rw [this]; simp
        | false => rw [lt (.inr (.inr ⟨g3, rfl⟩)), Bool.and_false]
      simp only [decide_eq_true (show (h.length : Int) > 500 by omega), this, Bool.and_false]; rfl
    simp -implicitDefEqProofs only [decide_eq_false (show ¬ (h.length : Int) > 500 by omega), cond_false]
    cases o with
    | true =>
      simp -implicitDefEqProofs only [cond_true, qr, Option.bind_some]
      cases defB sc == 0 with
      | false => rfl
      | true =>
        simp -implicitDefEqProofs only [beq_self_eq_true, cond_true, Option.bind_some, Bool.true_and]
        cases trimB pa == pa with
        | false => simp only [Bool.and_false, Bool.false_and]; rfl
        | true =>
          simp only [Bool.and_true, Bool.true_and]
          cases pa.all fun c => opqI (c.toNat : Int) with
          | false => simp only [Bool.and_false, Bool.false_and]; rfl
          | true =>
            simp -implicitDefEqProofs only [beq_self_eq_true, cond_true, Bool.and_true]
            cases h == ([] : Bs) with
            | false => rfl
            | true =>
              cases q == ([] : Bs) with
              | false => rfl
              | true =>
                cases hp : p == 0 with
                | false => rfl
                | true =>
                  have hp' : p = 0 := by simpa using hp
                  have qx := qx (by omega) (by omega)
                  simp -implicitDefEqProofs only [beq_self_eq_true, cond_true, qx, Option.bind_some, Bool.true_and]
    | false =>
      simp -implicitDefEqProofs only [cond_false]
      have hd : (false == (defB sc == 0)) = !(defB sc == 0) := by cases (defB sc == 0) <;> rfl
      rw [hd]
      cases defB sc == 0 with
      | true => rfl
      | false =>
        simp -implicitDefEqProofs only [beq_self_eq_true, cond_true, qh, Option.bind_some, Bool.not_false, Bool.true_and]
        cases hostB h with
        | false => rfl
        | true =>
          simp -implicitDefEqProofs only [Bool.not_true, beq_self_eq_true, cond_true, Bool.true_and]
          by_cases hp0 : p < 0
          · simp only [decide_eq_true hp0, decide_eq_false (show ¬ 0 ≤ p by omega), Bool.false_and]; rfl
          · simp -implicitDefEqProofs only [decide_eq_false hp0, decide_eq_true (show 0 ≤ p by omega), beq_self_eq_true, cond_true, Bool.true_and]
            by_cases hp1 : p > 65535
            · simp only [decide_eq_true hp1, decide_eq_false (show ¬ p ≤ 65535 by omega), Bool.false_and]; rfl
            · have qx := qx (by omega) (by omega)
              simp -implicitDefEqProofs only [decide_eq_false hp1, decide_eq_true (show p ≤ 65535 by omega), beq_self_eq_true, cond_true, Bool.true_and]
              cases p == defB sc with
              | true => rfl
              | false =>
                simp -implicitDefEqProofs only [beq_self_eq_true, cond_true, qc, Option.bind_some, Bool.not_false, Bool.true_and]
                cases cleanB pa && pa.all fun c => visI (c.toNat : Int) with
                | false => rfl
                | true =>
                  simp -implicitDefEqProofs only [Bool.not_true, cond_false, Bool.true_and]
                  cases q with
                  | nil =>
                    simp -implicitDefEqProofs only [show (([] : Bs) == ([] : Bs)) = true from rfl, Bool.not_true, show (false == true) = false from rfl, cond_false, Option.bind_some, qx, show queryB [] = true from rfl, Bool.true_and]
                  | cons c r =>
                    have hq : queryB (c :: r) = ((c.toNat : Int) == 63 && r.all fun c => visI (c.toNat : Int) || (c.toNat : Int) == 63) := rfl
                    rw [List.all_cons] at qv
                    simp -implicitDefEqProofs only [hq, nil_beq_cons, Bool.not_false, beq_self_eq_true, cond_true, idx_zero, Option.bind_some, bne]
                    cases h63 : ((c.toNat : Int) == 63) with
                    | false => rfl
                    | true =>
                      rw [h63, Bool.or_true, Bool.true_and] at qv
                      simp -implicitDefEqProofs only [Bool.not_true, beq_self_eq_true, cond_true, qv, Option.bind_some, Bool.true_and]
                      cases r.all fun c => visI (c.toNat : Int) || (c.toNat : Int) == 63 with
                      | false => rfl
                      | true => simp -implicitDefEqProofs only [Bool.not_true, cond_false, Option.bind_some, qx, Bool.true_and]
end Go.En.Pl
