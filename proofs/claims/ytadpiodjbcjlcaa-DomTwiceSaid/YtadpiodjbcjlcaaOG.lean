/- Text OG of this seat: written by a program of ours, or by hand; checked by Lean. -/
import Derived.Test.YtadpiodjbcjlcaaOF
set_option linter.unusedVariables false
set_option linter.unusedSimpArgs false
namespace Go.En.Pl
/-! -/
theorem Right.setN {d : List Nd} (R : Right d) {x : Int} {n : Nd} {nm v : Bs} (hn : idx d x = some n) (h2 : n.1 = 2) (h3 : ¬ (fnd n.2.2.2.1 nm = -1 ∧ 30 ≤ n.2.2.2.1.length)) : Right (d.set x.toNat (setN n nm v)) := by
  obtain ⟨hx0, hx1, hg⟩ := idx_some hn
  refine R.same (by simp) fun i m m' h h' => ?_
  rcases set_get h' with ⟨e, rfl⟩ | ⟨e, h'⟩
  · rw [← e, hg] at h
    cases h
    exact ⟨rfl, rfl, rfl, may_set (R.may n (List.mem_of_getElem? hg)) h2 h3⟩
  · rw [h] at h'
    cases h'
    exact ⟨rfl, rfl, rfl, R.may m (List.mem_of_getElem? h)⟩
theorem idx_set_same {α : Type} {l : List α} {x : Int} {a b : α} (h : idx l x = some a) : idx (l.set x.toNat b) x = some b := by
  obtain ⟨h0, h1, h2⟩ := idx_some h
  unfold idx
  rw [if_pos h0]
  exact getSet _ (List.getElem?_eq_some_iff.1 h2).1
theorem idx_set_ne {α : Type} {l : List α} {x y : Int} {b : α} (h0 : 0 ≤ x) (h : y ≠ x) : idx (l.set x.toNat b) y = idx l y := by
  unfold idx
  by_cases hy : 0 ≤ y
  · rw [if_pos hy, if_pos hy, List.getElem?_set, if_neg (by omega)]
  · rw [if_neg hy, if_neg hy]
theorem thr_same {d d' : List Nd} (R : Right d) (R' : Right d') (hl : d'.length = d.length) (x : Int) : thr d' x = thr d x := by
  rw [Bool.eq_iff_iff, thr_iff, thr_iff]
  unfold In'
  rw [hl]
  exact ⟨fun h => ⟨R, h.2⟩, fun h => ⟨R', h.2⟩⟩
theorem atr_look {d : List Nd} {x : Int} (nm : Bs) : atr d x nm = if thr d x = true then (match idx d x with | some n => look n.2.2.2.1 nm | none => ([], false)) else ([], false) := by
  unfold atr
  cases idx d x with
  | none => rfl
  | some n => exact congrArg (fun z => if thr d x = true then z else (([] : Bs), false)) (look_fnd n.2.2.2.1 nm)
theorem sets_spec {d : List Nd} {x : Int} {nm v : Bs} (h : (sets d x nm v).1 = 0) : ∃ n, Right d ∧ idx d x = some n ∧ n.1 = 2 ∧ ¬ (fnd n.2.2.2.1 nm = -1 ∧ 30 ≤ n.2.2.2.1.length) ∧ (sets d x nm v).2 = d.set x.toNat (setN n nm v) := by
  unfold sets at h ⊢
  by_cases hc : chk d = 0
  · rw [if_pos hc] at h
    cases hn : idx d x with
    | none => rw [hn] at h; cases h
    | some n =>
      rw [hn] at h
      simp only at h
      by_cases h2 : n.1 = 2
      · rw [if_pos h2] at h
        by_cases h3 : fnd n.2.2.2.1 nm = -1 ∧ 30 ≤ n.2.2.2.1.length
        · rw [if_pos h3] at h; cases h
        · refine ⟨n, chk0.1 hc, rfl, h2, h3, ?_⟩
          rw [if_pos hc]
          simp only
          rw [if_pos h2, if_neg h3]
      · rw [if_neg h2] at h; cases h
  · rw [if_neg hc] at h
    exact absurd h hc
theorem plainDomAttrs (d : List Nd) (x m : Int) (nm ot v : Bs) : pouncelaw16_DomAttrs_ (Ev.upto 5000) ((d, (x, (m, (nm, (ot, (v, ())))))), ()) = some ((true, ()), ()) := by
  unfold pouncelaw16_DomAttrs_
  obtain ⟨b, hb, hk⟩ := big d
  simp only [hb, Option.bind_some]
  cases b with
  | true => rfl
  | false =>
    have hd := hk rfl
    have hs := hd.sm
    simp only [beq_self_eq_true, cond_true]
    cases hg1 : decide ((nm.length : Int) > (300 : Int)) with
    | true => rfl
    | false =>
      simp only [beq_self_eq_true, cond_true]
      cases hg2 : decide ((ot.length : Int) > (300 : Int)) with
      | true => rfl
      | false =>
        simp only [beq_self_eq_true, cond_true, Option.bind_some]
        cases hg3 : decide ((v.length : Int) > (1000 : Int)) with
        | true => rfl
        | false =>
          simp only [cond_false, domSet d x nm v hs, Option.bind_some]
          have hsm := smSets x nm v hd
          by_cases he : (sets d x nm v).1 = 0
          · obtain ⟨n, R, hn, h2, h3, e⟩ := sets_spec he
            have R' := R.setN (v := v) hn h2 h3
            have hl : (d.set x.toNat (setN n nm v)).length = d.length := by simp
            have ht := thr_same R R' hl
            obtain ⟨hx0, hx1, hg⟩ := idx_some hn
            rw [he, e]
            rw [e] at hsm
            have a1 : atr (d.set x.toNat (setN n nm v)) x nm = (v, true) := by
              rw [atr_look, ht, thr_iff.2 ⟨R, hx0, hx1⟩, if_pos rfl, idx_set_same hn]
              exact look_same n.2.2.2.1 nm v
            have a2 : ¬ (m = x ∧ ot = nm) → atr (d.set x.toNat (setN n nm v)) m ot = atr d m ot := by
              intro hmo
              rw [atr_look, atr_look, ht]
              by_cases hm : m = x
              · subst hm
                rw [idx_set_same hn, hn]
                have : look (setN n nm v).2.2.2.1 ot = look n.2.2.2.1 ot := look_other n.2.2.2.1 nm v ot fun h => hmo ⟨rfl, h⟩
                simp only [this]
              · rw [idx_set_ne hx0 hm]
            simp only [bne_self_eq_false, cond_false, (attrBoth _ x nm hsm).1, (attrBoth _ m ot hsm).1, (attrBoth d m ot hs).1, Option.bind_some, a1, beq_self_eq_true, cond_true]
            rw [laysOk]
            simp only [Option.bind_some, beq_self_eq_true, cond_true]
            by_cases hmo : m = x ∧ ot = nm
            · obtain ⟨rfl, rfl⟩ := hmo
              simp only [beq_self_eq_true, cond_true]
              rfl
            · rw [a2 hmo]
              simp only [beq_self_eq_true, cond_true]
              cases hmx : (m == x) with
              | false => rfl
              | true =>
                cases hon : (ot == nm) with
                | false => rfl
                | true => exact absurd ⟨beq_iff_eq.1 hmx, beq_iff_eq.1 hon⟩ hmo
          · simp only [bne_iff_ne.2 he, cond_true]
            rw [laysOk]
            rfl
end Go.En.Pl
