/- Text OP of this seat: written by a program of ours, or by hand; checked by Lean. -/
import Derived.Test.YtadpiodjbcjlcaaON
set_option linter.unusedVariables false
set_option linter.unusedSimpArgs false
namespace Go.En.Pl
/-! -/
theorem nd_ext {a b : Nd} (h : Like a b) (h2 : parOf b = parOf a) (h3 : kidsOf b = kidsOf a) : b = a := by
  obtain ⟨a1, a2, a3, a4, a5, a6, a7⟩ := a
  obtain ⟨b1, b2, b3, b4, b5, b6, b7⟩ := b
  obtain ⟨e1, e2, e3, e4, e5⟩ := h
  simp only at e1 e2 e3 e4 e5 h2 h3
  subst e1 e2 e3 e4 e5 h2 h3
  rfl
theorem Mv.eq {d a b : List Nd} {P P' : Int → Int} {K K' : Int → List Int} (A : Mv d a P K) (B : Mv d b P' K') (hp : ∀ y, In' d y → P y = P' y) (hk : ∀ y, In' d y → K y = K' y) : a = b := by
  apply List.ext_getElem?
  intro i
  by_cases h : i < d.length
  · obtain ⟨n1, g1, g2, g3, g4⟩ := A.at' i _ (List.getElem?_eq_getElem h)
    obtain ⟨n2, k1, k2, k3, k4⟩ := B.at' i _ (List.getElem?_eq_getElem h)
    have hin : In' d i := ⟨by omega, by omega⟩
    rw [g1, k1]
    congr 1
    refine nd_ext ?_ (by rw [g3, k3]; exact hp _ hin) (by rw [g4, k4]; exact hk _ hin)
    exact ⟨g2.1.trans k2.1.symm, g2.2.1.trans k2.2.1.symm, g2.2.2.1.trans k2.2.2.1.symm, g2.2.2.2.1.trans k2.2.2.2.1.symm, g2.2.2.2.2.trans k2.2.2.2.2.symm⟩
  · rw [List.getElem?_eq_none (by rw [A.len]; omega), List.getElem?_eq_none (by rw [B.len]; omega)]
theorem Mv.trans {d a b : List Nd} {P P' : Int → Int} {K K' : Int → List Int} (A : Mv d a P K) (B : Mv a b P' K') : Mv d b P' K' := by
  refine ⟨B.len.trans A.len, fun i n hi => ?_⟩
  obtain ⟨n1, g1, g2, g3, g4⟩ := A.at' i n hi
  obtain ⟨n2, k1, k2, k3, k4⟩ := B.at' i n1 g1
  exact ⟨n2, k1, g2.trans k2, k3, k4⟩
theorem filter_idem (l : List Int) (x : Int) : (l.filter (· != x)).filter (· != x) = l.filter (· != x) := filter_no fun h => by simpa using (List.mem_filter.1 h).2
theorem filter_add (l : List Int) (x : Int) : (l.filter (· != x) ++ [x]).filter (· != x) = l.filter (· != x) := by
  rw [List.filter_append, filter_idem]
  simp
theorem Right.outOut {d : List Nd} (R : Right d) {x : Int} (hx : In' d x) (h1 : 1 ≤ x) : outD (outD d x) x = outD d x := by
  have M := R.mvOut hx
  have M2 := (R.out hx h1).mvOut (M.in.2 hx)
  refine (M.trans M2).eq M (fun y hy => ?_) (fun y hy => ?_)
  · simp only [M.pr hy]
    split <;> rfl
  · rw [M.ks hy, filter_idem]
theorem Right.outPut {d : List Nd} (R : Right d) {q x : Int} (hx : In' d x) (h1 : 1 ≤ x) (hq : In' d q) {p : Nd} (hp : idx d q = some p) (hh : holdsB p = true) (hb : q ∉ below d x) : outD (putD d q x) x = outD d x := by
  have hne : q ≠ x := fun e => hb (e ▸ (R.mem_below hx).2 ⟨hx, 0, rfl⟩)
  have M := R.mvPut hx hq hne
  have M2 := (R.put hx h1 hq hp hh hb).mvOut (M.in.2 hx)
  refine (M.trans M2).eq (R.mvOut hx) (fun y hy => ?_) (fun y hy => ?_)
  · simp only [M.pr hy]
    by_cases e : y = x
    · rw [if_pos e, if_pos e]
    · rw [if_neg e, if_neg e, if_neg e]
  · rw [M.ks hy]
    by_cases e : y = q
    · rw [if_pos e, filter_add]
    · rw [if_neg e, filter_idem]
theorem Right.below_put {d : List Nd} (R : Right d) {q x : Int} (hx : In' d x) (h1 : 1 ≤ x) (hq : In' d q) {p : Nd} (hp : idx d q = some p) (hh : holdsB p = true) (hb : q ∉ below d x) : q ∉ below (putD d q x) x := by
  have hne : q ≠ x := fun e => hb (e ▸ (R.mem_below hx).2 ⟨hx, 0, rfl⟩)
  have M := R.mvPut hx hq hne
  have R2 := R.put hx h1 hq hp hh hb
  intro h
  obtain ⟨_, j, hj⟩ := (R2.mem_below (M.in.2 hx)).1 h
  have : up (putD d q x) (j + 1) q = q := by
    rw [up_succ, hj, M.pr hx]
    exact if_pos rfl
  exact R2.acyc (M.in.2 hq) j this
theorem Right.putPut {d : List Nd} (R : Right d) {q x : Int} (hx : In' d x) (h1 : 1 ≤ x) (hq : In' d q) {p : Nd} (hp : idx d q = some p) (hh : holdsB p = true) (hb : q ∉ below d x) : putD (putD d q x) q x = putD d q x := by
  have hne : q ≠ x := fun e => hb (e ▸ (R.mem_below hx).2 ⟨hx, 0, rfl⟩)
  have M := R.mvPut hx hq hne
  have M2 := (R.put hx h1 hq hp hh hb).mvPut (M.in.2 hx) (M.in.2 hq) hne
  refine (M.trans M2).eq M (fun y hy => ?_) (fun y hy => ?_)
  · simp only [M.pr hy]
    split <;> rfl
  · simp only [M.ks hy]
    by_cases e : y = q
    · simp only [if_pos e, filter_add]
    · simp only [if_neg e, filter_idem]
theorem cuts_ok {d : List Nd} {x : Int} (R : Right d) (h1 : 1 ≤ x) (hx : In' d x) : cuts d x = (0, outD d x) := by
  unfold cuts
  rw [if_pos (chk0.2 R), if_pos ⟨h1, hx.2⟩]
theorem puts_ok {d : List Nd} {q x : Int} (R : Right d) (h1 : 1 ≤ x) (hx : In' d x) (hq : In' d q) {p : Nd} (hp : idx d q = some p) (hh : holdsB p = true) (hb : q ∉ below d x) : puts d q x = (0, putD d q x) := by
  unfold puts
  rw [if_pos (chk0.2 R), if_pos (show (0 ≤ q ∧ q < (d.length : Int)) ∧ 1 ≤ x ∧ x < (d.length : Int) from ⟨hq, h1, hx.2⟩), hp]
  simp only [hh, if_true]
  rw [if_neg fun h => hb ((undB_iff R hq hx).1 h)]
theorem plainDomTwice (d : List Nd) (q x : Int) : pouncelaw16_DomTwice_ (Ev.upto 5000) ((d, (q, (x, ()))), ()) = some ((true, ()), ()) := by
  unfold pouncelaw16_DomTwice_
  obtain ⟨b, hb, hk⟩ := big d
  simp only [hb, Option.bind_some]
  cases b with
  | true => rfl
  | false =>
    have hd := hk rfl
    have hs := hd.sm
    simp only [cond_false, domCut d x hs, Option.bind_some]
    by_cases hc : (cuts d x).1 = 0
    · obtain ⟨R, h1, hx, e⟩ := cuts_spec hc
      have R1 := R.out hx h1
      have s1 := (skCuts x hd).sm (by omega)
      have s2 := (skPuts q x hd).sm (by omega)
      have hx1 : In' (outD d x) x := (R.mvOut hx).in.2 hx
      rw [hc]
      rw [e] at s1 ⊢
      have e2 : cuts (outD d x) x = (0, outD d x) := by rw [cuts_ok R1 h1 hx1, R.outOut hx h1]
      simp only [bne_self_eq_false, cond_false, domCut _ x s1, domPut d q x hs, Option.bind_some, e2, beq_self_eq_true, cond_true, sameRefl _ s1, Bool.not_true]
      by_cases hp0 : (puts d q x).1 = 0
      · obtain ⟨p, _, hq, _, _, hp, hh, hnb, e3⟩ := puts_spec hp0
        have R2 := R.put hx h1 hq hp hh hnb
        have hne : q ≠ x := fun e => hnb (e ▸ (R.mem_below hx).2 ⟨hx, 0, rfl⟩)
        have M := R.mvPut hx hq hne
        obtain ⟨p2, hp2, hg2⟩ := idx_ge (l := putD d q x) (i := q) hq.1 (by rw [M.len]; exact hq.2)
        have hh2 : holdsB p2 = true := by
          obtain ⟨j, hj⟩ := Int.eq_ofNat_of_zero_le hq.1
          rw [show q.toNat = j by omega] at hg2
          obtain ⟨n, k1, k2, _⟩ := M.get hg2
          rw [k2.holds]
          rw [hj, idx_nat' k1] at hp
          cases hp
          exact hh
        have e4 : puts (putD d q x) q x = (0, putD d q x) := by
          rw [puts_ok R2 h1 (M.in.2 hx) (M.in.2 hq) hp2 hh2 (R.below_put hx h1 hq hp hh hnb), R.putPut hx h1 hq hp hh hnb]
        have e5 : cuts (putD d q x) x = (0, outD d x) := by rw [cuts_ok R2 h1 (M.in.2 hx), R.outPut hx h1 hq hp hh hnb]
        rw [hp0]
        rw [e3] at s2 ⊢
        simp only [bne_self_eq_false, cond_false, domCut _ x s2, domPut _ q x s2, Option.bind_some, e4, e5, beq_self_eq_true, cond_true, sameRefl _ s1, sameRefl _ s2]
        rw [laysOk]
        rfl
      · simp only [bne_iff_ne.2 hp0, cond_true]
        rw [laysOk]
        rfl
    · simp only [bne_iff_ne.2 hc, cond_true]
      rw [laysOk]
      rfl
end Go.En.Pl
