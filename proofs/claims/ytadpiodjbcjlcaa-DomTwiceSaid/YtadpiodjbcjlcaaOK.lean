/- Text OK of this seat: written by a program of ours, or by hand; checked by Lean. -/
import Derived.Test.YtadpiodjbcjlcaaOJ
set_option linter.unusedVariables false
set_option linter.unusedSimpArgs false
namespace Go.En.Pl
/-! -/
def Sk (c : Nat) (d : List Nd) : Prop := d.length ≤ 4000 ∧ ∀ n, n ∈ d → n.2.2.2.1.length ≤ 4000 ∧ (kidsOf n).length ≤ c
theorem Sk.sm {c : Nat} {d : List Nd} (h : Sk c d) (hc : c ≤ 4000) : Sm d := ⟨h.1, fun n hn => ⟨(h.2 n hn).1, Nat.le_trans (h.2 n hn).2 hc⟩⟩
theorem DocOk.sk {d : List Nd} (h : DocOk d) : Sk 400 d := ⟨by have := h.1; omega, fun n hn => by have := h.2 n hn; unfold NdOk at this; exact ⟨by omega, by show n.2.2.2.2.2.1.length ≤ 400; omega⟩⟩
theorem Sk.mono {c e : Nat} {d : List Nd} (h : Sk c d) (hc : c ≤ e) : Sk e d := ⟨h.1, fun n hn => ⟨(h.2 n hn).1, Nat.le_trans (h.2 n hn).2 hc⟩⟩
theorem Sk.set {c : Nat} {l : List Nd} (h : Sk c l) (i : Nat) {n : Nd} (h1 : n.2.2.2.1.length ≤ 4000) (h2 : (kidsOf n).length ≤ c) : Sk c (l.set i n) := by
  refine ⟨by simpa using h.1, fun m hm => ?_⟩
  rcases List.mem_or_eq_of_mem_set hm with hm | rfl
  · exact h.2 m hm
  · exact ⟨h1, h2⟩
theorem Sk.at {c : Nat} {l : List Nd} (h : Sk c l) {x : Int} {n : Nd} (hn : idx l x = some n) : n.2.2.2.1.length ≤ 4000 ∧ (kidsOf n).length ≤ c := h.2 n (List.mem_of_getElem? (idx_some hn).2.2)
theorem Sk.unK {c : Nat} {d : List Nd} (h : Sk c d) (x : Int) : Sk c (unK d x) := by
  unfold Go.En.Pl.unK
  cases hp : idx d (pr d x) with
  | none => exact h
  | some p =>
    have := h.at hp
    exact h.set _ this.1 (Nat.le_trans (List.length_filter_le _ _) this.2)
theorem Sk.out {c : Nat} {d : List Nd} (h : Sk c d) (x : Int) : Sk c (outD d x) := by
  unfold outD
  cases hn : idx d x with
  | none => exact h
  | some n =>
    have := h.at hn
    exact (h.unK x).set _ this.1 this.2
theorem Sk.put {c : Nat} {d : List Nd} (h : Sk c d) (q x : Int) : Sk (c + 1) (putD d q x) := by
  unfold putD
  have ho := h.out x
  cases hn : idx (outD d x) x with
  | none => exact h.mono (by omega)
  | some n =>
    simp only
    have hn' := ho.at hn
    have h1 : Sk c ((outD d x).set x.toNat (reP q n)) := ho.set _ hn'.1 hn'.2
    cases hp : idx ((outD d x).set x.toNat (reP q n)) q with
    | none => exact h.mono (by omega)
    | some p =>
      have hp' := h1.at hp
      exact (h1.mono (show c ≤ c + 1 by omega)).set _ hp'.1 (by show (kidsOf p ++ [x]).length ≤ c + 1; simp; omega)
theorem domPut (d : List Nd) (q x : Int) (h : Sm d) : dom_Put_ (Ev.upto 5000) ((d, (q, (x, ()))), ()) = some (((puts d q x).1, ()), ((puts d q x).2, ())) := by
  unfold dom_Put_ puts
  simp only [domCheck d h, there d q h, there d x h, Option.bind_some]
  by_cases hc : chk d = 0
  · have R := chk0.1 hc
    rw [if_pos hc]
    simp only [hc, bne_self_eq_false, beq_self_eq_true, cond_true]
    by_cases hq : In' d q
    · simp only [thr_iff.2 ⟨R, hq⟩, beq_self_eq_true, cond_true]
      by_cases hx : In' d x
      · simp only [thr_iff.2 ⟨R, hx⟩, beq_self_eq_true, cond_true]
        by_cases h1 : 1 ≤ x
        · obtain ⟨p, hp, hg⟩ := idx_ge hq.1 hq.2
          simp only [decide_eq_true (show x > 0 by omega), beq_self_eq_true, cond_true, hp, Option.bind_some, domHolds p, dom_node_]
          rw [if_pos (show (0 ≤ q ∧ q < (d.length : Int)) ∧ 1 ≤ x ∧ x < (d.length : Int) from ⟨hq, h1, hx.2⟩)]
          cases hh : holdsB p with
          | false =>
            simp only [hh, cond_false, Option.bind_some, Bool.false_eq_true, if_false]
            rw [firstE 0 170]
            rfl
          | true =>
            simp only [hh, cond_true, Option.bind_some, if_true]
            rw [firstE 0 0]
            simp only [if_true, Option.bind_some, bne_self_eq_false, cond_false, dom_walk_2d9, dom_walk_1_1f1, dom_step_839]
            have e : (Ev.upto 5000).rc (dom_step_839N (Ev.upto 5000) (dom_Put_r (Ev.upto 5000))) ((d, (x, ())), ((q, ()), (((0 : Int), ()), ()))) = some ((true, ()), ((q, ()), ((if q ∈ below d x then 172 else 0, ()), ()))) := stepP d R h q 400 5000 x 0 (by omega) (R.okD4 hx) hx
            rw [e]
            simp only [Option.bind_some]
            by_cases hu : q ∈ below d x
            · rw [if_pos ((undB_iff R hq hx).2 hu)]
              simp only [if_pos hu]
              rfl
            · rw [if_neg (fun hh => hu ((undB_iff R hq hx).1 hh))]
              simp only [if_neg hu, bne_self_eq_false, cond_false, copied d h, domOut d x h R hx, Option.bind_some]
              have hlen := outD_len d x
              have ho : In' (outD d x) x := ⟨hx.1, by rw [hlen]; exact hx.2⟩
              obtain ⟨n', hn', hgn⟩ := idx_ge ho.1 ho.2
              have ho2 : In' ((outD d x).set x.toNat (reP q n')) q := ⟨hq.1, by rw [List.length_set, hlen]; exact hq.2⟩
              obtain ⟨p', hp', hgp⟩ := idx_ge ho2.1 ho2.2
              have hsk : Sk 4000 ((outD d x).set x.toNat (reP q n')) := by
                have h0 : Sk 4000 d := ⟨h.1, h.2⟩
                have h1 := (h0.out x).at hn'
                exact (h0.out x).set _ h1.1 h1.2
              have hk := (hsk.at hp').2
              have hf := fitsS (show (kidsOf p').length + ([x] : List Int).length ≤ 10000 by simp; omega) (show 8 ≤ 1000 by omega)
              unfold putD
              rw [hn']
              simp only
              rw [hp']
              unfold reP at hgp ⊢
              simp only [decide_eq_true ho.1, decide_eq_true ho.2, Bool.and_self, cond_true, hgn, Option.bind_some, List.length_set, decide_eq_true hq.1, hlen, decide_eq_true hq.2, hgp, hf, beq_self_eq_true, decide_eq_true hx.1, decide_eq_true hx.2]
              rfl
        · simp only [decide_eq_false (show ¬ x > 0 by omega), Bool.false_beq, Bool.not_true, cond_false, dom_node_, Option.bind_some]
          rw [firstE 0 170, if_neg (show ¬ ((0 ≤ q ∧ q < (d.length : Int)) ∧ 1 ≤ x ∧ x < (d.length : Int)) from fun hh => h1 hh.2.1)]
          rfl
      · simp only [thr_false hx, Bool.false_beq, Bool.not_true, cond_false, dom_node_, Option.bind_some]
        rw [firstE 0 170, if_neg (show ¬ ((0 ≤ q ∧ q < (d.length : Int)) ∧ 1 ≤ x ∧ x < (d.length : Int)) from fun hh => hx ⟨by omega, hh.2.2⟩)]
        rfl
    · simp only [thr_false hq, Bool.false_beq, Bool.not_true, cond_false, dom_node_, Option.bind_some]
      rw [firstE 0 170, if_neg (show ¬ ((0 ≤ q ∧ q < (d.length : Int)) ∧ 1 ≤ x ∧ x < (d.length : Int)) from fun hh => hq hh.1)]
      rfl
  · rw [if_neg hc]
    simp only [bne_iff_ne.2 hc, Bool.true_beq, cond_false, dom_node_, cond_true, Option.bind_some]
    rw [firstE (chk d) 0]
    simp only [if_neg hc, bne_iff_ne.2 hc, Option.bind_some, cond_true]
theorem refPut (d : List Nd) (q x : Int) (h : Sm d) : pounceref16_Put_ (Ev.upto 5000) ((d, (q, (x, ()))), ()) = some (((puts d q x).1, ()), ((puts d q x).2, ())) := by
  unfold pounceref16_Put_ puts
  simp only [refCheck d h, Option.bind_some]
  by_cases hc : chk d = 0
  · have R := chk0.1 hc
    rw [if_pos hc]
    simp only [hc, bne_self_eq_false, cond_false]
    by_cases hall : (0 ≤ q ∧ q < (d.length : Int)) ∧ 1 ≤ x ∧ x < (d.length : Int)
    · obtain ⟨hq, h1, h2⟩ := hall
      have hx : In' d x := ⟨by omega, h2⟩
      obtain ⟨p, hp, hg⟩ := idx_ge hq.1 hq.2
      rw [if_pos (show (0 ≤ q ∧ q < (d.length : Int)) ∧ 1 ≤ x ∧ x < (d.length : Int) from ⟨hq, h1, hx.2⟩)]
      simp only [decide_eq_false (show ¬ q < 0 by omega), decide_eq_false (show ¬ q ≥ (d.length : Int) by omega), decide_eq_false (show ¬ x < 1 by omega), decide_eq_false (show ¬ x ≥ (d.length : Int) by omega), beq_self_eq_true, cond_true, hp, Option.bind_some, refHolds p]
      cases hh : holdsB p with
      | false => simp only [hh, Bool.not_false, cond_true, Bool.false_eq_true, if_false]
      | true =>
        simp only [hh, Bool.not_true, cond_false, under d R q x hq, Option.bind_some, if_true]
        cases hu : undB d q x with
        | true => rfl
        | false =>
          simp only [cond_false, refOut d x h R hx, Option.bind_some, Bool.false_eq_true, if_false]
          have hlen := outD_len d x
          have ho : In' (outD d x) x := ⟨hx.1, by rw [hlen]; exact hx.2⟩
          obtain ⟨n', hn', hgn⟩ := idx_ge ho.1 ho.2
          have ho2 : In' ((outD d x).set x.toNat (reP q n')) q := ⟨hq.1, by rw [List.length_set, hlen]; exact hq.2⟩
          obtain ⟨p', hp', hgp⟩ := idx_ge ho2.1 ho2.2
          have hsk : Sk 4000 ((outD d x).set x.toNat (reP q n')) := by
            have h0 : Sk 4000 d := ⟨h.1, h.2⟩
            have h1 := (h0.out x).at hn'
            exact (h0.out x).set _ h1.1 h1.2
          have hk := (hsk.at hp').2
          have hf := fitsS (show (kidsOf p').length + ([x] : List Int).length ≤ 10000 by simp; omega) (show 8 ≤ 1000 by omega)
          unfold putD
          rw [hn']
          simp only
          rw [hp']
          unfold reP at hgp ⊢
          simp only [decide_eq_true ho.1, decide_eq_true ho.2, Bool.and_self, cond_true, hgn, Option.bind_some, List.length_set, decide_eq_true hq.1, hlen, decide_eq_true hq.2, hgp, hf, beq_self_eq_true, decide_eq_true hx.1, decide_eq_true hx.2]
          rfl
    · rw [if_neg hall]
      by_cases a1 : q < 0
      · simp only [decide_eq_true a1, Bool.true_beq, cond_false, Option.bind_some, cond_true]
      · by_cases a2 : q ≥ (d.length : Int)
        · simp only [decide_eq_false a1, decide_eq_true a2, beq_self_eq_true, Bool.true_beq, cond_false, Option.bind_some, cond_true]
        · by_cases a3 : x < 1
          · simp only [decide_eq_false a1, decide_eq_false a2, decide_eq_true a3, beq_self_eq_true, Bool.true_beq, cond_false, Option.bind_some, cond_true]
          · have a4 : x ≥ (d.length : Int) := by omega
            simp only [decide_eq_false a1, decide_eq_false a2, decide_eq_false a3, decide_eq_true a4, beq_self_eq_true, Bool.true_beq, cond_false, Option.bind_some, cond_true]
  · rw [if_neg hc]
    simp only [bne_iff_ne.2 hc, cond_true]
theorem smNil : Sm [] := ⟨by simp, by simp⟩
theorem skPuts {d : List Nd} (q x : Int) (h : DocOk d) : Sk 401 (puts d q x).2 := by
  unfold puts
  have h0 : Sk 401 [] := ⟨by simp, by simp⟩
  by_cases hc : chk d = 0
  · rw [if_pos hc]
    generalize (if (0 ≤ q ∧ q < (d.length : Int)) ∧ 1 ≤ x ∧ x < (d.length : Int) then idx d q else none) = o
    cases o with
    | none => exact h0
    | some p =>
      simp only
      split
      · split
        · exact h0
        · exact h.sk.put q x
      · exact h0
  · rw [if_neg hc]; exact h0
theorem skCuts {d : List Nd} (x : Int) (h : DocOk d) : Sk 400 (cuts d x).2 := by
  unfold cuts
  have h0 : Sk 400 [] := ⟨by simp, by simp⟩
  split
  · split
    · exact h.sk.out x
    · exact h0
  · exact h0
theorem plainDomMoves (d : List Nd) (q x : Int) : pouncelaw16_DomMoves_ (Ev.upto 5000) ((d, (q, (x, ()))), ()) = some ((true, ()), ()) := by
  unfold pouncelaw16_DomMoves_
  obtain ⟨b, hb, hk⟩ := big d
  simp only [hb, Option.bind_some]
  cases b with
  | true => rfl
  | false =>
    have hd := hk rfl
    have hs := hd.sm
    have s1 := (skPuts q x hd).sm (by omega)
    have s2 := (skCuts x hd).sm (by omega)
    obtain ⟨o, ho, -⟩ := smudge _ s1
    obtain ⟨o2, ho2, -⟩ := smudge _ s2
    simp only [cond_false, own d hs, Option.bind_some, domPut d q x hs]
    rw [refPut d q x hs]
    simp only [Option.bind_some, domCut d x hs]
    rw [refCut d x hs]
    simp only [Option.bind_some, beq_self_eq_true, cond_true, sameRefl _ s1, sameRefl _ s2, ho, ho2, sameRefl d hs]
    rw [laysOk]
    rfl
end Go.En.Pl
