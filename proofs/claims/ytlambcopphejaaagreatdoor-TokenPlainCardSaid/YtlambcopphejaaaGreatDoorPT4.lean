/- Text PT4 of this seat: written by a program of ours, or by hand; checked by Lean. -/
import Derived.Test.YtlambcopphejaaaGreatDoorPT3
set_option linter.unusedSimpArgs false
set_option linter.unusedVariables false
namespace Go.En.Pl
theorem ext : pouncelaw14_tokens_ (Ev.upto 5000) ((), ()) = some ((true, ()), ()) := by kernel_rfl
theorem Attrs_eq (N : Nat) (l : List Att) (hl : l.length < N) (hb : l.length ≤ 1000000) : pounceref14_Attrs_ (Ev.upto N) ((l, (l, ())), ()) = some ((true, ()), ()) := by
  apply wp_eq
  unfold pounceref14_Attrs_
  have cz : ((l.length : Int) != (l.length : Int)) = false := by simp
  simp -implicitDefEqProofs only [cz, cond_false]
  refine wp_bind ?_
  refine wp_for (σ := Unit) (fun i _ => ((l, (l, ((i : Int), ()))), ())) (fun i _ => True) l.length () rfl trivial hl ?_
  rintro i _ hi _
  by_cases hi' : i < l.length
  · have c0 : decide ((i : Int) < (l.length : Int)) = true := decide_eq_true (by omega)
    have w : IntKind.wrap .i64 ((i : Int) + 1) = ((i + 1 : Nat) : Int) := by rw [wrap64 (by omega) (by omega)]; omega
    simp -implicitDefEqProofs only [c0, cond_true, idx_nat hi', Option.bind_some, w, beq_self_eq_true, Bool.and_self, Bool.not_true, cond_false]
    exact ⟨_, rfl, hi', (), rfl, trivial⟩
  · have c0 : decide ((i : Int) < (l.length : Int)) = false := decide_eq_false (by omega)
    simp -implicitDefEqProofs only [c0, cond_false]
    exact ⟨_, rfl, _, rfl, rfl⟩
theorem One_eq (N : Nat) (t : Tok) (h : t.2.2.2.1.length ≤ 4000) (hN : 4000 < N) : pounceref14_One_ (Ev.upto N) ((t, (t, ())), ()) = some ((true, ()), ()) := by
  unfold pounceref14_One_
  have q := Attrs_eq N t.2.2.2.1 (by omega) (by omega)
  simp -implicitDefEqProofs only [beq_self_eq_true, cond_true, q, Option.bind_some]
theorem Same_eq (N : Nat) (l : List Tok) (hl : l.length ≤ 4000) (h : ∀ t ∈ l, t.2.2.2.1.length ≤ 4000) (hN : 4000 < N) : pounceref14_Same_ (Ev.upto N) ((l, (l, ())), ()) = some ((true, ()), ()) := by
  apply wp_eq
  unfold pounceref14_Same_
  have cz : ((l.length : Int) != (l.length : Int)) = false := by simp
  simp -implicitDefEqProofs only [cz, cond_false]
  refine wp_bind ?_
  refine wp_for (σ := Unit) (fun i _ => ((l, (l, ((i : Int), ()))), ())) (fun i _ => True) l.length () rfl trivial (by omega) ?_
  rintro i _ hi _
  by_cases hi' : i < l.length
  · have c0 : decide ((i : Int) < (l.length : Int)) = true := decide_eq_true (by omega)
    have w : IntKind.wrap .i64 ((i : Int) + 1) = ((i + 1 : Nat) : Int) := by rw [wrap64 (by omega) (by omega)]; omega
    have q := One_eq N l[i] (h _ (List.getElem_mem hi')) hN
    simp -implicitDefEqProofs only [c0, cond_true, idx_nat hi', Option.bind_some, w, q, Bool.not_true, cond_false]
    exact ⟨_, rfl, hi', (), rfl, trivial⟩
  · have c0 : decide ((i : Int) < (l.length : Int)) = false := decide_eq_false (by omega)
    simp -implicitDefEqProofs only [c0, cond_false]
    exact ⟨_, rfl, _, rfl, rfl⟩
theorem Own_eq (N : Nat) (l : List Tok) (hl : l.length ≤ 4000) (h : ∀ t ∈ l, okT t) (hN : 4000 < N) : pounceref14_Own_ (Ev.upto N) ((l, ()), ()) = some ((), (l, ())) := by
  apply wp_eq
  unfold pounceref14_Own_
  refine wp_bind ?_
  refine wp_for (σ := Unit) (fun i _ => ((l, ((i : Int), ())), (l.take i, ()))) (fun i _ => True) l.length () rfl trivial (by omega) ?_
  rintro i _ hi _
  by_cases hi' : i < l.length
  · have c0 : decide ((i : Int) < (l.length : Int)) = true := decide_eq_true (by omega)
    have w : IntKind.wrap .i64 ((i : Int) + 1) = ((i + 1 : Nat) : Int) := by rw [wrap64 (by omega) (by omega)]; omega
    obtain ⟨_, _, h3, _⟩ := h _ (List.getElem_mem hi')
    have f1 : fits l[i].2.2.2.1.length 32 = true := fits_of (by omega)
    have f2 : fits ((l.take i).length + ([l[i]] : List Tok).length) 72 = true := fits_of (by simp; omega)
    simp -implicitDefEqProofs only [c0, cond_true, idx_nat hi', Option.bind_some, w, f1]
    rw [f2, cond_true]
    exact ⟨_, rfl, hi', (), by rw [List.take_succ_eq_append_getElem hi'], trivial⟩
  · have c0 : decide ((i : Int) < (l.length : Int)) = false := decide_eq_false (by omega)
    have ht : l.take i = l := List.take_of_length_le (by omega)
    simp -implicitDefEqProofs only [c0, cond_false, ht]
    exact ⟨_, rfl, _, rfl, rfl⟩
theorem Big_ok (N : Nat) (l : List Tok) (hN : 4000 < N) : wp (pounceref14_Big_ (Ev.upto N) ((l, ()), ())) (fun r => ∃ b, r = ((b, ()), ()) ∧ (b = false → l.length ≤ 100 ∧ ∀ t ∈ l, okT t)) := by
  unfold pounceref14_Big_
  by_cases hl : 100 < l.length
  · rw [show decide ((l.length : Int) > 100) = true from decide_eq_true (by omega), cond_true]
    exact ⟨_, rfl, true, rfl, fun h => by cases h⟩
  · rw [show decide ((l.length : Int) > 100) = false from decide_eq_false (by omega), cond_false]
    refine wp_bind ?_
    refine wp_for (σ := Unit) (fun i _ => ((l, ((i : Int), ())), ())) (fun i _ => ∀ t ∈ l.take i, okT t) l.length () rfl (by simp) (by omega) ?_
    rintro i _ hi hn
    by_cases hi' : i < l.length
    · have c0 : decide ((i : Int) < (l.length : Int)) = true := decide_eq_true (by omega)
      have w : IntKind.wrap .i64 ((i : Int) + 1) = ((i + 1 : Nat) : Int) := by rw [wrap64 (by omega) (by omega)]; omega
      simp -implicitDefEqProofs only [c0, cond_true, idx_nat hi', Option.bind_some, w]
      cases h1 : decide ((l[i].2.1.length : Int) > 300) with
      | true => exact ⟨_, rfl, _, rfl, true, rfl, fun h => by cases h⟩
      | false =>
        cases h2 : decide ((l[i].2.2.1.length : Int) > 2000) with
        | true => exact ⟨_, rfl, _, rfl, true, rfl, fun h => by cases h⟩
        | false =>
          cases h3 : decide ((l[i].2.2.2.1.length : Int) > 50) with
          | true => exact ⟨_, rfl, _, rfl, true, rfl, fun h => by cases h⟩
          | false =>
            have h1 := of_decide_eq_false h1
            have h2 := of_decide_eq_false h2
            have h3 := of_decide_eq_false h3
            simp -implicitDefEqProofs only [show (false == false) = true from rfl, cond_true, Option.bind_some, cond_false]
            refine wp_bind ?_
            refine wp_for (σ := Unit) (fun j _ => ((l, ((i : Int), ((j : Int), ()))), ())) (fun j _ => ∀ a ∈ l[i].2.2.2.1.take j, okA a) l[i].2.2.2.1.length () rfl (by simp) (by omega) ?_
            rintro j _ hj hm
            by_cases hj' : j < l[i].2.2.2.1.length
            · have c1 : decide ((j : Int) < (l[i].2.2.2.1.length : Int)) = true := decide_eq_true (by omega)
              have w1 : IntKind.wrap .i64 ((j : Int) + 1) = ((j + 1 : Nat) : Int) := by rw [wrap64 (by omega) (by omega)]; omega
              simp -implicitDefEqProofs only [c1, cond_true, idx_nat hi', idx_nat hj', Option.bind_some, w1]
              cases g1 : decide ((l[i].2.2.2.1[j].1.length : Int) > 300) with
              | true => exact ⟨_, rfl, _, rfl, _, rfl, true, rfl, fun h => by cases h⟩
              | false =>
                cases g2 : decide ((l[i].2.2.2.1[j].2.length : Int) > 1000) with
                | true => exact ⟨_, rfl, _, rfl, _, rfl, true, rfl, fun h => by cases h⟩
                | false =>
                  have g1 := of_decide_eq_false g1
                  have g2 := of_decide_eq_false g2
                  refine ⟨_, rfl, hj', (), by rw [← w1], ?_⟩
                  intro a ha
                  rw [List.take_succ_eq_append_getElem hj', List.mem_append, List.mem_singleton] at ha
                  rcases ha with ha | rfl
                  · exact hm a ha
                  · exact ⟨by omega, by omega⟩
            · have c1 : decide ((j : Int) < (l[i].2.2.2.1.length : Int)) = false := decide_eq_false (by omega)
              rw [List.take_of_length_le (by omega)] at hm
              simp -implicitDefEqProofs only [c1, cond_false, idx_nat hi', Option.bind_some]
              refine ⟨_, rfl, ?_⟩
              refine ⟨_, rfl, hi', (), by rw [← w], ?_⟩
              intro t ht
              rw [List.take_succ_eq_append_getElem hi', List.mem_append, List.mem_singleton] at ht
              rcases ht with ht | rfl
              · exact hn t ht
              · exact ⟨by omega, by omega, by omega, hm⟩
    · have c0 : decide ((i : Int) < (l.length : Int)) = false := decide_eq_false (by omega)
      rw [List.take_of_length_le (by omega)] at hn
      simp -implicitDefEqProofs only [c0, cond_false]
      exact ⟨_, rfl, _, rfl, false, rfl, fun _ => ⟨by omega, hn⟩⟩
theorem plainPrints (l : List Tok) : pouncelaw14_TokenPrints_ (Ev.upto 5000) ((l, ()), ()) = some ((true, ()), ()) := by
  unfold pouncelaw14_TokenPrints_
  obtain ⟨_, e, b, rfl, h⟩ := Big_ok 5000 l (by decide)
  simp -implicitDefEqProofs only [e, Option.bind_some]
  cases b with
  | true => rfl
  | false =>
    obtain ⟨hl, ho⟩ := h rfl
    have q1 := Own_eq 5000 l (by omega) ho (by decide)
    have q2 := Print_eq 5000 l (by omega) ho (by decide)
    have q3 := rPrint_eq 5000 l (by omega) ho (by decide)
    have q4 := Same_eq 5000 l (by omega) (fun t ht => by have := (ho t ht).2.2.1; omega) (by decide)
    simp -implicitDefEqProofs only [cond_false, q1, q2, q3, q4, Option.bind_some, beq_self_eq_true, cond_true]
    rw [ext]
    rfl
theorem pre_front (a b : List Tok) : ∀ i, i ≤ a.length → pre (a ++ b) i = pre a i ∧ codeB (a ++ b) i = codeB a i
  | 0, _ => ⟨rfl, rfl⟩
  | i + 1, hi => by
    have hi1 : i < a.length := by omega
    have hi2 : i < (a ++ b).length := by simp; omega
    have ih := pre_front a b i (by omega)
    have e : (a ++ b)[i] = a[i] := List.getElem_append_left hi1
    rw [pre_succ hi2, pre_succ hi1, codeB_succ hi2, codeB_succ hi1, e, ih.1, ih.2]
    exact ⟨rfl, rfl⟩
theorem tokP_no {t : Tok} (h : (t.1 == 1) = false) (c d : Bool) : tokP c t = tokP d t := by
  unfold tokP
  rw [h]
  rfl
theorem pre_back (a b : List Tok) (h0 : ∀ (h : 0 < b.length), (b[0].1 == 1) = false) : ∀ j, j ≤ b.length → pre (a ++ b) (a.length + j) = pre a a.length ++ pre b j ∧ (0 < j → codeB (a ++ b) (a.length + j) = codeB b j)
  | 0, _ => ⟨by rw [Nat.add_zero, (pre_front a b _ (Nat.le_refl _)).1]; simp [pre], fun h => absurd h (Nat.lt_irrefl 0)⟩
  | j + 1, hj => by
    have hj1 : j < b.length := by omega
    have hj2 : a.length + j < (a ++ b).length := by simp; omega
    have ih := pre_back a b h0 j (by omega)
    have e : (a ++ b)[a.length + j] = b[j] := by
      rw [List.getElem_append_right (by omega)]
      congr 1
      omega
    rw [← Nat.add_assoc, pre_succ hj2, pre_succ hj1, codeB_succ hj2, codeB_succ hj1, e, ih.1, List.append_assoc]
    refine ⟨?_, fun _ => rfl⟩
    congr 2
    cases j with
    | zero => exact tokP_no (h0 hj1) _ _
    | succ j => rw [ih.2 (by omega)]
theorem plainJoins (a b : List Tok) : pouncelaw14_TokenJoins_ (Ev.upto 5000) ((a, (b, ())), ()) = some ((true, ()), ()) := by
  unfold pouncelaw14_TokenJoins_
  obtain ⟨_, e, b1, rfl, h1⟩ := Big_ok 5000 a (by decide)
  obtain ⟨_, e2, b2, rfl, h2⟩ := Big_ok 5000 b (by decide)
  simp -implicitDefEqProofs only [e, e2, Option.bind_some]
  cases b1 with
  | true =>
    simp -implicitDefEqProofs only [show (true == false) = false from rfl, cond_false, Option.bind_some, cond_true]
    rw [ext]
    rfl
  | false =>
    simp -implicitDefEqProofs only [show (false == false) = true from rfl, cond_true]
    cases b2 with
    | true =>
      simp -implicitDefEqProofs only [show (true == false) = false from rfl, cond_false, Option.bind_some, cond_true]
      rw [ext]
      rfl
    | false =>
      simp -implicitDefEqProofs only [show (false == false) = true from rfl, cond_true]
      obtain ⟨la, oa⟩ := h1 rfl
      obtain ⟨lb, ob⟩ := h2 rfl
      have hf : wp ((bif (decide ((b.length : Int) > (0 : Int)) == true) then ((idx b (0 : Int)).bind fun v3 => (some ((a, (b, ((v3.1 == (1 : Int)), ()))), ()))) else (some ((a, (b, (false, ()))), ()))) : Option ((List Tok × List Tok × Bool × Unit) × Unit)) (fun o => ∃ f, o = ((a, (b, (f, ()))), ()) ∧ (f = false → ∀ (h : 0 < b.length), (b[0].1 == 1) = false)) := by
        by_cases hb : 0 < b.length
        · have c : (decide ((b.length : Int) > (0 : Int)) == true) = true := by simp; omega
          have i0 : idx b (0 : Int) = some b[0] := by have := idx_nat hb; simpa using this
          simp -implicitDefEqProofs only [c, cond_true, i0, Option.bind_some]
          exact ⟨_, rfl, _, rfl, fun h _ => h⟩
        · have c : (decide ((b.length : Int) > (0 : Int)) == true) = false := by rw [show decide ((b.length : Int) > (0 : Int)) = false from decide_eq_false (by omega)]; rfl
          simp -implicitDefEqProofs only [c, cond_false]
          exact ⟨_, rfl, _, rfl, fun _ h => absurd h hb⟩
      obtain ⟨_, ef, f, rfl, hf⟩ := hf
      simp -implicitDefEqProofs only [ef, Option.bind_some]
      cases f with
      | true =>
        simp -implicitDefEqProofs only [cond_true]
        rw [ext]
        rfl
      | false =>
        have f1 : fits a.length 72 = true := fits_of (by omega)
        have f2 : fits (a.length + b.length) 72 = true := fits_of (by omega)
        have oab : ∀ t ∈ a ++ b, okT t := fun t ht => by
          rcases List.mem_append.1 ht with h | h
          · exact oa t h
          · exact ob t h
        have q1 := Print_eq 5000 (a ++ b) (by simp; omega) oab (by decide)
        have q2 := Print_eq 5000 a (by omega) oa (by decide)
        have q3 := Print_eq 5000 b (by omega) ob (by decide)
        have p := (pre_back a b (hf rfl) b.length (Nat.le_refl _)).1
        rw [List.length_append, p] at q1
        have l1 := pre_len oa a.length (Nat.le_refl _)
        have l2 := pre_len ob b.length (Nat.le_refl _)
        have g : strFits ((pre a a.length).length + (pre b b.length).length) = true := strFits_of (by omega)
        simp -implicitDefEqProofs only [cond_false, f1, f2, cond_true, q1, q2, q3, g, Option.bind_some, beq_self_eq_true]
        rw [ext]
        rfl
end Go.En.Pl
