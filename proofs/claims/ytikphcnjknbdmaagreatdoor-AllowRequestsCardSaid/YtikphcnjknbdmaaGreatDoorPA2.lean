/- Text PA2 of this seat: written by a program of ours, or by hand; checked by Lean. -/
import Derived.Test.YtikphcnjknbdmaaGreatDoorPA1
set_option linter.unusedSimpArgs false
set_option linter.unusedVariables false
namespace Go.En.Pl
theorem Hash_eq (N : Nat) (l : List Src) (x m : Bs) (hl : l.length < N) (hb : l.length ≤ 1000000) (hm : mark_Of_ (Ev.upto N) ((([x] : List Bs), ()), ()) = some ((m, ()), ())) : allow_Hash_ (Ev.upto N) ((l, (x, ())), ()) = some ((hasT l 10 m, ()), ()) := by
  unfold allow_Hash_
  have q := atext_eq N l 10 m hl hb
  simp -implicitDefEqProofs only [hm, q, Option.bind_some]
def inlineB (l : List Src) (k : Int) (n m : Bs) : Bool :=
  bif k == 1 then looseB l || (nonceB l n || hasT l 10 m) else bif (k == 3 || k == 4) then looseB l || (hask l 7 && hasT l 10 m) else false
theorem Inline_eq (N : Nat) (l : List Src) (k : Int) (n x m : Bs) (hl : l.length < N) (hN : 3 < N) (hb : l.length ≤ 1000000) (hm : mark_Of_ (Ev.upto N) ((([x] : List Bs), ()), ()) = some ((m, ()), ())) :
    allow_Inline_ (Ev.upto N) ((l, (k, (n, (x, ())))), ()) = some ((inlineB l k n m, ()), ()) := by
  unfold allow_Inline_ inlineB
  have q1 := Loose_eq N l hl hN hb
  have q2 := Nonce_eq N l n hl hb
  have q3 := Hash_eq N l x m hl hb hm
  have q4 := has_eq N [7] l hl hb (by simp; omega) (by simp)
  cases hk : (k == 1) with
  | true =>
    simp -implicitDefEqProofs only [q1, q2, q3, Option.bind_some, cond_true]
    cases looseB l
    · cases nonceB l n <;> rfl
    · rfl
  | false =>
    simp -implicitDefEqProofs only [cond_false]
    cases h3 : (k == 3) with
    | true =>
      simp -implicitDefEqProofs only [q1, q3, q4, Option.bind_some, cond_true, Bool.true_or, List.any_cons, List.any_nil, Bool.or_false]
      cases looseB l
      · cases hask l 7 <;> rfl
      · rfl
    | false =>
      cases h4 : (k == 4) with
      | true =>
        simp -implicitDefEqProofs only [q1, q3, q4, Option.bind_some, cond_true, cond_false, Bool.false_or, List.any_cons, List.any_nil, Bool.or_false]
        cases looseB l
        · cases hask l 7 <;> rfl
        · rfl
      | false => rfl
theorem Eval_eq (N : Nat) (l : List Src) (k : Int) (hl : l.length < N) (hN : 3 < N) (hb : l.length ≤ 1000000) :
    allow_Eval_ (Ev.upto N) ((l, (k, ())), ()) = some ((bif k == 5 then hask l 4 else bif k == 6 then hask l 4 || hask l 5 else false, ()), ()) := by
  unfold allow_Eval_
  have q1 := has_eq N [4] l hl hb (by simp; omega) (by simp)
  have q2 := has_eq N [4, 5] l hl hb (by simp; omega) (by simp)
  cases (k == 5)
  · cases (k == 6)
    · rfl
    · simp -implicitDefEqProofs only [q2, Option.bind_some, cond_true, cond_false, List.any_cons, List.any_nil, Bool.or_false]
  · simp -implicitDefEqProofs only [q1, Option.bind_some, cond_true, cond_false, List.any_cons, List.any_nil, Bool.or_false]
theorem has2_eq (N : Nat) (l : List Src) (s : Src) (hl : l.length < N) (hb : l.length ≤ 1000000) : pouncelaw11_has_ (Ev.upto N) ((l, (s, ())), ()) = some ((hasT l s.1 s.2.1, ()), ()) := by
  apply wp_eq
  unfold pouncelaw11_has_
  refine wp_bind ?_
  refine wp_for (σ := Unit) (fun i _ => ((l, ((i : Int), ())), ((s, ()), ()))) (fun i _ => (l.take i).any (fun t => t.1 == s.1 && t.2.1 == s.2.1) = false) l.length () rfl (by simp) hl ?_
  rintro i _ hi hn
  by_cases hi' : i < l.length
  · have c0 : decide ((i : Int) < (l.length : Int)) = true := decide_eq_true (by omega)
    have w : IntKind.wrap .i64 ((i : Int) + 1) = ((i + 1 : Nat) : Int) := by rw [wrap64 (by omega) (by omega)]; omega
    simp -implicitDefEqProofs only [c0, cond_true, idx_nat hi', Option.bind_some, w]
    cases h1 : (l[i].1 == s.1) with
    | true =>
      cases h2 : (l[i].2.1 == s.2.1) with
      | true =>
        have : hasT l s.1 s.2.1 = true := any_at hi' (by rw [h1, h2]; rfl)
        exact ⟨_, rfl, _, rfl, by rw [this]⟩
      | false => exact ⟨_, rfl, hi', (), by simp only [w], by rw [any_take hi', hn, h1, h2]; rfl⟩
    | false => exact ⟨_, rfl, hi', (), by simp only [w], by rw [any_take hi', hn, h1]; rfl⟩
  · have c0 : decide ((i : Int) < (l.length : Int)) = false := decide_eq_false (by omega)
    rw [List.take_of_length_le (by omega)] at hn
    simp -implicitDefEqProofs only [c0, cond_false]
    exact ⟨_, rfl, _, rfl, by rw [show hasT l s.1 s.2.1 = false from hn]⟩
theorem Big9_wp (N : Nat) (l : List Src) (hN : 50 < N) : wp (pounceref09_Big_ (Ev.upto N) ((l, ()), ())) (fun r => ∃ b, r = ((b, ()), ()) ∧ (b = false → l.length ≤ 50)) := by
  unfold pounceref09_Big_
  by_cases hl : 50 < l.length
  · rw [show decide ((l.length : Int) > 50) = true from decide_eq_true (by omega), cond_true]
    exact ⟨_, rfl, true, rfl, fun h => by cases h⟩
  · rw [show decide ((l.length : Int) > 50) = false from decide_eq_false (by omega), cond_false]
    refine wp_bind ?_
    refine wp_for (σ := Unit) (fun i _ => ((l, ((i : Int), ())), ())) (fun i _ => True) l.length () rfl trivial (by omega) ?_
    rintro i _ hi _
    by_cases hi' : i < l.length
    · have c0 : decide ((i : Int) < (l.length : Int)) = true := decide_eq_true (by omega)
      have w : IntKind.wrap .i64 ((i : Int) + 1) = ((i + 1 : Nat) : Int) := by rw [wrap64 (by omega) (by omega)]; omega
      simp -implicitDefEqProofs only [c0, cond_true, idx_nat hi', Option.bind_some, w, condSome, cond_fst, cond_snd, Bool.cond_self]
      refine wp_some ?_
      generalize (bif decide ((l[i].2.1.length : Int) > 500) == false then _ else true) = bb
      cases bb
      · exact ⟨hi', (), rfl, trivial⟩
      · exact ⟨_, rfl, true, rfl, fun h => by cases h⟩
    · have c0 : decide ((i : Int) < (l.length : Int)) = false := decide_eq_false (by omega)
      simp -implicitDefEqProofs only [c0, cond_false]
      exact ⟨_, rfl, _, rfl, false, rfl, fun _ => by omega⟩
theorem Big5_eq (V : Ev) (u : Url) : ∃ b, pounceref05_Big_ V ((u, ()), ()) = some ((b, ()), ()) := by
  unfold pounceref05_Big_
  simp -implicitDefEqProofs only [condSome, Option.bind_some]
  exact ⟨_, rfl⟩
theorem Big11_wp (V : Ev) (r : Req) : wp (pounceref11_Big_ V ((r, ()), ())) (fun x => ∃ b, x = ((b, ()), ()) ∧ (b = false → r.2.1.length ≤ 3000)) := by
  unfold pounceref11_Big_
  obtain ⟨b1, q1⟩ := Big5_eq V r.2.2.1
  obtain ⟨b2, q2⟩ := Big5_eq V r.2.2.2.2.2.2
  by_cases h : 3000 < r.2.1.length
  · rw [show decide ((r.2.1.length : Int) > 3000) = true from decide_eq_true (by omega)]
    exact ⟨_, rfl, true, rfl, fun h => by cases h⟩
  · rw [show decide ((r.2.1.length : Int) > 3000) = false from decide_eq_false (by omega)]
    simp -implicitDefEqProofs only [q1, q2, Option.bind_some, condSome]
    exact ⟨_, rfl, _, rfl, fun _ => by omega⟩
theorem ex : pouncelaw11_allows_ (Ev.upto 5000) ((), ()) = some ((true, ()), ()) := by kernel_rfl
theorem plainNonce (l : List Src) (n x : Bs) : pouncelaw11_AllowNonce_ (Ev.upto 5000) ((l, (n, (x, ()))), ()) = some ((true, ()), ()) := by
  apply wp_eq
  unfold pouncelaw11_AllowNonce_
  refine wp_bind ?_
  refine wp_seq _ (Big9_wp 5000 l (by decide)) ?_
  rintro _ ⟨b, rfl, hb⟩
  refine wp_mono (Q := fun o => ∃ f, o = ((l, (n, (x, (f, ())))), ()) ∧ (f = false → l.length ≤ 50 ∧ n.length ≤ 500 ∧ x.length ≤ 3000)) ?_ ?_
  · cases b with
    | true => exact ⟨_, rfl, true, rfl, fun h => by cases h⟩
    | false =>
      by_cases h1 : 500 < n.length
      · simp -implicitDefEqProofs only [beq_self_eq_true, cond_true, show decide ((n.length : Int) > 500) = true from decide_eq_true (by omega), show (true == false) = false from rfl, cond_false]
        exact ⟨_, rfl, true, rfl, fun h => by cases h⟩
      · simp -implicitDefEqProofs only [beq_self_eq_true, cond_true, show decide ((n.length : Int) > 500) = false from decide_eq_false (by omega)]
        refine ⟨_, rfl, _, rfl, fun h => ⟨hb rfl, by omega, ?_⟩⟩
        have := of_decide_eq_false h
        omega
  rintro _ ⟨f, rfl, hf⟩
  cases f with
  | true => exact ⟨_, rfl, rfl⟩
  | false =>
    obtain ⟨hl, hn, hx⟩ := hf rfl
    obtain ⟨m, hm⟩ := Of_tot 5000 x (by omega) (by omega) (by decide)
    have hl' : l.length < 5000 := by omega
    have hl2 : l.length ≤ 1000000 := by omega
    have s1 := Nonce_eq 5000 [((9 : Int), (n, (([] : Bs), (([] : Bs), (false, ((0 : Int), ([] : Bs)))))))] n (by simp) (by simp)
    have s2 := Nonce_eq 5000 l [] hl' hl2
    have s3 := Nonce_eq 5000 l n hl' hl2
    have s4 := has2_eq 5000 l ((9 : Int), (n, (([] : Bs), (([] : Bs), (false, ((0 : Int), ([] : Bs))))))) hl' hl2
    have s5 := Hash_eq 5000 [((10 : Int), (m, (([] : Bs), (([] : Bs), (false, ((0 : Int), ([] : Bs)))))))] x m (by simp) (by simp) hm
    have s6 := Hash_eq 5000 l x m hl' hl2 hm
    have s7 := has2_eq 5000 l ((10 : Int), (m, (([] : Bs), (([] : Bs), (false, ((0 : Int), ([] : Bs))))))) hl' hl2
    have e1 : nonceB [((9 : Int), (n, (([] : Bs), (([] : Bs), (false, ((0 : Int), ([] : Bs)))))))] n = !(n == ([] : Bs)) := by simp [nonceB, hasT]
    have e2 : nonceB l [] = false := rfl
    have e5 : hasT [((10 : Int), (m, (([] : Bs), (([] : Bs), (false, ((0 : Int), ([] : Bs)))))))] 10 m = true := by simp [hasT]
    rw [e1] at s1
    rw [e2] at s2
    rw [e5] at s5
    simp -implicitDefEqProofs only [cond_false, hm, Option.bind_some]
    rw [ex]
    have g0 : (decide ((0 : Int) ≤ 0) && decide ((0 : Int) < ((([((9 : Int), (n, (([] : Bs), (([] : Bs), (false, ((0 : Int), ([] : Bs)))))))] : List Src).length : Nat) : Int))) = true := rfl
    have g1 : (decide ((0 : Int) ≤ 0) && decide ((0 : Int) < ((([((10 : Int), (m, (([] : Bs), (([] : Bs), (false, ((0 : Int), ([] : Bs)))))))] : List Src).length : Nat) : Int))) = true := rfl
    have i0 : ([((9 : Int), (n, (([] : Bs), (([] : Bs), (false, ((0 : Int), ([] : Bs)))))))] : List Src)[(0 : Int).toNat]? = some ((9 : Int), (n, (([] : Bs), (([] : Bs), (false, ((0 : Int), ([] : Bs))))))) := rfl
    have i1 : ([((10 : Int), (m, (([] : Bs), (([] : Bs), (false, ((0 : Int), ([] : Bs)))))))] : List Src)[(0 : Int).toNat]? = some ((10 : Int), (m, (([] : Bs), (([] : Bs), (false, ((0 : Int), ([] : Bs))))))) := rfl
    simp -implicitDefEqProofs only [Option.bind_some, beq_self_eq_true, cond_true, s1, s2, s3, Bool.not_false]
    rw [g0, g1, i0, i1]
    simp -implicitDefEqProofs only [Option.bind_some, beq_self_eq_true, cond_true, s4, s5, s6, s7]
    cases hz : (n == ([] : Bs)) with
    | true =>
      simp -implicitDefEqProofs only [nonceB, hz, Bool.not_true, Bool.false_and, show (false == true) = false from rfl, cond_false, beq_self_eq_true, cond_true]
      exact ⟨_, rfl, rfl⟩
    | false =>
      simp -implicitDefEqProofs only [nonceB, hz, Bool.not_false, Bool.true_and, beq_self_eq_true, cond_true]
      exact ⟨_, rfl, rfl⟩
theorem plainWitness (l : List Src) (r : Req) : pouncelaw11_AllowWitness_ (Ev.upto 5000) ((l, (r, ())), ()) = some ((true, ()), ()) := by
  apply wp_eq
  unfold pouncelaw11_AllowWitness_ pouncelaw11_large_
  refine wp_bind ?_
  refine wp_seq (fun o => ∃ b, o = ((b, ()), ()) ∧ (b = false → l.length ≤ 50 ∧ r.2.1.length ≤ 3000)) ?_ ?_
  · refine wp_bind ?_
    refine wp_seq _ (Big9_wp 5000 l (by decide)) ?_
    rintro _ ⟨b, rfl, hb⟩
    cases b with
    | true => exact ⟨_, rfl, _, rfl, true, rfl, fun h => by cases h⟩
    | false =>
      simp -implicitDefEqProofs only [beq_self_eq_true, cond_true]
      refine wp_seq _ (Big11_wp _ r) ?_
      rintro _ ⟨b, rfl, hb'⟩
      exact ⟨_, rfl, _, rfl, b, rfl, fun h => ⟨hb rfl, hb' h⟩⟩
  rintro _ ⟨b, rfl, hb⟩
  cases b with
  | true =>
    refine ⟨_, rfl, ?_⟩
    simp only [cond_true]
    rw [ex]
    exact ⟨_, rfl, rfl⟩
  | false =>
    obtain ⟨hl, hx⟩ := hb rfl
    obtain ⟨m, hm⟩ := Of_tot 5000 r.2.1 (by omega) (by omega) (by decide)
    have hl' : l.length < 5000 := by omega
    have hl2 : l.length ≤ 1000000 := by omega
    have qi := Inline_eq 5000 l r.1 r.2.2.2.2.1 r.2.1 m hl' (by decide) hl2 hm
    have ql := Loose_eq 5000 l hl' (by decide) hl2
    have q1 := has2_eq 5000 l ((9 : Int), (r.2.2.2.2.1, (([] : Bs), (([] : Bs), (false, ((0 : Int), ([] : Bs))))))) hl' hl2
    have q2 := has2_eq 5000 l ((10 : Int), (m, (([] : Bs), (([] : Bs), (false, ((0 : Int), ([] : Bs))))))) hl' hl2
    simp -implicitDefEqProofs only [beq_self_eq_true, cond_true, qi, Option.bind_some]
    refine wp_some ?_
    cases hI : inlineB l r.1 r.2.2.2.2.1 m with
    | false =>
      simp -implicitDefEqProofs only [Bool.not_false, cond_true]
      rw [ex]
      exact ⟨_, rfl, rfl⟩
    | true =>
      simp -implicitDefEqProofs only [Bool.not_true, cond_false]
      refine wp_seq (fun o => o = ((l, ((r.1 == 1 && nonceB l r.2.2.2.2.1), ())), ((r, ()), ()))) ?_ ?_
      · cases (r.1 == 1)
        · exact ⟨_, rfl, rfl⟩
        · simp -implicitDefEqProofs only [beq_self_eq_true, cond_true, nonceB]
          cases (r.2.2.2.2.1 == ([] : Bs))
          · simp -implicitDefEqProofs only [Bool.not_false, beq_self_eq_true, cond_true, q1, Option.bind_some, Bool.true_and]
            exact ⟨_, rfl, rfl⟩
          · exact ⟨_, rfl, rfl⟩
      rintro _ rfl
      simp -implicitDefEqProofs only [hm, Option.bind_some, q2]
      rw [ex]
      simp -implicitDefEqProofs only [Option.bind_some, beq_self_eq_true, cond_true, ql]
      unfold inlineB at hI
      cases h1 : (r.1 == 1) with
      | true =>
        simp only [h1, cond_true] at hI
        cases hL : looseB l with
        | true => exact ⟨_, rfl, rfl⟩
        | false =>
          cases hN : nonceB l r.2.2.2.2.1 with
          | true => exact ⟨_, rfl, rfl⟩
          | false =>
            simp only [hL, hN, Bool.false_or] at hI
            rw [hI]
            exact ⟨_, rfl, rfl⟩
      | false =>
        simp only [h1, cond_false] at hI
        cases h3 : (r.1 == 3) with
        | true =>
          simp only [h3, Bool.true_or, cond_true] at hI
          cases hL : looseB l with
          | true => exact ⟨_, rfl, rfl⟩
          | false =>
            simp only [hL, Bool.false_or, Bool.and_eq_true] at hI
            rw [hI.2]
            exact ⟨_, rfl, rfl⟩
        | false =>
          cases h4 : (r.1 == 4) with
          | true =>
            simp only [h3, h4, Bool.or_true, cond_true] at hI
            cases hL : looseB l with
            | true => exact ⟨_, rfl, rfl⟩
            | false =>
              simp only [hL, Bool.false_or, Bool.and_eq_true] at hI
              rw [hI.2]
              exact ⟨_, rfl, rfl⟩
          | false =>
            simp only [h3, h4, Bool.or_false, cond_false] at hI
            cases hI
abbrev S1 : Src := ((1 : Int), (([] : Bs), (([] : Bs), (([] : Bs), (false, ((0 : Int), ([] : Bs)))))))
theorem Url1_eq (V : Ev) (u s : Url) (mv : Bool) : allow_Url_1_cbd V ((S1, ()), ((u, ()), ((s, ()), ((mv, ()), ())))) = some ((false, ()), ((u, ()), ((s, ()), ((mv, ()), ())))) := rfl
theorem UrlR_eq (N n : Nat) (u s : Url) (mv : Bool) (hn : n ≤ 5) (hN : 10 < N) : allow_Url_ (Ev.upto N) ((List.replicate n S1, (u, (s, (mv, ())))), ()) = some ((false, ()), ()) := by
  have hlen : (List.replicate n S1).length = n := List.length_replicate
  have : allow_some_api_Source_3c0 (Ev.upto N) ((List.replicate n S1, ()), ((u, ()), ((s, ()), ((mv, ()), ())))) = some ((false, ()), ((u, ()), ((s, ()), ((mv, ()), ())))) := by
    apply wp_eq
    unfold allow_some_api_Source_3c0
    refine wp_bind ?_
    refine wp_for (σ := Unit) (fun i _ => ((List.replicate n S1, (((List.replicate n S1).length : Int), ((i : Int), ()))), ((u, ()), ((s, ()), ((mv, ()), ()))))) (fun i _ => True) (List.replicate n S1).length () rfl trivial (by omega) ?_
    rintro i _ hi _
    by_cases hi' : i < (List.replicate n S1).length
    · have c0 : decide ((i : Int) < ((List.replicate n S1).length : Int)) = true := decide_eq_true (by omega)
      have w : IntKind.wrap .i64 ((i : Int) + 1) = ((i + 1 : Nat) : Int) := by rw [wrap64 (by omega) (by omega)]; omega
      have e : (List.replicate n S1)[i] = S1 := List.getElem_replicate _
      have q := Url1_eq (Ev.upto N) u s mv
      simp -implicitDefEqProofs only [c0, cond_true, idx_nat hi', Option.bind_some, e, q, cond_false, w]
      exact ⟨_, rfl, hi', (), rfl, trivial⟩
    · have c0 : decide ((i : Int) < ((List.replicate n S1).length : Int)) = false := decide_eq_false (by omega)
      simp -implicitDefEqProofs only [c0, cond_false]
      exact ⟨_, rfl, _, rfl, rfl⟩
  unfold allow_Url_
  rw [this]
  rfl
theorem any_rep (n : Nat) (p : Src → Bool) (h : p S1 = false) : (List.replicate n S1).any p = false := by
  rw [List.any_eq_false]
  intro x hx
  rw [(List.mem_replicate.1 hx).2, h]
  decide
theorem plainNothing (r : Req) (k : Int) : pouncelaw11_AllowNothing_ (Ev.upto 5000) ((r, (k, ())), ()) = some ((true, ()), ()) := by
  apply wp_eq
  unfold pouncelaw11_AllowNothing_
  refine wp_bind ?_
  refine wp_seq _ (Big11_wp _ r) ?_
  rintro _ ⟨b, rfl, hb⟩
  refine wp_mono (Q := fun o => ∃ f, o = ((k, (f, ())), ((r, ()), ())) ∧ (f = false → 0 ≤ k ∧ k ≤ 5 ∧ r.2.1.length ≤ 3000)) ?_ ?_
  · cases b with
    | true => exact ⟨_, rfl, true, rfl, fun h => by cases h⟩
    | false =>
      by_cases h1 : k < 0
      · rw [show decide (k < 0) = true from decide_eq_true h1]
        exact ⟨_, rfl, true, rfl, fun h => by cases h⟩
      · rw [show decide (k < 0) = false from decide_eq_false h1]
        refine ⟨_, rfl, _, rfl, fun h => ⟨by omega, ?_, hb rfl⟩⟩
        have h2 : decide (k > 5) = false := h
        have := of_decide_eq_false h2
        omega
  rintro _ ⟨f, rfl, hf⟩
  cases f with
  | true => exact ⟨_, rfl, rfl⟩
  | false =>
    obtain ⟨hk0, hk5, hx⟩ := hf rfl
    obtain ⟨n, rfl⟩ := Int.eq_ofNat_of_zero_le hk0
    have hn : n ≤ 5 := by omega
    simp -implicitDefEqProofs only [cond_false]
    refine wp_seq (fun o => o = ((), ((r, ()), (List.replicate n S1, ())))) ?_ ?_
    · refine wp_for (σ := Unit) (fun i _ => (((n : Int), ((i : Int), ())), ((r, ()), (List.replicate i S1, ())))) (fun i _ => True) n () rfl trivial (by omega) ?_
      rintro i _ hi _
      by_cases hi' : i < n
      · have c0 : decide ((i : Int) < (n : Int)) = true := decide_eq_true (by omega)
        have w : IntKind.wrap .i64 ((i : Int) + 1) = ((i + 1 : Nat) : Int) := by rw [wrap64 (by omega) (by omega)]; omega
        have hfit : fits ((List.replicate i S1).length + ([S1] : List Src).length) 88 = true := fits_of (by simp; omega)
        have he : List.replicate i S1 ++ [S1] = List.replicate (i + 1) S1 := by rw [List.replicate_succ']
        have hfit' : fits ((List.replicate i S1).length + ([((1 : Int), (([] : Bs), (([] : Bs), (([] : Bs), (false, ((0 : Int), ([] : Bs)))))))] : List Src).length) 88 = true := hfit
        simp -implicitDefEqProofs only [c0, cond_true, w]
        rw [hfit', cond_true]
        exact ⟨_, rfl, hi', (), by rw [← he], trivial⟩
      · have c0 : decide ((i : Int) < (n : Int)) = false := decide_eq_false (by omega)
        obtain rfl : i = n := by omega
        simp -implicitDefEqProofs only [c0, cond_false]
        exact ⟨_, rfl, rfl⟩
    rintro _ rfl
    obtain ⟨m, hm⟩ := Of_tot 5000 r.2.1 (by omega) (by omega) (by decide)
    have hlen : (List.replicate n S1).length = n := List.length_replicate
    have hl' : (List.replicate n S1).length < 5000 := by omega
    have hl2 : (List.replicate n S1).length ≤ 1000000 := by omega
    have hh : ∀ k : Int, ((1 : Int) == k) = false → hask (List.replicate n S1) k = false := fun k h => any_rep n _ h
    have hT : ∀ (k : Int) (x : Bs), ((1 : Int) == k) = false → hasT (List.replicate n S1) k x = false := fun k x h => any_rep n _ (by show ((1 : Int) == k && _) = false; rw [h]; rfl)
    have qi := Inline_eq 5000 (List.replicate n S1) r.1 r.2.2.2.2.1 r.2.1 m hl' (by decide) hl2 hm
    have qe := Eval_eq 5000 (List.replicate n S1) r.1 hl' (by decide) hl2
    have eL : looseB (List.replicate n S1) = false := by unfold looseB; rw [hh 3 rfl]; rfl
    have eN : nonceB (List.replicate n S1) r.2.2.2.2.1 = false := by unfold nonceB; rw [hT 9 _ rfl]; simp
    have eI : inlineB (List.replicate n S1) r.1 r.2.2.2.2.1 m = false := by
      unfold inlineB
      rw [eL, eN, hT 10 _ rfl, hh 7 rfl]
      cases (r.1 == 1) <;> cases (r.1 == 3) <;> cases (r.1 == 4) <;> rfl
    have eE : (bif r.1 == 5 then hask (List.replicate n S1) 4 else bif r.1 == 6 then hask (List.replicate n S1) 4 || hask (List.replicate n S1) 5 else false) = false := by
      rw [hh 4 rfl, hh 5 rfl]
      cases (r.1 == 5) <;> cases (r.1 == 6) <;> rfl
    rw [eI] at qi
    rw [eE] at qe
    have qn := Nonce_eq 5000 (List.replicate n S1) r.2.2.2.2.1 hl' hl2
    rw [eN] at qn
    have q6 := has_eq 5000 [6] (List.replicate n S1) hl' hl2 (by simp) (by simp)
    have e6 : ([6] : List Int).any (hask (List.replicate n S1)) = false := by simp [hh 6 rfl]
    rw [e6] at q6
    have qu := UrlR_eq 5000 n r.2.2.1 r.2.2.2.2.2.2 r.2.2.2.1 hn (by decide)
    have qf : allow_Fetch_ (Ev.upto 5000) ((List.replicate n S1, (r, ())), ()) = some ((false, ()), ()) := by
      unfold allow_Fetch_
      simp -implicitDefEqProofs only [qn, q6, qu, Option.bind_some, cond_false]
    have qn2 := Nonce_eq 5000 [((6 : Int), (([] : Bs), (([] : Bs), (([] : Bs), (false, ((0 : Int), ([] : Bs)))))))] r.2.2.2.2.1 (by simp) (by simp)
    have eN2 : nonceB [((6 : Int), (([] : Bs), (([] : Bs), (([] : Bs), (false, ((0 : Int), ([] : Bs)))))))] r.2.2.2.2.1 = false := by simp [nonceB, hasT]
    rw [eN2] at qn2
    have q62 := has_eq 5000 [6] [((6 : Int), (([] : Bs), (([] : Bs), (([] : Bs), (false, ((0 : Int), ([] : Bs)))))))] (by simp) (by simp) (by simp) (by simp)
    have e62 : ([6] : List Int).any (hask [((6 : Int), (([] : Bs), (([] : Bs), (([] : Bs), (false, ((0 : Int), ([] : Bs)))))))]) = true := by simp [hask]
    rw [e62] at q62
    have qf2 : allow_Fetch_ (Ev.upto 5000) (([((6 : Int), (([] : Bs), (([] : Bs), (([] : Bs), (false, ((0 : Int), ([] : Bs)))))))], (r, ())), ()) = some ((!r.2.2.2.2.2.1, ()), ()) := by
      unfold allow_Fetch_
      simp -implicitDefEqProofs only [qn2, q62, Option.bind_some, cond_false, cond_true]
    rw [ex]
    simp -implicitDefEqProofs only [Option.bind_some, beq_self_eq_true, cond_true, qi, qf, qe, qf2, Bool.not_false]
    exact ⟨_, rfl, rfl⟩
end Go.En.Pl
