/- Text PA3 of this seat: written by a program of ours, or by hand; checked by Lean. -/
import Derived.Test.YtikphcnjknbdmaaGreatDoorPMK
set_option linter.unusedSimpArgs false
set_option linter.unusedVariables false
namespace Go.En.Pl
def FN : Nat := 200000
theorem exx : pouncelaw11_allows_ (Ev.upto 200000) ((), ()) = some ((true, ()), ()) := by kernel_rfl
def urlL (l : List Src) (u own : Url) (m : Bool) : Bool := l.any fun s => matchB s u own m
theorem UrlA_eq (N : Nat) (l : List Src) (u own : Url) (m : Bool) (hl : l.length < N) (hb : l.length ≤ 1000000) (hs : ∀ s ∈ l, smallS s) (hu : small u) (ho : small own) (hN : 100005 < N) : allow_Url_ (Ev.upto N) ((l, (u, (own, (m, ())))), ()) = some ((urlL l u own m, ()), ()) := by
  have this : allow_some_api_Source_3c0 (Ev.upto N) ((l, ()), ((u, ()), ((own, ()), ((m, ()), ())))) = some ((urlL l u own m, ()), ((u, ()), ((own, ()), ((m, ()), ())))) := by
    apply wp_eq
    unfold allow_some_api_Source_3c0
    refine wp_bind ?_
    refine wp_for (σ := Unit) (fun i _ => ((l, ((l.length : Int), ((i : Int), ()))), ((u, ()), ((own, ()), ((m, ()), ()))))) (fun i _ => (l.take i).any (fun s => matchB s u own m) = false) l.length () rfl (by simp) hl ?_
    rintro i _ hi hn
    by_cases hi' : i < l.length
    · have c0 : decide ((i : Int) < (l.length : Int)) = true := decide_eq_true (by omega)
      have w : IntKind.wrap .i64 ((i : Int) + 1) = ((i + 1 : Nat) : Int) := by rw [wrap64 (by omega) (by omega)]; omega
      have q := url_eq N l[i] u own m (hs _ (List.getElem_mem hi')) hu ho hN
      simp -implicitDefEqProofs only [c0, cond_true, idx_nat hi', Option.bind_some, allow_Url_1_cbd, q, w]
      cases hc : matchB l[i] u own m with
      | true =>
        have : urlL l u own m = true := any_at hi' hc
        exact ⟨_, rfl, _, rfl, by rw [this]⟩
      | false => exact ⟨_, rfl, hi', (), rfl, by rw [any_take hi', hn, hc]; rfl⟩
    · have c0 : decide ((i : Int) < (l.length : Int)) = false := decide_eq_false (by omega)
      rw [List.take_of_length_le (by omega)] at hn
      simp -implicitDefEqProofs only [c0, cond_false]
      exact ⟨_, rfl, _, rfl, by rw [show urlL l u own m = false from hn]⟩
  unfold allow_Url_
  rw [this]
  rfl
theorem rUrlL_eq (N : Nat) (l : List Src) (u own : Url) (m : Bool) (hl : l.length < N) (hb : l.length ≤ 1000000) (hs : ∀ s ∈ l, smallS s) (hu : small u) (ho : small own) (hN : 100005 < N) : pounceref11_Url_ (Ev.upto N) ((l, (u, (own, (m, ())))), ()) = some ((urlL l u own m, ()), ()) := by
  apply wp_eq
  unfold pounceref11_Url_
  refine wp_bind ?_
  refine wp_for (σ := Unit) (fun i _ => ((l, (m, ((i : Int), ()))), ((u, ()), ((own, ()), ())))) (fun i _ => (l.take i).any (fun s => matchB s u own m) = false) l.length () rfl (by simp) hl ?_
  rintro i _ hi hn
  by_cases hi' : i < l.length
  · have c0 : decide ((i : Int) < (l.length : Int)) = true := decide_eq_true (by omega)
    have w : IntKind.wrap .i64 ((i : Int) + 1) = ((i + 1 : Nat) : Int) := by rw [wrap64 (by omega) (by omega)]; omega
    have q := rurl_eq N l[i] u own m (hs _ (List.getElem_mem hi')) hu ho hN
    simp -implicitDefEqProofs only [c0, cond_true, idx_nat hi', Option.bind_some, q, w]
    cases hc : matchB l[i] u own m with
    | true =>
      have : urlL l u own m = true := any_at hi' hc
      exact ⟨_, rfl, _, rfl, by rw [this]⟩
    | false => exact ⟨_, rfl, hi', (), rfl, by rw [any_take hi', hn, hc]; rfl⟩
  · have c0 : decide ((i : Int) < (l.length : Int)) = false := decide_eq_false (by omega)
    rw [List.take_of_length_le (by omega)] at hn
    simp -implicitDefEqProofs only [c0, cond_false]
    exact ⟨_, rfl, _, rfl, by rw [show urlL l u own m = false from hn]⟩
theorem rHas_eq (N : Nat) (l : List Src) (k : Int) (hl : l.length < N) (hb : l.length ≤ 1000000) : pounceref11_Has_ (Ev.upto N) ((l, (k, ())), ()) = some ((hask l k, ()), ()) := by
  apply wp_eq
  unfold pounceref11_Has_
  refine wp_bind ?_
  refine wp_for (σ := Unit) (fun i _ => ((l, (k, ((i : Int), ()))), ())) (fun i _ => (l.take i).any (fun s => s.1 == k) = false) l.length () rfl (by simp) hl ?_
  rintro i _ hi hn
  by_cases hi' : i < l.length
  · have c0 : decide ((i : Int) < (l.length : Int)) = true := decide_eq_true (by omega)
    have w : IntKind.wrap .i64 ((i : Int) + 1) = ((i + 1 : Nat) : Int) := by rw [wrap64 (by omega) (by omega)]; omega
    simp -implicitDefEqProofs only [c0, cond_true, idx_nat hi', Option.bind_some, w]
    cases hc : (l[i].1 == k) with
    | true =>
      have : hask l k = true := any_at hi' hc
      exact ⟨_, rfl, _, rfl, by rw [this]⟩
    | false => exact ⟨_, rfl, hi', (), rfl, by rw [any_take hi', hn, hc]; rfl⟩
  · have c0 : decide ((i : Int) < (l.length : Int)) = false := decide_eq_false (by omega)
    rw [List.take_of_length_le (by omega)] at hn
    simp -implicitDefEqProofs only [c0, cond_false]
    exact ⟨_, rfl, _, rfl, by rw [show hask l k = false from hn]⟩
theorem rText_eq (N : Nat) (l : List Src) (k : Int) (x : Bs) (hl : l.length < N) (hb : l.length ≤ 1000000) : pounceref11_text_ (Ev.upto N) ((l, (k, (x, ()))), ()) = some ((hasT l k x, ()), ()) := by
  apply wp_eq
  unfold pounceref11_text_
  refine wp_bind ?_
  refine wp_for (σ := Unit) (fun i _ => ((l, (k, (x, ((i : Int), ())))), ())) (fun i _ => (l.take i).any (fun s => s.1 == k && s.2.1 == x) = false) l.length () rfl (by simp) hl ?_
  rintro i _ hi hn
  by_cases hi' : i < l.length
  · have c0 : decide ((i : Int) < (l.length : Int)) = true := decide_eq_true (by omega)
    have w : IntKind.wrap .i64 ((i : Int) + 1) = ((i + 1 : Nat) : Int) := by rw [wrap64 (by omega) (by omega)]; omega
    simp -implicitDefEqProofs only [c0, cond_true, idx_nat hi', Option.bind_some, w]
    cases h1 : (l[i].1 == k) with
    | true =>
      cases h2 : (l[i].2.1 == x) with
      | true =>
        have : hasT l k x = true := any_at hi' (by simp only [h1, h2, Bool.and_self])
        exact ⟨_, rfl, _, rfl, by rw [this]⟩
      | false => exact ⟨_, rfl, hi', (), by rw [← w], by rw [any_take hi', hn, h1, h2]; rfl⟩
    | false => exact ⟨_, rfl, hi', (), by rw [← w], by rw [any_take hi', hn, h1]; rfl⟩
  · have c0 : decide ((i : Int) < (l.length : Int)) = false := decide_eq_false (by omega)
    rw [List.take_of_length_le (by omega)] at hn
    simp -implicitDefEqProofs only [c0, cond_false]
    exact ⟨_, rfl, _, rfl, by rw [show hasT l k x = false from hn]⟩
theorem rNonce_eq (N : Nat) (l : List Src) (x : Bs) (hl : l.length < N) (hb : l.length ≤ 1000000) : pounceref11_Nonce_ (Ev.upto N) ((l, (x, ())), ()) = some ((nonceB l x, ()), ()) := by
  unfold pounceref11_Nonce_ nonceB
  have q := rText_eq N l 9 x hl hb
  cases (x == ([] : Bs))
  · simp -implicitDefEqProofs only [Bool.not_false, beq_self_eq_true, cond_true, q, Option.bind_some, Bool.true_and]
  · rfl
theorem rLoose_eq (N : Nat) (l : List Src) (hl : l.length < N) (hb : l.length ≤ 1000000) : pounceref11_Loose_ (Ev.upto N) ((l, ()), ()) = some ((looseB l, ()), ()) := by
  unfold pounceref11_Loose_ looseB
  have q := fun k => rHas_eq N l k hl hb
  simp -implicitDefEqProofs only [q, Option.bind_some]
  cases hask l 3 <;> cases hask l 9 <;> cases hask l 10 <;> cases hask l 6 <;> rfl
theorem rHash_eq (N : Nat) (l : List Src) (x : Bs) (hl : l.length < N) (hb : l.length ≤ 1000000) (hx : x.length < N) (hxb : x.length ≤ 1000000) : pounceref11_Hash_ (Ev.upto N) ((l, (x, ())), ()) = some ((hasT l 10 (mrk x), ()), ()) := by
  unfold pounceref11_Hash_
  have q1 := rOfX N x hx hxb
  have q2 := rText_eq N l 10 (mrk x) hl hb
  simp -implicitDefEqProofs only [q1, q2, Option.bind_some]
theorem rInline_eq (N : Nat) (l : List Src) (k : Int) (n x : Bs) (hl : l.length < N) (hb : l.length ≤ 1000000) (hx : x.length < N) (hxb : x.length ≤ 1000000) :
    pounceref11_Inline_ (Ev.upto N) ((l, (k, (n, (x, ())))), ()) = some ((inlineB l k n (mrk x), ()), ()) := by
  unfold pounceref11_Inline_ inlineB
  have q1 := rLoose_eq N l hl hb
  have q2 := rNonce_eq N l n hl hb
  have q3 := rHash_eq N l x hl hb hx hxb
  have q4 := rHas_eq N l 7 hl hb
  cases hk : (k == 1) with
  | true =>
    simp -implicitDefEqProofs only [q1, q2, q3, Option.bind_some, cond_true]
    cases looseB l
    · cases nonceB l n <;> rfl
    · rfl
  | false =>
    simp -implicitDefEqProofs only [cond_false]
    cases h3 : (k == 3) with
    | true =>
      simp -implicitDefEqProofs only [q1, q3, q4, Option.bind_some, cond_true, Bool.true_or]
      cases looseB l
      · cases hask l 7 <;> rfl
      · rfl
    | false =>
      cases h4 : (k == 4) with
      | true =>
        simp -implicitDefEqProofs only [q1, q3, q4, Option.bind_some, cond_true, cond_false, Bool.false_or]
        cases looseB l
        · cases hask l 7 <;> rfl
        · rfl
      | false => rfl
def evalB (l : List Src) (k : Int) : Bool := bif k == 5 then hask l 4 else bif k == 6 then hask l 4 || hask l 5 else false
theorem rEval_eq (N : Nat) (l : List Src) (k : Int) (hl : l.length < N) (hb : l.length ≤ 1000000) :
    pounceref11_Eval_ (Ev.upto N) ((l, (k, ())), ()) = some ((evalB l k, ()), ()) := by
  unfold pounceref11_Eval_ evalB
  have q := fun k => rHas_eq N l k hl hb
  cases (k == 5)
  · cases (k == 6)
    · rfl
    · simp -implicitDefEqProofs only [q, Option.bind_some, cond_true, cond_false]
      cases hask l 4 <;> rfl
  · simp -implicitDefEqProofs only [q, Option.bind_some, cond_true]
def fetchB (l : List Src) (r : Req) : Bool := nonceB l r.2.2.2.2.1 || (bif hask l 6 then !r.2.2.2.2.2.1 else urlL l r.2.2.1 r.2.2.2.2.2.2 r.2.2.2.1)
theorem Fetch_eq (N : Nat) (l : List Src) (r : Req) (hl : l.length < N) (hb : l.length ≤ 1000000) (hs : ∀ s ∈ l, smallS s) (hu : small r.2.2.1) (ho : small r.2.2.2.2.2.2) (hN : 100005 < N) : allow_Fetch_ (Ev.upto N) ((l, (r, ())), ()) = some ((fetchB l r, ()), ()) := by
  unfold allow_Fetch_ fetchB
  have q1 := Nonce_eq N l r.2.2.2.2.1 hl hb
  have q2 := has_eq N [6] l hl hb (by simp; omega) (by simp)
  have q3 := UrlA_eq N l r.2.2.1 r.2.2.2.2.2.2 r.2.2.2.1 hl hb hs hu ho hN
  simp -implicitDefEqProofs only [q1, q2, q3, Option.bind_some, List.any_cons, List.any_nil, Bool.or_false]
  cases nonceB l r.2.2.2.2.1
  · cases hask l 6 <;> rfl
  · rfl
theorem rFetch_eq (N : Nat) (l : List Src) (r : Req) (hl : l.length < N) (hb : l.length ≤ 1000000) (hs : ∀ s ∈ l, smallS s) (hu : small r.2.2.1) (ho : small r.2.2.2.2.2.2) (hN : 100005 < N) : pounceref11_Fetch_ (Ev.upto N) ((l, (r, ())), ()) = some ((fetchB l r, ()), ()) := by
  unfold pounceref11_Fetch_ fetchB
  have q1 := rNonce_eq N l r.2.2.2.2.1 hl hb
  have q2 := rHas_eq N l 6 hl hb
  have q3 := rUrlL_eq N l r.2.2.1 r.2.2.2.2.2.2 r.2.2.2.1 hl hb hs hu ho hN
  simp -implicitDefEqProofs only [q1, q2, q3, Option.bind_some]
  cases nonceB l r.2.2.2.2.1
  · cases hask l 6 <;> rfl
  · cases hask l 6 <;> rfl
theorem Same_eq (N : Nat) (l : List Src) (hl : l.length < N) (hb : l.length ≤ 1000000) : pounceref09_Same_ (Ev.upto N) ((l, (l, ())), ()) = some ((true, ()), ()) := by
  apply wp_eq
  unfold pounceref09_Same_
  have cz : ((l.length : Int) != (l.length : Int)) = false := by simp
  simp -implicitDefEqProofs only [cz, cond_false]
  refine wp_bind ?_
  refine wp_for (σ := Unit) (fun i _ => ((l, (l, ((i : Int), ()))), ())) (fun i _ => True) l.length () rfl trivial hl ?_
  rintro i _ hi _
  by_cases hi' : i < l.length
  · have c0 : decide ((i : Int) < (l.length : Int)) = true := decide_eq_true (by omega)
    have w : IntKind.wrap .i64 ((i : Int) + 1) = ((i + 1 : Nat) : Int) := by rw [wrap64 (by omega) (by omega)]; omega
    simp -implicitDefEqProofs only [c0, cond_true, idx_nat hi', Option.bind_some, w, beq_self_eq_true, Bool.and_self, Bool.not_true, cond_false]
    exact ⟨_, rfl, hi', (), rfl, trivial⟩
  · have c0 : decide ((i : Int) < (l.length : Int)) = false := decide_eq_false (by omega)
    simp -implicitDefEqProofs only [c0, cond_false]
    exact ⟨_, rfl, _, rfl, rfl⟩
/-! ### What is not too big -/
def okS (l : List Src) : Prop := l.length ≤ 50 ∧ ∀ s ∈ l, smallS s
theorem Big9_ok (N : Nat) (l : List Src) (hN : 50 < N) : wp (pounceref09_Big_ (Ev.upto N) ((l, ()), ())) (fun r => ∃ b, r = ((b, ()), ()) ∧ (b = false → okS l)) := by
  unfold pounceref09_Big_
  by_cases hl : 50 < l.length
  · rw [show decide ((l.length : Int) > 50) = true from decide_eq_true (by omega), cond_true]
    exact ⟨_, rfl, true, rfl, fun h => by cases h⟩
  · rw [show decide ((l.length : Int) > 50) = false from decide_eq_false (by omega), cond_false]
    refine wp_bind ?_
    refine wp_for (σ := Unit) (fun i _ => ((l, ((i : Int), ())), ())) (fun i _ => ∀ s ∈ l.take i, smallS s) l.length () rfl (by simp) (by omega) ?_
    rintro i _ hi hn
    by_cases hi' : i < l.length
    · have c0 : decide ((i : Int) < (l.length : Int)) = true := decide_eq_true (by omega)
      have w : IntKind.wrap .i64 ((i : Int) + 1) = ((i + 1 : Nat) : Int) := by rw [wrap64 (by omega) (by omega)]; omega
      simp -implicitDefEqProofs only [c0, cond_true, idx_nat hi', Option.bind_some, w, condSome, cond_fst, cond_snd, Bool.cond_self]
      refine wp_some ?_
      cases h1 : decide ((l[i].2.1.length : Int) > 500) with
      | true => exact ⟨_, rfl, true, rfl, fun h => by cases h⟩
      | false =>
        cases h2 : decide ((l[i].2.2.1.length : Int) > 500) with
        | true => exact ⟨_, rfl, true, rfl, fun h => by cases h⟩
        | false =>
          cases h3 : decide ((l[i].2.2.2.1.length : Int) > 500) with
          | true => exact ⟨_, rfl, true, rfl, fun h => by cases h⟩
          | false =>
            cases h4 : decide ((l[i].2.2.2.2.2.2.length : Int) > 500) with
            | true => exact ⟨_, rfl, true, rfl, fun h => by cases h⟩
            | false =>
              have h3 := of_decide_eq_false h3
              have h4 := of_decide_eq_false h4
              refine ⟨hi', (), rfl, ?_⟩
              intro s hs
              rw [List.take_succ_eq_append_getElem hi', List.mem_append, List.mem_singleton] at hs
              rcases hs with hs | rfl
              · exact hn s hs
              · exact ⟨by omega, by omega⟩
    · have c0 : decide ((i : Int) < (l.length : Int)) = false := decide_eq_false (by omega)
      rw [List.take_of_length_le (by omega)] at hn
      simp -implicitDefEqProofs only [c0, cond_false]
      exact ⟨_, rfl, _, rfl, false, rfl, fun _ => ⟨by omega, hn⟩⟩
theorem Big5_ok (V : Ev) (u : Url) : ∃ b, pounceref05_Big_ V ((u, ()), ()) = some ((b, ()), ()) ∧ (b = false → small u) := by
  unfold pounceref05_Big_
  cases h1 : decide ((u.2.1.length : Int) > 2000) with
  | true => exact ⟨_, rfl, fun h => by cases h⟩
  | false =>
    cases h2 : decide ((u.2.2.1.length : Int) > 2000) with
    | true => exact ⟨_, rfl, fun h => by cases h⟩
    | false =>
      cases h3 : decide ((u.2.2.2.2.1.length : Int) > 2000) with
      | true => exact ⟨_, rfl, fun h => by cases h⟩
      | false =>
        refine ⟨_, rfl, fun h4 => ?_⟩
        have h1 := of_decide_eq_false h1
        have h2 := of_decide_eq_false h2
        have h3 := of_decide_eq_false h3
        have h4 : ¬ ((u.2.2.2.2.2.length : Int) > 2000) := of_decide_eq_false h4
        exact ⟨by omega, by omega, by omega, by omega⟩
def okR (r : Req) : Prop := r.2.1.length ≤ 3000 ∧ small r.2.2.1 ∧ small r.2.2.2.2.2.2
theorem Big11_ok (V : Ev) (r : Req) : ∃ b, pounceref11_Big_ V ((r, ()), ()) = some ((b, ()), ()) ∧ (b = false → okR r) := by
  unfold pounceref11_Big_
  obtain ⟨b1, q1, o1⟩ := Big5_ok V r.2.2.1
  obtain ⟨b2, q2, o2⟩ := Big5_ok V r.2.2.2.2.2.2
  by_cases h : 3000 < r.2.1.length
  · rw [show decide ((r.2.1.length : Int) > 3000) = true from decide_eq_true (by omega)]
    exact ⟨true, rfl, fun h => by cases h⟩
  · rw [show decide ((r.2.1.length : Int) > 3000) = false from decide_eq_false (by omega)]
    by_cases h2 : 500 < r.2.2.2.2.1.length
    · rw [show decide ((r.2.2.2.2.1.length : Int) > 500) = true from decide_eq_true (by omega)]
      exact ⟨true, rfl, fun h => by cases h⟩
    · rw [show decide ((r.2.2.2.2.1.length : Int) > 500) = false from decide_eq_false (by omega)]
      simp -implicitDefEqProofs only [q1, q2, Option.bind_some, condSome, beq_self_eq_true, cond_true]
      cases b1
      · exact ⟨b2, rfl, fun h => ⟨by omega, o1 rfl, o2 h⟩⟩
      · exact ⟨true, rfl, fun h => by cases h⟩
theorem large_ok (N : Nat) (l : List Src) (r : Req) (hN : 50 < N) : ∃ b, pouncelaw11_large_ (Ev.upto N) ((l, (r, ())), ()) = some ((b, ()), ()) ∧ (b = false → okS l ∧ okR r) := by
  unfold pouncelaw11_large_
  obtain ⟨_, e1, b1, rfl, h1⟩ := Big9_ok N l hN
  obtain ⟨b2, e2, h2⟩ := Big11_ok (Ev.upto N) r
  simp -implicitDefEqProofs only [e1, e2, Option.bind_some]
  cases b1
  · exact ⟨b2, rfl, fun h => ⟨h1 rfl, h2 h⟩⟩
  · exact ⟨true, rfl, fun h => by cases h⟩
end Go.En.Pl
