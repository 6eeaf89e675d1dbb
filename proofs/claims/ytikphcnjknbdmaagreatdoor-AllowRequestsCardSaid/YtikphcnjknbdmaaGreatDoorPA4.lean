/- Text PA4 of this seat: written by a program of ours, or by hand; checked by Lean. -/
import Derived.Test.YtikphcnjknbdmaaGreatDoorPA3
set_option linter.unusedSimpArgs false
set_option linter.unusedVariables false
namespace Go.En.Pl
theorem plainParts (l : List Src) (r : Req) : pouncelaw11_AllowParts_ (Ev.upto 200000) ((l, (r, ())), ()) = some ((true, ()), ()) := by
  unfold pouncelaw11_AllowParts_
  obtain ⟨b, e, h⟩ := large_ok 200000 l r (by decide)
  simp -implicitDefEqProofs only [e, Option.bind_some]
  cases b with
  | true => rfl
  | false =>
    obtain ⟨⟨hl, hs⟩, hx, hu, ho⟩ := h rfl
    have l1 : l.length < 200000 := by omega
    have l2 : l.length ≤ 1000000 := by omega
    have x1 : r.2.1.length < 200000 := by omega
    have x2 : r.2.1.length ≤ 1000000 := by omega
    have f : fits l.length 88 = true := fits_of (by omega)
    have q1 := UrlA_eq 200000 l r.2.2.1 r.2.2.2.2.2.2 r.2.2.2.1 l1 l2 hs hu ho (by decide)
    have q2 := rUrlL_eq 200000 l r.2.2.1 r.2.2.2.2.2.2 r.2.2.2.1 l1 l2 hs hu ho (by decide)
    have q3 := Nonce_eq 200000 l r.2.2.2.2.1 l1 l2
    have q4 := rNonce_eq 200000 l r.2.2.2.2.1 l1 l2
    have q5 := Hash_eq 200000 l r.2.1 (mrk r.2.1) l1 l2 (OfX 200000 r.2.1 x1 x2 (by decide))
    have q6 := rHash_eq 200000 l r.2.1 l1 l2 x1 x2
    have q7 := Loose_eq 200000 l l1 (by decide) l2
    have q8 := rLoose_eq 200000 l l1 l2
    have q9 := Same_eq 200000 l l1 l2
    simp -implicitDefEqProofs only [cond_false, pouncelaw11_own_, f, cond_true, Option.bind_some, q1, q2, q3, q4, q5, q6, q7, q8, q9, beq_self_eq_true]
    rw [exx]
    rfl
theorem plainRequests (l : List Src) (r : Req) : pouncelaw11_AllowRequests_ (Ev.upto 200000) ((l, (r, ())), ()) = some ((true, ()), ()) := by
  unfold pouncelaw11_AllowRequests_
  obtain ⟨b, e, h⟩ := large_ok 200000 l r (by decide)
  simp -implicitDefEqProofs only [e, Option.bind_some]
  cases b with
  | true => rfl
  | false =>
    obtain ⟨⟨hl, hs⟩, hx, hu, ho⟩ := h rfl
    have l1 : l.length < 200000 := by omega
    have l2 : l.length ≤ 1000000 := by omega
    have x1 : r.2.1.length < 200000 := by omega
    have x2 : r.2.1.length ≤ 1000000 := by omega
    have f : fits l.length 88 = true := fits_of (by omega)
    have q1 := Inline_eq 200000 l r.1 r.2.2.2.2.1 r.2.1 (mrk r.2.1) l1 (by decide) l2 (OfX 200000 r.2.1 x1 x2 (by decide))
    have q2 := rInline_eq 200000 l r.1 r.2.2.2.2.1 r.2.1 l1 l2 x1 x2
    have q3 := Fetch_eq 200000 l r l1 l2 hs hu ho (by decide)
    have q4 := rFetch_eq 200000 l r l1 l2 hs hu ho (by decide)
    have q5 : _ = some ((evalB l r.1, ()), ()) := Eval_eq 200000 l r.1 l1 (by decide) l2
    have q6 := rEval_eq 200000 l r.1 l1 l2
    have q9 := Same_eq 200000 l l1 l2
    simp -implicitDefEqProofs only [cond_false, pouncelaw11_own_, f, cond_true, Option.bind_some, q1, q2, q3, q4, q5, q6, q9, beq_self_eq_true]
    rw [exx]
    rfl
theorem any_rot (l : List Src) (a : Nat) (p : Src → Bool) : (l.drop a ++ l.take a ++ l).any p = l.any p := by
  have h : l.any p = (l.take a ++ l.drop a).any p := by rw [List.take_append_drop]
  rw [List.any_append, List.any_append, h, List.any_append]
  cases (l.drop a).any p <;> cases (l.take a).any p <;> rfl
theorem plainOrder (l : List Src) (r : Req) (at' : Int) : pouncelaw11_AllowOrder_ (Ev.upto 200000) ((l, (r, (at', ()))), ()) = some ((true, ()), ()) := by
  unfold pouncelaw11_AllowOrder_
  obtain ⟨b, e, h⟩ := large_ok 200000 l r (by decide)
  simp -implicitDefEqProofs only [e, Option.bind_some]
  cases b with
  | true => rfl
  | false =>
    obtain ⟨⟨hl, hs⟩, hx, hu, ho⟩ := h rfl
    simp -implicitDefEqProofs only [beq_self_eq_true, cond_true]
    by_cases h0 : at' < 0
    · rw [show decide (at' < 0) = true from decide_eq_true h0]; rfl
    · rw [show decide (at' < 0) = false from decide_eq_false h0]
      simp -implicitDefEqProofs only [beq_self_eq_true, cond_true, Option.bind_some]
      by_cases h1 : at' > (l.length : Int)
      · rw [show decide (at' > (l.length : Int)) = true from decide_eq_true h1]; rfl
      · rw [show decide (at' > (l.length : Int)) = false from decide_eq_false h1]
        obtain ⟨a, rfl⟩ := Int.eq_ofNat_of_zero_le (by omega : 0 ≤ at')
        have ha : a ≤ l.length := by omega
        have s1 : sl l (a : Int) (l.length : Int) = some (l.drop a) := sl_end ha
        have s2 : sl l (0 : Int) (a : Int) = some (l.take a) := by
          have := sl_nat (l := l) (a := 0) (b := a) (by omega) ha
          simpa using this
        have f1 : fits (l.drop a).length 88 = true := fits_of (by simp; omega)
        have f2 : fits ((l.drop a).length + (l.take a).length) 88 = true := fits_of (by simp; omega)
        have f3 : fits ((l.drop a ++ l.take a).length + l.length) 88 = true := fits_of (by simp; omega)
        have tl : (l.drop a ++ l.take a ++ l).length ≤ 100 := by simp; omega
        simp -implicitDefEqProofs only [cond_false, Option.bind_some, s1, s2, f1, f2, f3, cond_true]
        have hr : ∀ p : Src → Bool, (l.drop a ++ l.take a ++ l).any p = l.any p := any_rot l a
        have hm : ∀ s ∈ l.drop a ++ l.take a ++ l, smallS s := by
          intro s h
          rw [List.mem_append, List.mem_append] at h
          rcases h with (h | h) | h
          · exact hs s (List.mem_of_mem_drop h)
          · exact hs s (List.mem_of_mem_take h)
          · exact hs s h
        generalize l.drop a ++ l.take a ++ l = t at *
        have k : ∀ k, hask t k = hask l k := fun k => hr _
        have kT : ∀ k x, hasT t k x = hasT l k x := fun k x => hr _
        have kN : ∀ n, nonceB t n = nonceB l n := fun n => by unfold nonceB; rw [kT]
        have kL : looseB t = looseB l := by unfold looseB; rw [k, k, k, k]
        have eI : inlineB t r.1 r.2.2.2.2.1 (mrk r.2.1) = inlineB l r.1 r.2.2.2.2.1 (mrk r.2.1) := by unfold inlineB; rw [kL, kN, kT, k]
        have eU : urlL t r.2.2.1 r.2.2.2.2.2.2 r.2.2.2.1 = urlL l r.2.2.1 r.2.2.2.2.2.2 r.2.2.2.1 := hr _
        have eF : fetchB t r = fetchB l r := by unfold fetchB; rw [kN, k, eU]
        have eE : evalB t r.1 = evalB l r.1 := by unfold evalB; rw [k, k]
        have l1 : l.length < 200000 := by omega
        have l2 : l.length ≤ 1000000 := by omega
        have t1 : t.length < 200000 := by omega
        have t2 : t.length ≤ 1000000 := by omega
        have x1 : r.2.1.length < 200000 := by omega
        have x2 : r.2.1.length ≤ 1000000 := by omega
        have q1 := Inline_eq 200000 l r.1 r.2.2.2.2.1 r.2.1 (mrk r.2.1) l1 (by decide) l2 (OfX 200000 r.2.1 x1 x2 (by decide))
        have q2 := Inline_eq 200000 t r.1 r.2.2.2.2.1 r.2.1 (mrk r.2.1) t1 (by decide) t2 (OfX 200000 r.2.1 x1 x2 (by decide))
        have q3 := Fetch_eq 200000 l r l1 l2 hs hu ho (by decide)
        have q4 := Fetch_eq 200000 t r t1 t2 hm hu ho (by decide)
        have q5 : _ = some ((evalB l r.1, ()), ()) := Eval_eq 200000 l r.1 l1 (by decide) l2
        have q6 : _ = some ((evalB t r.1, ()), ()) := Eval_eq 200000 t r.1 t1 (by decide) t2
        rw [eI] at q2
        rw [eF] at q4
        rw [eE] at q6
        simp -implicitDefEqProofs only [q1, q2, q3, q4, q5, q6, Option.bind_some, beq_self_eq_true, cond_true]
        rw [exx]
        rfl
theorem Big1_eq (V : Ev) (N : Nat) (s : Src) (hN : 50 < N) : ∃ b, pounceref09_Big_ (Ev.upto N) (([s], ()), ()) = some ((b, ()), ()) ∧ (b = false → smallS s) := by
  obtain ⟨_, e1, b1, rfl, h1⟩ := Big9_ok N [s] hN
  exact ⟨b1, e1, fun h => (h1 h).2 s (by simp)⟩
theorem plainMore (l : List Src) (s : Src) (r : Req) : pouncelaw11_AllowMore_ (Ev.upto 200000) ((l, (s, (r, ()))), ()) = some ((true, ()), ()) := by
  unfold pouncelaw11_AllowMore_
  obtain ⟨b, e, h⟩ := large_ok 200000 l r (by decide)
  obtain ⟨b2, e2, h2⟩ := Big1_eq (Ev.upto 200000) 200000 s (by decide)
  simp -implicitDefEqProofs only [e, e2, Option.bind_some]
  cases b with
  | true =>
    simp -implicitDefEqProofs only [show (true == false) = false from rfl, cond_false, Option.bind_some, cond_true]
    rw [exx]
    rfl
  | false =>
    simp -implicitDefEqProofs only [show (false == false) = true from rfl, cond_true]
    cases b2 with
    | true =>
      simp -implicitDefEqProofs only [show (true == false) = false from rfl, cond_false, Option.bind_some, cond_true]
      rw [exx]
      rfl
    | false =>
      simp -implicitDefEqProofs only [show (false == false) = true from rfl, cond_true]
      cases h9 : (s.1 == 9) with
      | true =>
        simp -implicitDefEqProofs only [show (true == false) = false from rfl, cond_false, Option.bind_some, cond_true]
        rw [exx]
        rfl
      | false =>
        simp -implicitDefEqProofs only [show (false == false) = true from rfl, cond_true]
        cases h10 : (s.1 == 10) with
        | true =>
          simp -implicitDefEqProofs only [show (true == false) = false from rfl, cond_false, Option.bind_some, cond_true]
          rw [exx]
          rfl
        | false =>
          simp -implicitDefEqProofs only [show (false == false) = true from rfl, cond_true, Option.bind_some]
          cases h6 : (s.1 == 6) with
          | true =>
            simp -implicitDefEqProofs only [Option.bind_some, cond_true]
            rw [exx]
            rfl
          | false =>
            obtain ⟨⟨hl, hs⟩, hx, hu, ho⟩ := h rfl
            have hs1 := h2 rfl
            have f : fits l.length 88 = true := fits_of (by omega)
            have f2 : fits (l.length + [s].length) 88 = true := fits_of (by simp; omega)
            have hm : ∀ y ∈ l ++ [s], smallS y := by
              intro y h
              rw [List.mem_append, List.mem_singleton] at h
              rcases h with h | rfl
              · exact hs y h
              · exact hs1
            have tl : (l ++ [s]).length ≤ 51 := by simp; omega
            have hr : ∀ p : Src → Bool, (l ++ [s]).any p = (l.any p || p s) := fun p => by simp [List.any_append]
            simp -implicitDefEqProofs only [cond_false, pouncelaw11_own_, f, f2, cond_true, Option.bind_some]
            generalize l ++ [s] = t at *
            have k : ∀ k, hask t k = (hask l k || s.1 == k) := fun k => hr _
            have kT : ∀ k x, hasT t k x = (hasT l k x || (s.1 == k && s.2.1 == x)) := fun k x => hr _
            have k9 : hask t 9 = hask l 9 := by rw [k, h9, Bool.or_false]
            have k10 : hask t 10 = hask l 10 := by rw [k, h10, Bool.or_false]
            have k6 : hask t 6 = hask l 6 := by rw [k, h6, Bool.or_false]
            have T9 : ∀ x, hasT t 9 x = hasT l 9 x := fun x => by rw [kT, h9, Bool.false_and, Bool.or_false]
            have T10 : ∀ x, hasT t 10 x = hasT l 10 x := fun x => by rw [kT, h10, Bool.false_and, Bool.or_false]
            have kN : ∀ n, nonceB t n = nonceB l n := fun n => by unfold nonceB; rw [T9]
            have kL : looseB l = true → looseB t = true := by
              unfold looseB
              rw [k9, k10, k6, k 3]
              cases hask l 3 <;> simp
            have mI : inlineB l r.1 r.2.2.2.2.1 (mrk r.2.1) = true → inlineB t r.1 r.2.2.2.2.1 (mrk r.2.1) = true := by
              unfold inlineB
              rw [kN, T10, k 7]
              cases (r.1 == 1) <;> cases (r.1 == 3 || r.1 == 4) <;> cases hL : looseB l <;> simp_all
            have mU : urlL l r.2.2.1 r.2.2.2.2.2.2 r.2.2.2.1 = true → urlL t r.2.2.1 r.2.2.2.2.2.2 r.2.2.2.1 = true := by
              unfold urlL
              rw [hr]
              intro h; rw [h]; rfl
            have mF : fetchB l r = true → fetchB t r = true := by
              unfold fetchB
              rw [kN, k6]
              cases nonceB l r.2.2.2.2.1
              · cases hask l 6
                · exact mU
                · exact id
              · exact id
            have mE : evalB l r.1 = true → evalB t r.1 = true := by
              unfold evalB
              rw [k 4, k 5]
              cases (r.1 == 5) <;> cases (r.1 == 6) <;> cases hask l 4 <;> cases hask l 5 <;> simp
            have l1 : l.length < 200000 := by omega
            have l2 : l.length ≤ 1000000 := by omega
            have t1 : t.length < 200000 := by omega
            have t2 : t.length ≤ 1000000 := by omega
            have x1 : r.2.1.length < 200000 := by omega
            have x2 : r.2.1.length ≤ 1000000 := by omega
            have q1 := Inline_eq 200000 l r.1 r.2.2.2.2.1 r.2.1 (mrk r.2.1) l1 (by decide) l2 (OfX 200000 r.2.1 x1 x2 (by decide))
            have q2 := Inline_eq 200000 t r.1 r.2.2.2.2.1 r.2.1 (mrk r.2.1) t1 (by decide) t2 (OfX 200000 r.2.1 x1 x2 (by decide))
            have q3 := Fetch_eq 200000 l r l1 l2 hs hu ho (by decide)
            have q4 := Fetch_eq 200000 t r t1 t2 hm hu ho (by decide)
            have q5 : _ = some ((evalB l r.1, ()), ()) := Eval_eq 200000 l r.1 l1 (by decide) l2
            have q6 : _ = some ((evalB t r.1, ()), ()) := Eval_eq 200000 t r.1 t1 (by decide) t2
            simp -implicitDefEqProofs only [q1, q2, Option.bind_some]
            rw [exx]
            clear q1 q2
            have nt : ((!true) == false) = true := rfl
            have nf : ((!false) == false) = false := rfl
            generalize inlineB l r.1 r.2.2.2.2.1 (mrk r.2.1) = a1 at *
            generalize inlineB t r.1 r.2.2.2.2.1 (mrk r.2.1) = a2 at *
            cases a1 with
            | false =>
              simp -implicitDefEqProofs only [nf, cond_false, Option.bind_some, q3, q4, q5, q6]
              clear q3 q4 q5 q6
              generalize fetchB l r = a3 at *
              generalize fetchB t r = a4 at *
              generalize evalB l r.1 = a5 at *
              generalize evalB t r.1 = a6 at *
              cases a3 <;> cases a4 <;> cases a5 <;> cases a6 <;> first | rfl | exact absurd (mF rfl) (by decide) | exact absurd (mE rfl) (by decide)
            | true =>
              obtain rfl : a2 = true := mI rfl
              simp -implicitDefEqProofs only [nt, cond_true, Option.bind_some, q3, q4, q5, q6]
              clear q3 q4 q5 q6
              generalize fetchB l r = a3 at *
              generalize fetchB t r = a4 at *
              generalize evalB l r.1 = a5 at *
              generalize evalB t r.1 = a6 at *
              cases a3 <;> cases a4 <;> cases a5 <;> cases a6 <;> first | rfl | exact absurd (mF rfl) (by decide) | exact absurd (mE rfl) (by decide)
end Go.En.Pl
