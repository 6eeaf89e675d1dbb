/- Text TE5 of this seat: written by a program of ours, or by hand; checked by Lean. -/
import Derived.Test.YtlambcopphejaaaGreatDoorTE4
set_option linter.unusedSimpArgs false
set_option linter.unusedVariables false
namespace Go.En.Pl
theorem lowerB_cons (c : UInt8) (x : Bs) : lowerB (c :: x) = low1 c :: lowerB x := by simp [lowerB_map]
theorem low_end (n : Bs) (hn : lowerB n = n) : lowerB ([60, 47] ++ n) = [60, 47] ++ n := by
  show lowerB (60 :: 47 :: n) = _
  rw [lowerB_cons, lowerB_cons, hn]
  rfl
theorem rend_eq (N : Nat) (s n : Bs) (a i : Nat) (r : Bs) (out : List Tok) (f : List Fl) (hn : lowerB n = n) (hnl : n.length ≤ 15000) (ha : a ≤ s.length) (hs : s.length ≤ 15000) (hN : s.length + 1 < N) :
    pounceref14_Reader_end_07b (Ev.upto N) (((a : Int), (n, ())), rcur s i r out f) = some ((((endP s n a : Nat) : Int), ()), rcur s i r out f) := by
  have f0 : strFits (([60, 47] : Bs).length + n.length) = true := strFitsL (by simp; omega)
  apply wp_eq
  unfold pounceref14_Reader_end_07b
  refine wp_bind ?_
  refine wp_it (fun x => ∃ j : Nat, x = ((n, ((j : Int), ())), rcur s i r out f) ∧ a ≤ j ∧ j ≤ s.length ∧ ∀ e, a ≤ e → e < j → rawE s n e = false) (fun x => s.length - x.1.2.1.toNat) ⟨a, rfl, Nat.le_refl _, ha, fun e h1 h2 => absurd h1 (by omega)⟩ (by simp; omega) ?_
  rintro _ ⟨j, rfl, hij, hj, hno⟩
  by_cases hjl : j < s.length
  · have c0 : decide ((j : Int) < (s.length : Int)) = true := decide_eq_true (by omega)
    have s1 : sl s ((j : Nat) : Int) (s.length : Int) = some (s.drop j) := sl_end hj
    have q1 := begins_at N s ([60, 47] ++ n) j (low_end n hn) (by omega) (by simp; omega) (by omega)
    have w1 : IntKind.wrap .i64 ((j : Int) + 1) = ((j + 1 : Nat) : Int) := by rw [wrap64 (by omega) (by omega)]; omega
    have w2 : IntKind.wrap .i64 ((j : Int) + 2) = ((j + 2 : Nat) : Int) := by rw [wrap64 (by omega) (by omega)]; omega
    have w3 : IntKind.wrap .i64 (((j + 2 : Nat) : Int) + (n.length : Int)) = ((j + 2 + n.length : Nat) : Int) := by rw [wrap64 (by omega) (by omega)]; omega
    have nxt : rawE s n j = false → ∀ e, a ≤ e → e < j + 1 → rawE s n e = false := fun hr e h1 h2 => by
      by_cases he : e = j
      · rw [he]; exact hr
      · exact hno e h1 (by omega)
    simp -implicitDefEqProofs only [c0, cond_true, s1, Option.bind_some, f0, q1, w2, w3]
    cases hb : isB s j ([60, 47] ++ n) with
    | false =>
      have hr : rawE s n j = false := by unfold rawE; rw [hb]; rfl
      simp -implicitDefEqProofs only [Bool.not_false, show (true == false) = false from rfl, cond_false, Option.bind_some, cond_true, w1]
      exact ⟨_, rfl, ⟨j + 1, rfl, by omega, by omega, nxt hr⟩, by simp; omega⟩
    | true =>
      by_cases hk : j + 2 + n.length < s.length
      · have c2 : decide (((j + 2 + n.length : Nat) : Int) ≥ (s.length : Int)) = false := decide_eq_false (by omega)
        have g : s[j + 2 + n.length]? = some s[j + 2 + n.length] := List.getElem?_eq_getElem hk
        have q2 := rblank_at (Ev.upto N) s[j + 2 + n.length]
        have n62 : (((s[j + 2 + n.length].toNat : Nat) : Int) == 62) = (s[j + 2 + n.length] == 62) := byteEq _ 62 (by decide)
        have n47 : (((s[j + 2 + n.length].toNat : Nat) : Int) == 47) = (s[j + 2 + n.length] == 47) := byteEq _ 47 (by decide)
        have hE : rawE s n j = (blankB s[j + 2 + n.length] || (s[j + 2 + n.length] == 47 || s[j + 2 + n.length] == 62)) := by unfold rawE; rw [hb, g]; rfl
        have hinner : wp ((bif ((((s[j + 2 + n.length]).toNat : Int) == (47 : Int)) == false) then (bif ((((s[j + 2 + n.length]).toNat : Int) == (62 : Int)) == false) then ((pounceref02_Blank_ (Ev.upto N) ((((s[j + 2 + n.length]).toNat : Int), ()), ())).bind fun v6 => (some ((n, ((j : Int), (v6.1.1, ()))), rcur s i r out f))) else (some ((n, ((j : Int), (true, ()))), rcur s i r out f))) else (some ((n, ((j : Int), (true, ()))), rcur s i r out f)) : Option ((Bs × Int × Bool × Unit) × ((Bs × Int × Bs × Unit) × (List Tok) × (List Fl) × Unit)))) (fun o => o = ((n, ((j : Int), (rawE s n j, ()))), rcur s i r out f)) := by
          rw [hE, n47, n62]
          unfold blankB
          cases (s[j + 2 + n.length] == 47) with
          | true =>
            cases blanks.contains s[j + 2 + n.length] <;> exact ⟨_, rfl, rfl⟩
          | false =>
            cases (s[j + 2 + n.length] == 62) with
            | true => cases blanks.contains s[j + 2 + n.length] <;> exact ⟨_, rfl, rfl⟩
            | false =>
              simp -implicitDefEqProofs only [beq_self_eq_true, cond_true, q2, Option.bind_some, Bool.or_false]
              exact ⟨_, rfl, rfl⟩
        obtain ⟨_, e, rfl⟩ := hinner
        simp -implicitDefEqProofs only [Bool.not_true, beq_self_eq_true, cond_true, c2, cond_false, Option.bind_some, idx_nat hk]
        rw [e]
        cases hr : rawE s n j with
        | true =>
          simp -implicitDefEqProofs only [Option.bind_some, cond_true]
          exact ⟨_, rfl, _, rfl, by rw [endP_at hij hj hno (fun _ => hr)]⟩
        | false =>
          simp -implicitDefEqProofs only [Option.bind_some, cond_false, w1]
          exact ⟨_, rfl, ⟨j + 1, rfl, by omega, by omega, nxt hr⟩, by simp; omega⟩
      · have c2 : decide (((j + 2 + n.length : Nat) : Int) ≥ (s.length : Int)) = true := decide_eq_true (by omega)
        have hr : rawE s n j = false := by unfold rawE; rw [hb, List.getElem?_eq_none (by omega)]; rfl
        simp -implicitDefEqProofs only [Bool.not_true, beq_self_eq_true, cond_true, c2, Option.bind_some, w1]
        exact ⟨_, rfl, ⟨j + 1, rfl, by omega, by omega, nxt hr⟩, by simp; omega⟩
  · have c0 : decide ((j : Int) < (s.length : Int)) = false := decide_eq_false (by omega)
    simp -implicitDefEqProofs only [c0, cond_false]
    refine ⟨_, rfl, _, rfl, ?_⟩
    rw [endP_at hij hj hno (fun h => absurd h hjl)]
    have : j = s.length := by omega
    rw [this]
theorem raw_plain {n : Bs} (h : rawN n = true) : (n == ([116, 101, 120, 116, 97, 114, 101, 97] : Bs) || n == ([116, 105, 116, 108, 101] : Bs)) = !plainN n := by
  unfold rawN at h
  unfold plainN
  cases h1 : (n == ([115, 99, 114, 105, 112, 116] : Bs)) with
  | true =>
    have : n = [115, 99, 114, 105, 112, 116] := beq_iff_eq.1 h1
    subst this
    rfl
  | false =>
    cases h2 : (n == ([115, 116, 121, 108, 101] : Bs)) with
    | true =>
      have : n = [115, 116, 121, 108, 101] := beq_iff_eq.1 h2
      subst this
      rfl
    | false =>
      rw [h1, h2] at h
      simpa using h
theorem rraw_eq (N : Nat) (s n : Bs) (i : Nat) (out : List Tok) (f : List Fl) (hr : rawN n = true) (hn : lowerB n = n) (hnl : n.length ≤ 15000) (hi : i ≤ s.length) (hs : s.length ≤ 15000) (ho : okD out) (hf : f.length ≤ 800000000) (hN : s.length + 1 < N) (hN2 : 1000 < N) :
    pounceref14_Reader_raw_61a (Ev.upto N) ((), rcur s i n out f) = some ((), rcur s (rawS s n i out f).1 [] (rawS s n i out f).2.1 (rawS s n i out f).2.2) := by
  have he := endP_le s n i hi
  have q1 := rend_eq N s n i i [] out f hn hnl hi hs hN
  have s1 : sl s ((i : Nat) : Int) ((endP s n i : Nat) : Int) = some (rawX s n i) := sl_nat he.1 he.2
  have hxl : (rawX s n i).length ≤ s.length := by unfold rawX; simp; omega
  have q2 := rdecode_eq N s i (endP s n i) i [] out f he.1 he.2 hs (by omega) (by omega) (by omega)
  rw [show (s.take (endP s n i)).drop i = rawX s n i from rfl] at q2
  have d1 := dec_fst_len (rawX s n i) 0
  have d2 := dec_snd_len (rawX s n i) (i : Nat)
  have hrp := raw_plain hr
  unfold pounceref14_Reader_raw_61a rawS
  simp -implicitDefEqProofs only [Option.bind_some, q1, s1]
  have hc : wp ((bif ((n == ([116, 101, 120, 116, 97, 114, 101, 97] : Bs)) == false) then (some ((((endP s n i : Nat) : Int), (rawX s n i, ((n == ([116, 105, 116, 108, 101] : Bs)), ()))), rcur s i [] out f)) else (some ((((endP s n i : Nat) : Int), (rawX s n i, (true, ()))), rcur s i [] out f)) : Option ((Int × Bs × Bool × Unit) × ((Bs × Int × Bs × Unit) × (List Tok) × (List Fl) × Unit)))) (fun o => o = ((((endP s n i : Nat) : Int), (rawX s n i, (!plainN n, ()))), rcur s i [] out f)) := by
    rw [← hrp]
    cases (n == ([116, 101, 120, 116, 97, 114, 101, 97] : Bs)) <;> exact ⟨_, rfl, rfl⟩
  obtain ⟨_, e, rfl⟩ := hc
  rw [e]
  have tail : ∀ (d : Bs) (f' : List Fl), d.length ≤ 1000000000 → f'.length ≤ 900000000 →
      ((pounceref14_Reader_text_f0a (Ev.upto N) ((d, ()), rcur s i [] out f')).bind fun v7 => ((bif ((((endP s n i : Nat) : Int)) == ((v7.2.1.1).length : Int)) then ((pounceref14_Reader_fail_d75 (Ev.upto N) (((140 : Int), (v7.2.1.2.1, ())), ((v7.2.1.1, (v7.2.1.2.1, (v7.2.1.2.2.1, ()))), (v7.2.2.1, (v7.2.2.2.1, ()))))).bind fun v8 => (some ((((endP s n i : Nat) : Int), ()), ((v8.2.1.1, (v8.2.1.2.1, (v8.2.1.2.2.1, ()))), (v8.2.2.1, (v8.2.2.2.1, ())))))) else (some ((((endP s n i : Nat) : Int), ()), ((v7.2.1.1, (v7.2.1.2.1, (v7.2.1.2.2.1, ()))), (v7.2.2.1, (v7.2.2.2.1, ()))))) : Option ((Int × Unit) × ((Bs × Int × Bs × Unit) × (List Tok) × (List Fl) × Unit))).bind fun o9 => (some ((), ((o9.2.1.1, (o9.1.1, (o9.2.1.2.2.1, ()))), (o9.2.2.1, (o9.2.2.2.1, ())))) : Option (Unit × ((Bs × Int × Bs × Unit) × (List Tok) × (List Fl) × Unit)))))
        = some ((), rcur s (endP s n i) [] (tellS out (tx d)) (f' ++ (if endP s n i = s.length then [(140, (i : Int))] else []))) := by
    intro d f' hd hf'
    have q3 := rtextR_eq (Ev.upto N) d s i [] out f' ho (by omega)
    have q4 := rfail_eq (Ev.upto N) 140 (i : Int) s i [] (tellS out (tx d)) f' (by omega)
    simp -implicitDefEqProofs only [q3, Option.bind_some]
    by_cases h : endP s n i = s.length
    · have c1 : (((endP s n i : Nat) : Int) == (s.length : Int)) = true := by rw [h]; exact beq_self_eq_true _
      rw [if_pos h]
      simp -implicitDefEqProofs only [c1, cond_true, q4, Option.bind_some]
    · have c1 : (((endP s n i : Nat) : Int) == (s.length : Int)) = false := by simp; omega
      rw [if_neg h, List.append_nil]
      simp -implicitDefEqProofs only [c1, cond_false, Option.bind_some]
  cases hp : plainN n with
  | true =>
    have t1 := tail (rawX s n i) f (by omega) (by omega)
    simp -implicitDefEqProofs only [Option.bind_some, Bool.not_true, cond_false, cond_true]
    rw [List.append_nil]
    exact t1
  | false =>
    have t1 := tail (dec (rawX s n i) 0).1 (f ++ (dec (rawX s n i) (i : Nat)).2) (by omega) (by simp; omega)
    simp -implicitDefEqProofs only [Option.bind_some, Bool.not_false, cond_true, cond_false, q2]
    exact t1
theorem rcomment_eq (N : Nat) (s : Bs) (k : Int) (b : Nat) (e : Bs) (i : Nat) (out : List Tok) (f : List Fl) (hi : i + b ≤ s.length) (hs : s.length ≤ 15000) (hb : b ≤ 100) (he : 0 < e.length) (he2 : e.length ≤ 1000) (ho2 : out.length ≤ 900000000) (hf : f.length ≤ 400000000) (hN : s.length + 1 < N) :
    pounceref14_Reader_comment_a10 (Ev.upto N) ((k, (((i + b : Nat) : Int), (e, ()))), rcur s i [] out f) = some ((), rcur s (noteS s k b e i out f).1 [] (noteS s k b e i out f).2.1 (noteS s k b e i out f).2.2) := by
  have q1 := rfind_eq N e s (i + b) i [] out f hi (by omega) he he2 (by omega)
  have gg : ∀ t : Tok, fits (out.length + ([t] : List Tok).length) 72 = true := fun t => fitsL (by simp; omega)
  have tail : ∀ (x : Bs) (j : Nat) (f' : List Fl), x.length ≤ s.length →
      ((bif (k == (5 : Int)) then ((pounceref02_Trim_ (Ev.upto N) ((x, ()), ())).bind fun v6 => (some ((k, (((j : Nat) : Int), (v6.1.1, ()))), rcur s i [] out f'))) else (some ((k, (((j : Nat) : Int), (x, ()))), rcur s i [] out f')) : Option ((Int × Int × Bs × Unit) × ((Bs × Int × Bs × Unit) × (List Tok) × (List Fl) × Unit))).bind fun o7 => (bif fits ((o7.2.2.1).length + (([(o7.1.1, (([] : Bs), (o7.1.2.2.1, (([] : List Att), false))))] : List Tok)).length) 72 then (some ((), ((o7.2.1.1, (o7.1.2.1, (o7.2.1.2.2.1, ()))), ((o7.2.2.1 ++ ([(o7.1.1, (([] : Bs), (o7.1.2.2.1, (([] : List Att), false))))] : List Tok)), (o7.2.2.2.1, ()))))) else none : Option (Unit × ((Bs × Int × Bs × Unit) × (List Tok) × (List Fl) × Unit))))
        = some ((), rcur s j [] (out ++ [(k, ([], ((bif k == 5 then trimB x else x), ([], false))))]) f') := by
    intro x j f' hx
    have qt := rtrim_eq N x (by omega) (by omega)
    cases (k == 5) with
    | true =>
      simp -implicitDefEqProofs only [cond_true, qt, Option.bind_some]
      rw [gg, cond_true]
    | false =>
      simp -implicitDefEqProofs only [cond_false, Option.bind_some]
      rw [gg, cond_true]
  unfold pounceref14_Reader_comment_a10 noteS
  simp -implicitDefEqProofs only [Option.bind_some, q1]
  cases hf1 : findB (s.drop (i + b)) e with
  | some m =>
    have hm := (findB_some _ _ _ hf1).1
    rw [List.length_drop] at hm
    have c1 : decide (((i + b + m : Nat) : Int) < 0) = false := decide_eq_false (by omega)
    have w : IntKind.wrap .i64 (((i + b + m : Nat) : Int) + (e.length : Int)) = ((i + b + m + e.length : Nat) : Int) := by rw [wrap64 (by omega) (by omega)]; omega
    have s1 : sl s ((i + b : Nat) : Int) ((i + b + m : Nat) : Int) = some ((s.drop (i + b)).take m) := by
      have := sl_nat (l := s) (a := i + b) (b := i + b + m) (by omega) (by omega)
      rw [this, List.drop_take, Nat.add_sub_cancel_left]
    have t1 := tail ((s.drop (i + b)).take m) (i + b + m + e.length) f (by simp; omega)
    simp -implicitDefEqProofs only [c1, cond_false, w, Option.bind_some, s1]
    exact t1
  | none =>
    have c1 : decide ((-1 : Int) < 0) = true := rfl
    have q3 := rfail_eq (Ev.upto N) 140 (i : Int) s i [] out f (by omega)
    have s1 : sl s ((i + b : Nat) : Int) ((s.length : Nat) : Int) = some (s.drop (i + b)) := sl_end hi
    have t1 := tail (s.drop (i + b)) s.length (f ++ [(140, (i : Int))]) (by simp)
    simp -implicitDefEqProofs only [c1, cond_true, q3, Option.bind_some, s1]
    exact t1
end Go.En.Pl
