/- Text PL3 of this seat: written by a program of ours, or by hand; checked by Lean. -/
import Derived.Test.YtgenjkaccmjfkaaGreatDoorPL2
set_option linter.unusedSimpArgs false
set_option linter.unusedVariables false
namespace Go.En.Pl
/-! ### A host's word -/
def notSl (c : UInt8) : Bool := !(c == 47)
def schR (w : Bs) : Option (Bs × Bs) := match findB w [58, 47, 47] with
  | some k => if k = 0 then none else some (lowerB (w.take k), w.drop (k + 3))
  | none => some ([], w)
def numR (f : Bs) : Bs × Option Int := match findB f [58] with
  | some k => (f.take k, portS (f.drop (k + 1)))
  | none => (f, some 0)
def starR (n : Bs) : Option (Bool × Bs) :=
  if n = [42] then some (true, []) else if (lowerB n).take 2 = [42, 46] then (if (lowerB n).drop 2 = [] then none else some (true, (lowerB n).drop 2)) else some (false, lowerB n)
def hostR (sc r : Bs) : Option Src := match (numR (r.takeWhile notSl)).2 with
  | none => none
  | some p => match starR (numR (r.takeWhile notSl)).1 with
    | none => none
    | some x => some (12, (([] : Bs), (sc, (x.2, (x.1, (p, r.dropWhile notSl))))))
def hostP (w : Bs) : Option Src := match schR w with
  | none => none
  | some x => hostR x.1 x.2
def zS : Src := ((0 : Int), (([] : Bs), (([] : Bs), (([] : Bs), (false, ((0 : Int), ([] : Bs)))))))
theorem split47 (r : Bs) : (Lib.indexByte r 47 < 0 ∧ r.takeWhile notSl = r ∧ r.dropWhile notSl = []) ∨ ∃ x y, r = x ++ 47 :: y ∧ Lib.indexByte r 47 = (x.length : Int) ∧ r.takeWhile notSl = x ∧ r.dropWhile notSl = 47 :: y := by
  by_cases h : (47 : UInt8) ∈ r
  · obtain ⟨x, y, e, hx, hi⟩ := indexByte_split r 47 h
    right
    have ha : ∀ c ∈ x, notSl c = true := fun c hc => by
      unfold notSl
      have : ¬ c = 47 := fun e => hx (e ▸ hc)
      simpa using this
    refine ⟨x, y, e, hi, ?_, ?_⟩
    · rw [e, List.takeWhile_append_of_pos ha, List.takeWhile_cons, if_neg (by decide), List.append_nil]
    · rw [e, List.dropWhile_append_of_pos ha, List.dropWhile_cons, if_neg (by decide)]
  · left
    have ha : ∀ c ∈ r, notSl c = true := fun c hc => by
      unfold notSl
      have : ¬ c = 47 := fun e => h (e ▸ hc)
      simpa using this
    have := (indexByte_neg r 47).2 h
    refine ⟨this, ?_, dw_nil.2 ha⟩
    have e := List.takeWhile_append_of_pos (l₂ := []) ha
    simpa using e
theorem host_tail (N : Nat) (sc r : Bs) (R : Src × Bs) (hR : R = (((12 : Int), (([] : Bs), (sc, (([] : Bs), (false, ((0 : Int), ([] : Bs))))))), r)) (hr : r.length ≤ 1000) (hN : 2000 < N) :
    wp ((strings_IndexByte_ (Ev.upto N) ((R.2, ((47 : Int), ())), ())).bind fun v6 => ((bif decide (v6.1.1 ≥ (0 : Int)) then ((sl R.2 (0 : Int) v6.1.1).bind fun v7 => ((sl R.2 v6.1.1 ((R.2).length : Int)).bind fun v8 => (some ((), ((((R.1.1, (R.1.2.1, (R.1.2.2.1, (R.1.2.2.2.1, (R.1.2.2.2.2.1, (R.1.2.2.2.2.2.1, v8)))))), v7), ()), ()))))) else (some ((), ((R, ()), ()))) : Option (Unit × ((Cut × Unit) × Unit))).bind fun o9 => ((strings_Cut_ (Ev.upto N) ((o9.2.1.1.2, (([58] : Bs), ())), ())).bind fun v10 => ((bif (v10.1.2.2.1 == true) then ((source_cutter_port_456 (Ev.upto N) ((v10.1.2.1, ()), ((o9.2.1.1, ()), ()))).bind fun v11 => (some ((v10.1.1, ((!v11.1.1), ())), ((v11.2.1.1, ()), ())))) else (some ((v10.1.1, (false, ())), ((o9.2.1.1, ()), ()))) : Option ((Bs × Bool × Unit) × ((Cut × Unit) × Unit))).bind fun o12 => (bif o12.1.2.1 then (some ((false, ()), ((o12.2.1.1, ()), ()))) else ((fold_Lower_ (Ev.upto N) ((o12.1.1, ()), ())).bind fun v13 => ((bif (o12.1.1 == ([42] : Bs)) then (some ((), ((((o12.2.1.1.1.1, (o12.2.1.1.1.2.1, (o12.2.1.1.1.2.2.1, (([] : Bs), (true, o12.2.1.1.1.2.2.2.2.2))))), o12.2.1.1.2), ()), ()))) else (some ((), ((((o12.2.1.1.1.1, (o12.2.1.1.1.2.1, (o12.2.1.1.1.2.2.1, (v13.1.1, o12.2.1.1.1.2.2.2.2)))), o12.2.1.1.2), ()), ()))) : Option (Unit × ((Cut × Unit) × Unit))).bind fun o14 => ((strings_CutPrefix_ (Ev.upto N) ((o14.2.1.1.1.2.2.2.1, (([42, 46] : Bs), ())), ())).bind fun v15 => (bif v15.1.2.1 then (some (((!(v15.1.1 == ([] : Bs))), ()), ((((o14.2.1.1.1.1, (o14.2.1.1.1.2.1, (o14.2.1.1.1.2.2.1, (v15.1.1, (true, o14.2.1.1.1.2.2.2.2.2))))), o14.2.1.1.2), ()), ()))) else (some ((true, ()), ((o14.2.1.1, ()), ()))) : Option ((Bool × Unit) × ((Cut × Unit) × Unit)))))))))))
      (fun o => ∃ b c', o = ((b, ()), (((c' : Cut), ()), ())) ∧ match hostR sc r with | some s => b = true ∧ c'.1 = s | none => b = false) := by
  subst hR
  have qi := IB_eq (Ev.upto N) r 47
  rw [show (((47 : UInt8).toNat : Nat) : Int) = 47 from rfl] at qi
  simp -implicitDefEqProofs only [qi, Option.bind_some]
  generalize hf : r.takeWhile notSl = f at *
  generalize hp : r.dropWhile notSl = pa at *
  have first : wp (bif decide (Lib.indexByte r 47 ≥ (0 : Int)) then ((sl r (0 : Int) (Lib.indexByte r 47)).bind fun v7 => ((sl r (Lib.indexByte r 47) ((r).length : Int)).bind fun v8 => (some ((), (((((12 : Int), (([] : Bs), (sc, (([] : Bs), (false, ((0 : Int), v8)))))), v7), ()), ()))))) else (some ((), (((((12 : Int), (([] : Bs), (sc, (([] : Bs), (false, ((0 : Int), ([] : Bs))))))), r), ()), ()))) : Option (Unit × ((Cut × Unit) × Unit))) (fun o => o = ((), (((((12 : Int), (([] : Bs), (sc, (([] : Bs), (false, ((0 : Int), pa)))))), f), ()), ()))) ∧ f.length ≤ 1000 := by
    rcases split47 r with ⟨h1, h2, h3⟩ | ⟨x, y, e, h1, h2, h3⟩
    · rw [decide_eq_false (by omega)]
      rw [hf] at h2; rw [hp] at h3; subst h2; subst h3
      exact ⟨⟨_, rfl, rfl⟩, hr⟩
    · rw [h1, decide_eq_true (by omega)]
      rw [hf] at h2; rw [hp] at h3
      have s1 : sl r (0 : Int) (x.length : Int) = some x := by
        have := sl_nat (l := r) (a := 0) (b := x.length) (by omega) (by rw [e]; simp)
        rw [List.drop_zero] at this
        rw [show (0 : Int) = ((0 : Nat) : Int) from rfl, this, e, List.take_left]
      have s2 : sl r (x.length : Int) (r.length : Int) = some (47 :: y) := by
        rw [sl_end (by rw [e]; simp)]
        conv => lhs; rw [e]
        rw [List.drop_left]
      refine ⟨?_, by have h9 := congrArg List.length e; rw [List.length_append, List.length_cons] at h9; rw [h2]; omega⟩
      simp -implicitDefEqProofs only [cond_true, s1, s2, Option.bind_some, h2, h3]
      exact ⟨_, rfl, rfl⟩
  obtain ⟨⟨_, e1, rfl⟩, hfl⟩ := first
  rw [e1]
  have qc := Cut_eq (Ev.upto N) f [58] (by omega)
  simp -implicitDefEqProofs only [qc, Option.bind_some]
  unfold hostR
  rw [hf, hp]
  -- behind the port
  have fin : ∀ (name : Bs) (p : Int), name.length ≤ 1000 → wp ((fold_Lower_ (Ev.upto N) ((name, ()), ())).bind fun v13 => ((bif (name == ([42] : Bs)) then (some ((), (((((12 : Int), (([] : Bs), (sc, (([] : Bs), (true, (p, pa)))))), f), ()), ()))) else (some ((), (((((12 : Int), (([] : Bs), (sc, (v13.1.1, (false, (p, pa)))))), f), ()), ()))) : Option (Unit × ((Cut × Unit) × Unit))).bind fun o14 => ((strings_CutPrefix_ (Ev.upto N) ((o14.2.1.1.1.2.2.2.1, (([42, 46] : Bs), ())), ())).bind fun v15 => (bif v15.1.2.1 then (some (((!(v15.1.1 == ([] : Bs))), ()), ((((o14.2.1.1.1.1, (o14.2.1.1.1.2.1, (o14.2.1.1.1.2.2.1, (v15.1.1, (true, o14.2.1.1.1.2.2.2.2.2))))), o14.2.1.1.2), ()), ()))) else (some ((true, ()), ((o14.2.1.1, ()), ()))) : Option ((Bool × Unit) × ((Cut × Unit) × Unit))))))
      (fun o => ∃ b c', o = ((b, ()), (((c' : Cut), ()), ())) ∧ match (match starR name with | none => none | some x => some ((12 : Int), (([] : Bs), (sc, (x.2, (x.1, (p, pa)))))) : Option Src) with | some s => b = true ∧ c'.1 = s | none => b = false) := by
    intro name p hn
    have ql := lower_eq N name (by omega) (by omega)
    simp -implicitDefEqProofs only [ql, Option.bind_some]
    unfold starR
    by_cases h42 : name = [42]
    · subst h42
      have qp := CP_eq (Ev.upto N) ([] : Bs) [42, 46] (by simp) (by simp)
      rw [if_pos rfl]
      simp -implicitDefEqProofs only [beq_self_eq_true, cond_true, Option.bind_some, qp]
      exact ⟨_, rfl, true, _, rfl, rfl, rfl⟩
    · have c42 : (name == ([42] : Bs)) = false := by simpa using h42
      have qp := CP_eq (Ev.upto N) (lowerB name) [42, 46] (by rw [lowerB_length]; omega) (by simp)
      rw [if_neg h42]
      simp -implicitDefEqProofs only [c42, cond_false, Option.bind_some, qp]
      rw [show ([42, 46] : Bs).length = 2 from rfl]
      by_cases h2 : (lowerB name).take 2 = [42, 46]
      · rw [if_pos h2, show ((lowerB name).take 2 == ([42, 46] : Bs)) = true from by simpa using h2]
        by_cases h3 : (lowerB name).drop 2 = []
        · rw [if_pos h3, h3]
          exact ⟨_, rfl, false, _, rfl, rfl⟩
        · rw [if_neg h3]
          refine ⟨_, rfl, _, _, rfl, ?_⟩
          have : ((lowerB name).drop 2 == ([] : Bs)) = false := by simpa using h3
          exact ⟨by simp only [cond_true, this]; rfl, rfl⟩
      · rw [if_neg h2, show ((lowerB name).take 2 == ([42, 46] : Bs)) = false from by simpa using h2]
        exact ⟨_, rfl, true, _, rfl, rfl, rfl⟩
  unfold numR
  cases hc : findB f [58] with
  | none =>
    simp -implicitDefEqProofs only [show (false == true) = false from rfl, cond_false, Option.bind_some]
    exact fin f 0 hfl
  | some k =>
    simp -implicitDefEqProofs only [beq_self_eq_true, cond_true]
    rw [show ([58] : Bs).length = 1 from rfl]
    obtain ⟨o, e, b, c', rfl, hb⟩ := port_eq N (f.drop (k + 1)) (((12 : Int), (([] : Bs), (sc, (([] : Bs), (false, ((0 : Int), pa)))))), f) (by omega)
    rw [e]
    simp -implicitDefEqProofs only [Option.bind_some]
    cases hps : portS (f.drop (k + 1)) with
    | none =>
      rw [hps] at hb
      have hb : b = false := hb
      subst hb
      exact ⟨_, rfl, false, _, rfl, rfl⟩
    | some p =>
      rw [hps] at hb
      obtain ⟨rfl, rfl⟩ := hb
      simp -implicitDefEqProofs only [Bool.not_true, cond_false]
      exact fin (f.take k) p (by simp; omega)
theorem host_word (N : Nat) (w : Bs) (hw : w.length ≤ 1000) (hN : 2000 < N) : wp (source_cutter_host_2b7 (Ev.upto N) ((), (((zS, w), ()), ()))) (fun o => ∃ b c', o = ((b, ()), (((c' : Cut), ()), ())) ∧ match hostP w with | some s => b = true ∧ c'.1 = s | none => b = false) := by
  unfold source_cutter_host_2b7 hostP schR
  have qc := Cut_eq (Ev.upto N) w [58, 47, 47] (by omega)
  simp -implicitDefEqProofs only [qc, Option.bind_some]
  cases hf : findB w [58, 47, 47] with
  | none =>
    simp -implicitDefEqProofs only [cond_false, Option.bind_some]
    exact host_tail N [] w _ rfl hw hN
  | some k =>
    have hk := (findB_some _ _ _ hf).1
    have ql := lower_eq N (w.take k) (by simp; omega) (by simp; omega)
    simp -implicitDefEqProofs only [cond_true, ql, Option.bind_some]
    rw [show ([58, 47, 47] : Bs).length = 3 from rfl]
    by_cases h0 : k = 0
    · subst h0
      rw [if_pos rfl]
      exact ⟨_, rfl, false, _, rfl, rfl⟩
    · have hne : (w.take k == ([] : Bs)) = false := by
        cases w with
        | nil => simp at hk
        | cons c r =>
          cases k with
          | zero => exact absurd rfl h0
          | succ k => rfl
      rw [if_neg h0, hne]
      simp -implicitDefEqProofs only [cond_false, Option.bind_some]
      exact host_tail N (lowerB (w.take k)) (w.drop (k + 3)) _ rfl (by simp; omega) hN
end Go.En.Pl
