/- Text PSa of this seat: written by a program of ours, or by hand; checked by Lean. -/
import Derived.Test.YtgenjkaccmjfkaaGreatDoorPS9
set_option linter.unusedSimpArgs false
set_option linter.unusedVariables false
namespace Go.En.Pl
/-! ### A source's word -/
def hdP (sc : Bs) : Bs := bif sc == ([] : Bs) then [] else sc ++ [58, 47, 47]
def wiP (wi : Bool) (ho : Bs) : Bs := bif wi then (bif ho == ([] : Bs) then [42] else [42, 46]) else []
def poP (po : Int) : Bs := bif decide (po < 0) then [58, 42] else bif decide (po > 0) then [58] ++ digs 20 po.toNat else []
def prS (s : Src) : Bs := hdP s.2.2.1 ++ wiP s.2.2.2.2.1 s.2.2.2.1 ++ s.2.2.2.1 ++ poP s.2.2.2.2.2.1 ++ s.2.2.2.2.2.2
theorem digs_len (k u : Nat) : (digs k u).length ≤ k := by
  induction k generalizing u with
  | zero => simp [digs]
  | succ k ih =>
    unfold digs
    have := ih (u / 10)
    cases decide (u < 10)
    · simp only [cond_false, List.length_append, List.length_cons, List.length_nil]; omega
    · simp
theorem hdP_len (sc : Bs) : (hdP sc).length ≤ sc.length + 3 := by unfold hdP; cases (sc == ([] : Bs)) <;> simp
theorem wiP_len (wi : Bool) (ho : Bs) : (wiP wi ho).length ≤ 2 := by unfold wiP; cases wi <;> cases (ho == ([] : Bs)) <;> simp
theorem poP_len (po : Int) : (poP po).length ≤ 22 := by
  unfold poP
  have := digs_len 20 po.toNat
  cases decide (po < 0) <;> cases decide (po > 0) <;> simp <;> omega
theorem printed_eq (s : Src) (h : smallS s) (V : Ev) : source_printed_ V ((s, ()), ()) = some ((prS s, ()), ()) := by
  obtain ⟨k, tx, sc, ho, wi, po, pa⟩ := s
  obtain ⟨h1, h2, h3, h4⟩ := h
  simp only at h1 h2 h3 h4
  apply wp_eq
  unfold source_printed_ prS
  simp only
  have l1 := hdP_len sc
  have l2 := wiP_len wi ho
  have l3 := poP_len po
  -- the scheme
  have a1 : wp ((bif (!(sc == ([] : Bs))) then ((some (((k, (tx, (sc, (ho, (wi, (po, pa)))))), (([] : Bs), (sc, ((!(sc == ([] : Bs))), ())))), (((k, (tx, (sc, (ho, (wi, (po, pa)))))), ()), ((), (([] : List Int), ())))) : Option ((Src × Bs × Bs × Bool × Unit) × (Src × Unit) × Unit × (List Int) × Unit)).bind fun p1 => (bif strFits ((p1.2.1.1.2.2.1).length + (([58, 47, 47] : Bs)).length) then ((strings_Builder_WriteString_d1d V (((p1.2.1.1.2.2.1 ++ ([58, 47, 47] : Bs)), ()), ((), (p1.2.2.2.1, ())))).bind fun v2 => (some ((), ((p1.2.1.1, ()), ((), (v2.2.2.1, ())))))) else none)) else (some ((), (((k, (tx, (sc, (ho, (wi, (po, pa)))))), ()), ((), (([] : List Int), ()))))) : Option (Unit × (Src × Unit) × Unit × (List Int) × Unit))) (fun o => o = ((), (((k, (tx, (sc, (ho, (wi, (po, pa)))))), ()), ((), (ofBs (hdP sc), ()))))) := by
    unfold hdP
    cases (sc == ([] : Bs)) with
    | true => exact ⟨_, rfl, rfl⟩
    | false =>
      have g := strFits_of (show sc.length + ([58, 47, 47] : Bs).length ≤ 100000000 by simp; omega)
      have q := WSd_eq V (sc ++ [58, 47, 47]) [] (by simp; omega)
      rw [show ofBs [] = ([] : List Int) from rfl, List.nil_append] at q
      simp -implicitDefEqProofs only [Bool.not_false, cond_true, Option.bind_some, g, q]
      exact ⟨_, rfl, rfl⟩
  obtain ⟨_, e1, rfl⟩ := a1
  rw [e1]
  -- the star
  have a2 : wp (((bif (wi == true) then (some (((!(ho == ([] : Bs))), ()), (((k, (tx, (sc, (ho, (wi, (po, pa)))))), ()), ((), (ofBs (hdP sc), ()))))) else (some ((false, ()), (((k, (tx, (sc, (ho, (wi, (po, pa)))))), ()), ((), (ofBs (hdP sc), ()))))) : Option ((Bool × Unit) × (Src × Unit) × Unit × (List Int) × Unit)).bind fun o4 => ((bif o4.1.1 then ((strings_Builder_WriteString_cc3 V ((([42, 46] : Bs), ()), ((), (o4.2.2.2.1, ())))).bind fun v5 => (some ((), ((o4.2.1.1, ()), ((), (v5.2.2.1, ())))))) else ((bif o4.2.1.1.2.2.2.2.1 then ((strings_Builder_WriteString_cc3 V ((([42] : Bs), ()), ((), (o4.2.2.2.1, ())))).bind fun v6 => (some ((), ((o4.2.1.1, ()), ((), (v6.2.2.1, ())))))) else (some ((), ((o4.2.1.1, ()), ((), (o4.2.2.2.1, ())))))).bind fun o7 => (some ((), ((o7.2.1.1, ()), ((), (o7.2.2.2.1, ()))))))) : Option (Unit × (Src × Unit) × Unit × (List Int) × Unit)))) (fun o => o = ((), (((k, (tx, (sc, (ho, (wi, (po, pa)))))), ()), ((), (ofBs (hdP sc ++ wiP wi ho), ()))))) := by
    have q1 := WS_eq V [42, 46] (hdP sc) (by simp; omega)
    have q2 := WS_eq V [42] (hdP sc) (by simp; omega)
    unfold wiP
    cases wi with
    | false => exact ⟨_, rfl, by simp⟩
    | true =>
      cases (ho == ([] : Bs)) with
      | true =>
        simp -implicitDefEqProofs only [beq_self_eq_true, Bool.not_true, cond_true, cond_false, Option.bind_some, q2]
        exact ⟨_, rfl, rfl⟩
      | false =>
        simp -implicitDefEqProofs only [beq_self_eq_true, Bool.not_false, cond_true, cond_false, Option.bind_some, q1]
        exact ⟨_, rfl, rfl⟩
  obtain ⟨_, e2, e2'⟩ := a2
  rw [Option.bind_some]
  have bb : ∀ {α β γ : Type} (x : Option α) (f : α → Option β) (g : β → Option γ), (x.bind fun y => (f y).bind g) = (x.bind f).bind g := fun x f g => by cases x <;> rfl
  rw [bb, e2, e2', Option.bind_some]
  have q3 := WS_eq V ho (hdP sc ++ wiP wi ho) (by simp; omega)
  simp -implicitDefEqProofs only [q3, Option.bind_some]
  -- the port
  have a3 : wp ((bif decide (po < (0 : Int)) then ((strings_Builder_WriteString_cc3 V ((([58, 42] : Bs), ()), ((), (ofBs (hdP sc ++ wiP wi ho ++ ho), ())))).bind fun v10 => (some ((), (((k, (tx, (sc, (ho, (wi, (po, pa)))))), ()), ((), (v10.2.2.1, ())))))) else ((bif decide (po > (0 : Int)) then ((strconv_Itoa_ V ((po, ()), ())).bind fun v11 => (bif strFits ((([58] : Bs)).length + (v11.1.1).length) then ((strings_Builder_WriteString_cc3 V (((([58] : Bs) ++ v11.1.1), ()), ((), (ofBs (hdP sc ++ wiP wi ho ++ ho), ())))).bind fun v12 => (some ((), (((k, (tx, (sc, (ho, (wi, (po, pa)))))), ()), ((), (v12.2.2.1, ())))))) else none)) else (some ((), (((k, (tx, (sc, (ho, (wi, (po, pa)))))), ()), ((), (ofBs (hdP sc ++ wiP wi ho ++ ho), ())))))).bind fun o13 => (some ((), ((o13.2.1.1, ()), ((), (o13.2.2.2.1, ())))))) : Option (Unit × (Src × Unit) × Unit × (List Int) × Unit))) (fun o => o = ((), (((k, (tx, (sc, (ho, (wi, (po, pa)))))), ()), ((), (ofBs (hdP sc ++ wiP wi ho ++ ho ++ poP po), ()))))) := by
    unfold poP
    by_cases hp : po < 0
    · have q := WS_eq V [58, 42] (hdP sc ++ wiP wi ho ++ ho) (by simp; omega)
      rw [decide_eq_true hp]
      simp -implicitDefEqProofs only [cond_true, q, Option.bind_some]
      exact ⟨_, rfl, rfl⟩
    · rw [decide_eq_false hp]
      by_cases hp0 : po > 0
      · have hd := digs_len 20 po.toNat
        have q := WS_eq V ([58] ++ digs 20 po.toNat) (hdP sc ++ wiP wi ho ++ ho) (by simp; omega)
        have qi := itoa_eq V po (by omega)
        have g := strFits_of (show ([58] : Bs).length + (digs 20 po.toNat).length ≤ 100000000 by simp; omega)
        rw [decide_eq_true hp0]
        simp -implicitDefEqProofs only [cond_true, cond_false, qi, g, q, Option.bind_some]
        exact ⟨_, rfl, rfl⟩
      · rw [decide_eq_false hp0]
        exact ⟨_, rfl, by simp⟩
  obtain ⟨_, e3, rfl⟩ := a3
  rw [e3]
  have q4 := BS_eq V (hdP sc ++ wiP wi ho ++ ho ++ poP po)
  have g := strFits_of (show (hdP sc ++ wiP wi ho ++ ho ++ poP po).length + pa.length ≤ 100000000 by simp; omega)
  simp -implicitDefEqProofs only [q4, Option.bind_some, g, cond_true]
  exact ⟨_, rfl, rfl⟩
end Go.En.Pl
