/- Text TE4 of this seat: written by a program of ours, or by hand; checked by Lean. -/
import Derived.Test.YtlambcopphejaaaGreatDoorTE3
set_option linter.unusedSimpArgs false
set_option linter.unusedVariables false
namespace Go.En.Pl
theorem rRaw_eq (V : Ev) (n : Bs) : pounceref14_Raw_ V ((n, ()), ()) = some ((rawN n, ()), ()) := by
  unfold pounceref14_Raw_ rawN
  cases (n == ([115, 99, 114, 105, 112, 116] : Bs)) <;> cases (n == ([115, 116, 121, 108, 101] : Bs)) <;> cases (n == ([116, 101, 120, 116, 97, 114, 101, 97] : Bs)) <;> rfl
abbrev RSt := Nat × Bs × List Tok × List Fl
def rtagS (s : Bs) (k : Int) (fr i : Nat) (out : List Tok) (f : List Fl) : RSt :=
  match tagL s k s.length (tagI s i) false [] [] with
  | none => (s.length, [], out, f ++ [(140, (fr : Int))])
  | some (j, sh, l, g) => (j + 1, (if (k == 2 && rawN (tagN s i)) = true then tagN s i else []), out ++ [(k, (tagN s i, ([], (l, sh && k == 2))))], f ++ g)
theorem rtag_eq (N : Nat) (s : Bs) (k : Int) (i at_ : Nat) (out : List Tok) (f : List Fl) (hk : k = 2 ∨ k = 3) (ha : at_ ≤ s.length) (hi : i ≤ s.length) (hs : s.length ≤ 15000) (ho2 : out.length ≤ 900000000) (hf : f.length ≤ 400000000) (hN : s.length + 1 < N) (hN2 : 1000 < N) :
    pounceref14_Reader_tag_d75 (Ev.upto N) ((k, ((at_ : Int), ())), rcur s i [] out f) = some ((), rcur s (rtagS s k i at_ out f).1 (rtagS s k i at_ out f).2.1 (rtagS s k i at_ out f).2.2.1 (rtagS s k i at_ out f).2.2.2) := by
  have hsp := spanN_le isTag s at_ ha
  have q1 := rupto_eq N [9, 10, 12, 13, 32, 47, 62] s at_ i [] out f ha (by omega) (by decide) (by omega) hN2
  rw [← isTag_none, show at_ + spanN isTag s at_ = tagI s at_ from rfl] at q1
  have q2 : sl s ((at_ : Nat) : Int) ((tagI s at_ : Nat) : Int) = some ((s.drop at_).take (spanN isTag s at_)) := by
    have := sl_nat (l := s) (a := at_) (b := tagI s at_) (by unfold tagI; omega) hsp
    rw [this, List.drop_take, show tagI s at_ - at_ = spanN isTag s at_ by unfold tagI; omega]
  have q3 := rlower_eq N ((s.drop at_).take (spanN isTag s at_)) (by simp; omega) (by simp; omega)
  rw [show lowerB ((s.drop at_).take (spanN isTag s at_)) = tagN s at_ from rfl] at q3
  rw [show at_ + spanN isTag s at_ = tagI s at_ from rfl] at hsp
  apply wp_eq
  unfold pounceref14_Reader_tag_d75
  simp -implicitDefEqProofs only [Option.bind_some, q1, q2, q3]
  unfold rtagS
  generalize hR : tagL s k s.length (tagI s at_) false [] [] = R
  generalize hname : tagN s at_ = name at *
  refine wp_bind ?_
  refine wp_it (fun a => (∃ (n j : Nat) (sh : Bool) (l : List Att) (g : List Fl), a = ((k, ((j : Int), ((f.length : Int), (sh, ())))), ((s, ((i : Int), (([] : Bs), ()))), ((k, (name, (([] : Bs), (false, ())))), (out, (f ++ g, (l, ())))))) ∧ tagI s at_ ≤ j ∧ j ≤ s.length ∧ s.length - j ≤ n ∧ l.length ≤ 30 ∧ g.length ≤ 20000 * j ∧ tagL s k n j sh l g = R)
      ∨ (∃ (sh : Bool) (l : List Att) (g : List Fl), a = ((k, ((-1 : Int), ((f.length : Int), (sh, ())))), ((s, ((i : Int), (([] : Bs), ()))), ((k, (name, (([] : Bs), (false, ())))), (out, (f ++ g, (l, ())))))) ∧ R = none)) (fun a => if a.1.2.1 < 0 then 0 else s.length - a.1.2.1.toNat + 1) (Or.inl ⟨s.length, tagI s at_, false, [], [], by rw [List.append_nil], Nat.le_refl _, hsp, by omega, by simp, by simp, hR⟩) (by simp only; split <;> omega) ?_
  have cut : ∀ (at' : Int) (sh : Bool) (l : List Att) (g : List Fl), (at' < 0 ∨ (s.length : Int) ≤ at') →
      wp (((bif (decide (at' < (0 : Int)) == false) then (some ((k, (at', ((f.length : Int), (sh, (decide (at' ≥ (s.length : Int)), ()))))), ((s, ((i : Int), (([] : Bs), ()))), ((k, (name, (([] : Bs), (false, ())))), (out, (f ++ g, (l, ()))))))) else (some ((k, (at', ((f.length : Int), (sh, (true, ()))))), ((s, ((i : Int), (([] : Bs), ()))), ((k, (name, (([] : Bs), (false, ())))), (out, (f ++ g, (l, ())))))))) : Option ((Int × Int × Int × Bool × Bool × Unit) × ((Bs × Int × Bs × Unit) × (Int × Bs × Bs × Bool × Unit) × (List Tok) × (List Fl) × (List Att) × Unit)))) (fun o => o = ((k, (at', ((f.length : Int), (sh, (true, ()))))), ((s, ((i : Int), (([] : Bs), ()))), ((k, (name, (([] : Bs), (false, ())))), (out, (f ++ g, (l, ()))))))) := by
    intro at' sh l g h
    by_cases h0 : at' < 0
    · rw [show decide (at' < (0 : Int)) = true from decide_eq_true h0]
      exact ⟨_, rfl, rfl⟩
    · rw [show decide (at' < (0 : Int)) = false from decide_eq_false h0, show decide (at' ≥ (s.length : Int)) = true from decide_eq_true (by omega)]
      exact ⟨_, rfl, rfl⟩
  have q6 := rfail_eq (Ev.upto N) 140 (i : Int) s i [] out f (by omega)
  rintro _ (⟨n, j, sh, l, g, rfl, hij, hj, hn, hl, hg, hT⟩ | ⟨sh, l, g, rfl, rfl⟩)
  · have cp : (decide ((j : Int) ≥ (0 : Int)) == true) = true := by rw [show decide ((j : Int) ≥ (0 : Int)) = true from decide_eq_true (by omega)]; rfl
    by_cases hjl : j < s.length
    · have c0 : (decide ((j : Int) < (s.length : Int)) == true) = true := by rw [show decide ((j : Int) < (s.length : Int)) = true from decide_eq_true (by omega)]; rfl
      have w1 : IntKind.wrap .i64 ((j : Int) + 1) = ((j + 1 : Nat) : Int) := by rw [wrap64 (by omega) (by omega)]; omega
      obtain ⟨n, rfl⟩ : ∃ m, n = m + 1 := ⟨n - 1, by omega⟩
      rw [tagL, List.getElem?_eq_getElem hjl] at hT
      simp only at hT
      have e62' : (((s[j].toNat : Nat) : Int) == 62) = (s[j] == 62) := byteEq s[j] 62 (by decide)
      have e62 : (((s[j].toNat : Nat) : Int) != 62) = !(s[j] == 62) := by rw [bne, e62']
      have e47 : (((s[j].toNat : Nat) : Int) == 47) = (s[j] == 47) := byteEq s[j] 47 (by decide)
      have qb := rblank_at (Ev.upto N) s[j]
      simp -implicitDefEqProofs only [cp, c0, cond_true, idx_nat hjl, Option.bind_some, e62]
      cases h62 : (s[j] == 62) with
      | true =>
        rw [h62, if_pos rfl] at hT
        subst hT
        simp -implicitDefEqProofs only [Bool.not_true, cond_false]
        refine ⟨_, rfl, ?_⟩
        have c1 : decide ((j : Int) < (0 : Int)) = false := decide_eq_false (by omega)
        have c2 : decide ((j : Int) ≥ (s.length : Int)) = false := decide_eq_false (by omega)
        have qr := rRaw_eq (Ev.upto N) name
        have gg : ∀ t : Tok, fits (out.length + ([t] : List Tok).length) 72 = true := fun t => fitsL (by simp; omega)
        simp -implicitDefEqProofs only [c1, c2, show (false == false) = true from rfl, cond_true, cond_false, Option.bind_some]
        cases h2 : (k == 2) with
        | false =>
          simp -implicitDefEqProofs only [cond_false, Option.bind_some, Bool.false_and, w1, Bool.and_false]
          rw [gg, cond_true]
          exact ⟨_, rfl, rfl⟩
        | true =>
          simp -implicitDefEqProofs only [cond_true, Option.bind_some, Bool.true_and, qr, Bool.and_true]
          cases hrn : rawN name with
          | true =>
            simp -implicitDefEqProofs only [cond_true, Option.bind_some, w1]
            rw [gg, cond_true]
            exact ⟨_, rfl, rfl⟩
          | false =>
            simp -implicitDefEqProofs only [cond_false, Option.bind_some, w1]
            rw [gg, cond_true]
            exact ⟨_, rfl, rfl⟩
      | false =>
        rw [h62, if_neg (by decide)] at hT
        simp -implicitDefEqProofs only [Bool.not_false, cond_true, e47]
        have hcl : wp ((bif ((s[j] == 47) == false) then ((pounceref02_Blank_ (Ev.upto N) ((((s[j]).toNat : Int), ()), ())).bind fun v9 => (some ((k, ((j : Int), ((f.length : Int), (s[j] == 47, (v9.1.1, ()))))), ((s, ((i : Int), (([] : Bs), ()))), ((k, (name, (([] : Bs), (false, ())))), (out, (f ++ g, (l, ())))))))) else (some ((k, ((j : Int), ((f.length : Int), (s[j] == 47, (true, ()))))), ((s, ((i : Int), (([] : Bs), ()))), ((k, (name, (([] : Bs), (false, ())))), (out, (f ++ g, (l, ())))))))) : Option ((Int × Int × Int × Bool × Bool × Unit) × ((Bs × Int × Bs × Unit) × (Int × Bs × Bs × Bool × Unit) × (List Tok) × (List Fl) × (List Att) × Unit))) (fun o => o = ((k, ((j : Int), ((f.length : Int), (s[j] == 47, (s[j] == 47 || blankB s[j], ()))))), ((s, ((i : Int), (([] : Bs), ()))), ((k, (name, (([] : Bs), (false, ())))), (out, (f ++ g, (l, ()))))))) := by
          cases (s[j] == 47) with
          | true => exact ⟨_, rfl, rfl⟩
          | false =>
            simp -implicitDefEqProofs only [beq_self_eq_true, cond_true, qb, Option.bind_some, Bool.false_or]
            exact ⟨_, rfl, rfl⟩
        obtain ⟨_, e, rfl⟩ := hcl
        rw [e]
        cases hsb : (s[j] == 47 || blankB s[j]) with
        | true =>
          rw [hsb, if_pos rfl] at hT
          simp -implicitDefEqProofs only [cond_true, Option.bind_some, w1]
          refine ⟨_, rfl, Or.inl ⟨n, j + 1, s[j] == 47, l, g, rfl, by omega, by omega, by omega, hl, by omega, hT⟩, ?_⟩
          simp only
          split <;> split <;> omega
        | false =>
          rw [hsb, if_neg (by decide)] at hT
          have h47 : (s[j] == 47) = false := (Bool.or_eq_false_iff.1 hsb).1
          obtain ⟨x, q5, hx⟩ := rattr_wp N s j i [] k name [] false out (f ++ g) l hjl hs (by simp; omega) hl (by omega) hN2
          have al := attS_le k l hjl
          have fl := attS_fl s j k l
          simp -implicitDefEqProofs only [cond_false, Option.bind_some, q5]
          cases hok : (attS s j k l).1 with
          | true =>
            rw [hok, if_pos rfl] at hT hx
            subst hx
            simp -implicitDefEqProofs only [Option.bind_some]
            refine ⟨_, rfl, Or.inl ⟨n, (attS s j k l).2.1, s[j] == 47, (attS s j k l).2.2.1, g ++ (attS s j k l).2.2.2, by rw [List.append_assoc], by omega, al.2, by omega, attS_al s j k l hl, by simp; omega, by rw [h47]; exact hT⟩, ?_⟩
            simp only
            split <;> split <;> omega
          | false =>
            rw [hok, if_neg (by decide)] at hT hx
            obtain ⟨g', l', rfl⟩ := hx
            simp -implicitDefEqProofs only [Option.bind_some]
            refine ⟨_, rfl, Or.inr ⟨s[j] == 47, l', g ++ g', by rw [List.append_assoc], hT.symm⟩, ?_⟩
            show (if (-1 : Int) < 0 then 0 else s.length - (-1 : Int).toNat + 1) < (if (j : Int) < 0 then 0 else s.length - (j : Int).toNat + 1)
            rw [if_pos (by decide), if_neg (by omega)]
            omega
    · have c0 : (decide ((j : Int) < (s.length : Int)) == true) = false := by rw [show decide ((j : Int) < (s.length : Int)) = false from decide_eq_false (by omega)]; rfl
      rw [tagL_end s k n j _ _ _ (by omega)] at hT
      subst hT
      have s1 := sl_pre0 f g
      simp -implicitDefEqProofs only [cp, c0, cond_true, cond_false, Option.bind_some]
      refine ⟨_, rfl, ?_⟩
      obtain ⟨_, e, rfl⟩ := cut (j : Int) sh l g (Or.inr (by omega))
      simp only
      rw [e]
      simp -implicitDefEqProofs only [Option.bind_some, cond_true, s1, q6]
      exact ⟨_, rfl, rfl⟩
  · have cp : (decide ((-1 : Int) ≥ (0 : Int)) == true) = false := rfl
    have s1 := sl_pre0 f g
    simp -implicitDefEqProofs only [cp, cond_false, Option.bind_some]
    refine ⟨_, rfl, ?_⟩
    obtain ⟨_, e, rfl⟩ := cut (-1 : Int) sh l g (Or.inl (by decide))
    simp only
    rw [e]
    simp -implicitDefEqProofs only [Option.bind_some, cond_true, s1, q6]
    exact ⟨_, rfl, rfl⟩
theorem begins_eq (N : Nat) (x low : Bs) (hl : lowerB low = low) (hx : x.length ≤ 100000) (hll : low.length ≤ 100000) (hN : x.length < N) : pounceref14_begins_ (Ev.upto N) ((x, (low, ())), ()) = some ((decide (low.length ≤ x.length) && lowerB (x.take low.length) == lowerB low, ()), ()) := by
  unfold pounceref14_begins_
  by_cases h : low.length ≤ x.length
  · have c : decide ((x.length : Int) ≥ (low.length : Int)) = true := decide_eq_true (by omega)
    have s1 : sl x (0 : Int) (low.length : Int) = some (x.take low.length) := by have := sl_nat (l := x) (a := 0) (b := low.length) (by omega) (by omega); simpa using this
    have q2 := rlower_eq N (x.take low.length) (by simp; omega) (by simp; omega)
    simp -implicitDefEqProofs only [c, beq_self_eq_true, cond_true, s1, Option.bind_some, q2, show decide (low.length ≤ x.length) = true from decide_eq_true h, Bool.true_and, hl]
  · have c : decide ((x.length : Int) ≥ (low.length : Int)) = false := decide_eq_false (by omega)
    simp -implicitDefEqProofs only [c, show (false == true) = false from rfl, cond_false, Option.bind_some, show decide (low.length ≤ x.length) = false from decide_eq_false h, Bool.false_and]
theorem begins_at (N : Nat) (s low : Bs) (i : Nat) (hl : lowerB low = low) (hs : s.length ≤ 100000) (hll : low.length ≤ 100000) (hN : s.length < N) : pounceref14_begins_ (Ev.upto N) ((s.drop i, (low, ())), ()) = some ((isB s i low, ()), ()) := by
  have := begins_eq N (s.drop i) low hl (by simp; omega) hll (by simp; omega)
  rw [List.length_drop] at this
  exact this
end Go.En.Pl
