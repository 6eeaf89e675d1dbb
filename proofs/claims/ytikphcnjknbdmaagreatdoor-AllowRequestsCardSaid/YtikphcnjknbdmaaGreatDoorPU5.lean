/- Text PU5 of this seat: written by a program of ours, or by hand; checked by Lean. -/
import Derived.Test.YtikphcnjknbdmaaGreatDoorPU4
set_option linter.unusedSimpArgs false
set_option linter.unusedVariables false
namespace Go.En.Pl
theorem byte46 (c : UInt8) : ((c.toNat : Int) == 46) = (c == 46) := by
  rw [Bool.eq_iff_iff]
  simp only [beq_iff_eq]
  constructor
  · intro h; exact UInt8.toNat_inj.1 (by show c.toNat = 46; omega)
  · rintro rfl; rfl
/-- What the reference asks of a byte and the one ahead of it. -/
def hbad (prev n : Int) : Bool := (!ltrI n && (!digI n && (n != 45 && n != 46))) || (n == 46 && prev == 46)
theorem hbad_eq (prev n : Int) : hbad prev n = !(hstI n && !(prev == 46 && n == 46)) := by
  unfold hbad hstI bne
  cases ltrI n <;> cases digI n <;> cases (n == 45) <;> cases (n == 46) <;> cases (prev == 46) <;> rfl
def dotsOK (s : Bs) : Bool := (s.all fun c => hstI (c.toNat : Int)) && noDD (46 :: s)
theorem noDD_take (s : Bs) (i : Nat) (h : i < s.length) : noDD (46 :: s.take (i + 1)) = (noDD (46 :: s.take i) && !((if h0 : i = 0 then (46 : UInt8) else s[i - 1]) == 46 && s[i] == 46)) := by
  rw [List.take_succ_eq_append_getElem h]
  by_cases h0 : i = 0
  · subst h0
    show noDD (([] : Bs) ++ ([46] : Bs) ++ [s[0]]) = _
    rw [noDD_snoc]
    rfl
  · rw [dif_neg h0]
    have : s.take i = s.take (i - 1) ++ [s[i - 1]] := by
      have := List.take_succ_eq_append_getElem (show i - 1 < s.length by omega)
      rwa [show i - 1 + 1 = i by omega] at this
    rw [this, show (46 : UInt8) :: (s.take (i - 1) ++ [s[i - 1]] ++ [s[i]]) = (46 :: s.take (i - 1)) ++ [s[i - 1]] ++ [s[i]] from rfl, noDD_snoc]
    rfl
theorem noDD_mono (l : Bs) (a b : UInt8) (h : noDD (l ++ [a]) = false) : noDD (l ++ [a] ++ [b]) = false := by rw [noDD_snoc, h]; rfl
theorem noDD_prefix : ∀ (r l : Bs), noDD l = false → noDD (l ++ r) = false
  | [], l, h => by rwa [List.append_nil]
  | b :: r, l, h => by
    rcases List.eq_nil_or_concat l with rfl | ⟨m, a, rfl⟩
    · cases h
    · rw [List.concat_eq_append] at h ⊢
      rw [show m ++ [a] ++ b :: r = (m ++ [a] ++ [b]) ++ r by simp]
      exact noDD_prefix r _ (noDD_mono m a b h)
theorem dotsOK_take (s : Bs) (i : Nat) (h : dotsOK (s.take i) = false) : dotsOK s = false := by
  unfold dotsOK at h ⊢
  cases h1 : (s.take i).all fun c => hstI (c.toNat : Int) with
  | false =>
    have : s.all (fun c => hstI (c.toNat : Int)) = false := by
      rw [← List.take_append_drop i s, List.all_append, h1, Bool.false_and]
    rw [this, Bool.false_and]
  | true =>
    rw [h1, Bool.true_and] at h
    have := noDD_prefix (s.drop i) _ h
    rw [List.cons_append, List.take_append_drop] at this
    rw [this, Bool.and_false]
theorem hostB_alt (c : UInt8) (s : Bs) : ((c :: s).all (fun c => hstI (c.toNat : Int)) && noDD (46 :: (c :: s) ++ [46])) = (!((c.toNat : Int) == 46) && (!(((c :: s)[(c :: s).length - 1]'(by simp)).toNat == (46 : Int)) && dotsOK (c :: s))) := by
  have hl : (46 :: (c :: s) ++ [46] : Bs) = (46 :: (c :: s).dropLast) ++ [(c :: s)[(c :: s).length - 1]'(by simp)] ++ [46] := by
    have h1 : (c :: s) = (c :: s).dropLast ++ [(c :: s)[(c :: s).length - 1]'(by simp)] := by
      have := List.dropLast_concat_getLast (l := c :: s) (by simp)
      rw [List.getLast_eq_getElem] at this
      exact this.symm
    conv => lhs; rw [h1]
    rfl
  have h2 : (46 :: (c :: s).dropLast ++ [(c :: s)[(c :: s).length - 1]'(by simp)] : Bs) = 46 :: (c :: s) := by
    have := List.dropLast_concat_getLast (l := c :: s) (by simp)
    rw [List.getLast_eq_getElem] at this
    rw [List.cons_append, this]
  rw [hl, noDD_snoc, h2]
  have hb : (((c :: s)[(c :: s).length - 1]'(by simp)).toNat == (46 : Int)) = ((c :: s)[(c :: s).length - 1]'(by simp) == 46) := byte46 _
  have hc : ((c.toNat : Int) == 46) = (c == 46) := byte46 c
  rw [hb, hc]
  unfold dotsOK
  have hn : noDD (46 :: c :: s) = (!((46 : UInt8) == 46 && c == 46) && noDD (c :: s)) := rfl
  rw [hn]
  simp only [beq_self_eq_true, Bool.true_and, Bool.and_true]
  cases (c :: s).all (fun c => hstI (c.toNat : Int)) <;> cases (c == 46) <;> cases noDD (c :: s) <;> cases ((c :: s)[(c :: s).length - 1]'(by simp) == 46) <;> rfl
theorem rhost_eq (N : Nat) (s : Bs) (hN : 101 < N) : pounceref05_Host_ (Ev.upto N) ((s, ()), ()) = some ((hostB s, ()), ()) := by
  unfold pounceref05_Host_ hostB
  cases s with
  | nil => rfl
  | cons c s =>
    rw [show ((46 : UInt8) :: (c :: s) ++ [46]) = (46 :: (c :: s) ++ [46]) from rfl, hostB_alt]
    have hl0 : decide (((c :: s).length : Int) < 1) = false := decide_eq_false (by simp only [List.length_cons]; omega)
    simp -implicitDefEqProofs only [hl0, beq_self_eq_true, cond_true, nil_beq_cons, Bool.not_false, Bool.true_and]
    by_cases hl : ((c :: s).length : Int) ≤ 100
    · have e1 : decide (((c :: s).length : Int) > 100) = false := decide_eq_false (by omega)
      have e2 : decide (((c :: s).length : Int) ≤ 100) = true := decide_eq_true hl
      have hr1 : (c :: s).length = s.length + 1 := rfl
      have w0 : IntKind.wrap .i64 (((c :: s).length : Int) - 1) = (((c :: s).length - 1 : Nat) : Int) := by rw [wrap64 (by omega) (by omega)]; omega
      have i0 : idx (c :: s) (((c :: s).length - 1 : Nat) : Int) = some ((c :: s)[(c :: s).length - 1]'(by simp)) := idx_nat (by omega)
      simp -implicitDefEqProofs only [e1, e2, beq_self_eq_true, cond_true, idx_zero, Option.bind_some, w0, i0, Bool.true_and]
      cases h1 : ((c.toNat : Int) == 46) with
      | true => rfl
      | false =>
        simp -implicitDefEqProofs only [beq_self_eq_true, cond_true, Option.bind_some, Bool.not_false, Bool.true_and]
        cases h2 : (((c :: s)[(c :: s).length - 1]'(by simp)).toNat == (46 : Int)) with
        | true => rfl
        | false =>
          simp -implicitDefEqProofs only [cond_false, Bool.not_false, Bool.true_and]
          apply wp_eq
          refine wp_bind ?_
          refine wp_for (σ := Unit) (fun i _ => (((c :: s), ((i : Int), ())), ())) (fun i _ => dotsOK ((c :: s).take i) = true) (c :: s).length () rfl rfl (by omega) ?_
          rintro i _ hi hn
          by_cases hi' : i < (c :: s).length
          · have c0 : decide ((i : Int) < ((c :: s).length : Int)) = true := decide_eq_true (by omega)
            have w : IntKind.wrap .i64 ((i : Int) + 1) = ((i + 1 : Nat) : Int) := by rw [wrap64 (by omega) (by omega)]; omega
            have hd : dotsOK ((c :: s).take (i + 1)) = (hstI ((c :: s)[i].toNat : Int) && !((if h0 : i = 0 then (46 : UInt8) else (c :: s)[i - 1]) == 46 && (c :: s)[i] == 46)) := by
              unfold dotsOK at hn ⊢
              rw [all_take hi', noDD_take _ i hi']
              simp only [Bool.and_eq_true] at hn
              rw [hn.1, hn.2, Bool.true_and, Bool.true_and]
            simp -implicitDefEqProofs only [c0, cond_true, idx_nat hi', Option.bind_some, rletter_eq, rdigit_eq]
            by_cases h0 : i = 0
            · subst h0
              rw [dif_pos rfl] at hd
              have hd' : dotsOK ((c :: s).take (0 + 1)) = hstI (c.toNat : Int) := by
                have : ((c :: s)[0] == 46) = false := by rw [← byte46]; exact h1
                rw [hd, this, Bool.and_false]
                simp only [Bool.not_false, Bool.and_true]
                rfl
              have hx : ((c :: s)[0].toNat : Int) = (c.toNat : Int) := rfl
              simp -implicitDefEqProofs only [hx, h1, bne]
              unfold hstI at hd'
              rw [h1] at hd'
              cases g1 : ltrI (c.toNat : Int) <;> cases g2 : digI (c.toNat : Int) <;> cases g3 : ((c.toNat : Int) == 45) <;> simp only [g1, g2, g3, Bool.or_false, Bool.or_true, Bool.true_or] at hd' <;>
                first
                | exact ⟨_, rfl, hi', (), by simp only [w], hd'⟩
                | exact ⟨_, rfl, _, rfl, by rw [dotsOK_take _ _ hd']⟩
            · rw [dif_neg h0] at hd
              have w1 : IntKind.wrap .i64 ((i : Int) - 1) = ((i - 1 : Nat) : Int) := by rw [wrap64 (by omega) (by omega)]; omega
              have i1 : idx (c :: s) ((i - 1 : Nat) : Int) = some ((c :: s)[i - 1]'(by omega)) := idx_nat (by omega)
              rw [← byte46, ← byte46] at hd
              simp -implicitDefEqProofs only [w1, i1, Option.bind_some, bne]
              unfold hstI at hd
              cases g1 : ltrI ((c :: s)[i].toNat : Int) <;> cases g2 : digI ((c :: s)[i].toNat : Int) <;> cases g3 : (((c :: s)[i].toNat : Int) == 45) <;> cases g4 : (((c :: s)[i].toNat : Int) == 46) <;> cases g5 : (((c :: s)[i - 1].toNat : Int) == 46) <;> simp only [g1, g2, g3, g4, g5, Bool.or_false, Bool.or_true, Bool.true_or, Bool.and_false, Bool.and_true, Bool.true_and, Bool.false_and, Bool.not_true, Bool.not_false] at hd <;>
                first
                | exact ⟨_, rfl, hi', (), by simp only [w], hd⟩
                | exact ⟨_, rfl, _, rfl, by rw [dotsOK_take _ _ hd]⟩
          · have c0 : decide ((i : Int) < ((c :: s).length : Int)) = false := decide_eq_false (by omega)
            rw [List.take_of_length_le (by omega)] at hn
            simp -implicitDefEqProofs only [c0, cond_false]
            exact ⟨_, rfl, _, rfl, by rw [hn]⟩
    · have e1 : decide (((c :: s).length : Int) > 100) = true := decide_eq_true (by omega)
      have e2 : decide (((c :: s).length : Int) ≤ 100) = false := decide_eq_false hl
      simp only [e1, e2, Bool.false_and]
      rfl
/-! ### An address' text -/
def portB (n : Int) : Bs := bif n == 0 then [] else 58 :: digs 20 n.toNat
def textB (u : Url) : Bs := bif u.1 then u.2.1 ++ [58] ++ u.2.2.2.2.1 else u.2.1 ++ [58, 47, 47] ++ u.2.2.1 ++ portB u.2.2.2.1 ++ u.2.2.2.2.1 ++ u.2.2.2.2.2
def small (u : Url) : Prop := u.2.1.length ≤ 100000 ∧ u.2.2.1.length ≤ 100000 ∧ u.2.2.2.2.1.length ≤ 100000 ∧ u.2.2.2.2.2.length ≤ 100000
theorem text_eq (V : Ev) (u : Url) (hu : small u) (h0 : 0 ≤ u.2.2.2.1) : url_text_ V ((u, ()), ()) = some ((textB u, ()), ()) := by
  obtain ⟨o, sc, h, p, pa, q⟩ := u
  obtain ⟨h1, h2, h3, h4⟩ := hu
  simp only at h1 h2 h3 h4 h0
  have ld := digs_le 20 p.toNat
  have sf : ∀ n : Nat, n ≤ 100000000 → strFits n = true := fun n h => strFits_of h
  have qi := itoa_eq V p h0
  unfold url_text_ textB portB
  cases o with
  | true =>
    simp -implicitDefEqProofs only [cond_true]
    rw [sf _ (by simp only [List.length_cons, List.length_nil]; omega), cond_true, sf _ (by simp only [List.length_append, List.length_cons, List.length_nil]; omega)]
    rfl
  | false =>
    simp -implicitDefEqProofs only [cond_false]
    rw [sf _ (by simp only [List.length_cons, List.length_nil]; omega), cond_true, sf _ (by simp only [List.length_append, List.length_cons, List.length_nil]; omega), cond_true]
    cases hp : p == 0 with
    | true =>
      simp -implicitDefEqProofs only [bne, hp, Bool.not_true, cond_false, cond_true, Option.bind_some, List.append_nil]
      rw [sf _ (by simp only [List.length_append, List.length_cons, List.length_nil]; omega), cond_true, sf _ (by simp only [List.length_append, List.length_cons, List.length_nil]; omega), cond_true]
    | false =>
      simp -implicitDefEqProofs only [bne, hp, Bool.not_false, cond_true, cond_false, qi, Option.bind_some]
      rw [sf _ (by simp only [List.length_append, List.length_cons, List.length_nil]; omega), cond_true, sf _ (by simp only [List.length_append, List.length_cons, List.length_nil]; omega), cond_true, Option.bind_some]
      rw [sf _ (by simp only [List.length_append, List.length_cons, List.length_nil]; omega), cond_true, sf _ (by simp only [List.length_append, List.length_cons, List.length_nil]; omega), cond_true]
      rfl
theorem rtext_eq (N : Nat) (u : Url) (hu : small u) (h0 : 0 ≤ u.2.2.2.1) (hp : u.2.2.2.1 ≤ 65535) (hN : 20 < N) : pounceref05_Text_ (Ev.upto N) ((u, ()), ()) = some ((textB u, ()), ()) := by
  obtain ⟨o, sc, h, p, pa, q⟩ := u
  obtain ⟨h1, h2, h3, h4⟩ := hu
  simp only at h1 h2 h3 h4 h0 hp
  have ld := digs_le 20 p.toNat
  have sf : ∀ n : Nat, n ≤ 100000000 → strFits n = true := fun n h => strFits_of h
  have qi := rdigits_eq N p h0 hp hN
  unfold pounceref05_Text_ textB portB
  cases o with
  | true =>
    simp -implicitDefEqProofs only [cond_true]
    rw [sf _ (by simp only [List.length_cons, List.length_nil]; omega), cond_true, sf _ (by simp only [List.length_append, List.length_cons, List.length_nil]; omega)]
    rfl
  | false =>
    simp -implicitDefEqProofs only [cond_false]
    rw [sf _ (by simp only [List.length_cons, List.length_nil]; omega), cond_true, sf _ (by simp only [List.length_append, List.length_cons, List.length_nil]; omega), cond_true]
    cases hp0 : p == 0 with
    | true =>
      have hp' : p = 0 := by simpa using hp0
      have g : decide (p > 0) = false := decide_eq_false (by omega)
      simp -implicitDefEqProofs only [g, cond_false, cond_true, Option.bind_some, List.append_nil]
      rw [sf _ (by simp only [List.length_append, List.length_cons, List.length_nil]; omega), cond_true, sf _ (by simp only [List.length_append, List.length_cons, List.length_nil]; omega), cond_true]
    | false =>
      have hp' : ¬ p = 0 := by simpa using hp0
      have g : decide (p > 0) = true := decide_eq_true (by omega)
      simp -implicitDefEqProofs only [g, cond_true, cond_false, qi, Option.bind_some]
      rw [sf _ (by simp only [List.length_append, List.length_cons, List.length_nil]; omega), cond_true, sf _ (by simp only [List.length_append, List.length_cons, List.length_nil]; omega), cond_true, Option.bind_some]
      rw [sf _ (by simp only [List.length_append, List.length_cons, List.length_nil]; omega), cond_true, sf _ (by simp only [List.length_append, List.length_cons, List.length_nil]; omega), cond_true]
      simp
/-! ### Right or not -/
def queryB (q : Bs) : Bool := match q with
  | [] => true
  | c :: r => (c.toNat : Int) == 63 && r.all fun c => visI (c.toNat : Int) || (c.toNat : Int) == 63
def rankB (u : Url) : Bool := hostB u.2.2.1 && (decide (0 ≤ u.2.2.2.1) && (decide (u.2.2.2.1 ≤ 65535) && (!(u.2.2.2.1 == defB u.2.1) && ((cleanB u.2.2.2.2.1 && u.2.2.2.2.1.all fun c => visI (c.toNat : Int)) && queryB u.2.2.2.2.2))))
def opqB (u : Url) : Bool := u.2.2.1 == ([] : Bs) && (u.2.2.2.2.2 == ([] : Bs) && (u.2.2.2.1 == 0 && ((trimB u.2.2.2.2.1 == u.2.2.2.2.1) && u.2.2.2.2.1.all fun c => opqI (c.toNat : Int))))
def urlB (u : Url) : Bool := schemeB u.2.1 && ((u.1 == (defB u.2.1 == 0)) && ((bif u.1 then opqB u else rankB u) && decide (((textB u).length : Int) ≤ 500)))
theorem query_loop (N : Nat) (q : Bs) (hs : q.length < N) (hb : q.length ≤ 1000000) : (bif (!(q == ([] : Bs))) == true then (idx q (0 : Int)).bind fun v11 => bif (((v11).toNat : Int) != (63 : Int)) == false then (sl q (1 : Int) (q.length : Int)).bind fun v12 => (url_all_af7 (Ev.upto N) ((v12, ()), ())).bind fun v13 => some (!v13.1.1) else some true else some false) = some (!queryB q) := by
  cases q with
  | nil => rfl
  | cons c r =>
    have s1 : sl (c :: r) 1 ((c :: r).length : Int) = some r := by rw [show (1 : Int) = ((1 : Nat) : Int) from rfl, sl_end (by simp)]; rfl
    have qa := allaf7_eq N r (by simp at hs; omega) (by simp at hb; omega)
    have hq : queryB (c :: r) = ((c.toNat : Int) == 63 && r.all fun c => visI (c.toNat : Int) || (c.toNat : Int) == 63) := rfl
    rw [hq]
    simp -implicitDefEqProofs only [nil_beq_cons, Bool.not_false, beq_self_eq_true, cond_true, idx_zero, Option.bind_some, bne]
    cases ((c.toNat : Int) == 63) with
    | false => rfl
    | true => simp -implicitDefEqProofs only [Bool.not_true, beq_self_eq_true, cond_true, s1, qa, Option.bind_some, Bool.true_and]
end Go.En.Pl
