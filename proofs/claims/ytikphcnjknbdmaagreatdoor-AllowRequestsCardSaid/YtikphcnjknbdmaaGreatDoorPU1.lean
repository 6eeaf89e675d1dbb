/- Text PU1 of this seat: written by a program of ours, or by hand; checked by Lean. -/
import Derived.Test.YtikphcnjknbdmaaGreatDoorW
import Derived.Test.YtikphcnjknbdmaaGreatDoorG
set_option linter.unusedSimpArgs false
set_option linter.unusedVariables false
namespace Go.En.Pl
/-! Texts and addresses: schemes, hosts, letters. -/
theorem all_take {α : Type} {p : α → Bool} {l : List α} {i : Nat} (h : i < l.length) : (l.take (i + 1)).all p = ((l.take i).all p && p l[i]) := by
  rw [List.take_succ_eq_append_getElem h, List.all_append]
  simp
theorem all_no {α : Type} {p : α → Bool} {l : List α} {i : Nat} (h : i < l.length) (hp : p l[i] = false) : l.all p = false := by
  cases hx : l.all p with
  | false => rfl
  | true => rw [List.all_eq_true] at hx; rw [hx _ (List.getElem_mem h)] at hp; cases hp
theorem all_loop (N : Nat) (s : Bs) (F : Int → Option ((Bool × Unit) × Unit)) (p : Int → Bool) (hF : ∀ n : Int, F n = some ((p n, ()), ())) (hs : s.length < N) (hb : s.length ≤ 1000000) :
    ((Ev.upto N).it (α := ((Bs × Int × Int × Unit) × (Unit))) (β := (((Unit) × (Unit)) ⊕ ((Bool × Unit) × (Unit)))) (fun s1 => (bif decide (s1.1.2.2.1 < s1.1.2.1) then ((idx s1.1.1 s1.1.2.2.1).bind fun v2 => ((F ((v2).toNat : Int)).bind fun v3 => (bif (!v3.1.1) then (some (Sum.inr (Sum.inr ((false, ()), ())))) else (some (Sum.inl ((s1.1.1, (s1.1.2.1, ((IntKind.wrap .i64 (s1.1.2.2.1 + (1 : Int))), ()))), ())))))) else (some (Sum.inr (Sum.inl ((), ())))))) ((s, ((s.length : Int), ((0 : Int), ()))), ())).bind (fun o4 => (match o4 with | Sum.inl o5 => (some ((true, ()), ())) | Sum.inr o6 => (some ((o6.1.1, ()), ())))) = some ((s.all fun c => p (c.toNat : Int), ()), ()) := by
  apply wp_eq
  refine wp_bind ?_
  refine wp_for (σ := Unit) (fun i _ => ((s, ((s.length : Int), ((i : Int), ()))), ())) (fun i _ => (s.take i).all (fun c => p (c.toNat : Int)) = true) s.length () rfl (by simp) hs ?_
  rintro i _ hi hn
  by_cases hi' : i < s.length
  · have c0 : decide ((i : Int) < (s.length : Int)) = true := decide_eq_true (by omega)
    have w : IntKind.wrap .i64 ((i : Int) + 1) = ((i + 1 : Nat) : Int) := by rw [wrap64 (by omega) (by omega)]; omega
    simp -implicitDefEqProofs only [c0, cond_true, idx_nat hi', Option.bind_some, hF, w]
    cases hc : p (s[i].toNat : Int) with
    | false => exact ⟨_, rfl, _, rfl, by rw [all_no hi' hc]⟩
    | true => exact ⟨_, rfl, hi', (), rfl, by rw [all_take hi', hn, hc]; rfl⟩
  · have c0 : decide ((i : Int) < (s.length : Int)) = false := decide_eq_false (by omega)
    rw [List.take_of_length_le (by omega)] at hn
    simp -implicitDefEqProofs only [c0, cond_false]
    exact ⟨_, rfl, _, rfl, by rw [hn]⟩
/-- A loop over a text that stops where something is so. -/
theorem stop_loop {γ : Type} (N : Nat) (s : Bs) (T : Int → Bool) (A B : Option γ) (step : ((Bs × Int × Unit) × Unit) → Option (((Bs × Int × Unit) × Unit) ⊕ ((Unit × Unit) ⊕ ((Bool × Unit) × Unit)))) (k : (Unit × Unit) ⊕ ((Bool × Unit) × Unit) → Option γ)
    (h1 : ∀ (i : Nat) (h : i < s.length), step ((s, ((i : Int), ())), ()) = some (bif T (s[i].toNat : Int) then .inr (.inr ((false, ()), ())) else .inl ((s, (IntKind.wrap .i64 ((i : Int) + 1), ())), ()))) (h2 : step ((s, ((s.length : Int), ())), ()) = some (.inr (.inl ((), ()))))
    (hA : k (.inl ((), ())) = A) (hB : k (.inr ((false, ()), ())) = B) (hs : s.length < N) (hb : s.length ≤ 1000000) :
    ((Ev.upto N).it step ((s, ((0 : Int), ())), ())).bind k = bif s.all (fun c => !T (c.toNat : Int)) then A else B := by
  have key : wp ((Ev.upto N).it step ((s, ((0 : Int), ())), ())) (fun o => o = bif s.all (fun c => !T (c.toNat : Int)) then .inl ((), ()) else .inr ((false, ()), ())) := by
    refine wp_for (σ := Unit) (fun i _ => ((s, ((i : Int), ())), ())) (fun i _ => (s.take i).all (fun c => !T (c.toNat : Int)) = true) s.length () rfl (by simp) hs ?_
    rintro i _ hi hn
    by_cases hi' : i < s.length
    · have w : IntKind.wrap .i64 ((i : Int) + 1) = ((i + 1 : Nat) : Int) := by rw [wrap64 (by omega) (by omega)]; omega
      rw [h1 i hi', w]
      cases hc : T (s[i].toNat : Int) with
      | true =>
        have : s.all (fun c => !T (c.toNat : Int)) = false := all_no hi' (by rw [hc]; rfl)
        exact ⟨_, rfl, by rw [this]; rfl⟩
      | false => exact ⟨_, rfl, hi', (), rfl, by rw [all_take hi', hn, hc]; rfl⟩
    · obtain rfl : i = s.length := by omega
      rw [List.take_of_length_le (Nat.le_refl _)] at hn
      rw [h2]
      exact ⟨_, rfl, by rw [hn]; rfl⟩
  obtain ⟨o, e, rfl⟩ := key
  rw [e, Option.bind_some]
  cases s.all (fun c => !T (c.toNat : Int))
  · exact hB
  · exact hA
def ltrI (n : Int) : Bool := decide (n ≥ 97) && decide (n ≤ 122)
def digI (n : Int) : Bool := decide (n ≥ 48) && decide (n ≤ 57)
theorem letter_eq (V : Ev) (t : (Int × Unit) × Unit) : url_letter_ V t = some ((ltrI t.1.1, ()), ()) := by
  unfold url_letter_ ltrI
  cases decide (t.1.1 ≥ 97) <;> rfl
theorem digit_eq (V : Ev) (t : (Int × Unit) × Unit) : url_digit_ V t = some ((digI t.1.1, ()), ()) := by
  unfold url_digit_ digI
  cases decide (t.1.1 ≥ 48) <;> rfl
theorem rletter_eq (V : Ev) (t : (Int × Unit) × Unit) : pounceref05_letter_ V t = some ((ltrI t.1.1, ()), ()) := by
  unfold pounceref05_letter_ ltrI
  cases decide (t.1.1 ≥ 97) <;> rfl
theorem rdigit_eq (V : Ev) (t : (Int × Unit) × Unit) : pounceref05_digit_ V t = some ((digI t.1.1, ()), ()) := by
  unfold pounceref05_digit_ digI
  cases decide (t.1.1 ≥ 48) <;> rfl
/-! ### Schemes -/
def scmI (n : Int) : Bool := ltrI n || (digI n || (n == 43 || (n == 45 || n == 46)))
theorem scheme1_eq (V : Ev) (n : Int) : url_scheme_1_ V ((n, ()), ()) = some ((scmI n, ()), ()) := by
  unfold url_scheme_1_ scmI
  simp -implicitDefEqProofs only [letter_eq, digit_eq, Option.bind_some]
  cases ltrI n <;> cases digI n <;> cases (n == 43) <;> cases (n == 45) <;> rfl
def hd (s : Bs) : Int := match s with
  | [] => 0
  | c :: _ => (c.toNat : Int)
def schemeB (s : Bs) : Bool := !(s == ([] : Bs)) && (decide ((s.length : Int) ≤ 20) && (ltrI (hd s) && s.all fun c => scmI (c.toNat : Int)))
theorem nil_beq_cons (c : UInt8) (s : Bs) : ((c :: s) == ([] : Bs)) = false := rfl
theorem scheme_eq (N : Nat) (s : Bs) (hN : 21 < N) : url_scheme_ (Ev.upto N) ((s, ()), ()) = some ((schemeB s, ()), ()) := by
  unfold url_scheme_ schemeB
  cases s with
  | nil => rfl
  | cons c s =>
    simp -implicitDefEqProofs only [nil_beq_cons, Bool.not_false, beq_self_eq_true, cond_true, idx_zero, letter_eq, Option.bind_some, hd, Bool.true_and]
    cases hl : decide (((c :: s).length : Int) ≤ 20) with
    | false => rfl
    | true =>
      have hl' := of_decide_eq_true hl
      have q : url_all_16d (Ev.upto N) (((c :: s), ()), ()) = some (((c :: s).all fun c => scmI (c.toNat : Int), ()), ()) := all_loop N (c :: s) (fun n => url_scheme_1_ (Ev.upto N) ((n, ()), ())) scmI (scheme1_eq _) (by omega) (by omega)
      cases ltrI (c.toNat : Int)
      · rfl
      · simp -implicitDefEqProofs only [q, Option.bind_some, beq_self_eq_true, cond_true, Bool.true_and]
theorem rscheme_eq (N : Nat) (s : Bs) (hN : 21 < N) : pounceref05_Scheme_ (Ev.upto N) ((s, ()), ()) = some ((schemeB s, ()), ()) := by
  unfold pounceref05_Scheme_ schemeB
  cases s with
  | nil => rfl
  | cons c s =>
    have hl0 : decide (((c :: s).length : Int) < 1) = false := decide_eq_false (by simp only [List.length_cons]; omega)
    simp -implicitDefEqProofs only [hl0, beq_self_eq_true, cond_true, nil_beq_cons, Bool.not_false, Bool.true_and]
    by_cases hl : ((c :: s).length : Int) ≤ 20
    · have e1 : decide (((c :: s).length : Int) > 20) = false := decide_eq_false (by omega)
      have e2 : decide (((c :: s).length : Int) ≤ 20) = true := decide_eq_true hl
      simp -implicitDefEqProofs only [e1, e2, beq_self_eq_true, cond_true, idx_zero, Option.bind_some, rletter_eq, hd, Bool.true_and]
      cases ltrI (c.toNat : Int) with
      | false => rfl
      | true =>
        simp -implicitDefEqProofs only [Bool.not_true, cond_false, Bool.true_and]
        refine (stop_loop N (c :: s) (fun n => !scmI n) (some ((true, ()), ())) (some ((false, ()), ())) _ _ ?_ ?_ rfl rfl (by omega) (by omega)).trans ?_
        · intro i hi
          have c0 : decide ((i : Int) < ((c :: s).length : Int)) = true := decide_eq_true (by omega)
          simp -implicitDefEqProofs only [c0, cond_true, idx_nat hi, Option.bind_some, rletter_eq, rdigit_eq]
          generalize ((c :: s)[i].toNat : Int) = n
          unfold scmI bne
          cases ltrI n <;> cases digI n <;> cases (n == 43) <;> cases (n == 45) <;> cases (n == 46) <;> rfl
        · simp -implicitDefEqProofs only [show decide (((c :: s).length : Int) < ((c :: s).length : Int)) = false from decide_eq_false (by omega), cond_false]
        · simp only [Bool.not_not]
          cases (c :: s).all fun c => scmI (c.toNat : Int) <;> rfl
    · have e1 : decide (((c :: s).length : Int) > 20) = true := decide_eq_true (by omega)
      have e2 : decide (((c :: s).length : Int) ≤ 20) = false := decide_eq_false hl
      simp only [e1, e2, Bool.false_and]
      rfl
def defB (s : Bs) : Int := bif s == ([104, 116, 116, 112] : Bs) || s == ([119, 115] : Bs) then 80 else bif s == ([104, 116, 116, 112, 115] : Bs) || s == ([119, 115, 115] : Bs) then 443 else 0
theorem default_eq (V : Ev) (t : (Bs × Unit) × Unit) : url_Default_ V t = some ((defB t.1.1, ()), ()) := by
  obtain ⟨⟨s, ⟨⟩⟩, ⟨⟩⟩ := t
  unfold url_Default_ defB
  cases h1 : (s == ([104, 116, 116, 112] : Bs)) <;> cases h2 : (s == ([119, 115] : Bs)) <;> cases h3 : (s == ([104, 116, 116, 112, 115] : Bs)) <;> cases h4 : (s == ([119, 115, 115] : Bs)) <;> simp -implicitDefEqProofs only [h1, h2, h3, h4, cond_true, cond_false, Option.bind_some, Bool.or_false, Bool.false_or, Bool.true_or, Bool.or_true]
theorem rdefault_eq (V : Ev) (t : (Bs × Unit) × Unit) : pounceref05_Default_ V t = some ((defB t.1.1, ()), ()) := default_eq V t
/-! ### Hosts -/
def hstI (n : Int) : Bool := ltrI n || (digI n || (n == 45 || n == 46))
theorem host1_eq (V : Ev) (n : Int) : url_host_1_ V ((n, ()), ()) = some ((hstI n, ()), ()) := by
  unfold url_host_1_ hstI
  simp -implicitDefEqProofs only [letter_eq, digit_eq, Option.bind_some]
  cases ltrI n <;> cases digI n <;> cases (n == 45) <;> rfl
/-- No two dots stand beside each other. -/
def noDD : Bs → Bool
  | a :: b :: r => !(a == 46 && b == 46) && noDD (b :: r)
  | _ => true
theorem index_dd (s : Bs) : decide (Lib.index s [46, 46] ≥ 0) = !noDD s := by
  induction s with
  | nil => rfl
  | cons a s ih =>
    cases s with
    | nil =>
      unfold Lib.index noDD
      cases h : ([46, 46] : List UInt8).isPrefixOf [a] with
      | true => simp [List.isPrefixOf] at h
      | false => rfl
    | cons b s =>
      unfold Lib.index
      rw [show noDD (a :: b :: s) = (!(a == 46 && b == 46) && noDD (b :: s)) from rfl]
      have hp : ([46, 46] : List UInt8).isPrefixOf (a :: b :: s) = (a == 46 && b == 46) := by
        simp only [List.isPrefixOf, Bool.and_true]
        rw [Bool.eq_iff_iff]
        simp only [Bool.and_eq_true, beq_iff_eq]
        constructor <;> rintro ⟨h1, h2⟩ <;> exact ⟨h1.symm, h2.symm⟩
      rw [hp]
      cases (a == 46 && b == 46) with
      | true => rfl
      | false =>
        simp only [Bool.false_eq_true, if_false, Bool.not_false, Bool.true_and]
        rw [← ih]
        have hg := Lib.index_ge (b :: s) [46, 46]
        by_cases h : Lib.index (b :: s) [46, 46] = -1
        · rw [h]; rfl
        · have h1 : (Lib.index (b :: s) [46, 46] == -1) = false := by simpa using h
          rw [h1]
          simp only [Bool.false_eq_true, if_false]
          rw [decide_eq_true (show Lib.index (b :: s) [46, 46] ≥ 0 by omega), decide_eq_true (show Lib.index (b :: s) [46, 46] + 1 ≥ 0 by omega)]
theorem noDD_snoc (l : Bs) (a b : UInt8) : noDD (l ++ [a] ++ [b]) = (noDD (l ++ [a]) && !(a == 46 && b == 46)) := by
  induction l with
  | nil => simp [noDD]
  | cons x l ih =>
    cases l with
    | nil =>
      show (!(x == 46 && a == 46) && noDD [a, b]) = ((!(x == 46 && a == 46) && noDD [a]) && !(a == 46 && b == 46))
      simp [noDD, Bool.and_assoc]
    | cons y l =>
      show (!(x == 46 && y == 46) && noDD ((y :: l) ++ [a] ++ [b])) = ((!(x == 46 && y == 46) && noDD ((y :: l) ++ [a])) && !(a == 46 && b == 46))
      rw [ih, Bool.and_assoc]
def hostB (s : Bs) : Bool := !(s == ([] : Bs)) && (decide ((s.length : Int) ≤ 100) && ((s.all fun c => hstI (c.toNat : Int)) && noDD (46 :: s ++ [46])))
theorem strIndex_eq (V : Ev) (s t : Bs) (h : s.length ≤ 1000000) : strings_Index_ V ((s, (t, ())), ()) = some ((Lib.index s t, ()), ()) := by
  unfold strings_Index_ istringslite_Index_ gIndex
  rw [show decide (s.length < 4294967281) = true from decide_eq_true (by omega)]
  rfl
theorem contains_eq (V : Ev) (s t : Bs) (h : s.length ≤ 1000000) : strings_Contains_ V ((s, (t, ())), ()) = some ((decide (Lib.index s t ≥ 0), ()), ()) := by
  unfold strings_Contains_
  simp -implicitDefEqProofs only [strIndex_eq V s t h, Option.bind_some]
theorem host_eq (N : Nat) (s : Bs) (hN : 101 < N) : url_host_ (Ev.upto N) ((s, ()), ()) = some ((hostB s, ()), ()) := by
  unfold url_host_ hostB
  cases s with
  | nil => rfl
  | cons c s =>
    simp -implicitDefEqProofs only [nil_beq_cons, Bool.not_false, beq_self_eq_true, cond_true, Bool.true_and]
    by_cases hl : ((c :: s).length : Int) ≤ 100
    · have q : url_all_70b (Ev.upto N) (((c :: s), ()), ()) = some (((c :: s).all fun c => hstI (c.toNat : Int), ()), ()) := all_loop N (c :: s) (fun n => url_host_1_ (Ev.upto N) ((n, ()), ())) hstI (host1_eq _) (by omega) (by omega)
      have f1 : strFits (([46] : Bs).length + (c :: s).length) = true := strFits_of (by simp only [List.length_cons, List.length_nil] at hl ⊢; omega)
      have f2 : strFits ((([46] : Bs) ++ (c :: s)).length + ([46] : Bs).length) = true := strFits_of (by simp only [List.length_append, List.length_cons, List.length_nil] at hl ⊢; omega)
      have q2 := contains_eq (Ev.upto N) (([46] : Bs) ++ (c :: s) ++ [46]) [46, 46] (by simp only [List.length_append, List.length_cons, List.length_nil] at hl ⊢; omega)
      rw [index_dd] at q2
      simp -implicitDefEqProofs only [decide_eq_true hl, q, Option.bind_some, beq_self_eq_true, cond_true, f1, f2, q2, Bool.not_not, Bool.true_and]
      cases (c :: s).all fun c => hstI (c.toNat : Int)
      · rfl
      · rfl
    · simp only [decide_eq_false hl, Bool.false_and]
      rfl
end Go.En.Pl
