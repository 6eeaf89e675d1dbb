/- Text NU of this seat: written by a program of ours, or by hand; checked by Lean. -/
import Derived.Test.YtgjenfhkjjdcoaaGreatDoorW
import Derived.Test.YtgjenfhkjjdcoaaGreatDoorG
set_option linter.unusedSimpArgs false
set_option linter.unusedVariables false
namespace Go.En.Pl
/-! -/
theorem all_take {α : Type} {p : α → Bool} {l : List α} {i : Nat} (h : i < l.length) : (l.take (i + 1)).all p = ((l.take i).all p && p l[i]) := by
  rw [List.take_succ_eq_append_getElem h, List.all_append]
  simp
theorem all_no {α : Type} {p : α → Bool} {l : List α} {i : Nat} (h : i < l.length) (hp : p l[i] = false) : l.all p = false := by
  cases hx : l.all p with
  | false => rfl
  | true => rw [List.all_eq_true] at hx; rw [hx _ (List.getElem_mem h)] at hp; cases hp
theorem all_loop (N : Nat) (s : Bs) (F : Int → Option ((Bool × Unit) × Unit)) (p : Int → Bool) (hF : ∀ n : Int, F n = some ((p n, ()), ())) (hs : s.length < N) (hb : s.length ≤ 1000000) :
    ((Ev.upto N).it (α := ((Bs × Int × Int × Unit) × (Unit))) (β := (((Unit) × (Unit)) ⊕ ((Bool × Unit) × (Unit)))) (fun s1 => (bif decide (s1.1.2.2.1 < s1.1.2.1) then ((idx s1.1.1 s1.1.2.2.1).bind fun v2 => ((F ((v2).toNat : Int)).bind fun v3 => (bif (!v3.1.1) then (some (Sum.inr (Sum.inr ((false, ()), ())))) else (some (Sum.inl ((s1.1.1, (s1.1.2.1, ((IntKind.wrap .i64 (s1.1.2.2.1 + (1 : Int))), ()))), ())))))) else (some (Sum.inr (Sum.inl ((), ())))))) ((s, ((s.length : Int), ((0 : Int), ()))), ())).bind (fun o4 => (match o4 with | Sum.inl o5 => (some ((true, ()), ())) | Sum.inr o6 => (some ((o6.1.1, ()), ())))) = some ((s.all fun c => p (c.toNat : Int), ()), ()) := by
  apply wp_eq
  refine wp_bind ?_
  refine wp_for (σ := Unit) (fun i _ => ((s, ((s.length : Int), ((i : Int), ()))), ())) (fun i _ => (s.take i).all (fun c => p (c.toNat : Int)) = true) s.length () rfl (by simp) hs ?_
  rintro i _ hi hn
  by_cases hi' : i < s.length
  · have c0 : decide ((i : Int) < (s.length : Int)) = true := decide_eq_true (by omega)
    have w : IntKind.wrap .i64 ((i : Int) + 1) = ((i + 1 : Nat) : Int) := by rw [wrap64 (by omega) (by omega)]; omega
    simp -implicitDefEqProofs only [c0, cond_true, idx_nat hi', Option.bind_some, hF, w]
    cases hc : p (s[i].toNat : Int) with
    | false => exact ⟨_, rfl, _, rfl, by rw [all_no hi' hc]⟩
    | true => exact ⟨_, rfl, hi', (), rfl, by rw [all_take hi', hn, hc]; rfl⟩
  · have c0 : decide ((i : Int) < (s.length : Int)) = false := decide_eq_false (by omega)
    rw [List.take_of_length_le (by omega)] at hn
    simp -implicitDefEqProofs only [c0, cond_false]
    exact ⟨_, rfl, _, rfl, by rw [hn]⟩
theorem stop_loop {γ : Type} (N : Nat) (s : Bs) (T : Int → Bool) (A B : Option γ) (step : ((Bs × Int × Unit) × Unit) → Option (((Bs × Int × Unit) × Unit) ⊕ ((Unit × Unit) ⊕ ((Bool × Unit) × Unit)))) (k : (Unit × Unit) ⊕ ((Bool × Unit) × Unit) → Option γ)
    (h1 : ∀ (i : Nat) (h : i < s.length), step ((s, ((i : Int), ())), ()) = some (bif T (s[i].toNat : Int) then .inr (.inr ((false, ()), ())) else .inl ((s, (IntKind.wrap .i64 ((i : Int) + 1), ())), ()))) (h2 : step ((s, ((s.length : Int), ())), ()) = some (.inr (.inl ((), ()))))
    (hA : k (.inl ((), ())) = A) (hB : k (.inr ((false, ()), ())) = B) (hs : s.length < N) (hb : s.length ≤ 1000000) :
    ((Ev.upto N).it step ((s, ((0 : Int), ())), ())).bind k = bif s.all (fun c => !T (c.toNat : Int)) then A else B := by
  have key : wp ((Ev.upto N).it step ((s, ((0 : Int), ())), ())) (fun o => o = bif s.all (fun c => !T (c.toNat : Int)) then .inl ((), ()) else .inr ((false, ()), ())) := by
    refine wp_for (σ := Unit) (fun i _ => ((s, ((i : Int), ())), ())) (fun i _ => (s.take i).all (fun c => !T (c.toNat : Int)) = true) s.length () rfl (by simp) hs ?_
    rintro i _ hi hn
    by_cases hi' : i < s.length
    · have w : IntKind.wrap .i64 ((i : Int) + 1) = ((i + 1 : Nat) : Int) := by rw [wrap64 (by omega) (by omega)]; omega
      rw [h1 i hi', w]
      cases hc : T (s[i].toNat : Int) with
      | true =>
        have : s.all (fun c => !T (c.toNat : Int)) = false := all_no hi' (by rw [hc]; rfl)
        exact ⟨_, rfl, by rw [this]; rfl⟩
      | false => exact ⟨_, rfl, hi', (), rfl, by rw [all_take hi', hn, hc]; rfl⟩
    · obtain rfl : i = s.length := by omega
      rw [List.take_of_length_le (Nat.le_refl _)] at hn
      rw [h2]
      exact ⟨_, rfl, by rw [hn]; rfl⟩
  obtain ⟨o, e, rfl⟩ := key
  rw [e, Option.bind_some]
  cases s.all (fun c => !T (c.toNat : Int))
  · exact hB
  · exact hA
def ltrI (n : Int) : Bool := decide (n ≥ 97) && decide (n ≤ 122)
def digI (n : Int) : Bool := decide (n ≥ 48) && decide (n ≤ 57)
theorem letter_eq (V : Ev) (t : (Int × Unit) × Unit) : url_letter_ V t = some ((ltrI t.1.1, ()), ()) := by
  unfold url_letter_ ltrI
  cases decide (t.1.1 ≥ 97) <;> rfl
theorem digit_eq (V : Ev) (t : (Int × Unit) × Unit) : url_digit_ V t = some ((digI t.1.1, ()), ()) := by
  unfold url_digit_ digI
  cases decide (t.1.1 ≥ 48) <;> rfl
theorem rletter_eq (V : Ev) (t : (Int × Unit) × Unit) : pounceref05_letter_ V t = some ((ltrI t.1.1, ()), ()) := by
  unfold pounceref05_letter_ ltrI
  cases decide (t.1.1 ≥ 97) <;> rfl
theorem rdigit_eq (V : Ev) (t : (Int × Unit) × Unit) : pounceref05_digit_ V t = some ((digI t.1.1, ()), ()) := by
  unfold pounceref05_digit_ digI
  cases decide (t.1.1 ≥ 48) <;> rfl
/-! -/
def scmI (n : Int) : Bool := ltrI n || (digI n || (n == 43 || (n == 45 || n == 46)))
theorem scheme1_eq (V : Ev) (n : Int) : url_scheme_1_ V ((n, ()), ()) = some ((scmI n, ()), ()) := by
  unfold url_scheme_1_ scmI
  simp -implicitDefEqProofs only [letter_eq, digit_eq, Option.bind_some]
  cases ltrI n <;> cases digI n <;> cases (n == 43) <;> cases (n == 45) <;> rfl
def hd (s : Bs) : Int := match s with
  | [] => 0
  | c :: _ => (c.toNat : Int)
def schemeB (s : Bs) : Bool := !(s == ([] : Bs)) && (decide ((s.length : Int) ≤ 20) && (ltrI (hd s) && s.all fun c => scmI (c.toNat : Int)))
theorem nil_beq_cons (c : UInt8) (s : Bs) : ((c :: s) == ([] : Bs)) = false := rfl
theorem scheme_eq (N : Nat) (s : Bs) (hN : 21 < N) : url_scheme_ (Ev.upto N) ((s, ()), ()) = some ((schemeB s, ()), ()) := by
  unfold url_scheme_ schemeB
  cases s with
  | nil => rfl
  | cons c s =>
    simp -implicitDefEqProofs only [nil_beq_cons, Bool.not_false, beq_self_eq_true, cond_true, idx_zero, letter_eq, Option.bind_some, hd, Bool.true_and]
    cases hl : decide (((c :: s).length : Int) ≤ 20) with
    | false => rfl
    | true =>
      have hl' := of_decide_eq_true hl
      have q : url_all_16d (Ev.upto N) (((c :: s), ()), ()) = some (((c :: s).all fun c => scmI (c.toNat : Int), ()), ()) := all_loop N (c :: s) (fun n => url_scheme_1_ (Ev.upto N) ((n, ()), ())) scmI (scheme1_eq _) (by omega) (by omega)
      cases ltrI (c.toNat : Int)
      · rfl
      · simp -implicitDefEqProofs only [q, Option.bind_some, beq_self_eq_true, cond_true, Bool.true_and]
theorem rscheme_eq (N : Nat) (s : Bs) (hN : 21 < N) : pounceref05_Scheme_ (Ev.upto N) ((s, ()), ()) = some ((schemeB s, ()), ()) := by
  unfold pounceref05_Scheme_ schemeB
  cases s with
  | nil => rfl
  | cons c s =>
    have hl0 : decide (((c :: s).length : Int) < 1) = false := decide_eq_false (by simp only [List.length_cons]; omega)
    simp -implicitDefEqProofs only [hl0, beq_self_eq_true, cond_true, nil_beq_cons, Bool.not_false, Bool.true_and]
    by_cases hl : ((c :: s).length : Int) ≤ 20
    · have e1 : decide (((c :: s).length : Int) > 20) = false := decide_eq_false (by omega)
      have e2 : decide (((c :: s).length : Int) ≤ 20) = true := decide_eq_true hl
      simp -implicitDefEqProofs only [e1, e2, beq_self_eq_true, cond_true, idx_zero, Option.bind_some, rletter_eq, hd, Bool.true_and]
      cases ltrI (c.toNat : Int) with
      | false => rfl
      | true =>
        simp -implicitDefEqProofs only [Bool.not_true, cond_false, Bool.true_and]
        refine (stop_loop N (c :: s) (fun n => !scmI n) (some ((true, ()), ())) (some ((false, ()), ())) _ _ ?_ ?_ rfl rfl (by omega) (by omega)).trans ?_
        · intro i hi
          have c0 : decide ((i : Int) < ((c :: s).length : Int)) = true := decide_eq_true (by omega)
          simp -implicitDefEqProofs only [c0, cond_true, idx_nat hi, Option.bind_some, rletter_eq, rdigit_eq]
          generalize ((c :: s)[i].toNat : Int) = n
          unfold scmI bne
          cases ltrI n <;> cases digI n <;> cases (n == 43) <;> cases (n == 45) <;> cases (n == 46) <;> rfl
        · simp -implicitDefEqProofs only [show decide (((c :: s).length : Int) < ((c :: s).length : Int)) = false from decide_eq_false (by omega), cond_false]
        · simp only [Bool.not_not]
          cases (c :: s).all fun c => scmI (c.toNat : Int) <;> rfl
    · have e1 : decide (((c :: s).length : Int) > 20) = true := decide_eq_true (by omega)
      have e2 : decide (((c :: s).length : Int) ≤ 20) = false := decide_eq_false hl
      simp only [e1, e2, Bool.false_and]
      rfl
def defB (s : Bs) : Int := bif s == ([104, 116, 116, 112] : Bs) || s == ([119, 115] : Bs) then 80 else bif s == ([104, 116, 116, 112, 115] : Bs) || s == ([119, 115, 115] : Bs) then 443 else 0
theorem default_eq (V : Ev) (t : (Bs × Unit) × Unit) : url_Default_ V t = some ((defB t.1.1, ()), ()) := by
  obtain ⟨⟨s, ⟨⟩⟩, ⟨⟩⟩ := t
  unfold url_Default_ defB
  cases h1 : (s == ([104, 116, 116, 112] : Bs)) <;> cases h2 : (s == ([119, 115] : Bs)) <;> cases h3 : (s == ([104, 116, 116, 112, 115] : Bs)) <;> cases h4 : (s == ([119, 115, 115] : Bs)) <;> simp -implicitDefEqProofs only [h1, h2, h3, h4, cond_true, cond_false, Option.bind_some, Bool.or_false, Bool.false_or, Bool.true_or, Bool.or_true]
theorem rdefault_eq (V : Ev) (t : (Bs × Unit) × Unit) : pounceref05_Default_ V t = some ((defB t.1.1, ()), ()) := default_eq V t
/-! -/
def hstI (n : Int) : Bool := ltrI n || (digI n || (n == 45 || n == 46))
theorem host1_eq (V : Ev) (n : Int) : url_host_1_ V ((n, ()), ()) = some ((hstI n, ()), ()) := by
  unfold url_host_1_ hstI
  simp -implicitDefEqProofs only [letter_eq, digit_eq, Option.bind_some]
  cases ltrI n <;> cases digI n <;> cases (n == 45) <;> rfl
def noDD : Bs → Bool
  | a :: b :: r => !(a == 46 && b == 46) && noDD (b :: r)
  | _ => true
theorem index_dd (s : Bs) : decide (Lib.index s [46, 46] ≥ 0) = !noDD s := by
  induction s with
  | nil => rfl
  | cons a s ih =>
    cases s with
    | nil =>
      unfold Lib.index noDD
      cases h : ([46, 46] : List UInt8).isPrefixOf [a] with
      | true => simp [List.isPrefixOf] at h
      | false => rfl
    | cons b s =>
      unfold Lib.index
      rw [show noDD (a :: b :: s) = (!(a == 46 && b == 46) && noDD (b :: s)) from rfl]
      have hp : ([46, 46] : List UInt8).isPrefixOf (a :: b :: s) = (a == 46 && b == 46) := by
        simp only [List.isPrefixOf, Bool.and_true]
        rw [Bool.eq_iff_iff]
        simp only [Bool.and_eq_true, beq_iff_eq]
        constructor <;> rintro ⟨h1, h2⟩ <;> exact ⟨h1.symm, h2.symm⟩
      rw [hp]
      cases (a == 46 && b == 46) with
      | true => rfl
      | false =>
        simp only [Bool.false_eq_true, if_false, Bool.not_false, Bool.true_and]
        rw [← ih]
        have hg := Lib.index_ge (b :: s) [46, 46]
        by_cases h : Lib.index (b :: s) [46, 46] = -1
        · rw [h]; rfl
        · have h1 : (Lib.index (b :: s) [46, 46] == -1) = false := by simpa using h
          rw [h1]
          simp only [Bool.false_eq_true, if_false]
          rw [decide_eq_true (show Lib.index (b :: s) [46, 46] ≥ 0 by omega), decide_eq_true (show Lib.index (b :: s) [46, 46] + 1 ≥ 0 by omega)]
theorem noDD_snoc (l : Bs) (a b : UInt8) : noDD (l ++ [a] ++ [b]) = (noDD (l ++ [a]) && !(a == 46 && b == 46)) := by
  induction l with
  | nil => simp [noDD]
  | cons x l ih =>
    cases l with
    | nil =>
      show (!(x == 46 && a == 46) && noDD [a, b]) = ((!(x == 46 && a == 46) && noDD [a]) && !(a == 46 && b == 46))
      simp [noDD, Bool.and_assoc]
    | cons y l =>
      show (!(x == 46 && y == 46) && noDD ((y :: l) ++ [a] ++ [b])) = ((!(x == 46 && y == 46) && noDD ((y :: l) ++ [a])) && !(a == 46 && b == 46))
      rw [ih, Bool.and_assoc]
def hostB (s : Bs) : Bool := !(s == ([] : Bs)) && (decide ((s.length : Int) ≤ 100) && ((s.all fun c => hstI (c.toNat : Int)) && noDD (46 :: s ++ [46])))
theorem strIndex_eq (V : Ev) (s t : Bs) (h : s.length ≤ 1000000) : strings_Index_ V ((s, (t, ())), ()) = some ((Lib.index s t, ()), ()) := by
  unfold strings_Index_ istringslite_Index_ gIndex
  rw [show decide (s.length < 4294967281) = true from decide_eq_true (by omega)]
  rfl
theorem contains_eq (V : Ev) (s t : Bs) (h : s.length ≤ 1000000) : strings_Contains_ V ((s, (t, ())), ()) = some ((decide (Lib.index s t ≥ 0), ()), ()) := by
  unfold strings_Contains_
  simp -implicitDefEqProofs only [strIndex_eq V s t h, Option.bind_some]
theorem host_eq (N : Nat) (s : Bs) (hN : 101 < N) : url_host_ (Ev.upto N) ((s, ()), ()) = some ((hostB s, ()), ()) := by
  unfold url_host_ hostB
  cases s with
  | nil => rfl
  | cons c s =>
    simp -implicitDefEqProofs only [nil_beq_cons, Bool.not_false, beq_self_eq_true, cond_true, Bool.true_and]
    by_cases hl : ((c :: s).length : Int) ≤ 100
    · have q : url_all_70b (Ev.upto N) (((c :: s), ()), ()) = some (((c :: s).all fun c => hstI (c.toNat : Int), ()), ()) := all_loop N (c :: s) (fun n => url_host_1_ (Ev.upto N) ((n, ()), ())) hstI (host1_eq _) (by omega) (by omega)
      have f1 : strFits (([46] : Bs).length + (c :: s).length) = true := strFits_of (by simp only [List.length_cons, List.length_nil] at hl ⊢; omega)
      have f2 : strFits ((([46] : Bs) ++ (c :: s)).length + ([46] : Bs).length) = true := strFits_of (by simp only [List.length_append, List.length_cons, List.length_nil] at hl ⊢; omega)
      have q2 := contains_eq (Ev.upto N) (([46] : Bs) ++ (c :: s) ++ [46]) [46, 46] (by simp only [List.length_append, List.length_cons, List.length_nil] at hl ⊢; omega)
      rw [index_dd] at q2
      simp -implicitDefEqProofs only [decide_eq_true hl, q, Option.bind_some, beq_self_eq_true, cond_true, f1, f2, q2, Bool.not_not, Bool.true_and]
      cases (c :: s).all fun c => hstI (c.toNat : Int)
      · rfl
      · rfl
    · simp only [decide_eq_false hl, Bool.false_and]
      rfl
/-! -/
theorem index_one (s : Bs) (c : UInt8) : Lib.index s [c] = Lib.indexByte s c := by
  induction s with
  | nil => rfl
  | cons b s ih =>
    unfold Lib.index Lib.indexByte
    have hp : ([c] : List UInt8).isPrefixOf (b :: s) = (b == c) := by
      simp only [List.isPrefixOf, Bool.and_true]
      rw [Bool.eq_iff_iff]
      simp only [beq_iff_eq]
      exact ⟨fun h => h.symm, fun h => h.symm⟩
    rw [hp, ih]
def spl : Bs → List Bs
  | [] => [[]]
  | c :: r => bif c == 47 then [] :: spl r else match spl r with
    | [] => [[c]]
    | p :: ps => (c :: p) :: ps
theorem spl_ne : ∀ s : Bs, spl s ≠ []
  | [] => by simp [spl]
  | c :: r => by
    unfold spl
    cases c == 47
    · rw [cond_false]
      cases spl r <;> simp
    · simp
theorem spl_no : ∀ {x : Bs}, (47 : UInt8) ∉ x → spl x = [x]
  | [], _ => rfl
  | c :: r, h => by
    have h1 : ¬ (47 : UInt8) = c := fun e => h (by rw [e]; exact List.mem_cons_self ..)
    have h2 : (47 : UInt8) ∉ r := fun e => h (List.mem_cons_of_mem _ e)
    unfold spl
    rw [show (c == 47) = false by simpa using fun e => h1 e.symm, cond_false, spl_no h2]
theorem spl_cut : ∀ {x : Bs} (r : Bs), (47 : UInt8) ∉ x → spl (x ++ 47 :: r) = x :: spl r
  | [], r, _ => by show spl (47 :: r) = _; rw [spl]; rfl
  | c :: x, r, h => by
    have h1 : ¬ (47 : UInt8) = c := fun e => h (by rw [e]; exact List.mem_cons_self ..)
    have h2 : (47 : UInt8) ∉ x := fun e => h (List.mem_cons_of_mem _ e)
    show spl (c :: (x ++ 47 :: r)) = _
    rw [spl, show (c == 47) = false by simpa using fun e => h1 e.symm, cond_false, spl_cut r h2]
theorem spl_pieces : ∀ (s : Bs) (p : Bs), p ∈ spl s → (47 : UInt8) ∉ p
  | [], p, h => by simp [spl] at h; rw [h]; simp
  | c :: r, p, h => by
    unfold spl at h
    cases hc : c == 47 with
    | true =>
      rw [hc, cond_true] at h
      rcases List.mem_cons.1 h with rfl | h
      · simp
      · exact spl_pieces r p h
    | false =>
      rw [hc, cond_false] at h
      have hc' : ¬ (47 : UInt8) = c := fun e => by rw [← e] at hc; simp at hc
      cases hs : spl r with
      | nil => exact absurd hs (spl_ne r)
      | cons q qs =>
        rw [hs] at h
        have hq := fun x hx => spl_pieces r x (by rw [hs]; exact hx)
        rcases List.mem_cons.1 h with rfl | h
        · intro hm
          rcases List.mem_cons.1 hm with e | hm
          · exact hc' e
          · exact hq q (List.mem_cons_self ..) hm
        · exact hq p (List.mem_cons_of_mem _ h)
theorem join_cons2 (p q : Bs) (r : List Bs) (sep : Bs) : Lib.join (p :: q :: r) sep = p ++ (sep ++ Lib.join (q :: r) sep) := by
  simp [Lib.join, List.intercalate, List.intersperse]
theorem spl_join : ∀ {X : List Bs}, X ≠ [] → (∀ p, p ∈ X → (47 : UInt8) ∉ p) → spl (Lib.join X [47]) = X
  | [], h, _ => absurd rfl h
  | [p], _, h => by rw [Lib.join_one]; exact spl_no (h p (List.mem_cons_self ..))
  | p :: q :: r, _, h => by
    rw [join_cons2]
    show spl (p ++ 47 :: Lib.join (q :: r) [47]) = _
    rw [spl_cut _ (h p (List.mem_cons_self ..)), spl_join (by simp) fun x hx => h x (List.mem_cons_of_mem _ hx)]
theorem join_spl : ∀ s : Bs, Lib.join (spl s) [47] = s
  | [] => rfl
  | c :: r => by
    have ih := join_spl r
    unfold spl
    cases hs : spl r with
    | nil => exact absurd hs (spl_ne r)
    | cons p ps =>
      rw [hs] at ih
      cases hc : c == 47 with
      | true =>
        rw [cond_true, join_cons2, ih]
        have : c = 47 := by simpa using hc
        rw [this]
        rfl
      | false =>
        rw [cond_false]
        cases ps with
        | nil => rw [Lib.join_one] at ih ⊢; rw [ih]
        | cons q qs => rw [join_cons2] at ih ⊢; rw [← ih]; rfl
def wt (X : List Bs) : Nat := (X.map fun p => p.length + 1).sum
theorem wt_append (a b : List Bs) : wt (a ++ b) = wt a + wt b := by simp [wt]
theorem wt_cons (p : Bs) (X : List Bs) : wt (p :: X) = p.length + 1 + wt X := by simp [wt]
theorem wt_dropLast (X : List Bs) : wt X.dropLast ≤ wt X := by
  rcases List.eq_nil_or_concat X with rfl | ⟨a, b, rfl⟩
  · simp [wt]
  · rw [List.concat_eq_append, List.dropLast_concat, wt_append]; omega
theorem len_wt (X : List Bs) : X.length ≤ wt X := by
  induction X with
  | nil => simp
  | cons p X ih => rw [wt_cons, List.length_cons]; omega
theorem join_wt : ∀ X : List Bs, (Lib.join X [47]).length ≤ wt X
  | [] => by simp [Lib.join_nil]
  | [p] => by rw [Lib.join_one, wt_cons]; omega
  | p :: q :: r => by
    have := join_wt (q :: r)
    rw [join_cons2, wt_cons]
    simp only [List.length_append, List.length_cons, List.length_nil]
    omega
theorem wt_spl : ∀ s : Bs, wt (spl s) = s.length + 1
  | [] => rfl
  | c :: r => by
    have ih := wt_spl r
    unfold spl
    cases c == 47 with
    | true => rw [cond_true, wt_cons, ih]; simp; omega
    | false =>
      rw [cond_false]
      cases hs : spl r with
      | nil => exact absurd hs (spl_ne r)
      | cons p ps => rw [hs, wt_cons] at ih; rw [wt_cons]; simp only [List.length_cons]; omega
/-! -/
theorem count_zero (s : Bs) : s.count 47 = 0 ↔ (47 : UInt8) ∉ s := List.count_eq_zero
theorem genSplit_eq (N : Nat) (s : Bs) (hs : s.length + 1 < N) (hb : s.length ≤ 1000000) :
    strings_genSplit_ (Ev.upto N) ((s, (([47] : Bs), ((0 : Int), ((-1 : Int), ())))), ()) = some ((), (spl s, ())) := by
  apply wp_eq
  unfold strings_genSplit_
  have hc : s.count 47 ≤ s.length := List.count_le_length
  have e1 : ((-1 : Int) == 0) = false := rfl
  have e2 : (([47] : Bs) == ([] : Bs)) = false := rfl
  have e3 : decide ((-1 : Int) < 0) = true := rfl
  have q : strings_Count_ (Ev.upto N) ((s, (([47] : Bs), ())), ()) = some ((((s.count 47 : Nat) : Int), ()), ()) := rfl
  have w1 : IntKind.wrap .i64 (((s.count 47 : Nat) : Int) + 1) = ((s.count 47 + 1 : Nat) : Int) := by rw [wrap64 (by omega) (by omega)]; omega
  have w2 : IntKind.wrap .i64 ((s.length : Int) + 1) = ((s.length + 1 : Nat) : Int) := by rw [wrap64 (by omega) (by omega)]; omega
  have w3 : mn ((s.count 47 + 1 : Nat) : Int) ((s.length + 1 : Nat) : Int) = ((s.count 47 + 1 : Nat) : Int) := by unfold mn; rw [if_neg (by omega)]
  have w4 : IntKind.wrap .i64 (((s.count 47 + 1 : Nat) : Int) - 1) = ((s.count 47 : Nat) : Int) := by rw [wrap64 (by omega) (by omega)]; omega
  have f1 : fits (s.count 47 + 1) 16 = true := fits_of (by omega)
  simp -implicitDefEqProofs only [e1, e2, e3, cond_true, cond_false, q, Option.bind_some, w1, w2, w3, w4, beq_self_eq_true, Bool.and_true, decide_eq_true (show (0 : Int) ≤ ((s.count 47 + 1 : Nat) : Int) by omega), Bool.true_and, Int.toNat_natCast, f1]
  refine wp_bind ?_
  refine wp_it (fun a => ∃ (r : Bs) (i : Nat) (l : List Bs), a = ((r, (([47] : Bs), ((0 : Int), ((((s.count 47 : Nat) : Int)), ((i : Int), ()))))), (l, ())) ∧ l.length = s.count 47 + 1 ∧ l.take i ++ spl r = spl s ∧ i + r.count 47 = s.count 47 ∧ r.length ≤ s.length)
    (fun a => s.count 47 - a.1.2.2.2.2.1.toNat) ⟨s, 0, _, rfl, by simp, by simp, by simp, Nat.le_refl _⟩ (by simp; omega) ?_
  rintro _ ⟨r, i, l, rfl, hl, hx, hi, hr⟩
  have fin : i = s.count 47 → ∀ z, z = some (Sum.inl ((r, ((i : Int), ())), (l, ())) : ((Bs × Int × Unit) × (List Bs) × Unit) ⊕ ((Bs × Bs × Int × Int × Int × Unit) × (List Bs) × Unit)) → True := fun _ _ _ => trivial
  by_cases hlt : i < s.count 47
  · have hm : (47 : UInt8) ∈ r := by
      by_cases h : (47 : UInt8) ∈ r
      · exact h
      · rw [← count_zero] at h; omega
    obtain ⟨x, r', hr', hx', hix⟩ := indexByte_split r 47 hm
    have hxl : x.length + 1 + r'.length = r.length := by rw [hr']; simp; omega
    have c0 : decide ((i : Int) < ((s.count 47 : Nat) : Int)) = true := decide_eq_true (by omega)
    have qi : strings_Index_ (Ev.upto N) ((r, (([47] : Bs), ())), ()) = some (((x.length : Int), ()), ()) := by rw [strIndex_eq _ _ _ (by omega), index_one, hix]
    have c1 : decide ((x.length : Int) < 0) = false := nneg _
    have wa : IntKind.wrap .i64 ((x.length : Int) + 0) = ((x.length : Nat) : Int) := by rw [wrap64 (by omega) (by omega)]; omega
    have wb : IntKind.wrap .i64 ((x.length : Int) + ((([47] : Bs).length : Nat) : Int)) = ((x.length + 1 : Nat) : Int) := by rw [wrap64 (by simp; omega) (by simp; omega)]; simp
    have wc : IntKind.wrap .i64 ((i : Int) + 1) = ((i + 1 : Nat) : Int) := by rw [wrap64 (by omega) (by omega)]; omega
    have s1 : sl r 0 ((x.length : Nat) : Int) = some x := by
      rw [show (0 : Int) = ((0 : Nat) : Int) from rfl, sl_nat (Nat.zero_le _) (by omega), hr', List.take_left' rfl]; rfl
    have s2 : sl r ((x.length + 1 : Nat) : Int) (r.length : Int) = some r' := by
      rw [sl_end (by omega), hr', show x ++ 47 :: r' = (x ++ [47]) ++ r' by simp, List.drop_left' (by simp)]
    have g1 : (decide ((0 : Int) ≤ (i : Int)) && decide ((i : Int) < (l.length : Int))) = true := by rw [decide_eq_true (by omega), decide_eq_true (by omega)]; rfl
    have g2 : l[((i : Int)).toNat]? = some l[i] := by rw [Int.toNat_natCast]; exact List.getElem?_eq_getElem (by omega)
    simp -implicitDefEqProofs only [c0, cond_true, qi, Option.bind_some, c1, cond_false, wa, wb, wc, s1, s2, g1, g2]
    refine wp_some ⟨⟨r', i + 1, l.set i x, by simp only [Int.toNat_natCast], by simpa using hl, ?_, ?_, by omega⟩, ?_⟩
    · rw [← hx, hr', spl_cut r' hx', List.take_succ_eq_append_getElem (by simp; omega), List.take_set, List.getElem_set_self, List.append_assoc]
      congr 1
      rw [List.set_eq_of_length_le (by simp; omega)]
    · rw [hr', List.count_append, (count_zero x).2 hx', List.count_cons_self] at hi
      omega
    · simp only [Int.toNat_natCast]; omega
  · have c0 : decide ((i : Int) < ((s.count 47 : Nat) : Int)) = false := decide_eq_false (by omega)
    have hn : (47 : UInt8) ∉ r := by rw [← count_zero]; omega
    have g1 : (decide ((0 : Int) ≤ (i : Int)) && decide ((i : Int) < (l.length : Int))) = true := by rw [decide_eq_true (by omega), decide_eq_true (by omega)]; rfl
    have g2 : l[((i : Int)).toNat]? = some l[i] := by rw [Int.toNat_natCast]; exact List.getElem?_eq_getElem (by omega)
    have wc : IntKind.wrap .i64 ((i : Int) + 1) = ((i + 1 : Nat) : Int) := by rw [wrap64 (by omega) (by omega)]; omega
    have s3 : sl (l.set ((i : Int)).toNat r) 0 ((i + 1 : Nat) : Int) = some (spl s) := by
      rw [Int.toNat_natCast, show (0 : Int) = ((0 : Nat) : Int) from rfl, sl_nat (Nat.zero_le _) (by simp; omega), List.drop_zero, List.take_succ_eq_append_getElem (by simp; omega), List.take_set, List.getElem_set_self, List.set_eq_of_length_le (by simp; omega), ← hx, spl_no hn]
    simp -implicitDefEqProofs only [c0, cond_false, Option.bind_some]
    refine wp_some ?_
    simp -implicitDefEqProofs only [g1, cond_true, g2, Option.bind_some, wc, s3]
    exact ⟨_, rfl, rfl⟩
theorem split_eq (N : Nat) (s : Bs) (hs : s.length + 1 < N) (hb : s.length ≤ 1000000) : strings_Split_ (Ev.upto N) ((s, (([47] : Bs), ())), ()) = some ((), (spl s, ())) := by
  unfold strings_Split_
  have q := genSplit_eq N s hs hb
  simp -implicitDefEqProofs only [q, Option.bind_some]
/-! -/
def cl : List Bs → List Bs → List Bs
  | out, [] => out
  | out, p :: r => cl (bif p == ([46, 46] : Bs) then (bif r.isEmpty then out.dropLast ++ [[]] else out.dropLast) else bif p == ([46] : Bs) then (bif r.isEmpty then out ++ [[]] else out) else out ++ [p]) r
theorem hasPrefix_eq (V : Ev) (s : Bs) (h : s.length ≤ 1000000) : strings_HasPrefix_ V ((s, (([47] : Bs), ())), ()) = some ((match s with | c :: _ => c == 47 | [] => false, ()), ()) := by
  unfold strings_HasPrefix_ istringslite_HasPrefix_
  cases s with
  | nil => rfl
  | cons c s =>
    have h1 : decide (((c :: s).length : Int) ≥ ((([47] : Bs).length : Nat) : Int)) = true := decide_eq_true (by simp only [List.length_cons, List.length_nil]; omega)
    have h2 : sl (c :: s) 0 ((([47] : Bs).length : Nat) : Int) = some [c] := by
      rw [show (0 : Int) = ((0 : Nat) : Int) from rfl, sl_nat (Nat.zero_le _) (by simp)]; rfl
    simp -implicitDefEqProofs only [h1, h2, beq_self_eq_true, cond_true, Option.bind_some]
    have : ([c] == ([47] : Bs)) = (c == 47) := by simp
    rw [this]
def cleanP (s : Bs) : Bs := match s with
  | c :: r => bif c == 47 then 47 :: Lib.join (cl [] (spl r)) [47] else []
  | [] => []
theorem Clean_eq (N : Nat) (s : Bs) (hs : s.length + 2 < N) (hb : s.length ≤ 100000) : url_Clean_ (Ev.upto N) ((s, ()), ()) = some ((cleanP s, ()), ()) := by
  unfold url_Clean_ cleanP
  have hp := hasPrefix_eq (Ev.upto N) s (by omega)
  cases s with
  | nil => rw [hp]; rfl
  | cons c r =>
    simp -implicitDefEqProofs only [hp, Option.bind_some]
    cases hc : c == 47 with
    | false => rfl
    | true =>
      have s1 : sl (c :: r) 1 ((c :: r).length : Int) = some r := by
        rw [show (1 : Int) = ((1 : Nat) : Int) from rfl, sl_end (by simp)]; rfl
      have hsp := split_eq N r (by simp at hs; omega) (by simp at hb; omega)
      simp -implicitDefEqProofs only [Bool.not_true, cond_false, cond_true, s1, Option.bind_some, hsp]
      have hlen : (spl r).length ≤ r.length + 1 := by have := len_wt (spl r); rw [wt_spl] at this; exact this
      have hlen' : (spl r).length ≤ (c :: r).length := by simpa using hlen
      have hr1 : (c :: r).length = r.length + 1 := rfl
      apply wp_eq
      refine wp_bind ?_
      refine wp_for (σ := List Bs) (fun i out => ((((spl r).length : Int), ((i : Int), ())), ((spl r), (out, ())))) (fun i out => cl out ((spl r).drop i) = cl [] (spl r) ∧ wt out ≤ wt ((spl r).take i)) (spl r).length [] rfl ⟨by simp, by simp [wt]⟩ (by omega) ?_
      rintro i out hi ⟨hn, hw⟩
      have hwl : wt ((spl r).take i) ≤ r.length + 1 := by
        have := wt_append ((spl r).take i) ((spl r).drop i)
        rw [List.take_append_drop, wt_spl] at this
        omega
      have hol := len_wt out
      by_cases hi' : i < (spl r).length
      · have c0 : decide ((i : Int) < ((spl r).length : Int)) = true := decide_eq_true (by omega)
        have g1 : decide ((0 : Int) ≤ (i : Int)) = true := decide_eq_true (by omega)
        have g2 : (spl r)[((i : Int)).toNat]? = some (spl r)[i] := by rw [Int.toNat_natCast]; exact List.getElem?_eq_getElem hi'
        have w : IntKind.wrap .i64 ((i : Int) + 1) = ((i + 1 : Nat) : Int) := by rw [wrap64 (by omega) (by omega)]; omega
        have wl : IntKind.wrap .i64 (((spl r).length : Int) - 1) = (((spl r).length - 1 : Nat) : Int) := by rw [wrap64 (by omega) (by omega)]; omega
        have hlast : ((i : Int) == (((spl r).length - 1 : Nat) : Int)) = ((spl r).drop (i + 1)).isEmpty := by
          rw [Bool.eq_iff_iff]
          simp only [beq_iff_eq, List.isEmpty_iff, List.drop_eq_nil_iff]
          omega
        have s2 : sl out 0 (mx 0 (IntKind.wrap .i64 ((out.length : Int) - 1))) = some out.dropLast := by
          rw [wrap64 (by omega) (by omega)]
          have : mx 0 ((out.length : Int) - 1) = ((out.length - 1 : Nat) : Int) := by
            unfold mx; split <;> omega
          rw [this, show (0 : Int) = ((0 : Nat) : Int) from rfl, sl_nat (Nat.zero_le _) (by omega), List.drop_zero, List.dropLast_eq_take]
        have f1 : fits (out.length + ([(spl r)[i]] : List Bs).length) 16 = true := fits_of (by simp only [List.length_cons, List.length_nil] at hb ⊢; omega)
        have f2 : ∀ o : List Bs, o.length ≤ out.length → fits (o.length + ([([] : Bs)] : List Bs).length) 16 = true := fun o ho => fits_of (by simp only [List.length_cons, List.length_nil] at hb ⊢; omega)
        have f3 := f2 out (Nat.le_refl _)
        have f4 := f2 out.dropLast (by simp)
        have hdr : (spl r).drop i = (spl r)[i] :: (spl r).drop (i + 1) := List.drop_eq_getElem_cons hi'
        have htk : wt ((spl r).take (i + 1)) = wt ((spl r).take i) + ((spl r)[i].length + 1) := by rw [List.take_succ_eq_append_getElem hi', wt_append]; rfl
        have hwd := wt_dropLast out
        have h1 : wt [([] : Bs)] = 1 := rfl
        rw [hdr] at hn
        rw [cl] at hn
        simp -implicitDefEqProofs only [c0, cond_true, g1, Bool.true_and, g2, Option.bind_some, s2, wl, hlast, w]
        cases hdd : (spl r)[i] == ([46, 46] : Bs) with
        | true =>
          simp only [hdd, cond_true] at hn
          simp -implicitDefEqProofs only [cond_true, Option.bind_some, wl, hlast]
          cases he : ((spl r).drop (i + 1)).isEmpty with
          | true =>
            simp only [he, cond_true] at hn
            simp -implicitDefEqProofs only [f4, cond_true, Option.bind_some, w]
            exact ⟨_, rfl, hi', _, rfl, hn, by rw [wt_append]; omega⟩
          | false =>
            simp only [he, cond_false] at hn
            simp -implicitDefEqProofs only [cond_false, Option.bind_some, w]
            exact ⟨_, rfl, hi', _, rfl, hn, by omega⟩
        | false =>
          simp only [hdd, cond_false] at hn
          simp -implicitDefEqProofs only [cond_false]
          cases hd1 : (spl r)[i] == ([46] : Bs) with
          | true =>
            simp only [hd1, cond_true] at hn
            simp -implicitDefEqProofs only [cond_true, Option.bind_some, wl, hlast]
            cases he : ((spl r).drop (i + 1)).isEmpty with
            | true =>
              simp only [he, cond_true] at hn
              simp -implicitDefEqProofs only [f3, cond_true, Option.bind_some, w]
              exact ⟨_, rfl, hi', _, rfl, hn, by rw [wt_append]; omega⟩
            | false =>
              simp only [he, cond_false] at hn
              simp -implicitDefEqProofs only [cond_false, Option.bind_some, w]
              exact ⟨_, rfl, hi', _, rfl, hn, by omega⟩
          | false =>
            simp only [hd1, cond_false] at hn
            simp -implicitDefEqProofs only [cond_false, f1, cond_true, Option.bind_some, w]
            exact ⟨_, rfl, hi', _, rfl, hn, by rw [wt_append, htk]; simp only [wt_cons, show wt [] = 0 from rfl]; omega⟩
      · have c0 : decide ((i : Int) < ((spl r).length : Int)) = false := decide_eq_false (by omega)
        rw [List.drop_eq_nil_of_le (by omega)] at hn
        have hn : out = cl [] (spl r) := hn
        have hj := join_wt out
        have qj : strings_Join_ (Ev.upto N) ((([47] : Bs), ()), (out, ())) = some ((Lib.join out [47], ()), ()) := by
          unfold strings_Join_ gJoin maxB
          simp at hb
          rw [decide_eq_true (show (Lib.join out [47]).length ≤ 140737488355328 by omega), decide_eq_true (show out.length ≤ 140737488355328 by omega)]
          rfl
        have f5 : strFits (([47] : Bs).length + (Lib.join out [47]).length) = true := strFits_of (by simp at hb ⊢; omega)
        simp -implicitDefEqProofs only [c0, cond_false]
        refine ⟨_, rfl, ?_⟩
        simp -implicitDefEqProofs only [qj, Option.bind_some, f5, cond_true]
        exact ⟨_, rfl, by rw [hn]; rfl⟩
def dotsB (p : Bs) : Bool := p == ([46] : Bs) || p == ([46, 46] : Bs)
theorem cl_plain : ∀ (l out : List Bs), (∀ p, p ∈ l → dotsB p = false) → cl out l = out ++ l
  | [], out, _ => by simp [cl]
  | p :: r, out, h => by
    have hp := h p (List.mem_cons_self ..)
    unfold dotsB at hp
    simp only [Bool.or_eq_false_iff] at hp
    unfold cl
    rw [hp.1, hp.2, cond_false, cond_false, cl_plain r _ fun q hq => h q (List.mem_cons_of_mem _ hq)]
    simp
theorem cl_no : ∀ (l out : List Bs), (∀ p, p ∈ out → dotsB p = false ∧ (47 : UInt8) ∉ p) → (∀ p, p ∈ l → (47 : UInt8) ∉ p) → ∀ p, p ∈ cl out l → dotsB p = false ∧ (47 : UInt8) ∉ p
  | [], out, h, _, p, hp => h p hp
  | q :: r, out, h, hl, p, hp => by
    unfold cl at hp
    have hr := fun x hx => hl x (List.mem_cons_of_mem q hx)
    have hd : ∀ x, x ∈ out.dropLast → dotsB x = false ∧ (47 : UInt8) ∉ x := fun x hx => h x (List.dropLast_subset _ hx)
    have he : ∀ (o : List Bs), (∀ x, x ∈ o → dotsB x = false ∧ (47 : UInt8) ∉ x) → ∀ x, x ∈ o ++ [[]] → dotsB x = false ∧ (47 : UInt8) ∉ x := fun o ho x hx => by
      rcases List.mem_append.1 hx with hx | hx
      · exact ho x hx
      · rw [List.mem_singleton.1 hx]; exact ⟨rfl, by simp⟩
    refine cl_no r _ ?_ hr p hp
    cases h1 : q == ([46, 46] : Bs) with
    | true =>
      rw [cond_true]
      cases r.isEmpty
      · exact hd
      · exact he _ hd
    | false =>
      rw [cond_false]
      cases h2 : q == ([46] : Bs) with
      | true =>
        rw [cond_true]
        cases r.isEmpty
        · exact h
        · exact he _ h
      | false =>
        rw [cond_false]
        intro x hx
        rcases List.mem_append.1 hx with hx | hx
        · exact h x hx
        · rw [List.mem_singleton.1 hx]
          exact ⟨by unfold dotsB; rw [h1, h2]; rfl, hl q (List.mem_cons_self ..)⟩
def cleanB (s : Bs) : Bool := match s with
  | c :: r => c == 47 && (spl r).all fun p => !dotsB p
  | [] => false
theorem cleanP_beq (s : Bs) (h : (s == ([] : Bs)) = false) : (cleanP s == s) = cleanB s := by
  cases s with
  | nil => cases h
  | cons c r =>
    show ((bif c == 47 then 47 :: Lib.join (cl [] (spl r)) [47] else []) == c :: r) = (c == 47 && (spl r).all fun p => !dotsB p)
    cases hc : c == 47 with
    | false => rfl
    | true =>
      have hc' : c = 47 := by simpa using hc
      subst hc'
      rw [cond_true, Bool.true_and, Bool.eq_iff_iff]
      simp only [beq_iff_eq, List.cons.injEq, true_and, List.all_eq_true, Bool.not_eq_true']
      constructor
      · intro hj p hp
        by_cases hx : cl [] (spl r) = []
        · rw [hx, Lib.join_nil] at hj
          rw [← hj] at hp
          simp only [spl, List.mem_singleton] at hp
          rw [hp]; rfl
        · have hn := cl_no (spl r) [] (fun _ h => by cases h) (spl_pieces r)
          have := spl_join hx fun q hq => (hn q hq).2
          rw [hj] at this
          rw [this] at hp
          exact (hn p hp).1
      · intro h
        rw [cl_plain _ _ h, List.nil_append, join_spl]
/-! -/
abbrev Url := Bool × (Bs × (Bs × (Int × (Bs × Bs))))
def blanks : Bs := [9, 10, 12, 13, 32]
def trimB (s : Bs) : Bs := Lib.trimS s blanks
theorem contains_blank (c : UInt8) : blanks.contains c = ((c.toNat : Int) == 9 || ((c.toNat : Int) == 10 || ((c.toNat : Int) == 12 || ((c.toNat : Int) == 13 || (c.toNat : Int) == 32)))) := by
  have h : ∀ k : UInt8, (c == k) = ((c.toNat : Int) == (k.toNat : Int)) := fun k => by
    rw [Bool.eq_iff_iff]
    simp only [beq_iff_eq]
    constructor
    · rintro rfl; rfl
    · intro h; exact UInt8.toNat_inj.1 (by omega)
  unfold blanks
  simp only [List.contains_cons, List.contains_nil, Bool.or_false, h]
  rfl
theorem rblank_eq (V : Ev) (t : (Int × Unit) × Unit) : pounceref02_Blank_ V t = some ((t.1.1 == 9 || (t.1.1 == 10 || (t.1.1 == 12 || (t.1.1 == 13 || t.1.1 == 32))), ()), ()) := by
  unfold pounceref02_Blank_
  cases t.1.1 == (9 : Int) <;> cases t.1.1 == (10 : Int) <;> cases t.1.1 == (12 : Int) <;> cases t.1.1 == (13 : Int) <;> rfl
theorem rblank_at (V : Ev) (c : UInt8) : pounceref02_Blank_ V ((((c.toNat : Nat) : Int), ()), ()) = some ((blanks.contains c, ()), ()) := by
  rw [rblank_eq, contains_blank]
theorem rtrim_eq (N : Nat) (s : Bs) (hN : s.length + 1 < N) (hb : s.length ≤ 1000000) : pounceref02_Trim_ (Ev.upto N) ((s, ()), ()) = some ((trimB s, ()), ()) := by
  apply wp_eq
  unfold pounceref02_Trim_
  refine wp_bind ?_
  refine wp_for (σ := Unit) (fun i _ => ((s, ((i : Int), ())), ())) (fun i _ => ∀ (j : Nat) b, j < i → s[j]? = some b → blanks.contains b = true) s.length () rfl (fun j b h => by omega) (by omega) ?_
  rintro i _ hi hn
  have back : ∀ (from_ : Nat), from_ ≤ s.length → (∀ (j : Nat) b, j < from_ → s[j]? = some b → blanks.contains b = true) → (∀ b, s[from_]? = some b → blanks.contains b = false) →
      wp (((Ev.upto N).it (α := ((Bs × Int × Int × Unit) × (Unit))) (β := ((Bs × Int × Int × Unit) × (Unit))) (fun s6 => ((bif (decide (s6.1.2.2.1 > s6.1.2.1) == true) then ((idx s6.1.1 (IntKind.wrap .i64 (s6.1.2.2.1 - (1 : Int)))).bind fun v7 => ((pounceref02_Blank_ (Ev.upto N) ((((v7).toNat : Int), ()), ())).bind fun v8 => (some ((s6.1.1, (s6.1.2.1, (s6.1.2.2.1, (v8.1.1, ())))), ())))) else (some ((s6.1.1, (s6.1.2.1, (s6.1.2.2.1, (false, ())))), ()))).bind fun o9 => (bif o9.1.2.2.2.1 then (some (Sum.inl ((o9.1.1, (o9.1.2.1, ((IntKind.wrap .i64 (o9.1.2.2.1 - (1 : Int))), ()))), ()))) else (some (Sum.inr ((o9.1.1, (o9.1.2.1, (o9.1.2.2.1, ()))), ())))))) ((s, ((from_ : Int), ((s.length : Int), ()))), ())).bind fun o10 => ((sl o10.1.1 o10.1.2.1 o10.1.2.2.1).bind fun v11 => (some ((v11, ()), ())))) (fun r => r = ((trimB s, ()), ())) := by
    intro from_ hf h1 h2
    refine wp_bind ?_
    refine wp_it (fun a => ∃ k : Nat, a = ((s, ((from_ : Int), ((k : Int), ()))), ()) ∧ from_ ≤ k ∧ k ≤ s.length ∧ ∀ (j : Nat) b, k ≤ j → s[j]? = some b → blanks.contains b = true) (fun a => a.1.2.2.1.toNat) ⟨s.length, rfl, hf, Nat.le_refl _, fun j b hj hb => by rw [List.getElem?_eq_none (by omega)] at hb; cases hb⟩ (by simp; omega) ?_
    rintro _ ⟨k, rfl, hk1, hk2, hk3⟩
    have stop : (k = from_ ∨ ∃ h : k - 1 < s.length, 0 < k ∧ blanks.contains s[k - 1] = false) → trimB s = (s.take k).drop from_ := by
      intro h
      unfold trimB Lib.trimS
      by_cases hfk : from_ = s.length
      · have hk : k = s.length := by omega
        have hall : ∀ (j : Nat) b, 0 ≤ j → s[j]? = some b → blanks.contains b = true := fun j b _ hb => h1 j b (by rw [hfk]; exact (List.getElem?_eq_some_iff.1 hb).1) hb
        rw [Lib.trimRightS_take s blanks 0 (Nat.zero_le _) hall (fun b h0 => absurd h0 (by omega)), hk, hfk, List.take_length, List.drop_length]
        rfl
      · have hlt : from_ < s.length := by omega
        have hnb := h2 _ (List.getElem?_eq_getElem hlt)
        have hkf : from_ < k := by
          rcases Nat.lt_or_ge from_ k with h' | h'
          · exact h'
          · have := hk3 from_ _ h' (List.getElem?_eq_getElem hlt)
            rw [hnb] at this; cases this
        have hlast : ∀ b, 0 < k → s[k - 1]? = some b → blanks.contains b = false := by
          intro b _ hb
          rcases h with h | ⟨h3, h4, h5⟩
          · omega
          · rw [List.getElem?_eq_getElem h3] at hb; cases hb; exact h5
        rw [Lib.trimRightS_take s blanks k hk2 hk3 hlast]
        refine Lib.trimLeftS_drop _ blanks from_ (by simp; omega) (fun j b hj hb => ?_) (fun b hb => ?_)
        · rw [List.getElem?_take, if_pos (by omega)] at hb
          exact h1 j b hj hb
        · rw [List.getElem?_take, if_pos hkf] at hb
          exact h2 b hb
    have fin : trimB s = (s.take k).drop from_ → wp ((sl s (from_ : Int) (k : Int)).bind fun v11 => (some ((v11, ()), ()) : Option ((Bs × Unit) × Unit))) (fun r => r = ((trimB s, ()), ())) := fun h => by
      rw [sl_nat hk1 hk2]
      exact ⟨_, rfl, by rw [h]⟩
    by_cases hgt : from_ < k
    · have c0 : decide ((k : Int) > (from_ : Int)) = true := decide_eq_true (by omega)
      have w : IntKind.wrap .i64 ((k : Int) - 1) = ((k - 1 : Nat) : Int) := by rw [wrap64 (by omega) (by omega)]; omega
      have hk' : k - 1 < s.length := by omega
      have qb := rblank_at (Ev.upto N) s[k - 1]
      simp -implicitDefEqProofs only [c0, beq_self_eq_true, cond_true, w, idx_nat hk', Option.bind_some, qb]
      cases hc : blanks.contains s[k - 1] with
      | true =>
        refine wp_some ⟨⟨k - 1, by simp only [w], by omega, by omega, fun j b hj hb => ?_⟩, by simp only [w, Int.toNat_natCast]; omega⟩
        rcases Nat.lt_or_ge j k with h' | h'
        · obtain rfl : j = k - 1 := by omega
          rw [List.getElem?_eq_getElem hk'] at hb; cases hb; exact hc
        · exact hk3 j b h' hb
      | false => exact wp_some (fin (stop (.inr ⟨hk', by omega, hc⟩)))
    · have c0 : decide ((k : Int) > (from_ : Int)) = false := decide_eq_false (by omega)
      simp -implicitDefEqProofs only [c0, show (false == true) = false from rfl, cond_false, Option.bind_some]
      exact wp_some (fin (stop (.inl (by omega))))
  by_cases hi' : i < s.length
  · have c0 : decide ((i : Int) < (s.length : Int)) = true := decide_eq_true (by omega)
    have w : IntKind.wrap .i64 ((i : Int) + 1) = ((i + 1 : Nat) : Int) := by rw [wrap64 (by omega) (by omega)]; omega
    have qb := rblank_at (Ev.upto N) s[i]
    simp -implicitDefEqProofs only [c0, beq_self_eq_true, cond_true, idx_nat hi', Option.bind_some, qb]
    cases hc : blanks.contains s[i] with
    | true =>
      refine wp_some ⟨hi', (), by simp only [w], fun j b hj hb => ?_⟩
      rcases Nat.lt_or_ge j i with h' | h'
      · exact hn j b h' hb
      · obtain rfl : j = i := by omega
        rw [List.getElem?_eq_getElem hi'] at hb; cases hb; exact hc
    | false => exact wp_some (back i (by omega) hn fun b hb => by rw [List.getElem?_eq_getElem hi'] at hb; cases hb; exact hc)
  · have c0 : decide ((i : Int) < (s.length : Int)) = false := decide_eq_false (by omega)
    obtain rfl : i = s.length := by omega
    simp -implicitDefEqProofs only [c0, show (false == true) = false from rfl, cond_false, Option.bind_some]
    exact wp_some (back s.length (Nat.le_refl _) hn fun b hb => by rw [List.getElem?_eq_none (Nat.le_refl _)] at hb; cases hb)
/-! -/
theorem itoa_eq (V : Ev) (n : Int) (h0 : 0 ≤ n) : strconv_Itoa_ V ((n, ()), ()) = some ((digs 20 n.toNat, ()), ()) := by
  have : istrconv_Itoa_ V ((n, ()), ()) = some ((digs 20 n.toNat, ()), ()) := by
    unfold istrconv_Itoa_ gItoa
    rw [decide_eq_false (show ¬ n < 0 by omega)]
    rfl
  unfold strconv_Itoa_
  simp -implicitDefEqProofs only [this, Option.bind_some]
theorem digit_one : ∀ (n : Nat), n < 10 → sl ([48, 49, 50, 51, 52, 53, 54, 55, 56, 57] : Bs) (n : Int) (IntKind.wrap .i64 ((n : Int) + 1)) = some [UInt8.ofNat (48 + n)] := by decide +kernel
theorem digs_step (k u : Nat) (h : 10 ≤ u) : digs (k + 1) u = digs k (u / 10) ++ digs 1 (u % 10) := by
  rw [digs, decide_eq_false (by omega), cond_false]
  congr 1
  rw [digs, decide_eq_true (by omega), cond_true]
theorem Digits_eq (V : Ev) : ∀ (k u : Nat), u < 10 ^ k → k ≤ 10 → ∀ m, k ≤ m → pounceref05_Digits_N V (m + 1) (((u : Int), ()), ()) = some ((digs (k + 1) u, ()), ())
  | 0, u, h, _, m, _ => by
    obtain rfl : u = 0 := by simp at h; exact h
    rfl
  | k + 1, u, h, hk, m, hm => by
    obtain ⟨m, rfl⟩ : ∃ x, m = x + 1 := ⟨m - 1, by omega⟩
    show pounceref05_Digits_B V (pounceref05_Digits_N V (m + 1)) (((u : Int), ()), ()) = _
    have hu : u < 10 ^ 11 := Nat.lt_of_lt_of_le h (Nat.pow_le_pow_right (by decide) (by omega))
    unfold pounceref05_Digits_B
    by_cases h10 : u < 10
    · have c0 : decide ((u : Int) < 10) = true := decide_eq_true (by omega)
      simp -implicitDefEqProofs only [c0, cond_true, digit_one u h10, Option.bind_some]
      rw [digs, decide_eq_true h10, cond_true]
    · have c0 : decide ((u : Int) < 10) = false := decide_eq_false (by omega)
      have e1 : IntKind.wrap .i64 (Int.tdiv (u : Int) 10) = ((u / 10 : Nat) : Int) := by
        rw [Int.tdiv_eq_ediv_of_nonneg (by omega), wrap64 (by omega) (by omega)]; omega
      have e2 : Int.tmod (u : Int) 10 = ((u % 10 : Nat) : Int) := by rw [Int.tmod_eq_emod_of_nonneg (by omega)]; omega
      have e3 : rngB .i64 ((u % 10 : Nat) : Int) = true := by
        simp [rngB, IntKind.min, IntKind.max, IntKind.signed, IntKind.bits]; omega
      have nz : ((10 : Int) != 0) = true := rfl
      have q1 := Digits_eq V k (u / 10) (by rw [Nat.pow_succ] at h; omega) (by omega) m (by omega)
      have q2 : pounceref05_Digits_N V (m + 1) ((((u % 10 : Nat) : Int), ()), ()) = some ((digs 1 (u % 10), ()), ()) := by
        show pounceref05_Digits_B V (pounceref05_Digits_N V m) ((((u % 10 : Nat) : Int), ()), ()) = _
        unfold pounceref05_Digits_B
        have c1 : decide (((u % 10 : Nat) : Int) < 10) = true := decide_eq_true (by omega)
        simp -implicitDefEqProofs only [c1, cond_true, digit_one (u % 10) (by omega), Option.bind_some]
        rw [digs, decide_eq_true (by omega), cond_true]
      have l1 := digs_le (k + 1) (u / 10)
      have l2 := digs_le 1 (u % 10)
      have f : strFits ((digs (k + 1) (u / 10)).length + (digs 1 (u % 10)).length) = true := strFits_of (by omega)
      simp -implicitDefEqProofs only [c0, cond_false, e1, q1, Option.bind_some, e2, nz, e3, Bool.and_self, cond_true, q2, f]
      rw [digs_step (k + 1) u (by omega)]
theorem rdigits_eq (N : Nat) (n : Int) (h0 : 0 ≤ n) (h1 : n ≤ 65535) (hN : 20 < N) : pounceref05_Digits_ (Ev.upto N) ((n, ()), ()) = some ((digs 20 n.toNat, ()), ()) := by
  obtain ⟨u, rfl⟩ := Int.eq_ofNat_of_zero_le h0
  have h := Digits_eq (Ev.upto N) 5 u (by omega) (by decide) (N - 1) (by omega)
  rw [show N - 1 + 1 = N by omega, digs_eq 6 u (by omega) (by decide)] at h
  rw [Int.toNat_natCast, digs_eq 20 u (by omega) (by decide)]
  exact h
/-! -/
def visI (n : Int) : Bool := decide (n > 32) && (decide (n < 127) && (n != 63 && n != 35))
theorem byteOf_eq (V : Ev) (n : Int) : url_byteOf_ V ((n, ()), ()) = some ((visI n, ()), ()) := by
  unfold url_byteOf_ visI
  cases decide (n > 32) <;> cases decide (n < 127) <;> cases (n != 63) <;> rfl
def opqI (n : Int) : Bool := decide (n ≥ 32) && (decide (n < 127) && n != 35)
theorem check1_eq (V : Ev) (n : Int) : url_Check_1_ V ((n, ()), ()) = some ((opqI n, ()), ()) := by
  unfold url_Check_1_ opqI
  cases decide (n ≥ 32) <;> cases decide (n < 127) <;> rfl
theorem check2_eq (V : Ev) (n : Int) : url_Check_2_ V ((n, ()), ()) = some ((visI n || n == 63, ()), ()) := by
  unfold url_Check_2_
  have q := byteOf_eq V n
  simp -implicitDefEqProofs only [q, Option.bind_some]
  cases visI n <;> rfl
theorem all315_eq (N : Nat) (s : Bs) (hs : s.length < N) (hb : s.length ≤ 1000000) : url_all_315 (Ev.upto N) ((s, ()), ()) = some ((s.all fun c => visI (c.toNat : Int), ()), ()) := all_loop N s (fun n => url_byteOf_ (Ev.upto N) ((n, ()), ())) visI (byteOf_eq _) hs hb
theorem all890_eq (N : Nat) (s : Bs) (hs : s.length < N) (hb : s.length ≤ 1000000) : url_all_890 (Ev.upto N) ((s, ()), ()) = some ((s.all fun c => opqI (c.toNat : Int), ()), ()) := all_loop N s (fun n => url_Check_1_ (Ev.upto N) ((n, ()), ())) opqI (check1_eq _) hs hb
theorem allaf7_eq (N : Nat) (s : Bs) (hs : s.length < N) (hb : s.length ≤ 1000000) : url_all_af7 (Ev.upto N) ((s, ()), ()) = some ((s.all fun c => visI (c.toNat : Int) || (c.toNat : Int) == 63, ()), ()) := all_loop N s (fun n => url_Check_2_ (Ev.upto N) ((n, ()), ())) (fun n => visI n || n == 63) (check2_eq _) hs hb
theorem visible_eq (N : Nat) (s : Bs) (a b : Int) (hs : s.length < N) (hb : s.length ≤ 1000000) : pounceref05_visible_ (Ev.upto N) ((s, (a, (b, ()))), ()) = some ((s.all fun c => !(decide ((c.toNat : Int) < 33) || (decide ((c.toNat : Int) > 126) || ((c.toNat : Int) == a || (c.toNat : Int) == b))), ()), ()) := by
  apply wp_eq
  unfold pounceref05_visible_
  refine wp_bind ?_
  refine wp_for (σ := Unit) (fun i _ => ((s, (a, (b, ((i : Int), ())))), ())) (fun i _ => (s.take i).all (fun c => !(decide ((c.toNat : Int) < 33) || (decide ((c.toNat : Int) > 126) || ((c.toNat : Int) == a || (c.toNat : Int) == b)))) = true) s.length () rfl (by simp) hs ?_
  rintro i _ hi hn
  by_cases hi' : i < s.length
  · have c0 : decide ((i : Int) < (s.length : Int)) = true := decide_eq_true (by omega)
    have w : IntKind.wrap .i64 ((i : Int) + 1) = ((i + 1 : Nat) : Int) := by rw [wrap64 (by omega) (by omega)]; omega
    simp -implicitDefEqProofs only [c0, cond_true, idx_nat hi', Option.bind_some]
    cases h1 : decide ((s[i].toNat : Int) < 33) <;> cases h2 : decide ((s[i].toNat : Int) > 126) <;> cases h3 : ((s[i].toNat : Int) == a) <;> cases h4 : ((s[i].toNat : Int) == b) <;>
      first
      | exact ⟨_, rfl, hi', (), by simp only [w], by rw [all_take hi', hn, Bool.true_and]; simp only [h1, h2, h3, h4]; rfl⟩
      | exact ⟨_, rfl, _, rfl, by rw [all_no hi' (by simp only [h1, h2, h3, h4]; rfl)]⟩
  · have c0 : decide ((i : Int) < (s.length : Int)) = false := decide_eq_false (by omega)
    rw [List.take_of_length_le (by omega)] at hn
    simp -implicitDefEqProofs only [c0, cond_false]
    exact ⟨_, rfl, _, rfl, by rw [hn]⟩
theorem vis_two (n : Int) : (!(decide (n < 33) || (decide (n > 126) || (n == 63 || n == 35)))) = visI n := by
  unfold visI
  rw [Bool.eq_iff_iff]
  simp only [Bool.not_eq_true', Bool.or_eq_false_iff, decide_eq_false_iff_not, beq_eq_false_iff_ne, Bool.and_eq_true, decide_eq_true_eq, bne_iff_ne]
  omega
theorem vis_one (n : Int) : (!(decide (n < 33) || (decide (n > 126) || (n == 35 || n == 35)))) = (visI n || n == 63) := by
  unfold visI
  rw [Bool.eq_iff_iff]
  simp only [Bool.not_eq_true', Bool.or_eq_false_iff, decide_eq_false_iff_not, beq_eq_false_iff_ne, Bool.and_eq_true, Bool.or_eq_true, decide_eq_true_eq, bne_iff_ne, beq_iff_eq]
  omega
theorem opq_vis (n : Int) : (!(decide (n < 32) || (decide (n > 126) || n == 35))) = opqI n := by
  unfold opqI
  rw [Bool.eq_iff_iff]
  simp only [Bool.not_eq_true', Bool.or_eq_false_iff, decide_eq_false_iff_not, beq_eq_false_iff_ne, Bool.and_eq_true, decide_eq_true_eq, bne_iff_ne]
  omega
theorem rest_eq (N : Nat) (s : Bs) (hs : s.length + 1 < N) (hb : s.length ≤ 1000000) : pounceref05_rest_ (Ev.upto N) ((s, ()), ()) = some (((s.all fun c => opqI (c.toNat : Int)) && (trimB s == s), ()), ()) := by
  apply wp_eq
  unfold pounceref05_rest_
  refine wp_bind ?_
  refine wp_for (σ := Unit) (fun i _ => ((s, ((i : Int), ())), ())) (fun i _ => (s.take i).all (fun c => opqI (c.toNat : Int)) = true) s.length () rfl (by simp) (by omega) ?_
  rintro i _ hi hn
  by_cases hi' : i < s.length
  · have c0 : decide ((i : Int) < (s.length : Int)) = true := decide_eq_true (by omega)
    have w : IntKind.wrap .i64 ((i : Int) + 1) = ((i + 1 : Nat) : Int) := by rw [wrap64 (by omega) (by omega)]; omega
    simp -implicitDefEqProofs only [c0, cond_true, idx_nat hi', Option.bind_some]
    have hx := opq_vis (s[i].toNat : Int)
    cases h1 : decide ((s[i].toNat : Int) < 32) <;> cases h2 : decide ((s[i].toNat : Int) > 126) <;> cases h3 : ((s[i].toNat : Int) == 35) <;> simp only [h1, h2, h3] at hx <;>
      first
      | exact ⟨_, rfl, hi', (), by simp only [w], by rw [all_take hi', hn, ← hx]; rfl⟩
      | exact ⟨_, rfl, _, rfl, by rw [show s.all (fun c => opqI (c.toNat : Int)) = false from all_no hi' hx.symm, Bool.false_and]⟩
  · have c0 : decide ((i : Int) < (s.length : Int)) = false := decide_eq_false (by omega)
    rw [List.take_of_length_le (by omega)] at hn
    have qt := rtrim_eq N s hs hb
    simp -implicitDefEqProofs only [c0, cond_false]
    refine ⟨_, rfl, ?_⟩
    simp -implicitDefEqProofs only [qt, Option.bind_some]
    exact ⟨_, rfl, by rw [hn]; rfl⟩
theorem pieces_eq (N : Nat) (c : UInt8) (r : Bs) (hs : r.length + 3 < N) (hb : r.length ≤ 100000) : pounceref05_Pieces_ (Ev.upto N) (((c :: r), ()), ()) = some ((), (spl r, ())) := by
  apply wp_eq
  unfold pounceref05_Pieces_
  refine wp_bind ?_
  refine wp_for (σ := Nat × List Bs) (fun i z => (((c :: r), (((z.1 + 1 : Nat) : Int), (((i + 1 : Nat) : Int), ()))), (z.2, ())))
    (fun i z => if i ≤ r.length then z.1 ≤ i ∧ z.2 ++ spl (r.drop z.1) = spl r ∧ (47 : UInt8) ∉ (r.drop z.1).take (i - z.1) else z.2 = spl r) (r.length + 1) (0, []) rfl (by simp) (by omega) ?_
  rintro i ⟨f, l⟩ hi hn
  have hr1 : (c :: r).length = r.length + 1 := rfl
  by_cases hi' : i ≤ r.length
  · rw [if_pos hi'] at hn
    obtain ⟨h1, h2, h3⟩ := hn
    simp only at h1 h2 h3
    have hll : l.length ≤ r.length + 1 := by
      have h4 := len_wt l
      have h5 := wt_append l (spl (r.drop f))
      rw [h2, wt_spl] at h5
      omega
    have c0 : decide (((i + 1 : Nat) : Int) ≤ ((c :: r).length : Int)) = true := decide_eq_true (by omega)
    have w : IntKind.wrap .i64 (((i + 1 : Nat) : Int) + 1) = ((i + 1 + 1 : Nat) : Int) := by rw [wrap64 (by omega) (by omega)]; omega
    have s1 : sl (c :: r) ((f + 1 : Nat) : Int) ((i + 1 : Nat) : Int) = some ((r.drop f).take (i - f)) := by
      rw [sl_nat (by omega) (by omega), List.take_succ_cons, List.drop_succ_cons, List.drop_take]
    have ff : ∀ p : Bs, fits (l.length + ([p] : List Bs).length) 16 = true := fun p => fits_of (by simp only [List.length_cons, List.length_nil]; omega)
    by_cases he : i = r.length
    · have e0 : (((i + 1 : Nat) : Int) == ((c :: r).length : Int)) = true := by simp only [beq_iff_eq]; omega
      simp -implicitDefEqProofs only [c0, cond_true, e0, show (true == false) = false from rfl, cond_false, Option.bind_some, s1, ff, w]
      refine ⟨_, rfl, by omega, (i + 1, _), rfl, ?_⟩
      rw [if_neg (by omega)]
      simp only
      rw [← h2]
      have h4 : (r.drop f).take (i - f) = r.drop f := List.take_of_length_le (by simp; omega)
      rw [h4] at h3 ⊢
      rw [spl_no h3]
    · have e0 : (((i + 1 : Nat) : Int) == ((c :: r).length : Int)) = false := by simp only [beq_eq_false_iff_ne]; omega
      have hlt : i < r.length := by omega
      have g : idx (c :: r) ((i + 1 : Nat) : Int) = some r[i] := by rw [idx_nat (show i + 1 < (c :: r).length by omega)]; rfl
      have hdt : (r.drop f).take (i + 1 - f) = (r.drop f).take (i - f) ++ [r[i]] := by
        rw [show i + 1 - f = (i - f) + 1 by omega, List.take_succ_eq_append_getElem (by simp; omega)]
        congr 2
        rw [List.getElem_drop]; congr 1; omega
      simp -implicitDefEqProofs only [c0, cond_true, e0, beq_self_eq_true, g, Option.bind_some]
      cases hc : ((r[i].toNat : Int) == 47) with
      | true =>
        have hc' : r[i] = 47 := by
          apply UInt8.toNat_inj.1
          have : (r[i].toNat : Int) = 47 := by simpa using hc
          show r[i].toNat = 47
          omega
        simp -implicitDefEqProofs only [cond_true, s1, Option.bind_some, ff, w]
        refine ⟨_, rfl, by omega, (i + 1, _), rfl, ?_⟩
        rw [if_pos (by omega)]
        refine ⟨Nat.le_refl _, ?_, by simp⟩
        simp only
        rw [← h2, List.append_assoc]
        congr 1
        have : r.drop f = (r.drop f).take (i - f) ++ 47 :: r.drop (i + 1) := by
          conv => lhs; rw [← List.take_append_drop (i - f) (r.drop f), List.drop_drop, show f + (i - f) = i by omega, List.drop_eq_getElem_cons hlt, hc']
        conv => rhs; rw [this, spl_cut _ h3]
        rfl
      | false =>
        have hc' : ¬ (47 : UInt8) = r[i] := fun e => by rw [← e] at hc; simp at hc
        simp -implicitDefEqProofs only [cond_false, Option.bind_some, w]
        refine ⟨_, rfl, by omega, (f, l), rfl, ?_⟩
        rw [if_pos (by omega)]
        refine ⟨by simp only; omega, h2, ?_⟩
        simp only
        rw [hdt]
        intro hm
        rcases List.mem_append.1 hm with hm | hm
        · exact h3 hm
        · exact hc' (List.mem_singleton.1 hm)
  · rw [if_neg hi'] at hn
    have c0 : decide (((i + 1 : Nat) : Int) ≤ ((c :: r).length : Int)) = false := decide_eq_false (by omega)
    simp -implicitDefEqProofs only [c0, cond_false]
    exact ⟨_, rfl, _, rfl, by rw [← hn]⟩
theorem dots_loop (N : Nat) (l : List Bs) (hs : l.length < N) (hb : l.length ≤ 1000000) (step : ((Int × Unit) × (List Bs × Unit)) → Option (((Int × Unit) × (List Bs × Unit)) ⊕ ((Unit × Unit) ⊕ ((Bool × Unit) × Unit))))
    (h1 : ∀ (i : Nat) (h : i < l.length), step (((i : Int), ()), (l, ())) = some (bif dotsB l[i] then .inr (.inr ((false, ()), ())) else .inl ((IntKind.wrap .i64 ((i : Int) + 1), ()), (l, ())))) (h2 : step (((l.length : Int), ()), (l, ())) = some (.inr (.inl ((), ())))) :
    (Ev.upto N).it step (((0 : Int), ()), (l, ())) = some (bif l.all (fun p => !dotsB p) then .inl ((), ()) else .inr ((false, ()), ())) := by
  apply wp_eq
  refine wp_for (σ := Unit) (fun i _ => (((i : Int), ()), (l, ()))) (fun i _ => (l.take i).all (fun p => !dotsB p) = true) l.length () rfl (by simp) hs ?_
  rintro i _ hi hn
  by_cases hi' : i < l.length
  · have w : IntKind.wrap .i64 ((i : Int) + 1) = ((i + 1 : Nat) : Int) := by rw [wrap64 (by omega) (by omega)]; omega
    rw [h1 i hi', w]
    cases hc : dotsB l[i] with
    | true => exact ⟨_, rfl, by rw [all_no hi' (by rw [hc]; rfl)]; rfl⟩
    | false => exact ⟨_, rfl, hi', (), rfl, by rw [all_take hi', hn, hc]; rfl⟩
  · obtain rfl : i = l.length := by omega
    rw [List.take_of_length_le (Nat.le_refl _)] at hn
    rw [h2]
    exact ⟨_, rfl, by rw [hn]; rfl⟩
theorem clean_eq (N : Nat) (s : Bs) (hs : s.length + 3 < N) (hb : s.length ≤ 100000) : pounceref05_clean_ (Ev.upto N) ((s, ()), ()) = some ((cleanB s && s.all fun c => visI (c.toNat : Int), ()), ()) := by
  unfold pounceref05_clean_
  cases s with
  | nil => rfl
  | cons c r =>
    have hr1 : (c :: r).length = r.length + 1 := rfl
    have qv := visible_eq N (c :: r) 63 35 (by omega) (by omega)
    simp only [vis_two] at qv
    have hc : ((c.toNat : Int) != 47) = !(c == 47) := by
      have : (c == 47) = ((c.toNat : Int) == 47) := by
        rw [Bool.eq_iff_iff]
        simp only [beq_iff_eq]
        constructor
        · rintro rfl; rfl
        · intro h; exact UInt8.toNat_inj.1 (by show c.toNat = 47; omega)
      rw [this]; rfl
    have hcl : cleanB (c :: r) = (c == 47 && (spl r).all fun p => !dotsB p) := rfl
    simp -implicitDefEqProofs only [nil_beq_cons, beq_self_eq_true, cond_true, idx_zero, Option.bind_some, hc, hcl]
    cases h1 : c == 47 with
    | false => rfl
    | true =>
      simp -implicitDefEqProofs only [Bool.not_true, beq_self_eq_true, cond_true, qv, Option.bind_some, Bool.true_and]
      cases h2 : (c :: r).all fun c => visI (c.toNat : Int) with
      | false => simp only [Bool.and_false]; rfl
      | true =>
        have qp := pieces_eq N c r (by omega) (by omega)
        have hlen : (spl r).length ≤ r.length + 1 := by have := len_wt (spl r); rw [wt_spl] at this; exact this
        have ql := dots_loop N (spl r) (by omega) (by omega) (fun s5 => (bif decide (s5.1.1 < ((s5.2.1).length : Int)) then ((bif (decide (0 ≤ s5.1.1) && decide (s5.1.1 < ((s5.2.1).length : Int))) then ((s5.2.1)[(s5.1.1).toNat]?.bind fun v6 => (bif ((v6 == ([46] : Bs)) == false) then (bif (decide (0 ≤ s5.1.1) && decide (s5.1.1 < ((s5.2.1).length : Int))) then ((s5.2.1)[(s5.1.1).toNat]?.bind fun v7 => (some ((s5.1.1, ((v7 == ([46, 46] : Bs)), ())), (s5.2.1, ())))) else none) else (some ((s5.1.1, (true, ())), (s5.2.1, ()))))) else none).bind fun o8 => (bif o8.1.2.1 then (some (Sum.inr (Sum.inr ((false, ()), ())))) else (some (Sum.inl (((IntKind.wrap .i64 (o8.1.1 + (1 : Int))), ()), (o8.2.1, ())))))) else (some (Sum.inr (Sum.inl ((), ()))))))
          (fun i h => by
            have c0 : decide ((i : Int) < ((spl r).length : Int)) = true := decide_eq_true (by omega)
            have g1 : decide ((0 : Int) ≤ (i : Int)) = true := decide_eq_true (by omega)
            have g2 : (spl r)[((i : Int)).toNat]? = some (spl r)[i] := by rw [Int.toNat_natCast]; exact List.getElem?_eq_getElem h
            unfold dotsB
            simp -implicitDefEqProofs only [c0, g1, g2, Bool.and_self, cond_true, Option.bind_some]
            cases ((spl r)[i] == ([46] : Bs)) <;> cases ((spl r)[i] == ([46, 46] : Bs)) <;> rfl)
          (by simp -implicitDefEqProofs only [show decide (((spl r).length : Int) < ((spl r).length : Int)) = false from decide_eq_false (by omega), cond_false])
        simp -implicitDefEqProofs only [Bool.not_true, cond_false, qp, Option.bind_some, Bool.and_true]
        refine (congrArg (fun o => Option.bind o _) ql).trans ?_
        cases (spl r).all fun p => !dotsB p <;> rfl
theorem byte46 (c : UInt8) : ((c.toNat : Int) == 46) = (c == 46) := by
  rw [Bool.eq_iff_iff]
  simp only [beq_iff_eq]
  constructor
  · intro h; exact UInt8.toNat_inj.1 (by show c.toNat = 46; omega)
  · rintro rfl; rfl
def dotsOK (s : Bs) : Bool := (s.all fun c => hstI (c.toNat : Int)) && noDD (46 :: s)
theorem noDD_take (s : Bs) (i : Nat) (h : i < s.length) : noDD (46 :: s.take (i + 1)) = (noDD (46 :: s.take i) && !((if h0 : i = 0 then (46 : UInt8) else s[i - 1]) == 46 && s[i] == 46)) := by
  rw [List.take_succ_eq_append_getElem h]
  by_cases h0 : i = 0
  · subst h0
    show noDD (([] : Bs) ++ ([46] : Bs) ++ [s[0]]) = _
    rw [noDD_snoc]
    rfl
  · rw [dif_neg h0]
    have : s.take i = s.take (i - 1) ++ [s[i - 1]] := by
      have := List.take_succ_eq_append_getElem (show i - 1 < s.length by omega)
      rwa [show i - 1 + 1 = i by omega] at this
    rw [this, show (46 : UInt8) :: (s.take (i - 1) ++ [s[i - 1]] ++ [s[i]]) = (46 :: s.take (i - 1)) ++ [s[i - 1]] ++ [s[i]] from rfl, noDD_snoc]
    rfl
theorem noDD_mono (l : Bs) (a b : UInt8) (h : noDD (l ++ [a]) = false) : noDD (l ++ [a] ++ [b]) = false := by rw [noDD_snoc, h]; rfl
theorem noDD_prefix : ∀ (r l : Bs), noDD l = false → noDD (l ++ r) = false
  | [], l, h => by rwa [List.append_nil]
  | b :: r, l, h => by
    rcases List.eq_nil_or_concat l with rfl | ⟨m, a, rfl⟩
    · cases h
    · rw [List.concat_eq_append] at h ⊢
      rw [show m ++ [a] ++ b :: r = (m ++ [a] ++ [b]) ++ r by simp]
      exact noDD_prefix r _ (noDD_mono m a b h)
theorem dotsOK_take (s : Bs) (i : Nat) (h : dotsOK (s.take i) = false) : dotsOK s = false := by
  unfold dotsOK at h ⊢
  cases h1 : (s.take i).all fun c => hstI (c.toNat : Int) with
  | false =>
    have : s.all (fun c => hstI (c.toNat : Int)) = false := by
      rw [← List.take_append_drop i s, List.all_append, h1, Bool.false_and]
    rw [this, Bool.false_and]
  | true =>
    rw [h1, Bool.true_and] at h
    have := noDD_prefix (s.drop i) _ h
    rw [List.cons_append, List.take_append_drop] at this
    rw [this, Bool.and_false]
theorem hostB_alt (c : UInt8) (s : Bs) : ((c :: s).all (fun c => hstI (c.toNat : Int)) && noDD (46 :: (c :: s) ++ [46])) = (!((c.toNat : Int) == 46) && (!(((c :: s)[(c :: s).length - 1]'(by simp)).toNat == (46 : Int)) && dotsOK (c :: s))) := by
  have hl : (46 :: (c :: s) ++ [46] : Bs) = (46 :: (c :: s).dropLast) ++ [(c :: s)[(c :: s).length - 1]'(by simp)] ++ [46] := by
    have h1 : (c :: s) = (c :: s).dropLast ++ [(c :: s)[(c :: s).length - 1]'(by simp)] := by
      have := List.dropLast_concat_getLast (l := c :: s) (by simp)
      rw [List.getLast_eq_getElem] at this
      exact this.symm
    conv => lhs; rw [h1]
    rfl
  have h2 : (46 :: (c :: s).dropLast ++ [(c :: s)[(c :: s).length - 1]'(by simp)] : Bs) = 46 :: (c :: s) := by
    have := List.dropLast_concat_getLast (l := c :: s) (by simp)
    rw [List.getLast_eq_getElem] at this
    rw [List.cons_append, this]
  rw [hl, noDD_snoc, h2]
  have hb : (((c :: s)[(c :: s).length - 1]'(by simp)).toNat == (46 : Int)) = ((c :: s)[(c :: s).length - 1]'(by simp) == 46) := byte46 _
  have hc : ((c.toNat : Int) == 46) = (c == 46) := byte46 c
  rw [hb, hc]
  unfold dotsOK
  have hn : noDD (46 :: c :: s) = (!((46 : UInt8) == 46 && c == 46) && noDD (c :: s)) := rfl
  rw [hn]
  simp only [beq_self_eq_true, Bool.true_and, Bool.and_true]
  cases (c :: s).all (fun c => hstI (c.toNat : Int)) <;> cases (c == 46) <;> cases noDD (c :: s) <;> cases ((c :: s)[(c :: s).length - 1]'(by simp) == 46) <;> rfl
theorem rhost_eq (N : Nat) (s : Bs) (hN : 101 < N) : pounceref05_Host_ (Ev.upto N) ((s, ()), ()) = some ((hostB s, ()), ()) := by
  unfold pounceref05_Host_ hostB
  cases s with
  | nil => rfl
  | cons c s =>
    rw [show ((46 : UInt8) :: (c :: s) ++ [46]) = (46 :: (c :: s) ++ [46]) from rfl, hostB_alt]
    have hl0 : decide (((c :: s).length : Int) < 1) = false := decide_eq_false (by simp only [List.length_cons]; omega)
    simp -implicitDefEqProofs only [hl0, beq_self_eq_true, cond_true, nil_beq_cons, Bool.not_false, Bool.true_and]
    by_cases hl : ((c :: s).length : Int) ≤ 100
    · have e1 : decide (((c :: s).length : Int) > 100) = false := decide_eq_false (by omega)
      have e2 : decide (((c :: s).length : Int) ≤ 100) = true := decide_eq_true hl
      have hr1 : (c :: s).length = s.length + 1 := rfl
      have w0 : IntKind.wrap .i64 (((c :: s).length : Int) - 1) = (((c :: s).length - 1 : Nat) : Int) := by rw [wrap64 (by omega) (by omega)]; omega
      have i0 : idx (c :: s) (((c :: s).length - 1 : Nat) : Int) = some ((c :: s)[(c :: s).length - 1]'(by simp)) := idx_nat (by omega)
      simp -implicitDefEqProofs only [e1, e2, beq_self_eq_true, cond_true, idx_zero, Option.bind_some, w0, i0, Bool.true_and]
      cases h1 : ((c.toNat : Int) == 46) with
      | true => rfl
      | false =>
        simp -implicitDefEqProofs only [beq_self_eq_true, cond_true, Option.bind_some, Bool.not_false, Bool.true_and]
        cases h2 : (((c :: s)[(c :: s).length - 1]'(by simp)).toNat == (46 : Int)) with
        | true => rfl
        | false =>
          simp -implicitDefEqProofs only [cond_false, Bool.not_false, Bool.true_and]
          apply wp_eq
          refine wp_bind ?_
          refine wp_for (σ := Unit) (fun i _ => (((c :: s), ((i : Int), ())), ())) (fun i _ => dotsOK ((c :: s).take i) = true) (c :: s).length () rfl rfl (by omega) ?_
          rintro i _ hi hn
          by_cases hi' : i < (c :: s).length
          · have c0 : decide ((i : Int) < ((c :: s).length : Int)) = true := decide_eq_true (by omega)
            have w : IntKind.wrap .i64 ((i : Int) + 1) = ((i + 1 : Nat) : Int) := by rw [wrap64 (by omega) (by omega)]; omega
            have hd : dotsOK ((c :: s).take (i + 1)) = (hstI ((c :: s)[i].toNat : Int) && !((if h0 : i = 0 then (46 : UInt8) else (c :: s)[i - 1]) == 46 && (c :: s)[i] == 46)) := by
              unfold dotsOK at hn ⊢
              rw [all_take hi', noDD_take _ i hi']
              simp only [Bool.and_eq_true] at hn
              rw [hn.1, hn.2, Bool.true_and, Bool.true_and]
            simp -implicitDefEqProofs only [c0, cond_true, idx_nat hi', Option.bind_some, rletter_eq, rdigit_eq]
            by_cases h0 : i = 0
            · subst h0
              rw [dif_pos rfl] at hd
              have hd' : dotsOK ((c :: s).take (0 + 1)) = hstI (c.toNat : Int) := by
                have : ((c :: s)[0] == 46) = false := by rw [← byte46]; exact h1
                rw [hd, this, Bool.and_false]
                simp only [Bool.not_false, Bool.and_true]
                rfl
              have hx : ((c :: s)[0].toNat : Int) = (c.toNat : Int) := rfl
              simp -implicitDefEqProofs only [hx, h1, bne]
              unfold hstI at hd'
              rw [h1] at hd'
              cases g1 : ltrI (c.toNat : Int) <;> cases g2 : digI (c.toNat : Int) <;> cases g3 : ((c.toNat : Int) == 45) <;> simp only [g1, g2, g3, Bool.or_false, Bool.or_true, Bool.true_or] at hd' <;>
                first
                | exact ⟨_, rfl, hi', (), by simp only [w], hd'⟩
                | exact ⟨_, rfl, _, rfl, by rw [dotsOK_take _ _ hd']⟩
            · rw [dif_neg h0] at hd
              have w1 : IntKind.wrap .i64 ((i : Int) - 1) = ((i - 1 : Nat) : Int) := by rw [wrap64 (by omega) (by omega)]; omega
              have i1 : idx (c :: s) ((i - 1 : Nat) : Int) = some ((c :: s)[i - 1]'(by omega)) := idx_nat (by omega)
              rw [← byte46, ← byte46] at hd
              simp -implicitDefEqProofs only [w1, i1, Option.bind_some, bne]
              unfold hstI at hd
              cases g1 : ltrI ((c :: s)[i].toNat : Int) <;> cases g2 : digI ((c :: s)[i].toNat : Int) <;> cases g3 : (((c :: s)[i].toNat : Int) == 45) <;> cases g4 : (((c :: s)[i].toNat : Int) == 46) <;> cases g5 : (((c :: s)[i - 1].toNat : Int) == 46) <;> simp only [g1, g2, g3, g4, g5, Bool.or_false, Bool.or_true, Bool.true_or, Bool.and_false, Bool.and_true, Bool.true_and, Bool.false_and, Bool.not_true, Bool.not_false] at hd <;>
                first
                | exact ⟨_, rfl, hi', (), by simp only [w], hd⟩
                | exact ⟨_, rfl, _, rfl, by rw [dotsOK_take _ _ hd]⟩
          · have c0 : decide ((i : Int) < ((c :: s).length : Int)) = false := decide_eq_false (by omega)
            rw [List.take_of_length_le (by omega)] at hn
            simp -implicitDefEqProofs only [c0, cond_false]
            exact ⟨_, rfl, _, rfl, by rw [hn]⟩
    · have e1 : decide (((c :: s).length : Int) > 100) = true := decide_eq_true (by omega)
      have e2 : decide (((c :: s).length : Int) ≤ 100) = false := decide_eq_false hl
      simp only [e1, e2, Bool.false_and]
      rfl
/-! -/
def portB (n : Int) : Bs := bif n == 0 then [] else 58 :: digs 20 n.toNat
def textB (u : Url) : Bs := bif u.1 then u.2.1 ++ [58] ++ u.2.2.2.2.1 else u.2.1 ++ [58, 47, 47] ++ u.2.2.1 ++ portB u.2.2.2.1 ++ u.2.2.2.2.1 ++ u.2.2.2.2.2
def small (u : Url) : Prop := u.2.1.length ≤ 100000 ∧ u.2.2.1.length ≤ 100000 ∧ u.2.2.2.2.1.length ≤ 100000 ∧ u.2.2.2.2.2.length ≤ 100000
theorem text_eq (V : Ev) (u : Url) (hu : small u) (h0 : 0 ≤ u.2.2.2.1) : url_text_ V ((u, ()), ()) = some ((textB u, ()), ()) := by
  obtain ⟨o, sc, h, p, pa, q⟩ := u
  obtain ⟨h1, h2, h3, h4⟩ := hu
  simp only at h1 h2 h3 h4 h0
  have ld := digs_le 20 p.toNat
  have sf : ∀ n : Nat, n ≤ 100000000 → strFits n = true := fun n h => strFits_of h
  have qi := itoa_eq V p h0
  unfold url_text_ textB portB
  cases o with
  | true =>
    simp -implicitDefEqProofs only [cond_true]
    rw [sf _ (by simp only [List.length_cons, List.length_nil]; omega), cond_true, sf _ (by simp only [List.length_append, List.length_cons, List.length_nil]; omega)]
    rfl
  | false =>
    simp -implicitDefEqProofs only [cond_false]
    rw [sf _ (by simp only [List.length_cons, List.length_nil]; omega), cond_true, sf _ (by simp only [List.length_append, List.length_cons, List.length_nil]; omega), cond_true]
    cases hp : p == 0 with
    | true =>
      simp -implicitDefEqProofs only [bne, hp, Bool.not_true, cond_false, cond_true, Option.bind_some, List.append_nil]
      rw [sf _ (by simp only [List.length_append, List.length_cons, List.length_nil]; omega), cond_true, sf _ (by simp only [List.length_append, List.length_cons, List.length_nil]; omega), cond_true]
    | false =>
      simp -implicitDefEqProofs only [bne, hp, Bool.not_false, cond_true, cond_false, qi, Option.bind_some]
      rw [sf _ (by simp only [List.length_append, List.length_cons, List.length_nil]; omega), cond_true, sf _ (by simp only [List.length_append, List.length_cons, List.length_nil]; omega), cond_true, Option.bind_some]
      rw [sf _ (by simp only [List.length_append, List.length_cons, List.length_nil]; omega), cond_true, sf _ (by simp only [List.length_append, List.length_cons, List.length_nil]; omega), cond_true]
      rfl
theorem rtext_eq (N : Nat) (u : Url) (hu : small u) (h0 : 0 ≤ u.2.2.2.1) (hp : u.2.2.2.1 ≤ 65535) (hN : 20 < N) : pounceref05_Text_ (Ev.upto N) ((u, ()), ()) = some ((textB u, ()), ()) := by
  obtain ⟨o, sc, h, p, pa, q⟩ := u
  obtain ⟨h1, h2, h3, h4⟩ := hu
  simp only at h1 h2 h3 h4 h0 hp
  have ld := digs_le 20 p.toNat
  have sf : ∀ n : Nat, n ≤ 100000000 → strFits n = true := fun n h => strFits_of h
  have qi := rdigits_eq N p h0 hp hN
  unfold pounceref05_Text_ textB portB
  cases o with
  | true =>
    simp -implicitDefEqProofs only [cond_true]
    rw [sf _ (by simp only [List.length_cons, List.length_nil]; omega), cond_true, sf _ (by simp only [List.length_append, List.length_cons, List.length_nil]; omega)]
    rfl
  | false =>
    simp -implicitDefEqProofs only [cond_false]
    rw [sf _ (by simp only [List.length_cons, List.length_nil]; omega), cond_true, sf _ (by simp only [List.length_append, List.length_cons, List.length_nil]; omega), cond_true]
    cases hp0 : p == 0 with
    | true =>
      have hp' : p = 0 := by simpa using hp0
      have g : decide (p > 0) = false := decide_eq_false (by omega)
      simp -implicitDefEqProofs only [g, cond_false, cond_true, Option.bind_some, List.append_nil]
      rw [sf _ (by simp only [List.length_append, List.length_cons, List.length_nil]; omega), cond_true, sf _ (by simp only [List.length_append, List.length_cons, List.length_nil]; omega), cond_true]
    | false =>
      have hp' : ¬ p = 0 := by simpa using hp0
      have g : decide (p > 0) = true := decide_eq_true (by omega)
      simp -implicitDefEqProofs only [g, cond_true, cond_false, qi, Option.bind_some]
      rw [sf _ (by simp only [List.length_append, List.length_cons, List.length_nil]; omega), cond_true, sf _ (by simp only [List.length_append, List.length_cons, List.length_nil]; omega), cond_true, Option.bind_some]
      rw [sf _ (by simp only [List.length_append, List.length_cons, List.length_nil]; omega), cond_true, sf _ (by simp only [List.length_append, List.length_cons, List.length_nil]; omega), cond_true]
      simp
/-! -/
def queryB (q : Bs) : Bool := match q with
  | [] => true
  | c :: r => (c.toNat : Int) == 63 && r.all fun c => visI (c.toNat : Int) || (c.toNat : Int) == 63
def rankB (u : Url) : Bool := hostB u.2.2.1 && (decide (0 ≤ u.2.2.2.1) && (decide (u.2.2.2.1 ≤ 65535) && (!(u.2.2.2.1 == defB u.2.1) && ((cleanB u.2.2.2.2.1 && u.2.2.2.2.1.all fun c => visI (c.toNat : Int)) && queryB u.2.2.2.2.2))))
def opqB (u : Url) : Bool := u.2.2.1 == ([] : Bs) && (u.2.2.2.2.2 == ([] : Bs) && (u.2.2.2.1 == 0 && ((trimB u.2.2.2.2.1 == u.2.2.2.2.1) && u.2.2.2.2.1.all fun c => opqI (c.toNat : Int))))
def urlB (u : Url) : Bool := schemeB u.2.1 && ((u.1 == (defB u.2.1 == 0)) && ((bif u.1 then opqB u else rankB u) && decide (((textB u).length : Int) ≤ 500)))
theorem query_loop (N : Nat) (q : Bs) (hs : q.length < N) (hb : q.length ≤ 1000000) : (bif (!(q == ([] : Bs))) == true then (idx q (0 : Int)).bind fun v11 => bif (((v11).toNat : Int) != (63 : Int)) == false then (sl q (1 : Int) (q.length : Int)).bind fun v12 => (url_all_af7 (Ev.upto N) ((v12, ()), ())).bind fun v13 => some (!v13.1.1) else some true else some false) = some (!queryB q) := by
  cases q with
  | nil => rfl
  | cons c r =>
    have s1 : sl (c :: r) 1 ((c :: r).length : Int) = some r := by rw [show (1 : Int) = ((1 : Nat) : Int) from rfl, sl_end (by simp)]; rfl
    have qa := allaf7_eq N r (by simp at hs; omega) (by simp at hb; omega)
    have hq : queryB (c :: r) = ((c.toNat : Int) == 63 && r.all fun c => visI (c.toNat : Int) || (c.toNat : Int) == 63) := rfl
    rw [hq]
    simp -implicitDefEqProofs only [nil_beq_cons, Bool.not_false, beq_self_eq_true, cond_true, idx_zero, Option.bind_some, bne]
    cases ((c.toNat : Int) == 63) with
    | false => rfl
    | true => simp -implicitDefEqProofs only [Bool.not_true, beq_self_eq_true, cond_true, s1, qa, Option.bind_some, Bool.true_and]
theorem Check_eq (N : Nat) (u : Url) (hu : small u) (hN : 100005 < N) : url_Check_ (Ev.upto N) ((u, ()), ()) = some ((bif urlB u then 0 else 50, ()), ()) := by
  obtain ⟨o, sc, h, p, pa, q⟩ := u
  have hu' := hu
  obtain ⟨h1, h2, h3, h4⟩ := hu'
  simp only at h1 h2 h3 h4
  have qs := scheme_eq N sc (by omega)
  have qh := host_eq N h (by omega)
  have qc := Clean_eq N pa (by omega) (by omega)
  have q1 := all315_eq N pa (by omega) (by omega)
  have q2 := all890_eq N pa (by omega) (by omega)
  have qt : fold_Trim_ (Ev.upto N) ((pa, ()), ()) = some ((trimB pa, ()), ()) := rfl
  have qx : 0 ≤ p → url_text_ (Ev.upto N) (((o, (sc, (h, (p, (pa, q))))), ()), ()) = some ((textB (o, (sc, (h, (p, (pa, q))))), ()), ()) := fun hp => text_eq (Ev.upto N) _ hu hp
  have qq := query_loop N q (by omega) (by omega)
  unfold url_Check_ urlB opqB rankB
  simp -implicitDefEqProofs only [default_eq, qs, Option.bind_some]
  cases schemeB sc with
  | false => rfl
  | true =>
    simp -implicitDefEqProofs only [Bool.not_true, beq_self_eq_true, cond_true, Option.bind_some, Bool.true_and]
    cases hod : (o == (defB sc == 0)) with
    | false => rfl
    | true =>
      simp -implicitDefEqProofs only [Bool.not_true, cond_false, Bool.true_and]
      cases o with
      | true =>
        simp -implicitDefEqProofs only [cond_true]
        cases h == ([] : Bs) with
        | false => rfl
        | true =>
          cases q == ([] : Bs) with
          | false => rfl
          | true =>
            cases hp : p == 0 with
            | false => simp -implicitDefEqProofs only [bne, hp]; rfl
            | true =>
              have hp' : p = 0 := by simpa using hp
              have qx := qx (by omega)
              simp -implicitDefEqProofs only [bne, hp, Bool.not_true, beq_self_eq_true, cond_true, qt, Option.bind_some, Bool.true_and]
              cases trimB pa == pa with
              | false => rfl
              | true =>
                simp -implicitDefEqProofs only [Bool.not_true, beq_self_eq_true, cond_true, q2, Option.bind_some, Bool.true_and]
                cases pa.all fun c => opqI (c.toNat : Int) with
                | false => rfl
                | true =>
                  simp -implicitDefEqProofs only [Bool.not_true, cond_false, Option.bind_some, qx, Bool.true_and]
                  cases decide (((textB (true, (sc, (h, (p, (pa, q)))))).length : Int) ≤ 500) <;> rfl
      | false =>
        simp -implicitDefEqProofs only [cond_false, qh, Option.bind_some]
        cases hostB h with
        | false => rfl
        | true =>
          simp -implicitDefEqProofs only [Bool.not_true, beq_self_eq_true, cond_true, Bool.true_and]
          by_cases hp0 : p < 0
          · simp only [decide_eq_true hp0, decide_eq_false (show ¬ 0 ≤ p by omega), Bool.false_and]; rfl
          · simp -implicitDefEqProofs only [decide_eq_false hp0, decide_eq_true (show 0 ≤ p by omega), beq_self_eq_true, cond_true, Bool.true_and]
            by_cases hp1 : p > 65535
            · simp only [decide_eq_true hp1, decide_eq_false (show ¬ p ≤ 65535 by omega), Bool.false_and]; rfl
            · have qx := qx (by omega)
              simp -implicitDefEqProofs only [decide_eq_false hp1, decide_eq_true (show p ≤ 65535 by omega), beq_self_eq_true, cond_true, Bool.true_and]
              cases p == defB sc with
              | true => rfl
              | false =>
                simp -implicitDefEqProofs only [beq_self_eq_true, cond_true, q1, Option.bind_some, Bool.not_false, Bool.true_and]
                cases pa.all fun c => visI (c.toNat : Int) with
                | false => simp only [Bool.and_false, Bool.false_and]; rfl
                | true =>
                  simp -implicitDefEqProofs only [Bool.not_true, beq_self_eq_true, cond_true, Bool.and_true]
                  cases hpe : pa == ([] : Bs) with
                  | true =>
                    have : pa = [] := by simpa using hpe
                    subst this
                    rfl
                  | false =>
                    simp -implicitDefEqProofs only [beq_self_eq_true, cond_true, qc, Option.bind_some, cleanP_beq pa hpe]
                    cases cleanB pa with
                    | false => rfl
                    | true =>
                      simp -implicitDefEqProofs only [Bool.not_true, cond_false, Bool.true_and]
                      cases q with
                      | nil =>
                        simp -implicitDefEqProofs only [show (([] : Bs) == ([] : Bs)) = true from rfl, Bool.not_true, show (false == true) = false from rfl, cond_false, Option.bind_some, qx, show queryB [] = true from rfl, Bool.true_and]
                        cases decide (((textB (false, (sc, (h, (p, (pa, []))))) ).length : Int) ≤ 500) <;> rfl
                      | cons c r =>
                        have s1 : sl (c :: r) 1 ((c :: r).length : Int) = some r := by rw [show (1 : Int) = ((1 : Nat) : Int) from rfl, sl_end (by simp)]; rfl
                        have qa := allaf7_eq N r (by simp at h4; omega) (by simp at h4; omega)
                        have hq : queryB (c :: r) = ((c.toNat : Int) == 63 && r.all fun c => visI (c.toNat : Int) || (c.toNat : Int) == 63) := rfl
                        simp -implicitDefEqProofs only [hq, nil_beq_cons, Bool.not_false, beq_self_eq_true, cond_true, idx_zero, Option.bind_some, bne]
                        cases ((c.toNat : Int) == 63) with
                        | false => rfl
                        | true =>
                          simp -implicitDefEqProofs only [Bool.not_true, beq_self_eq_true, cond_true, s1, qa, Option.bind_some, Bool.true_and]
                          cases r.all fun c => visI (c.toNat : Int) || (c.toNat : Int) == 63 with
                          | false => rfl
                          | true =>
                            simp -implicitDefEqProofs only [Bool.not_true, cond_false, Option.bind_some, qx, Bool.true_and]
                            cases decide (((textB (false, (sc, (h, (p, (pa, c :: r)))))).length : Int) ≤ 500) <;> rfl
theorem long_text (u : Url) (h : 500 < u.2.2.2.2.1.length ∨ 500 < u.2.2.2.2.2.length ∧ u.1 = false ∨ 500 < u.2.2.1.length ∧ u.1 = false) : decide (((textB u).length : Int) ≤ 500) = false := by
  apply decide_eq_false
  unfold textB
  rcases h with h | ⟨h, hu⟩ | ⟨h, hu⟩
  · cases u.1 <;> simp only [cond_true, cond_false, List.length_append] <;> omega
  · rw [hu]; simp only [cond_false, List.length_append]; omega
  · rw [hu]; simp only [cond_false, List.length_append]; omega
theorem Right_eq (N : Nat) (u : Url) (hu : small u) (hN : 100005 < N) : pounceref05_Right_ (Ev.upto N) ((u, ()), ()) = some ((urlB u, ()), ()) := by
  obtain ⟨o, sc, h, p, pa, q⟩ := u
  have hu' := hu
  obtain ⟨h1, h2, h3, h4⟩ := hu'
  simp only at h1 h2 h3 h4
  have qs := rscheme_eq N sc (by omega)
  have qh := rhost_eq N h (by omega)
  have qc := clean_eq N pa (by omega) (by omega)
  have qr := rest_eq N pa (by omega) (by omega)
  have qx : 0 ≤ p → p ≤ 65535 → pounceref05_Text_ (Ev.upto N) (((o, (sc, (h, (p, (pa, q))))), ()), ()) = some ((textB (o, (sc, (h, (p, (pa, q))))), ()), ()) := fun hp hp1 => rtext_eq N _ hu hp hp1 (by omega)
  have qv := visible_eq N q 35 35 (by omega) (by omega)
  simp only [vis_one] at qv
  have lt := long_text (o, (sc, (h, (p, (pa, q)))))
  simp only at lt
  unfold pounceref05_Right_ urlB opqB rankB
  simp -implicitDefEqProofs only [rdefault_eq, qs, Option.bind_some]
  cases schemeB sc with
  | false => rfl
  | true =>
    simp -implicitDefEqProofs only [Bool.not_true, beq_self_eq_true, cond_true, Option.bind_some, Bool.true_and]
    by_cases g1 : 500 < pa.length
    · simp only [decide_eq_true (show (pa.length : Int) > 500 by omega), lt (.inl g1), Bool.and_false]; rfl
    simp -implicitDefEqProofs only [decide_eq_false (show ¬ (pa.length : Int) > 500 by omega), beq_self_eq_true, cond_true]
    by_cases g2 : 500 < q.length
    · have : ((bif o then h == ([] : Bs) && (q == ([] : Bs) && (p == 0 && ((trimB pa == pa) && pa.all fun c => opqI (c.toNat : Int)))) else hostB h && (decide (0 ≤ p) && (decide (p ≤ 65535) && (!(p == defB sc) && ((cleanB pa && pa.all fun c => visI (c.toNat : Int)) && queryB q))))) && decide (((textB (o, (sc, (h, (p, (pa, q)))))).length : Int) ≤ 500)) = false := by
        cases o with
        | true =>
          have : (q == ([] : Bs)) = false := by cases q with
            | nil => simp at g2
            | cons _ _ => rfl
          rw [this]; simp
        | false => rw [lt (.inr (.inl ⟨g2, rfl⟩)), Bool.and_false]
      simp only [decide_eq_true (show (q.length : Int) > 500 by omega), this, Bool.and_false]; rfl
    simp -implicitDefEqProofs only [decide_eq_false (show ¬ (q.length : Int) > 500 by omega), beq_self_eq_true, cond_true, Option.bind_some]
    by_cases g3 : 500 < h.length
    · have : ((bif o then h == ([] : Bs) && (q == ([] : Bs) && (p == 0 && ((trimB pa == pa) && pa.all fun c => opqI (c.toNat : Int)))) else hostB h && (decide (0 ≤ p) && (decide (p ≤ 65535) && (!(p == defB sc) && ((cleanB pa && pa.all fun c => visI (c.toNat : Int)) && queryB q))))) && decide (((textB (o, (sc, (h, (p, (pa, q)))))).length : Int) ≤ 500)) = false := by
        cases o with
        | true =>
          have : (h == ([] : Bs)) = false := by cases h with
            | nil => simp at g3
            | cons _ _ => rfl
          rw [this]; simp
        | false => rw [lt (.inr (.inr ⟨g3, rfl⟩)), Bool.and_false]
      simp only [decide_eq_true (show (h.length : Int) > 500 by omega), this, Bool.and_false]; rfl
    simp -implicitDefEqProofs only [decide_eq_false (show ¬ (h.length : Int) > 500 by omega), cond_false]
    cases o with
    | true =>
      simp -implicitDefEqProofs only [cond_true, qr, Option.bind_some]
      cases defB sc == 0 with
      | false => rfl
      | true =>
        simp -implicitDefEqProofs only [beq_self_eq_true, cond_true, Option.bind_some, Bool.true_and]
        cases trimB pa == pa with
        | false => simp only [Bool.and_false, Bool.false_and]; rfl
        | true =>
          simp only [Bool.and_true, Bool.true_and]
          cases pa.all fun c => opqI (c.toNat : Int) with
          | false => simp only [Bool.and_false, Bool.false_and]; rfl
          | true =>
            simp -implicitDefEqProofs only [beq_self_eq_true, cond_true, Bool.and_true]
            cases h == ([] : Bs) with
            | false => rfl
            | true =>
              cases q == ([] : Bs) with
              | false => rfl
              | true =>
                cases hp : p == 0 with
                | false => rfl
                | true =>
                  have hp' : p = 0 := by simpa using hp
                  have qx := qx (by omega) (by omega)
                  simp -implicitDefEqProofs only [beq_self_eq_true, cond_true, qx, Option.bind_some, Bool.true_and]
    | false =>
      simp -implicitDefEqProofs only [cond_false]
      have hd : (false == (defB sc == 0)) = !(defB sc == 0) := by cases (defB sc == 0) <;> rfl
      rw [hd]
      cases defB sc == 0 with
      | true => rfl
      | false =>
        simp -implicitDefEqProofs only [beq_self_eq_true, cond_true, qh, Option.bind_some, Bool.not_false, Bool.true_and]
        cases hostB h with
        | false => rfl
        | true =>
          simp -implicitDefEqProofs only [Bool.not_true, beq_self_eq_true, cond_true, Bool.true_and]
          by_cases hp0 : p < 0
          · simp only [decide_eq_true hp0, decide_eq_false (show ¬ 0 ≤ p by omega), Bool.false_and]; rfl
          · simp -implicitDefEqProofs only [decide_eq_false hp0, decide_eq_true (show 0 ≤ p by omega), beq_self_eq_true, cond_true, Bool.true_and]
            by_cases hp1 : p > 65535
            · simp only [decide_eq_true hp1, decide_eq_false (show ¬ p ≤ 65535 by omega), Bool.false_and]; rfl
            · have qx := qx (by omega) (by omega)
              simp -implicitDefEqProofs only [decide_eq_false hp1, decide_eq_true (show p ≤ 65535 by omega), beq_self_eq_true, cond_true, Bool.true_and]
              cases p == defB sc with
              | true => rfl
              | false =>
                simp -implicitDefEqProofs only [beq_self_eq_true, cond_true, qc, Option.bind_some, Bool.not_false, Bool.true_and]
                cases cleanB pa && pa.all fun c => visI (c.toNat : Int) with
                | false => rfl
                | true =>
                  simp -implicitDefEqProofs only [Bool.not_true, cond_false, Bool.true_and]
                  cases q with
                  | nil =>
                    simp -implicitDefEqProofs only [show (([] : Bs) == ([] : Bs)) = true from rfl, Bool.not_true, show (false == true) = false from rfl, cond_false, Option.bind_some, qx, show queryB [] = true from rfl, Bool.true_and]
                  | cons c r =>
                    have hq : queryB (c :: r) = ((c.toNat : Int) == 63 && r.all fun c => visI (c.toNat : Int) || (c.toNat : Int) == 63) := rfl
                    rw [List.all_cons] at qv
                    simp -implicitDefEqProofs only [hq, nil_beq_cons, Bool.not_false, beq_self_eq_true, cond_true, idx_zero, Option.bind_some, bne]
                    cases h63 : ((c.toNat : Int) == 63) with
                    | false => rfl
                    | true =>
                      rw [h63, Bool.or_true, Bool.true_and] at qv
                      simp -implicitDefEqProofs only [Bool.not_true, beq_self_eq_true, cond_true, qv, Option.bind_some, Bool.true_and]
                      cases r.all fun c => visI (c.toNat : Int) || (c.toNat : Int) == 63 with
                      | false => rfl
                      | true => simp -implicitDefEqProofs only [Bool.not_true, cond_false, Option.bind_some, qx, Bool.true_and]
/-! -/
abbrev Src := Int × (Bs × (Bs × (Bs × (Bool × (Int × Bs)))))
def lowI (n : Int) : Int := bif decide (n ≥ 65) && decide (n ≤ 90) then n + 32 else n
def lowerB (s : Bs) : Bs := toBs ((ofBs s).map lowI)
theorem lowerB_length (s : Bs) : (lowerB s).length = s.length := by simp [lowerB, toBs, ofBs]
theorem ofBs_get {s : Bs} {i : Nat} (h : i < s.length) : (ofBs s)[i]'(by rw [ofBs_length]; exact h) = (s[i].toNat : Int) := by simp [ofBs]
theorem low_wrap (c : UInt8) (h0 : decide ((c.toNat : Int) ≥ 65) = true) (h1 : decide ((c.toNat : Int) ≤ 90) = true) : IntKind.wrap .u8 ((IntKind.wrap .u8 ((c.toNat : Int) + 97)) - 65) = (c.toNat : Int) + 32 := by
  have h0 := of_decide_eq_true h0
  have h1 := of_decide_eq_true h1
  rw [wrapu8 (n := (c.toNat : Int) + 97) (by omega) (by omega), wrapu8 (by omega) (by omega)]
  omega
theorem lower_eq (N : Nat) (s : Bs) (hs : s.length < N) (hb : s.length ≤ 1000000) : fold_Lower_ (Ev.upto N) ((s, ()), ()) = some ((lowerB s, ()), ()) := by
  apply wp_eq
  unfold fold_Lower_
  refine wp_bind ?_
  refine wp_for (σ := Unit) (fun i _ => ((((ofBs s).length : Int), ((i : Int), ())), (((ofBs s).take i).map lowI ++ (ofBs s).drop i, ()))) (fun i _ => True) s.length () (by simp) trivial hs ?_
  rintro i _ hi _
  have hol := ofBs_length s
  have hll : (((ofBs s).take i).map lowI ++ (ofBs s).drop i).length = s.length := by simp [hol]; omega
  by_cases hi' : i < s.length
  · have c0 : decide ((i : Int) < ((ofBs s).length : Int)) = true := decide_eq_true (by omega)
    have c1 : decide ((i : Int) < ((((ofBs s).take i).map lowI ++ (ofBs s).drop i).length : Int)) = true := decide_eq_true (by omega)
    have c2 : decide ((0 : Int) ≤ (i : Int)) = true := decide_eq_true (by omega)
    have w : IntKind.wrap .i64 ((i : Int) + 1) = ((i + 1 : Nat) : Int) := by rw [wrap64 (by omega) (by omega)]; omega
    have hd : (ofBs s).drop i = (s[i].toNat : Int) :: (ofBs s).drop (i + 1) := by rw [List.drop_eq_getElem_cons (by omega), ofBs_get hi']
    have hlen : (((ofBs s).take i).map lowI).length = i := by simp [hol]; omega
    have g : (((ofBs s).take i).map lowI ++ (ofBs s).drop i)[((i : Int)).toNat]? = some (s[i].toNat : Int) := by
      rw [Int.toNat_natCast, List.getElem?_append_right (by omega), hlen, Nat.sub_self, hd]; rfl
    have st : ∀ v, (((ofBs s).take i).map lowI ++ (ofBs s).drop i).set ((i : Int)).toNat v = ((ofBs s).take i).map lowI ++ v :: (ofBs s).drop (i + 1) := by
      intro v
      rw [Int.toNat_natCast, List.set_append_right _ _ (by omega), hlen, Nat.sub_self, hd]; rfl
    have nx : ((ofBs s).take (i + 1)).map lowI ++ (ofBs s).drop (i + 1) = ((ofBs s).take i).map lowI ++ lowI (s[i].toNat : Int) :: (ofBs s).drop (i + 1) := by
      rw [List.take_succ_eq_append_getElem (by omega), List.map_append, ofBs_get hi']; simp
    simp -implicitDefEqProofs only [c0, c1, c2, Bool.and_self, cond_true, g, Option.bind_some]
    cases h1 : decide ((s[i].toNat : Int) ≥ 65) with
    | false =>
      have hx : lowI (s[i].toNat : Int) = (s[i].toNat : Int) := by unfold lowI; rw [h1]; rfl
      rw [hx] at nx
      exact ⟨_, rfl, hi', (), by simp only [w, nx, ← hd], trivial⟩
    | true =>
      cases h2 : decide ((s[i].toNat : Int) ≤ 90) with
      | false =>
        have hx : lowI (s[i].toNat : Int) = (s[i].toNat : Int) := by unfold lowI; rw [h1, h2]; rfl
        rw [hx] at nx
        exact ⟨_, rfl, hi', (), by simp only [w, nx, ← hd], trivial⟩
      | true =>
        have hx : lowI (s[i].toNat : Int) = (s[i].toNat : Int) + 32 := by unfold lowI; rw [h1, h2]; rfl
        rw [hx] at nx
        have lw := low_wrap s[i] h1 h2
        simp -implicitDefEqProofs only [beq_self_eq_true, cond_true, Option.bind_some, c1, c2, Bool.and_self, g, st, lw]
        exact ⟨_, rfl, hi', (), by simp only [w, nx], trivial⟩
  · have c0 : decide ((i : Int) < ((ofBs s).length : Int)) = false := decide_eq_false (by omega)
    simp -implicitDefEqProofs only [c0, cond_false]
    refine ⟨_, rfl, _, rfl, ?_⟩
    rw [List.take_of_length_le (by omega), List.drop_eq_nil_of_le (by omega), List.append_nil]
    rfl
theorem rlower_eq (N : Nat) (s : Bs) (hs : s.length < N) (hb : s.length ≤ 1000000) : pounceref02_Lower_ (Ev.upto N) ((s, ()), ()) = some ((lowerB s, ()), ()) := by
  apply wp_eq
  unfold pounceref02_Lower_
  refine wp_bind ?_
  refine wp_for (σ := Unit) (fun i _ => ((s, ((i : Int), ())), (((ofBs s).take i).map lowI, ()))) (fun i _ => True) s.length () rfl trivial hs ?_
  rintro i _ hi _
  have hol := ofBs_length s
  by_cases hi' : i < s.length
  · have c0 : decide ((i : Int) < (s.length : Int)) = true := decide_eq_true (by omega)
    have w : IntKind.wrap .i64 ((i : Int) + 1) = ((i + 1 : Nat) : Int) := by rw [wrap64 (by omega) (by omega)]; omega
    have hlen : (((ofBs s).take i).map lowI).length = i := by simp [hol]; omega
    have f : ∀ v : Int, fits ((((ofBs s).take i).map lowI).length + ([v] : List Int).length) 1 = true := fun v => fits_of (by rw [hlen]; simp only [List.length_cons, List.length_nil]; omega)
    have nx : ((ofBs s).take (i + 1)).map lowI = ((ofBs s).take i).map lowI ++ [lowI (s[i].toNat : Int)] := by
      rw [List.take_succ_eq_append_getElem (by omega), List.map_append, ofBs_get hi']; simp
    simp -implicitDefEqProofs only [c0, cond_true, idx_nat hi', Option.bind_some]
    cases h1 : decide ((s[i].toNat : Int) ≥ 65) with
    | false =>
      have hx : lowI (s[i].toNat : Int) = (s[i].toNat : Int) := by unfold lowI; rw [h1]; rfl
      rw [hx] at nx
      simp -implicitDefEqProofs only [show (false == true) = false from rfl, cond_false, Option.bind_some, f, cond_true, w]
      exact ⟨_, rfl, hi', (), by rw [nx], trivial⟩
    | true =>
      cases h2 : decide ((s[i].toNat : Int) ≤ 90) with
      | false =>
        have hx : lowI (s[i].toNat : Int) = (s[i].toNat : Int) := by unfold lowI; rw [h1, h2]; rfl
        rw [hx] at nx
        simp -implicitDefEqProofs only [beq_self_eq_true, cond_false, Option.bind_some, f, cond_true, w]
        exact ⟨_, rfl, hi', (), by rw [nx], trivial⟩
      | true =>
        have hx : lowI (s[i].toNat : Int) = (s[i].toNat : Int) + 32 := by unfold lowI; rw [h1, h2]; rfl
        rw [hx] at nx
        have lw : IntKind.wrap .u8 ((s[i].toNat : Int) + 32) = (s[i].toNat : Int) + 32 := by
          have := of_decide_eq_true h2
          rw [wrapu8 (by omega) (by omega)]
        simp -implicitDefEqProofs only [beq_self_eq_true, Option.bind_some, f, cond_true, w, lw]
        exact ⟨_, rfl, hi', (), by rw [nx], trivial⟩
  · have c0 : decide ((i : Int) < (s.length : Int)) = false := decide_eq_false (by omega)
    simp -implicitDefEqProofs only [c0, cond_false]
    refine ⟨_, rfl, _, rfl, ?_⟩
    rw [List.take_of_length_le (by omega)]
    rfl
/-! -/
def schB (a b : Bs) : Bool := a == b || ((a == ([104, 116, 116, 112] : Bs) && b == ([104, 116, 116, 112, 115] : Bs)) || (a == ([119, 115] : Bs) && b == ([119, 115, 115] : Bs)))
theorem mscheme_eq (V : Ev) (a b : Bs) : match_Scheme_ V ((a, (b, ())), ()) = some ((schB a b, ()), ()) := by
  unfold match_Scheme_ schB
  cases h0 : a == b with
  | true => rfl
  | false =>
    simp -implicitDefEqProofs only [cond_false, Bool.false_or]
    cases h1 : a == ([104, 116, 116, 112] : Bs) with
    | true =>
      have : a = [104, 116, 116, 112] := by simpa using h1
      subst this
      simp only [Bool.true_and]
      have h2 : (([104, 116, 116, 112] : Bs) == ([119, 115] : Bs)) = false := rfl
      rw [h2, Bool.false_and, Bool.or_false]
      rfl
    | false =>
      cases h2 : a == ([119, 115] : Bs) with
      | true =>
        have : a = [119, 115] := by simpa using h2
        subst this
        simp only [Bool.false_and, Bool.true_and, Bool.false_or]
        rfl
      | false => rfl
theorem rscheme10_eq (V : Ev) (a b : Bs) : pounceref10_Scheme_ V ((a, (b, ())), ()) = some ((schB a b, ()), ()) := by
  unfold pounceref10_Scheme_ schB
  cases a == b <;> cases a == ([104, 116, 116, 112] : Bs) <;> cases b == ([104, 116, 116, 112, 115] : Bs) <;> cases a == ([119, 115] : Bs) <;> rfl
/-! -/
def sufB (s x : Bs) : Bool := decide (x.length ≤ s.length) && s.drop (s.length - x.length) == x
theorem hasSuffix_eq (V : Ev) (s x : Bs) (h : s.length ≤ 1000000) (hx : x.length ≤ 1000000) : istringslite_HasSuffix_ V ((s, (x, ())), ()) = some ((sufB s x, ()), ()) := by
  unfold istringslite_HasSuffix_ sufB
  by_cases hl : x.length ≤ s.length
  · have c : decide ((s.length : Int) ≥ (x.length : Int)) = true := decide_eq_true (by omega)
    have w : IntKind.wrap .i64 ((s.length : Int) - (x.length : Int)) = ((s.length - x.length : Nat) : Int) := by rw [wrap64 (by omega) (by omega)]; omega
    have s1 : sl s ((s.length - x.length : Nat) : Int) (s.length : Int) = some (s.drop (s.length - x.length)) := sl_end (by omega)
    simp -implicitDefEqProofs only [c, beq_self_eq_true, cond_true, w, s1, Option.bind_some, decide_eq_true hl, Bool.true_and]
  · simp only [decide_eq_false (show ¬ (s.length : Int) ≥ (x.length : Int) by omega), decide_eq_false hl, Bool.false_and]
    rfl
def preB (s x : Bs) : Bool := decide (x.length ≤ s.length) && s.take x.length == x
theorem hasPrefixG_eq (V : Ev) (s x : Bs) (h : s.length ≤ 1000000) (hx : x.length ≤ 1000000) : istringslite_HasPrefix_ V ((s, (x, ())), ()) = some ((preB s x, ()), ()) := by
  unfold istringslite_HasPrefix_ preB
  by_cases hl : x.length ≤ s.length
  · have c : decide ((s.length : Int) ≥ (x.length : Int)) = true := decide_eq_true (by omega)
    have s1 : sl s (0 : Int) (x.length : Int) = some (s.take x.length) := by rw [show (0 : Int) = ((0 : Nat) : Int) from rfl, sl_nat (Nat.zero_le _) hl, List.drop_zero]
    simp -implicitDefEqProofs only [c, beq_self_eq_true, cond_true, s1, Option.bind_some, decide_eq_true hl, Bool.true_and]
  · simp only [decide_eq_false (show ¬ (s.length : Int) ≥ (x.length : Int) by omega), decide_eq_false hl, Bool.false_and]
    rfl
def hostM (s : Src) (h : Bs) : Bool := bif !s.2.2.2.2.1 then lowerB s.2.2.2.1 == lowerB h else bif lowerB s.2.2.2.1 == ([] : Bs) then true else decide ((46 :: lowerB s.2.2.2.1).length < (lowerB h).length) && sufB (lowerB h) (46 :: lowerB s.2.2.2.1)
theorem bs_beq_comm (a b : Bs) : (a == b) = (b == a) := by rw [Bool.eq_iff_iff]; simp only [beq_iff_eq]; exact eq_comm
theorem mhost_eq (N : Nat) (s : Src) (h : Bs) (hs : s.2.2.2.1.length < N) (hs' : s.2.2.2.1.length ≤ 100000) (hh : h.length < N) (hh' : h.length ≤ 100000) : match_Host_ (Ev.upto N) ((s, (h, ())), ()) = some ((hostM s h, ()), ()) := by
  have q1 := lower_eq N s.2.2.2.1 hs (by omega)
  have q2 := lower_eq N h hh (by omega)
  have l1 := lowerB_length s.2.2.2.1
  have l2 := lowerB_length h
  unfold match_Host_ hostM
  simp -implicitDefEqProofs only [q1, q2, Option.bind_some]
  cases s.2.2.2.2.1 with
  | false => rfl
  | true =>
    simp -implicitDefEqProofs only [Bool.not_true, cond_false]
    cases lowerB s.2.2.2.1 == ([] : Bs) with
    | true => rfl
    | false =>
      have f : strFits (([46] : Bs).length + (lowerB s.2.2.2.1).length) = true := strFits_of (by simp only [List.length_cons, List.length_nil]; omega)
      have q3 := hasSuffix_eq (Ev.upto N) (lowerB h) (46 :: lowerB s.2.2.2.1) (by omega) (by simp only [List.length_cons]; omega)
      simp -implicitDefEqProofs only [cond_false, f, cond_true]
      unfold strings_CutSuffix_ istringslite_CutSuffix_
      simp -implicitDefEqProofs only [show ([46] : Bs) ++ lowerB s.2.2.2.1 = 46 :: lowerB s.2.2.2.1 from rfl, q3, Option.bind_some]
      cases hx : sufB (lowerB h) (46 :: lowerB s.2.2.2.1) with
      | false => simp only [Bool.and_false]; rfl
      | true =>
        have hle : (46 :: lowerB s.2.2.2.1).length ≤ (lowerB h).length := by
          unfold sufB at hx
          simp only [Bool.and_eq_true, decide_eq_true_eq] at hx
          exact hx.1
        have w : IntKind.wrap .i64 (((lowerB h).length : Int) - ((46 :: lowerB s.2.2.2.1).length : Int)) = (((lowerB h).length - (46 :: lowerB s.2.2.2.1).length : Nat) : Int) := by rw [wrap64 (by omega) (by omega)]; omega
        have s1 : sl (lowerB h) (0 : Int) (((lowerB h).length - (46 :: lowerB s.2.2.2.1).length : Nat) : Int) = some ((lowerB h).take ((lowerB h).length - (46 :: lowerB s.2.2.2.1).length)) := by
          rw [show (0 : Int) = ((0 : Nat) : Int) from rfl, sl_nat (Nat.zero_le _) (by omega), List.drop_zero]
        have hne : (!((lowerB h).take ((lowerB h).length - (46 :: lowerB s.2.2.2.1).length) == ([] : Bs))) = decide ((46 :: lowerB s.2.2.2.1).length < (lowerB h).length) := by
          rw [Bool.eq_iff_iff]
          simp only [Bool.not_eq_true', beq_eq_false_iff_ne, ne_eq, List.take_eq_nil_iff, decide_eq_true_eq]
          constructor
          · intro h'
            have : ¬ ((lowerB h).length - (46 :: lowerB s.2.2.2.1).length = 0) := fun e => h' (.inl e)
            omega
          · rintro h' (e | e)
            · omega
            · rw [e] at h'; simp at h'
        simp -implicitDefEqProofs only [Bool.not_true, cond_false, w, s1, Option.bind_some, beq_self_eq_true, cond_true, hne, Bool.and_true]
theorem rhostM_eq (N : Nat) (s : Src) (h : Bs) (hs : s.2.2.2.1.length < N) (hs' : s.2.2.2.1.length ≤ 100000) (hh : h.length < N) (hh' : h.length ≤ 100000) : pounceref10_Host_ (Ev.upto N) ((s, (h, ())), ()) = some ((hostM s h, ()), ()) := by
  have q1 := rlower_eq N s.2.2.2.1 hs (by omega)
  have q2 := rlower_eq N h hh (by omega)
  have l1 := lowerB_length s.2.2.2.1
  have l2 := lowerB_length h
  unfold pounceref10_Host_ hostM
  simp -implicitDefEqProofs only [q1, q2, Option.bind_some]
  cases s.2.2.2.2.1 with
  | false => simp -implicitDefEqProofs only [Bool.not_false, cond_true]; rw [bs_beq_comm]
  | true =>
    simp -implicitDefEqProofs only [Bool.not_true, cond_false]
    cases lowerB s.2.2.2.1 == ([] : Bs) with
    | true => rfl
    | false =>
      have f : strFits (([46] : Bs).length + (lowerB s.2.2.2.1).length) = true := strFits_of (by simp only [List.length_cons, List.length_nil]; omega)
      simp -implicitDefEqProofs only [cond_false, f, cond_true, beq_self_eq_true, show ([46] : Bs) ++ lowerB s.2.2.2.1 = 46 :: lowerB s.2.2.2.1 from rfl]
      unfold pounceref10_ends_ sufB
      by_cases hlt : (46 :: lowerB s.2.2.2.1).length < (lowerB h).length
      · have c : decide (((lowerB h).length : Int) > ((46 :: lowerB s.2.2.2.1).length : Int)) = true := decide_eq_true (by omega)
        have w : IntKind.wrap .i64 (((lowerB h).length : Int) - ((46 :: lowerB s.2.2.2.1).length : Int)) = (((lowerB h).length - (46 :: lowerB s.2.2.2.1).length : Nat) : Int) := by rw [wrap64 (by omega) (by omega)]; omega
        have s1 : sl (lowerB h) (((lowerB h).length - (46 :: lowerB s.2.2.2.1).length : Nat) : Int) ((lowerB h).length : Int) = some ((lowerB h).drop ((lowerB h).length - (46 :: lowerB s.2.2.2.1).length)) := sl_end (by omega)
        simp -implicitDefEqProofs only [c, beq_self_eq_true, cond_true, w, s1, Option.bind_some, decide_eq_true hlt, decide_eq_true (Nat.le_of_lt hlt), Bool.true_and]
      · simp only [decide_eq_false (show ¬ ((lowerB h).length : Int) > ((46 :: lowerB s.2.2.2.1).length : Int) by omega), decide_eq_false hlt, Bool.false_and]
        rfl
/-! -/
def portM (u : Url) : Int := bif u.2.2.2.1 == 0 then defB u.2.1 else u.2.2.2.1
theorem mport_eq (V : Ev) (t : (Url × Unit) × Unit) : match_port_ V t = some ((portM t.1.1, ()), ()) := by
  unfold match_port_ portM
  simp -implicitDefEqProofs only [default_eq, Option.bind_some, bne]
  cases (t.1.1.2.2.2.1 == 0) <;> rfl
theorem oport_eq (V : Ev) (t : (Url × Unit) × Unit) : origin_address_port_ V t = some ((portM t.1.1, ()), ()) := mport_eq V t
theorem rport_eq (V : Ev) (t : (Url × Unit) × Unit) : pounceref07_Port_ V t = some ((portM t.1.1, ()), ()) := by
  unfold pounceref07_Port_ portM
  simp -implicitDefEqProofs only [rdefault_eq, Option.bind_some]
  cases (t.1.1.2.2.2.1 == 0) <;> rfl
def portOK (s : Src) (u : Url) : Bool := bif s.2.2.2.2.2.1 == -1 then true else bif s.2.2.2.2.2.1 == 0 then portM u == defB u.2.1 else portM u == s.2.2.2.2.2.1 || (s.2.2.2.2.2.1 == 80 && portM u == 443)
theorem mPort_eq (V : Ev) (t : (Src × (Url × Unit)) × Unit) : match_Port_ V t = some ((portOK t.1.1 t.1.2.1, ()), ()) := by
  obtain ⟨⟨s, u, ⟨⟩⟩, ⟨⟩⟩ := t
  unfold match_Port_ portOK
  simp -implicitDefEqProofs only [mport_eq, default_eq, Option.bind_some]
  cases s.2.2.2.2.2.1 == -1 with
  | true => rfl
  | false =>
    cases s.2.2.2.2.2.1 == 0 with
    | true => rfl
    | false =>
      cases h : s.2.2.2.2.2.1 == 80 with
      | false => simp only [cond_false, Bool.false_and, Bool.or_false]
      | true =>
        have : s.2.2.2.2.2.1 = 80 := by simpa using h
        rw [this]
        cases portM u == 80 <;> rfl
theorem rPort_eq (V : Ev) (t : (Src × (Url × Unit)) × Unit) : pounceref10_Port_ V t = some ((portOK t.1.1 t.1.2.1, ()), ()) := by
  obtain ⟨⟨s, u, ⟨⟩⟩, ⟨⟩⟩ := t
  unfold pounceref10_Port_ portOK
  simp -implicitDefEqProofs only [rport_eq, rdefault_eq, Option.bind_some]
  cases s.2.2.2.2.2.1 == -1 with
  | true => rfl
  | false =>
    cases s.2.2.2.2.2.1 == 0 with
    | true => rfl
    | false =>
      simp -implicitDefEqProofs only [cond_false]
      cases portM u == s.2.2.2.2.2.1 <;> cases s.2.2.2.2.2.1 == 80 <;> rfl
def pathOK (a b : Bs) (moved : Bool) : Bool := moved || (a == ([] : Bs) || (a == b || (sufB a [47] && preB b a)))
theorem mPath_eq (V : Ev) (a b : Bs) (m : Bool) (ha : a.length ≤ 100000) (hb : b.length ≤ 100000) : match_Path_ V ((a, (b, (m, ()))), ()) = some ((pathOK a b m, ()), ()) := by
  have q1 : strings_HasSuffix_ V ((a, (([47] : Bs), ())), ()) = some ((sufB a [47], ()), ()) := by
    unfold strings_HasSuffix_
    have q := hasSuffix_eq V a [47] (by omega) (by simp)
    simp -implicitDefEqProofs only [q, Option.bind_some]
  have q2 : strings_HasPrefix_ V ((b, (a, ())), ()) = some ((preB b a, ()), ()) := by
    unfold strings_HasPrefix_
    have q := hasPrefixG_eq V b a (by omega) (by omega)
    simp -implicitDefEqProofs only [q, Option.bind_some]
  unfold match_Path_ pathOK
  simp -implicitDefEqProofs only [q1, q2, Option.bind_some]
  cases m <;> cases a == ([] : Bs) <;> cases a == b <;> cases sufB a [47] <;> rfl
theorem sufB_one (a : Bs) (c : UInt8) (h : 0 < a.length) : sufB a [c] = (a[a.length - 1] == c) := by
  unfold sufB
  rw [decide_eq_true (show ([c] : Bs).length ≤ a.length by simp; omega), Bool.true_and]
  have : a.drop (a.length - ([c] : Bs).length) = [a[a.length - 1]] := by
    rw [List.drop_eq_getElem_cons (show a.length - ([c] : Bs).length < a.length by simp; omega), List.drop_eq_nil_of_le (by simp; omega)]
    rfl
  rw [this]
  simp
theorem rPath_eq (V : Ev) (a b : Bs) (m : Bool) (ha : a.length ≤ 100000) (hb : b.length ≤ 100000) : pounceref10_Path_ V ((a, (b, (m, ()))), ()) = some ((pathOK a b m, ()), ()) := by
  unfold pounceref10_Path_ pathOK
  cases h1 : a == ([] : Bs) with
  | true => cases m <;> rfl
  | false =>
    cases m with
    | true => rfl
    | false =>
      cases h2 : a == b with
      | true => simp only [Bool.false_or, Bool.true_or]; simp -implicitDefEqProofs only [beq_self_eq_true, cond_true, Option.bind_some, h2]
      | false =>
        have hp : 0 < a.length := by
          cases a with
          | nil => cases h1
          | cons _ _ => simp
        have w : IntKind.wrap .i64 ((a.length : Int) - 1) = ((a.length - 1 : Nat) : Int) := by rw [wrap64 (by omega) (by omega)]; omega
        have i0 : idx a ((a.length - 1 : Nat) : Int) = some a[a.length - 1] := idx_nat (by omega)
        have hc : ((a[a.length - 1].toNat : Int) == 47) = (a[a.length - 1] == 47) := by
          rw [Bool.eq_iff_iff]
          simp only [beq_iff_eq]
          constructor
          · intro h; exact UInt8.toNat_inj.1 (by show _ = 47; omega)
          · intro h; rw [h]; rfl
        simp -implicitDefEqProofs only [beq_self_eq_true, cond_true, Option.bind_some, h2, cond_false, w, i0, hc, sufB_one a 47 hp, Bool.false_or]
        cases a[a.length - 1] == 47 with
        | false => rfl
        | true =>
          simp -implicitDefEqProofs only [beq_self_eq_true, cond_true, Bool.true_and]
          unfold preB
          by_cases hl : a.length ≤ b.length
          · have c : decide ((b.length : Int) ≥ (a.length : Int)) = true := decide_eq_true (by omega)
            have s1 : sl b (0 : Int) (a.length : Int) = some (b.take a.length) := by rw [show (0 : Int) = ((0 : Nat) : Int) from rfl, sl_nat (Nat.zero_le _) hl, List.drop_zero]
            simp -implicitDefEqProofs only [c, beq_self_eq_true, cond_true, s1, Option.bind_some, decide_eq_true hl, Bool.true_and]
          · simp only [decide_eq_false (show ¬ (b.length : Int) ≥ (a.length : Int) by omega), decide_eq_false hl, Bool.false_and]
            rfl
/-! -/
abbrev Org := Bool × (Bs × (Bs × Int))
def orgB (u : Url) : Org := bif !urlB u || u.1 then (true, ([], ([], 0))) else (false, (u.2.1, (u.2.2.1, portM u)))
theorem code_ok (b : Bool) : ((bif b then (0 : Int) else 50) == 0) = b := by cases b <;> rfl
theorem of_eq (N : Nat) (u : Url) (hu : small u) (hN : 100005 < N) : origin_Of_ (Ev.upto N) ((u, ()), ()) = some ((orgB u, ()), ()) := by
  have q := Check_eq N u hu hN
  unfold origin_Of_ orgB
  simp -implicitDefEqProofs only [q, Option.bind_some, bne, code_ok, oport_eq]
  cases urlB u with
  | false => rfl
  | true => cases u.1 <;> rfl
theorem rof_eq (N : Nat) (u : Url) (hu : small u) (hN : 100005 < N) : pounceref07_Of_ (Ev.upto N) ((u, ()), ()) = some ((orgB u, ()), ()) := by
  have q := Right_eq N u hu hN
  unfold pounceref07_Of_ orgB
  simp -implicitDefEqProofs only [q, Option.bind_some, rport_eq]
  cases urlB u with
  | false => rfl
  | true => cases u.1 <;> rfl
def sameB (a b : Org) : Bool := (a.1 == b.1 && (a.2.1 == b.2.1 && (a.2.2.1 == b.2.2.1 && (a.2.2.2 == b.2.2.2 && true)))) && !a.1
theorem same_eq (V : Ev) (t : (Org × (Org × Unit)) × Unit) : origin_Same_ V t = some ((sameB t.1.1 t.1.2.1, ()), ()) := by
  unfold origin_Same_ sameB
  cases ((t.1.1.1 == t.1.2.1.1) && ((t.1.1.2.1 == t.1.2.1.2.1) && ((t.1.1.2.2.1 == t.1.2.1.2.2.1) && ((t.1.1.2.2.2 == t.1.2.1.2.2.2) && true)))) <;> rfl
theorem rsame_eq (V : Ev) (t : (Org × (Org × Unit)) × Unit) : pounceref07_Same_ V t = some ((sameB t.1.1 t.1.2.1, ()), ()) := by
  obtain ⟨⟨⟨a, x⟩, ⟨b, y⟩, ⟨⟩⟩, ⟨⟩⟩ := t
  unfold pounceref07_Same_ sameB
  cases a <;> cases b <;> simp -implicitDefEqProofs only [Bool.not_false, Bool.not_true, beq_self_eq_true, cond_true, show (false == true) = false from rfl, show (true == false) = false from rfl, cond_false, Option.bind_some, Bool.false_and, Bool.and_false, Bool.and_true, Bool.true_and]
def selfB (u own : Url) : Bool := sameB (orgB u) (orgB own) || (urlB own && (!u.1 && (!own.1 && (u.2.2.1 == own.2.2.1 && (u.2.2.2.1 == 0 && (own.2.2.2.1 == 0 && schB own.2.1 u.2.1))))))
def matchB (s : Src) (u own : Url) (moved : Bool) : Bool := urlB u && (bif s.1 == 11 then schB s.2.2.1 u.2.1 else bif s.1 == 2 then selfB u own else bif s.1 == 12 then (!u.1 && (schB (bif s.2.2.1 == ([] : Bs) then own.2.1 else s.2.2.1) u.2.1 && (hostM s u.2.2.1 && (portOK s u && pathOK s.2.2.2.2.2.2 u.2.2.2.2.1 moved)))) else false)
def smallS (s : Src) : Prop := s.2.2.2.1.length ≤ 100000 ∧ s.2.2.2.2.2.2.length ≤ 100000
theorem rself_eq (N : Nat) (u own : Url) (hu : small u) (ho : small own) (hN : 100005 < N) : pounceref10_self_ (Ev.upto N) ((u, (own, ())), ()) = some ((selfB u own, ()), ()) := by
  have q1 := rof_eq N u hu hN
  have q2 := rof_eq N own ho hN
  have q3 := Right_eq N own ho hN
  have q4 := rscheme10_eq (Ev.upto N) own.2.1 u.2.1
  unfold pounceref10_self_ selfB
  simp -implicitDefEqProofs only [q1, q2, q3, q4, Option.bind_some, rsame_eq]
  cases sameB (orgB u) (orgB own) with
  | true => rfl
  | false =>
    cases urlB own with
    | false => rfl
    | true => cases u.1 <;> cases own.1 <;> cases u.2.2.1 == own.2.2.1 <;> cases u.2.2.2.1 == 0 <;> cases own.2.2.2.1 == 0 <;> rfl
theorem rurl_eq (N : Nat) (s : Src) (u own : Url) (m : Bool) (hs : smallS s) (hu : small u) (ho : small own) (hN : 100005 < N) : pounceref10_Url_ (Ev.upto N) ((s, (u, (own, (m, ())))), ()) = some ((matchB s u own m, ()), ()) := by
  have q1 := Right_eq N u hu hN
  have q2 := rself_eq N u own hu ho hN
  have q3 := rscheme10_eq (Ev.upto N) s.2.2.1 u.2.1
  have q4 := rscheme10_eq (Ev.upto N) own.2.1 u.2.1
  have q5 := rhostM_eq N s u.2.2.1 (by have := hs.1; omega) hs.1 (by have := hu.2.1; omega) hu.2.1
  have q6 := rPath_eq (Ev.upto N) s.2.2.2.2.2.2 u.2.2.2.2.1 m hs.2 hu.2.2.1
  unfold pounceref10_Url_ matchB
  simp -implicitDefEqProofs only [q1, Option.bind_some]
  cases urlB u with
  | false => rfl
  | true =>
    simp -implicitDefEqProofs only [Bool.not_true, cond_false, Bool.true_and]
    cases s.1 == 11 with
    | true => simp -implicitDefEqProofs only [cond_true, q3, Option.bind_some]
    | false =>
      cases s.1 == 2 with
      | true => simp -implicitDefEqProofs only [cond_true, cond_false, q2, Option.bind_some]
      | false =>
        cases s.1 == 12 with
        | false => rfl
        | true =>
          simp -implicitDefEqProofs only [cond_true, cond_false]
          cases s.2.2.1 == ([] : Bs) <;> simp -implicitDefEqProofs only [cond_true, cond_false, Option.bind_some, q3, q4, q5, q6, rPort_eq] <;> cases u.1 <;> (try rfl) <;> (try simp -implicitDefEqProofs only [Bool.not_false, beq_self_eq_true, cond_true, Bool.true_and, Option.bind_some])
          · cases schB s.2.2.1 u.2.1 <;> cases hostM s u.2.2.1 <;> cases portOK s u <;> rfl
          · cases schB own.2.1 u.2.1 <;> cases hostM s u.2.2.1 <;> cases portOK s u <;> rfl
theorem m1_eq (N : Nat) (u : Url) (hu : small u) (hN : 100005 < N) : match_Url_1_4de (Ev.upto N) ((), ((u, ()), ())) = some ((urlB u, ()), ((u, ()), ())) := by
  unfold match_Url_1_4de
  have q := Check_eq N u hu hN
  simp -implicitDefEqProofs only [q, Option.bind_some, code_ok]
theorem m2_eq (V : Ev) (told : Bs) (u : Url) : match_Url_2_9a2 V ((), ((told, ()), ((u, ()), ()))) = some ((schB told u.2.1, ()), ((told, ()), ((u, ()), ()))) := by
  unfold match_Url_2_9a2
  have q := mscheme_eq V told u.2.1
  simp -implicitDefEqProofs only [q, Option.bind_some]
theorem allc7a_eq (N : Nat) (u : Url) (told : Bs) (hu : small u) (hN : 100005 < N) : match_all_c7a (Ev.upto N) ((), ((), ((u, ()), ((told, ()), ())))) = some ((urlB u && schB told u.2.1, ()), ((), ((u, ()), ((told, ()), ())))) := by
  unfold match_all_c7a
  have q1 := m1_eq N u hu hN
  have q2 := m2_eq (Ev.upto N) told u
  simp -implicitDefEqProofs only [q1, q2, Option.bind_some]
  cases urlB u <;> cases schB told u.2.1 <;> rfl
theorem all8e3_eq (N : Nat) (s : Src) (u : Url) (told : Bs) (m : Bool) (hs : smallS s) (hu : small u) (hN : 100005 < N) : match_all_8e3 (Ev.upto N) ((), ((), ((u, ()), ((told, ()), ((s, ()), ((m, ()), ())))))) =
    some ((urlB u && (schB told u.2.1 && (!u.1 && (hostM s u.2.2.1 && (portOK s u && pathOK s.2.2.2.2.2.2 u.2.2.2.2.1 m)))), ()), ((), ((u, ()), ((told, ()), ((s, ()), ((m, ()), ())))))) := by
  have q1 := m1_eq N u hu hN
  have q2 := m2_eq (Ev.upto N) told u
  have q5 := mhost_eq N s u.2.2.1 (by have := hs.1; omega) hs.1 (by have := hu.2.1; omega) hu.2.1
  have q6 := mPath_eq (Ev.upto N) s.2.2.2.2.2.2 u.2.2.2.2.1 m hs.2 hu.2.2.1
  unfold match_all_8e3 match_Url_3_4de match_Url_4_e35 match_Url_5_e35 match_Url_6_20a
  simp -implicitDefEqProofs only [q1, q2, Option.bind_some]
  cases urlB u with
  | false => rfl
  | true =>
    cases schB told u.2.1 with
    | false => rfl
    | true =>
      simp -implicitDefEqProofs only [Bool.not_true, cond_false, Bool.true_and, Option.bind_some]
      cases u.1 with
      | true => rfl
      | false =>
        simp -implicitDefEqProofs only [Bool.not_true, Bool.not_false, cond_false, Bool.true_and, Option.bind_some, q5, q6, mPort_eq]
        cases hostM s u.2.2.1 with
        | false => rfl
        | true =>
          simp -implicitDefEqProofs only [Bool.not_true, Bool.not_false, cond_false, Bool.true_and, Option.bind_some, q5, q6, mPort_eq]
          cases portOK s u with
          | false => rfl
          | true =>
            simp -implicitDefEqProofs only [Bool.not_true, Bool.not_false, cond_false, Bool.true_and, Option.bind_some, q5, q6, mPort_eq]
            cases pathOK s.2.2.2.2.2.2 u.2.2.2.2.1 m <;> rfl
theorem all93a_eq (N : Nat) (u own : Url) (hu : small u) (ho : small own) (hN : 100005 < N) : match_all_93a (Ev.upto N) ((), ((), ((u, ()), ((own, ()), ())))) =
    some ((urlB u && ((!u.1 && (!own.1 && (u.2.2.2.1 == 0 && (own.2.2.2.1 == 0 && u.2.2.1 == own.2.2.1)))) && (urlB own && schB own.2.1 u.2.1)), ()), ((), ((u, ()), ((own, ()), ())))) := by
  have q1 := m1_eq N u hu hN
  have q2 := Check_eq N own ho hN
  have q3 := mscheme_eq (Ev.upto N) own.2.1 u.2.1
  unfold match_all_93a match_Url_7_631 match_Url_8_631
  simp -implicitDefEqProofs only [q1, Option.bind_some]
  cases urlB u with
  | false => rfl
  | true =>
    simp -implicitDefEqProofs only [Bool.not_true, cond_false, Bool.true_and]
    have h7 : ∀ (x : Bool), x = (!u.1 && (!own.1 && (u.2.2.2.1 == 0 && (own.2.2.2.1 == 0 && u.2.2.1 == own.2.2.1)))) → x = (!u.1 && (!own.1 && (u.2.2.2.1 == 0 && (own.2.2.2.1 == 0 && u.2.2.1 == own.2.2.1)))) := fun _ h => h
    cases u.1 <;> cases own.1 <;> cases u.2.2.2.1 == 0 <;> cases own.2.2.2.1 == 0 <;> cases u.2.2.1 == own.2.2.1 <;> (try rfl)
    simp -implicitDefEqProofs only [Bool.not_false, Bool.not_true, beq_self_eq_true, cond_true, cond_false, Option.bind_some, q2, code_ok, Bool.true_and]
    cases urlB own with
    | false => rfl
    | true =>
      simp -implicitDefEqProofs only [beq_self_eq_true, cond_true, q3, Option.bind_some, Bool.true_and]
      cases schB own.2.1 u.2.1 <;> rfl
theorem url_eq (N : Nat) (s : Src) (u own : Url) (m : Bool) (hs : smallS s) (hu : small u) (ho : small own) (hN : 100005 < N) : match_Url_ (Ev.upto N) ((s, (u, (own, (m, ())))), ()) = some ((matchB s u own m, ()), ()) := by
  have q1 := allc7a_eq N u s.2.2.1 hu hN
  have q2 := all8e3_eq N s u s.2.2.1 m hs hu hN
  have q3 := all8e3_eq N s u own.2.1 m hs hu hN
  have q4 := of_eq N u hu hN
  have q5 := of_eq N own ho hN
  have q6 := all93a_eq N u own hu ho hN
  have q7 := allc7a_eq N u own.2.1 hu hN
  have hq : ∀ k : Int, s.1 = k → ∀ j : Int, (s.1 == j) = (k == j) := fun k h j => by rw [h]
  unfold match_Url_ matchB
  cases h11 : s.1 == 11 with
  | true =>
    have e : s.1 = 11 := by simpa using h11
    have h12 : (s.1 == 12) = false := by rw [hq _ e]; rfl
    cases s.2.2.1 == ([] : Bs) <;> simp -implicitDefEqProofs only [h11, h12, beq_self_eq_true, show (false == true) = false from rfl, cond_true, cond_false, Option.bind_some, q1]
  | false =>
    cases h12 : s.1 == 12 with
    | true =>
      have e : s.1 = 12 := by simpa using h12
      have h2 : (s.1 == 2) = false := by rw [hq _ e]; rfl
      cases s.2.2.1 == ([] : Bs) <;> simp -implicitDefEqProofs only [h11, h12, h2, beq_self_eq_true, show (false == true) = false from rfl, cond_true, cond_false, Option.bind_some, q2, q3]
      · cases urlB u <;> cases schB s.2.2.1 u.2.1 <;> cases u.1 <;> rfl
      · cases urlB u <;> cases schB own.2.1 u.2.1 <;> cases u.1 <;> rfl
    | false =>
      cases h2 : s.1 == 2 with
      | false => cases s.2.2.1 == ([] : Bs) <;> simp -implicitDefEqProofs only [h11, h12, h2, beq_self_eq_true, show (false == true) = false from rfl, cond_true, cond_false, Option.bind_some, Bool.and_false]
      | true =>
        have fin : (sameB (orgB u) (orgB own) || (urlB u && ((!u.1 && (!own.1 && (u.2.2.2.1 == 0 && (own.2.2.2.1 == 0 && u.2.2.1 == own.2.2.1)))) && (urlB own && schB own.2.1 u.2.1)))) = (urlB u && selfB u own) := by
          unfold selfB
          cases hu : urlB u with
          | false =>
            have : orgB u = (true, ([], ([], 0))) := by unfold orgB; rw [hu]; rfl
            rw [this]
            unfold sameB
            simp
          | true =>
            cases sameB (orgB u) (orgB own) <;> cases urlB own <;> cases u.1 <;> cases own.1 <;> cases u.2.2.1 == own.2.2.1 <;> cases u.2.2.2.1 == 0 <;> cases own.2.2.2.1 == 0 <;> rfl
        rw [cond_false, cond_true, ← fin]
        cases s.2.2.1 == ([] : Bs) <;> simp -implicitDefEqProofs only [h11, h12, h2, beq_self_eq_true, show (false == true) = false from rfl, cond_true, cond_false, Option.bind_some, q4, q5, same_eq] <;> cases sameB (orgB u) (orgB own) <;> simp -implicitDefEqProofs only [beq_self_eq_true, cond_true, cond_false, show (true == false) = false from rfl, Option.bind_some, q6, Bool.false_or, Bool.true_or]
end Go.En.Pl
