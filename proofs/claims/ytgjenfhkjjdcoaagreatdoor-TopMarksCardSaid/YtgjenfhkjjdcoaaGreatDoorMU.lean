/- Text MU of this seat: written by a program of ours, or by hand; checked by Lean. -/
import Derived.Test.YtgjenfhkjjdcoaaGreatDoorW
import Derived.Test.YtgjenfhkjjdcoaaGreatDoorG
set_option linter.unusedSimpArgs false
set_option linter.unusedVariables false
namespace Go.En.Pl
/-! -/
theorem all_take {α : Type} {p : α → Bool} {l : List α} {i : Nat} (h : i < l.length) : (l.take (i + 1)).all p = ((l.take i).all p && p l[i]) := by
  rw [List.take_succ_eq_append_getElem h, List.all_append]
  simp
theorem all_no {α : Type} {p : α → Bool} {l : List α} {i : Nat} (h : i < l.length) (hp : p l[i] = false) : l.all p = false := by
  cases hx : l.all p with
  | false => rfl
  | true => rw [List.all_eq_true] at hx; rw [hx _ (List.getElem_mem h)] at hp; cases hp
theorem all_loop (N : Nat) (s : Bs) (F : Int → Option ((Bool × Unit) × Unit)) (p : Int → Bool) (hF : ∀ n : Int, F n = some ((p n, ()), ())) (hs : s.length < N) (hb : s.length ≤ 1000000) :
    ((Ev.upto N).it (α := ((Bs × Int × Int × Unit) × (Unit))) (β := (((Unit) × (Unit)) ⊕ ((Bool × Unit) × (Unit)))) (fun s1 => (bif decide (s1.1.2.2.1 < s1.1.2.1) then ((idx s1.1.1 s1.1.2.2.1).bind fun v2 => ((F ((v2).toNat : Int)).bind fun v3 => (bif (!v3.1.1) then (some (Sum.inr (Sum.inr ((false, ()), ())))) else (some (Sum.inl ((s1.1.1, (s1.1.2.1, ((IntKind.wrap .i64 (s1.1.2.2.1 + (1 : Int))), ()))), ())))))) else (some (Sum.inr (Sum.inl ((), ())))))) ((s, ((s.length : Int), ((0 : Int), ()))), ())).bind (fun o4 => (match o4 with | Sum.inl o5 => (some ((true, ()), ())) | Sum.inr o6 => (some ((o6.1.1, ()), ())))) = some ((s.all fun c => p (c.toNat : Int), ()), ()) := by
  apply wp_eq
  refine wp_bind ?_
  refine wp_for (σ := Unit) (fun i _ => ((s, ((s.length : Int), ((i : Int), ()))), ())) (fun i _ => (s.take i).all (fun c => p (c.toNat : Int)) = true) s.length () rfl (by simp) hs ?_
  rintro i _ hi hn
  by_cases hi' : i < s.length
  · have c0 : decide ((i : Int) < (s.length : Int)) = true := decide_eq_true (by omega)
    have w : IntKind.wrap .i64 ((i : Int) + 1) = ((i + 1 : Nat) : Int) := by rw [wrap64 (by omega) (by omega)]; omega
    simp -implicitDefEqProofs only [c0, cond_true, idx_nat hi', Option.bind_some, hF, w]
    cases hc : p (s[i].toNat : Int) with
    | false => exact ⟨_, rfl, _, rfl, by rw [all_no hi' hc]⟩
    | true => exact ⟨_, rfl, hi', (), rfl, by rw [all_take hi', hn, hc]; rfl⟩
  · have c0 : decide ((i : Int) < (s.length : Int)) = false := decide_eq_false (by omega)
    rw [List.take_of_length_le (by omega)] at hn
    simp -implicitDefEqProofs only [c0, cond_false]
    exact ⟨_, rfl, _, rfl, by rw [hn]⟩
def ltrI (n : Int) : Bool := decide (n ≥ 97) && decide (n ≤ 122)
def digI (n : Int) : Bool := decide (n ≥ 48) && decide (n ≤ 57)
theorem letter_eq (V : Ev) (t : (Int × Unit) × Unit) : url_letter_ V t = some ((ltrI t.1.1, ()), ()) := by
  unfold url_letter_ ltrI
  cases decide (t.1.1 ≥ 97) <;> rfl
theorem digit_eq (V : Ev) (t : (Int × Unit) × Unit) : url_digit_ V t = some ((digI t.1.1, ()), ()) := by
  unfold url_digit_ digI
  cases decide (t.1.1 ≥ 48) <;> rfl
/-! -/
def scmI (n : Int) : Bool := ltrI n || (digI n || (n == 43 || (n == 45 || n == 46)))
theorem scheme1_eq (V : Ev) (n : Int) : url_scheme_1_ V ((n, ()), ()) = some ((scmI n, ()), ()) := by
  unfold url_scheme_1_ scmI
  simp -implicitDefEqProofs only [letter_eq, digit_eq, Option.bind_some]
  cases ltrI n <;> cases digI n <;> cases (n == 43) <;> cases (n == 45) <;> rfl
def hd (s : Bs) : Int := match s with
  | [] => 0
  | c :: _ => (c.toNat : Int)
def schemeB (s : Bs) : Bool := !(s == ([] : Bs)) && (decide ((s.length : Int) ≤ 20) && (ltrI (hd s) && s.all fun c => scmI (c.toNat : Int)))
theorem nil_beq_cons (c : UInt8) (s : Bs) : ((c :: s) == ([] : Bs)) = false := rfl
theorem scheme_eq (N : Nat) (s : Bs) (hN : 21 < N) : url_scheme_ (Ev.upto N) ((s, ()), ()) = some ((schemeB s, ()), ()) := by
  unfold url_scheme_ schemeB
  cases s with
  | nil => rfl
  | cons c s =>
    simp -implicitDefEqProofs only [nil_beq_cons, Bool.not_false, beq_self_eq_true, cond_true, idx_zero, letter_eq, Option.bind_some, hd, Bool.true_and]
    cases hl : decide (((c :: s).length : Int) ≤ 20) with
    | false => rfl
    | true =>
      have hl' := of_decide_eq_true hl
      have q : url_all_16d (Ev.upto N) (((c :: s), ()), ()) = some (((c :: s).all fun c => scmI (c.toNat : Int), ()), ()) := all_loop N (c :: s) (fun n => url_scheme_1_ (Ev.upto N) ((n, ()), ())) scmI (scheme1_eq _) (by omega) (by omega)
      cases ltrI (c.toNat : Int)
      · rfl
      · simp -implicitDefEqProofs only [q, Option.bind_some, beq_self_eq_true, cond_true, Bool.true_and]
def defB (s : Bs) : Int := bif s == ([104, 116, 116, 112] : Bs) || s == ([119, 115] : Bs) then 80 else bif s == ([104, 116, 116, 112, 115] : Bs) || s == ([119, 115, 115] : Bs) then 443 else 0
theorem default_eq (V : Ev) (t : (Bs × Unit) × Unit) : url_Default_ V t = some ((defB t.1.1, ()), ()) := by
  obtain ⟨⟨s, ⟨⟩⟩, ⟨⟩⟩ := t
  unfold url_Default_ defB
  cases h1 : (s == ([104, 116, 116, 112] : Bs)) <;> cases h2 : (s == ([119, 115] : Bs)) <;> cases h3 : (s == ([104, 116, 116, 112, 115] : Bs)) <;> cases h4 : (s == ([119, 115, 115] : Bs)) <;> simp -implicitDefEqProofs only [h1, h2, h3, h4, cond_true, cond_false, Option.bind_some, Bool.or_false, Bool.false_or, Bool.true_or, Bool.or_true]
/-! -/
def hstI (n : Int) : Bool := ltrI n || (digI n || (n == 45 || n == 46))
theorem host1_eq (V : Ev) (n : Int) : url_host_1_ V ((n, ()), ()) = some ((hstI n, ()), ()) := by
  unfold url_host_1_ hstI
  simp -implicitDefEqProofs only [letter_eq, digit_eq, Option.bind_some]
  cases ltrI n <;> cases digI n <;> cases (n == 45) <;> rfl
def noDD : Bs → Bool
  | a :: b :: r => !(a == 46 && b == 46) && noDD (b :: r)
  | _ => true
theorem index_dd (s : Bs) : decide (Lib.index s [46, 46] ≥ 0) = !noDD s := by
  induction s with
  | nil => rfl
  | cons a s ih =>
    cases s with
    | nil =>
      unfold Lib.index noDD
      cases h : ([46, 46] : List UInt8).isPrefixOf [a] with
      | true => simp [List.isPrefixOf] at h
      | false => rfl
    | cons b s =>
      unfold Lib.index
      rw [show noDD (a :: b :: s) = (!(a == 46 && b == 46) && noDD (b :: s)) from rfl]
      have hp : ([46, 46] : List UInt8).isPrefixOf (a :: b :: s) = (a == 46 && b == 46) := by
        simp only [List.isPrefixOf, Bool.and_true]
        rw [Bool.eq_iff_iff]
        simp only [Bool.and_eq_true, beq_iff_eq]
        constructor <;> rintro ⟨h1, h2⟩ <;> exact ⟨h1.symm, h2.symm⟩
      rw [hp]
      cases (a == 46 && b == 46) with
      | true => rfl
      | false =>
        simp only [Bool.false_eq_true, if_false, Bool.not_false, Bool.true_and]
        rw [← ih]
        have hg := Lib.index_ge (b :: s) [46, 46]
        by_cases h : Lib.index (b :: s) [46, 46] = -1
        · rw [h]; rfl
        · have h1 : (Lib.index (b :: s) [46, 46] == -1) = false := by simpa using h
          rw [h1]
          simp only [Bool.false_eq_true, if_false]
          rw [decide_eq_true (show Lib.index (b :: s) [46, 46] ≥ 0 by omega), decide_eq_true (show Lib.index (b :: s) [46, 46] + 1 ≥ 0 by omega)]
def hostB (s : Bs) : Bool := !(s == ([] : Bs)) && (decide ((s.length : Int) ≤ 100) && ((s.all fun c => hstI (c.toNat : Int)) && noDD (46 :: s ++ [46])))
theorem strIndex_eq (V : Ev) (s t : Bs) (h : s.length ≤ 1000000) : strings_Index_ V ((s, (t, ())), ()) = some ((Lib.index s t, ()), ()) := by
  unfold strings_Index_ istringslite_Index_ gIndex
  rw [show decide (s.length < 4294967281) = true from decide_eq_true (by omega)]
  rfl
theorem contains_eq (V : Ev) (s t : Bs) (h : s.length ≤ 1000000) : strings_Contains_ V ((s, (t, ())), ()) = some ((decide (Lib.index s t ≥ 0), ()), ()) := by
  unfold strings_Contains_
  simp -implicitDefEqProofs only [strIndex_eq V s t h, Option.bind_some]
theorem host_eq (N : Nat) (s : Bs) (hN : 101 < N) : url_host_ (Ev.upto N) ((s, ()), ()) = some ((hostB s, ()), ()) := by
  unfold url_host_ hostB
  cases s with
  | nil => rfl
  | cons c s =>
    simp -implicitDefEqProofs only [nil_beq_cons, Bool.not_false, beq_self_eq_true, cond_true, Bool.true_and]
    by_cases hl : ((c :: s).length : Int) ≤ 100
    · have q : url_all_70b (Ev.upto N) (((c :: s), ()), ()) = some (((c :: s).all fun c => hstI (c.toNat : Int), ()), ()) := all_loop N (c :: s) (fun n => url_host_1_ (Ev.upto N) ((n, ()), ())) hstI (host1_eq _) (by omega) (by omega)
      have f1 : strFits (([46] : Bs).length + (c :: s).length) = true := strFits_of (by simp only [List.length_cons, List.length_nil] at hl ⊢; omega)
      have f2 : strFits ((([46] : Bs) ++ (c :: s)).length + ([46] : Bs).length) = true := strFits_of (by simp only [List.length_append, List.length_cons, List.length_nil] at hl ⊢; omega)
      have q2 := contains_eq (Ev.upto N) (([46] : Bs) ++ (c :: s) ++ [46]) [46, 46] (by simp only [List.length_append, List.length_cons, List.length_nil] at hl ⊢; omega)
      rw [index_dd] at q2
      simp -implicitDefEqProofs only [decide_eq_true hl, q, Option.bind_some, beq_self_eq_true, cond_true, f1, f2, q2, Bool.not_not, Bool.true_and]
      cases (c :: s).all fun c => hstI (c.toNat : Int)
      · rfl
      · rfl
    · simp only [decide_eq_false hl, Bool.false_and]
      rfl
/-! -/
theorem index_one (s : Bs) (c : UInt8) : Lib.index s [c] = Lib.indexByte s c := by
  induction s with
  | nil => rfl
  | cons b s ih =>
    unfold Lib.index Lib.indexByte
    have hp : ([c] : List UInt8).isPrefixOf (b :: s) = (b == c) := by
      simp only [List.isPrefixOf, Bool.and_true]
      rw [Bool.eq_iff_iff]
      simp only [beq_iff_eq]
      exact ⟨fun h => h.symm, fun h => h.symm⟩
    rw [hp, ih]
def spl : Bs → List Bs
  | [] => [[]]
  | c :: r => bif c == 47 then [] :: spl r else match spl r with
    | [] => [[c]]
    | p :: ps => (c :: p) :: ps
theorem spl_ne : ∀ s : Bs, spl s ≠ []
  | [] => by simp [spl]
  | c :: r => by
    unfold spl
    cases c == 47
    · rw [cond_false]
      cases spl r <;> simp
    · simp
theorem spl_no : ∀ {x : Bs}, (47 : UInt8) ∉ x → spl x = [x]
  | [], _ => rfl
  | c :: r, h => by
    have h1 : ¬ (47 : UInt8) = c := fun e => h (by rw [e]; exact List.mem_cons_self ..)
    have h2 : (47 : UInt8) ∉ r := fun e => h (List.mem_cons_of_mem _ e)
    unfold spl
    rw [show (c == 47) = false by simpa using fun e => h1 e.symm, cond_false, spl_no h2]
theorem spl_cut : ∀ {x : Bs} (r : Bs), (47 : UInt8) ∉ x → spl (x ++ 47 :: r) = x :: spl r
  | [], r, _ => by show spl (47 :: r) = _; rw [spl]; rfl
  | c :: x, r, h => by
    have h1 : ¬ (47 : UInt8) = c := fun e => h (by rw [e]; exact List.mem_cons_self ..)
    have h2 : (47 : UInt8) ∉ x := fun e => h (List.mem_cons_of_mem _ e)
    show spl (c :: (x ++ 47 :: r)) = _
    rw [spl, show (c == 47) = false by simpa using fun e => h1 e.symm, cond_false, spl_cut r h2]
theorem spl_pieces : ∀ (s : Bs) (p : Bs), p ∈ spl s → (47 : UInt8) ∉ p
  | [], p, h => by simp [spl] at h; rw [h]; simp
  | c :: r, p, h => by
    unfold spl at h
    cases hc : c == 47 with
    | true =>
      rw [hc, cond_true] at h
      rcases List.mem_cons.1 h with rfl | h
      · simp
      · exact spl_pieces r p h
    | false =>
      rw [hc, cond_false] at h
      have hc' : ¬ (47 : UInt8) = c := fun e => by rw [← e] at hc; simp at hc
      cases hs : spl r with
      | nil => exact absurd hs (spl_ne r)
      | cons q qs =>
        rw [hs] at h
        have hq := fun x hx => spl_pieces r x (by rw [hs]; exact hx)
        rcases List.mem_cons.1 h with rfl | h
        · intro hm
          rcases List.mem_cons.1 hm with e | hm
          · exact hc' e
          · exact hq q (List.mem_cons_self ..) hm
        · exact hq p (List.mem_cons_of_mem _ h)
theorem join_cons2 (p q : Bs) (r : List Bs) (sep : Bs) : Lib.join (p :: q :: r) sep = p ++ (sep ++ Lib.join (q :: r) sep) := by
  simp [Lib.join, List.intercalate, List.intersperse]
theorem spl_join : ∀ {X : List Bs}, X ≠ [] → (∀ p, p ∈ X → (47 : UInt8) ∉ p) → spl (Lib.join X [47]) = X
  | [], h, _ => absurd rfl h
  | [p], _, h => by rw [Lib.join_one]; exact spl_no (h p (List.mem_cons_self ..))
  | p :: q :: r, _, h => by
    rw [join_cons2]
    show spl (p ++ 47 :: Lib.join (q :: r) [47]) = _
    rw [spl_cut _ (h p (List.mem_cons_self ..)), spl_join (by simp) fun x hx => h x (List.mem_cons_of_mem _ hx)]
theorem join_spl : ∀ s : Bs, Lib.join (spl s) [47] = s
  | [] => rfl
  | c :: r => by
    have ih := join_spl r
    unfold spl
    cases hs : spl r with
    | nil => exact absurd hs (spl_ne r)
    | cons p ps =>
      rw [hs] at ih
      cases hc : c == 47 with
      | true =>
        rw [cond_true, join_cons2, ih]
        have : c = 47 := by simpa using hc
        rw [this]
        rfl
      | false =>
        rw [cond_false]
        cases ps with
        | nil => rw [Lib.join_one] at ih ⊢; rw [ih]
        | cons q qs => rw [join_cons2] at ih ⊢; rw [← ih]; rfl
def wt (X : List Bs) : Nat := (X.map fun p => p.length + 1).sum
theorem wt_append (a b : List Bs) : wt (a ++ b) = wt a + wt b := by simp [wt]
theorem wt_cons (p : Bs) (X : List Bs) : wt (p :: X) = p.length + 1 + wt X := by simp [wt]
theorem wt_dropLast (X : List Bs) : wt X.dropLast ≤ wt X := by
  rcases List.eq_nil_or_concat X with rfl | ⟨a, b, rfl⟩
  · simp [wt]
  · rw [List.concat_eq_append, List.dropLast_concat, wt_append]; omega
theorem len_wt (X : List Bs) : X.length ≤ wt X := by
  induction X with
  | nil => simp
  | cons p X ih => rw [wt_cons, List.length_cons]; omega
theorem join_wt : ∀ X : List Bs, (Lib.join X [47]).length ≤ wt X
  | [] => by simp [Lib.join_nil]
  | [p] => by rw [Lib.join_one, wt_cons]; omega
  | p :: q :: r => by
    have := join_wt (q :: r)
    rw [join_cons2, wt_cons]
    simp only [List.length_append, List.length_cons, List.length_nil]
    omega
theorem wt_spl : ∀ s : Bs, wt (spl s) = s.length + 1
  | [] => rfl
  | c :: r => by
    have ih := wt_spl r
    unfold spl
    cases c == 47 with
    | true => rw [cond_true, wt_cons, ih]; simp; omega
    | false =>
      rw [cond_false]
      cases hs : spl r with
      | nil => exact absurd hs (spl_ne r)
      | cons p ps => rw [hs, wt_cons] at ih; rw [wt_cons]; simp only [List.length_cons]; omega
/-! -/
theorem count_zero (s : Bs) : s.count 47 = 0 ↔ (47 : UInt8) ∉ s := List.count_eq_zero
theorem genSplit_eq (N : Nat) (s : Bs) (hs : s.length + 1 < N) (hb : s.length ≤ 1000000) :
    strings_genSplit_ (Ev.upto N) ((s, (([47] : Bs), ((0 : Int), ((-1 : Int), ())))), ()) = some ((), (spl s, ())) := by
  apply wp_eq
  unfold strings_genSplit_
  have hc : s.count 47 ≤ s.length := List.count_le_length
  have e1 : ((-1 : Int) == 0) = false := rfl
  have e2 : (([47] : Bs) == ([] : Bs)) = false := rfl
  have e3 : decide ((-1 : Int) < 0) = true := rfl
  have q : strings_Count_ (Ev.upto N) ((s, (([47] : Bs), ())), ()) = some ((((s.count 47 : Nat) : Int), ()), ()) := rfl
  have w1 : IntKind.wrap .i64 (((s.count 47 : Nat) : Int) + 1) = ((s.count 47 + 1 : Nat) : Int) := by rw [wrap64 (by omega) (by omega)]; omega
  have w2 : IntKind.wrap .i64 ((s.length : Int) + 1) = ((s.length + 1 : Nat) : Int) := by rw [wrap64 (by omega) (by omega)]; omega
  have w3 : mn ((s.count 47 + 1 : Nat) : Int) ((s.length + 1 : Nat) : Int) = ((s.count 47 + 1 : Nat) : Int) := by unfold mn; rw [if_neg (by omega)]
  have w4 : IntKind.wrap .i64 (((s.count 47 + 1 : Nat) : Int) - 1) = ((s.count 47 : Nat) : Int) := by rw [wrap64 (by omega) (by omega)]; omega
  have f1 : fits (s.count 47 + 1) 16 = true := fits_of (by omega)
  simp -implicitDefEqProofs only [e1, e2, e3, cond_true, cond_false, q, Option.bind_some, w1, w2, w3, w4, beq_self_eq_true, Bool.and_true, decide_eq_true (show (0 : Int) ≤ ((s.count 47 + 1 : Nat) : Int) by omega), Bool.true_and, Int.toNat_natCast, f1]
  refine wp_bind ?_
  refine wp_it (fun a => ∃ (r : Bs) (i : Nat) (l : List Bs), a = ((r, (([47] : Bs), ((0 : Int), ((((s.count 47 : Nat) : Int)), ((i : Int), ()))))), (l, ())) ∧ l.length = s.count 47 + 1 ∧ l.take i ++ spl r = spl s ∧ i + r.count 47 = s.count 47 ∧ r.length ≤ s.length)
    (fun a => s.count 47 - a.1.2.2.2.2.1.toNat) ⟨s, 0, _, rfl, by simp, by simp, by simp, Nat.le_refl _⟩ (by simp; omega) ?_
  rintro _ ⟨r, i, l, rfl, hl, hx, hi, hr⟩
  have fin : i = s.count 47 → ∀ z, z = some (Sum.inl ((r, ((i : Int), ())), (l, ())) : ((Bs × Int × Unit) × (List Bs) × Unit) ⊕ ((Bs × Bs × Int × Int × Int × Unit) × (List Bs) × Unit)) → True := fun _ _ _ => trivial
  by_cases hlt : i < s.count 47
  · have hm : (47 : UInt8) ∈ r := by
      by_cases h : (47 : UInt8) ∈ r
      · exact h
      · rw [← count_zero] at h; omega
    obtain ⟨x, r', hr', hx', hix⟩ := indexByte_split r 47 hm
    have hxl : x.length + 1 + r'.length = r.length := by rw [hr']; simp; omega
    have c0 : decide ((i : Int) < ((s.count 47 : Nat) : Int)) = true := decide_eq_true (by omega)
    have qi : strings_Index_ (Ev.upto N) ((r, (([47] : Bs), ())), ()) = some (((x.length : Int), ()), ()) := by rw [strIndex_eq _ _ _ (by omega), index_one, hix]
    have c1 : decide ((x.length : Int) < 0) = false := nneg _
    have wa : IntKind.wrap .i64 ((x.length : Int) + 0) = ((x.length : Nat) : Int) := by rw [wrap64 (by omega) (by omega)]; omega
    have wb : IntKind.wrap .i64 ((x.length : Int) + ((([47] : Bs).length : Nat) : Int)) = ((x.length + 1 : Nat) : Int) := by rw [wrap64 (by simp; omega) (by simp; omega)]; simp
    have wc : IntKind.wrap .i64 ((i : Int) + 1) = ((i + 1 : Nat) : Int) := by rw [wrap64 (by omega) (by omega)]; omega
    have s1 : sl r 0 ((x.length : Nat) : Int) = some x := by
      rw [show (0 : Int) = ((0 : Nat) : Int) from rfl, sl_nat (Nat.zero_le _) (by omega), hr', List.take_left' rfl]; rfl
    have s2 : sl r ((x.length + 1 : Nat) : Int) (r.length : Int) = some r' := by
      rw [sl_end (by omega), hr', show x ++ 47 :: r' = (x ++ [47]) ++ r' by simp, List.drop_left' (by simp)]
    have g1 : (decide ((0 : Int) ≤ (i : Int)) && decide ((i : Int) < (l.length : Int))) = true := by rw [decide_eq_true (by omega), decide_eq_true (by omega)]; rfl
    have g2 : l[((i : Int)).toNat]? = some l[i] := by rw [Int.toNat_natCast]; exact List.getElem?_eq_getElem (by omega)
    simp -implicitDefEqProofs only [c0, cond_true, qi, Option.bind_some, c1, cond_false, wa, wb, wc, s1, s2, g1, g2]
    refine wp_some ⟨⟨r', i + 1, l.set i x, by simp only [Int.toNat_natCast], by simpa using hl, ?_, ?_, by omega⟩, ?_⟩
    · rw [← hx, hr', spl_cut r' hx', List.take_succ_eq_append_getElem (by simp; omega), List.take_set, List.getElem_set_self, List.append_assoc]
      congr 1
      rw [List.set_eq_of_length_le (by simp; omega)]
    · rw [hr', List.count_append, (count_zero x).2 hx', List.count_cons_self] at hi
      omega
    · simp only [Int.toNat_natCast]; omega
  · have c0 : decide ((i : Int) < ((s.count 47 : Nat) : Int)) = false := decide_eq_false (by omega)
    have hn : (47 : UInt8) ∉ r := by rw [← count_zero]; omega
    have g1 : (decide ((0 : Int) ≤ (i : Int)) && decide ((i : Int) < (l.length : Int))) = true := by rw [decide_eq_true (by omega), decide_eq_true (by omega)]; rfl
    have g2 : l[((i : Int)).toNat]? = some l[i] := by rw [Int.toNat_natCast]; exact List.getElem?_eq_getElem (by omega)
    have wc : IntKind.wrap .i64 ((i : Int) + 1) = ((i + 1 : Nat) : Int) := by rw [wrap64 (by omega) (by omega)]; omega
    have s3 : sl (l.set ((i : Int)).toNat r) 0 ((i + 1 : Nat) : Int) = some (spl s) := by
      rw [Int.toNat_natCast, show (0 : Int) = ((0 : Nat) : Int) from rfl, sl_nat (Nat.zero_le _) (by simp; omega), List.drop_zero, List.take_succ_eq_append_getElem (by simp; omega), List.take_set, List.getElem_set_self, List.set_eq_of_length_le (by simp; omega), ← hx, spl_no hn]
    simp -implicitDefEqProofs only [c0, cond_false, Option.bind_some]
    refine wp_some ?_
    simp -implicitDefEqProofs only [g1, cond_true, g2, Option.bind_some, wc, s3]
    exact ⟨_, rfl, rfl⟩
theorem split_eq (N : Nat) (s : Bs) (hs : s.length + 1 < N) (hb : s.length ≤ 1000000) : strings_Split_ (Ev.upto N) ((s, (([47] : Bs), ())), ()) = some ((), (spl s, ())) := by
  unfold strings_Split_
  have q := genSplit_eq N s hs hb
  simp -implicitDefEqProofs only [q, Option.bind_some]
/-! -/
def cl : List Bs → List Bs → List Bs
  | out, [] => out
  | out, p :: r => cl (bif p == ([46, 46] : Bs) then (bif r.isEmpty then out.dropLast ++ [[]] else out.dropLast) else bif p == ([46] : Bs) then (bif r.isEmpty then out ++ [[]] else out) else out ++ [p]) r
theorem hasPrefix_eq (V : Ev) (s : Bs) (h : s.length ≤ 1000000) : strings_HasPrefix_ V ((s, (([47] : Bs), ())), ()) = some ((match s with | c :: _ => c == 47 | [] => false, ()), ()) := by
  unfold strings_HasPrefix_ istringslite_HasPrefix_
  cases s with
  | nil => rfl
  | cons c s =>
    have h1 : decide (((c :: s).length : Int) ≥ ((([47] : Bs).length : Nat) : Int)) = true := decide_eq_true (by simp only [List.length_cons, List.length_nil]; omega)
    have h2 : sl (c :: s) 0 ((([47] : Bs).length : Nat) : Int) = some [c] := by
      rw [show (0 : Int) = ((0 : Nat) : Int) from rfl, sl_nat (Nat.zero_le _) (by simp)]; rfl
    simp -implicitDefEqProofs only [h1, h2, beq_self_eq_true, cond_true, Option.bind_some]
    have : ([c] == ([47] : Bs)) = (c == 47) := by simp
    rw [this]
def cleanP (s : Bs) : Bs := match s with
  | c :: r => bif c == 47 then 47 :: Lib.join (cl [] (spl r)) [47] else []
  | [] => []
theorem Clean_eq (N : Nat) (s : Bs) (hs : s.length + 2 < N) (hb : s.length ≤ 100000) : url_Clean_ (Ev.upto N) ((s, ()), ()) = some ((cleanP s, ()), ()) := by
  unfold url_Clean_ cleanP
  have hp := hasPrefix_eq (Ev.upto N) s (by omega)
  cases s with
  | nil => rw [hp]; rfl
  | cons c r =>
    simp -implicitDefEqProofs only [hp, Option.bind_some]
    cases hc : c == 47 with
    | false => rfl
    | true =>
      have s1 : sl (c :: r) 1 ((c :: r).length : Int) = some r := by
        rw [show (1 : Int) = ((1 : Nat) : Int) from rfl, sl_end (by simp)]; rfl
      have hsp := split_eq N r (by simp at hs; omega) (by simp at hb; omega)
      simp -implicitDefEqProofs only [Bool.not_true, cond_false, cond_true, s1, Option.bind_some, hsp]
      have hlen : (spl r).length ≤ r.length + 1 := by have := len_wt (spl r); rw [wt_spl] at this; exact this
      have hlen' : (spl r).length ≤ (c :: r).length := by simpa using hlen
      have hr1 : (c :: r).length = r.length + 1 := rfl
      apply wp_eq
      refine wp_bind ?_
      refine wp_for (σ := List Bs) (fun i out => ((((spl r).length : Int), ((i : Int), ())), ((spl r), (out, ())))) (fun i out => cl out ((spl r).drop i) = cl [] (spl r) ∧ wt out ≤ wt ((spl r).take i)) (spl r).length [] rfl ⟨by simp, by simp [wt]⟩ (by omega) ?_
      rintro i out hi ⟨hn, hw⟩
      have hwl : wt ((spl r).take i) ≤ r.length + 1 := by
        have := wt_append ((spl r).take i) ((spl r).drop i)
        rw [List.take_append_drop, wt_spl] at this
        omega
      have hol := len_wt out
      by_cases hi' : i < (spl r).length
      · have c0 : decide ((i : Int) < ((spl r).length : Int)) = true := decide_eq_true (by omega)
        have g1 : decide ((0 : Int) ≤ (i : Int)) = true := decide_eq_true (by omega)
        have g2 : (spl r)[((i : Int)).toNat]? = some (spl r)[i] := by rw [Int.toNat_natCast]; exact List.getElem?_eq_getElem hi'
        have w : IntKind.wrap .i64 ((i : Int) + 1) = ((i + 1 : Nat) : Int) := by rw [wrap64 (by omega) (by omega)]; omega
        have wl : IntKind.wrap .i64 (((spl r).length : Int) - 1) = (((spl r).length - 1 : Nat) : Int) := by rw [wrap64 (by omega) (by omega)]; omega
        have hlast : ((i : Int) == (((spl r).length - 1 : Nat) : Int)) = ((spl r).drop (i + 1)).isEmpty := by
          rw [Bool.eq_iff_iff]
          simp only [beq_iff_eq, List.isEmpty_iff, List.drop_eq_nil_iff]
          omega
        have s2 : sl out 0 (mx 0 (IntKind.wrap .i64 ((out.length : Int) - 1))) = some out.dropLast := by
          rw [wrap64 (by omega) (by omega)]
          have : mx 0 ((out.length : Int) - 1) = ((out.length - 1 : Nat) : Int) := by
            unfold mx; split <;> omega
          rw [this, show (0 : Int) = ((0 : Nat) : Int) from rfl, sl_nat (Nat.zero_le _) (by omega), List.drop_zero, List.dropLast_eq_take]
        have f1 : fits (out.length + ([(spl r)[i]] : List Bs).length) 16 = true := fits_of (by simp only [List.length_cons, List.length_nil] at hb ⊢; omega)
        have f2 : ∀ o : List Bs, o.length ≤ out.length → fits (o.length + ([([] : Bs)] : List Bs).length) 16 = true := fun o ho => fits_of (by simp only [List.length_cons, List.length_nil] at hb ⊢; omega)
        have f3 := f2 out (Nat.le_refl _)
        have f4 := f2 out.dropLast (by simp)
        have hdr : (spl r).drop i = (spl r)[i] :: (spl r).drop (i + 1) := List.drop_eq_getElem_cons hi'
        have htk : wt ((spl r).take (i + 1)) = wt ((spl r).take i) + ((spl r)[i].length + 1) := by rw [List.take_succ_eq_append_getElem hi', wt_append]; rfl
        have hwd := wt_dropLast out
        have h1 : wt [([] : Bs)] = 1 := rfl
        rw [hdr] at hn
        rw [cl] at hn
        simp -implicitDefEqProofs only [c0, cond_true, g1, Bool.true_and, g2, Option.bind_some, s2, wl, hlast, w]
        cases hdd : (spl r)[i] == ([46, 46] : Bs) with
        | true =>
          simp only [hdd, cond_true] at hn
          simp -implicitDefEqProofs only [cond_true, Option.bind_some, wl, hlast]
          cases he : ((spl r).drop (i + 1)).isEmpty with
          | true =>
            simp only [he, cond_true] at hn
            simp -implicitDefEqProofs only [f4, cond_true, Option.bind_some, w]
            exact ⟨_, rfl, hi', _, rfl, hn, by rw [wt_append]; omega⟩
          | false =>
            simp only [he, cond_false] at hn
            simp -implicitDefEqProofs only [cond_false, Option.bind_some, w]
            exact ⟨_, rfl, hi', _, rfl, hn, by omega⟩
        | false =>
          simp only [hdd, cond_false] at hn
          simp -implicitDefEqProofs only [cond_false]
          cases hd1 : (spl r)[i] == ([46] : Bs) with
          | true =>
            simp only [hd1, cond_true] at hn
            simp -implicitDefEqProofs only [cond_true, Option.bind_some, wl, hlast]
            cases he : ((spl r).drop (i + 1)).isEmpty with
            | true =>
              simp only [he, cond_true] at hn
              simp -implicitDefEqProofs only [f3, cond_true, Option.bind_some, w]
              exact ⟨_, rfl, hi', _, rfl, hn, by rw [wt_append]; omega⟩
            | false =>
              simp only [he, cond_false] at hn
              simp -implicitDefEqProofs only [cond_false, Option.bind_some, w]
              exact ⟨_, rfl, hi', _, rfl, hn, by omega⟩
          | false =>
            simp only [hd1, cond_false] at hn
            simp -implicitDefEqProofs only [cond_false, f1, cond_true, Option.bind_some, w]
            exact ⟨_, rfl, hi', _, rfl, hn, by rw [wt_append, htk]; simp only [wt_cons, show wt [] = 0 from rfl]; omega⟩
      · have c0 : decide ((i : Int) < ((spl r).length : Int)) = false := decide_eq_false (by omega)
        rw [List.drop_eq_nil_of_le (by omega)] at hn
        have hn : out = cl [] (spl r) := hn
        have hj := join_wt out
        have qj : strings_Join_ (Ev.upto N) ((([47] : Bs), ()), (out, ())) = some ((Lib.join out [47], ()), ()) := by
          unfold strings_Join_ gJoin maxB
          simp at hb
          rw [decide_eq_true (show (Lib.join out [47]).length ≤ 140737488355328 by omega), decide_eq_true (show out.length ≤ 140737488355328 by omega)]
          rfl
        have f5 : strFits (([47] : Bs).length + (Lib.join out [47]).length) = true := strFits_of (by simp at hb ⊢; omega)
        simp -implicitDefEqProofs only [c0, cond_false]
        refine ⟨_, rfl, ?_⟩
        simp -implicitDefEqProofs only [qj, Option.bind_some, f5, cond_true]
        exact ⟨_, rfl, by rw [hn]; rfl⟩
def dotsB (p : Bs) : Bool := p == ([46] : Bs) || p == ([46, 46] : Bs)
theorem cl_plain : ∀ (l out : List Bs), (∀ p, p ∈ l → dotsB p = false) → cl out l = out ++ l
  | [], out, _ => by simp [cl]
  | p :: r, out, h => by
    have hp := h p (List.mem_cons_self ..)
    unfold dotsB at hp
    simp only [Bool.or_eq_false_iff] at hp
    unfold cl
    rw [hp.1, hp.2, cond_false, cond_false, cl_plain r _ fun q hq => h q (List.mem_cons_of_mem _ hq)]
    simp
theorem cl_no : ∀ (l out : List Bs), (∀ p, p ∈ out → dotsB p = false ∧ (47 : UInt8) ∉ p) → (∀ p, p ∈ l → (47 : UInt8) ∉ p) → ∀ p, p ∈ cl out l → dotsB p = false ∧ (47 : UInt8) ∉ p
  | [], out, h, _, p, hp => h p hp
  | q :: r, out, h, hl, p, hp => by
    unfold cl at hp
    have hr := fun x hx => hl x (List.mem_cons_of_mem q hx)
    have hd : ∀ x, x ∈ out.dropLast → dotsB x = false ∧ (47 : UInt8) ∉ x := fun x hx => h x (List.dropLast_subset _ hx)
    have he : ∀ (o : List Bs), (∀ x, x ∈ o → dotsB x = false ∧ (47 : UInt8) ∉ x) → ∀ x, x ∈ o ++ [[]] → dotsB x = false ∧ (47 : UInt8) ∉ x := fun o ho x hx => by
      rcases List.mem_append.1 hx with hx | hx
      · exact ho x hx
      · rw [List.mem_singleton.1 hx]; exact ⟨rfl, by simp⟩
    refine cl_no r _ ?_ hr p hp
    cases h1 : q == ([46, 46] : Bs) with
    | true =>
      rw [cond_true]
      cases r.isEmpty
      · exact hd
      · exact he _ hd
    | false =>
      rw [cond_false]
      cases h2 : q == ([46] : Bs) with
      | true =>
        rw [cond_true]
        cases r.isEmpty
        · exact h
        · exact he _ h
      | false =>
        rw [cond_false]
        intro x hx
        rcases List.mem_append.1 hx with hx | hx
        · exact h x hx
        · rw [List.mem_singleton.1 hx]
          exact ⟨by unfold dotsB; rw [h1, h2]; rfl, hl q (List.mem_cons_self ..)⟩
def cleanB (s : Bs) : Bool := match s with
  | c :: r => c == 47 && (spl r).all fun p => !dotsB p
  | [] => false
theorem cleanP_beq (s : Bs) (h : (s == ([] : Bs)) = false) : (cleanP s == s) = cleanB s := by
  cases s with
  | nil => cases h
  | cons c r =>
    show ((bif c == 47 then 47 :: Lib.join (cl [] (spl r)) [47] else []) == c :: r) = (c == 47 && (spl r).all fun p => !dotsB p)
    cases hc : c == 47 with
    | false => rfl
    | true =>
      have hc' : c = 47 := by simpa using hc
      subst hc'
      rw [cond_true, Bool.true_and, Bool.eq_iff_iff]
      simp only [beq_iff_eq, List.cons.injEq, true_and, List.all_eq_true, Bool.not_eq_true']
      constructor
      · intro hj p hp
        by_cases hx : cl [] (spl r) = []
        · rw [hx, Lib.join_nil] at hj
          rw [← hj] at hp
          simp only [spl, List.mem_singleton] at hp
          rw [hp]; rfl
        · have hn := cl_no (spl r) [] (fun _ h => by cases h) (spl_pieces r)
          have := spl_join hx fun q hq => (hn q hq).2
          rw [hj] at this
          rw [this] at hp
          exact (hn p hp).1
      · intro h
        rw [cl_plain _ _ h, List.nil_append, join_spl]
/-! -/
abbrev Url := Bool × (Bs × (Bs × (Int × (Bs × Bs))))
def blanks : Bs := [9, 10, 12, 13, 32]
def trimB (s : Bs) : Bs := Lib.trimS s blanks
theorem trim_eq (V : Ev) (t : (Bs × Unit) × Unit) : fold_Trim_ V t = some ((trimB t.1.1, ()), ()) := rfl
/-! -/
theorem itoa_eq (V : Ev) (n : Int) (h0 : 0 ≤ n) : strconv_Itoa_ V ((n, ()), ()) = some ((digs 20 n.toNat, ()), ()) := by
  have : istrconv_Itoa_ V ((n, ()), ()) = some ((digs 20 n.toNat, ()), ()) := by
    unfold istrconv_Itoa_ gItoa
    rw [decide_eq_false (show ¬ n < 0 by omega)]
    rfl
  unfold strconv_Itoa_
  simp -implicitDefEqProofs only [this, Option.bind_some]
/-! -/
def visI (n : Int) : Bool := decide (n > 32) && (decide (n < 127) && (n != 63 && n != 35))
theorem byteOf_eq (V : Ev) (n : Int) : url_byteOf_ V ((n, ()), ()) = some ((visI n, ()), ()) := by
  unfold url_byteOf_ visI
  cases decide (n > 32) <;> cases decide (n < 127) <;> cases (n != 63) <;> rfl
def opqI (n : Int) : Bool := decide (n ≥ 32) && (decide (n < 127) && n != 35)
theorem check1_eq (V : Ev) (n : Int) : url_Check_1_ V ((n, ()), ()) = some ((opqI n, ()), ()) := by
  unfold url_Check_1_ opqI
  cases decide (n ≥ 32) <;> cases decide (n < 127) <;> rfl
theorem check2_eq (V : Ev) (n : Int) : url_Check_2_ V ((n, ()), ()) = some ((visI n || n == 63, ()), ()) := by
  unfold url_Check_2_
  have q := byteOf_eq V n
  simp -implicitDefEqProofs only [q, Option.bind_some]
  cases visI n <;> rfl
theorem all315_eq (N : Nat) (s : Bs) (hs : s.length < N) (hb : s.length ≤ 1000000) : url_all_315 (Ev.upto N) ((s, ()), ()) = some ((s.all fun c => visI (c.toNat : Int), ()), ()) := all_loop N s (fun n => url_byteOf_ (Ev.upto N) ((n, ()), ())) visI (byteOf_eq _) hs hb
theorem all890_eq (N : Nat) (s : Bs) (hs : s.length < N) (hb : s.length ≤ 1000000) : url_all_890 (Ev.upto N) ((s, ()), ()) = some ((s.all fun c => opqI (c.toNat : Int), ()), ()) := all_loop N s (fun n => url_Check_1_ (Ev.upto N) ((n, ()), ())) opqI (check1_eq _) hs hb
theorem allaf7_eq (N : Nat) (s : Bs) (hs : s.length < N) (hb : s.length ≤ 1000000) : url_all_af7 (Ev.upto N) ((s, ()), ()) = some ((s.all fun c => visI (c.toNat : Int) || (c.toNat : Int) == 63, ()), ()) := all_loop N s (fun n => url_Check_2_ (Ev.upto N) ((n, ()), ())) (fun n => visI n || n == 63) (check2_eq _) hs hb
/-! -/
def portB (n : Int) : Bs := bif n == 0 then [] else 58 :: digs 20 n.toNat
def textB (u : Url) : Bs := bif u.1 then u.2.1 ++ [58] ++ u.2.2.2.2.1 else u.2.1 ++ [58, 47, 47] ++ u.2.2.1 ++ portB u.2.2.2.1 ++ u.2.2.2.2.1 ++ u.2.2.2.2.2
def small (u : Url) : Prop := u.2.1.length ≤ 100000 ∧ u.2.2.1.length ≤ 100000 ∧ u.2.2.2.2.1.length ≤ 100000 ∧ u.2.2.2.2.2.length ≤ 100000
theorem text_eq (V : Ev) (u : Url) (hu : small u) (h0 : 0 ≤ u.2.2.2.1) : url_text_ V ((u, ()), ()) = some ((textB u, ()), ()) := by
  obtain ⟨o, sc, h, p, pa, q⟩ := u
  obtain ⟨h1, h2, h3, h4⟩ := hu
  simp only at h1 h2 h3 h4 h0
  have ld := digs_le 20 p.toNat
  have sf : ∀ n : Nat, n ≤ 100000000 → strFits n = true := fun n h => strFits_of h
  have qi := itoa_eq V p h0
  unfold url_text_ textB portB
  cases o with
  | true =>
    simp -implicitDefEqProofs only [cond_true]
    rw [sf _ (by simp only [List.length_cons, List.length_nil]; omega), cond_true, sf _ (by simp only [List.length_append, List.length_cons, List.length_nil]; omega)]
    rfl
  | false =>
    simp -implicitDefEqProofs only [cond_false]
    rw [sf _ (by simp only [List.length_cons, List.length_nil]; omega), cond_true, sf _ (by simp only [List.length_append, List.length_cons, List.length_nil]; omega), cond_true]
    cases hp : p == 0 with
    | true =>
      simp -implicitDefEqProofs only [bne, hp, Bool.not_true, cond_false, cond_true, Option.bind_some, List.append_nil]
      rw [sf _ (by simp only [List.length_append, List.length_cons, List.length_nil]; omega), cond_true, sf _ (by simp only [List.length_append, List.length_cons, List.length_nil]; omega), cond_true]
    | false =>
      simp -implicitDefEqProofs only [bne, hp, Bool.not_false, cond_true, cond_false, qi, Option.bind_some]
      rw [sf _ (by simp only [List.length_append, List.length_cons, List.length_nil]; omega), cond_true, sf _ (by simp only [List.length_append, List.length_cons, List.length_nil]; omega), cond_true, Option.bind_some]
      rw [sf _ (by simp only [List.length_append, List.length_cons, List.length_nil]; omega), cond_true, sf _ (by simp only [List.length_append, List.length_cons, List.length_nil]; omega), cond_true]
      rfl
/-! -/
def queryB (q : Bs) : Bool := match q with
  | [] => true
  | c :: r => (c.toNat : Int) == 63 && r.all fun c => visI (c.toNat : Int) || (c.toNat : Int) == 63
def rankB (u : Url) : Bool := hostB u.2.2.1 && (decide (0 ≤ u.2.2.2.1) && (decide (u.2.2.2.1 ≤ 65535) && (!(u.2.2.2.1 == defB u.2.1) && ((cleanB u.2.2.2.2.1 && u.2.2.2.2.1.all fun c => visI (c.toNat : Int)) && queryB u.2.2.2.2.2))))
def opqB (u : Url) : Bool := u.2.2.1 == ([] : Bs) && (u.2.2.2.2.2 == ([] : Bs) && (u.2.2.2.1 == 0 && ((trimB u.2.2.2.2.1 == u.2.2.2.2.1) && u.2.2.2.2.1.all fun c => opqI (c.toNat : Int))))
def urlB (u : Url) : Bool := schemeB u.2.1 && ((u.1 == (defB u.2.1 == 0)) && ((bif u.1 then opqB u else rankB u) && decide (((textB u).length : Int) ≤ 500)))
theorem query_loop (N : Nat) (q : Bs) (hs : q.length < N) (hb : q.length ≤ 1000000) : (bif (!(q == ([] : Bs))) == true then (idx q (0 : Int)).bind fun v11 => bif (((v11).toNat : Int) != (63 : Int)) == false then (sl q (1 : Int) (q.length : Int)).bind fun v12 => (url_all_af7 (Ev.upto N) ((v12, ()), ())).bind fun v13 => some (!v13.1.1) else some true else some false) = some (!queryB q) := by
  cases q with
  | nil => rfl
  | cons c r =>
    have s1 : sl (c :: r) 1 ((c :: r).length : Int) = some r := by rw [show (1 : Int) = ((1 : Nat) : Int) from rfl, sl_end (by simp)]; rfl
    have qa := allaf7_eq N r (by simp at hs; omega) (by simp at hb; omega)
    have hq : queryB (c :: r) = ((c.toNat : Int) == 63 && r.all fun c => visI (c.toNat : Int) || (c.toNat : Int) == 63) := rfl
    rw [hq]
    simp -implicitDefEqProofs only [nil_beq_cons, Bool.not_false, beq_self_eq_true, cond_true, idx_zero, Option.bind_some, bne]
    cases ((c.toNat : Int) == 63) with
    | false => rfl
    | true => simp -implicitDefEqProofs only [Bool.not_true, beq_self_eq_true, cond_true, s1, qa, Option.bind_some, Bool.true_and]
theorem Check_eq (N : Nat) (u : Url) (hu : small u) (hN : 100005 < N) : url_Check_ (Ev.upto N) ((u, ()), ()) = some ((bif urlB u then 0 else 50, ()), ()) := by
  obtain ⟨o, sc, h, p, pa, q⟩ := u
  have hu' := hu
  obtain ⟨h1, h2, h3, h4⟩ := hu'
  simp only at h1 h2 h3 h4
  have qs := scheme_eq N sc (by omega)
  have qh := host_eq N h (by omega)
  have qc := Clean_eq N pa (by omega) (by omega)
  have q1 := all315_eq N pa (by omega) (by omega)
  have q2 := all890_eq N pa (by omega) (by omega)
  have qt : fold_Trim_ (Ev.upto N) ((pa, ()), ()) = some ((trimB pa, ()), ()) := rfl
  have qx : 0 ≤ p → url_text_ (Ev.upto N) (((o, (sc, (h, (p, (pa, q))))), ()), ()) = some ((textB (o, (sc, (h, (p, (pa, q))))), ()), ()) := fun hp => text_eq (Ev.upto N) _ hu hp
  have qq := query_loop N q (by omega) (by omega)
  unfold url_Check_ urlB opqB rankB
  simp -implicitDefEqProofs only [default_eq, qs, Option.bind_some]
  cases schemeB sc with
  | false => rfl
  | true =>
    simp -implicitDefEqProofs only [Bool.not_true, beq_self_eq_true, cond_true, Option.bind_some, Bool.true_and]
    cases hod : (o == (defB sc == 0)) with
    | false => rfl
    | true =>
      simp -implicitDefEqProofs only [Bool.not_true, cond_false, Bool.true_and]
      cases o with
      | true =>
        simp -implicitDefEqProofs only [cond_true]
        cases h == ([] : Bs) with
        | false => rfl
        | true =>
          cases q == ([] : Bs) with
          | false => rfl
          | true =>
            cases hp : p == 0 with
            | false => simp -implicitDefEqProofs only [bne, hp]; rfl
            | true =>
              have hp' : p = 0 := by simpa using hp
              have qx := qx (by omega)
              simp -implicitDefEqProofs only [bne, hp, Bool.not_true, beq_self_eq_true, cond_true, qt, Option.bind_some, Bool.true_and]
              cases trimB pa == pa with
              | false => rfl
              | true =>
                simp -implicitDefEqProofs only [Bool.not_true, beq_self_eq_true, cond_true, q2, Option.bind_some, Bool.true_and]
                cases pa.all fun c => opqI (c.toNat : Int) with
                | false => rfl
                | true =>
                  simp -implicitDefEqProofs only [Bool.not_true, cond_false, Option.bind_some, qx, Bool.true_and]
                  cases decide (((textB (true, (sc, (h, (p, (pa, q)))))).length : Int) ≤ 500) <;> rfl
      | false =>
        simp -implicitDefEqProofs only [cond_false, qh, Option.bind_some]
        cases hostB h with
        | false => rfl
        | true =>
          simp -implicitDefEqProofs only [Bool.not_true, beq_self_eq_true, cond_true, Bool.true_and]
          by_cases hp0 : p < 0
          · simp only [decide_eq_true hp0, decide_eq_false (show ¬ 0 ≤ p by omega), Bool.false_and]; rfl
          · simp -implicitDefEqProofs only [decide_eq_false hp0, decide_eq_true (show 0 ≤ p by omega), beq_self_eq_true, cond_true, Bool.true_and]
            by_cases hp1 : p > 65535
            · simp only [decide_eq_true hp1, decide_eq_false (show ¬ p ≤ 65535 by omega), Bool.false_and]; rfl
            · have qx := qx (by omega)
              simp -implicitDefEqProofs only [decide_eq_false hp1, decide_eq_true (show p ≤ 65535 by omega), beq_self_eq_true, cond_true, Bool.true_and]
              cases p == defB sc with
              | true => rfl
              | false =>
                simp -implicitDefEqProofs only [beq_self_eq_true, cond_true, q1, Option.bind_some, Bool.not_false, Bool.true_and]
                cases pa.all fun c => visI (c.toNat : Int) with
                | false => simp only [Bool.and_false, Bool.false_and]; rfl
                | true =>
                  simp -implicitDefEqProofs only [Bool.not_true, beq_self_eq_true, cond_true, Bool.and_true]
                  cases hpe : pa == ([] : Bs) with
                  | true =>
                    have : pa = [] := by simpa using hpe
                    subst this
                    rfl
                  | false =>
                    simp -implicitDefEqProofs only [beq_self_eq_true, cond_true, qc, Option.bind_some, cleanP_beq pa hpe]
                    cases cleanB pa with
                    | false => rfl
                    | true =>
                      simp -implicitDefEqProofs only [Bool.not_true, cond_false, Bool.true_and]
                      cases q with
                      | nil =>
                        simp -implicitDefEqProofs only [show (([] : Bs) == ([] : Bs)) = true from rfl, Bool.not_true, show (false == true) = false from rfl, cond_false, Option.bind_some, qx, show queryB [] = true from rfl, Bool.true_and]
                        cases decide (((textB (false, (sc, (h, (p, (pa, []))))) ).length : Int) ≤ 500) <;> rfl
                      | cons c r =>
                        have s1 : sl (c :: r) 1 ((c :: r).length : Int) = some r := by rw [show (1 : Int) = ((1 : Nat) : Int) from rfl, sl_end (by simp)]; rfl
                        have qa := allaf7_eq N r (by simp at h4; omega) (by simp at h4; omega)
                        have hq : queryB (c :: r) = ((c.toNat : Int) == 63 && r.all fun c => visI (c.toNat : Int) || (c.toNat : Int) == 63) := rfl
                        simp -implicitDefEqProofs only [hq, nil_beq_cons, Bool.not_false, beq_self_eq_true, cond_true, idx_zero, Option.bind_some, bne]
                        cases ((c.toNat : Int) == 63) with
                        | false => rfl
                        | true =>
                          simp -implicitDefEqProofs only [Bool.not_true, beq_self_eq_true, cond_true, s1, qa, Option.bind_some, Bool.true_and]
                          cases r.all fun c => visI (c.toNat : Int) || (c.toNat : Int) == 63 with
                          | false => rfl
                          | true =>
                            simp -implicitDefEqProofs only [Bool.not_true, cond_false, Option.bind_some, qx, Bool.true_and]
                            cases decide (((textB (false, (sc, (h, (p, (pa, c :: r)))))).length : Int) ≤ 500) <;> rfl
/-! -/
abbrev Src := Int × (Bs × (Bs × (Bs × (Bool × (Int × Bs)))))
def lowI (n : Int) : Int := bif decide (n ≥ 65) && decide (n ≤ 90) then n + 32 else n
def lowerB (s : Bs) : Bs := toBs ((ofBs s).map lowI)
theorem lowerB_length (s : Bs) : (lowerB s).length = s.length := by simp [lowerB, toBs, ofBs]
theorem ofBs_get {s : Bs} {i : Nat} (h : i < s.length) : (ofBs s)[i]'(by rw [ofBs_length]; exact h) = (s[i].toNat : Int) := by simp [ofBs]
theorem low_wrap (c : UInt8) (h0 : decide ((c.toNat : Int) ≥ 65) = true) (h1 : decide ((c.toNat : Int) ≤ 90) = true) : IntKind.wrap .u8 ((IntKind.wrap .u8 ((c.toNat : Int) + 97)) - 65) = (c.toNat : Int) + 32 := by
  have h0 := of_decide_eq_true h0
  have h1 := of_decide_eq_true h1
  rw [wrapu8 (n := (c.toNat : Int) + 97) (by omega) (by omega), wrapu8 (by omega) (by omega)]
  omega
theorem lower_eq (N : Nat) (s : Bs) (hs : s.length < N) (hb : s.length ≤ 1000000) : fold_Lower_ (Ev.upto N) ((s, ()), ()) = some ((lowerB s, ()), ()) := by
  apply wp_eq
  unfold fold_Lower_
  refine wp_bind ?_
  refine wp_for (σ := Unit) (fun i _ => ((((ofBs s).length : Int), ((i : Int), ())), (((ofBs s).take i).map lowI ++ (ofBs s).drop i, ()))) (fun i _ => True) s.length () (by simp) trivial hs ?_
  rintro i _ hi _
  have hol := ofBs_length s
  have hll : (((ofBs s).take i).map lowI ++ (ofBs s).drop i).length = s.length := by simp [hol]; omega
  by_cases hi' : i < s.length
  · have c0 : decide ((i : Int) < ((ofBs s).length : Int)) = true := decide_eq_true (by omega)
    have c1 : decide ((i : Int) < ((((ofBs s).take i).map lowI ++ (ofBs s).drop i).length : Int)) = true := decide_eq_true (by omega)
    have c2 : decide ((0 : Int) ≤ (i : Int)) = true := decide_eq_true (by omega)
    have w : IntKind.wrap .i64 ((i : Int) + 1) = ((i + 1 : Nat) : Int) := by rw [wrap64 (by omega) (by omega)]; omega
    have hd : (ofBs s).drop i = (s[i].toNat : Int) :: (ofBs s).drop (i + 1) := by rw [List.drop_eq_getElem_cons (by omega), ofBs_get hi']
    have hlen : (((ofBs s).take i).map lowI).length = i := by simp [hol]; omega
    have g : (((ofBs s).take i).map lowI ++ (ofBs s).drop i)[((i : Int)).toNat]? = some (s[i].toNat : Int) := by
      rw [Int.toNat_natCast, List.getElem?_append_right (by omega), hlen, Nat.sub_self, hd]; rfl
    have st : ∀ v, (((ofBs s).take i).map lowI ++ (ofBs s).drop i).set ((i : Int)).toNat v = ((ofBs s).take i).map lowI ++ v :: (ofBs s).drop (i + 1) := by
      intro v
      rw [Int.toNat_natCast, List.set_append_right _ _ (by omega), hlen, Nat.sub_self, hd]; rfl
    have nx : ((ofBs s).take (i + 1)).map lowI ++ (ofBs s).drop (i + 1) = ((ofBs s).take i).map lowI ++ lowI (s[i].toNat : Int) :: (ofBs s).drop (i + 1) := by
      rw [List.take_succ_eq_append_getElem (by omega), List.map_append, ofBs_get hi']; simp
    simp -implicitDefEqProofs only [c0, c1, c2, Bool.and_self, cond_true, g, Option.bind_some]
    cases h1 : decide ((s[i].toNat : Int) ≥ 65) with
    | false =>
      have hx : lowI (s[i].toNat : Int) = (s[i].toNat : Int) := by unfold lowI; rw [h1]; rfl
      rw [hx] at nx
      exact ⟨_, rfl, hi', (), by simp only [w, nx, ← hd], trivial⟩
    | true =>
      cases h2 : decide ((s[i].toNat : Int) ≤ 90) with
      | false =>
        have hx : lowI (s[i].toNat : Int) = (s[i].toNat : Int) := by unfold lowI; rw [h1, h2]; rfl
        rw [hx] at nx
        exact ⟨_, rfl, hi', (), by simp only [w, nx, ← hd], trivial⟩
      | true =>
        have hx : lowI (s[i].toNat : Int) = (s[i].toNat : Int) + 32 := by unfold lowI; rw [h1, h2]; rfl
        rw [hx] at nx
        have lw := low_wrap s[i] h1 h2
        simp -implicitDefEqProofs only [beq_self_eq_true, cond_true, Option.bind_some, c1, c2, Bool.and_self, g, st, lw]
        exact ⟨_, rfl, hi', (), by simp only [w, nx], trivial⟩
  · have c0 : decide ((i : Int) < ((ofBs s).length : Int)) = false := decide_eq_false (by omega)
    simp -implicitDefEqProofs only [c0, cond_false]
    refine ⟨_, rfl, _, rfl, ?_⟩
    rw [List.take_of_length_le (by omega), List.drop_eq_nil_of_le (by omega), List.append_nil]
    rfl
/-! -/
def schB (a b : Bs) : Bool := a == b || ((a == ([104, 116, 116, 112] : Bs) && b == ([104, 116, 116, 112, 115] : Bs)) || (a == ([119, 115] : Bs) && b == ([119, 115, 115] : Bs)))
theorem mscheme_eq (V : Ev) (a b : Bs) : match_Scheme_ V ((a, (b, ())), ()) = some ((schB a b, ()), ()) := by
  unfold match_Scheme_ schB
  cases h0 : a == b with
  | true => rfl
  | false =>
    simp -implicitDefEqProofs only [cond_false, Bool.false_or]
    cases h1 : a == ([104, 116, 116, 112] : Bs) with
    | true =>
      have : a = [104, 116, 116, 112] := by simpa using h1
      subst this
      simp only [Bool.true_and]
      have h2 : (([104, 116, 116, 112] : Bs) == ([119, 115] : Bs)) = false := rfl
      rw [h2, Bool.false_and, Bool.or_false]
      rfl
    | false =>
      cases h2 : a == ([119, 115] : Bs) with
      | true =>
        have : a = [119, 115] := by simpa using h2
        subst this
        simp only [Bool.false_and, Bool.true_and, Bool.false_or]
        rfl
      | false => rfl
/-! -/
def sufB (s x : Bs) : Bool := decide (x.length ≤ s.length) && s.drop (s.length - x.length) == x
theorem hasSuffix_eq (V : Ev) (s x : Bs) (h : s.length ≤ 1000000) (hx : x.length ≤ 1000000) : istringslite_HasSuffix_ V ((s, (x, ())), ()) = some ((sufB s x, ()), ()) := by
  unfold istringslite_HasSuffix_ sufB
  by_cases hl : x.length ≤ s.length
  · have c : decide ((s.length : Int) ≥ (x.length : Int)) = true := decide_eq_true (by omega)
    have w : IntKind.wrap .i64 ((s.length : Int) - (x.length : Int)) = ((s.length - x.length : Nat) : Int) := by rw [wrap64 (by omega) (by omega)]; omega
    have s1 : sl s ((s.length - x.length : Nat) : Int) (s.length : Int) = some (s.drop (s.length - x.length)) := sl_end (by omega)
    simp -implicitDefEqProofs only [c, beq_self_eq_true, cond_true, w, s1, Option.bind_some, decide_eq_true hl, Bool.true_and]
  · simp only [decide_eq_false (show ¬ (s.length : Int) ≥ (x.length : Int) by omega), decide_eq_false hl, Bool.false_and]
    rfl
def preB (s x : Bs) : Bool := decide (x.length ≤ s.length) && s.take x.length == x
theorem hasPrefixG_eq (V : Ev) (s x : Bs) (h : s.length ≤ 1000000) (hx : x.length ≤ 1000000) : istringslite_HasPrefix_ V ((s, (x, ())), ()) = some ((preB s x, ()), ()) := by
  unfold istringslite_HasPrefix_ preB
  by_cases hl : x.length ≤ s.length
  · have c : decide ((s.length : Int) ≥ (x.length : Int)) = true := decide_eq_true (by omega)
    have s1 : sl s (0 : Int) (x.length : Int) = some (s.take x.length) := by rw [show (0 : Int) = ((0 : Nat) : Int) from rfl, sl_nat (Nat.zero_le _) hl, List.drop_zero]
    simp -implicitDefEqProofs only [c, beq_self_eq_true, cond_true, s1, Option.bind_some, decide_eq_true hl, Bool.true_and]
  · simp only [decide_eq_false (show ¬ (s.length : Int) ≥ (x.length : Int) by omega), decide_eq_false hl, Bool.false_and]
    rfl
def hostM (s : Src) (h : Bs) : Bool := bif !s.2.2.2.2.1 then lowerB s.2.2.2.1 == lowerB h else bif lowerB s.2.2.2.1 == ([] : Bs) then true else decide ((46 :: lowerB s.2.2.2.1).length < (lowerB h).length) && sufB (lowerB h) (46 :: lowerB s.2.2.2.1)
theorem mhost_eq (N : Nat) (s : Src) (h : Bs) (hs : s.2.2.2.1.length < N) (hs' : s.2.2.2.1.length ≤ 100000) (hh : h.length < N) (hh' : h.length ≤ 100000) : match_Host_ (Ev.upto N) ((s, (h, ())), ()) = some ((hostM s h, ()), ()) := by
  have q1 := lower_eq N s.2.2.2.1 hs (by omega)
  have q2 := lower_eq N h hh (by omega)
  have l1 := lowerB_length s.2.2.2.1
  have l2 := lowerB_length h
  unfold match_Host_ hostM
  simp -implicitDefEqProofs only [q1, q2, Option.bind_some]
  cases s.2.2.2.2.1 with
  | false => rfl
  | true =>
    simp -implicitDefEqProofs only [Bool.not_true, cond_false]
    cases lowerB s.2.2.2.1 == ([] : Bs) with
    | true => rfl
    | false =>
      have f : strFits (([46] : Bs).length + (lowerB s.2.2.2.1).length) = true := strFits_of (by simp only [List.length_cons, List.length_nil]; omega)
      have q3 := hasSuffix_eq (Ev.upto N) (lowerB h) (46 :: lowerB s.2.2.2.1) (by omega) (by simp only [List.length_cons]; omega)
      simp -implicitDefEqProofs only [cond_false, f, cond_true]
      unfold strings_CutSuffix_ istringslite_CutSuffix_
      simp -implicitDefEqProofs only [show ([46] : Bs) ++ lowerB s.2.2.2.1 = 46 :: lowerB s.2.2.2.1 from rfl, q3, Option.bind_some]
      cases hx : sufB (lowerB h) (46 :: lowerB s.2.2.2.1) with
      | false => simp only [Bool.and_false]; rfl
      | true =>
        have hle : (46 :: lowerB s.2.2.2.1).length ≤ (lowerB h).length := by
          unfold sufB at hx
          simp only [Bool.and_eq_true, decide_eq_true_eq] at hx
          exact hx.1
        have w : IntKind.wrap .i64 (((lowerB h).length : Int) - ((46 :: lowerB s.2.2.2.1).length : Int)) = (((lowerB h).length - (46 :: lowerB s.2.2.2.1).length : Nat) : Int) := by rw [wrap64 (by omega) (by omega)]; omega
        have s1 : sl (lowerB h) (0 : Int) (((lowerB h).length - (46 :: lowerB s.2.2.2.1).length : Nat) : Int) = some ((lowerB h).take ((lowerB h).length - (46 :: lowerB s.2.2.2.1).length)) := by
          rw [show (0 : Int) = ((0 : Nat) : Int) from rfl, sl_nat (Nat.zero_le _) (by omega), List.drop_zero]
        have hne : (!((lowerB h).take ((lowerB h).length - (46 :: lowerB s.2.2.2.1).length) == ([] : Bs))) = decide ((46 :: lowerB s.2.2.2.1).length < (lowerB h).length) := by
          rw [Bool.eq_iff_iff]
          simp only [Bool.not_eq_true', beq_eq_false_iff_ne, ne_eq, List.take_eq_nil_iff, decide_eq_true_eq]
          constructor
          · intro h'
            have : ¬ ((lowerB h).length - (46 :: lowerB s.2.2.2.1).length = 0) := fun e => h' (.inl e)
            omega
          · rintro h' (e | e)
            · omega
            · rw [e] at h'; simp at h'
        simp -implicitDefEqProofs only [Bool.not_true, cond_false, w, s1, Option.bind_some, beq_self_eq_true, cond_true, hne, Bool.and_true]
/-! -/
def portM (u : Url) : Int := bif u.2.2.2.1 == 0 then defB u.2.1 else u.2.2.2.1
theorem mport_eq (V : Ev) (t : (Url × Unit) × Unit) : match_port_ V t = some ((portM t.1.1, ()), ()) := by
  unfold match_port_ portM
  simp -implicitDefEqProofs only [default_eq, Option.bind_some, bne]
  cases (t.1.1.2.2.2.1 == 0) <;> rfl
theorem oport_eq (V : Ev) (t : (Url × Unit) × Unit) : origin_address_port_ V t = some ((portM t.1.1, ()), ()) := mport_eq V t
def portOK (s : Src) (u : Url) : Bool := bif s.2.2.2.2.2.1 == -1 then true else bif s.2.2.2.2.2.1 == 0 then portM u == defB u.2.1 else portM u == s.2.2.2.2.2.1 || (s.2.2.2.2.2.1 == 80 && portM u == 443)
theorem mPort_eq (V : Ev) (t : (Src × (Url × Unit)) × Unit) : match_Port_ V t = some ((portOK t.1.1 t.1.2.1, ()), ()) := by
  obtain ⟨⟨s, u, ⟨⟩⟩, ⟨⟩⟩ := t
  unfold match_Port_ portOK
  simp -implicitDefEqProofs only [mport_eq, default_eq, Option.bind_some]
  cases s.2.2.2.2.2.1 == -1 with
  | true => rfl
  | false =>
    cases s.2.2.2.2.2.1 == 0 with
    | true => rfl
    | false =>
      cases h : s.2.2.2.2.2.1 == 80 with
      | false => simp only [cond_false, Bool.false_and, Bool.or_false]
      | true =>
        have : s.2.2.2.2.2.1 = 80 := by simpa using h
        rw [this]
        cases portM u == 80 <;> rfl
def pathOK (a b : Bs) (moved : Bool) : Bool := moved || (a == ([] : Bs) || (a == b || (sufB a [47] && preB b a)))
theorem mPath_eq (V : Ev) (a b : Bs) (m : Bool) (ha : a.length ≤ 100000) (hb : b.length ≤ 100000) : match_Path_ V ((a, (b, (m, ()))), ()) = some ((pathOK a b m, ()), ()) := by
  have q1 : strings_HasSuffix_ V ((a, (([47] : Bs), ())), ()) = some ((sufB a [47], ()), ()) := by
    unfold strings_HasSuffix_
    have q := hasSuffix_eq V a [47] (by omega) (by simp)
    simp -implicitDefEqProofs only [q, Option.bind_some]
  have q2 : strings_HasPrefix_ V ((b, (a, ())), ()) = some ((preB b a, ()), ()) := by
    unfold strings_HasPrefix_
    have q := hasPrefixG_eq V b a (by omega) (by omega)
    simp -implicitDefEqProofs only [q, Option.bind_some]
  unfold match_Path_ pathOK
  simp -implicitDefEqProofs only [q1, q2, Option.bind_some]
  cases m <;> cases a == ([] : Bs) <;> cases a == b <;> cases sufB a [47] <;> rfl
/-! -/
abbrev Org := Bool × (Bs × (Bs × Int))
def orgB (u : Url) : Org := bif !urlB u || u.1 then (true, ([], ([], 0))) else (false, (u.2.1, (u.2.2.1, portM u)))
theorem code_ok (b : Bool) : ((bif b then (0 : Int) else 50) == 0) = b := by cases b <;> rfl
theorem of_eq (N : Nat) (u : Url) (hu : small u) (hN : 100005 < N) : origin_Of_ (Ev.upto N) ((u, ()), ()) = some ((orgB u, ()), ()) := by
  have q := Check_eq N u hu hN
  unfold origin_Of_ orgB
  simp -implicitDefEqProofs only [q, Option.bind_some, bne, code_ok, oport_eq]
  cases urlB u with
  | false => rfl
  | true => cases u.1 <;> rfl
def sameB (a b : Org) : Bool := (a.1 == b.1 && (a.2.1 == b.2.1 && (a.2.2.1 == b.2.2.1 && (a.2.2.2 == b.2.2.2 && true)))) && !a.1
theorem same_eq (V : Ev) (t : (Org × (Org × Unit)) × Unit) : origin_Same_ V t = some ((sameB t.1.1 t.1.2.1, ()), ()) := by
  unfold origin_Same_ sameB
  cases ((t.1.1.1 == t.1.2.1.1) && ((t.1.1.2.1 == t.1.2.1.2.1) && ((t.1.1.2.2.1 == t.1.2.1.2.2.1) && ((t.1.1.2.2.2 == t.1.2.1.2.2.2) && true)))) <;> rfl
def selfB (u own : Url) : Bool := sameB (orgB u) (orgB own) || (urlB own && (!u.1 && (!own.1 && (u.2.2.1 == own.2.2.1 && (u.2.2.2.1 == 0 && (own.2.2.2.1 == 0 && schB own.2.1 u.2.1))))))
def matchB (s : Src) (u own : Url) (moved : Bool) : Bool := urlB u && (bif s.1 == 11 then schB s.2.2.1 u.2.1 else bif s.1 == 2 then selfB u own else bif s.1 == 12 then (!u.1 && (schB (bif s.2.2.1 == ([] : Bs) then own.2.1 else s.2.2.1) u.2.1 && (hostM s u.2.2.1 && (portOK s u && pathOK s.2.2.2.2.2.2 u.2.2.2.2.1 moved)))) else false)
def smallS (s : Src) : Prop := s.2.2.2.1.length ≤ 100000 ∧ s.2.2.2.2.2.2.length ≤ 100000
theorem m1_eq (N : Nat) (u : Url) (hu : small u) (hN : 100005 < N) : match_Url_1_4de (Ev.upto N) ((), ((u, ()), ())) = some ((urlB u, ()), ((u, ()), ())) := by
  unfold match_Url_1_4de
  have q := Check_eq N u hu hN
  simp -implicitDefEqProofs only [q, Option.bind_some, code_ok]
theorem m2_eq (V : Ev) (told : Bs) (u : Url) : match_Url_2_9a2 V ((), ((told, ()), ((u, ()), ()))) = some ((schB told u.2.1, ()), ((told, ()), ((u, ()), ()))) := by
  unfold match_Url_2_9a2
  have q := mscheme_eq V told u.2.1
  simp -implicitDefEqProofs only [q, Option.bind_some]
theorem allc7a_eq (N : Nat) (u : Url) (told : Bs) (hu : small u) (hN : 100005 < N) : match_all_c7a (Ev.upto N) ((), ((), ((u, ()), ((told, ()), ())))) = some ((urlB u && schB told u.2.1, ()), ((), ((u, ()), ((told, ()), ())))) := by
  unfold match_all_c7a
  have q1 := m1_eq N u hu hN
  have q2 := m2_eq (Ev.upto N) told u
  simp -implicitDefEqProofs only [q1, q2, Option.bind_some]
  cases urlB u <;> cases schB told u.2.1 <;> rfl
theorem all8e3_eq (N : Nat) (s : Src) (u : Url) (told : Bs) (m : Bool) (hs : smallS s) (hu : small u) (hN : 100005 < N) : match_all_8e3 (Ev.upto N) ((), ((), ((u, ()), ((told, ()), ((s, ()), ((m, ()), ())))))) =
    some ((urlB u && (schB told u.2.1 && (!u.1 && (hostM s u.2.2.1 && (portOK s u && pathOK s.2.2.2.2.2.2 u.2.2.2.2.1 m)))), ()), ((), ((u, ()), ((told, ()), ((s, ()), ((m, ()), ())))))) := by
  have q1 := m1_eq N u hu hN
  have q2 := m2_eq (Ev.upto N) told u
  have q5 := mhost_eq N s u.2.2.1 (by have := hs.1; omega) hs.1 (by have := hu.2.1; omega) hu.2.1
  have q6 := mPath_eq (Ev.upto N) s.2.2.2.2.2.2 u.2.2.2.2.1 m hs.2 hu.2.2.1
  unfold match_all_8e3 match_Url_3_4de match_Url_4_e35 match_Url_5_e35 match_Url_6_20a
  simp -implicitDefEqProofs only [q1, q2, Option.bind_some]
  cases urlB u with
  | false => rfl
  | true =>
    cases schB told u.2.1 with
    | false => rfl
    | true =>
      simp -implicitDefEqProofs only [Bool.not_true, cond_false, Bool.true_and, Option.bind_some]
      cases u.1 with
      | true => rfl
      | false =>
        simp -implicitDefEqProofs only [Bool.not_true, Bool.not_false, cond_false, Bool.true_and, Option.bind_some, q5, q6, mPort_eq]
        cases hostM s u.2.2.1 with
        | false => rfl
        | true =>
          simp -implicitDefEqProofs only [Bool.not_true, Bool.not_false, cond_false, Bool.true_and, Option.bind_some, q5, q6, mPort_eq]
          cases portOK s u with
          | false => rfl
          | true =>
            simp -implicitDefEqProofs only [Bool.not_true, Bool.not_false, cond_false, Bool.true_and, Option.bind_some, q5, q6, mPort_eq]
            cases pathOK s.2.2.2.2.2.2 u.2.2.2.2.1 m <;> rfl
theorem all93a_eq (N : Nat) (u own : Url) (hu : small u) (ho : small own) (hN : 100005 < N) : match_all_93a (Ev.upto N) ((), ((), ((u, ()), ((own, ()), ())))) =
    some ((urlB u && ((!u.1 && (!own.1 && (u.2.2.2.1 == 0 && (own.2.2.2.1 == 0 && u.2.2.1 == own.2.2.1)))) && (urlB own && schB own.2.1 u.2.1)), ()), ((), ((u, ()), ((own, ()), ())))) := by
  have q1 := m1_eq N u hu hN
  have q2 := Check_eq N own ho hN
  have q3 := mscheme_eq (Ev.upto N) own.2.1 u.2.1
  unfold match_all_93a match_Url_7_631 match_Url_8_631
  simp -implicitDefEqProofs only [q1, Option.bind_some]
  cases urlB u with
  | false => rfl
  | true =>
    simp -implicitDefEqProofs only [Bool.not_true, cond_false, Bool.true_and]
    have h7 : ∀ (x : Bool), x = (!u.1 && (!own.1 && (u.2.2.2.1 == 0 && (own.2.2.2.1 == 0 && u.2.2.1 == own.2.2.1)))) → x = (!u.1 && (!own.1 && (u.2.2.2.1 == 0 && (own.2.2.2.1 == 0 && u.2.2.1 == own.2.2.1)))) := fun _ h => h
    cases u.1 <;> cases own.1 <;> cases u.2.2.2.1 == 0 <;> cases own.2.2.2.1 == 0 <;> cases u.2.2.1 == own.2.2.1 <;> (try rfl)
    simp -implicitDefEqProofs only [Bool.not_false, Bool.not_true, beq_self_eq_true, cond_true, cond_false, Option.bind_some, q2, code_ok, Bool.true_and]
    cases urlB own with
    | false => rfl
    | true =>
      simp -implicitDefEqProofs only [beq_self_eq_true, cond_true, q3, Option.bind_some, Bool.true_and]
      cases schB own.2.1 u.2.1 <;> rfl
theorem url_eq (N : Nat) (s : Src) (u own : Url) (m : Bool) (hs : smallS s) (hu : small u) (ho : small own) (hN : 100005 < N) : match_Url_ (Ev.upto N) ((s, (u, (own, (m, ())))), ()) = some ((matchB s u own m, ()), ()) := by
  have q1 := allc7a_eq N u s.2.2.1 hu hN
  have q2 := all8e3_eq N s u s.2.2.1 m hs hu hN
  have q3 := all8e3_eq N s u own.2.1 m hs hu hN
  have q4 := of_eq N u hu hN
  have q5 := of_eq N own ho hN
  have q6 := all93a_eq N u own hu ho hN
  have q7 := allc7a_eq N u own.2.1 hu hN
  have hq : ∀ k : Int, s.1 = k → ∀ j : Int, (s.1 == j) = (k == j) := fun k h j => by rw [h]
  unfold match_Url_ matchB
  cases h11 : s.1 == 11 with
  | true =>
    have e : s.1 = 11 := by simpa using h11
    have h12 : (s.1 == 12) = false := by rw [hq _ e]; rfl
    cases s.2.2.1 == ([] : Bs) <;> simp -implicitDefEqProofs only [h11, h12, beq_self_eq_true, show (false == true) = false from rfl, cond_true, cond_false, Option.bind_some, q1]
  | false =>
    cases h12 : s.1 == 12 with
    | true =>
      have e : s.1 = 12 := by simpa using h12
      have h2 : (s.1 == 2) = false := by rw [hq _ e]; rfl
      cases s.2.2.1 == ([] : Bs) <;> simp -implicitDefEqProofs only [h11, h12, h2, beq_self_eq_true, show (false == true) = false from rfl, cond_true, cond_false, Option.bind_some, q2, q3]
      · cases urlB u <;> cases schB s.2.2.1 u.2.1 <;> cases u.1 <;> rfl
      · cases urlB u <;> cases schB own.2.1 u.2.1 <;> cases u.1 <;> rfl
    | false =>
      cases h2 : s.1 == 2 with
      | false => cases s.2.2.1 == ([] : Bs) <;> simp -implicitDefEqProofs only [h11, h12, h2, beq_self_eq_true, show (false == true) = false from rfl, cond_true, cond_false, Option.bind_some, Bool.and_false]
      | true =>
        have fin : (sameB (orgB u) (orgB own) || (urlB u && ((!u.1 && (!own.1 && (u.2.2.2.1 == 0 && (own.2.2.2.1 == 0 && u.2.2.1 == own.2.2.1)))) && (urlB own && schB own.2.1 u.2.1)))) = (urlB u && selfB u own) := by
          unfold selfB
          cases hu : urlB u with
          | false =>
            have : orgB u = (true, ([], ([], 0))) := by unfold orgB; rw [hu]; rfl
            rw [this]
            unfold sameB
            simp
          | true =>
            cases sameB (orgB u) (orgB own) <;> cases urlB own <;> cases u.1 <;> cases own.1 <;> cases u.2.2.1 == own.2.2.1 <;> cases u.2.2.2.1 == 0 <;> cases own.2.2.2.1 == 0 <;> rfl
        rw [cond_false, cond_true, ← fin]
        cases s.2.2.1 == ([] : Bs) <;> simp -implicitDefEqProofs only [h11, h12, h2, beq_self_eq_true, show (false == true) = false from rfl, cond_true, cond_false, Option.bind_some, q4, q5, same_eq] <;> cases sameB (orgB u) (orgB own) <;> simp -implicitDefEqProofs only [beq_self_eq_true, cond_true, cond_false, show (true == false) = false from rfl, Option.bind_some, q6, Bool.false_or, Bool.true_or]
end Go.En.Pl
