/- Text PU2 of this seat: written by a program of ours, or by hand; checked by Lean. -/
import Derived.Test.YtikphcnjknbdmaaGreatDoorPU1
set_option linter.unusedSimpArgs false
set_option linter.unusedVariables false
namespace Go.En.Pl
/-! Paths: their pieces, cut, joined, cleaned. -/
theorem index_one (s : Bs) (c : UInt8) : Lib.index s [c] = Lib.indexByte s c := by
  induction s with
  | nil => rfl
  | cons b s ih =>
    unfold Lib.index Lib.indexByte
    have hp : ([c] : List UInt8).isPrefixOf (b :: s) = (b == c) := by
      simp only [List.isPrefixOf, Bool.and_true]
      rw [Bool.eq_iff_iff]
      simp only [beq_iff_eq]
      exact ⟨fun h => h.symm, fun h => h.symm⟩
    rw [hp, ih]
def spl : Bs → List Bs
  | [] => [[]]
  | c :: r => bif c == 47 then [] :: spl r else match spl r with
    | [] => [[c]]
    | p :: ps => (c :: p) :: ps
theorem spl_ne : ∀ s : Bs, spl s ≠ []
  | [] => by simp [spl]
  | c :: r => by
    unfold spl
    cases c == 47
    · rw [cond_false]
      cases spl r <;> simp
    · simp
theorem spl_no : ∀ {x : Bs}, (47 : UInt8) ∉ x → spl x = [x]
  | [], _ => rfl
  | c :: r, h => by
    have h1 : ¬ (47 : UInt8) = c := fun e => h (by rw [e]; exact List.mem_cons_self ..)
    have h2 : (47 : UInt8) ∉ r := fun e => h (List.mem_cons_of_mem _ e)
    unfold spl
    rw [show (c == 47) = false by simpa using fun e => h1 e.symm, cond_false, spl_no h2]
theorem spl_cut : ∀ {x : Bs} (r : Bs), (47 : UInt8) ∉ x → spl (x ++ 47 :: r) = x :: spl r
  | [], r, _ => by show spl (47 :: r) = _; rw [spl]; rfl
  | c :: x, r, h => by
    have h1 : ¬ (47 : UInt8) = c := fun e => h (by rw [e]; exact List.mem_cons_self ..)
    have h2 : (47 : UInt8) ∉ x := fun e => h (List.mem_cons_of_mem _ e)
    show spl (c :: (x ++ 47 :: r)) = _
    rw [spl, show (c == 47) = false by simpa using fun e => h1 e.symm, cond_false, spl_cut r h2]
theorem spl_pieces : ∀ (s : Bs) (p : Bs), p ∈ spl s → (47 : UInt8) ∉ p
  | [], p, h => by simp [spl] at h; rw [h]; simp
  | c :: r, p, h => by
    unfold spl at h
    cases hc : c == 47 with
    | true =>
      rw [hc, cond_true] at h
      rcases List.mem_cons.1 h with rfl | h
      · simp
      · exact spl_pieces r p h
    | false =>
      rw [hc, cond_false] at h
      have hc' : ¬ (47 : UInt8) = c := fun e => by rw [← e] at hc; simp at hc
      cases hs : spl r with
      | nil => exact absurd hs (spl_ne r)
      | cons q qs =>
        rw [hs] at h
        have hq := fun x hx => spl_pieces r x (by rw [hs]; exact hx)
        rcases List.mem_cons.1 h with rfl | h
        · intro hm
          rcases List.mem_cons.1 hm with e | hm
          · exact hc' e
          · exact hq q (List.mem_cons_self ..) hm
        · exact hq p (List.mem_cons_of_mem _ h)
theorem join_cons2 (p q : Bs) (r : List Bs) (sep : Bs) : Lib.join (p :: q :: r) sep = p ++ (sep ++ Lib.join (q :: r) sep) := by
  simp [Lib.join, List.intercalate, List.intersperse]
theorem spl_join : ∀ {X : List Bs}, X ≠ [] → (∀ p, p ∈ X → (47 : UInt8) ∉ p) → spl (Lib.join X [47]) = X
  | [], h, _ => absurd rfl h
  | [p], _, h => by rw [Lib.join_one]; exact spl_no (h p (List.mem_cons_self ..))
  | p :: q :: r, _, h => by
    rw [join_cons2]
    show spl (p ++ 47 :: Lib.join (q :: r) [47]) = _
    rw [spl_cut _ (h p (List.mem_cons_self ..)), spl_join (by simp) fun x hx => h x (List.mem_cons_of_mem _ hx)]
theorem join_spl : ∀ s : Bs, Lib.join (spl s) [47] = s
  | [] => rfl
  | c :: r => by
    have ih := join_spl r
    unfold spl
    cases hs : spl r with
    | nil => exact absurd hs (spl_ne r)
    | cons p ps =>
      rw [hs] at ih
      cases hc : c == 47 with
      | true =>
        rw [cond_true, join_cons2, ih]
        have : c = 47 := by simpa using hc
        rw [this]
        rfl
      | false =>
        rw [cond_false]
        cases ps with
        | nil => rw [Lib.join_one] at ih ⊢; rw [ih]
        | cons q qs => rw [join_cons2] at ih ⊢; rw [← ih]; rfl
def wt (X : List Bs) : Nat := (X.map fun p => p.length + 1).sum
theorem wt_append (a b : List Bs) : wt (a ++ b) = wt a + wt b := by simp [wt]
theorem wt_cons (p : Bs) (X : List Bs) : wt (p :: X) = p.length + 1 + wt X := by simp [wt]
theorem wt_dropLast (X : List Bs) : wt X.dropLast ≤ wt X := by
  rcases List.eq_nil_or_concat X with rfl | ⟨a, b, rfl⟩
  · simp [wt]
  · rw [List.concat_eq_append, List.dropLast_concat, wt_append]; omega
theorem len_wt (X : List Bs) : X.length ≤ wt X := by
  induction X with
  | nil => simp
  | cons p X ih => rw [wt_cons, List.length_cons]; omega
theorem join_wt : ∀ X : List Bs, (Lib.join X [47]).length ≤ wt X
  | [] => by simp [Lib.join_nil]
  | [p] => by rw [Lib.join_one, wt_cons]; omega
  | p :: q :: r => by
    have := join_wt (q :: r)
    rw [join_cons2, wt_cons]
    simp only [List.length_append, List.length_cons, List.length_nil]
    omega
theorem wt_spl : ∀ s : Bs, wt (spl s) = s.length + 1
  | [] => rfl
  | c :: r => by
    have ih := wt_spl r
    unfold spl
    cases c == 47 with
    | true => rw [cond_true, wt_cons, ih]; simp; omega
    | false =>
      rw [cond_false]
      cases hs : spl r with
      | nil => exact absurd hs (spl_ne r)
      | cons p ps => rw [hs, wt_cons] at ih; rw [wt_cons]; simp only [List.length_cons]; omega
/-! ### strings.Split at / -/
theorem count_zero (s : Bs) : s.count 47 = 0 ↔ (47 : UInt8) ∉ s := List.count_eq_zero
theorem genSplit_eq (N : Nat) (s : Bs) (hs : s.length + 1 < N) (hb : s.length ≤ 1000000) :
    strings_genSplit_ (Ev.upto N) ((s, (([47] : Bs), ((0 : Int), ((-1 : Int), ())))), ()) = some ((), (spl s, ())) := by
  apply wp_eq
  unfold strings_genSplit_
  have hc : s.count 47 ≤ s.length := List.count_le_length
  have e1 : ((-1 : Int) == 0) = false := rfl
  have e2 : (([47] : Bs) == ([] : Bs)) = false := rfl
  have e3 : decide ((-1 : Int) < 0) = true := rfl
  have q : strings_Count_ (Ev.upto N) ((s, (([47] : Bs), ())), ()) = some ((((s.count 47 : Nat) : Int), ()), ()) := rfl
  have w1 : IntKind.wrap .i64 (((s.count 47 : Nat) : Int) + 1) = ((s.count 47 + 1 : Nat) : Int) := by rw [wrap64 (by omega) (by omega)]; omega
  have w2 : IntKind.wrap .i64 ((s.length : Int) + 1) = ((s.length + 1 : Nat) : Int) := by rw [wrap64 (by omega) (by omega)]; omega
  have w3 : mn ((s.count 47 + 1 : Nat) : Int) ((s.length + 1 : Nat) : Int) = ((s.count 47 + 1 : Nat) : Int) := by unfold mn; rw [if_neg (by omega)]
  have w4 : IntKind.wrap .i64 (((s.count 47 + 1 : Nat) : Int) - 1) = ((s.count 47 : Nat) : Int) := by rw [wrap64 (by omega) (by omega)]; omega
  have f1 : fits (s.count 47 + 1) 16 = true := fits_of (by omega)
  simp -implicitDefEqProofs only [e1, e2, e3, cond_true, cond_false, q, Option.bind_some, w1, w2, w3, w4, beq_self_eq_true, Bool.and_true, decide_eq_true (show (0 : Int) ≤ ((s.count 47 + 1 : Nat) : Int) by omega), Bool.true_and, Int.toNat_natCast, f1]
  refine wp_bind ?_
  refine wp_it (fun a => ∃ (r : Bs) (i : Nat) (l : List Bs), a = ((r, (([47] : Bs), ((0 : Int), ((((s.count 47 : Nat) : Int)), ((i : Int), ()))))), (l, ())) ∧ l.length = s.count 47 + 1 ∧ l.take i ++ spl r = spl s ∧ i + r.count 47 = s.count 47 ∧ r.length ≤ s.length)
    (fun a => s.count 47 - a.1.2.2.2.2.1.toNat) ⟨s, 0, _, rfl, by simp, by simp, by simp, Nat.le_refl _⟩ (by simp; omega) ?_
  rintro _ ⟨r, i, l, rfl, hl, hx, hi, hr⟩
  have fin : i = s.count 47 → ∀ z, z = some (Sum.inl ((r, ((i : Int), ())), (l, ())) : ((Bs × Int × Unit) × (List Bs) × Unit) ⊕ ((Bs × Bs × Int × Int × Int × Unit) × (List Bs) × Unit)) → True := fun _ _ _ => trivial
  by_cases hlt : i < s.count 47
  · have hm : (47 : UInt8) ∈ r := by
      by_cases h : (47 : UInt8) ∈ r
      · exact h
      · rw [← count_zero] at h; omega
    obtain ⟨x, r', hr', hx', hix⟩ := indexByte_split r 47 hm
    have hxl : x.length + 1 + r'.length = r.length := by rw [hr']; simp; omega
    have c0 : decide ((i : Int) < ((s.count 47 : Nat) : Int)) = true := decide_eq_true (by omega)
    have qi : strings_Index_ (Ev.upto N) ((r, (([47] : Bs), ())), ()) = some (((x.length : Int), ()), ()) := by rw [strIndex_eq _ _ _ (by omega), index_one, hix]
    have c1 : decide ((x.length : Int) < 0) = false := nneg _
    have wa : IntKind.wrap .i64 ((x.length : Int) + 0) = ((x.length : Nat) : Int) := by rw [wrap64 (by omega) (by omega)]; omega
    have wb : IntKind.wrap .i64 ((x.length : Int) + ((([47] : Bs).length : Nat) : Int)) = ((x.length + 1 : Nat) : Int) := by rw [wrap64 (by simp; omega) (by simp; omega)]; simp
    have wc : IntKind.wrap .i64 ((i : Int) + 1) = ((i + 1 : Nat) : Int) := by rw [wrap64 (by omega) (by omega)]; omega
    have s1 : sl r 0 ((x.length : Nat) : Int) = some x := by
      rw [show (0 : Int) = ((0 : Nat) : Int) from rfl, sl_nat (Nat.zero_le _) (by omega), hr', List.take_left' rfl]; rfl
    have s2 : sl r ((x.length + 1 : Nat) : Int) (r.length : Int) = some r' := by
      rw [sl_end (by omega), hr', show x ++ 47 :: r' = (x ++ [47]) ++ r' by simp, List.drop_left' (by simp)]
    have g1 : (decide ((0 : Int) ≤ (i : Int)) && decide ((i : Int) < (l.length : Int))) = true := by rw [decide_eq_true (by omega), decide_eq_true (by omega)]; rfl
    have g2 : l[((i : Int)).toNat]? = some l[i] := by rw [Int.toNat_natCast]; exact List.getElem?_eq_getElem (by omega)
    simp -implicitDefEqProofs only [c0, cond_true, qi, Option.bind_some, c1, cond_false, wa, wb, wc, s1, s2, g1, g2]
    refine wp_some ⟨⟨r', i + 1, l.set i x, by simp only [Int.toNat_natCast], by simpa using hl, ?_, ?_, by omega⟩, ?_⟩
    · rw [← hx, hr', spl_cut r' hx', List.take_succ_eq_append_getElem (by simp; omega), List.take_set, List.getElem_set_self, List.append_assoc]
      congr 1
      rw [List.set_eq_of_length_le (by simp; omega)]
    · rw [hr', List.count_append, (count_zero x).2 hx', List.count_cons_self] at hi
      omega
    · simp only [Int.toNat_natCast]; omega
  · have c0 : decide ((i : Int) < ((s.count 47 : Nat) : Int)) = false := decide_eq_false (by omega)
    have hn : (47 : UInt8) ∉ r := by rw [← count_zero]; omega
    have g1 : (decide ((0 : Int) ≤ (i : Int)) && decide ((i : Int) < (l.length : Int))) = true := by rw [decide_eq_true (by omega), decide_eq_true (by omega)]; rfl
    have g2 : l[((i : Int)).toNat]? = some l[i] := by rw [Int.toNat_natCast]; exact List.getElem?_eq_getElem (by omega)
    have wc : IntKind.wrap .i64 ((i : Int) + 1) = ((i + 1 : Nat) : Int) := by rw [wrap64 (by omega) (by omega)]; omega
    have s3 : sl (l.set ((i : Int)).toNat r) 0 ((i + 1 : Nat) : Int) = some (spl s) := by
      rw [Int.toNat_natCast, show (0 : Int) = ((0 : Nat) : Int) from rfl, sl_nat (Nat.zero_le _) (by simp; omega), List.drop_zero, List.take_succ_eq_append_getElem (by simp; omega), List.take_set, List.getElem_set_self, List.set_eq_of_length_le (by simp; omega), ← hx, spl_no hn]
    simp -implicitDefEqProofs only [c0, cond_false, Option.bind_some]
    refine wp_some ?_
    simp -implicitDefEqProofs only [g1, cond_true, g2, Option.bind_some, wc, s3]
    exact ⟨_, rfl, rfl⟩
theorem split_eq (N : Nat) (s : Bs) (hs : s.length + 1 < N) (hb : s.length ≤ 1000000) : strings_Split_ (Ev.upto N) ((s, (([47] : Bs), ())), ()) = some ((), (spl s, ())) := by
  unfold strings_Split_
  have q := genSplit_eq N s hs hb
  simp -implicitDefEqProofs only [q, Option.bind_some]
/-! ### Clean -/
def cl : List Bs → List Bs → List Bs
  | out, [] => out
  | out, p :: r => cl (bif p == ([46, 46] : Bs) then (bif r.isEmpty then out.dropLast ++ [[]] else out.dropLast) else bif p == ([46] : Bs) then (bif r.isEmpty then out ++ [[]] else out) else out ++ [p]) r
theorem wt_cl : ∀ (l out : List Bs), wt (cl out l) ≤ wt out + wt l
  | [], out => by simp [cl, wt]
  | p :: r, out => by
    unfold cl
    refine Nat.le_trans (wt_cl r _) ?_
    rw [wt_cons]
    have hd := wt_dropLast out
    have h1 : wt [([] : Bs)] = 1 := rfl
    cases p == ([46, 46] : Bs) <;> cases p == ([46] : Bs) <;> cases r.isEmpty <;> simp only [cond_true, cond_false, wt_append, h1] <;> (try simp only [wt_cons, show wt [] = 0 from rfl]) <;> omega
theorem hasPrefix_eq (V : Ev) (s : Bs) (h : s.length ≤ 1000000) : strings_HasPrefix_ V ((s, (([47] : Bs), ())), ()) = some ((match s with | c :: _ => c == 47 | [] => false, ()), ()) := by
  unfold strings_HasPrefix_ istringslite_HasPrefix_
  cases s with
  | nil => rfl
  | cons c s =>
    have h1 : decide (((c :: s).length : Int) ≥ ((([47] : Bs).length : Nat) : Int)) = true := decide_eq_true (by simp only [List.length_cons, List.length_nil]; omega)
    have h2 : sl (c :: s) 0 ((([47] : Bs).length : Nat) : Int) = some [c] := by
      rw [show (0 : Int) = ((0 : Nat) : Int) from rfl, sl_nat (Nat.zero_le _) (by simp)]; rfl
    simp -implicitDefEqProofs only [h1, h2, beq_self_eq_true, cond_true, Option.bind_some]
    have : ([c] == ([47] : Bs)) = (c == 47) := by simp
    rw [this]
def cleanP (s : Bs) : Bs := match s with
  | c :: r => bif c == 47 then 47 :: Lib.join (cl [] (spl r)) [47] else []
  | [] => []
theorem Clean_eq (N : Nat) (s : Bs) (hs : s.length + 2 < N) (hb : s.length ≤ 100000) : url_Clean_ (Ev.upto N) ((s, ()), ()) = some ((cleanP s, ()), ()) := by
  unfold url_Clean_ cleanP
  have hp := hasPrefix_eq (Ev.upto N) s (by omega)
  cases s with
  | nil => rw [hp]; rfl
  | cons c r =>
    simp -implicitDefEqProofs only [hp, Option.bind_some]
    cases hc : c == 47 with
    | false => rfl
    | true =>
      have s1 : sl (c :: r) 1 ((c :: r).length : Int) = some r := by
        rw [show (1 : Int) = ((1 : Nat) : Int) from rfl, sl_end (by simp)]; rfl
      have hsp := split_eq N r (by simp at hs; omega) (by simp at hb; omega)
      simp -implicitDefEqProofs only [Bool.not_true, cond_false, cond_true, s1, Option.bind_some, hsp]
      have hlen : (spl r).length ≤ r.length + 1 := by have := len_wt (spl r); rw [wt_spl] at this; exact this
      have hlen' : (spl r).length ≤ (c :: r).length := by simpa using hlen
      have hr1 : (c :: r).length = r.length + 1 := rfl
      apply wp_eq
      refine wp_bind ?_
      refine wp_for (σ := List Bs) (fun i out => ((((spl r).length : Int), ((i : Int), ())), ((spl r), (out, ())))) (fun i out => cl out ((spl r).drop i) = cl [] (spl r) ∧ wt out ≤ wt ((spl r).take i)) (spl r).length [] rfl ⟨by simp, by simp [wt]⟩ (by omega) ?_
      rintro i out hi ⟨hn, hw⟩
      have hwl : wt ((spl r).take i) ≤ r.length + 1 := by
        have := wt_append ((spl r).take i) ((spl r).drop i)
        rw [List.take_append_drop, wt_spl] at this
        omega
      have hol := len_wt out
      by_cases hi' : i < (spl r).length
      · have c0 : decide ((i : Int) < ((spl r).length : Int)) = true := decide_eq_true (by omega)
        have g1 : decide ((0 : Int) ≤ (i : Int)) = true := decide_eq_true (by omega)
        have g2 : (spl r)[((i : Int)).toNat]? = some (spl r)[i] := by rw [Int.toNat_natCast]; exact List.getElem?_eq_getElem hi'
        have w : IntKind.wrap .i64 ((i : Int) + 1) = ((i + 1 : Nat) : Int) := by rw [wrap64 (by omega) (by omega)]; omega
        have wl : IntKind.wrap .i64 (((spl r).length : Int) - 1) = (((spl r).length - 1 : Nat) : Int) := by rw [wrap64 (by omega) (by omega)]; omega
        have hlast : ((i : Int) == (((spl r).length - 1 : Nat) : Int)) = ((spl r).drop (i + 1)).isEmpty := by
          rw [Bool.eq_iff_iff]
          simp only [beq_iff_eq, List.isEmpty_iff, List.drop_eq_nil_iff]
          omega
        have s2 : sl out 0 (mx 0 (IntKind.wrap .i64 ((out.length : Int) - 1))) = some out.dropLast := by
          rw [wrap64 (by omega) (by omega)]
          have : mx 0 ((out.length : Int) - 1) = ((out.length - 1 : Nat) : Int) := by
            unfold mx; split <;> omega
          rw [this, show (0 : Int) = ((0 : Nat) : Int) from rfl, sl_nat (Nat.zero_le _) (by omega), List.drop_zero, List.dropLast_eq_take]
        have f1 : fits (out.length + ([(spl r)[i]] : List Bs).length) 16 = true := fits_of (by simp only [List.length_cons, List.length_nil] at hb ⊢; omega)
        have f2 : ∀ o : List Bs, o.length ≤ out.length → fits (o.length + ([([] : Bs)] : List Bs).length) 16 = true := fun o ho => fits_of (by simp only [List.length_cons, List.length_nil] at hb ⊢; omega)
        have f3 := f2 out (Nat.le_refl _)
        have f4 := f2 out.dropLast (by simp)
        have hdr : (spl r).drop i = (spl r)[i] :: (spl r).drop (i + 1) := List.drop_eq_getElem_cons hi'
        have htk : wt ((spl r).take (i + 1)) = wt ((spl r).take i) + ((spl r)[i].length + 1) := by rw [List.take_succ_eq_append_getElem hi', wt_append]; rfl
        have hwd := wt_dropLast out
        have h1 : wt [([] : Bs)] = 1 := rfl
        rw [hdr] at hn
        rw [cl] at hn
        simp -implicitDefEqProofs only [c0, cond_true, g1, Bool.true_and, g2, Option.bind_some, s2, wl, hlast, w]
        cases hdd : (spl r)[i] == ([46, 46] : Bs) with
        | true =>
          simp only [hdd, cond_true] at hn
          simp -implicitDefEqProofs only [cond_true, Option.bind_some, wl, hlast]
          cases he : ((spl r).drop (i + 1)).isEmpty with
          | true =>
            simp only [he, cond_true] at hn
            simp -implicitDefEqProofs only [f4, cond_true, Option.bind_some, w]
            exact ⟨_, rfl, hi', _, rfl, hn, by rw [wt_append]; omega⟩
          | false =>
            simp only [he, cond_false] at hn
            simp -implicitDefEqProofs only [cond_false, Option.bind_some, w]
            exact ⟨_, rfl, hi', _, rfl, hn, by omega⟩
        | false =>
          simp only [hdd, cond_false] at hn
          simp -implicitDefEqProofs only [cond_false]
          cases hd1 : (spl r)[i] == ([46] : Bs) with
          | true =>
            simp only [hd1, cond_true] at hn
            simp -implicitDefEqProofs only [cond_true, Option.bind_some, wl, hlast]
            cases he : ((spl r).drop (i + 1)).isEmpty with
            | true =>
              simp only [he, cond_true] at hn
              simp -implicitDefEqProofs only [f3, cond_true, Option.bind_some, w]
              exact ⟨_, rfl, hi', _, rfl, hn, by rw [wt_append]; omega⟩
            | false =>
              simp only [he, cond_false] at hn
              simp -implicitDefEqProofs only [cond_false, Option.bind_some, w]
              exact ⟨_, rfl, hi', _, rfl, hn, by omega⟩
          | false =>
            simp only [hd1, cond_false] at hn
            simp -implicitDefEqProofs only [cond_false, f1, cond_true, Option.bind_some, w]
            exact ⟨_, rfl, hi', _, rfl, hn, by rw [wt_append, htk]; simp only [wt_cons, show wt [] = 0 from rfl]; omega⟩
      · have c0 : decide ((i : Int) < ((spl r).length : Int)) = false := decide_eq_false (by omega)
        rw [List.drop_eq_nil_of_le (by omega)] at hn
        have hn : out = cl [] (spl r) := hn
        have hj := join_wt out
        have qj : strings_Join_ (Ev.upto N) ((([47] : Bs), ()), (out, ())) = some ((Lib.join out [47], ()), ()) := by
          unfold strings_Join_ gJoin maxB
          simp at hb
          rw [decide_eq_true (show (Lib.join out [47]).length ≤ 140737488355328 by omega), decide_eq_true (show out.length ≤ 140737488355328 by omega)]
          rfl
        have f5 : strFits (([47] : Bs).length + (Lib.join out [47]).length) = true := strFits_of (by simp at hb ⊢; omega)
        simp -implicitDefEqProofs only [c0, cond_false]
        refine ⟨_, rfl, ?_⟩
        simp -implicitDefEqProofs only [qj, Option.bind_some, f5, cond_true]
        exact ⟨_, rfl, by rw [hn]; rfl⟩
/-- A path is as it is when it is cleaned: it has no piece that is dots. -/
def dotsB (p : Bs) : Bool := p == ([46] : Bs) || p == ([46, 46] : Bs)
theorem cl_plain : ∀ (l out : List Bs), (∀ p, p ∈ l → dotsB p = false) → cl out l = out ++ l
  | [], out, _ => by simp [cl]
  | p :: r, out, h => by
    have hp := h p (List.mem_cons_self ..)
    unfold dotsB at hp
    simp only [Bool.or_eq_false_iff] at hp
    unfold cl
    rw [hp.1, hp.2, cond_false, cond_false, cl_plain r _ fun q hq => h q (List.mem_cons_of_mem _ hq)]
    simp
theorem cl_no : ∀ (l out : List Bs), (∀ p, p ∈ out → dotsB p = false ∧ (47 : UInt8) ∉ p) → (∀ p, p ∈ l → (47 : UInt8) ∉ p) → ∀ p, p ∈ cl out l → dotsB p = false ∧ (47 : UInt8) ∉ p
  | [], out, h, _, p, hp => h p hp
  | q :: r, out, h, hl, p, hp => by
    unfold cl at hp
    have hr := fun x hx => hl x (List.mem_cons_of_mem q hx)
    have hd : ∀ x, x ∈ out.dropLast → dotsB x = false ∧ (47 : UInt8) ∉ x := fun x hx => h x (List.dropLast_subset _ hx)
    have he : ∀ (o : List Bs), (∀ x, x ∈ o → dotsB x = false ∧ (47 : UInt8) ∉ x) → ∀ x, x ∈ o ++ [[]] → dotsB x = false ∧ (47 : UInt8) ∉ x := fun o ho x hx => by
      rcases List.mem_append.1 hx with hx | hx
      · exact ho x hx
      · rw [List.mem_singleton.1 hx]; exact ⟨rfl, by simp⟩
    refine cl_no r _ ?_ hr p hp
    cases h1 : q == ([46, 46] : Bs) with
    | true =>
      rw [cond_true]
      cases r.isEmpty
      · exact hd
      · exact he _ hd
    | false =>
      rw [cond_false]
      cases h2 : q == ([46] : Bs) with
      | true =>
        rw [cond_true]
        cases r.isEmpty
        · exact h
        · exact he _ h
      | false =>
        rw [cond_false]
        intro x hx
        rcases List.mem_append.1 hx with hx | hx
        · exact h x hx
        · rw [List.mem_singleton.1 hx]
          exact ⟨by unfold dotsB; rw [h1, h2]; rfl, hl q (List.mem_cons_self ..)⟩
def cleanB (s : Bs) : Bool := match s with
  | c :: r => c == 47 && (spl r).all fun p => !dotsB p
  | [] => false
theorem cleanP_beq (s : Bs) (h : (s == ([] : Bs)) = false) : (cleanP s == s) = cleanB s := by
  cases s with
  | nil => cases h
  | cons c r =>
    show ((bif c == 47 then 47 :: Lib.join (cl [] (spl r)) [47] else []) == c :: r) = (c == 47 && (spl r).all fun p => !dotsB p)
    cases hc : c == 47 with
    | false => rfl
    | true =>
      have hc' : c = 47 := by simpa using hc
      subst hc'
      rw [cond_true, Bool.true_and, Bool.eq_iff_iff]
      simp only [beq_iff_eq, List.cons.injEq, true_and, List.all_eq_true, Bool.not_eq_true']
      constructor
      · intro hj p hp
        by_cases hx : cl [] (spl r) = []
        · rw [hx, Lib.join_nil] at hj
          rw [← hj] at hp
          simp only [spl, List.mem_singleton] at hp
          rw [hp]; rfl
        · have hn := cl_no (spl r) [] (fun _ h => by cases h) (spl_pieces r)
          have := spl_join hx fun q hq => (hn q hq).2
          rw [hj] at this
          rw [this] at hp
          exact (hn p hp).1
      · intro h
        rw [cl_plain _ _ h, List.nil_append, join_spl]
end Go.En.Pl
