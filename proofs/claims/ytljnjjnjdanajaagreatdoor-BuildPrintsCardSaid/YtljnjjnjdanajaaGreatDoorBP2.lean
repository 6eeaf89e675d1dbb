/- Text BP2 of this seat: written by a program of ours, or by hand; checked by Lean. -/
import Derived.Test.YtljnjjnjdanajaaGreatDoorBP1
set_option linter.unusedSimpArgs false
set_option linter.unusedVariables false
namespace Go.En.Pl
def attrP (a : Att) : Bs := [32] ++ a.1 ++ [61, 34] ++ enc a.2 ++ [34]
def attrsP (l : List Att) : Bs := l.flatMap attrP
def startP (t : Tok) : Bs := [60] ++ t.2.1 ++ attrsP t.2.2.2.1 ++ (bif t.2.2.2.2 then [47] else []) ++ [62]
def plainN (n : Bs) : Bool := n == ([115, 99, 114, 105, 112, 116] : Bs) || n == ([115, 116, 121, 108, 101] : Bs)
def codeT (t : Tok) : Bool := t.1 == 2 && plainN t.2.1
def tokP (c : Bool) (t : Tok) : Bs :=
  bif t.1 == 1 then (bif c then t.2.2.1 else enc t.2.2.1) else bif t.1 == 2 then startP t else bif t.1 == 3 then [60, 47] ++ t.2.1 ++ [62] else bif t.1 == 4 then [60, 33, 45, 45] ++ t.2.2.1 ++ [45, 45, 62] else
  bif t.1 == 5 then [60, 33, 100, 111, 99, 116, 121, 112, 101, 32] ++ t.2.2.1 ++ [62] else []
def codeB (l : List Tok) : Nat → Bool
  | 0 => false
  | i + 1 => match l[i]? with
    | some t => codeT t
    | none => false
def pre (l : List Tok) : Nat → Bs
  | 0 => []
  | i + 1 => pre l i ++ (match l[i]? with
    | some t => tokP (codeB l i) t
    | none => [])
theorem pre_succ {l : List Tok} {i : Nat} (h : i < l.length) : pre l (i + 1) = pre l i ++ tokP (codeB l i) l[i] := by
  rw [pre, List.getElem?_eq_getElem h]
theorem codeB_succ {l : List Tok} {i : Nat} (h : i < l.length) : codeB l (i + 1) = codeT l[i] := by
  rw [codeB, List.getElem?_eq_getElem h]
def okA (a : Att) : Prop := a.1.length ≤ 300 ∧ a.2.length ≤ 2000
def okT (t : Tok) : Prop := t.2.1.length ≤ 300 ∧ t.2.2.1.length ≤ 3000 ∧ t.2.2.2.1.length ≤ 50 ∧ ∀ a ∈ t.2.2.2.1, okA a
theorem attrP_len {a : Att} (h : okA a) : (attrP a).length ≤ 12400 := by
  obtain ⟨h1, h2⟩ := h
  have := enc_len a.2
  unfold attrP
  simp only [List.length_append, List.length_cons, List.length_nil]
  omega
theorem attrsP_len : ∀ l : List Att, (∀ a ∈ l, okA a) → (attrsP l).length ≤ 12400 * l.length
  | [], _ => by simp [attrsP]
  | a :: l, h => by
    have h1 := attrsP_len l (fun b hb => h b (List.mem_cons_of_mem _ hb))
    have h2 := attrP_len (h a List.mem_cons_self)
    simp only [attrsP, List.flatMap_cons, List.length_append, List.length_cons] at h1 ⊢
    omega
theorem tokP_len {c : Bool} {t : Tok} (h : okT t) : (tokP c t).length ≤ 640000 := by
  obtain ⟨h1, h2, h3, h4⟩ := h
  have e := enc_len t.2.2.1
  have a := attrsP_len _ h4
  unfold tokP
  cases (t.1 == 1) <;> simp only [cond_true, cond_false]
  · cases (t.1 == 2) <;> simp only [cond_true, cond_false]
    · cases (t.1 == 3) <;> simp only [cond_true, cond_false]
      · cases (t.1 == 4) <;> simp only [cond_true, cond_false]
        · cases (t.1 == 5) <;> simp only [cond_true, cond_false, List.length_append, List.length_cons, List.length_nil] <;> omega
        · simp only [List.length_append, List.length_cons, List.length_nil]; omega
      · simp only [List.length_append, List.length_cons, List.length_nil]; omega
    · unfold startP
      cases t.2.2.2.2 <;> simp only [cond_true, cond_false, List.length_append, List.length_cons, List.length_nil] <;> omega
  · cases c <;> simp only [cond_true, cond_false] <;> omega
theorem pre_len {l : List Tok} (h : ∀ t ∈ l, okT t) : ∀ i, i ≤ l.length → (pre l i).length ≤ 640000 * i
  | 0, _ => by simp [pre]
  | i + 1, hi => by
    have h1 := pre_len h i (by omega)
    have h2 : (tokP (codeB l i) l[i]).length ≤ 640000 := tokP_len (h _ (List.getElem_mem (by omega)))
    rw [pre_succ (by omega), List.length_append]
    omega
theorem attrsP_take {l : List Att} {j : Nat} (h : j < l.length) : attrsP (l.take (j + 1)) = attrsP (l.take j) ++ attrP l[j] := by
  simp only [attrsP]
  rw [List.take_succ_eq_append_getElem h, List.flatMap_append]
  simp
theorem sf {a b : Nat} (ha : a ≤ 90000000) (hb : b ≤ 10000000) : strFits (a + b) = true := strFits_of (by omega)
/-! -/
theorem rstart_eq (N : Nat) (t : Tok) (h : okT t) (hN : 4000 < N) : pounceref14_start_ (Ev.upto N) ((t, ()), ()) = some ((startP t, ()), ()) := by
  obtain ⟨h1, h2, h3, h4⟩ := h
  apply wp_eq
  unfold pounceref14_start_
  have f0 : strFits (([60] : Bs).length + t.2.1.length) = true := sf (by decide) (by omega)
  simp -implicitDefEqProofs only [f0, cond_true]
  refine wp_bind ?_
  refine wp_for (σ := Unit) (fun i _ => ((([60] ++ t.2.1 ++ attrsP (t.2.2.2.1.take i)), ((i : Int), ())), ((t, ()), ()))) (fun i _ => True) t.2.2.2.1.length () (by simp [attrsP]) trivial (by omega) ?_
  rintro i _ hi _
  have lt : (attrsP (t.2.2.2.1.take i)).length ≤ 12400 * i := by
    have := attrsP_len (t.2.2.2.1.take i) (fun a ha => h4 a (List.mem_of_mem_take ha))
    simp only [List.length_take] at this
    omega
  by_cases hi' : i < t.2.2.2.1.length
  · have c0 : decide ((i : Int) < (t.2.2.2.1.length : Int)) = true := decide_eq_true (by omega)
    have w : IntKind.wrap .i64 ((i : Int) + 1) = ((i + 1 : Nat) : Int) := by rw [wrap64 (by omega) (by omega)]; omega
    obtain ⟨a1, a2⟩ := h4 _ (List.getElem_mem hi')
    have el := enc_len t.2.2.2.1[i].2
    have q := rEncode_eq N t.2.2.2.1[i].2 (by omega) (by omega)
    have g1 : strFits (([60] ++ t.2.1 ++ attrsP (t.2.2.2.1.take i)).length + ([32] : Bs).length) = true := sf (by simp; omega) (by simp)
    have g2 : strFits (([60] ++ t.2.1 ++ attrsP (t.2.2.2.1.take i) ++ [32]).length + t.2.2.2.1[i].1.length) = true := sf (by simp; omega) (by omega)
    have g3 : strFits (([60] ++ t.2.1 ++ attrsP (t.2.2.2.1.take i) ++ [32] ++ t.2.2.2.1[i].1).length + ([61, 34] : Bs).length) = true := sf (by simp; omega) (by simp)
    have g4 : strFits (([60] ++ t.2.1 ++ attrsP (t.2.2.2.1.take i) ++ [32] ++ t.2.2.2.1[i].1 ++ [61, 34]).length + (enc t.2.2.2.1[i].2).length) = true := sf (by simp; omega) (by omega)
    have g5 : strFits (([60] ++ t.2.1 ++ attrsP (t.2.2.2.1.take i) ++ [32] ++ t.2.2.2.1[i].1 ++ [61, 34] ++ enc t.2.2.2.1[i].2).length + ([34] : Bs).length) = true := sf (by simp; omega) (by simp)
    simp -implicitDefEqProofs only [c0, cond_true, idx_nat hi', Option.bind_some, q, g1, g2, g3, g4, g5, w]
    exact ⟨_, rfl, hi', (), by rw [attrsP_take hi']; simp only [attrP, List.append_assoc], trivial⟩
  · have c0 : decide ((i : Int) < (t.2.2.2.1.length : Int)) = false := decide_eq_false (by omega)
    have ht : t.2.2.2.1.take i = t.2.2.2.1 := List.take_of_length_le (by omega)
    rw [ht] at lt
    simp -implicitDefEqProofs only [c0, cond_false, ht]
    refine ⟨_, rfl, ?_⟩
    cases hc : t.2.2.2.2 with
    | false =>
      have g : strFits (([60] ++ t.2.1 ++ attrsP t.2.2.2.1).length + ([62] : Bs).length) = true := sf (by simp; omega) (by simp)
      simp -implicitDefEqProofs only [cond_false, hc, Option.bind_some, g, cond_true]
      exact ⟨_, rfl, by unfold startP; rw [hc]; simp⟩
    | true =>
      have g0 : strFits (([60] ++ t.2.1 ++ attrsP t.2.2.2.1).length + ([47] : Bs).length) = true := sf (by simp; omega) (by simp)
      have g : strFits (([60] ++ t.2.1 ++ attrsP t.2.2.2.1 ++ [47]).length + ([62] : Bs).length) = true := sf (by simp; omega) (by simp)
      simp -implicitDefEqProofs only [hc, Option.bind_some, g0, g, cond_true]
      exact ⟨_, rfl, by unfold startP; rw [hc]; rfl⟩
theorem rPrint_eq (N : Nat) (l : List Tok) (hl : l.length ≤ 100) (h : ∀ t ∈ l, okT t) (hN : 4000 < N) : pounceref14_Print_ (Ev.upto N) ((l, ()), ()) = some ((pre l l.length, ()), ()) := by
  apply wp_eq
  unfold pounceref14_Print_
  refine wp_bind ?_
  refine wp_for (σ := Unit) (fun i _ => ((l, (pre l i, ((i : Int), ()))), ())) (fun i _ => True) l.length () rfl trivial (by omega) ?_
  rintro i _ hi _
  by_cases hi' : i < l.length
  · have c0 : decide ((i : Int) < (l.length : Int)) = true := decide_eq_true (by omega)
    have w : IntKind.wrap .i64 ((i : Int) + 1) = ((i + 1 : Nat) : Int) := by rw [wrap64 (by omega) (by omega)]; omega
    have lp := pre_len h i hi
    have ok := h _ (List.getElem_mem hi')
    obtain ⟨h1, h2, h3, h4⟩ := ok
    have pb : (pre l i).length ≤ 66000000 := by omega
    have el := enc_len l[i].2.2.1
    simp -implicitDefEqProofs only [c0, cond_true, idx_nat hi', Option.bind_some]
    cases k1 : (l[i].1 == (1 : Int)) with
    | true =>
      have tp : ∀ c, tokP c l[i] = bif c then l[i].2.2.1 else enc l[i].2.2.1 := fun c => by unfold tokP; rw [k1]; rfl
      have q := rEncode_eq N l[i].2.2.1 (by omega) (by omega)
      have g1 : strFits ((pre l i).length + l[i].2.2.1.length) = true := sf (by omega) (by omega)
      have g2 : strFits ((pre l i).length + (enc l[i].2.2.1).length) = true := sf (by omega) (by omega)
      have hc : wp ((bif (decide ((i : Int) > (0 : Int)) == true) then ((idx l (IntKind.wrap .i64 ((i : Int) - (1 : Int)))).bind fun v3 => (bif ((v3.1 == (2 : Int)) == true) then ((idx l (IntKind.wrap .i64 ((i : Int) - (1 : Int)))).bind fun v4 => (bif ((v4.2.1 == ([115, 99, 114, 105, 112, 116] : Bs)) == false) then ((idx l (IntKind.wrap .i64 ((i : Int) - (1 : Int)))).bind fun v5 => (some ((l, (pre l i, ((i : Int), ((v5.2.1 == ([115, 116, 121, 108, 101] : Bs)), ())))), ((l[i], ()), ())))) else (some ((l, (pre l i, ((i : Int), (true, ())))), ((l[i], ()), ()))))) else (some ((l, (pre l i, ((i : Int), (false, ())))), ((l[i], ()), ()))))) else (some ((l, (pre l i, ((i : Int), (false, ())))), ((l[i], ()), ()))))) (fun o => o = ((l, (pre l i, ((i : Int), (codeB l i, ())))), ((l[i], ()), ()))) := by
        cases i with
        | zero => exact ⟨_, rfl, rfl⟩
        | succ j =>
          have c1 : (decide (((j + 1 : Nat) : Int) > (0 : Int)) == true) = true := by simp
          have wj : IntKind.wrap .i64 (((j + 1 : Nat) : Int) - 1) = (j : Int) := by rw [wrap64 (by omega) (by omega)]; omega
          have hj : j < l.length := by omega
          simp -implicitDefEqProofs only [c1, cond_true, wj, idx_nat hj, Option.bind_some]
          rw [codeB_succ hj]
          unfold codeT plainN
          cases (l[j].1 == 2) with
          | false => exact ⟨_, rfl, rfl⟩
          | true =>
            cases (l[j].2.1 == ([115, 99, 114, 105, 112, 116] : Bs)) with
            | true => exact ⟨_, rfl, rfl⟩
            | false => exact ⟨_, rfl, rfl⟩
      obtain ⟨_, e, rfl⟩ := hc
      simp -implicitDefEqProofs only [cond_true, e, Option.bind_some]
      rw [pre_succ hi', tp]
      cases codeB l i with
      | true =>
        simp -implicitDefEqProofs only [cond_true, g1, Option.bind_some, w]
        exact ⟨_, rfl, hi', (), rfl, trivial⟩
      | false =>
        simp -implicitDefEqProofs only [cond_true, cond_false, q, g2, Option.bind_some, w]
        exact ⟨_, rfl, hi', (), rfl, trivial⟩
    | false =>
      simp -implicitDefEqProofs only [cond_false]
      cases k2 : (l[i].1 == (2 : Int)) with
      | true =>
        have tp : ∀ c, tokP c l[i] = startP l[i] := fun c => by unfold tokP; rw [k1, k2]; rfl
        have q := rstart_eq N l[i] (h _ (List.getElem_mem hi')) hN
        have sl : (startP l[i]).length ≤ 640000 := by
          have := tokP_len (c := true) (h _ (List.getElem_mem hi'))
          rwa [tp] at this
        have g1 : strFits ((pre l i).length + (startP l[i]).length) = true := sf (by omega) (by omega)
        simp -implicitDefEqProofs only [cond_true, q, g1, Option.bind_some, w]
        exact ⟨_, rfl, hi', (), by rw [pre_succ hi', tp], trivial⟩
      | false =>
        simp -implicitDefEqProofs only [cond_false]
        cases k3 : (l[i].1 == (3 : Int)) with
        | true =>
          have tp : ∀ c, tokP c l[i] = [60, 47] ++ l[i].2.1 ++ [62] := fun c => by unfold tokP; rw [k1, k2, k3]; rfl
          have g1 : strFits ((pre l i).length + ([60, 47] : Bs).length) = true := sf (by omega) (by simp)
          have g2 : strFits ((pre l i ++ [60, 47]).length + l[i].2.1.length) = true := sf (by simp; omega) (by omega)
          have g3 : strFits ((pre l i ++ [60, 47] ++ l[i].2.1).length + ([62] : Bs).length) = true := sf (by simp; omega) (by simp)
          simp -implicitDefEqProofs only [cond_true, g1, g2, g3, Option.bind_some, w]
          exact ⟨_, rfl, hi', (), by rw [pre_succ hi', tp]; simp only [List.append_assoc], trivial⟩
        | false =>
          simp -implicitDefEqProofs only [cond_false]
          cases k4 : (l[i].1 == (4 : Int)) with
          | true =>
            have tp : ∀ c, tokP c l[i] = [60, 33, 45, 45] ++ l[i].2.2.1 ++ [45, 45, 62] := fun c => by unfold tokP; rw [k1, k2, k3, k4]; rfl
            have g1 : strFits ((pre l i).length + ([60, 33, 45, 45] : Bs).length) = true := sf (by omega) (by simp)
            have g2 : strFits ((pre l i ++ [60, 33, 45, 45]).length + l[i].2.2.1.length) = true := sf (by simp; omega) (by omega)
            have g3 : strFits ((pre l i ++ [60, 33, 45, 45] ++ l[i].2.2.1).length + ([45, 45, 62] : Bs).length) = true := sf (by simp; omega) (by simp)
            simp -implicitDefEqProofs only [cond_true, g1, g2, g3, Option.bind_some, w]
            exact ⟨_, rfl, hi', (), by rw [pre_succ hi', tp]; simp only [List.append_assoc], trivial⟩
          | false =>
            simp -implicitDefEqProofs only [cond_false]
            cases k5 : (l[i].1 == (5 : Int)) with
            | true =>
              have tp : ∀ c, tokP c l[i] = [60, 33, 100, 111, 99, 116, 121, 112, 101, 32] ++ l[i].2.2.1 ++ [62] := fun c => by unfold tokP; rw [k1, k2, k3, k4, k5]; rfl
              have g1 : strFits ((pre l i).length + ([60, 33, 100, 111, 99, 116, 121, 112, 101, 32] : Bs).length) = true := sf (by omega) (by simp)
              have g2 : strFits ((pre l i ++ [60, 33, 100, 111, 99, 116, 121, 112, 101, 32]).length + l[i].2.2.1.length) = true := sf (by simp; omega) (by omega)
              have g3 : strFits ((pre l i ++ [60, 33, 100, 111, 99, 116, 121, 112, 101, 32] ++ l[i].2.2.1).length + ([62] : Bs).length) = true := sf (by simp; omega) (by simp)
              simp -implicitDefEqProofs only [cond_true, g1, g2, g3, Option.bind_some, w]
              exact ⟨_, rfl, hi', (), by rw [pre_succ hi', tp]; simp only [List.append_assoc], trivial⟩
            | false =>
              have tp : ∀ c, tokP c l[i] = [] := fun c => by unfold tokP; rw [k1, k2, k3, k4, k5]; rfl
              simp -implicitDefEqProofs only [cond_false, Option.bind_some, w]
              exact ⟨_, rfl, hi', (), by rw [pre_succ hi', tp, List.append_nil], trivial⟩
  · have c0 : decide ((i : Int) < (l.length : Int)) = false := decide_eq_false (by omega)
    obtain rfl : i = l.length := by omega
    simp -implicitDefEqProofs only [c0, cond_false]
    exact ⟨_, rfl, _, rfl, rfl⟩
end Go.En.Pl
