/- Text OF of this seat: written by a program of ours, or by hand; checked by Lean. -/
import Derived.Test.YtadpiodjbcjlcaaOE
set_option linter.unusedVariables false
set_option linter.unusedSimpArgs false
namespace Go.En.Pl
/-! -/
theorem pr_same {d d' : List Nd} (hl : d'.length = d.length) (hs : ∀ (i : Nat) (n n' : Nd), d[i]? = some n → d'[i]? = some n' → parOf n' = parOf n) (x : Int) : pr d' x = pr d x := by
  by_cases hx : In' d x
  · obtain ⟨i, n, rfl, hi⟩ := hx.nat
    have hlt := (List.getElem?_eq_some_iff.1 hi).1
    have hi' : d'[i]? = some (d'[i]'(by omega)) := List.getElem?_eq_getElem (by omega)
    rw [pr_nat hi, pr_nat hi', hs i n _ hi hi']
  · rw [pr_ge hx, pr_ge (by rw [hl]; exact hx)]
theorem up_same {d d' : List Nd} (hp : ∀ x, pr d' x = pr d x) : ∀ (j : Nat) (x : Int), up d' j x = up d j x
  | 0, _ => rfl
  | j + 1, x => by
    show up d' j (pr d' x) = up d j (pr d x)
    rw [hp, up_same hp j]
theorem Right.same {d d' : List Nd} (R : Right d) (hl : d'.length = d.length) (hs : ∀ (i : Nat) (n n' : Nd), d[i]? = some n → d'[i]? = some n' → n'.1 = n.1 ∧ parOf n' = parOf n ∧ kidsOf n' = kidsOf n ∧ mayB n' = true) : Right d' := by
  have hp := pr_same hl fun i n n' h h' => (hs i n n' h h').2.1
  have hu := up_same hp
  have get : ∀ (i : Nat) (n' : Nd), d'[i]? = some n' → ∃ n : Nd, d[i]? = some n ∧ n'.1 = n.1 ∧ parOf n' = parOf n ∧ kidsOf n' = kidsOf n ∧ mayB n' = true := by
    intro i n' h'
    have hlt := (List.getElem?_eq_some_iff.1 h').1
    have hi : d[i]? = some (d[i]'(by omega)) := List.getElem?_eq_getElem (by omega)
    exact ⟨_, hi, hs i _ n' hi h'⟩
  have mem : ∀ n' : Nd, n' ∈ d' → ∃ (i : Nat) (n : Nd), d[i]? = some n ∧ n'.1 = n.1 ∧ parOf n' = parOf n ∧ kidsOf n' = kidsOf n ∧ mayB n' = true := by
    intro n' h'
    obtain ⟨i, hi⟩ := List.getElem?_of_mem h'
    exact ⟨i, get i n' hi⟩
  have hall : allKids d' = allKids d := by
    unfold allKids
    have : d'.map kidsOf = d.map kidsOf := by
      apply List.ext_getElem?
      intro i
      rw [List.getElem?_map, List.getElem?_map]
      cases h' : d'[i]? with
      | none =>
        rw [List.getElem?_eq_none_iff] at h'
        rw [List.getElem?_eq_none (by omega)]
      | some n' =>
        obtain ⟨n, h1, _, _, h2, _⟩ := get i n' h'
        rw [h1]
        exact congrArg some h2
    rw [List.flatMap_def, List.flatMap_def, this]
  exact {
    len := by rw [hl]; exact R.len
    pos := by rw [hl]; exact R.pos
    may := fun n' h' => by obtain ⟨i, n, _, _, _, _, h⟩ := mem n' h'; exact h
    root := fun i n' h' => by obtain ⟨n, h1, h2, _⟩ := get i n' h'; rw [h2]; exact R.root i n h1
    par0 := by rw [hp]; exact R.par0
    holds := fun n' h' hk => by
      obtain ⟨i, n, h1, h2, _, h3, _⟩ := mem n' h'
      have := R.holds n (List.mem_of_getElem? h1) (h3 ▸ hk)
      unfold holdsB at this ⊢
      rw [h2]
      exact this
    rng := fun n' h' k hk => by
      obtain ⟨i, n, h1, h2, _, h3, _⟩ := mem n' h'
      rw [hl]
      exact R.rng n (List.mem_of_getElem? h1) k (h3 ▸ hk)
    nodup := by rw [hall]; exact R.nodup
    back := fun i n' h' k hk => by
      obtain ⟨n, h1, _, _, h3, _⟩ := get i n' h'
      rw [hp]
      exact R.back i n h1 k (h3 ▸ hk)
    laid := fun i n' h' hk => by
      obtain ⟨n, h1, _, h2, _, _⟩ := get i n' h'
      rw [hall]
      exact R.laid i n h1 (h2 ▸ hk)
    ends := fun i n' h' => by
      obtain ⟨n, h1, _, h2, _, _⟩ := get i n' h'
      obtain ⟨j, hj, hu'⟩ := R.ends i n h1
      exact ⟨j, by rw [hl]; exact hj, by rw [hu, h2]; exact hu'⟩ }
theorem names_set {l : List At} {nm v : Bs} {j : Nat} (hj : j < l.length) (h : (l[j].1 == nm) = true) : (l.set j (l[j].1, v)).map (·.1) = l.map (·.1) := by
  apply List.ext_getElem?
  intro i
  rw [List.getElem?_map, List.getElem?_map, List.getElem?_set]
  by_cases e : j = i
  · subst e
    rw [if_pos rfl, if_pos hj, List.getElem?_eq_getElem hj]
    rfl
  · rw [if_neg e]
theorem may_set {n : Nd} {nm v : Bs} (h : mayB n = true) (h2 : n.1 = 2) (h3 : ¬ (fnd n.2.2.2.1 nm = -1 ∧ 30 ≤ n.2.2.2.1.length)) : mayB (setN n nm v) = true := by
  unfold mayB at h ⊢
  have e1 : (setN n nm v).1 = 2 := h2
  rw [if_pos h2] at h
  rw [if_pos e1]
  simp only [Bool.and_eq_true, decide_eq_true_eq] at h ⊢
  obtain ⟨⟨⟨h4, h5⟩, h6⟩, h7⟩ := h
  refine ⟨⟨⟨h4, h5⟩, ?_⟩, ?_⟩
  · show (setA n.2.2.2.1 nm v).length ≤ 30
    rcases fnd_cases n.2.2.2.1 nm with ⟨e, _⟩ | ⟨j, hj, e, hjn, _⟩
    · rw [setA_neg e, List.length_append]
      have : n.2.2.2.1.length < 30 := by
        refine Nat.lt_of_not_le fun hh => h3 ⟨e, hh⟩
      simp only [List.length_cons, List.length_nil]
      omega
    · rw [setA_pos hj e, List.length_set]; exact h6
  · show ((setA n.2.2.2.1 nm v).map (·.1)).Nodup
    rcases fnd_cases n.2.2.2.1 nm with ⟨e, hno⟩ | ⟨j, hj, e, hjn, _⟩
    · rw [setA_neg e, List.map_append, List.nodup_append]
      refine ⟨h7, by simp, fun a ha b hb hab => ?_⟩
      simp only [List.map_cons, List.map_nil, List.mem_singleton] at hb
      obtain ⟨c, hc, rfl⟩ := List.mem_map.1 ha
      have := hno c hc
      rw [hab, hb] at this
      simp at this
    · rw [setA_pos hj e, names_set hj hjn]; exact h7
theorem set_get {α : Type} {l : List α} {i j : Nat} {x y : α} (h : (l.set i x)[j]? = some y) : (i = j ∧ y = x) ∨ (i ≠ j ∧ l[j]? = some y) := by
  rw [List.getElem?_set] at h
  by_cases e : i = j
  · rw [if_pos e] at h
    by_cases h2 : i < l.length
    · rw [if_pos h2] at h
      exact .inl ⟨e, (Option.some.inj h).symm⟩
    · rw [if_neg h2] at h; cases h
  · rw [if_neg e] at h
    exact .inr ⟨e, h⟩
def look (l : List At) (nm : Bs) : Bs × Bool := match l.find? (fun a => a.1 == nm) with
  | some a => (a.2, true)
  | none => ([], false)
theorem look_fnd (l : List At) (nm : Bs) : (match idx l (fnd l nm) with | some a => (a.2, true) | none => (([] : Bs), false)) = look l nm := by
  unfold look
  rcases fnd_cases l nm with ⟨e, h⟩ | ⟨j, hj, e, h1, h2⟩
  · rw [e, idx_none (by omega), List.find?_eq_none.2 (fun a ha => by rw [h a ha]; simp)]
  · rw [e, idx_nat hj]
    have : l.find? (fun a => a.1 == nm) = some l[j] := List.find?_eq_some_iff_getElem.2 ⟨h1, j, hj, rfl, fun k hk => by simp only [h2 k hk, Bool.not_false]⟩
    rw [this]
theorem split_at {α : Type} {l : List α} {j : Nat} (hj : j < l.length) : l = l.take j ++ l[j] :: l.drop (j + 1) := by
  rw [← List.drop_eq_getElem_cons hj, List.take_append_drop]
theorem look_same (l : List At) (nm v : Bs) : look (setA l nm v) nm = (v, true) := by
  unfold look
  rcases fnd_cases l nm with ⟨e, h⟩ | ⟨j, hj, e, h1, h2⟩
  · rw [setA_neg e, List.find?_append, List.find?_eq_none.2 (fun a ha => by rw [h a ha]; simp)]
    simp
  · have h0 : (l.take j).find? (fun a => a.1 == nm) = none := List.find?_eq_none.2 (fun a ha => by
      obtain ⟨k, hk, rfl⟩ := List.getElem_of_mem ha
      rw [List.length_take] at hk
      rw [List.getElem_take, h2 k (by omega)]
      simp)
    rw [setA_pos hj e, List.set_eq_take_append_cons_drop, if_pos hj, List.find?_append, h0, Option.none_or, List.find?_cons]
    simp only [h1]
theorem look_other (l : List At) (nm v ot : Bs) (h : ot ≠ nm) : look (setA l nm v) ot = look l ot := by
  unfold look
  rcases fnd_cases l nm with ⟨e, _⟩ | ⟨j, hj, e, h1, h2⟩
  · have h0 : ([(nm, v)] : List At).find? (fun a => a.1 == ot) = none := List.find?_eq_none.2 (fun a ha => by
      rw [List.mem_singleton.1 ha]
      simpa using fun hh => h hh.symm)
    rw [setA_neg e, List.find?_append, h0, Option.or_none]
  · have hne : (l[j].1 == ot) = false := by
      rw [beq_iff_eq.1 h1]
      exact beq_eq_false_iff_ne.2 fun hh => h hh.symm
    rw [setA_pos hj e, List.set_eq_take_append_cons_drop, if_pos hj]
    conv => rhs; rw [split_at hj]
    rw [List.find?_append, List.find?_append, List.find?_cons, List.find?_cons]
    simp only [hne]
end Go.En.Pl
