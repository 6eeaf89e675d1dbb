/- Text OL of this seat: written by a program of ours, or by hand; checked by Lean. -/
import Derived.Test.YtadpiodjbcjlcaaOK
set_option linter.unusedVariables false
set_option linter.unusedSimpArgs false
namespace Go.En.Pl
/-! -/
def Like (n n' : Nd) : Prop := n'.1 = n.1 ∧ n'.2.1 = n.2.1 ∧ n'.2.2.1 = n.2.2.1 ∧ n'.2.2.2.1 = n.2.2.2.1 ∧ n'.2.2.2.2.2.2 = n.2.2.2.2.2.2
theorem Like.may {n n' : Nd} (h : Like n n') : mayB n' = mayB n := by
  unfold mayB
  rw [h.1, h.2.1, h.2.2.1, h.2.2.2.1, h.2.2.2.2]
theorem Like.holds {n n' : Nd} (h : Like n n') : holdsB n' = holdsB n := by
  unfold holdsB
  rw [h.1]
theorem Like.refl (n : Nd) : Like n n := ⟨rfl, rfl, rfl, rfl, rfl⟩
theorem Like.trans {a b c : Nd} (h : Like a b) (g : Like b c) : Like a c := ⟨g.1.trans h.1, g.2.1.trans h.2.1, g.2.2.1.trans h.2.2.1, g.2.2.2.1.trans h.2.2.2.1, g.2.2.2.2.trans h.2.2.2.2⟩
structure Mv (d d' : List Nd) (P : Int → Int) (K : Int → List Int) : Prop where
  len : d'.length = d.length
  at' : ∀ (i : Nat) (n : Nd), d[i]? = some n → ∃ n', d'[i]? = some n' ∧ Like n n' ∧ parOf n' = P i ∧ kidsOf n' = K i
theorem Mv.get {d d' : List Nd} {P : Int → Int} {K : Int → List Int} (M : Mv d d' P K) {i : Nat} {n' : Nd} (h : d'[i]? = some n') : ∃ n, d[i]? = some n ∧ Like n n' ∧ parOf n' = P i ∧ kidsOf n' = K i := by
  have hlt := (List.getElem?_eq_some_iff.1 h).1
  have hi : d[i]? = some (d[i]'(by rw [← M.len]; exact hlt)) := List.getElem?_eq_getElem _
  obtain ⟨m, h1, h2⟩ := M.at' i _ hi
  rw [h] at h1
  cases h1
  exact ⟨_, hi, h2⟩
theorem Mv.pr {d d' : List Nd} {P : Int → Int} {K : Int → List Int} (M : Mv d d' P K) {x : Int} (hx : In' d x) : pr d' x = P x := by
  obtain ⟨i, n, rfl, hi⟩ := hx.nat
  obtain ⟨n', h1, _, h2, _⟩ := M.at' i n hi
  rw [pr_nat h1, h2]
theorem Mv.ks {d d' : List Nd} {P : Int → Int} {K : Int → List Int} (M : Mv d d' P K) {x : Int} (hx : In' d x) : ks d' x = K x := by
  obtain ⟨i, n, rfl, hi⟩ := hx.nat
  obtain ⟨n', h1, _, _, h2⟩ := M.at' i n hi
  rw [ks_nat h1, h2]
theorem Mv.in {d d' : List Nd} {P : Int → Int} {K : Int → List Int} (M : Mv d d' P K) {x : Int} : In' d' x ↔ In' d x := by
  unfold In'
  rw [M.len]
theorem idx_nat' {α : Type} {l : List α} {i : Nat} {a : α} (h : l[i]? = some a) : idx l (i : Int) = some a := by
  unfold idx
  rw [if_pos (by omega), Int.toNat_natCast, h]
theorem nat_idx {α : Type} {l : List α} {i : Nat} {a : α} (h : idx l (i : Int) = some a) : l[i]? = some a := by
  have := (idx_some h).2.2
  rwa [Int.toNat_natCast] at this
theorem filter_no {l : List Int} {x : Int} (h : x ∉ l) : l.filter (· != x) = l := List.filter_eq_self.2 fun a ha => bne_iff_ne.2 fun e => h (e ▸ ha)
theorem Right.no_kid {d : List Nd} (R : Right d) {x y : Int} (h : pr d x ≠ y) : x ∉ ks d y := fun hk => h (R.kid hk).2.2.2
theorem Right.mvOut {d : List Nd} (R : Right d) {x : Int} (hx : In' d x) : Mv d (outD d x) (fun y => if y = x then -1 else pr d y) (fun y => (ks d y).filter (· != x)) := by
  refine ⟨outD_len d x, fun i n hi => ?_⟩
  obtain ⟨m, hm, hpm⟩ := idx_in hx
  have hout : outD d x = (unK d x).set x.toNat (reP (-1) m) := by unfold outD; rw [hm]
  have hui := unK_get R hx hm

  have hun : ∃ n1, idx (unK d x) (i : Int) = some n1 ∧ Like n n1 ∧ parOf n1 = parOf n ∧ kidsOf n1 = (kidsOf n).filter (· != x) := by
    unfold unK
    cases hp : idx d (pr d x) with
    | none =>
      refine ⟨n, idx_nat' hi, Like.refl n, rfl, ?_⟩
      have : x ∉ ks d (i : Int) := R.no_kid fun e => by rw [e, idx_nat' hi] at hp; cases hp
      rw [ks_nat hi] at this
      exact (filter_no this).symm
    | some p =>
      by_cases e : (i : Int) = pr d x
      · rw [← e] at hp ⊢
        rw [idx_nat' hi] at hp
        cases hp
        exact ⟨_, idx_set_same (idx_nat' hi), ⟨rfl, rfl, rfl, rfl, rfl⟩, rfl, rfl⟩
      · refine ⟨n, by simp only; rw [idx_set_ne (idx_some hp).1 e]; exact idx_nat' hi, Like.refl n, rfl, ?_⟩
        have : x ∉ ks d (i : Int) := R.no_kid fun e' => e e'.symm
        rw [ks_nat hi] at this
        exact (filter_no this).symm
  obtain ⟨n1, h1, hl, hp1, hk1⟩ := hun
  by_cases e : (i : Int) = x
  · subst e
    have : n1 = m := by rw [hui] at h1; exact (Option.some.inj h1).symm
    subst this
    refine ⟨reP (-1) n1, ?_, hl.trans ⟨rfl, rfl, rfl, rfl, rfl⟩, ?_, ?_⟩
    · rw [hout]; exact nat_idx (idx_set_same hui)
    · show (-1 : Int) = _
      rw [if_pos rfl]
    · show kidsOf n1 = _
      rw [hk1, ks_nat hi]
  · refine ⟨n1, ?_, hl, ?_, ?_⟩
    · rw [hout]; exact nat_idx (by rw [idx_set_ne hx.1 e]; exact h1)
    · rw [hp1]
      show _ = if (i : Int) = x then -1 else pr d (i : Int)
      rw [if_neg e, pr_nat hi]
    · rw [hk1, ks_nat hi]
theorem Mv.map {d d' : List Nd} {P : Int → Int} {K : Int → List Int} (M : Mv d d' P K) : d'.map kidsOf = (List.range d.length).map fun i : Nat => K i := by
  apply List.ext_getElem?
  intro i
  rw [List.getElem?_map, List.getElem?_map]
  by_cases h : i < d.length
  · obtain ⟨n', h1, _, _, h2⟩ := M.at' i _ (List.getElem?_eq_getElem h)
    rw [h1, List.getElem?_range h]
    exact congrArg some h2
  · rw [List.getElem?_eq_none (by rw [M.len]; omega), List.getElem?_eq_none (by simp; omega)]
    rfl
theorem mapKs (d : List Nd) : d.map kidsOf = (List.range d.length).map fun i : Nat => Go.En.Pl.ks d i := by
  apply List.ext_getElem?
  intro i
  rw [List.getElem?_map, List.getElem?_map]
  by_cases h : i < d.length
  · rw [List.getElem?_eq_getElem h, List.getElem?_range h]
    exact congrArg some (ks_nat (List.getElem?_eq_getElem h)).symm
  · rw [List.getElem?_eq_none (by omega), List.getElem?_eq_none (by simp; omega)]
    rfl
theorem kidsMap (d : List Nd) : allKids d = (d.map kidsOf).flatten := List.flatMap_def
theorem filterFlat (p : Int → Bool) : ∀ L : List (List Int), (L.map (List.filter p)).flatten = L.flatten.filter p
  | [] => rfl
  | a :: L => by rw [List.map_cons, List.flatten_cons, List.flatten_cons, List.filter_append, filterFlat p L]
theorem Right.kidsOut {d : List Nd} (R : Right d) {x : Int} (hx : In' d x) : allKids (outD d x) = (allKids d).filter (· != x) := by
  rw [kidsMap, kidsMap, (R.mvOut hx).map, ← filterFlat, mapKs, List.map_map]
  rfl
theorem ends_le {d d' : List Nd} {x : Int} (hp : ∀ y, y ≠ x → In' d y → pr d' y = pr d y) (hx : pr d' x = -1) (R : Right d) : ∀ (j : Nat) (y : Int), (y = -1 ∨ In' d y) → up d j y = -1 → ∃ j', j' ≤ j ∧ up d' j' y = -1
  | 0, y, _, h => ⟨0, Nat.le_refl _, h⟩
  | j + 1, y, hy, h => by
    rcases hy with rfl | hy
    · exact ⟨0, by omega, rfl⟩
    by_cases e : y = x
    · subst e
      exact ⟨1, by omega, hx⟩
    · obtain ⟨j', h1, h2⟩ := ends_le hp hx R j (pr d y) (R.cl y hy.1 hy.2) h
      exact ⟨j' + 1, by omega, by show up d' j' (pr d' y) = -1; rw [hp y e hy]; exact h2⟩
theorem Right.par_in {d : List Nd} (R : Right d) {i : Nat} {n : Nd} (hi : d[i]? = some n) : parOf n = -1 ∨ In' d (parOf n) := by
  have hlt := (List.getElem?_eq_some_iff.1 hi).1
  have := R.cl (i : Int) (by omega) (by omega)
  rw [pr_nat hi] at this
  exact this
theorem Right.out {d : List Nd} (R : Right d) {x : Int} (hx : In' d x) (h1 : 1 ≤ x) : Right (outD d x) := by
  have M := R.mvOut hx
  have hpr : ∀ y, y ≠ x → In' d y → Go.En.Pl.pr (outD d x) y = Go.En.Pl.pr d y := fun y e hy => by rw [M.pr hy]; exact if_neg e
  have hprx : Go.En.Pl.pr (outD d x) x = -1 := by rw [M.pr hx]; exact if_pos rfl
  exact {
    len := by rw [M.len]; exact R.len
    pos := by rw [M.len]; exact R.pos
    may := fun n' h' => by
      obtain ⟨i, hi⟩ := List.getElem?_of_mem h'
      obtain ⟨n, h1, h2, _⟩ := M.get hi
      rw [h2.may]
      exact R.may n (List.mem_of_getElem? h1)
    root := fun i n' h' => by obtain ⟨n, h1, h2, _⟩ := M.get h'; rw [h2.1]; exact R.root i n h1
    par0 := by rw [hpr 0 (by omega) ⟨by omega, by have := R.pos; omega⟩]; exact R.par0
    holds := fun n' h' hk => by
      obtain ⟨i, hi⟩ := List.getElem?_of_mem h'
      obtain ⟨n, h1, h2, _, h4⟩ := M.get hi
      rw [h2.holds]
      refine R.holds n (List.mem_of_getElem? h1) fun e => hk ?_
      rw [h4, ks_nat h1, e]
      rfl
    rng := fun n' h' k hk => by
      obtain ⟨i, hi⟩ := List.getElem?_of_mem h'
      obtain ⟨n, h1, h2, _, h4⟩ := M.get hi
      rw [h4, ks_nat h1] at hk
      rw [M.len]
      exact R.rng n (List.mem_of_getElem? h1) k (List.mem_filter.1 hk).1
    nodup := by rw [R.kidsOut hx]; exact R.nodup.sublist List.filter_sublist
    back := fun i n' h' k hk => by
      obtain ⟨n, h1, h2, _, h4⟩ := M.get h'
      rw [h4, ks_nat h1] at hk
      obtain ⟨hk1, hk2⟩ := List.mem_filter.1 hk
      have hr := R.rng n (List.mem_of_getElem? h1) k hk1
      rw [hpr k (bne_iff_ne.1 hk2) ⟨by omega, hr.2⟩]
      exact R.back i n h1 k hk1
    laid := fun i n' h' hp => by
      obtain ⟨n, h1, h2, h3, h4⟩ := M.get h'
      rw [h3] at hp
      have hne : (i : Int) ≠ x := fun e => hp (if_pos e)
      rw [if_neg hne, pr_nat h1] at hp
      rw [R.kidsOut hx]
      exact List.mem_filter.2 ⟨R.laid i n h1 hp, bne_iff_ne.2 hne⟩
    ends := fun i n' h' => by
      obtain ⟨n, h1, h2, h3, h4⟩ := M.get h'
      rw [M.len]
      by_cases e : (i : Int) = x
      · exact ⟨0, by omega, by rw [h3]; exact if_pos e⟩
      · rw [h3, if_neg e, pr_nat h1]
        obtain ⟨j, hj, hu⟩ := R.ends i n h1
        obtain ⟨j', hj', hu'⟩ := ends_le hpr hprx R j _ (R.par_in h1) hu
        exact ⟨j', by omega, hu'⟩ }
end Go.En.Pl
