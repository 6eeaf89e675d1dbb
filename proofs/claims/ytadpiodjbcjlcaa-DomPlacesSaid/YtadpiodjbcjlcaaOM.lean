/- Text OM of this seat: written by a program of ours, or by hand; checked by Lean. -/
import Derived.Test.YtadpiodjbcjlcaaOL
set_option linter.unusedVariables false
set_option linter.unusedSimpArgs false
namespace Go.En.Pl
/-! -/
theorem Right.mvPut {d : List Nd} (R : Right d) {q x : Int} (hx : In' d x) (hq : In' d q) (hne : q ≠ x) : Mv d (putD d q x) (fun y => if y = x then q else pr d y) (fun y => if y = q then (ks d y).filter (· != x) ++ [x] else (ks d y).filter (· != x)) := by
  have M := R.mvOut hx
  obtain ⟨n', hn', _⟩ := idx_ge (l := outD d x) (i := x) hx.1 (by rw [outD_len]; exact hx.2)
  obtain ⟨p0, hp0, _⟩ := idx_ge (l := outD d x) (i := q) hq.1 (by rw [outD_len]; exact hq.2)
  have hp' : idx ((outD d x).set x.toNat (reP q n')) q = some p0 := by rw [idx_set_ne hx.1 hne]; exact hp0
  have e : putD d q x = ((outD d x).set x.toNat (reP q n')).set q.toNat (addK x p0) := by
    unfold putD
    rw [hn']
    simp only
    rw [hp']
  rw [e]
  refine ⟨by simp [outD_len], fun i n hi => ?_⟩
  obtain ⟨m, h1, h2, h3, h4⟩ := M.at' i n hi
  have h1' := idx_nat' h1
  by_cases ex : (i : Int) = x
  · have eq : (i : Int) ≠ q := fun h => hne (h.symm.trans ex)
    subst ex
    rw [hn'] at h1'
    cases h1'
    refine ⟨reP q n', nat_idx ?_, h2.trans ⟨rfl, rfl, rfl, rfl, rfl⟩, ?_, ?_⟩
    · rw [idx_set_ne hq.1 eq]; exact idx_set_same hn'
    · show q = _
      rw [if_pos rfl]
    · rw [if_neg eq]; exact h4
  · by_cases eq : (i : Int) = q
    · subst eq
      rw [hp0] at h1'
      cases h1'
      refine ⟨addK x p0, nat_idx (idx_set_same hp'), h2.trans ⟨rfl, rfl, rfl, rfl, rfl⟩, ?_, ?_⟩
      · rw [if_neg ex]
        rw [if_neg ex] at h3
        exact h3
      · show kidsOf p0 ++ [x] = _
        rw [if_pos rfl, h4]
    · refine ⟨m, nat_idx ?_, h2, ?_, ?_⟩
      · rw [idx_set_ne hq.1 eq, idx_set_ne hx.1 ex]; exact h1'
      · rw [if_neg ex]
        rw [if_neg ex] at h3
        exact h3
      · rw [if_neg eq]; exact h4
theorem permK (A : Int → List Int) (q x : Int) : ∀ (L : List Nat), L.Nodup → (∃ j, j ∈ L ∧ (j : Int) = q) → (L.map fun i : Nat => if (i : Int) = q then A i ++ [x] else A i).flatten.Perm (x :: (L.map fun i : Nat => A i).flatten)
  | [], _, ⟨j, hj, _⟩ => by simp at hj
  | a :: L, hn, hq => by
    obtain ⟨h1, h2⟩ := List.nodup_cons.1 hn
    rw [List.map_cons, List.map_cons, List.flatten_cons, List.flatten_cons]
    by_cases e : (a : Int) = q
    · have : (L.map fun i : Nat => if (i : Int) = q then A i ++ [x] else A i) = L.map fun i : Nat => A i := List.map_congr_left fun b hb => if_neg fun h => h1 (by
        have : b = a := by omega
        exact this ▸ hb)
      rw [if_pos e, this, List.append_assoc]
      exact List.perm_middle
    · rw [if_neg e]
      obtain ⟨j, hj, hjq⟩ := hq
      have hjL : j ∈ L := by
        rcases List.mem_cons.1 hj with rfl | h
        · exact absurd hjq e
        · exact h
      exact ((permK A q x L h2 ⟨j, hjL, hjq⟩).append_left (A a)).trans List.perm_middle
theorem Right.kidsPut {d : List Nd} (R : Right d) {q x : Int} (hx : In' d x) (hq : In' d q) (hne : q ≠ x) : (allKids (putD d q x)).Perm (x :: (allKids d).filter (· != x)) := by
  rw [kidsMap, (R.mvPut hx hq hne).map]
  obtain ⟨j, hj⟩ := Int.eq_ofNat_of_zero_le hq.1
  refine (permK (fun y => (ks d y).filter (· != x)) q x (List.range d.length) List.nodup_range ⟨j, List.mem_range.2 (by have := hq.2; omega), hj.symm⟩).trans ?_
  rw [kidsMap, mapKs, ← filterFlat, List.map_map]
  exact List.Perm.refl _
theorem short {d : List Nd} (cl : ∀ y, In' d y → pr d y = -1 ∨ In' d (pr d y)) {y : Int} (hy : y = -1 ∨ In' d y) {j : Nat} (h : up d j y = -1) : ∃ j', j' ≤ d.length ∧ up d j' y = -1 := by
  obtain ⟨m, hm, h1, h2⟩ := least (P := fun m => up d m y = -1) j h
  refine ⟨m, ?_, h1⟩
  have hin : ∀ k, up d k y = -1 ∨ In' d (up d k y) := by
    intro k
    induction k with
    | zero => exact hy
    | succ k ih =>
      rw [up_succ]
      rcases ih with e | e
      · rw [e]; exact .inl rfl
      · exact cl _ e
  have hnd : ((List.range m).map fun k => up d k y).Nodup := by
    refine List.pairwise_map.2 (List.Pairwise.imp_of_mem (fun {a b} ha hb hab he => ?_) List.pairwise_lt_range)
    have ha := List.mem_range.1 ha
    have hb := List.mem_range.1 hb
    refine h2 (a + (m - b)) (by omega) ?_
    rw [up_add, he, ← up_add, show b + (m - b) = m by omega]
    exact h1
  have := nodupLen d.length _ hnd fun k hk => by
    obtain ⟨a, ha, rfl⟩ := List.mem_map.1 hk
    rcases hin a with e | e
    · exact absurd e (h2 a (List.mem_range.1 ha))
    · exact e
  simpa using this
theorem Right.put {d : List Nd} (R : Right d) {q x : Int} (hx : In' d x) (h1 : 1 ≤ x) (hq : In' d q) {p : Nd} (hp : idx d q = some p) (hh : holdsB p = true) (hb : q ∉ below d x) : Right (putD d q x) := by
  have hne : q ≠ x := fun e => hb (e ▸ (R.mem_below hx).2 ⟨hx, 0, rfl⟩)
  have M := R.mvPut hx hq hne
  have hpr : ∀ y, y ≠ x → In' d y → Go.En.Pl.pr (putD d q x) y = Go.En.Pl.pr d y := fun y e hy => by rw [M.pr hy]; exact if_neg e
  have hprx : Go.En.Pl.pr (putD d q x) x = q := by rw [M.pr hx]; exact if_pos rfl
  have hperm := R.kidsPut hx hq hne
  have qup : ∀ (j : Nat) (y : Int), (y = -1 ∨ In' d y) → (∀ i, up d i y ≠ x) → up d j y = -1 → up (putD d q x) j y = -1 := by
    intro j
    induction j with
    | zero => intro y _ _ h; exact h
    | succ j ih =>
      intro y hy hno h
      rcases hy with rfl | hy
      · exact up_neg _
      · show up (putD d q x) j (Go.En.Pl.pr (putD d q x) y) = -1
        rw [hpr y (hno 0) hy]
        exact ih _ (R.cl y hy.1 hy.2) (fun i => hno (i + 1)) h
  have hqend : ∃ j, up (putD d q x) j q = -1 := by
    obtain ⟨j, _, hj⟩ := R.ends' hq
    exact ⟨j, qup j q (.inr hq) (fun i hi => hb ((R.mem_below hx).2 ⟨hq, i, hi⟩)) hj⟩
  have hend : ∀ (j : Nat) (y : Int), (y = -1 ∨ In' d y) → up d j y = -1 → ∃ j', up (putD d q x) j' y = -1 := by
    intro j
    induction j with
    | zero => intro y _ h; exact ⟨0, h⟩
    | succ j ih =>
      intro y hy h
      rcases hy with rfl | hy
      · exact ⟨0, rfl⟩
      by_cases e : y = x
      · subst e
        obtain ⟨jq, hjq⟩ := hqend
        exact ⟨jq + 1, by show up _ jq (Go.En.Pl.pr _ y) = -1; rw [hprx]; exact hjq⟩
      · obtain ⟨j', hj'⟩ := ih _ (R.cl y hy.1 hy.2) h
        exact ⟨j' + 1, by show up _ j' (Go.En.Pl.pr _ y) = -1; rw [hpr y e hy]; exact hj'⟩
  have cl' : ∀ y, In' (putD d q x) y → Go.En.Pl.pr (putD d q x) y = -1 ∨ In' (putD d q x) (Go.En.Pl.pr (putD d q x) y) := by
    intro y hy
    rw [M.in] at hy ⊢
    by_cases e : y = x
    · subst e
      rw [hprx]
      exact .inr hq
    · rw [hpr y e hy]
      exact R.cl y hy.1 hy.2
  exact {
    len := by rw [M.len]; exact R.len
    pos := by rw [M.len]; exact R.pos
    may := fun n' h' => by
      obtain ⟨i, hi⟩ := List.getElem?_of_mem h'
      obtain ⟨n, h1, h2, _⟩ := M.get hi
      rw [h2.may]
      exact R.may n (List.mem_of_getElem? h1)
    root := fun i n' h' => by obtain ⟨n, h1, h2, _⟩ := M.get h'; rw [h2.1]; exact R.root i n h1
    par0 := by rw [hpr 0 (by omega) ⟨by omega, by have := R.pos; omega⟩]; exact R.par0
    holds := fun n' h' hk => by
      obtain ⟨i, hi⟩ := List.getElem?_of_mem h'
      obtain ⟨n, g1, g2, _, g4⟩ := M.get hi
      rw [g2.holds]
      by_cases e : (i : Int) = q
      · rw [← e, idx_nat' g1] at hp
        cases hp
        exact hh
      · rw [if_neg e] at g4
        refine R.holds n (List.mem_of_getElem? g1) fun e' => hk ?_
        rw [g4, ks_nat g1, e']
        rfl
    rng := fun n' h' k hk => by
      obtain ⟨i, hi⟩ := List.getElem?_of_mem h'
      obtain ⟨n, g1, g2, _, g4⟩ := M.get hi
      rw [g4] at hk
      rw [M.len]
      have hf : k ∈ (ks d i).filter (· != x) → 1 ≤ k ∧ k < (d.length : Int) := fun hk => by
        rw [ks_nat g1] at hk
        exact R.rng n (List.mem_of_getElem? g1) k (List.mem_filter.1 hk).1
      by_cases e : (i : Int) = q
      · rw [if_pos e] at hk
        rcases List.mem_append.1 hk with hk | hk
        · exact hf hk
        · rw [List.mem_singleton.1 hk]; exact ⟨h1, hx.2⟩
      · rw [if_neg e] at hk; exact hf hk
    nodup := by
      rw [hperm.nodup_iff, List.nodup_cons]
      exact ⟨fun h => by simpa using (List.mem_filter.1 h).2, R.nodup.sublist List.filter_sublist⟩
    back := fun i n' h' k hk => by
      obtain ⟨n, g1, g2, _, g4⟩ := M.get h'
      rw [g4] at hk
      have hf : k ∈ (ks d i).filter (· != x) → Go.En.Pl.pr (putD d q x) k = (i : Int) := fun hk => by
        rw [ks_nat g1] at hk
        obtain ⟨hk1, hk2⟩ := List.mem_filter.1 hk
        have hr := R.rng n (List.mem_of_getElem? g1) k hk1
        rw [hpr k (bne_iff_ne.1 hk2) ⟨by omega, hr.2⟩]
        exact R.back i n g1 k hk1
      by_cases e : (i : Int) = q
      · rw [if_pos e] at hk
        rcases List.mem_append.1 hk with hk | hk
        · exact hf hk
        · rw [List.mem_singleton.1 hk, hprx]; exact e.symm
      · rw [if_neg e] at hk; exact hf hk
    laid := fun i n' h' hpn => by
      obtain ⟨n, g1, g2, g3, g4⟩ := M.get h'
      rw [hperm.mem_iff, List.mem_cons]
      by_cases e : (i : Int) = x
      · exact .inl e
      · rw [g3, if_neg e, pr_nat g1] at hpn
        exact .inr (List.mem_filter.2 ⟨R.laid i n g1 hpn, bne_iff_ne.2 e⟩)
    ends := fun i n' h' => by
      obtain ⟨n, g1, g2, g3, g4⟩ := M.get h'
      have hlt := (List.getElem?_eq_some_iff.1 g1).1
      by_cases e : (i : Int) = x
      · rw [g3, if_pos e]
        obtain ⟨j, hj⟩ := hqend
        exact short cl' (.inr (M.in.2 hq)) hj
      · rw [g3, if_neg e, pr_nat g1]
        obtain ⟨j, _, hj⟩ := R.ends i n g1
        obtain ⟨j', hj'⟩ := hend j _ (R.par_in g1) hj
        exact short cl' ((R.par_in g1).imp id fun h => M.in.2 h) hj' }
theorem Right.made {d : List Nd} (R : Right d) {n : Nd} (hm : mayB n = true) (hk : n.1 ≠ 1) (hl : d.length < 300) : Right (d ++ [mkN n]) := by
  have hp : ∀ y, Go.En.Pl.pr (d ++ [mkN n]) y = Go.En.Pl.pr d y := by
    intro y
    by_cases hy : In' d y
    · obtain ⟨i, m, rfl, hi⟩ := hy.nat
      have hlt := (List.getElem?_eq_some_iff.1 hi).1
      rw [pr_nat hi, pr_nat (by rw [List.getElem?_append_left hlt]; exact hi)]
    · rw [pr_ge hy]
      by_cases e : y = (d.length : Int)
      · subst e
        have : (d ++ [mkN n])[d.length]? = some (mkN n) := by simp
        rw [pr_nat this]
        rfl
      · exact pr_ge (by unfold In' at hy; rw [List.length_append]; simp only [List.length_cons, List.length_nil]; omega)
  have hu := up_same hp
  have hall : allKids (d ++ [mkN n]) = allKids d := by
    unfold allKids
    rw [List.flatMap_append]
    show _ ++ ([] ++ []) = _
    simp
  have get : ∀ {i : Nat} {m : Nd}, (d ++ [mkN n])[i]? = some m → d[i]? = some m ∨ (i = d.length ∧ m = mkN n) := by
    intro i m h
    by_cases hlt : i < d.length
    · rw [List.getElem?_append_left hlt] at h; exact .inl h
    · have := (List.getElem?_eq_some_iff.1 h).1
      rw [List.length_append] at this
      simp only [List.length_cons, List.length_nil] at this
      have e : i = d.length := by omega
      subst e
      simp at h
      exact .inr ⟨rfl, h.symm⟩
  have mem : ∀ {m : Nd}, m ∈ d ++ [mkN n] → m ∈ d ∨ m = mkN n := by
    intro m h
    rcases List.mem_append.1 h with h | h
    · exact .inl h
    · exact .inr (List.mem_singleton.1 h)
  have hlen : (d ++ [mkN n]).length = d.length + 1 := by simp
  exact {
    len := by rw [hlen]; omega
    pos := by rw [hlen]; omega
    may := fun m h => by
      rcases mem h with h | rfl
      · exact R.may m h
      · exact hm
    root := fun i m h => by
      rcases get h with h | ⟨rfl, rfl⟩
      · exact R.root i m h
      · exact ⟨fun h => absurd h hk, fun h => by have := R.pos; omega⟩
    par0 := by rw [hp]; exact R.par0
    holds := fun m h hk' => by
      rcases mem h with h | rfl
      · exact R.holds m h hk'
      · exact absurd rfl hk'
    rng := fun m h k hk' => by
      rcases mem h with h | rfl
      · have := R.rng m h k hk'
        rw [hlen]
        omega
      · have : k ∈ ([] : List Int) := hk'
        simp at this
    nodup := by rw [hall]; exact R.nodup
    back := fun i m h k hk' => by
      rcases get h with h | ⟨rfl, rfl⟩
      · rw [hp]; exact R.back i m h k hk'
      · have : k ∈ ([] : List Int) := hk'
        simp at this
    laid := fun i m h hp' => by
      rcases get h with h | ⟨rfl, rfl⟩
      · rw [hall]; exact R.laid i m h hp'
      · exact absurd rfl hp'
    ends := fun i m h => by
      rcases get h with h | ⟨rfl, rfl⟩
      · obtain ⟨j, hj, hu'⟩ := R.ends i m h
        exact ⟨j, by omega, by rw [hu]; exact hu'⟩
      · exact ⟨0, by omega, rfl⟩ }
end Go.En.Pl
