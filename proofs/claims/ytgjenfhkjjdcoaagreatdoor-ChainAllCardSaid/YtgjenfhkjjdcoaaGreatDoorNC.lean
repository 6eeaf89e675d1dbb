/- Text NC of this seat: written by a program of ours, or by hand; checked by Lean. -/
import Derived.Test.YtgjenfhkjjdcoaaGreatDoorNS
set_option linter.unusedSimpArgs false
set_option linter.unusedVariables false
namespace Go.En.Pl
/-! -/
theorem exC : pouncelaw12_chains_ (Ev.upto 200000) ((), ()) = some ((true, ()), ()) := by kernel_rfl
/-! -/
abbrev Dir := Bs × List Bs
abbrev Pol := List Dir × Bool
def findD : List Dir → Bs → Option (List Bs)
  | [], _ => none
  | d :: r, n => if d.1 == n then some d.2 else findD r n
theorem findD_at {l : List Dir} {n : Bs} {i : Nat} (h : i < l.length) (h0 : findD (l.take i) n = none) : findD l n = if l[i].1 == n then some l[i].2 else findD (l.drop (i + 1)) n := by
  induction l generalizing i with
  | nil => simp at h
  | cons d r ih =>
    cases i with
    | zero => rfl
    | succ i =>
      simp only [List.take_succ_cons, findD] at h0
      split at h0
      · cases h0
      · rename_i hd
        simp only [List.getElem_cons_succ, List.drop_succ_cons, findD]
        rw [if_neg hd]
        exact ih (by simpa using h) h0
theorem findD_take {l : List Dir} {n : Bs} {i : Nat} (h : i < l.length) (h0 : findD (l.take i) n = none) (hd : (l[i].1 == n) = false) : findD (l.take (i + 1)) n = none := by
  have hl : i < (l.take (i + 1)).length := by simp; omega
  have e : (l.take (i + 1)).take i = l.take i := by rw [List.take_take, Nat.min_eq_left (by omega)]
  have := findD_at hl (n := n) (by rw [e]; exact h0)
  rw [this]
  have e2 : (l.take (i + 1))[i] = l[i] := by simp
  rw [e2, hd]
  rw [List.drop_eq_nil_of_le (by simp; omega)]
  rfl
def okD (l : List Dir) : Prop := l.length ≤ 20 ∧ ∀ d ∈ l, d.2.length ≤ 210 ∧ ∀ w ∈ d.2, w.length ≤ 300
theorem findD_ok {l : List Dir} {n : Bs} {w : List Bs} (h : okD l) (hf : findD l n = some w) : w.length ≤ 210 ∧ ∀ x ∈ w, x.length ≤ 300 := by
  have key : ∀ l : List Dir, (∀ d ∈ l, d.2.length ≤ 210 ∧ ∀ w ∈ d.2, w.length ≤ 300) → findD l n = some w → w.length ≤ 210 ∧ ∀ x ∈ w, x.length ≤ 300 := by
    intro l
    induction l with
    | nil => intro _ h; cases h
    | cons d r ih =>
      intro h1 h2
      unfold findD at h2
      split at h2
      · simp only [Option.some.injEq] at h2
        subst h2
        exact h1 d (List.mem_cons_self ..)
      · exact ih (fun x hx => h1 x (List.mem_cons_of_mem _ hx)) h2
  exact key l h.2 hf
theorem CloneS_eq (V : Ev) (l : List Bs) (h : l.length ≤ 1000000) : slices_Clone__string_string_ V ((l, ()), ()) = some ((), (l, ())) := by
  unfold slices_Clone__string_string_
  have hf : fits ((([] : List Bs)).length + l.length) 16 = true := fits_of (by simp; omega)
  cases l with
  | nil => rfl
  | cons a r =>
    simp -implicitDefEqProofs only [List.isEmpty_cons, Bool.not_false, cond_true, Option.bind_some, hf, List.nil_append]
theorem Own2_eq (V : Ev) (l : List Bs) (h : l.length ≤ 1000000) : pounceref02_Own_ V ((l, ()), ()) = some ((), (l, ())) := by
  unfold pounceref02_Own_
  have hf : fits l.length 16 = true := fits_of (by omega)
  simp -implicitDefEqProofs only [hf, cond_true]
theorem Find_eq (p : Pol) (n : Bs) (hp : okD p.1) (hn : n.length ≤ 1000) : header_Find_ (Ev.upto 200000) ((p, (n, ())), ()) = some (((findD p.1 (lowerB n)).isSome, ()), ((findD p.1 (lowerB n)).getD [], ())) := by
  apply wp_eq
  unfold header_Find_
  have q := lower_eq 200000 n (by omega) (by omega)
  simp -implicitDefEqProofs only [q, Option.bind_some]
  refine wp_bind ?_
  have hl := hp.1
  refine wp_for (σ := Unit) (fun i _ => ((lowerB n, (p.1, ((p.1.length : Int), ((i : Int), ())))), ())) (fun i _ => findD (p.1.take i) (lowerB n) = none) p.1.length () rfl rfl (by omega) ?_
  rintro i _ hi h0
  by_cases hi' : i < p.1.length
  · have c0 : decide ((i : Int) < (p.1.length : Int)) = true := decide_eq_true (by omega)
    have w : IntKind.wrap .i64 ((i : Int) + 1) = ((i + 1 : Nat) : Int) := by rw [wrap64 (by omega) (by omega)]; omega
    have hw := (hp.2 _ (List.getElem_mem hi')).1
    have qc := CloneS_eq (Ev.upto 200000) p.1[i].2 (by omega)
    simp -implicitDefEqProofs only [c0, cond_true, idx_nat hi', Option.bind_some]
    cases hd : p.1[i].1 == lowerB n with
    | true =>
      simp -implicitDefEqProofs only [cond_true, qc, Option.bind_some]
      refine ⟨_, rfl, ?_⟩
      rw [findD_at hi' h0, hd]
      exact ⟨_, rfl, rfl⟩
    | false =>
      simp -implicitDefEqProofs only [cond_false, w]
      exact ⟨_, rfl, hi', (), rfl, findD_take hi' h0 hd⟩
  · have c0 : decide ((i : Int) < (p.1.length : Int)) = false := decide_eq_false (by omega)
    have ht : p.1.take i = p.1 := List.take_of_length_le (by omega)
    rw [ht] at h0
    simp -implicitDefEqProofs only [c0, cond_false]
    refine ⟨_, rfl, ?_⟩
    rw [h0]
    exact ⟨_, rfl, rfl⟩
theorem rFind_eq (p : Pol) (n : Bs) (hp : okD p.1) (hn : n.length ≤ 1000) : pounceref08_Find_ (Ev.upto 200000) ((p, (n, ())), ()) = some (((findD p.1 (lowerB n)).isSome, ()), ((findD p.1 (lowerB n)).getD [], ())) := by
  apply wp_eq
  unfold pounceref08_Find_
  have q := rlower_eq 200000 n (by omega) (by omega)
  simp -implicitDefEqProofs only [q, Option.bind_some]
  refine wp_bind ?_
  have hl := hp.1
  refine wp_for (σ := Unit) (fun i _ => ((lowerB n, ((i : Int), ())), ((p, ()), ()))) (fun i _ => findD (p.1.take i) (lowerB n) = none) p.1.length () rfl rfl (by omega) ?_
  rintro i _ hi h0
  by_cases hi' : i < p.1.length
  · have c0 : decide ((i : Int) < (p.1.length : Int)) = true := decide_eq_true (by omega)
    have w : IntKind.wrap .i64 ((i : Int) + 1) = ((i + 1 : Nat) : Int) := by rw [wrap64 (by omega) (by omega)]; omega
    have hw := (hp.2 _ (List.getElem_mem hi')).1
    have qc := Own2_eq (Ev.upto 200000) p.1[i].2 (by omega)
    simp -implicitDefEqProofs only [c0, cond_true, idx_nat hi', Option.bind_some]
    cases hd : p.1[i].1 == lowerB n with
    | true =>
      simp -implicitDefEqProofs only [cond_true, qc, Option.bind_some]
      refine ⟨_, rfl, ?_⟩
      rw [findD_at hi' h0, hd]
      exact ⟨_, rfl, rfl⟩
    | false =>
      simp -implicitDefEqProofs only [cond_false, w]
      exact ⟨_, rfl, hi', (), rfl, findD_take hi' h0 hd⟩
  · have c0 : decide ((i : Int) < (p.1.length : Int)) = false := decide_eq_false (by omega)
    have ht : p.1.take i = p.1 := List.take_of_length_le (by omega)
    rw [ht] at h0
    simp -implicitDefEqProofs only [c0, cond_false]
    refine ⟨_, rfl, ?_⟩
    rw [h0]
    exact ⟨_, rfl, rfl⟩
/-! -/
noncomputable def parO (w : Bs) : Option Src := if (parR w).2 = true then some (parR w).1 else none
noncomputable def parL (l : List Bs) : List Src := l.filterMap parO
theorem parL_len (l : List Bs) : (parL l).length ≤ l.length := List.length_filterMap_le _ _
theorem parL_take {l : List Bs} {i : Nat} (hi : i < l.length) : parL (l.take (i + 1)) = parL (l.take i) ++ (match parO l[i] with | some s => [s] | none => []) := by
  unfold parL
  rw [List.take_succ_eq_append_getElem hi, List.filterMap_append]
  congr 1
  rw [List.filterMap_cons]
  cases parO l[i] <;> rfl
theorem List_eq (l : List Bs) (hl : l.length ≤ 500) (hw : ∀ w ∈ l, w.length ≤ 1000) : source_List_ (Ev.upto 200000) ((l, ()), ()) = some ((), (parL l, ())) := by
  apply wp_eq
  unfold source_List_
  refine wp_bind ?_
  refine wp_for (σ := Unit) (fun i _ => ((l, ((l.length : Int), ((i : Int), ()))), (parL (l.take i), ()))) (fun _ _ => True) l.length () rfl trivial (by omega) ?_
  rintro i _ hi _
  by_cases hi' : i < l.length
  · have c0 : decide ((i : Int) < (l.length : Int)) = true := decide_eq_true (by omega)
    have w : IntKind.wrap .i64 ((i : Int) + 1) = ((i + 1 : Nat) : Int) := by rw [wrap64 (by omega) (by omega)]; omega
    have q := Parse_eq l[i] (hw _ (List.getElem_mem hi'))
    have pl := parL_len (l.take i)
    have pl2 : (parL (l.take i)).length ≤ 500 := by simp at pl; omega
    have e := parL_take hi'
    have hf : fits ((parL (l.take i)).length + ([(parR l[i]).1] : List Src).length) 88 = true := fits_of (by simp; omega)
    unfold parO at e
    simp -implicitDefEqProofs only [c0, cond_true, idx_nat hi', Option.bind_some, q]
    cases hr : (parR l[i]).2 with
    | true =>
      rw [hr, if_pos rfl] at e
      simp -implicitDefEqProofs only [cond_true, hf, Option.bind_some, w]
      exact ⟨_, rfl, hi', (), by rw [e], trivial⟩
    | false =>
      rw [hr, if_neg (by decide)] at e
      simp -implicitDefEqProofs only [cond_false, Option.bind_some, w]
      exact ⟨_, rfl, hi', (), by rw [e]; simp, trivial⟩
  · have c0 : decide ((i : Int) < (l.length : Int)) = false := decide_eq_false (by omega)
    have ht : l.take i = l := List.take_of_length_le (by omega)
    simp -implicitDefEqProofs only [c0, cond_false]
    refine ⟨_, rfl, ?_⟩
    simp only [ht]
    exact ⟨_, rfl, rfl⟩
/-! -/
def nAttr : Bs := [115, 99, 114, 105, 112, 116, 45, 115, 114, 99, 45, 97, 116, 116, 114]
def nElem : Bs := [115, 99, 114, 105, 112, 116, 45, 115, 114, 99, 45, 101, 108, 101, 109]
def nSrc : Bs := [115, 99, 114, 105, 112, 116, 45, 115, 114, 99]
def nDef : Bs := [100, 101, 102, 97, 117, 108, 116, 45, 115, 114, 99]
def namesB (k : Int) : List Bs := if k = 3 then [nAttr, nSrc, nDef] else if k = 1 ∨ k = 2 ∨ k = 4 then [nElem, nSrc, nDef] else if k = 5 ∨ k = 6 then [nSrc, nDef] else []
theorem Names_eq (V : Ev) (k : Int) : chain_Names_ V ((k, ()), ()) = some ((), (namesB k, ())) := by
  by_cases h3 : k = 3
  · subst h3; rfl
  by_cases h1 : k = 1
  · subst h1; rfl
  by_cases h2 : k = 2
  · subst h2; rfl
  by_cases h4 : k = 4
  · subst h4; rfl
  by_cases h5 : k = 5
  · subst h5; rfl
  by_cases h6 : k = 6
  · subst h6; rfl
  have e : namesB k = [] := by unfold namesB; rw [if_neg h3, if_neg (by omega), if_neg (by omega)]
  have c3 : (k == 3) = false := by simpa using h3
  have c1 : (k == 1) = false := by simpa using h1
  have c2 : (k == 2) = false := by simpa using h2
  have c4 : (k == 4) = false := by simpa using h4
  have c5 : (k == 5) = false := by simpa using h5
  have c6 : (k == 6) = false := by simpa using h6
  unfold chain_Names_
  simp -implicitDefEqProofs only [c3, c1, c2, c4, c5, c6, cond_false, Option.bind_some, e]
theorem rNames_eq (V : Ev) (k : Int) : pounceref12_Names_ V ((k, ()), ()) = some ((), (namesB k, ())) := by
  by_cases h3 : k = 3
  · subst h3; rfl
  by_cases h1 : k = 1
  · subst h1; rfl
  by_cases h2 : k = 2
  · subst h2; rfl
  by_cases h4 : k = 4
  · subst h4; rfl
  by_cases h5 : k = 5
  · subst h5; rfl
  by_cases h6 : k = 6
  · subst h6; rfl
  have e : namesB k = [] := by unfold namesB; rw [if_neg h3, if_neg (by omega), if_neg (by omega)]
  have c3 : (k == 3) = false := by simpa using h3
  have c1 : (k == 1) = false := by simpa using h1
  have c2 : (k == 2) = false := by simpa using h2
  have c4 : (k == 4) = false := by simpa using h4
  have c5 : (k == 5) = false := by simpa using h5
  have c6 : (k == 6) = false := by simpa using h6
  unfold pounceref12_Names_
  simp -implicitDefEqProofs only [c3, c1, c2, c4, c5, c6, cond_false, Option.bind_some, e]
theorem names_ok (k : Int) : (namesB k).length ≤ 3 ∧ ∀ n ∈ namesB k, n.length ≤ 15 ∧ lowerB n = n := by
  have h : ∀ l : List Bs, (l = [nAttr, nSrc, nDef] ∨ l = [nElem, nSrc, nDef] ∨ l = [nSrc, nDef] ∨ l = []) → l.length ≤ 3 ∧ ∀ n ∈ l, n.length ≤ 15 ∧ lowerB n = n := by
    have q1 : nAttr.length ≤ 15 ∧ lowerB nAttr = nAttr := ⟨by decide, by kernel_rfl⟩
    have q2 : nElem.length ≤ 15 ∧ lowerB nElem = nElem := ⟨by decide, by kernel_rfl⟩
    have q3 : nSrc.length ≤ 15 ∧ lowerB nSrc = nSrc := ⟨by decide, by kernel_rfl⟩
    have q4 : nDef.length ≤ 15 ∧ lowerB nDef = nDef := ⟨by decide, by kernel_rfl⟩
    rintro l (rfl | rfl | rfl | rfl)
    · exact ⟨by simp, fun n hn => by simp only [List.mem_cons, List.not_mem_nil, or_false] at hn; rcases hn with rfl | rfl | rfl <;> assumption⟩
    · exact ⟨by simp, fun n hn => by simp only [List.mem_cons, List.not_mem_nil, or_false] at hn; rcases hn with rfl | rfl | rfl <;> assumption⟩
    · exact ⟨by simp, fun n hn => by simp only [List.mem_cons, List.not_mem_nil, or_false] at hn; rcases hn with rfl | rfl <;> assumption⟩
    · exact ⟨by simp, fun n hn => by simp at hn⟩
  apply h
  unfold namesB
  split
  · exact .inl rfl
  · split
    · exact .inr (.inl rfl)
    · split
      · exact .inr (.inr (.inl rfl))
      · exact .inr (.inr (.inr rfl))
def effO (l : List Dir) : List Bs → Option (Bs × List Bs)
  | [] => none
  | n :: ns => match findD l n with
    | some w => some (n, w)
    | none => effO l ns
theorem effO_at {l : List Dir} {ns : List Bs} {i : Nat} (h : i < ns.length) (h0 : effO l (ns.take i) = none) : effO l ns = match findD l ns[i] with | some w => some (ns[i], w) | none => effO l (ns.drop (i + 1)) := by
  induction ns generalizing i with
  | nil => simp at h
  | cons n r ih =>
    cases i with
    | zero => rfl
    | succ i =>
      simp only [List.take_succ_cons, effO] at h0
      simp only [List.getElem_cons_succ, List.drop_succ_cons, effO]
      cases hf : findD l n with
      | some w => rw [hf] at h0; cases h0
      | none =>
        rw [hf] at h0
        exact ih (by simpa using h) h0
theorem effO_take {l : List Dir} {ns : List Bs} {i : Nat} (h : i < ns.length) (h0 : effO l (ns.take i) = none) (hd : findD l ns[i] = none) : effO l (ns.take (i + 1)) = none := by
  have hl : i < (ns.take (i + 1)).length := by simp; omega
  have e : (ns.take (i + 1)).take i = ns.take i := by rw [List.take_take, Nat.min_eq_left (by omega)]
  have := effO_at (l := l) hl (by rw [e]; exact h0)
  rw [this]
  have e2 : (ns.take (i + 1))[i] = ns[i] := by simp
  rw [e2, hd]
  rw [List.drop_eq_nil_of_le (by simp; omega)]
  rfl
noncomputable def effR (o : Option (Bs × List Bs)) : (Bs × Bool × Unit) × (List Src × Unit) := match o with
  | some x => ((x.1, (true, ())), (parL x.2, ()))
  | none => (([], (false, ())), ([], ()))
theorem Effective_eq (p : Pol) (k : Int) (hp : okD p.1) : chain_Effective_ (Ev.upto 200000) ((p, (k, ())), ()) = some (effR (effO p.1 (namesB k))) := by
  apply wp_eq
  unfold chain_Effective_
  have q := Names_eq (Ev.upto 200000) k
  obtain ⟨hn1, hn2⟩ := names_ok k
  generalize namesB k = ns at *
  simp -implicitDefEqProofs only [q, Option.bind_some]
  refine wp_bind ?_
  refine wp_for (σ := Unit) (fun i _ => (((ns.length : Int), ((i : Int), ())), ((p, ()), (ns, ())))) (fun i _ => effO p.1 (ns.take i) = none) ns.length () rfl rfl (by omega) ?_
  rintro i _ hi h0
  by_cases hi' : i < ns.length
  · have c0 : decide ((i : Int) < (ns.length : Int)) = true := decide_eq_true (by omega)
    have c1 : decide ((0 : Int) ≤ (i : Int)) = true := decide_eq_true (by omega)
    have w : IntKind.wrap .i64 ((i : Int) + 1) = ((i + 1 : Nat) : Int) := by rw [wrap64 (by omega) (by omega)]; omega
    obtain ⟨hl1, hl2⟩ := hn2 _ (List.getElem_mem hi')
    have qf := Find_eq p ns[i] hp (by omega)
    rw [hl2] at qf
    simp -implicitDefEqProofs only [c0, c1, Bool.and_self, cond_true, Int.toNat_natCast, List.getElem?_eq_getElem hi', Option.bind_some, qf]
    cases hd : findD p.1 ns[i] with
    | some ws =>
      obtain ⟨g1, g2⟩ := findD_ok hp hd
      have ql := List_eq ws (by omega) (fun x hx => by have := g2 x hx; omega)
      simp -implicitDefEqProofs only [Option.isSome_some, Option.getD_some, cond_true, ql, Option.bind_some]
      refine ⟨_, rfl, ?_⟩
      rw [effO_at hi' h0, hd]
      exact ⟨_, rfl, rfl⟩
    | none =>
      simp -implicitDefEqProofs only [Option.isSome_none, cond_false, w]
      exact ⟨_, rfl, hi', (), rfl, effO_take hi' h0 hd⟩
  · have c0 : decide ((i : Int) < (ns.length : Int)) = false := decide_eq_false (by omega)
    have ht : ns.take i = ns := List.take_of_length_le (by omega)
    rw [ht] at h0
    simp -implicitDefEqProofs only [c0, cond_false]
    refine ⟨_, rfl, ?_⟩
    rw [h0]
    exact ⟨_, rfl, rfl⟩
/-! -/
theorem parO_some {w : Bs} {s : Src} (h : parO w = some s) : rightB s = true ∧ parP w = some s := by
  unfold parO parR at h
  cases hp : parP w with
  | none => rw [hp] at h; simp at h
  | some x =>
    rw [hp] at h
    simp only at h
    cases hr : rightB x with
    | false => rw [hr] at h; simp at h
    | true =>
      rw [hr, if_pos rfl] at h
      simp only [if_true, Option.some.injEq] at h
      subst h
      exact ⟨hr, rfl⟩
theorem parL_small {l : List Bs} (h : ∀ w ∈ l, w.length ≤ 1000) : ∀ s ∈ parL l, smallS s := by
  intro s hs
  unfold parL at hs
  obtain ⟨w, hw, hp⟩ := List.mem_filterMap.1 hs
  obtain ⟨h1, h2, h3, h4⟩ := parP_small (h w hw) (parO_some hp).2
  exact ⟨by omega, by omega⟩
def verdictB (l : List Src) (r : Req) : Bool := bif r.1 == 2 then fetchB l r else bif decide (r.1 ≥ 5) then evalB l r.1 else inlineB l r.1 r.2.2.2.2.1 (mrk r.2.1)
noncomputable def oneB (l : List Dir) (r : Req) : Bool × Bs := match effO l (namesB r.1) with
  | some x => (verdictB (parL x.2) r, x.1)
  | none => (true, [])
theorem effO_some {l : List Dir} : ∀ {ns : List Bs} {x : Bs × List Bs}, effO l ns = some x → x.1 ∈ ns ∧ findD l x.1 = some x.2
  | [], x, h => by cases h
  | n :: ns, x, h => by
    unfold effO at h
    cases hf : findD l n with
    | some w =>
      rw [hf] at h
      simp only [Option.some.injEq] at h
      subst h
      exact ⟨List.mem_cons_self .., hf⟩
    | none =>
      rw [hf] at h
      obtain ⟨h1, h2⟩ := effO_some h
      exact ⟨List.mem_cons_of_mem _ h1, h2⟩
theorem One_eq (p : Pol) (r : Req) (hp : okD p.1) (hr : okR r) : chain_One_ (Ev.upto 200000) ((p, (r, ())), ()) = some (((oneB p.1 r).1, ((oneB p.1 r).2, ())), ()) := by
  unfold chain_One_ oneB
  have q := Effective_eq p r.1 hp
  obtain ⟨hr1, hr2, hr3⟩ := hr
  cases he : effO p.1 (namesB r.1) with
  | none =>
    rw [he] at q
    simp -implicitDefEqProofs only [q, effR, Option.bind_some, Bool.not_false, cond_true]
  | some x =>
    rw [he] at q
    obtain ⟨g1, g2⟩ := findD_ok hp (effO_some he).2
    have hl := parL_len x.2
    have hs := parL_small (l := x.2) (fun w hw => by have := g2 w hw; omega)
    have q1 := Fetch_eq 200000 (parL x.2) r (by omega) (by omega) hs hr2 hr3 (by decide)
    have q2 := Eval_eq 200000 (parL x.2) r.1 (by omega) (by decide) (by omega)
    have q3 := Inline_eq 200000 (parL x.2) r.1 r.2.2.2.2.1 r.2.1 (mrk r.2.1) (by omega) (by decide) (by omega) (OfX 200000 r.2.1 (by omega) (by omega) (by decide))
    simp -implicitDefEqProofs only [q, effR, Option.bind_some, Bool.not_true, cond_false, verdictB]
    cases h2 : r.1 == 2 with
    | true => simp -implicitDefEqProofs only [cond_true, q1, Option.bind_some]
    | false =>
      cases h5 : decide (r.1 ≥ 5) with
      | true =>
        simp -implicitDefEqProofs only [cond_true, cond_false, q2, Option.bind_some]
        rfl
      | false => simp -implicitDefEqProofs only [cond_true, cond_false, q3, Option.bind_some]
abbrev Blk := Int × (Bs × Bool)
noncomputable def blk (r : Req) (i : Nat) (p : Pol) : List Blk := bif (oneB p.1 r).1 then [] else [((i : Int), ((oneB p.1 r).2, p.2))]
noncomputable def blks (r : Req) : Nat → List Pol → List Blk
  | _, [] => []
  | i, p :: l => blk r i p ++ blks r (i + 1) l
theorem blks_append (r : Req) : ∀ (a b : List Pol) (i : Nat), blks r i (a ++ b) = blks r i a ++ blks r (i + a.length) b
  | [], b, i => rfl
  | p :: a, b, i => by
    simp only [List.cons_append, blks, List.length_cons, List.append_assoc]
    rw [blks_append r a b (i + 1), show i + 1 + a.length = i + (a.length + 1) by omega]
theorem blks_take (r : Req) (l : List Pol) (i : Nat) (hi : i < l.length) : blks r 0 (l.take (i + 1)) = blks r 0 (l.take i) ++ blk r i l[i] := by
  rw [List.take_succ_eq_append_getElem hi, blks_append]
  simp [blks, Nat.min_eq_left (Nat.le_of_lt hi)]
theorem blk_len (r : Req) (i : Nat) (p : Pol) : (blk r i p).length ≤ 1 := by
  unfold blk
  cases (oneB p.1 r).1 <;> simp
theorem blks_len (r : Req) : ∀ (l : List Pol) (i : Nat), (blks r i l).length ≤ l.length
  | [], i => Nat.le_refl _
  | p :: l, i => by
    have := blks_len r l (i + 1)
    have := blk_len r i p
    simp only [blks, List.length_append, List.length_cons]
    omega
def repB (l : List Blk) : Bool := l.all fun b => b.2.2
def okP (l : List Pol) : Prop := l.length ≤ 20 ∧ ∀ p ∈ l, okD p.1
theorem All_eq (l : List Pol) (r : Req) (hl : okP l) (hr : okR r) : chain_All_ (Ev.upto 200000) ((l, (r, ())), ()) = some (((repB (blks r 0 l), blks r 0 l), ()), ()) := by
  apply wp_eq
  unfold chain_All_ slices_All__api_Policy_api_Policy_328 slices_All__api_Policy_api_Policy_1_f61
  simp -implicitDefEqProofs only [Option.bind_some]
  have hll := hl.1
  refine wp_bind ?_
  refine wp_bind ?_
  refine wp_for (σ := Unit) (fun i _ => ((l, ((l.length : Int), ((i : Int), ()))), ((r, ()), ((repB (blks r 0 (l.take i)), ()), ((l, ()), (blks r 0 (l.take i), ())))))) (fun _ _ => True) l.length () rfl trivial (by omega) ?_
  rintro i _ hi _
  by_cases hi' : i < l.length
  · have c0 : decide ((i : Int) < (l.length : Int)) = true := decide_eq_true (by omega)
    have w : IntKind.wrap .i64 ((i : Int) + 1) = ((i + 1 : Nat) : Int) := by rw [wrap64 (by omega) (by omega)]; omega
    have q := One_eq l[i] r (hl.2 _ (List.getElem_mem hi')) hr
    have hb := blks_len r (l.take i) 0
    have hb2 : (blks r 0 (l.take i)).length ≤ 20 := by simp at hb; omega
    have hf : fits ((blks r 0 (l.take i)).length + ([((i : Int), ((oneB l[i].1 r).2, l[i].2))] : List Blk).length) 32 = true := fits_of (by simp; omega)
    have e := blks_take r l i hi'
    unfold blk at e
    simp -implicitDefEqProofs only [c0, cond_true, idx_nat hi', Option.bind_some, chain_All_r, q]
    cases ho : (oneB l[i].1 r).1 with
    | true =>
      rw [ho, cond_true, List.append_nil] at e
      simp -implicitDefEqProofs only [Bool.not_true, cond_false, Option.bind_some, w]
      exact ⟨_, rfl, hi', (), by rw [e], trivial⟩
    | false =>
      rw [ho, cond_false] at e
      have e2 : repB (blks r 0 (l.take (i + 1))) = (repB (blks r 0 (l.take i)) && l[i].2) := by
        rw [e]
        unfold repB
        rw [List.all_append]
        simp
      simp -implicitDefEqProofs only [Bool.not_false, cond_true, hf, Option.bind_some, w]
      cases hrep : repB (blks r 0 (l.take i)) with
      | true =>
        rw [hrep, Bool.true_and] at e2
        simp -implicitDefEqProofs only [beq_self_eq_true, cond_true, Option.bind_some, Bool.not_true, cond_false]
        exact ⟨_, rfl, hi', (), by rw [e2, e], trivial⟩
      | false =>
        rw [hrep, Bool.false_and] at e2
        simp -implicitDefEqProofs only [show (false == true) = false from rfl, cond_false, Option.bind_some, Bool.not_true]
        exact ⟨_, rfl, hi', (), by rw [e2, e], trivial⟩
  · have c0 : decide ((i : Int) < (l.length : Int)) = false := decide_eq_false (by omega)
    have ht : l.take i = l := List.take_of_length_le (by omega)
    simp -implicitDefEqProofs only [c0, cond_false]
    refine ⟨_, rfl, ?_⟩
    simp only [ht]
    exact ⟨_, rfl, _, rfl, rfl⟩
/-! -/
theorem Big2_ok (l : List Bs) : wp (pounceref02_Big_ (Ev.upto 200000) ((l, ((210 : Int), ((300 : Int), ()))), ())) (fun o => ∃ b, o = ((b, ()), ()) ∧ (b = false → l.length ≤ 210 ∧ ∀ w ∈ l, w.length ≤ 300)) := by
  unfold pounceref02_Big_
  refine wp_dec (fun h => ⟨_, rfl, true, rfl, fun h => by cases h⟩) fun h => ?_
  simp only at h
  refine wp_bind ?_
  refine wp_for (σ := Unit) (fun i _ => ((l, ((300 : Int), ((i : Int), ()))), ())) (fun i _ => ∀ w ∈ l.take i, w.length ≤ 300) l.length () rfl (by simp) (by omega) ?_
  rintro i _ hi h0
  by_cases hi' : i < l.length
  · have c0 : decide ((i : Int) < (l.length : Int)) = true := decide_eq_true (by omega)
    have w : IntKind.wrap .i64 ((i : Int) + 1) = ((i + 1 : Nat) : Int) := by rw [wrap64 (by omega) (by omega)]; omega
    simp -implicitDefEqProofs only [c0, cond_true, idx_nat hi', Option.bind_some]
    refine wp_dec (fun h => ⟨_, rfl, _, rfl, true, rfl, fun h => by cases h⟩) fun hw => ?_
    simp -implicitDefEqProofs only [w]
    refine ⟨_, rfl, hi', (), rfl, ?_⟩
    rw [List.take_succ_eq_append_getElem hi']
    intro x hx
    rcases List.mem_append.1 hx with hx | hx
    · exact h0 x hx
    · rw [List.mem_singleton.1 hx]; omega
  · have c0 : decide ((i : Int) < (l.length : Int)) = false := decide_eq_false (by omega)
    have ht : l.take i = l := List.take_of_length_le (by omega)
    simp -implicitDefEqProofs only [c0, cond_false]
    rw [ht] at h0
    exact ⟨_, rfl, _, rfl, false, rfl, fun _ => ⟨by omega, h0⟩⟩
theorem Big8_ok (l : List Pol) : wp (pounceref08_Big_ (Ev.upto 200000) ((l, ()), ())) (fun o => ∃ b, o = ((b, ()), ()) ∧ (b = false → l.length ≤ 15 ∧ ∀ p ∈ l, okD p.1)) := by
  unfold pounceref08_Big_
  refine wp_dec (fun h => ⟨_, rfl, true, rfl, fun h => by cases h⟩) fun h => ?_
  simp only at h
  refine wp_bind ?_
  refine wp_for (σ := Unit) (fun i _ => ((l, ((i : Int), ())), ())) (fun i _ => ∀ p ∈ l.take i, okD p.1) l.length () rfl (by simp) (by omega) ?_
  rintro i _ hi h0
  by_cases hi' : i < l.length
  · have c0 : decide ((i : Int) < (l.length : Int)) = true := decide_eq_true (by omega)
    have w : IntKind.wrap .i64 ((i : Int) + 1) = ((i + 1 : Nat) : Int) := by rw [wrap64 (by omega) (by omega)]; omega
    simp -implicitDefEqProofs only [c0, cond_true, idx_nat hi', Option.bind_some]
    refine wp_dec (fun h => ⟨_, rfl, _, rfl, true, rfl, fun h => by cases h⟩) fun h20 => ?_
    refine wp_bind ?_
    refine wp_for (σ := Unit) (fun k _ => ((l, ((i : Int), ((k : Int), ()))), ())) (fun k _ => ∀ d ∈ l[i].1.take k, d.2.length ≤ 210 ∧ ∀ w ∈ d.2, w.length ≤ 300) l[i].1.length () rfl (by simp) (by omega) ?_
    rintro k _ hk hd
    simp -implicitDefEqProofs only [idx_nat hi', Option.bind_some]
    by_cases hk' : k < l[i].1.length
    · have d0 : decide ((k : Int) < (l[i].1.length : Int)) = true := decide_eq_true (by omega)
      have wk : IntKind.wrap .i64 ((k : Int) + 1) = ((k + 1 : Nat) : Int) := by rw [wrap64 (by omega) (by omega)]; omega
      simp -implicitDefEqProofs only [d0, cond_true, idx_nat hk', Option.bind_some]
      obtain ⟨o, e, b, rfl, hb⟩ := Big2_ok l[i].1[k].2
      cases h2 : decide (((l[i].1[k].1.length : Nat) : Int) > 200) == false with
      | false =>
        simp -implicitDefEqProofs only [cond_false, Option.bind_some, cond_true]
        exact ⟨_, rfl, _, rfl, _, rfl, true, rfl, fun h => by cases h⟩
      | true =>
        simp -implicitDefEqProofs only [cond_true, e, Option.bind_some]
        cases b with
        | true =>
          simp -implicitDefEqProofs only [cond_true]
          exact ⟨_, rfl, _, rfl, _, rfl, true, rfl, fun h => by cases h⟩
        | false =>
          simp -implicitDefEqProofs only [cond_false, wk]
          refine ⟨_, rfl, hk', (), rfl, ?_⟩
          rw [List.take_succ_eq_append_getElem hk']
          intro x hx
          rcases List.mem_append.1 hx with hx | hx
          · exact hd x hx
          · rw [List.mem_singleton.1 hx]; exact hb rfl
    · have d0 : decide ((k : Int) < (l[i].1.length : Int)) = false := decide_eq_false (by omega)
      have ht : l[i].1.take k = l[i].1 := List.take_of_length_le (by omega)
      rw [ht] at hd
      simp -implicitDefEqProofs only [d0, cond_false]
      refine ⟨_, rfl, ?_⟩
      simp -implicitDefEqProofs only [w]
      refine ⟨_, rfl, hi', (), rfl, ?_⟩
      rw [List.take_succ_eq_append_getElem hi']
      intro x hx
      rcases List.mem_append.1 hx with hx | hx
      · exact h0 x hx
      · rw [List.mem_singleton.1 hx]; exact ⟨by omega, hd⟩
  · have c0 : decide ((i : Int) < (l.length : Int)) = false := decide_eq_false (by omega)
    have ht : l.take i = l := List.take_of_length_le (by omega)
    rw [ht] at h0
    simp -implicitDefEqProofs only [c0, cond_false]
    exact ⟨_, rfl, _, rfl, false, rfl, fun _ => ⟨by omega, h0⟩⟩
theorem largeC_ok (l : List Pol) (r : Req) : wp (pouncelaw12_large_ (Ev.upto 200000) ((l, (r, ())), ())) (fun o => ∃ b, o = ((b, ()), ()) ∧ (b = false → okP l ∧ l.length ≤ 15 ∧ okR r)) := by
  unfold pouncelaw12_large_
  obtain ⟨o, e, b, rfl, hb⟩ := Big8_ok l
  obtain ⟨c, e2, hc⟩ := Big11_ok (Ev.upto 200000) r
  simp -implicitDefEqProofs only [e, Option.bind_some]
  cases b with
  | true => exact ⟨_, rfl, true, rfl, fun h => by cases h⟩
  | false =>
    simp -implicitDefEqProofs only [beq_self_eq_true, cond_true, e2, Option.bind_some]
    refine ⟨_, rfl, c, rfl, fun h => ?_⟩
    obtain ⟨h1, h2⟩ := hb rfl
    exact ⟨⟨by omega, h2⟩, h1, hc h⟩
/-! -/
def numL (l : List Bool) : Nat := l.foldl (fun n b => 2 * n + bv b) 0
theorem numL_snoc (l : List Bool) (b : Bool) : numL (l ++ [b]) = 2 * numL l + bv b := by
  unfold numL; rw [List.foldl_append]; rfl
theorem bv_le (b : Bool) : bv b ≤ 1 := by cases b <;> decide
theorem snocB (s : List Bool) : s = [] ∨ ∃ l c, s = l ++ [c] := by
  rcases List.eq_nil_or_concat s with h | ⟨l, c, h⟩
  · exact .inl h
  · exact .inr ⟨l, c, by rw [h, List.concat_eq_append]⟩
theorem numL_lt (l : List Bool) : numL l < 2 ^ l.length := by
  rcases snocB l with rfl | ⟨m, b, rfl⟩
  · decide
  · have ih := numL_lt m
    have := bv_le b
    rw [numL_snoc, List.length_append, List.length_singleton, Nat.pow_succ]
    omega
termination_by l.length
decreasing_by all_goals (subst_vars; simp)
theorem numL_app (x y : List Bool) : numL (x ++ y) = numL x * 2 ^ y.length + numL y := by
  rcases snocB y with rfl | ⟨m, b, rfl⟩
  · simp [numL]
  · have ih := numL_app x m
    rw [← List.append_assoc, numL_snoc, ih, numL_snoc, List.length_append, List.length_singleton, Nat.pow_succ, Nat.mul_add, ← Nat.mul_assoc, ← Nat.mul_assoc, Nat.mul_comm 2 (numL x), Nat.mul_assoc (numL x), Nat.mul_comm 2, ← Nat.mul_assoc]
    rw [Nat.mul_assoc]
    omega
termination_by y.length
decreasing_by all_goals (subst_vars; simp)
theorem numberL_eq (l : List Bool) (hl : l.length ≤ 8) : pounceref04_number_ (Ev.upto 200000) ((l, ()), ()) = some ((((numL l : Nat) : Int), ()), ()) := by
  apply wp_eq
  unfold pounceref04_number_
  refine wp_bind ?_
  refine wp_for (σ := Unit) (fun i _ => ((l, (((numL (l.take i) : Nat) : Int), ((i : Int), ()))), ())) (fun _ _ => True) l.length () rfl trivial (by omega) ?_
  rintro i _ hi _
  by_cases hi' : i < l.length
  · have c0 : decide ((i : Int) < (l.length : Int)) = true := decide_eq_true (by omega)
    have hlt : numL (l.take i) < 256 := by
      have := numL_lt (l.take i)
      have h2 : (l.take i).length ≤ 8 := by simp; omega
      have h3 : 2 ^ (l.take i).length ≤ 2 ^ 8 := Nat.pow_le_pow_right (by decide) h2
      omega
    have w1 : IntKind.wrap .i64 ((2 : Int) * ((numL (l.take i) : Nat) : Int)) = ((2 * numL (l.take i) : Nat) : Int) := by rw [wrap64 (by omega) (by omega)]; omega
    have w2 : IntKind.wrap .i64 (((2 * numL (l.take i) : Nat) : Int) + 1) = ((2 * numL (l.take i) + 1 : Nat) : Int) := by rw [wrap64 (by omega) (by omega)]; omega
    have w4 : IntKind.wrap .i64 ((i : Int) + 1) = ((i + 1 : Nat) : Int) := by rw [wrap64 (by omega) (by omega)]; omega
    have e : numL (l.take (i + 1)) = 2 * numL (l.take i) + bv l[i] := by rw [List.take_succ_eq_append_getElem hi', numL_snoc]
    simp -implicitDefEqProofs only [c0, cond_true, idx_nat hi', Option.bind_some, w1, w2, w4, e]
    cases l[i] with
    | true => exact ⟨_, rfl, hi', (), by dsimp only; rw [w4]; rfl, trivial⟩
    | false => exact ⟨_, rfl, hi', (), by dsimp only; rw [w4]; rfl, trivial⟩
  · have c0 : decide ((i : Int) < (l.length : Int)) = false := decide_eq_false (by omega)
    have ht : l.take i = l := List.take_of_length_le (by omega)
    simp -implicitDefEqProofs only [c0, cond_false, ht]
    exact ⟨_, rfl, _, rfl, rfl⟩
def bits6 (v : Nat) : List Bool := [v / 32 % 2 == 1, v / 16 % 2 == 1, v / 8 % 2 == 1, v / 4 % 2 == 1, v / 2 % 2 == 1, v % 2 == 1]
theorem bits6_eq (v : Nat) (h : v < 64) : pounceref04_bits_ (Ev.upto 200000) ((((v : Nat) : Int), ((6 : Int), ())), ()) = some ((), (bits6 v, ())) := by
  have h2 := List.all_eq_true.1 (show (List.range 64).all (fun v => pounceref04_bits_ (Ev.upto 200000) ((((v : Nat) : Int), ((6 : Int), ())), ()) == some ((), (bits6 v, ()))) = true by kernel_rfl) v (List.mem_range.2 h)
  exact beq_iff_eq.1 h2
theorem bits6_num (v : Nat) (h : v < 64) : numL (bits6 v) = v := by
  have h2 := List.all_eq_true.1 (show (List.range 64).all (fun v => numL (bits6 v) == v) = true by kernel_rfl) v (List.mem_range.2 h)
  exact beq_iff_eq.1 h2
noncomputable def bitsR (s : Bs) : List Bool := s.flatMap fun c => bits6 (valN c)
theorem bitsR_cons (c : UInt8) (s : Bs) : bitsR (c :: s) = bits6 (valN c) ++ bitsR s := by simp [bitsR]
theorem bitsR_snoc (c : UInt8) (s : Bs) : bitsR (s ++ [c]) = bitsR s ++ bits6 (valN c) := by simp [bitsR]
theorem bitsR_len (s : Bs) : (bitsR s).length = 6 * s.length := by
  induction s with
  | nil => rfl
  | cons c s ih => rw [bitsR_cons, List.length_append, ih]; simp [bits6]; omega
def chk : Nat → List Bool → Bs
  | 0, _ => []
  | k + 1, l => UInt8.ofNat (numL (l.take 8)) :: chk k (l.drop 8)
def chR (k : Nat) (l : List Bool) : Bs := (List.range k).map fun i => UInt8.ofNat (numL ((l.take (8 * i + 8)).drop (8 * i)))
theorem chR_succ (k : Nat) (l : List Bool) : chR (k + 1) l = chR k l ++ [UInt8.ofNat (numL ((l.take (8 * k + 8)).drop (8 * k)))] := by
  simp [chR, List.range_succ]
theorem chR_chk : ∀ (k : Nat) (l : List Bool), chR k l = chk k l
  | 0, _ => rfl
  | k + 1, l => by
    unfold chk
    rw [← chR_chk k (l.drop 8)]
    unfold chR
    rw [List.range_succ_eq_map, List.map_cons, List.map_map]
    congr 1
    apply List.map_congr_left
    intro i _
    simp only [Function.comp]
    congr 2
    rw [List.take_drop, List.drop_drop]
    congr 1
    · omega
    · congr 1; omega
theorem decF_bits : ∀ (r : Bs) (b : Nat) (pend : List Bool), pend.length = b → b < 8 → (r.all fun c => !noV c) = true →
    (decF r b (numL pend)).1 = chk ((pend ++ bitsR r).length / 8) (pend ++ bitsR r) ∧ (decF r b (numL pend)).2 = numL ((pend ++ bitsR r).drop (8 * ((pend ++ bitsR r).length / 8)))
  | [], b, pend, hp, hb, _ => by
    have e : bitsR [] = [] := rfl
    rw [e, List.append_nil, hp, Nat.div_eq_of_lt hb]
    exact ⟨rfl, rfl⟩
  | c :: r, b, pend, hp, hb, ha => by
    rw [List.all_cons, Bool.and_eq_true] at ha
    have hv := (valN_eq c (by simpa using ha.1)).2
    have e1 : numL (pend ++ bits6 (valN c)) = numL pend * 64 + valN c := by
      rw [numL_app, bits6_num _ hv]; rfl
    have hl6 : (bits6 (valN c)).length = 6 := rfl
    unfold decF
    rw [bitsR_cons, ← List.append_assoc]
    generalize hX : pend ++ bits6 (valN c) = X at *
    have hXl : X.length = b + 6 := by rw [← hX, List.length_append, hp, hl6]
    rw [← e1]
    by_cases h2 : 2 ≤ b
    · rw [if_pos h2]
      have hd : (X.drop 8).length = b - 2 := by rw [List.length_drop]; omega
      have e2 : numL X = numL (X.take 8) * 2 ^ (b - 2) + numL (X.drop 8) := by
        conv => lhs; rw [← List.take_append_drop 8 X, numL_app, hd]
      have hlt := numL_lt (X.drop 8)
      rw [hd] at hlt
      have q1 : numL X / 2 ^ (b - 2) = numL (X.take 8) := by
        rw [e2, Nat.mul_comm, Nat.mul_add_div (Nat.pos_of_ne_zero (by simp)), Nat.div_eq_of_lt hlt, Nat.add_zero]
      have q2 : numL X % 2 ^ (b - 2) = numL (X.drop 8) := by
        rw [e2, Nat.mul_comm, Nat.mul_add_mod, Nat.mod_eq_of_lt hlt]
      rw [q1, q2]
      have ih := decF_bits r (b - 2) (X.drop 8) hd (by omega) ha.2
      have hL : (X ++ bitsR r).drop 8 = X.drop 8 ++ bitsR r := by rw [List.drop_append_of_le_length (by omega)]
      have hT : (X ++ bitsR r).take 8 = X.take 8 := by rw [List.take_append_of_le_length (by omega)]
      have hn : (X ++ bitsR r).length / 8 = (X.drop 8 ++ bitsR r).length / 8 + 1 := by
        rw [List.length_append, List.length_append, hd, hXl]; omega
      rw [hn]
      refine ⟨?_, ?_⟩
      · rw [chk, hT, hL, ih.1]
      · rw [ih.2, ← hL, List.drop_drop, Nat.mul_add, Nat.add_comm]
    · rw [if_neg h2]
      exact decF_bits r (b + 6) X hXl (by omega) ha.2
theorem headB_same (s : Bs) (h : (headB s).length = s.length) : headB s = s := by
  have key : ∀ l : Bs, (cutE l).length = l.length → cutE l = l := fun l hl => by
    rcases snoc_cases l with rfl | ⟨m, c, rfl⟩
    · rfl
    · rw [cutE_snoc] at hl ⊢
      by_cases hc : c = 61
      · rw [if_pos hc] at hl; simp at hl
      · rw [if_neg hc]
  have h1 := cutE_len s
  have h2 := cutE_len (cutE s)
  have h3 : (cutE (cutE s)).length = s.length := h
  have e := key s (by omega)
  show cutE (cutE s) = s
  rw [e, e]
theorem rDecode_eq (s : Bs) (hs : s.length ≤ 1000) : wp (pounceref04_Decode_ (Ev.upto 200000) ((s, ()), ())) (fun o => ∃ b, o = ((decW s, (b, ())), ())) := by
  have qh := rhead_eq 200000 s (by omega) (by decide)
  have qf := rform_eq s hs
  unfold pounceref04_Decode_ decW decNo
  by_cases h0 : s = []
  · subst h0
    exact ⟨_, rfl, true, rfl⟩
  rw [if_neg h0, show (s == ([] : Bs)) = false from by simpa using h0]
  simp -implicitDefEqProofs only [cond_false, qf, Option.bind_some]
  cases hf : formB s with
  | false => exact ⟨_, rfl, false, by rw [if_pos (by rfl)]⟩
  | true =>
    have hall : ((headB s).all fun c => !noV c) = true := by
      unfold formB at hf
      rw [Bool.and_eq_true] at hf
      exact hf.2
    have hhl := headB_len s
    have hh : ((headB s) == s) = decide ((headB s).length = s.length) := by
      by_cases hq : (headB s).length = s.length
      · have := headB_same s hq
        rw [decide_eq_true hq]; simpa using this
      · rw [decide_eq_false hq, beq_eq_false_iff_ne]
        intro e; exact hq (congrArg List.length e)
    rw [hh]
    simp -implicitDefEqProofs only [Bool.not_true, cond_false, qh, Option.bind_some, Bool.false_or]
    generalize headB s = h at *
    refine wp_seq (fun o => o = ((s, (h, ())), (bitsR h, ()))) ?_ ?_
    · refine wp_for (σ := Unit) (fun i _ => ((s, (h, ((i : Int), ()))), (bitsR (h.take i), ()))) (fun _ _ => True) h.length () rfl trivial (by omega) ?_
      rintro i _ hi _
      by_cases hi' : i < h.length
      · have c0 : decide ((i : Int) < (h.length : Int)) = true := decide_eq_true (by omega)
        have hv := valN_eq h[i] (by simpa using List.all_eq_true.1 hall h[i] (List.getElem_mem hi'))
        have q := rbvalue_eq h[i]
        rw [hv.1] at q
        have w4 : IntKind.wrap .i64 ((i : Int) + 1) = ((i + 1 : Nat) : Int) := by rw [wrap64 (by omega) (by omega)]; omega
        have hfit : fits ((bitsR (h.take i)).length + (bits6 (valN h[i])).length) 1 = true := fits_of (by rw [bitsR_len]; simp [bits6]; omega)
        simp -implicitDefEqProofs only [c0, cond_true, idx_nat hi', Option.bind_some, q, bits6_eq _ hv.2, hfit, w4]
        exact ⟨_, rfl, hi', (), by rw [List.take_succ_eq_append_getElem hi', bitsR_snoc], trivial⟩
      · have c0 : decide ((i : Int) < (h.length : Int)) = false := decide_eq_false (by omega)
        have ht : h.take i = h := List.take_of_length_le (by omega)
        simp -implicitDefEqProofs only [c0, cond_false, ht]
        exact ⟨_, rfl, rfl⟩
    · rintro _ rfl
      obtain ⟨d1, d2⟩ := decF_bits h 0 [] rfl (by decide) hall
      rw [List.nil_append] at d1 d2
      rw [show numL [] = 0 from rfl] at d1 d2
      rw [d1, d2]
      have hbl := bitsR_len h
      generalize bitsR h = L at *
      generalize hk : L.length / 8 = k at *
      have t1 : Int.tdiv (L.length : Int) (8 : Int) = (k : Int) := by
        rw [← hk]; rfl
      have w1 : IntKind.wrap .i64 (k : Int) = (k : Int) := wrap64 (by omega) (by omega)
      have w2 : IntKind.wrap .i64 ((8 : Int) * (k : Int)) = ((8 * k : Nat) : Int) := by rw [wrap64 (by omega) (by omega)]; omega
      have hkl : 8 * k ≤ L.length := by omega
      have c1 : (decide (0 ≤ ((8 * k : Nat) : Int)) && decide (((8 * k : Nat) : Int) ≤ (L.length : Int)) && decide ((L.length : Int) ≤ (L.length : Int))) = true := by
        rw [decide_eq_true (by omega), decide_eq_true (by omega), decide_eq_true (by omega)]; rfl
      have e1 : ((L.drop (8 * k)).take (L.length - 8 * k)) = L.drop (8 * k) := List.take_of_length_le (by simp)
      simp -implicitDefEqProofs only [t1, w1, w2, c1, cond_true, Int.toNat_natCast, e1]
      have c4 : decide (((L.length - 8 * k : Nat) : Int) ≥ (6 : Int)) = (h.length % 4 == 1) := by
        have hm := Nat.div_add_mod h.length 4
        generalize h.length / 4 = e4 at hm
        have hlt4 := Nat.mod_lt h.length (show 4 > 0 by decide)
        generalize h.length % 4 = r4 at hm hlt4
        have : r4 = 0 ∨ r4 = 1 ∨ r4 = 2 ∨ r4 = 3 := by omega
        rcases this with rfl | rfl | rfl | rfl
        · rw [decide_eq_false (by omega)]; rfl
        · rw [decide_eq_true (by omega)]; rfl
        · rw [decide_eq_false (by omega)]; rfl
        · rw [decide_eq_false (by omega)]; rfl
      have q8 := numberL_eq (L.drop (8 * k)) (by simp; omega)
      rw [c4]
      have t4 : Int.tmod (s.length : Int) (4 : Int) = ((s.length % 4 : Nat) : Int) := rfl
      have r4 : rngB .i64 ((s.length % 4 : Nat) : Int) = true := by
        unfold rngB
        rw [decide_eq_true (show IntKind.min .i64 ≤ _ from by show (-9223372036854775808 : Int) ≤ _; omega), decide_eq_true (show _ ≤ IntKind.max .i64 from by show _ ≤ (9223372036854775807 : Int); omega)]
        rfl
      have cl : decide ((h.length : Int) < (s.length : Int)) = !decide (h.length = s.length) := by
        by_cases hq : h.length = s.length
        · rw [decide_eq_false (by omega), decide_eq_true hq]; rfl
        · rw [decide_eq_true (by omega), decide_eq_false hq]; rfl
      have n4 : (((s.length % 4 : Nat) : Int) != 0) = (s.length % 4 != 0) := by
        by_cases h4 : s.length % 4 = 0
        · rw [h4]; rfl
        · rw [(bne_iff_ne).2 h4, bne_iff_ne]; omega
      cases h4 : (h.length % 4 == 1) with
      | true =>
        simp -implicitDefEqProofs only [beq_self_eq_true, Bool.true_or, if_true, Bool.false_eq_true, cond_false, Option.bind_some, cond_true]
        exact ⟨_, rfl, false, rfl⟩
      | false =>
        simp -implicitDefEqProofs only [beq_self_eq_true, Bool.false_or, cond_true, Option.bind_some, q8]
        by_cases hz : numL (L.drop (8 * k)) = 0
        · rw [hz, if_pos rfl]
          simp -implicitDefEqProofs only [cl, t4, r4, n4]
          have fin : wp ((Ev.upto 200000).it (fun (s10 : (Int × (Int × Unit)) × (List Bool × (List Int × Unit))) => (bif decide (s10.1.2.1 < s10.1.1) then (bif (decide (0 ≤ (IntKind.wrap .i64 ((8 : Int) * s10.1.2.1))) && decide ((IntKind.wrap .i64 ((8 : Int) * s10.1.2.1)) ≤ (IntKind.wrap .i64 ((IntKind.wrap .i64 ((8 : Int) * s10.1.2.1)) + (8 : Int)))) && decide ((IntKind.wrap .i64 ((IntKind.wrap .i64 ((8 : Int) * s10.1.2.1)) + (8 : Int))) ≤ ((s10.2.1).length : Int))) then ((pounceref04_number_ (Ev.upto 200000) (((((s10.2.1).drop ((IntKind.wrap .i64 ((8 : Int) * s10.1.2.1))).toNat).take (((IntKind.wrap .i64 ((IntKind.wrap .i64 ((8 : Int) * s10.1.2.1)) + (8 : Int)))).toNat - ((IntKind.wrap .i64 ((8 : Int) * s10.1.2.1))).toNat)), ()), ())).bind fun v11 => (bif fits ((s10.2.2.1).length + (([(IntKind.wrap .u8 v11.1.1)] : List ((.int .u8) : Ty).T)).length) 1 then (some (Sum.inl ((s10.1.1, ((IntKind.wrap .i64 (s10.1.2.1 + (1 : Int))), ())), (s10.2.1, ((s10.2.2.1 ++ ([(IntKind.wrap .u8 v11.1.1)] : List ((.int .u8) : Ty).T)), ()))))) else none)) else none) else (some (Sum.inr ((), (s10.2.2.1, ())))))) (((k : Int), ((0 : Int), ())), (L, (([] : List ((.int .u8) : Ty).T), ())))) (fun o => o = ((), (ofBs (chk k L), ()))) := by
            rw [← chR_chk]
            refine wp_for (σ := Unit) (fun i _ => (((k : Int), ((i : Int), ())), (L, (ofBs (chR i L), ())))) (fun _ _ => True) k () rfl trivial (by omega) ?_
            rintro i _ hi _
            by_cases hi' : i < k
            · have c0 : decide ((i : Int) < (k : Int)) = true := decide_eq_true (by omega)
              have u1 : IntKind.wrap .i64 ((8 : Int) * (i : Int)) = ((8 * i : Nat) : Int) := by rw [wrap64 (by omega) (by omega)]; omega
              have u2 : IntKind.wrap .i64 (((8 * i : Nat) : Int) + (8 : Int)) = ((8 * i + 8 : Nat) : Int) := by rw [wrap64 (by omega) (by omega)]; omega
              have u4 : IntKind.wrap .i64 ((i : Int) + 1) = ((i + 1 : Nat) : Int) := by rw [wrap64 (by omega) (by omega)]; omega
              have c3 : (decide (0 ≤ ((8 * i : Nat) : Int)) && decide (((8 * i : Nat) : Int) ≤ ((8 * i + 8 : Nat) : Int)) && decide (((8 * i + 8 : Nat) : Int) ≤ (L.length : Int))) = true := by
                rw [decide_eq_true (by omega), decide_eq_true (by omega), decide_eq_true (by omega)]; rfl
              have e2 : (L.drop (8 * i)).take (8 * i + 8 - 8 * i) = (L.take (8 * i + 8)).drop (8 * i) := by rw [List.drop_take]
              have hl8 : ((L.take (8 * i + 8)).drop (8 * i)).length ≤ 8 := by simp; omega
              have q := numberL_eq _ hl8
              have hlt : numL ((L.take (8 * i + 8)).drop (8 * i)) < 256 := by
                have h1 := numL_lt ((L.take (8 * i + 8)).drop (8 * i))
                have h3 : 2 ^ ((L.take (8 * i + 8)).drop (8 * i)).length ≤ 2 ^ 8 := Nat.pow_le_pow_right (by decide) hl8
                omega
              have u8 : IntKind.wrap .u8 ((numL ((L.take (8 * i + 8)).drop (8 * i)) : Nat) : Int) = ((numL ((L.take (8 * i + 8)).drop (8 * i)) : Nat) : Int) := wrapu8 (by omega) (by omega)
              have hcl : (chR i L).length = i := by simp [chR]
              have hfit : fits ((ofBs (chR i L)).length + 1) 1 = true := fits_of (by rw [ofBs_length, hcl]; omega)
              simp -implicitDefEqProofs only [c0, cond_true, u1, u2, u4, c3, Int.toNat_natCast, e2, q, Option.bind_some, u8, List.length_singleton, hfit]
              refine ⟨_, rfl, hi', (), ?_, trivial⟩
              rw [chR_succ, ← ofBs_append]
              have : ofBs [UInt8.ofNat (numL ((L.take (8 * i + 8)).drop (8 * i)))] = [((numL ((L.take (8 * i + 8)).drop (8 * i)) : Nat) : Int)] := by
                simp only [ofBs, List.map_cons, List.map_nil, UInt8.toNat_ofNat']
                rw [Nat.mod_eq_of_lt hlt]
              rw [this]
            · have c0 : decide ((i : Int) < (k : Int)) = false := decide_eq_false (by omega)
              have : i = k := by omega
              subst this
              simp -implicitDefEqProofs only [c0, cond_false]
              exact ⟨_, rfl, rfl⟩
          obtain ⟨_, ef, rfl⟩ := fin
          rw [show ((((0 : Nat) : Int) != (0 : Int)) == false) = true from rfl, cond_true]
          cases decide (h.length = s.length) with
          | true =>
            simp -implicitDefEqProofs only [Bool.not_true, Bool.false_and, show (false == true) = false from rfl, cond_false, Option.bind_some]
            rw [ef]
            exact ⟨_, rfl, true, by simp -implicitDefEqProofs only [toBs_ofBs]; rfl⟩
          | false =>
            simp -implicitDefEqProofs only [Bool.not_false, Bool.true_and, beq_self_eq_true, cond_true, Option.bind_some]
            cases (s.length % 4 != 0) with
            | true => exact ⟨_, rfl, false, by rw [if_pos rfl]⟩
            | false =>
              simp -implicitDefEqProofs only [show ((4 : Int) != 0 && true) = true from rfl, cond_true, Option.bind_some, cond_false]
              rw [ef]
              exact ⟨_, rfl, true, by simp -implicitDefEqProofs only [toBs_ofBs]; rfl⟩
        · rw [if_neg hz, ite_self]
          have : (((numL (L.drop (8 * k)) : Nat) : Int) != 0) = true := by simp; omega
          rw [this]
          exact ⟨_, rfl, false, rfl⟩
/-! -/
theorem low_tk (s : Bs) (n : Nat) : lowerB (s.take n) = (lowerB s).take n := by rw [lowerB_map, lowerB_map, List.map_take]
theorem rbegins_eq (s p : Bs) (hs : s.length ≤ 1000) (hp : p.length ≤ 100) : pounceref09_begins_ (Ev.upto 200000) ((s, (p, ())), ()) = some (((lowerB s).take p.length == p, ()), ()) := by
  apply wp_eq
  unfold pounceref09_begins_
  simp -implicitDefEqProofs only []
  by_cases h : p.length ≤ s.length
  · have c0 : (decide ((s.length : Int) ≥ (p.length : Int)) == true) = true := by rw [decide_eq_true (by omega)]; rfl
    have q := sl_nat (l := s) (a := 0) (b := p.length) (by omega) h
    rw [List.drop_zero] at q
    have q' : sl s (0 : Int) (p.length : Int) = some (s.take p.length) := q
    have ql := rlower_eq 200000 (s.take p.length) (by simp; omega) (by simp; omega)
    simp -implicitDefEqProofs only [c0, cond_true, q', ql, Option.bind_some, low_tk]
    exact ⟨_, rfl, rfl⟩
  · have c0 : (decide ((s.length : Int) ≥ (p.length : Int)) == true) = false := by rw [decide_eq_false (by omega)]; rfl
    have : ((lowerB s).take p.length == p) = false := by
      rw [beq_eq_false_iff_ne]
      intro e
      have := congrArg List.length e
      rw [List.length_take, lowerB_length] at this
      omega
    simp -implicitDefEqProofs only [c0, cond_false, this, Option.bind_some]
    exact ⟨_, rfl, rfl⟩
theorem findB_drop (s e : Bs) (i : Nat) (hi : i < s.length) : findB (s.drop i) e = if (s.drop i).take e.length = e then some 0 else (findB (s.drop (i + 1)) e).map (· + 1) := by
  rw [List.drop_eq_getElem_cons hi]
  rw [show findB (s[i] :: s.drop (i + 1)) e = if e.isPrefixOf (s[i] :: s.drop (i + 1)) then some 0 else (findB (s.drop (i + 1)) e).map (· + 1) from rfl]
  by_cases h : (s[i] :: s.drop (i + 1)).take e.length = e
  · rw [if_pos h, if_pos]
    rw [List.isPrefixOf_iff_prefix, List.prefix_iff_eq_take]
    exact h.symm
  · rw [if_neg h, if_neg (show ¬ e.isPrefixOf (s[i] :: s.drop (i + 1)) = true from ?_)]
    rw [List.isPrefixOf_iff_prefix, List.prefix_iff_eq_take]
    exact fun e2 => h e2.symm
theorem rsplit_eq (s e : Bs) (hs : s.length ≤ 1000) (he : e ≠ []) (he2 : e.length ≤ 100) : pounceref09_split_ (Ev.upto 200000) ((s, (e, ())), ()) = some ((match findB s e with | some k => (s.take k, (s.drop (k + e.length), (true, ()))) | none => (s, (([] : Bs), (false, ())))), ()) := by
  apply wp_eq
  unfold pounceref09_split_
  have hep : 0 < e.length := List.length_pos_iff.2 he
  refine wp_bind ?_
  refine wp_for (σ := Unit) (fun i _ => ((s, (e, ((i : Int), ()))), ())) (fun i _ => findB s e = (findB (s.drop i) e).map (· + i)) s.length () rfl (by simp) (by omega) ?_
  rintro i _ hi hn
  have w1 : IntKind.wrap .i64 ((i : Int) + (e.length : Int)) = ((i + e.length : Nat) : Int) := by rw [wrap64 (by omega) (by omega)]; omega
  have w2 : IntKind.wrap .i64 ((i : Int) + 1) = ((i + 1 : Nat) : Int) := by rw [wrap64 (by omega) (by omega)]; omega
  simp -implicitDefEqProofs only [w1]
  by_cases hi' : i + e.length ≤ s.length
  · have c0 : decide (((i + e.length : Nat) : Int) ≤ (s.length : Int)) = true := decide_eq_true (by omega)
    have q := sl_nat (l := s) (a := i) (b := i + e.length) (by omega) hi'
    rw [show (s.take (i + e.length)).drop i = (s.drop i).take e.length by rw [List.take_drop]] at q
    have hd := findB_drop s e i (by omega)
    simp -implicitDefEqProofs only [c0, cond_true, q, Option.bind_some]
    by_cases hc : (s.drop i).take e.length = e
    · rw [if_pos hc] at hd
      rw [hd] at hn
      have hn : findB s e = some i := by rw [hn]; simp
      have q3 := sl_nat (l := s) (a := 0) (b := i) (by omega) hi
      rw [List.drop_zero] at q3
      have q3' : sl s (0 : Int) (i : Int) = some (s.take i) := q3
      have q4 := sl_end (l := s) (a := i + e.length) hi'
      rw [show ((s.drop i).take e.length == e) = true from by simpa using hc]
      simp -implicitDefEqProofs only [cond_true, q3', q4, Option.bind_some]
      exact ⟨_, rfl, _, rfl, by rw [hn]⟩
    · rw [if_neg hc] at hd
      rw [show ((s.drop i).take e.length == e) = false from by simpa using hc]
      simp -implicitDefEqProofs only [cond_false, w2]
      refine ⟨_, rfl, by omega, (), rfl, ?_⟩
      rw [hn, hd, Option.map_map]
      congr 1
      funext n
      simp only [Function.comp]
      omega
  · have c0 : decide (((i + e.length : Nat) : Int) ≤ (s.length : Int)) = false := decide_eq_false (by omega)
    have : findB s e = none := by rw [hn, findB_short _ _ (by simp; omega)]; rfl
    simp -implicitDefEqProofs only [c0, cond_false]
    exact ⟨_, rfl, _, rfl, by rw [this]⟩
def notC (c : UInt8) (x : UInt8) : Bool := !(x == c)
theorem rCut_eq (s : Bs) (c : UInt8) (hs : s.length ≤ 1000) : pounceref05_Cut_ (Ev.upto 200000) ((s, (([c] : Bs), ())), ()) = some ((s.takeWhile (notC c), (s.dropWhile (notC c), ())), ()) := by
  apply wp_eq
  unfold pounceref05_Cut_
  have wc1 : IntKind.wrap .i64 ((0 : Int) + (1 : Int)) = 1 := rfl
  have ic0 : idx ([c] : Bs) (0 : Int) = some c := rfl
  have e0 : ((([c] : Bs).length : Nat) : Int) = 1 := rfl
  refine wp_bind ?_
  refine wp_for (σ := Unit) (fun i _ => ((s, (([c] : Bs), ((i : Int), ()))), ())) (fun i _ => (s.take i).all (notC c) = true) s.length () rfl (by simp) (by omega) ?_
  rintro i _ hi hn
  by_cases hi' : i < s.length
  · have c0 : decide ((i : Int) < (s.length : Int)) = true := decide_eq_true (by omega)
    have w2 : IntKind.wrap .i64 ((i : Int) + 1) = ((i + 1 : Nat) : Int) := by rw [wrap64 (by omega) (by omega)]; omega
    have hb : (((s[i].toNat : Nat) : Int) == ((c.toNat : Nat) : Int)) = (s[i] == c) := by
      by_cases hq : s[i] = c
      · rw [hq]; simp
      · rw [show (s[i] == c) = false from by simpa using hq, beq_eq_false_iff_ne]
        intro e
        exact hq (UInt8.toNat_inj.1 (by omega))
    simp -implicitDefEqProofs only [c0, cond_true]
    refine wp_bind ?_
    by_cases hq : s[i] = c
    · have e1 : s = s.take i ++ c :: s.drop (i + 1) := by
        conv => lhs; rw [← List.take_append_drop i s, List.drop_eq_getElem_cons hi', hq]
      have hal : ∀ x ∈ s.take i, notC c x = true := List.all_eq_true.1 hn
      have ht : s.takeWhile (notC c) = s.take i := by
        conv => lhs; rw [e1]
        rw [List.takeWhile_append_of_pos hal, List.takeWhile_cons, if_neg (by simp [notC]), List.append_nil]
      have hd : s.dropWhile (notC c) = s.drop i := by
        conv => lhs; rw [e1]
        rw [List.dropWhile_append_of_pos hal, List.dropWhile_cons, if_neg (by simp [notC]), List.drop_eq_getElem_cons hi', hq]
      have q3 := sl_nat (l := s) (a := 0) (b := i) (by omega) hi
      rw [List.drop_zero] at q3
      have q3' : sl s (0 : Int) (i : Int) = some (s.take i) := q3
      have q4 := sl_end (l := s) (a := i) hi
      refine ⟨.inr ((s.take i, (s.drop i, ())), ()), ?_, ?_⟩
      · obtain ⟨n, hnn⟩ : ∃ n, 200000 = n + 1 := ⟨199999, rfl⟩
        rw [hnn, upto_it]
        unfold iterN
        simp -implicitDefEqProofs only [show decide ((0 : Int) < (([c] : Bs).length : Int)) = true from rfl, cond_true, idx_nat hi', ic0, Option.bind_some, hb, hq, beq_self_eq_true, q3', q4]
      · refine ⟨_, rfl, _, rfl, ?_⟩
        rw [ht, hd]
    · have hb' : (s[i] == c) = false := by simpa using hq
      refine ⟨.inl ((s, (([c] : Bs), ((i : Int), ()))), ()), ?_, ?_⟩
      · obtain ⟨n, hnn⟩ : ∃ n, 200000 = n + 2 := ⟨199998, rfl⟩
        rw [hnn, upto_it]
        unfold iterN
        simp -implicitDefEqProofs only [show decide ((0 : Int) < (([c] : Bs).length : Int)) = true from rfl, cond_true, idx_nat hi', ic0, Option.bind_some, hb, hb', cond_false, wc1]
        unfold iterN
        simp -implicitDefEqProofs only [show decide ((1 : Int) < (([c] : Bs).length : Int)) = false from rfl, cond_false]
        rfl
      · simp -implicitDefEqProofs only [w2]
        exact ⟨_, rfl, hi', (), rfl, by rw [all_take hi', hn]; simp [notC, hq]⟩
  · have c0 : decide ((i : Int) < (s.length : Int)) = false := decide_eq_false (by omega)
    rw [List.take_of_length_le (by omega)] at hn
    simp -implicitDefEqProofs only [c0, cond_false]
    refine ⟨_, rfl, _, rfl, ?_⟩
    have hal := List.all_eq_true.1 hn
    have h1 : s.takeWhile (notC c) = s := by
      have e := List.takeWhile_append_of_pos (l₂ := []) hal
      simpa using e
    rw [h1, dw_nil.2 hal]
def rportV (n : Bs) : Int := match portS n with | some p => if p > 65535 then -2 else p | none => -2
theorem rportP_eq (n : Bs) : pounceref09_port_ (Ev.upto 200000) ((n, ()), ()) = some ((rportV n, ()), ()) := by
  apply wp_eq
  unfold pounceref09_port_ rportV portS
  by_cases h42 : n = [42]
  · subst h42
    exact ⟨_, rfl, rfl⟩
  rw [if_neg h42, show (n == ([42] : Bs)) = false from by simpa using h42]
  simp -implicitDefEqProofs only [cond_false]
  by_cases h0 : n = []
  · subst h0
    exact ⟨_, rfl, rfl⟩
  have hl : 0 < n.length := List.length_pos_iff.2 h0
  rw [decide_eq_false (show ¬ (n.length : Int) < 1 by omega)]
  simp -implicitDefEqProofs only [beq_self_eq_true, cond_true, Option.bind_some]
  by_cases h5 : n.length ≤ 5
  · rw [decide_eq_false (show ¬ (n.length : Int) > 5 by omega)]
    simp -implicitDefEqProofs only [cond_false]
    refine wp_bind ?_
    refine wp_for (σ := Unit) (fun i _ => ((n, (((digV (n.take i) : Nat) : Int), ((i : Int), ()))), ())) (fun i _ => allDig (n.take i) = true) n.length () rfl rfl (by omega) ?_
    rintro i _ hi hn
    by_cases hi' : i < n.length
    · have c0 : decide ((i : Int) < (n.length : Int)) = true := decide_eq_true (by omega)
      have hdg : digC n[i] = (!decide (((n[i].toNat : Nat) : Int) < 48) && !decide (((n[i].toNat : Nat) : Int) > 57)) := by
        unfold digC
        by_cases a1 : 48 ≤ n[i].toNat
        · by_cases a2 : n[i].toNat ≤ 57
          · rw [decide_eq_true a1, decide_eq_true a2, decide_eq_false (by omega), decide_eq_false (by omega)]; rfl
          · rw [decide_eq_true a1, decide_eq_false a2, decide_eq_false (by omega), decide_eq_true (by omega)]; rfl
        · rw [decide_eq_false a1, Bool.false_and, decide_eq_true (show ((n[i].toNat : Nat) : Int) < 48 by omega)]; rfl
      have ht : allDig (n.take (i + 1)) = (allDig (n.take i) && digC n[i]) := all_take hi'
      have no : digC n[i] = false → allDig n = false := fun h => all_no hi' h
      have w4 : IntKind.wrap .i64 ((i : Int) + 1) = ((i + 1 : Nat) : Int) := by rw [wrap64 (by omega) (by omega)]; omega
      simp -implicitDefEqProofs only [c0, cond_true, idx_nat hi', Option.bind_some]
      cases c1 : decide (((n[i].toNat : Nat) : Int) < 48) with
      | true =>
        rw [c1] at hdg
        have := no (by rw [hdg]; rfl)
        refine ⟨_, rfl, _, rfl, ?_⟩
        rw [this, if_neg (by simp)]
      | false =>
        cases c2 : decide (((n[i].toNat : Nat) : Int) > 57) with
        | true =>
          rw [c1, c2] at hdg
          have := no (by rw [hdg]; rfl)
          refine ⟨_, rfl, _, rfl, ?_⟩
          rw [this, if_neg (by simp)]
        | false =>
          rw [c1, c2] at hdg
          have a1 := of_decide_eq_false c1
          have a2 := of_decide_eq_false c2
          have hlt : digV (n.take i) < 100000 := by
            have := digV_lt _ hn
            have h2 : (n.take i).length ≤ 5 := by simp; omega
            have h3 : 10 ^ (n.take i).length ≤ 10 ^ 5 := Nat.pow_le_pow_right (by decide) h2
            omega
          have w8 : IntKind.wrap .u8 (((n[i].toNat : Nat) : Int) - 48) = ((n[i].toNat - 48 : Nat) : Int) := by rw [wrapu8 (by omega) (by omega)]; omega
          have w1 : IntKind.wrap .i64 ((10 : Int) * ((digV (n.take i) : Nat) : Int)) = ((digV (n.take i) * 10 : Nat) : Int) := by rw [wrap64 (by omega) (by omega)]; omega
          have w2 : IntKind.wrap .i64 ((n[i].toNat - 48 : Nat) : Int) = ((n[i].toNat - 48 : Nat) : Int) := wrap64 (by omega) (by omega)
          have w3 : IntKind.wrap .i64 (((digV (n.take i) * 10 : Nat) : Int) + ((n[i].toNat - 48 : Nat) : Int)) = ((digV (n.take (i + 1)) : Nat) : Int) := by
            rw [List.take_succ_eq_append_getElem hi', digV_snoc, wrap64 (by omega) (by omega)]; omega
          simp -implicitDefEqProofs only [beq_self_eq_true, cond_true, cond_false, idx_nat hi', Option.bind_some, w8, w1, w2, w3, w4]
          exact ⟨_, rfl, hi', (), rfl, by rw [ht, hn, hdg]; rfl⟩
    · have c0 : decide ((i : Int) < (n.length : Int)) = false := decide_eq_false (by omega)
      have ht : n.take i = n := List.take_of_length_le (by omega)
      rw [ht] at hn
      simp -implicitDefEqProofs only [c0, cond_false, ht]
      refine ⟨_, rfl, ?_⟩
      simp -implicitDefEqProofs only []
      by_cases hz : digV n = 0
      · rw [hz, if_neg (by omega)]
        exact ⟨_, rfl, rfl⟩
      · rw [if_pos ⟨h0, h5, hn, by omega⟩]
        have : (((digV n : Nat) : Int) == 0) = false := by rw [beq_eq_false_iff_ne]; omega
        rw [this]
        simp -implicitDefEqProofs only [beq_self_eq_true, cond_true, Option.bind_some]
        by_cases hb : ((digV n : Nat) : Int) > 65535
        · rw [decide_eq_true hb, if_pos hb]; exact ⟨_, rfl, rfl⟩
        · rw [decide_eq_false hb, if_neg hb]; exact ⟨_, rfl, rfl⟩
  · rw [decide_eq_true (show (n.length : Int) > 5 by omega), if_neg (by omega)]
    exact ⟨_, rfl, rfl⟩
theorem kfold_T9 (low : Bs) : kfold low 9 = bif low == keptW 1 then 1 else bif low == keptW 2 then 2 else bif low == keptW 3 then 3 else bif low == keptW 4 then 4 else bif low == keptW 5 then 5 else bif low == keptW 6 then 6 else bif low == keptW 7 then 7 else bif low == keptW 8 then 8 else 0 := by
  by_cases h1 : low = keptW 1
  · subst h1; kernel_rfl
  by_cases h2 : low = keptW 2
  · subst h2; kernel_rfl
  by_cases h3 : low = keptW 3
  · subst h3; kernel_rfl
  by_cases h4 : low = keptW 4
  · subst h4; kernel_rfl
  by_cases h5 : low = keptW 5
  · subst h5; kernel_rfl
  by_cases h6 : low = keptW 6
  · subst h6; kernel_rfl
  by_cases h7 : low = keptW 7
  · subst h7; kernel_rfl
  by_cases h8 : low = keptW 8
  · subst h8; kernel_rfl
  have e : ∀ k, low ≠ keptW k → (low == keptW k) = false := fun k h => by simpa using h
  rw [e 1 h1, e 2 h2, e 3 h3, e 4 h4, e 5 h5, e 6 h6, e 7 h7, e 8 h8]
  have f : ∀ k, low ≠ keptW k → ¬ (keptW k == low) = true := fun k h => by simpa using fun e => h e.symm
  show (if (keptW 8 == low) = true then _ else (if (keptW 7 == low) = true then _ else (if (keptW 6 == low) = true then _ else (if (keptW 5 == low) = true then _ else (if (keptW 4 == low) = true then _ else (if (keptW 3 == low) = true then _ else (if (keptW 2 == low) = true then _ else (if (keptW 1 == low) = true then _ else (if (([] : Bs) == low) = true then (((0 : Nat) : Int)) else 0))))))))) = _
  rw [if_neg (f 1 h1), if_neg (f 2 h2), if_neg (f 3 h3), if_neg (f 4 h4), if_neg (f 5 h5), if_neg (f 6 h6), if_neg (f 7 h7), if_neg (f 8 h8)]
  rw [show (((0 : Nat) : Int)) = 0 from rfl, ite_self]
  rfl
theorem rquoted_eq (w : Bs) (hw : w.length ≤ 1000) (h2 : w ≠ []) (hq : w.getLast? = some 39) : pounceref09_quoted_ (Ev.upto 200000) ((w, ()), ()) = some ((quoS w, ()), ()) := by
  have hp : 0 < w.length := List.length_pos_iff.2 h2
  have ql := rlower_eq 200000 w (by omega) (by omega)
  have q1 := rbegins_eq w [39, 110, 111, 110, 99, 101, 45] hw (by decide)
  have q2 := rbegins_eq w [39, 109, 97, 114, 107, 45] hw (by decide)
  have kk : ∀ k : Int, 1 ≤ k → k ≤ 8 → keptO k = keptW k := fun k a b => by
    unfold keptO keptB
    rw [decide_eq_true a, decide_eq_true b]; rfl
  have qk : ∀ k : Int, 1 ≤ k → k ≤ 8 → pounceref09_Kept_ (Ev.upto 200000) ((k, ()), ()) = some ((keptW k, ()), ()) := fun k a b => by
    rw [rkept_eq, kk k a b]
  have long : ∀ p : Bs, (lowerB w).take p.length = p → p.getLast? ≠ some 39 → p ≠ [] → p.length ≤ w.dropLast.length := fun p hp2 hp3 hp4 => by
    have hl : p.length ≤ w.length := by
      have := congrArg List.length hp2
      rw [List.length_take, lowerB_length] at this
      omega
    rw [List.length_dropLast]
    rcases Nat.lt_or_ge p.length w.length with h | h
    · omega
    · exfalso
      apply hp3
      rw [← hp2, List.take_of_length_le (by rw [lowerB_length]; omega), lowerB_map, List.getLast?_map, hq]
      rfl
  have slD : ∀ n : Nat, n ≤ w.dropLast.length → sl w (n : Int) (IntKind.wrap .i64 ((w.length : Int) - (1 : Int))) = some (w.dropLast.drop n) := fun n hn => by
    rw [List.length_dropLast] at hn
    rw [wrap64 (by omega) (by omega), show ((w.length : Int) - 1) = ((w.length - 1 : Nat) : Int) by omega, sl_nat hn (by omega), List.dropLast_eq_take]
  apply wp_eq
  unfold pounceref09_quoted_ quoS
  simp -implicitDefEqProofs only [q1, Option.bind_some]
  rw [show ([39, 110, 111, 110, 99, 101, 45] : Bs).length = 7 from rfl]
  by_cases h7 : (lowerB w).take 7 = [39, 110, 111, 110, 99, 101, 45]
  · have s7 : sl w (7 : Int) (IntKind.wrap .i64 ((w.length : Int) - (1 : Int))) = some (w.dropLast.drop 7) := slD 7 (long [39, 110, 111, 110, 99, 101, 45] h7 (by decide) (by simp))
    rw [if_pos h7, show ((lowerB w).take 7 == ([39, 110, 111, 110, 99, 101, 45] : Bs)) = true from by simpa using h7]
    simp -implicitDefEqProofs only [cond_true, s7, Option.bind_some]
    exact ⟨_, rfl, rfl⟩
  · rw [if_neg h7, show ((lowerB w).take 7 == ([39, 110, 111, 110, 99, 101, 45] : Bs)) = false from by simpa using h7]
    simp -implicitDefEqProofs only [cond_false, q2, Option.bind_some]
    rw [show ([39, 109, 97, 114, 107, 45] : Bs).length = 6 from rfl]
    by_cases h6 : (lowerB w).take 6 = [39, 109, 97, 114, 107, 45]
    · have s6 : sl w (6 : Int) (IntKind.wrap .i64 ((w.length : Int) - (1 : Int))) = some (w.dropLast.drop 6) := slD 6 (long [39, 109, 97, 114, 107, 45] h6 (by decide) (by simp))
      obtain ⟨_, qd, b, rfl⟩ := rDecode_eq (w.dropLast.drop 6) (by simp; omega)
      rw [if_pos h6, show ((lowerB w).take 6 == ([39, 109, 97, 114, 107, 45] : Bs)) = true from by simpa using h6]
      simp -implicitDefEqProofs only [cond_true, s6, Option.bind_some, qd]
      exact ⟨_, rfl, rfl⟩
    · rw [if_neg h6, show ((lowerB w).take 6 == ([39, 109, 97, 114, 107, 45] : Bs)) = false from by simpa using h6]
      simp -implicitDefEqProofs only [cond_false, ql, Option.bind_some, qk 1 (by decide) (by decide), qk 2 (by decide) (by decide), qk 3 (by decide) (by decide), qk 4 (by decide) (by decide), qk 5 (by decide) (by decide), qk 6 (by decide) (by decide), qk 7 (by decide) (by decide), qk 8 (by decide) (by decide)]
      rw [kfold_T9]
      generalize lowerB w = low
      cases (low == keptW 1) with
      | true => exact ⟨_, rfl, rfl⟩
      | false =>
      cases (low == keptW 2) with
      | true => exact ⟨_, rfl, rfl⟩
      | false =>
      cases (low == keptW 3) with
      | true => exact ⟨_, rfl, rfl⟩
      | false =>
      cases (low == keptW 4) with
      | true => exact ⟨_, rfl, rfl⟩
      | false =>
      cases (low == keptW 5) with
      | true => exact ⟨_, rfl, rfl⟩
      | false =>
      cases (low == keptW 6) with
      | true => exact ⟨_, rfl, rfl⟩
      | false =>
      cases (low == keptW 7) with
      | true => exact ⟨_, rfl, rfl⟩
      | false =>
      cases (low == keptW 8) <;> exact ⟨_, rfl, rfl⟩
/-! -/
noncomputable def finR (s : Src) (ok : Bool) : Src × Bool := if ok = true then (if rightB s = true then (s, true) else (zS, false)) else (zS, false)
noncomputable def finO (o : Option Src) : Src × Bool := match o with | some s => finR s true | none => (zS, false)
theorem parR_fin (w : Bs) : parR w = finO (parP w) := by
  unfold parR finO finR
  cases parP w with
  | none => rfl
  | some s => simp only [if_true]
theorem finR_no (s : Src) : finR s false = (zS, false) := by unfold finR; rw [if_neg (by decide)]
theorem badP (tx sc ho : Bs) (wi : Bool) (po : Int) (pa : Bs) (h : ¬ (-1 ≤ po ∧ po ≤ 65535)) (ok : Bool) : finR (12, (tx, (sc, (ho, (wi, (po, pa)))))) ok = (zS, false) := by
  have : rightB (12, (tx, (sc, (ho, (wi, (po, pa)))))) = false := by
    show hostS (12, (tx, (sc, (ho, (wi, (po, pa)))))) = false
    unfold hostS
    have hz : (decide (po ≥ -1) && (decide (po ≤ 65535) && pathB pa)) = false := by
      by_cases a : -1 ≤ po
      · rw [decide_eq_false (show ¬ po ≤ 65535 from fun b => h ⟨a, b⟩)]; cases decide (po ≥ -1) <;> rfl
      · rw [decide_eq_false (show ¬ po ≥ -1 from a)]; rfl
    rw [hz]
    simp only [Bool.and_false]
  unfold finR
  rw [this]
  cases ok <;> rfl
theorem cut_find (c : UInt8) : ∀ f : Bs, match findB f [c] with | some k => f.takeWhile (notC c) = f.take k ∧ f.dropWhile (notC c) = c :: f.drop (k + 1) ∧ k < f.length | none => f.takeWhile (notC c) = f ∧ f.dropWhile (notC c) = []
  | [] => ⟨rfl, rfl⟩
  | x :: r => by
    rw [show findB (x :: r) [c] = if ([c] : Bs).isPrefixOf (x :: r) then some 0 else (findB r [c]).map (· + 1) from rfl]
    have hpre : ([c] : Bs).isPrefixOf (x :: r) = (c == x) := by
      show (c == x && ([] : Bs).isPrefixOf r) = _
      rw [show ([] : Bs).isPrefixOf r = true from by cases r <;> rfl, Bool.and_true]
    rw [hpre]
    by_cases h : x = c
    · subst h
      rw [beq_self_eq_true, if_pos rfl, List.takeWhile_cons, if_neg (by simp [notC]), List.dropWhile_cons, if_neg (by simp [notC])]
      exact ⟨rfl, rfl, by simp⟩
    · have h1 : (c == x) = false := by simpa using fun e => h e.symm
      have h2 : notC c x = true := by simpa [notC] using h
      rw [h1, if_neg (by decide), List.takeWhile_cons, if_pos h2, List.dropWhile_cons, if_pos h2]
      have ih := cut_find c r
      cases hf : findB r [c] with
      | none => rw [hf] at ih; exact ⟨by rw [ih.1], ih.2⟩
      | some k => rw [hf] at ih; exact ⟨by rw [ih.1]; rfl, ih.2.1, by simp; exact ih.2.2⟩
theorem rhost_tail (sc r : Bs) (R Z : Src) (hR : R = ((12 : Int), (([] : Bs), (sc, (([] : Bs), (false, ((0 : Int), ([] : Bs)))))))) (hr : r.length ≤ 1000) (hsc : sc.length ≤ 1000) :
    wp (((pounceref05_Cut_ (Ev.upto 200000) ((r, (([47] : Bs), ())), ())).bind fun v9 => ((pounceref05_Cut_ (Ev.upto 200000) ((v9.1.1, (([58] : Bs), ())), ())).bind fun v10 => ((bif (!(v10.1.2.1 == ([] : Bs))) then ((sl v10.1.2.1 (1 : Int) ((v10.1.2.1).length : Int)).bind fun v11 => ((pounceref09_port_ (Ev.upto 200000) ((v11, ()), ())).bind fun v12 => (some ((v10.1.1, ()), ((Z, ()), (((R.1, (R.2.1, (R.2.2.1, (R.2.2.2.1, (R.2.2.2.2.1, (v12.1.1, v9.1.2.1)))))), ()), ())))))) else (some ((v10.1.1, ()), ((Z, ()), (((R.1, (R.2.1, (R.2.2.1, (R.2.2.2.1, (R.2.2.2.2.1, (R.2.2.2.2.2.1, v9.1.2.1)))))), ()), ()))))).bind fun o13 => ((pounceref02_Lower_ (Ev.upto 200000) ((o13.1.1, ()), ())).bind fun v14 => ((bif (o13.1.1 == ([42] : Bs)) then (some ((o13.1.1, ()), ((o13.2.1.1, ()), (((o13.2.2.1.1.1, (o13.2.2.1.1.2.1, (o13.2.2.1.1.2.2.1, (([] : Bs), (true, o13.2.2.1.1.2.2.2.2.2))))), ()), ())))) else (some ((o13.1.1, ()), ((o13.2.1.1, ()), (((o13.2.2.1.1.1, (o13.2.2.1.1.2.1, (o13.2.2.1.1.2.2.1, (v14.1.1, o13.2.2.1.1.2.2.2.2)))), ()), ()))))).bind fun o15 => ((pounceref09_begins_ (Ev.upto 200000) ((o15.1.1, (([42, 46] : Bs), ())), ())).bind fun v16 => (bif v16.1.1 then ((sl o15.1.1 (2 : Int) ((o15.1.1).length : Int)).bind fun v17 => ((pounceref02_Lower_ (Ev.upto 200000) ((v17, ()), ())).bind fun v18 => (some (((o15.2.2.1.1.1, (o15.2.2.1.1.2.1, (o15.2.2.1.1.2.2.1, (v18.1.1, (true, o15.2.2.1.1.2.2.2.2.2))))), (decide (((o15.1.1).length : Int) > (2 : Int)), ())), ())))) else (some ((o15.2.2.1.1, (true, ())), ())))))))))) (fun o => ∃ s ok, o = ((s, (ok, ())), ()) ∧ smallQ s ∧ finR s ok = finO (hostR sc r)) := by
  subst hR
  have hfl : (r.takeWhile (notC 47)).length ≤ r.length := (List.takeWhile_prefix _).length_le
  have hpl : (r.dropWhile (notC 47)).length ≤ r.length := (List.dropWhile_suffix _).length_le
  have q1 := rCut_eq r 47 hr
  have q2 := rCut_eq (r.takeWhile (notC 47)) 58 (by omega)
  simp -implicitDefEqProofs only [q1, q2, Option.bind_some]
  unfold hostR
  rw [show notSl = notC 47 from rfl]
  generalize hf : r.takeWhile (notC 47) = f at *
  generalize hp : r.dropWhile (notC 47) = pa at *
  refine wp_seq (fun o => ∃ po : Int, o = (((numR f).1, ()), ((Z, ()), ((((12 : Int), (([] : Bs), (sc, (([] : Bs), (false, (po, pa)))))), ()), ()))) ∧ (match (numR f).2 with | some p => po = if p > 65535 then -2 else p | none => po = -2) ∧ (numR f).1.length ≤ 1000) ?_ ?_
  · have hc := cut_find 58 f
    unfold numR
    cases hb : findB f [58] with
    | none =>
      rw [hb] at hc
      rw [hc.2, hc.1]
      exact ⟨_, rfl, 0, rfl, rfl, by show f.length ≤ 1000; omega⟩
    | some k =>
      rw [hb] at hc
      obtain ⟨h1, h2, h3⟩ := hc
      rw [h1, h2]
      have q3 : sl ((58 : UInt8) :: f.drop (k + 1)) (1 : Int) ((((58 : UInt8) :: f.drop (k + 1)).length : Nat) : Int) = some (f.drop (k + 1)) := sl_end (l := (58 : UInt8) :: f.drop (k + 1)) (a := 1) (by simp)
      simp -implicitDefEqProofs only [show (!(((58 : UInt8) :: f.drop (k + 1)) == ([] : Bs))) = true from rfl, cond_true, q3, Option.bind_some, rportP_eq (f.drop (k + 1))]
      refine ⟨_, rfl, rportV (f.drop (k + 1)), rfl, ?_, by simp; omega⟩
      unfold rportV
      cases portS (f.drop (k + 1)) <;> rfl
  · rintro _ ⟨po, rfl, hpo, hnl⟩
    generalize (numR f).1 = n at *
    have q4 := rlower_eq 200000 n (by omega) (by omega)
    have q5 := rbegins_eq n [42, 46] hnl (by decide)
    simp -implicitDefEqProofs only [q4, Option.bind_some]
    have key : wp ((bif (n == ([42] : Bs)) then (some ((n, ()), ((Z, ()), ((((12 : Int), (([] : Bs), (sc, (([] : Bs), (true, (po, pa)))))), ()), ())))) else (some ((n, ()), ((Z, ()), ((((12 : Int), (([] : Bs), (sc, ((lowerB n), (false, (po, pa)))))), ()), ())))) : Option ((Bs × Unit) × ((Src × Unit) × ((Src × Unit) × Unit))))) (fun o => o = ((n, ()), ((Z, ()), ((((12 : Int), (([] : Bs), (sc, ((bif n == ([42] : Bs) then [] else lowerB n), ((n == ([42] : Bs)), (po, pa)))))), ()), ())))) := by
      cases (n == ([42] : Bs)) <;> exact ⟨_, rfl, rfl⟩
    refine wp_seq _ key ?_
    rintro _ rfl
    simp -implicitDefEqProofs only [q5, Option.bind_some]
    rw [show ([42, 46] : Bs).length = 2 from rfl]

    have fin : ∀ x : Option (Bool × Bs), starR n = x → finO (match (numR f).2 with | none => none | some p => match starR n with | none => none | some x => some ((12 : Int), (([] : Bs), (sc, (x.2, (x.1, (p, pa))))))) = match x with | none => (zS, false) | some x => finR (12, (([] : Bs), (sc, (x.2, (x.1, (po, pa)))))) true := by
      rintro x rfl
      cases hq : (numR f).2 with
      | none =>
        rw [hq] at hpo
        have hpo : po = -2 := hpo
        subst hpo
        cases starR n with
        | none => rfl
        | some x => exact (badP _ _ _ _ _ _ (by omega) _).symm
      | some p =>
        rw [hq] at hpo
        have hpo : po = if p > 65535 then -2 else p := hpo
        by_cases hb : p > 65535
        · rw [if_pos hb] at hpo
          subst hpo
          cases starR n with
          | none => rfl
          | some x =>
            show finR _ true = finR _ true
            rw [badP _ _ _ _ _ _ (by omega), badP _ _ _ _ _ _ (by omega)]
        · rw [if_neg hb] at hpo
          subst hpo
          cases starR n <;> rfl
    by_cases h42 : n = [42]
    · subst h42
      have hs : starR [42] = some (true, []) := rfl
      rw [show ((lowerB [42]).take 2 == ([42, 46] : Bs)) = false from by kernel_rfl]
      refine ⟨_, rfl, _, _, rfl, ⟨by simp, hsc, by simp, by show pa.length ≤ 1000; omega⟩, (fin _ hs).symm⟩
    · have e42 : (n == ([42] : Bs)) = false := by simpa using h42
      rw [e42]
      by_cases h2 : (lowerB n).take 2 = [42, 46]
      · have hl2 : 2 ≤ n.length := by
          have := congrArg List.length h2
          rw [List.length_take, lowerB_length] at this
          simp at this
          omega
        have q6 : sl n (2 : Int) ((n.length : Nat) : Int) = some (n.drop 2) := sl_end (l := n) (a := 2) hl2
        have q7 := rlower_eq 200000 (n.drop 2) (by simp; omega) (by simp; omega)
        have hld : lowerB (n.drop 2) = (lowerB n).drop 2 := by rw [lowerB_map, lowerB_map, List.map_drop]
        rw [show ((lowerB n).take 2 == ([42, 46] : Bs)) = true from by simpa using h2]
        simp -implicitDefEqProofs only [cond_true, q6, q7, Option.bind_some, hld]
        have hdl : ((lowerB n).drop 2).length ≤ 1000 := by rw [List.length_drop, lowerB_length]; omega
        by_cases h0 : (lowerB n).drop 2 = []
        · have hs : starR n = none := by unfold starR; rw [if_neg h42, if_pos h2, if_pos h0]
          have : n.length = 2 := by
            have := congrArg List.length h0
            rw [List.length_drop, lowerB_length] at this
            simp at this
            omega
          rw [decide_eq_false (show ¬ (n.length : Int) > 2 by omega)]
          refine ⟨_, rfl, _, _, rfl, ⟨by simp, hsc, by exact hdl, by show pa.length ≤ 1000; omega⟩, (finR_no _).trans (fin _ hs).symm⟩
        · have hs : starR n = some (true, (lowerB n).drop 2) := by unfold starR; rw [if_neg h42, if_pos h2, if_neg h0]
          have : n.length ≠ 2 := by
            intro e
            apply h0
            apply List.drop_eq_nil_of_le
            rw [lowerB_length]; omega
          rw [decide_eq_true (show (n.length : Int) > 2 by omega)]
          refine ⟨_, rfl, _, _, rfl, ⟨by simp, hsc, by exact hdl, by show pa.length ≤ 1000; omega⟩, (fin _ hs).symm⟩
      · have hs : starR n = some (false, lowerB n) := by unfold starR; rw [if_neg h42, if_neg h2]
        rw [show ((lowerB n).take 2 == ([42, 46] : Bs)) = false from by simpa using h2]
        refine ⟨_, rfl, _, _, rfl, ⟨by simp, hsc, by show (lowerB n).length ≤ 1000; rw [lowerB_length]; exact hnl, by show pa.length ≤ 1000; omega⟩, (fin _ hs).symm⟩
theorem rplain_ok (w : Bs) (hw : w.length ≤ 1000) (h0 : w ≠ []) : wp (pounceref09_plain_ (Ev.upto 200000) ((w, ()), ())) (fun o => ∃ s ok, o = ((s, (ok, ())), ()) ∧ smallQ s ∧ finR s ok = finO (if lastC w = 58 then some (11, (([] : Bs), (lowerB w.dropLast, zS.2.2.2))) else hostP w)) := by
  have hp : 0 < w.length := List.length_pos_iff.2 h0
  have w1 : IntKind.wrap .i64 ((w.length : Int) - 1) = ((w.length - 1 : Nat) : Int) := by rw [wrap64 (by omega) (by omega)]; omega
  have iL : idx w ((w.length - 1 : Nat) : Int) = some (lastC w) := by
    rw [idx_nat (by omega)]
    unfold lastC
    rw [List.getLast?_eq_getElem?, List.getElem?_eq_getElem (by omega)]
    rfl
  have e58 : (((lastC w).toNat : Int) == 58) = (lastC w == 58) := byteZ _ 58 (by decide)
  have qd := dropLast_sl h0 (by omega)
  rw [w1] at qd
  unfold pounceref09_plain_
  simp -implicitDefEqProofs only [w1, iL, Option.bind_some, e58]
  by_cases h58 : lastC w = 58
  · rw [if_pos h58, show (lastC w == 58) = true from by simpa using h58]
    have ql := rlower_eq 200000 w.dropLast (by simp; omega) (by simp; omega)
    simp -implicitDefEqProofs only [cond_true, qd, ql, Option.bind_some]
    exact ⟨_, rfl, _, _, rfl, ⟨by simp, by show (lowerB w.dropLast).length ≤ 1000; rw [lowerB_length]; simp; omega, by simp, by simp⟩, rfl⟩
  · rw [if_neg h58, show (lastC w == 58) = false from by simpa using h58]
    have qs := rsplit_eq w [58, 47, 47] hw (by simp) (by decide)
    simp -implicitDefEqProofs only [cond_false, qs, Option.bind_some]
    unfold hostP schR
    cases hf : findB w [58, 47, 47] with
    | none =>
      exact rhost_tail [] w _ _ rfl hw (by simp)
    | some k =>
      have hk := (findB_some _ _ _ hf).1
      rw [show ([58, 47, 47] : Bs).length = 3 from rfl] at hk
      have ql := rlower_eq 200000 (w.take k) (by simp; omega) (by simp; omega)
      simp -implicitDefEqProofs only [cond_true, ql, Option.bind_some]
      by_cases hz : k = 0
      · subst hz
        rw [if_pos rfl]
        exact ⟨_, rfl, _, _, rfl, ⟨by simp, by simp [lowerB, toBs, ofBs], by simp, by simp⟩, finR_no _⟩
      · rw [if_neg hz]
        have : (w.take k == ([] : Bs)) = false := by
          rw [beq_eq_false_iff_ne]
          intro e
          have := congrArg List.length e
          rw [List.length_take, Nat.min_eq_left (by omega)] at this
          exact hz this
        rw [this]
        exact rhost_tail (lowerB (w.take k)) (w.drop (k + 3)) _ _ rfl (by simp; omega) (by rw [lowerB_length]; simp; omega)
theorem rParse_eq (w : Bs) (hw : w.length ≤ 1000) : pounceref09_Parse_ (Ev.upto 200000) ((w, ()), ()) = some (((parR w).1, ((parR w).2, ())), ()) := by
  apply wp_eq
  rw [parR_fin]
  unfold pounceref09_Parse_ parP
  by_cases h0 : w = []
  · subst h0
    rw [if_pos rfl]
    exact ⟨_, rfl, rfl⟩
  have c0 : (w == ([] : Bs)) = false := by simpa using h0
  have hp : 0 < w.length := List.length_pos_iff.2 h0
  rw [if_neg h0]
  have w1 : IntKind.wrap .i64 ((w.length : Int) - 1) = ((w.length - 1 : Nat) : Int) := by rw [wrap64 (by omega) (by omega)]; omega
  have iF : idx w (0 : Int) = some (firstC w) := by
    cases w with
    | nil => exact absurd rfl h0
    | cons c r => rfl
  have iL : idx w ((w.length - 1 : Nat) : Int) = some (lastC w) := by
    rw [idx_nat (by omega)]
    unfold lastC
    rw [List.getLast?_eq_getElem?, List.getElem?_eq_getElem (by omega)]
    rfl
  have eF : (((firstC w).toNat : Int) == 39) = (firstC w == 39) := byteZ _ 39 (by decide)
  have eL : (((lastC w).toNat : Int) == 39) = (lastC w == 39) := byteZ _ 39 (by decide)
  simp -implicitDefEqProofs only [c0, cond_false, w1, iF, Option.bind_some, eF]
  refine wp_seq (fun o => o = ((w, (true, (qtB w, ()))), ((zS, ()), ((zS, ()), ())))) ?_ ?_
  · unfold qtB
    rw [show decide ((w.length : Int) > 1) = decide ((w.length : Int) ≥ 2) from by by_cases h : (w.length : Int) ≥ 2 <;> simp [h] <;> omega]
    simp -implicitDefEqProofs only [iL, Option.bind_some, eL]
    cases decide (((w).length : Int) ≥ 2) <;> cases (firstC w == 39) <;> exact ⟨_, rfl, rfl⟩
  · rintro _ rfl
    refine wp_seq (fun o => ∃ s ok, o = ((ok, ()), ((zS, ()), ((s, ()), ()))) ∧ smallQ s ∧ finR s ok = finO (if qtB w = true then some (quoS w) else if lastC w = 58 then some (11, (([] : Bs), (lowerB w.dropLast, zS.2.2.2))) else hostP w)) ?_ ?_
    · cases hq : qtB w with
      | true =>
        have hg : w.getLast? = some 39 := by
          unfold qtB at hq
          simp only [Bool.and_eq_true] at hq
          have := hq.2.2
          unfold lastC at this
          cases hl : w.getLast? with
          | none => rw [hl] at this; exact absurd this (by decide)
          | some c => rw [hl] at this; have := eq_of_beq this; simp at this; rw [this]
        have qq := rquoted_eq w hw h0 hg
        have hsm : smallQ (quoS w) := parP_small hw (by unfold parP; rw [if_neg h0, if_pos hq])
        simp -implicitDefEqProofs only [cond_true, qq, Option.bind_some, if_true]
        exact ⟨_, rfl, _, _, rfl, hsm, rfl⟩
      | false =>
        obtain ⟨_, e, s, ok, rfl, h1, h2⟩ := rplain_ok w hw h0
        simp -implicitDefEqProofs only [cond_false, e, Option.bind_some, Bool.false_eq_true, if_false]
        exact ⟨_, rfl, _, _, rfl, h1, h2⟩
    · rintro _ ⟨s, ok, rfl, h1, h2⟩
      rw [← h2]
      have qr := rright_eq s h1
      unfold finR
      simp -implicitDefEqProofs only [qr, Option.bind_some]
      cases ok with
      | false => exact ⟨_, rfl, rfl⟩
      | true =>
        cases rightB s <;> exact ⟨_, rfl, rfl⟩
/-! -/
theorem rList_eq (l : List Bs) (hl : l.length ≤ 500) (hw : ∀ w ∈ l, w.length ≤ 1000) : pounceref09_List_ (Ev.upto 200000) ((l, ()), ()) = some ((), (parL l, ())) := by
  apply wp_eq
  unfold pounceref09_List_
  refine wp_bind ?_
  refine wp_for (σ := Unit) (fun i _ => ((l, ((i : Int), ())), (parL (l.take i), ()))) (fun _ _ => True) l.length () rfl trivial (by omega) ?_
  rintro i _ hi _
  by_cases hi' : i < l.length
  · have c0 : decide ((i : Int) < (l.length : Int)) = true := decide_eq_true (by omega)
    have w : IntKind.wrap .i64 ((i : Int) + 1) = ((i + 1 : Nat) : Int) := by rw [wrap64 (by omega) (by omega)]; omega
    have q := rParse_eq l[i] (hw _ (List.getElem_mem hi'))
    have pl := parL_len (l.take i)
    have pl2 : (parL (l.take i)).length ≤ 500 := by simp at pl; omega
    have e := parL_take hi'
    have hf : fits ((parL (l.take i)).length + ([(parR l[i]).1] : List Src).length) 88 = true := fits_of (by simp; omega)
    unfold parO at e
    simp -implicitDefEqProofs only [c0, cond_true, idx_nat hi', Option.bind_some, q]
    cases hr : (parR l[i]).2 with
    | true =>
      rw [hr, if_pos rfl] at e
      simp -implicitDefEqProofs only [cond_true, hf, Option.bind_some, w]
      exact ⟨_, rfl, hi', (), by rw [e], trivial⟩
    | false =>
      rw [hr, if_neg (by decide)] at e
      simp -implicitDefEqProofs only [cond_false, Option.bind_some, w]
      exact ⟨_, rfl, hi', (), by rw [e]; simp, trivial⟩
  · have c0 : decide ((i : Int) < (l.length : Int)) = false := decide_eq_false (by omega)
    have ht : l.take i = l := List.take_of_length_le (by omega)
    simp -implicitDefEqProofs only [c0, cond_false]
    refine ⟨_, rfl, ?_⟩
    simp only [ht]
    exact ⟨_, rfl, rfl⟩
theorem rEffective_eq (p : Pol) (k : Int) (hp : okD p.1) : pounceref12_Effective_ (Ev.upto 200000) ((p, (k, ())), ()) = some (effR (effO p.1 (namesB k))) := by
  apply wp_eq
  unfold pounceref12_Effective_
  have q := rNames_eq (Ev.upto 200000) k
  obtain ⟨hn1, hn2⟩ := names_ok k
  generalize namesB k = ns at *
  simp -implicitDefEqProofs only [q, Option.bind_some]
  refine wp_bind ?_
  refine wp_for (σ := Unit) (fun i _ => (((i : Int), ()), ((p, ()), (ns, ())))) (fun i _ => effO p.1 (ns.take i) = none) ns.length () rfl rfl (by omega) ?_
  rintro i _ hi h0
  by_cases hi' : i < ns.length
  · have c0 : decide ((i : Int) < (ns.length : Int)) = true := decide_eq_true (by omega)
    have c1 : decide ((0 : Int) ≤ (i : Int)) = true := decide_eq_true (by omega)
    have w : IntKind.wrap .i64 ((i : Int) + 1) = ((i + 1 : Nat) : Int) := by rw [wrap64 (by omega) (by omega)]; omega
    obtain ⟨hl1, hl2⟩ := hn2 _ (List.getElem_mem hi')
    have qf := rFind_eq p ns[i] hp (by omega)
    rw [hl2] at qf
    simp -implicitDefEqProofs only [c0, c1, Bool.and_self, cond_true, Int.toNat_natCast, List.getElem?_eq_getElem hi', Option.bind_some, qf]
    cases hd : findD p.1 ns[i] with
    | some ws =>
      obtain ⟨g1, g2⟩ := findD_ok hp hd
      have ql := rList_eq ws (by omega) (fun x hx => by have := g2 x hx; omega)
      simp -implicitDefEqProofs only [Option.isSome_some, Option.getD_some, cond_true, ql, Option.bind_some]
      refine ⟨_, rfl, ?_⟩
      rw [effO_at hi' h0, hd]
      exact ⟨_, rfl, rfl⟩
    | none =>
      simp -implicitDefEqProofs only [Option.isSome_none, cond_false, w]
      exact ⟨_, rfl, hi', (), rfl, effO_take hi' h0 hd⟩
  · have c0 : decide ((i : Int) < (ns.length : Int)) = false := decide_eq_false (by omega)
    have ht : ns.take i = ns := List.take_of_length_le (by omega)
    rw [ht] at h0
    simp -implicitDefEqProofs only [c0, cond_false]
    refine ⟨_, rfl, ?_⟩
    rw [h0]
    exact ⟨_, rfl, rfl⟩
theorem names_six {k : Int} (h : namesB k ≠ []) : 1 ≤ k ∧ k ≤ 6 := by
  unfold namesB at h
  by_cases h3 : k = 3
  · omega
  · rw [if_neg h3] at h
    by_cases h1 : k = 1 ∨ k = 2 ∨ k = 4
    · omega
    · rw [if_neg h1] at h
      by_cases h5 : k = 5 ∨ k = 6
      · omega
      · rw [if_neg h5] at h; exact absurd rfl h
theorem rOne_eq (p : Pol) (r : Req) (hp : okD p.1) (hr : okR r) : pounceref12_One_ (Ev.upto 200000) ((p, (r, ())), ()) = some (((oneB p.1 r).1, ((oneB p.1 r).2, ())), ()) := by
  apply wp_eq
  unfold pounceref12_One_ oneB
  have q := rEffective_eq p r.1 hp
  obtain ⟨hr1, hr2, hr3⟩ := hr
  cases he : effO p.1 (namesB r.1) with
  | none =>
    rw [he] at q
    simp -implicitDefEqProofs only [q, effR, Option.bind_some, Bool.not_false, cond_true]
    exact ⟨_, rfl, rfl⟩
  | some x =>
    rw [he] at q
    obtain ⟨k0, k6⟩ := names_six (k := r.1) (fun e => by rw [e] at he; cases he)
    obtain ⟨g1, g2⟩ := findD_ok hp (effO_some he).2
    have hl := parL_len x.2
    have hs := parL_small (l := x.2) (fun w hw => by have := g2 w hw; omega)
    have q1 := rFetch_eq 200000 (parL x.2) r (by omega) (by omega) hs hr2 hr3 (by decide)
    have q2 := rEval_eq 200000 (parL x.2) r.1 (by omega) (by omega)
    have q3 := rInline_eq 200000 (parL x.2) r.1 r.2.2.2.2.1 r.2.1 (by omega) (by omega) (by omega) (by omega)
    simp -implicitDefEqProofs only [q, effR, Option.bind_some, Bool.not_true, cond_false, verdictB]
    cases h2 : r.1 == 2 with
    | true =>
      simp -implicitDefEqProofs only [cond_true, q1, Option.bind_some]
      exact ⟨_, rfl, rfl⟩
    | false =>
      refine wp_seq (fun o => o = ((x.1, (decide (r.1 ≥ 5), ())), ((r, ()), (parL x.2, ())))) ?_ ?_
      · by_cases h5 : r.1 = 5
        · rw [h5]; exact ⟨_, rfl, rfl⟩
        · rw [show (r.1 == 5) = false from by simpa using h5, cond_false]
          by_cases h6 : r.1 = 6
          · rw [h6]; exact ⟨_, rfl, rfl⟩
          · rw [show (r.1 == 6) = false from by simpa using h6, decide_eq_false (show ¬ r.1 ≥ 5 by omega)]; exact ⟨_, rfl, rfl⟩
      · rintro _ rfl
        cases h5 : decide (r.1 ≥ 5) with
        | true =>
          simp -implicitDefEqProofs only [cond_true, cond_false, q2, Option.bind_some]
          exact ⟨_, rfl, rfl⟩
        | false =>
          simp -implicitDefEqProofs only [cond_true, cond_false, q3, Option.bind_some]
          exact ⟨_, rfl, rfl⟩
theorem rAll_eq (l : List Pol) (r : Req) (hl : okP l) (hr : okR r) : pounceref12_All_ (Ev.upto 200000) ((l, (r, ())), ()) = some (((repB (blks r 0 l), blks r 0 l), ()), ()) := by
  apply wp_eq
  unfold pounceref12_All_
  have hll := hl.1
  refine wp_bind ?_
  refine wp_for (σ := Unit) (fun i _ => ((l, ((i : Int), ())), ((r, ()), ((false, ()), ((repB (blks r 0 (l.take i)), ()), (blks r 0 (l.take i), ())))))) (fun _ _ => True) l.length () rfl trivial (by omega) ?_
  rintro i _ hi _
  by_cases hi' : i < l.length
  · have c0 : decide ((i : Int) < (l.length : Int)) = true := decide_eq_true (by omega)
    have w : IntKind.wrap .i64 ((i : Int) + 1) = ((i + 1 : Nat) : Int) := by rw [wrap64 (by omega) (by omega)]; omega
    have q := rOne_eq l[i] r (hl.2 _ (List.getElem_mem hi')) hr
    have hb := blks_len r (l.take i) 0
    have hb2 : (blks r 0 (l.take i)).length ≤ 20 := by simp at hb; omega
    have hf : fits ((blks r 0 (l.take i)).length + ([((i : Int), ((oneB l[i].1 r).2, l[i].2))] : List Blk).length) 32 = true := fits_of (by simp; omega)
    have e := blks_take r l i hi'
    unfold blk at e
    simp -implicitDefEqProofs only [c0, cond_true, idx_nat hi', Option.bind_some, q]
    cases ho : (oneB l[i].1 r).1 with
    | true =>
      rw [ho, cond_true, List.append_nil] at e
      simp -implicitDefEqProofs only [cond_true, Option.bind_some, w]
      exact ⟨_, rfl, hi', (), by rw [e], trivial⟩
    | false =>
      rw [ho, cond_false] at e
      have e2 : repB (blks r 0 (l.take (i + 1))) = (repB (blks r 0 (l.take i)) && l[i].2) := by
        rw [e]
        unfold repB
        rw [List.all_append]
        simp
      simp -implicitDefEqProofs only [cond_false, cond_true, hf, Option.bind_some, w]
      cases h2 : l[i].2 with
      | true =>
        rw [h2] at e2 e
        rw [Bool.and_true] at e2
        exact ⟨_, rfl, hi', (), by dsimp only; rw [w, e2, e], trivial⟩
      | false =>
        rw [h2] at e2 e
        rw [Bool.and_false] at e2
        exact ⟨_, rfl, hi', (), by dsimp only; rw [w, e2, e], trivial⟩
  · have c0 : decide ((i : Int) < (l.length : Int)) = false := decide_eq_false (by omega)
    have ht : l.take i = l := List.take_of_length_le (by omega)
    simp -implicitDefEqProofs only [c0, cond_false]
    refine ⟨_, rfl, ?_⟩
    simp only [ht]
    exact ⟨_, rfl, rfl⟩
/-! -/
theorem Texts_refl (l : List Bs) (hl : l.length ≤ 1000) : pounceref02_Texts_ (Ev.upto 200000) ((l, (l, ())), ()) = some ((true, ()), ()) := by
  apply wp_eq
  unfold pounceref02_Texts_
  simp -implicitDefEqProofs only [bne_self_eq_false, cond_false]
  refine wp_bind ?_
  refine wp_for (σ := Unit) (fun i _ => ((l, (l, ((i : Int), ()))), ())) (fun _ _ => True) l.length () rfl trivial (by omega) ?_
  rintro i _ hi _
  by_cases hi' : i < l.length
  · have c0 : decide ((i : Int) < (l.length : Int)) = true := decide_eq_true (by omega)
    have w : IntKind.wrap .i64 ((i : Int) + 1) = ((i + 1 : Nat) : Int) := by rw [wrap64 (by omega) (by omega)]; omega
    simp -implicitDefEqProofs only [c0, cond_true, idx_nat hi', Option.bind_some, beq_self_eq_true, Bool.not_true, cond_false, w]
    exact ⟨_, rfl, hi', (), rfl, trivial⟩
  · have c0 : decide ((i : Int) < (l.length : Int)) = false := decide_eq_false (by omega)
    simp -implicitDefEqProofs only [c0, cond_false]
    exact ⟨_, rfl, _, rfl, rfl⟩
theorem Same9_refl (l : List Src) (hl : l.length ≤ 1000) : pounceref09_Same_ (Ev.upto 200000) ((l, (l, ())), ()) = some ((true, ()), ()) := by
  apply wp_eq
  unfold pounceref09_Same_
  simp -implicitDefEqProofs only [bne_self_eq_false, cond_false]
  refine wp_bind ?_
  refine wp_for (σ := Unit) (fun i _ => ((l, (l, ((i : Int), ()))), ())) (fun _ _ => True) l.length () rfl trivial (by omega) ?_
  rintro i _ hi _
  by_cases hi' : i < l.length
  · have c0 : decide ((i : Int) < (l.length : Int)) = true := decide_eq_true (by omega)
    have w : IntKind.wrap .i64 ((i : Int) + 1) = ((i + 1 : Nat) : Int) := by rw [wrap64 (by omega) (by omega)]; omega
    simp -implicitDefEqProofs only [c0, cond_true, idx_nat hi', Option.bind_some, beq_self_eq_true, Bool.and_self, Bool.not_true, cond_false, w]
    exact ⟨_, rfl, hi', (), rfl, trivial⟩
  · have c0 : decide ((i : Int) < (l.length : Int)) = false := decide_eq_false (by omega)
    simp -implicitDefEqProofs only [c0, cond_false]
    exact ⟨_, rfl, _, rfl, rfl⟩
theorem Own8_eq (p : Pol) (hp : okD p.1) : pounceref08_Own_ (Ev.upto 200000) ((p, ()), ()) = some ((p, ()), ()) := by
  apply wp_eq
  unfold pounceref08_Own_
  obtain ⟨h1, h2⟩ := hp
  refine wp_bind ?_
  refine wp_for (σ := Unit) (fun i _ => (((i : Int), ()), ((p, ()), ((false, ()), (p.1.take i, ()))))) (fun _ _ => True) p.1.length () rfl trivial (by omega) ?_
  rintro i _ hi _
  by_cases hi' : i < p.1.length
  · have c0 : decide ((i : Int) < (p.1.length : Int)) = true := decide_eq_true (by omega)
    have w : IntKind.wrap .i64 ((i : Int) + 1) = ((i + 1 : Nat) : Int) := by rw [wrap64 (by omega) (by omega)]; omega
    have q := Own2_eq (Ev.upto 200000) p.1[i].2 (by have := (h2 _ (List.getElem_mem hi')).1; omega)
    have hf : fits ((p.1.take i).length + ([(p.1[i].1, p.1[i].2)] : List Dir).length) 40 = true := fits_of (by simp; omega)
    simp -implicitDefEqProofs only [c0, cond_true, idx_nat hi', Option.bind_some, q, hf, w]
    exact ⟨_, rfl, hi', (), by rw [List.take_succ_eq_append_getElem hi'], trivial⟩
  · have c0 : decide ((i : Int) < (p.1.length : Int)) = false := decide_eq_false (by omega)
    have ht : p.1.take i = p.1 := List.take_of_length_le (by omega)
    simp -implicitDefEqProofs only [c0, cond_false]
    refine ⟨_, rfl, ?_⟩
    simp only [ht]
    exact ⟨_, rfl, rfl⟩
theorem Same8_refl (p : Pol) (hp : okD p.1) : pounceref08_Same_ (Ev.upto 200000) ((p, (p, ())), ()) = some ((true, ()), ()) := by
  apply wp_eq
  unfold pounceref08_Same_
  obtain ⟨h1, h2⟩ := hp
  simp -implicitDefEqProofs only [bne_self_eq_false, cond_false, beq_self_eq_true, Bool.not_true, cond_true, Option.bind_some]
  refine wp_bind ?_
  refine wp_for (σ := Unit) (fun i _ => (((i : Int), ()), ((p, ()), ((p, ()), ())))) (fun _ _ => True) p.1.length () rfl trivial (by omega) ?_
  rintro i _ hi _
  by_cases hi' : i < p.1.length
  · have c0 : decide ((i : Int) < (p.1.length : Int)) = true := decide_eq_true (by omega)
    have w : IntKind.wrap .i64 ((i : Int) + 1) = ((i + 1 : Nat) : Int) := by rw [wrap64 (by omega) (by omega)]; omega
    have q := Texts_refl p.1[i].2 (by have := (h2 _ (List.getElem_mem hi')).1; omega)
    simp -implicitDefEqProofs only [c0, cond_true, idx_nat hi', Option.bind_some, beq_self_eq_true, Bool.not_true, q, cond_false, w]
    exact ⟨_, rfl, hi', (), rfl, trivial⟩
  · have c0 : decide ((i : Int) < (p.1.length : Int)) = false := decide_eq_false (by omega)
    simp -implicitDefEqProofs only [c0, cond_false]
    exact ⟨_, rfl, _, rfl, rfl⟩
theorem All8_refl (l : List Pol) (hl : okP l) : pounceref08_All_ (Ev.upto 200000) ((l, (l, ())), ()) = some ((true, ()), ()) := by
  apply wp_eq
  unfold pounceref08_All_
  obtain ⟨h1, h2⟩ := hl
  simp -implicitDefEqProofs only [bne_self_eq_false, cond_false]
  refine wp_bind ?_
  refine wp_for (σ := Unit) (fun i _ => ((l, (l, ((i : Int), ()))), ())) (fun _ _ => True) l.length () rfl trivial (by omega) ?_
  rintro i _ hi _
  by_cases hi' : i < l.length
  · have c0 : decide ((i : Int) < (l.length : Int)) = true := decide_eq_true (by omega)
    have w : IntKind.wrap .i64 ((i : Int) + 1) = ((i + 1 : Nat) : Int) := by rw [wrap64 (by omega) (by omega)]; omega
    have q := Same8_refl l[i] (h2 _ (List.getElem_mem hi'))
    simp -implicitDefEqProofs only [c0, cond_true, idx_nat hi', Option.bind_some, q, Bool.not_true, cond_false, w]
    exact ⟨_, rfl, hi', (), rfl, trivial⟩
  · have c0 : decide ((i : Int) < (l.length : Int)) = false := decide_eq_false (by omega)
    simp -implicitDefEqProofs only [c0, cond_false]
    exact ⟨_, rfl, _, rfl, rfl⟩
theorem Same12_refl (b : Bool) (l : List Blk) (hl : l.length ≤ 1000) : pounceref12_Same_ (Ev.upto 200000) (((b, l), ((b, l), ())), ()) = some ((true, ()), ()) := by
  apply wp_eq
  unfold pounceref12_Same_
  simp -implicitDefEqProofs only [bne_self_eq_false, cond_false, beq_self_eq_true, Bool.not_true, cond_true, Option.bind_some]
  refine wp_bind ?_
  refine wp_for (σ := Unit) (fun i _ => (((i : Int), ()), (((b, l), ()), (((b, l), ()), ())))) (fun _ _ => True) l.length () rfl trivial (by omega) ?_
  rintro i _ hi _
  by_cases hi' : i < l.length
  · have c0 : decide ((i : Int) < (l.length : Int)) = true := decide_eq_true (by omega)
    have w : IntKind.wrap .i64 ((i : Int) + 1) = ((i + 1 : Nat) : Int) := by rw [wrap64 (by omega) (by omega)]; omega
    simp -implicitDefEqProofs only [c0, cond_true, idx_nat hi', Option.bind_some, beq_self_eq_true, Bool.and_self, Bool.not_true, cond_false, w]
    exact ⟨_, rfl, hi', (), rfl, trivial⟩
  · have c0 : decide ((i : Int) < (l.length : Int)) = false := decide_eq_false (by omega)
    simp -implicitDefEqProofs only [c0, cond_false]
    exact ⟨_, rfl, _, rfl, rfl⟩
/-! -/
theorem plainNames (p : Pol) (k : Int) : pouncelaw12_ChainNames_ (Ev.upto 200000) ((p, (k, ())), ()) = some ((true, ()), ()) := by
  apply wp_eq
  unfold pouncelaw12_ChainNames_
  obtain ⟨o, e, b, rfl, hb⟩ := Big8_ok [p]
  simp -implicitDefEqProofs only [e, Option.bind_some]
  cases b with
  | true => exact ⟨_, rfl, rfl⟩
  | false =>
    have hp := (hb rfl).2 p (List.mem_singleton.2 rfl)
    have q1 := Own8_eq p hp
    have q2 := Effective_eq p k hp
    have q3 := rEffective_eq p k hp
    have q4 := Names_eq (Ev.upto 200000) k
    have q5 := rNames_eq (Ev.upto 200000) k
    have q6 := Texts_refl (namesB k) (by have := (names_ok k).1; omega)
    have q8 := Same8_refl p hp
    have hl : (effR (effO p.1 (namesB k))).2.1.length ≤ 1000 := by
      cases he : effO p.1 (namesB k) with
      | none => exact Nat.zero_le _
      | some x =>
        have h := (findD_ok hp (effO_some he).2).1
        have := parL_len x.2
        show (parL x.2).length ≤ 1000
        omega
    have q7 := Same9_refl _ hl
    simp -implicitDefEqProofs only [cond_false, q1, q2, q3, Option.bind_some]
    rw [exC]
    simp -implicitDefEqProofs only [beq_self_eq_true, cond_true, q4, q5, q6, q7, q8, Option.bind_some]
    exact ⟨_, rfl, rfl⟩
theorem plainOne (p : Pol) (r : Req) : pouncelaw12_ChainOne_ (Ev.upto 200000) ((p, (r, ())), ()) = some ((true, ()), ()) := by
  apply wp_eq
  unfold pouncelaw12_ChainOne_
  obtain ⟨o, e, b, rfl, hb⟩ := largeC_ok [p] r
  simp -implicitDefEqProofs only [e, Option.bind_some]
  cases b with
  | true => exact ⟨_, rfl, rfl⟩
  | false =>
    obtain ⟨hl, _, hr⟩ := hb rfl
    have hp := hl.2 p (List.mem_singleton.2 rfl)
    have q1 := Own8_eq p hp
    have q2 := One_eq p r hp hr
    have q3 := rOne_eq p r hp hr
    have q8 := Same8_refl p hp
    simp -implicitDefEqProofs only [cond_false, q1, q2, q3, Option.bind_some]
    rw [exC]
    simp -implicitDefEqProofs only [beq_self_eq_true, cond_true, q8, Option.bind_some]
    exact ⟨_, rfl, rfl⟩
theorem plainAll (l : List Pol) (r : Req) : pouncelaw12_ChainAll_ (Ev.upto 200000) ((l, (r, ())), ()) = some ((true, ()), ()) := by
  apply wp_eq
  unfold pouncelaw12_ChainAll_
  obtain ⟨o, e, b, rfl, hb⟩ := largeC_ok l r
  simp -implicitDefEqProofs only [e, Option.bind_some]
  cases b with
  | true => exact ⟨_, rfl, rfl⟩
  | false =>
    obtain ⟨hl, hl15, hr⟩ := hb rfl
    simp -implicitDefEqProofs only [cond_false]
    refine wp_seq (fun o => o = ((l, ()), ((r, ()), (l, ())))) ?_ ?_
    · refine wp_for (σ := Unit) (fun i _ => ((l, ((i : Int), ())), ((r, ()), (l.take i, ())))) (fun _ _ => True) l.length () rfl trivial (by omega) ?_
      rintro i _ hi _
      by_cases hi' : i < l.length
      · have c0 : decide ((i : Int) < (l.length : Int)) = true := decide_eq_true (by omega)
        have w : IntKind.wrap .i64 ((i : Int) + 1) = ((i + 1 : Nat) : Int) := by rw [wrap64 (by omega) (by omega)]; omega
        have q := Own8_eq l[i] (hl.2 _ (List.getElem_mem hi'))
        have hf : fits ((l.take i).length + ([l[i]] : List Pol).length) 32 = true := fits_of (by simp; omega)
        simp -implicitDefEqProofs only [c0, cond_true, idx_nat hi', Option.bind_some, q, hf, w]
        exact ⟨_, rfl, hi', (), by rw [List.take_succ_eq_append_getElem hi'], trivial⟩
      · have c0 : decide ((i : Int) < (l.length : Int)) = false := decide_eq_false (by omega)
        have ht : l.take i = l := List.take_of_length_le (by omega)
        simp -implicitDefEqProofs only [c0, cond_false, ht]
        exact ⟨_, rfl, rfl⟩
    · rintro _ rfl
      have q1 := All_eq l r hl hr
      have q2 := rAll_eq l r hl hr
      have hbl := blks_len r l 0
      have q3 := Same12_refl (repB (blks r 0 l)) (blks r 0 l) (by omega)
      have q4 := All8_refl l hl
      simp -implicitDefEqProofs only []
      rw [exC]
      simp -implicitDefEqProofs only [beq_self_eq_true, cond_true, q1, q2, q3, q4, Option.bind_some]
      exact ⟨_, rfl, rfl⟩
end Go.En.Pl
