/- Text DC of this seat: written by a program of ours, or by hand; checked by Lean. -/
import Derived.Test.YtgjenfhkjjdcoaaGreatDoorDS
import Derived.Test.YtgjenfhkjjdcoaaGreatDoorCX
set_option linter.unusedSimpArgs false
set_option linter.unusedVariables false
namespace Go.En.Pl
/-! ### Policies: what is found -/
abbrev Dir := Bs × List Bs
abbrev Pol := List Dir × Bool
def findD : List Dir → Bs → Option (List Bs)
  | [], _ => none
  | d :: r, n => if d.1 == n then some d.2 else findD r n
theorem findD_at {l : List Dir} {n : Bs} {i : Nat} (h : i < l.length) (h0 : findD (l.take i) n = none) : findD l n = if l[i].1 == n then some l[i].2 else findD (l.drop (i + 1)) n := by
  induction l generalizing i with
  | nil => simp at h
  | cons d r ih =>
    cases i with
    | zero => rfl
    | succ i =>
      simp only [List.take_succ_cons, findD] at h0
      split at h0
      · cases h0
      · rename_i hd
        simp only [List.getElem_cons_succ, List.drop_succ_cons, findD]
        rw [if_neg hd]
        exact ih (by simpa using h) h0
theorem findD_take {l : List Dir} {n : Bs} {i : Nat} (h : i < l.length) (h0 : findD (l.take i) n = none) (hd : (l[i].1 == n) = false) : findD (l.take (i + 1)) n = none := by
  have hl : i < (l.take (i + 1)).length := by simp; omega
  have e : (l.take (i + 1)).take i = l.take i := by rw [List.take_take, Nat.min_eq_left (by omega)]
  have := findD_at hl (n := n) (by rw [e]; exact h0)
  rw [this]
  have e2 : (l.take (i + 1))[i] = l[i] := by simp
  rw [e2, hd]
  rw [List.drop_eq_nil_of_le (by simp; omega)]
  rfl
def okD (l : List Dir) : Prop := l.length ≤ 20 ∧ ∀ d ∈ l, d.2.length ≤ 210 ∧ ∀ w ∈ d.2, w.length ≤ 300
theorem findD_ok {l : List Dir} {n : Bs} {w : List Bs} (h : okD l) (hf : findD l n = some w) : w.length ≤ 210 ∧ ∀ x ∈ w, x.length ≤ 300 := by
  have key : ∀ l : List Dir, (∀ d ∈ l, d.2.length ≤ 210 ∧ ∀ w ∈ d.2, w.length ≤ 300) → findD l n = some w → w.length ≤ 210 ∧ ∀ x ∈ w, x.length ≤ 300 := by
    intro l
    induction l with
    | nil => intro _ h; cases h
    | cons d r ih =>
      intro h1 h2
      unfold findD at h2
      split at h2
      · simp only [Option.some.injEq] at h2
        subst h2
        exact h1 d (List.mem_cons_self ..)
      · exact ih (fun x hx => h1 x (List.mem_cons_of_mem _ hx)) h2
  exact key l h.2 hf
theorem CloneS_eq (V : Ev) (l : List Bs) (h : l.length ≤ 1000000) : slices_Clone__string_string_ V ((l, ()), ()) = some ((), (l, ())) := by
  unfold slices_Clone__string_string_
  have hf : fits ((([] : List Bs)).length + l.length) 16 = true := fits_of (by simp; omega)
  cases l with
  | nil => rfl
  | cons a r =>
    simp -implicitDefEqProofs only [List.isEmpty_cons, Bool.not_false, cond_true, Option.bind_some, hf, List.nil_append]
theorem Find_eq (p : Pol) (n : Bs) (hp : okD p.1) (hn : n.length ≤ 1000) : header_Find_ (Ev.upto 200000) ((p, (n, ())), ()) = some (((findD p.1 (lowerB n)).isSome, ()), ((findD p.1 (lowerB n)).getD [], ())) := by
  apply wp_eq
  unfold header_Find_
  have q := lower_eq 200000 n (by omega) (by omega)
  simp -implicitDefEqProofs only [q, Option.bind_some]
  refine wp_bind ?_
  have hl := hp.1
  refine wp_for (σ := Unit) (fun i _ => ((lowerB n, (p.1, ((p.1.length : Int), ((i : Int), ())))), ())) (fun i _ => findD (p.1.take i) (lowerB n) = none) p.1.length () rfl rfl (by omega) ?_
  rintro i _ hi h0
  by_cases hi' : i < p.1.length
  · have c0 : decide ((i : Int) < (p.1.length : Int)) = true := decide_eq_true (by omega)
    have w : IntKind.wrap .i64 ((i : Int) + 1) = ((i + 1 : Nat) : Int) := by rw [wrap64 (by omega) (by omega)]; omega
    have hw := (hp.2 _ (List.getElem_mem hi')).1
    have qc := CloneS_eq (Ev.upto 200000) p.1[i].2 (by omega)
    simp -implicitDefEqProofs only [c0, cond_true, idx_nat hi', Option.bind_some]
    cases hd : p.1[i].1 == lowerB n with
    | true =>
      simp -implicitDefEqProofs only [cond_true, qc, Option.bind_some]
      refine ⟨_, rfl, ?_⟩
      rw [findD_at hi' h0, hd]
      exact ⟨_, rfl, rfl⟩
    | false =>
      simp -implicitDefEqProofs only [cond_false, w]
      exact ⟨_, rfl, hi', (), rfl, findD_take hi' h0 hd⟩
  · have c0 : decide ((i : Int) < (p.1.length : Int)) = false := decide_eq_false (by omega)
    have ht : p.1.take i = p.1 := List.take_of_length_le (by omega)
    rw [ht] at h0
    simp -implicitDefEqProofs only [c0, cond_false]
    refine ⟨_, rfl, ?_⟩
    rw [h0]
    exact ⟨_, rfl, rfl⟩
/-! ### Sources of words -/
noncomputable def parO (w : Bs) : Option Src := if (parR w).2 = true then some (parR w).1 else none
noncomputable def parL (l : List Bs) : List Src := l.filterMap parO
theorem parL_len (l : List Bs) : (parL l).length ≤ l.length := List.length_filterMap_le _ _
theorem parL_take {l : List Bs} {i : Nat} (hi : i < l.length) : parL (l.take (i + 1)) = parL (l.take i) ++ (match parO l[i] with | some s => [s] | none => []) := by
  unfold parL
  rw [List.take_succ_eq_append_getElem hi, List.filterMap_append]
  congr 1
  rw [List.filterMap_cons]
  cases parO l[i] <;> rfl
theorem List_eq (l : List Bs) (hl : l.length ≤ 500) (hw : ∀ w ∈ l, w.length ≤ 1000) : source_List_ (Ev.upto 200000) ((l, ()), ()) = some ((), (parL l, ())) := by
  apply wp_eq
  unfold source_List_
  refine wp_bind ?_
  refine wp_for (σ := Unit) (fun i _ => ((l, ((l.length : Int), ((i : Int), ()))), (parL (l.take i), ()))) (fun _ _ => True) l.length () rfl trivial (by omega) ?_
  rintro i _ hi _
  by_cases hi' : i < l.length
  · have c0 : decide ((i : Int) < (l.length : Int)) = true := decide_eq_true (by omega)
    have w : IntKind.wrap .i64 ((i : Int) + 1) = ((i + 1 : Nat) : Int) := by rw [wrap64 (by omega) (by omega)]; omega
    have q := Parse_eq l[i] (hw _ (List.getElem_mem hi'))
    have pl := parL_len (l.take i)
    have pl2 : (parL (l.take i)).length ≤ 500 := by simp at pl; omega
    have e := parL_take hi'
    have hf : fits ((parL (l.take i)).length + ([(parR l[i]).1] : List Src).length) 88 = true := fits_of (by simp; omega)
    unfold parO at e
    simp -implicitDefEqProofs only [c0, cond_true, idx_nat hi', Option.bind_some, q]
    cases hr : (parR l[i]).2 with
    | true =>
      rw [hr, if_pos rfl] at e
      simp -implicitDefEqProofs only [cond_true, hf, Option.bind_some, w]
      exact ⟨_, rfl, hi', (), by rw [e], trivial⟩
    | false =>
      rw [hr, if_neg (by decide)] at e
      simp -implicitDefEqProofs only [cond_false, Option.bind_some, w]
      exact ⟨_, rfl, hi', (), by rw [e]; simp, trivial⟩
  · have c0 : decide ((i : Int) < (l.length : Int)) = false := decide_eq_false (by omega)
    have ht : l.take i = l := List.take_of_length_le (by omega)
    simp -implicitDefEqProofs only [c0, cond_false]
    refine ⟨_, rfl, ?_⟩
    simp only [ht]
    exact ⟨_, rfl, rfl⟩
/-! ### What is effective -/
def nAttr : Bs := [115, 99, 114, 105, 112, 116, 45, 115, 114, 99, 45, 97, 116, 116, 114]
def nElem : Bs := [115, 99, 114, 105, 112, 116, 45, 115, 114, 99, 45, 101, 108, 101, 109]
def nSrc : Bs := [115, 99, 114, 105, 112, 116, 45, 115, 114, 99]
def nDef : Bs := [100, 101, 102, 97, 117, 108, 116, 45, 115, 114, 99]
def namesB (k : Int) : List Bs := if k = 3 then [nAttr, nSrc, nDef] else if k = 1 ∨ k = 2 ∨ k = 4 then [nElem, nSrc, nDef] else if k = 5 ∨ k = 6 then [nSrc, nDef] else []
theorem Names_eq (V : Ev) (k : Int) : chain_Names_ V ((k, ()), ()) = some ((), (namesB k, ())) := by
  by_cases h3 : k = 3
  · subst h3; rfl
  by_cases h1 : k = 1
  · subst h1; rfl
  by_cases h2 : k = 2
  · subst h2; rfl
  by_cases h4 : k = 4
  · subst h4; rfl
  by_cases h5 : k = 5
  · subst h5; rfl
  by_cases h6 : k = 6
  · subst h6; rfl
  have e : namesB k = [] := by unfold namesB; rw [if_neg h3, if_neg (by omega), if_neg (by omega)]
  have c3 : (k == 3) = false := by simpa using h3
  have c1 : (k == 1) = false := by simpa using h1
  have c2 : (k == 2) = false := by simpa using h2
  have c4 : (k == 4) = false := by simpa using h4
  have c5 : (k == 5) = false := by simpa using h5
  have c6 : (k == 6) = false := by simpa using h6
  unfold chain_Names_
  simp -implicitDefEqProofs only [c3, c1, c2, c4, c5, c6, cond_false, Option.bind_some, e]
theorem names_ok (k : Int) : (namesB k).length ≤ 3 ∧ ∀ n ∈ namesB k, n.length ≤ 15 ∧ lowerB n = n := by
  have h : ∀ l : List Bs, (l = [nAttr, nSrc, nDef] ∨ l = [nElem, nSrc, nDef] ∨ l = [nSrc, nDef] ∨ l = []) → l.length ≤ 3 ∧ ∀ n ∈ l, n.length ≤ 15 ∧ lowerB n = n := by
    have q1 : nAttr.length ≤ 15 ∧ lowerB nAttr = nAttr := ⟨by decide, by kernel_rfl⟩
    have q2 : nElem.length ≤ 15 ∧ lowerB nElem = nElem := ⟨by decide, by kernel_rfl⟩
    have q3 : nSrc.length ≤ 15 ∧ lowerB nSrc = nSrc := ⟨by decide, by kernel_rfl⟩
    have q4 : nDef.length ≤ 15 ∧ lowerB nDef = nDef := ⟨by decide, by kernel_rfl⟩
    rintro l (rfl | rfl | rfl | rfl)
    · exact ⟨by simp, fun n hn => by simp only [List.mem_cons, List.not_mem_nil, or_false] at hn; rcases hn with rfl | rfl | rfl <;> assumption⟩
    · exact ⟨by simp, fun n hn => by simp only [List.mem_cons, List.not_mem_nil, or_false] at hn; rcases hn with rfl | rfl | rfl <;> assumption⟩
    · exact ⟨by simp, fun n hn => by simp only [List.mem_cons, List.not_mem_nil, or_false] at hn; rcases hn with rfl | rfl <;> assumption⟩
    · exact ⟨by simp, fun n hn => by simp at hn⟩
  apply h
  unfold namesB
  split
  · exact .inl rfl
  · split
    · exact .inr (.inl rfl)
    · split
      · exact .inr (.inr (.inl rfl))
      · exact .inr (.inr (.inr rfl))
def effO (l : List Dir) : List Bs → Option (Bs × List Bs)
  | [] => none
  | n :: ns => match findD l n with
    | some w => some (n, w)
    | none => effO l ns
theorem effO_at {l : List Dir} {ns : List Bs} {i : Nat} (h : i < ns.length) (h0 : effO l (ns.take i) = none) : effO l ns = match findD l ns[i] with | some w => some (ns[i], w) | none => effO l (ns.drop (i + 1)) := by
  induction ns generalizing i with
  | nil => simp at h
  | cons n r ih =>
    cases i with
    | zero => rfl
    | succ i =>
      simp only [List.take_succ_cons, effO] at h0
      simp only [List.getElem_cons_succ, List.drop_succ_cons, effO]
      cases hf : findD l n with
      | some w => rw [hf] at h0; cases h0
      | none =>
        rw [hf] at h0
        exact ih (by simpa using h) h0
theorem effO_take {l : List Dir} {ns : List Bs} {i : Nat} (h : i < ns.length) (h0 : effO l (ns.take i) = none) (hd : findD l ns[i] = none) : effO l (ns.take (i + 1)) = none := by
  have hl : i < (ns.take (i + 1)).length := by simp; omega
  have e : (ns.take (i + 1)).take i = ns.take i := by rw [List.take_take, Nat.min_eq_left (by omega)]
  have := effO_at (l := l) hl (by rw [e]; exact h0)
  rw [this]
  have e2 : (ns.take (i + 1))[i] = ns[i] := by simp
  rw [e2, hd]
  rw [List.drop_eq_nil_of_le (by simp; omega)]
  rfl
noncomputable def effR (o : Option (Bs × List Bs)) : (Bs × Bool × Unit) × (List Src × Unit) := match o with
  | some x => ((x.1, (true, ())), (parL x.2, ()))
  | none => (([], (false, ())), ([], ()))
theorem Effective_eq (p : Pol) (k : Int) (hp : okD p.1) : chain_Effective_ (Ev.upto 200000) ((p, (k, ())), ()) = some (effR (effO p.1 (namesB k))) := by
  apply wp_eq
  unfold chain_Effective_
  have q := Names_eq (Ev.upto 200000) k
  obtain ⟨hn1, hn2⟩ := names_ok k
  generalize namesB k = ns at *
  simp -implicitDefEqProofs only [q, Option.bind_some]
  refine wp_bind ?_
  refine wp_for (σ := Unit) (fun i _ => (((ns.length : Int), ((i : Int), ())), ((p, ()), (ns, ())))) (fun i _ => effO p.1 (ns.take i) = none) ns.length () rfl rfl (by omega) ?_
  rintro i _ hi h0
  by_cases hi' : i < ns.length
  · have c0 : decide ((i : Int) < (ns.length : Int)) = true := decide_eq_true (by omega)
    have c1 : decide ((0 : Int) ≤ (i : Int)) = true := decide_eq_true (by omega)
    have w : IntKind.wrap .i64 ((i : Int) + 1) = ((i + 1 : Nat) : Int) := by rw [wrap64 (by omega) (by omega)]; omega
    obtain ⟨hl1, hl2⟩ := hn2 _ (List.getElem_mem hi')
    have qf := Find_eq p ns[i] hp (by omega)
    rw [hl2] at qf
    simp -implicitDefEqProofs only [c0, c1, Bool.and_self, cond_true, Int.toNat_natCast, List.getElem?_eq_getElem hi', Option.bind_some, qf]
    cases hd : findD p.1 ns[i] with
    | some ws =>
      obtain ⟨g1, g2⟩ := findD_ok hp hd
      have ql := List_eq ws (by omega) (fun x hx => by have := g2 x hx; omega)
      simp -implicitDefEqProofs only [Option.isSome_some, Option.getD_some, cond_true, ql, Option.bind_some]
      refine ⟨_, rfl, ?_⟩
      rw [effO_at hi' h0, hd]
      exact ⟨_, rfl, rfl⟩
    | none =>
      simp -implicitDefEqProofs only [Option.isSome_none, cond_false, w]
      exact ⟨_, rfl, hi', (), rfl, effO_take hi' h0 hd⟩
  · have c0 : decide ((i : Int) < (ns.length : Int)) = false := decide_eq_false (by omega)
    have ht : ns.take i = ns := List.take_of_length_le (by omega)
    rw [ht] at h0
    simp -implicitDefEqProofs only [c0, cond_false]
    refine ⟨_, rfl, ?_⟩
    rw [h0]
    exact ⟨_, rfl, rfl⟩
/-! ### One policy, and all -/
theorem parO_some {w : Bs} {s : Src} (h : parO w = some s) : rightB s = true ∧ parP w = some s := by
  unfold parO parR at h
  cases hp : parP w with
  | none => rw [hp] at h; simp at h
  | some x =>
    rw [hp] at h
    simp only at h
    cases hr : rightB x with
    | false => rw [hr] at h; simp at h
    | true =>
      rw [hr, if_pos rfl] at h
      simp only [if_true, Option.some.injEq] at h
      subst h
      exact ⟨hr, rfl⟩
theorem parL_small {l : List Bs} (h : ∀ w ∈ l, w.length ≤ 1000) : ∀ s ∈ parL l, smallS s := by
  intro s hs
  unfold parL at hs
  obtain ⟨w, hw, hp⟩ := List.mem_filterMap.1 hs
  obtain ⟨h1, h2, h3, h4⟩ := parP_small (h w hw) (parO_some hp).2
  exact ⟨by omega, by omega⟩
def verdictB (l : List Src) (r : Req) : Bool := bif r.1 == 2 then fetchB l r else bif decide (r.1 ≥ 5) then evalB l r.1 else inlineB l r.1 r.2.2.2.2.1 (mrk r.2.1)
noncomputable def oneB (l : List Dir) (r : Req) : Bool × Bs := match effO l (namesB r.1) with
  | some x => (verdictB (parL x.2) r, x.1)
  | none => (true, [])
theorem effO_some {l : List Dir} : ∀ {ns : List Bs} {x : Bs × List Bs}, effO l ns = some x → x.1 ∈ ns ∧ findD l x.1 = some x.2
  | [], x, h => by cases h
  | n :: ns, x, h => by
    unfold effO at h
    cases hf : findD l n with
    | some w =>
      rw [hf] at h
      simp only [Option.some.injEq] at h
      subst h
      exact ⟨List.mem_cons_self .., hf⟩
    | none =>
      rw [hf] at h
      obtain ⟨h1, h2⟩ := effO_some h
      exact ⟨List.mem_cons_of_mem _ h1, h2⟩
theorem One_eq (p : Pol) (r : Req) (hp : okD p.1) (hr : okR r) : chain_One_ (Ev.upto 200000) ((p, (r, ())), ()) = some (((oneB p.1 r).1, ((oneB p.1 r).2, ())), ()) := by
  unfold chain_One_ oneB
  have q := Effective_eq p r.1 hp
  obtain ⟨hr1, hr2, hr3⟩ := hr
  cases he : effO p.1 (namesB r.1) with
  | none =>
    rw [he] at q
    simp -implicitDefEqProofs only [q, effR, Option.bind_some, Bool.not_false, cond_true]
  | some x =>
    rw [he] at q
    obtain ⟨g1, g2⟩ := findD_ok hp (effO_some he).2
    have hl := parL_len x.2
    have hs := parL_small (l := x.2) (fun w hw => by have := g2 w hw; omega)
    have q1 := Fetch_eq 200000 (parL x.2) r (by omega) (by omega) hs hr2 hr3 (by decide)
    have q2 := Eval_eq 200000 (parL x.2) r.1 (by omega) (by decide) (by omega)
    have q3 := Inline_eq 200000 (parL x.2) r.1 r.2.2.2.2.1 r.2.1 (mrk r.2.1) (by omega) (by decide) (by omega) (OfX 200000 r.2.1 (by omega) (by omega) (by decide))
    simp -implicitDefEqProofs only [q, effR, Option.bind_some, Bool.not_true, cond_false, verdictB]
    cases h2 : r.1 == 2 with
    | true => simp -implicitDefEqProofs only [cond_true, q1, Option.bind_some]
    | false =>
      cases h5 : decide (r.1 ≥ 5) with
      | true =>
        simp -implicitDefEqProofs only [cond_true, cond_false, q2, Option.bind_some]
        rfl
      | false => simp -implicitDefEqProofs only [cond_true, cond_false, q3, Option.bind_some]
abbrev Blk := Int × (Bs × Bool)
noncomputable def blk (r : Req) (i : Nat) (p : Pol) : List Blk := bif (oneB p.1 r).1 then [] else [((i : Int), ((oneB p.1 r).2, p.2))]
noncomputable def blks (r : Req) : Nat → List Pol → List Blk
  | _, [] => []
  | i, p :: l => blk r i p ++ blks r (i + 1) l
theorem blks_append (r : Req) : ∀ (a b : List Pol) (i : Nat), blks r i (a ++ b) = blks r i a ++ blks r (i + a.length) b
  | [], b, i => rfl
  | p :: a, b, i => by
    simp only [List.cons_append, blks, List.length_cons, List.append_assoc]
    rw [blks_append r a b (i + 1), show i + 1 + a.length = i + (a.length + 1) by omega]
theorem blks_take (r : Req) (l : List Pol) (i : Nat) (hi : i < l.length) : blks r 0 (l.take (i + 1)) = blks r 0 (l.take i) ++ blk r i l[i] := by
  rw [List.take_succ_eq_append_getElem hi, blks_append]
  simp [blks, Nat.min_eq_left (Nat.le_of_lt hi)]
theorem blk_len (r : Req) (i : Nat) (p : Pol) : (blk r i p).length ≤ 1 := by
  unfold blk
  cases (oneB p.1 r).1 <;> simp
theorem blks_len (r : Req) : ∀ (l : List Pol) (i : Nat), (blks r i l).length ≤ l.length
  | [], i => Nat.le_refl _
  | p :: l, i => by
    have := blks_len r l (i + 1)
    have := blk_len r i p
    simp only [blks, List.length_append, List.length_cons]
    omega
def repB (l : List Blk) : Bool := l.all fun b => b.2.2
def okP (l : List Pol) : Prop := l.length ≤ 20 ∧ ∀ p ∈ l, okD p.1
theorem All_eq (l : List Pol) (r : Req) (hl : okP l) (hr : okR r) : chain_All_ (Ev.upto 200000) ((l, (r, ())), ()) = some (((repB (blks r 0 l), blks r 0 l), ()), ()) := by
  apply wp_eq
  unfold chain_All_ slices_All__api_Policy_api_Policy_328 slices_All__api_Policy_api_Policy_1_f61
  simp -implicitDefEqProofs only [Option.bind_some]
  have hll := hl.1
  refine wp_bind ?_
  refine wp_bind ?_
  refine wp_for (σ := Unit) (fun i _ => ((l, ((l.length : Int), ((i : Int), ()))), ((r, ()), ((repB (blks r 0 (l.take i)), ()), ((l, ()), (blks r 0 (l.take i), ())))))) (fun _ _ => True) l.length () rfl trivial (by omega) ?_
  rintro i _ hi _
  by_cases hi' : i < l.length
  · have c0 : decide ((i : Int) < (l.length : Int)) = true := decide_eq_true (by omega)
    have w : IntKind.wrap .i64 ((i : Int) + 1) = ((i + 1 : Nat) : Int) := by rw [wrap64 (by omega) (by omega)]; omega
    have q := One_eq l[i] r (hl.2 _ (List.getElem_mem hi')) hr
    have hb := blks_len r (l.take i) 0
    have hb2 : (blks r 0 (l.take i)).length ≤ 20 := by simp at hb; omega
    have hf : fits ((blks r 0 (l.take i)).length + ([((i : Int), ((oneB l[i].1 r).2, l[i].2))] : List Blk).length) 32 = true := fits_of (by simp; omega)
    have e := blks_take r l i hi'
    unfold blk at e
    simp -implicitDefEqProofs only [c0, cond_true, idx_nat hi', Option.bind_some, chain_All_r, q]
    cases ho : (oneB l[i].1 r).1 with
    | true =>
      rw [ho, cond_true, List.append_nil] at e
      simp -implicitDefEqProofs only [Bool.not_true, cond_false, Option.bind_some, w]
      exact ⟨_, rfl, hi', (), by rw [e], trivial⟩
    | false =>
      rw [ho, cond_false] at e
      have e2 : repB (blks r 0 (l.take (i + 1))) = (repB (blks r 0 (l.take i)) && l[i].2) := by
        rw [e]
        unfold repB
        rw [List.all_append]
        simp
      simp -implicitDefEqProofs only [Bool.not_false, cond_true, hf, Option.bind_some, w]
      cases hrep : repB (blks r 0 (l.take i)) with
      | true =>
        rw [hrep, Bool.true_and] at e2
        simp -implicitDefEqProofs only [beq_self_eq_true, cond_true, Option.bind_some, Bool.not_true, cond_false]
        exact ⟨_, rfl, hi', (), by rw [e2, e], trivial⟩
      | false =>
        rw [hrep, Bool.false_and] at e2
        simp -implicitDefEqProofs only [show (false == true) = false from rfl, cond_false, Option.bind_some, Bool.not_true]
        exact ⟨_, rfl, hi', (), by rw [e2, e], trivial⟩
  · have c0 : decide ((i : Int) < (l.length : Int)) = false := decide_eq_false (by omega)
    have ht : l.take i = l := List.take_of_length_le (by omega)
    simp -implicitDefEqProofs only [c0, cond_false]
    refine ⟨_, rfl, ?_⟩
    simp only [ht]
    exact ⟨_, rfl, _, rfl, rfl⟩
/-! ### What is looked at -/
theorem Big2_ok (l : List Bs) : wp (pounceref02_Big_ (Ev.upto 200000) ((l, ((210 : Int), ((300 : Int), ()))), ())) (fun o => ∃ b, o = ((b, ()), ()) ∧ (b = false → l.length ≤ 210 ∧ ∀ w ∈ l, w.length ≤ 300)) := by
  unfold pounceref02_Big_
  refine wp_dec (fun h => ⟨_, rfl, true, rfl, fun h => by cases h⟩) fun h => ?_
  simp only at h
  refine wp_bind ?_
  refine wp_for (σ := Unit) (fun i _ => ((l, ((300 : Int), ((i : Int), ()))), ())) (fun i _ => ∀ w ∈ l.take i, w.length ≤ 300) l.length () rfl (by simp) (by omega) ?_
  rintro i _ hi h0
  by_cases hi' : i < l.length
  · have c0 : decide ((i : Int) < (l.length : Int)) = true := decide_eq_true (by omega)
    have w : IntKind.wrap .i64 ((i : Int) + 1) = ((i + 1 : Nat) : Int) := by rw [wrap64 (by omega) (by omega)]; omega
    simp -implicitDefEqProofs only [c0, cond_true, idx_nat hi', Option.bind_some]
    refine wp_dec (fun h => ⟨_, rfl, _, rfl, true, rfl, fun h => by cases h⟩) fun hw => ?_
    simp -implicitDefEqProofs only [w]
    refine ⟨_, rfl, hi', (), rfl, ?_⟩
    rw [List.take_succ_eq_append_getElem hi']
    intro x hx
    rcases List.mem_append.1 hx with hx | hx
    · exact h0 x hx
    · rw [List.mem_singleton.1 hx]; omega
  · have c0 : decide ((i : Int) < (l.length : Int)) = false := decide_eq_false (by omega)
    have ht : l.take i = l := List.take_of_length_le (by omega)
    simp -implicitDefEqProofs only [c0, cond_false]
    rw [ht] at h0
    exact ⟨_, rfl, _, rfl, false, rfl, fun _ => ⟨by omega, h0⟩⟩
theorem Big8_ok (l : List Pol) : wp (pounceref08_Big_ (Ev.upto 200000) ((l, ()), ())) (fun o => ∃ b, o = ((b, ()), ()) ∧ (b = false → l.length ≤ 15 ∧ ∀ p ∈ l, okD p.1)) := by
  unfold pounceref08_Big_
  refine wp_dec (fun h => ⟨_, rfl, true, rfl, fun h => by cases h⟩) fun h => ?_
  simp only at h
  refine wp_bind ?_
  refine wp_for (σ := Unit) (fun i _ => ((l, ((i : Int), ())), ())) (fun i _ => ∀ p ∈ l.take i, okD p.1) l.length () rfl (by simp) (by omega) ?_
  rintro i _ hi h0
  by_cases hi' : i < l.length
  · have c0 : decide ((i : Int) < (l.length : Int)) = true := decide_eq_true (by omega)
    have w : IntKind.wrap .i64 ((i : Int) + 1) = ((i + 1 : Nat) : Int) := by rw [wrap64 (by omega) (by omega)]; omega
    simp -implicitDefEqProofs only [c0, cond_true, idx_nat hi', Option.bind_some]
    refine wp_dec (fun h => ⟨_, rfl, _, rfl, true, rfl, fun h => by cases h⟩) fun h20 => ?_
    refine wp_bind ?_
    refine wp_for (σ := Unit) (fun k _ => ((l, ((i : Int), ((k : Int), ()))), ())) (fun k _ => ∀ d ∈ l[i].1.take k, d.2.length ≤ 210 ∧ ∀ w ∈ d.2, w.length ≤ 300) l[i].1.length () rfl (by simp) (by omega) ?_
    rintro k _ hk hd
    simp -implicitDefEqProofs only [idx_nat hi', Option.bind_some]
    by_cases hk' : k < l[i].1.length
    · have d0 : decide ((k : Int) < (l[i].1.length : Int)) = true := decide_eq_true (by omega)
      have wk : IntKind.wrap .i64 ((k : Int) + 1) = ((k + 1 : Nat) : Int) := by rw [wrap64 (by omega) (by omega)]; omega
      simp -implicitDefEqProofs only [d0, cond_true, idx_nat hk', Option.bind_some]
      obtain ⟨o, e, b, rfl, hb⟩ := Big2_ok l[i].1[k].2
      cases h2 : decide (((l[i].1[k].1.length : Nat) : Int) > 200) == false with
      | false =>
        simp -implicitDefEqProofs only [cond_false, Option.bind_some, cond_true]
        exact ⟨_, rfl, _, rfl, _, rfl, true, rfl, fun h => by cases h⟩
      | true =>
        simp -implicitDefEqProofs only [cond_true, e, Option.bind_some]
        cases b with
        | true =>
          simp -implicitDefEqProofs only [cond_true]
          exact ⟨_, rfl, _, rfl, _, rfl, true, rfl, fun h => by cases h⟩
        | false =>
          simp -implicitDefEqProofs only [cond_false, wk]
          refine ⟨_, rfl, hk', (), rfl, ?_⟩
          rw [List.take_succ_eq_append_getElem hk']
          intro x hx
          rcases List.mem_append.1 hx with hx | hx
          · exact hd x hx
          · rw [List.mem_singleton.1 hx]; exact hb rfl
    · have d0 : decide ((k : Int) < (l[i].1.length : Int)) = false := decide_eq_false (by omega)
      have ht : l[i].1.take k = l[i].1 := List.take_of_length_le (by omega)
      rw [ht] at hd
      simp -implicitDefEqProofs only [d0, cond_false]
      refine ⟨_, rfl, ?_⟩
      simp -implicitDefEqProofs only [w]
      refine ⟨_, rfl, hi', (), rfl, ?_⟩
      rw [List.take_succ_eq_append_getElem hi']
      intro x hx
      rcases List.mem_append.1 hx with hx | hx
      · exact h0 x hx
      · rw [List.mem_singleton.1 hx]; exact ⟨by omega, hd⟩
  · have c0 : decide ((i : Int) < (l.length : Int)) = false := decide_eq_false (by omega)
    have ht : l.take i = l := List.take_of_length_le (by omega)
    rw [ht] at h0
    simp -implicitDefEqProofs only [c0, cond_false]
    exact ⟨_, rfl, _, rfl, false, rfl, fun _ => ⟨by omega, h0⟩⟩
theorem largeC_ok (l : List Pol) (r : Req) : wp (pouncelaw12_large_ (Ev.upto 200000) ((l, (r, ())), ())) (fun o => ∃ b, o = ((b, ()), ()) ∧ (b = false → okP l ∧ l.length ≤ 15 ∧ okR r)) := by
  unfold pouncelaw12_large_
  obtain ⟨o, e, b, rfl, hb⟩ := Big8_ok l
  obtain ⟨c, e2, hc⟩ := Big11_ok (Ev.upto 200000) r
  simp -implicitDefEqProofs only [e, Option.bind_some]
  cases b with
  | true => exact ⟨_, rfl, true, rfl, fun h => by cases h⟩
  | false =>
    simp -implicitDefEqProofs only [beq_self_eq_true, cond_true, e2, Option.bind_some]
    refine ⟨_, rfl, c, rfl, fun h => ?_⟩
    obtain ⟨h1, h2⟩ := hb rfl
    exact ⟨⟨by omega, h2⟩, h1, hc h⟩
/-! ### The laws ChainFree, ChainMore, ChainReports -/
theorem okR_report {r : Req} (h : okR r) : okR r := h
theorem blkBeq (a : Blk) : ((a.1 == a.1) && ((a.2.1 == a.2.1) && ((a.2.2 == a.2.2) && true))) = true := by simp
theorem plainFree (p : Pol) (r : Req) : pouncelaw12_ChainFree_ (Ev.upto 200000) ((p, (r, ())), ()) = some ((true, ()), ()) := by
  apply wp_eq
  unfold pouncelaw12_ChainFree_
  obtain ⟨o, e, b, rfl, hb⟩ := largeC_ok [p] r
  simp -implicitDefEqProofs only [e, Option.bind_some]
  cases b with
  | true => exact ⟨_, rfl, rfl⟩
  | false =>
    obtain ⟨⟨_, hp⟩, _, hr⟩ := hb rfl
    have hp := hp p (List.mem_singleton.2 rfl)
    have qn := Names_eq (Ev.upto 200000) r.1
    have qe := Effective_eq p r.1 hp
    have qo := One_eq p r hp hr
    unfold oneB at qo
    obtain ⟨hn1, hn2⟩ := names_ok r.1
    generalize namesB r.1 = ns at *
    simp -implicitDefEqProofs only [cond_false, qn, Option.bind_some]
    refine wp_bind ?_
    refine wp_for (σ := Unit) (fun i _ => (((i : Int), ()), ((p, ()), ((r, ()), (ns, ()))))) (fun i _ => effO p.1 (ns.take i) = none) ns.length () rfl rfl (by omega) ?_
    rintro i _ hi h0
    by_cases hi' : i < ns.length
    · have c0 : decide ((i : Int) < (ns.length : Int)) = true := decide_eq_true (by omega)
      have c1 : decide ((0 : Int) ≤ (i : Int)) = true := decide_eq_true (by omega)
      have w : IntKind.wrap .i64 ((i : Int) + 1) = ((i + 1 : Nat) : Int) := by rw [wrap64 (by omega) (by omega)]; omega
      obtain ⟨hl1, hl2⟩ := hn2 _ (List.getElem_mem hi')
      have qf := Find_eq p ns[i] hp (by omega)
      rw [hl2] at qf
      simp -implicitDefEqProofs only [c0, c1, Bool.and_self, cond_true, Int.toNat_natCast, List.getElem?_eq_getElem hi', Option.bind_some, qf]
      cases hd : findD p.1 ns[i] with
      | some ws =>
        rw [effO_at hi' h0, hd] at qe
        simp -implicitDefEqProofs only [Option.isSome_some, Option.getD_some, cond_true, qe, effR, Option.bind_some, beq_self_eq_true, c0, c1, Bool.and_self, Int.toNat_natCast, List.getElem?_eq_getElem hi']
        rw [exC]
        exact ⟨_, rfl, _, rfl, rfl⟩
      | none =>
        simp -implicitDefEqProofs only [Option.isSome_none, cond_false, w]
        exact ⟨_, rfl, hi', (), rfl, effO_take hi' h0 hd⟩
    · have c0 : decide ((i : Int) < (ns.length : Int)) = false := decide_eq_false (by omega)
      have ht : ns.take i = ns := List.take_of_length_le (by omega)
      rw [ht] at h0
      rw [h0] at qo
      simp -implicitDefEqProofs only [c0, cond_false]
      refine ⟨_, rfl, ?_⟩
      simp -implicitDefEqProofs only [qo, Option.bind_some, beq_self_eq_true, cond_true]
      rw [exC]
      exact ⟨_, rfl, rfl⟩
theorem repB_append (a b : List Blk) : repB (a ++ b) = (repB a && repB b) := by unfold repB; rw [List.all_append]
theorem plainMoreC (l : List Pol) (p : Pol) (r : Req) : pouncelaw12_ChainMore_ (Ev.upto 200000) ((l, (p, (r, ()))), ()) = some ((true, ()), ()) := by
  apply wp_eq
  unfold pouncelaw12_ChainMore_
  obtain ⟨o, e, b, rfl, hb⟩ := largeC_ok l r
  obtain ⟨o2, e2, b2, rfl, hb2⟩ := Big8_ok [p]
  simp -implicitDefEqProofs only [e, Option.bind_some]
  cases b with
  | true =>
    simp -implicitDefEqProofs only [show (true == false) = false from rfl, cond_false, Option.bind_some, cond_true]
    exact ⟨_, rfl, rfl⟩
  | false =>
    simp -implicitDefEqProofs only [show (false == false) = true from rfl, cond_true, e2, Option.bind_some]
    cases b2 with
    | true => simp -implicitDefEqProofs only [cond_true]; exact ⟨_, rfl, rfl⟩
    | false =>
      obtain ⟨hl, hl15, hr⟩ := hb rfl
      obtain ⟨_, hp⟩ := hb2 rfl
      have hp := hp p (List.mem_singleton.2 rfl)
      have f1 : fits l.length 32 = true := fits_of (by omega)
      have f2 : fits (l.length + ([p] : List Pol).length) 32 = true := fits_of (by simp; omega)
      have hall : okP (l ++ [p]) := ⟨by simp; omega, fun q hq => by
        rcases List.mem_append.1 hq with hq | hq
        · exact hl.2 q hq
        · rw [List.mem_singleton.1 hq]; exact hp⟩
      have q1 := All_eq l r hl hr
      have q2 := All_eq (l ++ [p]) r hall hr
      have q3 := One_eq p r hp hr
      have eb : blks r 0 (l ++ [p]) = blks r 0 l ++ blk r l.length p := by rw [blks_append]; simp [blks]
      have hbl := blks_len r l 0
      have hbl1 := blk_len r l.length p
      rw [eb, repB_append] at q2
      have hrep : repB (blk r l.length p) = ((oneB p.1 r).1 || p.2) := by
        unfold blk repB
        cases (oneB p.1 r).1 <;> simp
      rw [hrep] at q2
      generalize hA : blks r 0 l = A at *
      generalize hB : blk r l.length p = B at *
      have g1 : decide (((A ++ B).length : Int) < (A.length : Int)) = false := decide_eq_false (by simp; omega)
      have g2 : decide ((IntKind.wrap .i64 (((A ++ B).length : Int) - (A.length : Int))) > (1 : Int)) = false := by
        rw [wrap64 (by simp; omega) (by simp; omega)]
        exact decide_eq_false (by simp; omega)
      simp -implicitDefEqProofs only [cond_false, f1, f2, cond_true, q1, q2, q3, Option.bind_some]
      have step : ∀ (k : (Unit × ((Pol × Unit) × ((Req × Unit) × (((Bool × List Blk) × Unit) × (((Bool × List Blk) × Unit) × Unit))))) ⊕ ((Bool × Unit) × Unit) → Option ((Bool × Unit) × Unit)) (ra rb : Bool), wp (k (.inl ((), ((p, ()), ((r, ()), (((ra, A), ()), (((rb, A ++ B), ()), ()))))))) (· = ((true, ()), ())) →
          wp (((Ev.upto 200000).it (α := ((Int × Unit) × ((Pol × Unit) × ((Req × Unit) × (((Bool × List Blk) × Unit) × (((Bool × List Blk) × Unit) × Unit)))))) (β := (Unit × ((Pol × Unit) × ((Req × Unit) × (((Bool × List Blk) × Unit) × (((Bool × List Blk) × Unit) × Unit))))) ⊕ ((Bool × Unit) × Unit)) (fun s7 => (bif decide (s7.1.1 < ((s7.2.2.2.1.1.2).length : Int)) then ((idx s7.2.2.2.1.1.2 s7.1.1).bind fun v8 => ((idx s7.2.2.2.2.1.1.2 s7.1.1).bind fun v9 => (bif (!((v8.1 == v9.1) && ((v8.2.1 == v9.2.1) && ((v8.2.2 == v9.2.2) && true)))) then (some (Sum.inr (Sum.inr ((false, ()), ())))) else (some (Sum.inl (((IntKind.wrap .i64 (s7.1.1 + (1 : Int))), ()), ((s7.2.1.1, ()), ((s7.2.2.1.1, ()), ((s7.2.2.2.1.1, ()), ((s7.2.2.2.2.1.1, ()), ())))))))))) else (some (Sum.inr (Sum.inl ((), ((s7.2.1.1, ()), ((s7.2.2.1.1, ()), ((s7.2.2.2.1.1, ()), ((s7.2.2.2.2.1.1, ()), ()))))))))))
            (((0 : Int), ()), ((p, ()), ((r, ()), (((ra, A), ()), (((rb, A ++ B), ()), ())))))).bind k) (· = ((true, ()), ())) := by
        intro k ra rb hk
        refine wp_bind ?_
        refine wp_for (σ := Unit) (fun i _ => (((i : Int), ()), ((p, ()), ((r, ()), (((ra, A), ()), (((rb, A ++ B), ()), ())))))) (fun _ _ => True) A.length () rfl trivial (by omega) ?_
        rintro i _ hi _
        by_cases hi' : i < A.length
        · have c0 : decide ((i : Int) < (A.length : Int)) = true := decide_eq_true (by omega)
          have w : IntKind.wrap .i64 ((i : Int) + 1) = ((i + 1 : Nat) : Int) := by rw [wrap64 (by omega) (by omega)]; omega
          have hi2 : i < (A ++ B).length := by simp; omega
          have eg : (A ++ B)[i] = A[i] := List.getElem_append_left hi'
          simp -implicitDefEqProofs only [c0, cond_true, idx_nat hi', idx_nat hi2, Option.bind_some, eg, blkBeq, Bool.not_true, cond_false, w]
          exact ⟨_, rfl, hi', (), rfl, trivial⟩
        · have c0 : decide ((i : Int) < (A.length : Int)) = false := decide_eq_false (by omega)
          simp -implicitDefEqProofs only [c0, cond_false]
          exact ⟨_, rfl, hk⟩
      generalize hra : repB A = ra at *
      generalize hrb : (ra && ((oneB p.1 r).1 || p.2)) = rb at *
      cases ra <;> cases hone : (oneB p.1 r).1 <;> cases hrp : p.2 <;> cases rb <;> rw [hone, hrp] at hrb <;> first
        | (exfalso; revert hrb; decide)
        | (simp -implicitDefEqProofs only [hrp, beq_self_eq_true, show (false == true) = false from rfl, show (true == false) = false from rfl, show (false == false) = true from rfl, cond_true, cond_false, Bool.not_true, Bool.not_false, g1, g2, Option.bind_some]
           refine step _ _ _ ?_
           simp -implicitDefEqProofs only [q3, hone, hrp, Option.bind_some]
           rw [exC]
           exact ⟨_, rfl, rfl⟩)
/-! ### The law ChainReports -/
def setR (b : Bool) (p : Pol) : Pol := (p.1, b)
def setB (b : Bool) (x : Blk) : Blk := (x.1, (x.2.1, b))
theorem blk_set (r : Req) (i : Nat) (b : Bool) (p : Pol) : blk r i (setR b p) = (blk r i p).map (setB b) := by
  unfold blk
  show (bif (oneB p.1 r).1 then [] else _) = _
  cases (oneB p.1 r).1 <;> rfl
theorem blks_set (r : Req) (b : Bool) : ∀ (l : List Pol) (i : Nat), blks r i (l.map (setR b)) = (blks r i l).map (setB b)
  | [], i => rfl
  | p :: l, i => by simp only [List.map_cons, blks, List.map_append, blk_set, blks_set r b l]
theorem repB_true (l : List Blk) : repB (l.map (setB true)) = true := by
  unfold repB
  rw [List.all_map]
  simp [setB, Function.comp_def]
theorem repB_false (l : List Blk) : repB (l.map (setB false)) = ((((l.map (setB false)).length : Nat) : Int) == 0) := by
  cases l with
  | nil => rfl
  | cons x l =>
    have h : ((((x :: l).map (setB false)).length : Int) == 0) = false := by
      rw [beq_eq_false_iff_ne]; simp; omega
    rw [h]
    rfl
theorem plainReports (l : List Pol) (r : Req) : pouncelaw12_ChainReports_ (Ev.upto 200000) ((l, (r, ())), ()) = some ((true, ()), ()) := by
  apply wp_eq
  unfold pouncelaw12_ChainReports_
  obtain ⟨o, e, b, rfl, hb⟩ := largeC_ok l r
  simp -implicitDefEqProofs only [e, Option.bind_some]
  cases b with
  | true => exact ⟨_, rfl, rfl⟩
  | false =>
    obtain ⟨hl, hl15, hr⟩ := hb rfl
    simp -implicitDefEqProofs only [cond_false]
    refine wp_bind ?_
    refine wp_for (σ := Unit) (fun i _ => ((l, ((i : Int), ())), ((r, ()), ((l.take i).map (setR true), ((l.take i).map (setR false), ()))))) (fun _ _ => True) l.length () rfl trivial (by omega) ?_
    rintro i _ hi _
    by_cases hi' : i < l.length
    · have c0 : decide ((i : Int) < (l.length : Int)) = true := decide_eq_true (by omega)
      have w : IntKind.wrap .i64 ((i : Int) + 1) = ((i + 1 : Nat) : Int) := by rw [wrap64 (by omega) (by omega)]; omega
      have f1 : fits (((l.take i).map (setR true)).length + ([(l[i].1, true)] : List Pol).length) 32 = true := fits_of (by simp; omega)
      have f2 : fits (((l.take i).map (setR false)).length + ([(l[i].1, false)] : List Pol).length) 32 = true := fits_of (by simp; omega)
      simp -implicitDefEqProofs only [c0, cond_true, idx_nat hi', Option.bind_some, f1, f2, w]
      refine ⟨_, rfl, hi', (), ?_, trivial⟩
      rw [List.take_succ_eq_append_getElem hi', List.map_append, List.map_append]
      rfl
    · have c0 : decide ((i : Int) < (l.length : Int)) = false := decide_eq_false (by omega)
      have ht : l.take i = l := List.take_of_length_le (by omega)
      rw [ht]
      have ok : ∀ b : Bool, okP (l.map (setR b)) := fun b => ⟨by simp; omega, fun p hp => by
        obtain ⟨q, hq, rfl⟩ := List.mem_map.1 hp
        exact hl.2 q hq⟩
      have q1 := All_eq (l.map (setR true)) r (ok true) hr
      have q2 := All_eq (l.map (setR false)) r (ok false) hr
      rw [blks_set] at q1 q2
      rw [repB_true] at q1
      have hbl := blks_len r l 0
      have hrf := repB_false (blks r 0 l)
      generalize blks r 0 l = A at *
      have g1 : ((((A.map (setB true)).length : Nat) : Int) != (((A.map (setB false)).length : Nat) : Int)) = false := by simp
      have g2 : (repB (A.map (setB false)) == ((((A.map (setB false)).length : Nat) : Int) == 0)) = true := by rw [hrf]; simp
      simp -implicitDefEqProofs only [c0, cond_false]
      refine ⟨_, rfl, ?_⟩
      simp -implicitDefEqProofs only [q1, q2, Option.bind_some, Bool.not_true, Bool.not_false, show (false == false) = true from rfl, cond_true, g1, g2, cond_false]
      refine wp_bind ?_
      refine wp_for (σ := Unit) (fun i _ => (((i : Int), ()), (((true, A.map (setB true)), ()), (((repB (A.map (setB false)), A.map (setB false)), ()), ())))) (fun _ _ => True) A.length () rfl trivial (by omega) ?_
      rintro k _ hk _
      by_cases hk' : k < A.length
      · have d0 : decide ((k : Int) < ((A.map (setB true)).length : Int)) = true := decide_eq_true (by simp; omega)
        have wk : IntKind.wrap .i64 ((k : Int) + 1) = ((k + 1 : Nat) : Int) := by rw [wrap64 (by omega) (by omega)]; omega
        have e1 : idx (A.map (setB true)) (k : Int) = some (setB true A[k]) := by rw [idx_nat (by simpa using hk')]; simp
        have e2 : idx (A.map (setB false)) (k : Int) = some (setB false A[k]) := by rw [idx_nat (by simpa using hk')]; simp
        have h1 : (((setB true A[k]).1 != (setB false A[k]).1) == false) = true := by simp [setB]
        have h2 : ((!((setB true A[k]).2.1 == (setB false A[k]).2.1)) == false) = true := by simp [setB]
        have h3 : ((!(setB true A[k]).2.2) == false) = true := rfl
        have h4 : (setB false A[k]).2.2 = false := rfl
        simp -implicitDefEqProofs only [d0, cond_true, e1, e2, Option.bind_some, h1, h2, h3, h4, cond_false, wk]
        exact ⟨_, rfl, hk', (), rfl, trivial⟩
      · have d0 : decide ((k : Int) < ((A.map (setB true)).length : Int)) = false := decide_eq_false (by simp; omega)
        simp -implicitDefEqProofs only [d0, cond_false]
        refine ⟨_, rfl, ?_⟩
        simp -implicitDefEqProofs only []
        rw [exC]
        exact ⟨_, rfl, rfl⟩
end Go.En.Pl
