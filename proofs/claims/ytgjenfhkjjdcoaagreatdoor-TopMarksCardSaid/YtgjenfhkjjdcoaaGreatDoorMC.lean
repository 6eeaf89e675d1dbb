/- Text MC of this seat: written by a program of ours, or by hand; checked by Lean. -/
import Derived.Test.YtgjenfhkjjdcoaaGreatDoorMS
import Derived.Laws.RangeString
set_option linter.unusedSimpArgs false
set_option linter.unusedVariables false
namespace Go.En.Pl
/-! -/
abbrev Dir := Bs × List Bs
abbrev Pol := List Dir × Bool
def findD : List Dir → Bs → Option (List Bs)
  | [], _ => none
  | d :: r, n => if d.1 == n then some d.2 else findD r n
theorem findD_at {l : List Dir} {n : Bs} {i : Nat} (h : i < l.length) (h0 : findD (l.take i) n = none) : findD l n = if l[i].1 == n then some l[i].2 else findD (l.drop (i + 1)) n := by
  induction l generalizing i with
  | nil => simp at h
  | cons d r ih =>
    cases i with
    | zero => rfl
    | succ i =>
      simp only [List.take_succ_cons, findD] at h0
      split at h0
      · cases h0
      · rename_i hd
        simp only [List.getElem_cons_succ, List.drop_succ_cons, findD]
        rw [if_neg hd]
        exact ih (by simpa using h) h0
theorem findD_take {l : List Dir} {n : Bs} {i : Nat} (h : i < l.length) (h0 : findD (l.take i) n = none) (hd : (l[i].1 == n) = false) : findD (l.take (i + 1)) n = none := by
  have hl : i < (l.take (i + 1)).length := by simp; omega
  have e : (l.take (i + 1)).take i = l.take i := by rw [List.take_take, Nat.min_eq_left (by omega)]
  have := findD_at hl (n := n) (by rw [e]; exact h0)
  rw [this]
  have e2 : (l.take (i + 1))[i] = l[i] := by simp
  rw [e2, hd]
  rw [List.drop_eq_nil_of_le (by simp; omega)]
  rfl
def okD (l : List Dir) : Prop := l.length ≤ 20 ∧ ∀ d ∈ l, d.2.length ≤ 210 ∧ ∀ w ∈ d.2, w.length ≤ 300
theorem findD_ok {l : List Dir} {n : Bs} {w : List Bs} (h : okD l) (hf : findD l n = some w) : w.length ≤ 210 ∧ ∀ x ∈ w, x.length ≤ 300 := by
  have key : ∀ l : List Dir, (∀ d ∈ l, d.2.length ≤ 210 ∧ ∀ w ∈ d.2, w.length ≤ 300) → findD l n = some w → w.length ≤ 210 ∧ ∀ x ∈ w, x.length ≤ 300 := by
    intro l
    induction l with
    | nil => intro _ h; cases h
    | cons d r ih =>
      intro h1 h2
      unfold findD at h2
      split at h2
      · simp only [Option.some.injEq] at h2
        subst h2
        exact h1 d (List.mem_cons_self ..)
      · exact ih (fun x hx => h1 x (List.mem_cons_of_mem _ hx)) h2
  exact key l h.2 hf
theorem CloneS_eq (V : Ev) (l : List Bs) (h : l.length ≤ 1000000) : slices_Clone__string_string_ V ((l, ()), ()) = some ((), (l, ())) := by
  unfold slices_Clone__string_string_
  have hf : fits ((([] : List Bs)).length + l.length) 16 = true := fits_of (by simp; omega)
  cases l with
  | nil => rfl
  | cons a r =>
    simp -implicitDefEqProofs only [List.isEmpty_cons, Bool.not_false, cond_true, Option.bind_some, hf, List.nil_append]
theorem Find_eq (p : Pol) (n : Bs) (hp : okD p.1) (hn : n.length ≤ 1000) : header_Find_ (Ev.upto 200000) ((p, (n, ())), ()) = some (((findD p.1 (lowerB n)).isSome, ()), ((findD p.1 (lowerB n)).getD [], ())) := by
  apply wp_eq
  unfold header_Find_
  have q := lower_eq 200000 n (by omega) (by omega)
  simp -implicitDefEqProofs only [q, Option.bind_some]
  refine wp_bind ?_
  have hl := hp.1
  refine wp_for (σ := Unit) (fun i _ => ((lowerB n, (p.1, ((p.1.length : Int), ((i : Int), ())))), ())) (fun i _ => findD (p.1.take i) (lowerB n) = none) p.1.length () rfl rfl (by omega) ?_
  rintro i _ hi h0
  by_cases hi' : i < p.1.length
  · have c0 : decide ((i : Int) < (p.1.length : Int)) = true := decide_eq_true (by omega)
    have w : IntKind.wrap .i64 ((i : Int) + 1) = ((i + 1 : Nat) : Int) := by rw [wrap64 (by omega) (by omega)]; omega
    have hw := (hp.2 _ (List.getElem_mem hi')).1
    have qc := CloneS_eq (Ev.upto 200000) p.1[i].2 (by omega)
    simp -implicitDefEqProofs only [c0, cond_true, idx_nat hi', Option.bind_some]
    cases hd : p.1[i].1 == lowerB n with
    | true =>
      simp -implicitDefEqProofs only [cond_true, qc, Option.bind_some]
      refine ⟨_, rfl, ?_⟩
      rw [findD_at hi' h0, hd]
      exact ⟨_, rfl, rfl⟩
    | false =>
      simp -implicitDefEqProofs only [cond_false, w]
      exact ⟨_, rfl, hi', (), rfl, findD_take hi' h0 hd⟩
  · have c0 : decide ((i : Int) < (p.1.length : Int)) = false := decide_eq_false (by omega)
    have ht : p.1.take i = p.1 := List.take_of_length_le (by omega)
    rw [ht] at h0
    simp -implicitDefEqProofs only [c0, cond_false]
    refine ⟨_, rfl, ?_⟩
    rw [h0]
    exact ⟨_, rfl, rfl⟩
/-! -/
noncomputable def parO (w : Bs) : Option Src := if (parR w).2 = true then some (parR w).1 else none
noncomputable def parL (l : List Bs) : List Src := l.filterMap parO
theorem parL_len (l : List Bs) : (parL l).length ≤ l.length := List.length_filterMap_le _ _
theorem parL_take {l : List Bs} {i : Nat} (hi : i < l.length) : parL (l.take (i + 1)) = parL (l.take i) ++ (match parO l[i] with | some s => [s] | none => []) := by
  unfold parL
  rw [List.take_succ_eq_append_getElem hi, List.filterMap_append]
  congr 1
  rw [List.filterMap_cons]
  cases parO l[i] <;> rfl
theorem List_eq (l : List Bs) (hl : l.length ≤ 500) (hw : ∀ w ∈ l, w.length ≤ 1000) : source_List_ (Ev.upto 200000) ((l, ()), ()) = some ((), (parL l, ())) := by
  apply wp_eq
  unfold source_List_
  refine wp_bind ?_
  refine wp_for (σ := Unit) (fun i _ => ((l, ((l.length : Int), ((i : Int), ()))), (parL (l.take i), ()))) (fun _ _ => True) l.length () rfl trivial (by omega) ?_
  rintro i _ hi _
  by_cases hi' : i < l.length
  · have c0 : decide ((i : Int) < (l.length : Int)) = true := decide_eq_true (by omega)
    have w : IntKind.wrap .i64 ((i : Int) + 1) = ((i + 1 : Nat) : Int) := by rw [wrap64 (by omega) (by omega)]; omega
    have q := Parse_eq l[i] (hw _ (List.getElem_mem hi'))
    have pl := parL_len (l.take i)
    have pl2 : (parL (l.take i)).length ≤ 500 := by simp at pl; omega
    have e := parL_take hi'
    have hf : fits ((parL (l.take i)).length + ([(parR l[i]).1] : List Src).length) 88 = true := fits_of (by simp; omega)
    unfold parO at e
    simp -implicitDefEqProofs only [c0, cond_true, idx_nat hi', Option.bind_some, q]
    cases hr : (parR l[i]).2 with
    | true =>
      rw [hr, if_pos rfl] at e
      simp -implicitDefEqProofs only [cond_true, hf, Option.bind_some, w]
      exact ⟨_, rfl, hi', (), by rw [e], trivial⟩
    | false =>
      rw [hr, if_neg (by decide)] at e
      simp -implicitDefEqProofs only [cond_false, Option.bind_some, w]
      exact ⟨_, rfl, hi', (), by rw [e]; simp, trivial⟩
  · have c0 : decide ((i : Int) < (l.length : Int)) = false := decide_eq_false (by omega)
    have ht : l.take i = l := List.take_of_length_le (by omega)
    simp -implicitDefEqProofs only [c0, cond_false]
    refine ⟨_, rfl, ?_⟩
    simp only [ht]
    exact ⟨_, rfl, rfl⟩
/-! -/
def nAttr : Bs := [115, 99, 114, 105, 112, 116, 45, 115, 114, 99, 45, 97, 116, 116, 114]
def nElem : Bs := [115, 99, 114, 105, 112, 116, 45, 115, 114, 99, 45, 101, 108, 101, 109]
def nSrc : Bs := [115, 99, 114, 105, 112, 116, 45, 115, 114, 99]
def nDef : Bs := [100, 101, 102, 97, 117, 108, 116, 45, 115, 114, 99]
def namesB (k : Int) : List Bs := if k = 3 then [nAttr, nSrc, nDef] else if k = 1 ∨ k = 2 ∨ k = 4 then [nElem, nSrc, nDef] else if k = 5 ∨ k = 6 then [nSrc, nDef] else []
theorem Names_eq (V : Ev) (k : Int) : chain_Names_ V ((k, ()), ()) = some ((), (namesB k, ())) := by
  by_cases h3 : k = 3
  · subst h3; rfl
  by_cases h1 : k = 1
  · subst h1; rfl
  by_cases h2 : k = 2
  · subst h2; rfl
  by_cases h4 : k = 4
  · subst h4; rfl
  by_cases h5 : k = 5
  · subst h5; rfl
  by_cases h6 : k = 6
  · subst h6; rfl
  have e : namesB k = [] := by unfold namesB; rw [if_neg h3, if_neg (by omega), if_neg (by omega)]
  have c3 : (k == 3) = false := by simpa using h3
  have c1 : (k == 1) = false := by simpa using h1
  have c2 : (k == 2) = false := by simpa using h2
  have c4 : (k == 4) = false := by simpa using h4
  have c5 : (k == 5) = false := by simpa using h5
  have c6 : (k == 6) = false := by simpa using h6
  unfold chain_Names_
  simp -implicitDefEqProofs only [c3, c1, c2, c4, c5, c6, cond_false, Option.bind_some, e]
theorem names_ok (k : Int) : (namesB k).length ≤ 3 ∧ ∀ n ∈ namesB k, n.length ≤ 15 ∧ lowerB n = n := by
  have h : ∀ l : List Bs, (l = [nAttr, nSrc, nDef] ∨ l = [nElem, nSrc, nDef] ∨ l = [nSrc, nDef] ∨ l = []) → l.length ≤ 3 ∧ ∀ n ∈ l, n.length ≤ 15 ∧ lowerB n = n := by
    have q1 : nAttr.length ≤ 15 ∧ lowerB nAttr = nAttr := ⟨by decide, by kernel_rfl⟩
    have q2 : nElem.length ≤ 15 ∧ lowerB nElem = nElem := ⟨by decide, by kernel_rfl⟩
    have q3 : nSrc.length ≤ 15 ∧ lowerB nSrc = nSrc := ⟨by decide, by kernel_rfl⟩
    have q4 : nDef.length ≤ 15 ∧ lowerB nDef = nDef := ⟨by decide, by kernel_rfl⟩
    rintro l (rfl | rfl | rfl | rfl)
    · exact ⟨by simp, fun n hn => by simp only [List.mem_cons, List.not_mem_nil, or_false] at hn; rcases hn with rfl | rfl | rfl <;> assumption⟩
    · exact ⟨by simp, fun n hn => by simp only [List.mem_cons, List.not_mem_nil, or_false] at hn; rcases hn with rfl | rfl | rfl <;> assumption⟩
    · exact ⟨by simp, fun n hn => by simp only [List.mem_cons, List.not_mem_nil, or_false] at hn; rcases hn with rfl | rfl <;> assumption⟩
    · exact ⟨by simp, fun n hn => by simp at hn⟩
  apply h
  unfold namesB
  split
  · exact .inl rfl
  · split
    · exact .inr (.inl rfl)
    · split
      · exact .inr (.inr (.inl rfl))
      · exact .inr (.inr (.inr rfl))
def effO (l : List Dir) : List Bs → Option (Bs × List Bs)
  | [] => none
  | n :: ns => match findD l n with
    | some w => some (n, w)
    | none => effO l ns
theorem effO_at {l : List Dir} {ns : List Bs} {i : Nat} (h : i < ns.length) (h0 : effO l (ns.take i) = none) : effO l ns = match findD l ns[i] with | some w => some (ns[i], w) | none => effO l (ns.drop (i + 1)) := by
  induction ns generalizing i with
  | nil => simp at h
  | cons n r ih =>
    cases i with
    | zero => rfl
    | succ i =>
      simp only [List.take_succ_cons, effO] at h0
      simp only [List.getElem_cons_succ, List.drop_succ_cons, effO]
      cases hf : findD l n with
      | some w => rw [hf] at h0; cases h0
      | none =>
        rw [hf] at h0
        exact ih (by simpa using h) h0
theorem effO_take {l : List Dir} {ns : List Bs} {i : Nat} (h : i < ns.length) (h0 : effO l (ns.take i) = none) (hd : findD l ns[i] = none) : effO l (ns.take (i + 1)) = none := by
  have hl : i < (ns.take (i + 1)).length := by simp; omega
  have e : (ns.take (i + 1)).take i = ns.take i := by rw [List.take_take, Nat.min_eq_left (by omega)]
  have := effO_at (l := l) hl (by rw [e]; exact h0)
  rw [this]
  have e2 : (ns.take (i + 1))[i] = ns[i] := by simp
  rw [e2, hd]
  rw [List.drop_eq_nil_of_le (by simp; omega)]
  rfl
noncomputable def effR (o : Option (Bs × List Bs)) : (Bs × Bool × Unit) × (List Src × Unit) := match o with
  | some x => ((x.1, (true, ())), (parL x.2, ()))
  | none => (([], (false, ())), ([], ()))
theorem Effective_eq (p : Pol) (k : Int) (hp : okD p.1) : chain_Effective_ (Ev.upto 200000) ((p, (k, ())), ()) = some (effR (effO p.1 (namesB k))) := by
  apply wp_eq
  unfold chain_Effective_
  have q := Names_eq (Ev.upto 200000) k
  obtain ⟨hn1, hn2⟩ := names_ok k
  generalize namesB k = ns at *
  simp -implicitDefEqProofs only [q, Option.bind_some]
  refine wp_bind ?_
  refine wp_for (σ := Unit) (fun i _ => (((ns.length : Int), ((i : Int), ())), ((p, ()), (ns, ())))) (fun i _ => effO p.1 (ns.take i) = none) ns.length () rfl rfl (by omega) ?_
  rintro i _ hi h0
  by_cases hi' : i < ns.length
  · have c0 : decide ((i : Int) < (ns.length : Int)) = true := decide_eq_true (by omega)
    have c1 : decide ((0 : Int) ≤ (i : Int)) = true := decide_eq_true (by omega)
    have w : IntKind.wrap .i64 ((i : Int) + 1) = ((i + 1 : Nat) : Int) := by rw [wrap64 (by omega) (by omega)]; omega
    obtain ⟨hl1, hl2⟩ := hn2 _ (List.getElem_mem hi')
    have qf := Find_eq p ns[i] hp (by omega)
    rw [hl2] at qf
    simp -implicitDefEqProofs only [c0, c1, Bool.and_self, cond_true, Int.toNat_natCast, List.getElem?_eq_getElem hi', Option.bind_some, qf]
    cases hd : findD p.1 ns[i] with
    | some ws =>
      obtain ⟨g1, g2⟩ := findD_ok hp hd
      have ql := List_eq ws (by omega) (fun x hx => by have := g2 x hx; omega)
      simp -implicitDefEqProofs only [Option.isSome_some, Option.getD_some, cond_true, ql, Option.bind_some]
      refine ⟨_, rfl, ?_⟩
      rw [effO_at hi' h0, hd]
      exact ⟨_, rfl, rfl⟩
    | none =>
      simp -implicitDefEqProofs only [Option.isSome_none, cond_false, w]
      exact ⟨_, rfl, hi', (), rfl, effO_take hi' h0 hd⟩
  · have c0 : decide ((i : Int) < (ns.length : Int)) = false := decide_eq_false (by omega)
    have ht : ns.take i = ns := List.take_of_length_le (by omega)
    rw [ht] at h0
    simp -implicitDefEqProofs only [c0, cond_false]
    refine ⟨_, rfl, ?_⟩
    rw [h0]
    exact ⟨_, rfl, rfl⟩
/-! -/
theorem parO_some {w : Bs} {s : Src} (h : parO w = some s) : rightB s = true ∧ parP w = some s := by
  unfold parO parR at h
  cases hp : parP w with
  | none => rw [hp] at h; simp at h
  | some x =>
    rw [hp] at h
    simp only at h
    cases hr : rightB x with
    | false => rw [hr] at h; simp at h
    | true =>
      rw [hr, if_pos rfl] at h
      simp only [if_true, Option.some.injEq] at h
      subst h
      exact ⟨hr, rfl⟩
theorem parL_small {l : List Bs} (h : ∀ w ∈ l, w.length ≤ 1000) : ∀ s ∈ parL l, smallS s := by
  intro s hs
  unfold parL at hs
  obtain ⟨w, hw, hp⟩ := List.mem_filterMap.1 hs
  obtain ⟨h1, h2, h3, h4⟩ := parP_small (h w hw) (parO_some hp).2
  exact ⟨by omega, by omega⟩
def verdictB (l : List Src) (r : Req) : Bool := bif r.1 == 2 then fetchB l r else bif decide (r.1 ≥ 5) then evalB l r.1 else inlineB l r.1 r.2.2.2.2.1 (mrk r.2.1)
noncomputable def oneB (l : List Dir) (r : Req) : Bool × Bs := match effO l (namesB r.1) with
  | some x => (verdictB (parL x.2) r, x.1)
  | none => (true, [])
theorem effO_some {l : List Dir} : ∀ {ns : List Bs} {x : Bs × List Bs}, effO l ns = some x → x.1 ∈ ns ∧ findD l x.1 = some x.2
  | [], x, h => by cases h
  | n :: ns, x, h => by
    unfold effO at h
    cases hf : findD l n with
    | some w =>
      rw [hf] at h
      simp only [Option.some.injEq] at h
      subst h
      exact ⟨List.mem_cons_self .., hf⟩
    | none =>
      rw [hf] at h
      obtain ⟨h1, h2⟩ := effO_some h
      exact ⟨List.mem_cons_of_mem _ h1, h2⟩
theorem One_eq (p : Pol) (r : Req) (hp : okD p.1) (hr : okR r) : chain_One_ (Ev.upto 200000) ((p, (r, ())), ()) = some (((oneB p.1 r).1, ((oneB p.1 r).2, ())), ()) := by
  unfold chain_One_ oneB
  have q := Effective_eq p r.1 hp
  obtain ⟨hr1, hr2, hr3⟩ := hr
  cases he : effO p.1 (namesB r.1) with
  | none =>
    rw [he] at q
    simp -implicitDefEqProofs only [q, effR, Option.bind_some, Bool.not_false, cond_true]
  | some x =>
    rw [he] at q
    obtain ⟨g1, g2⟩ := findD_ok hp (effO_some he).2
    have hl := parL_len x.2
    have hs := parL_small (l := x.2) (fun w hw => by have := g2 w hw; omega)
    have q1 := Fetch_eq 200000 (parL x.2) r (by omega) (by omega) hs hr2 hr3 (by decide)
    have q2 := Eval_eq 200000 (parL x.2) r.1 (by omega) (by decide) (by omega)
    have q3 := Inline_eq 200000 (parL x.2) r.1 r.2.2.2.2.1 r.2.1 (mrk r.2.1) (by omega) (by decide) (by omega) (OfX 200000 r.2.1 (by omega) (by omega) (by decide))
    simp -implicitDefEqProofs only [q, effR, Option.bind_some, Bool.not_true, cond_false, verdictB]
    cases h2 : r.1 == 2 with
    | true => simp -implicitDefEqProofs only [cond_true, q1, Option.bind_some]
    | false =>
      cases h5 : decide (r.1 ≥ 5) with
      | true =>
        simp -implicitDefEqProofs only [cond_true, cond_false, q2, Option.bind_some]
        rfl
      | false => simp -implicitDefEqProofs only [cond_true, cond_false, q3, Option.bind_some]
abbrev Blk := Int × (Bs × Bool)
noncomputable def blk (r : Req) (i : Nat) (p : Pol) : List Blk := bif (oneB p.1 r).1 then [] else [((i : Int), ((oneB p.1 r).2, p.2))]
noncomputable def blks (r : Req) : Nat → List Pol → List Blk
  | _, [] => []
  | i, p :: l => blk r i p ++ blks r (i + 1) l
theorem blks_append (r : Req) : ∀ (a b : List Pol) (i : Nat), blks r i (a ++ b) = blks r i a ++ blks r (i + a.length) b
  | [], b, i => rfl
  | p :: a, b, i => by
    simp only [List.cons_append, blks, List.length_cons, List.append_assoc]
    rw [blks_append r a b (i + 1), show i + 1 + a.length = i + (a.length + 1) by omega]
theorem blks_take (r : Req) (l : List Pol) (i : Nat) (hi : i < l.length) : blks r 0 (l.take (i + 1)) = blks r 0 (l.take i) ++ blk r i l[i] := by
  rw [List.take_succ_eq_append_getElem hi, blks_append]
  simp [blks, Nat.min_eq_left (Nat.le_of_lt hi)]
theorem blk_len (r : Req) (i : Nat) (p : Pol) : (blk r i p).length ≤ 1 := by
  unfold blk
  cases (oneB p.1 r).1 <;> simp
theorem blks_len (r : Req) : ∀ (l : List Pol) (i : Nat), (blks r i l).length ≤ l.length
  | [], i => Nat.le_refl _
  | p :: l, i => by
    have := blks_len r l (i + 1)
    have := blk_len r i p
    simp only [blks, List.length_append, List.length_cons]
    omega
def repB (l : List Blk) : Bool := l.all fun b => b.2.2
def okP (l : List Pol) : Prop := l.length ≤ 20 ∧ ∀ p ∈ l, okD p.1
theorem All_eq (l : List Pol) (r : Req) (hl : okP l) (hr : okR r) : chain_All_ (Ev.upto 200000) ((l, (r, ())), ()) = some (((repB (blks r 0 l), blks r 0 l), ()), ()) := by
  apply wp_eq
  unfold chain_All_ slices_All__api_Policy_api_Policy_328 slices_All__api_Policy_api_Policy_1_f61
  simp -implicitDefEqProofs only [Option.bind_some]
  have hll := hl.1
  refine wp_bind ?_
  refine wp_bind ?_
  refine wp_for (σ := Unit) (fun i _ => ((l, ((l.length : Int), ((i : Int), ()))), ((r, ()), ((repB (blks r 0 (l.take i)), ()), ((l, ()), (blks r 0 (l.take i), ())))))) (fun _ _ => True) l.length () rfl trivial (by omega) ?_
  rintro i _ hi _
  by_cases hi' : i < l.length
  · have c0 : decide ((i : Int) < (l.length : Int)) = true := decide_eq_true (by omega)
    have w : IntKind.wrap .i64 ((i : Int) + 1) = ((i + 1 : Nat) : Int) := by rw [wrap64 (by omega) (by omega)]; omega
    have q := One_eq l[i] r (hl.2 _ (List.getElem_mem hi')) hr
    have hb := blks_len r (l.take i) 0
    have hb2 : (blks r 0 (l.take i)).length ≤ 20 := by simp at hb; omega
    have hf : fits ((blks r 0 (l.take i)).length + ([((i : Int), ((oneB l[i].1 r).2, l[i].2))] : List Blk).length) 32 = true := fits_of (by simp; omega)
    have e := blks_take r l i hi'
    unfold blk at e
    simp -implicitDefEqProofs only [c0, cond_true, idx_nat hi', Option.bind_some, chain_All_r, q]
    cases ho : (oneB l[i].1 r).1 with
    | true =>
      rw [ho, cond_true, List.append_nil] at e
      simp -implicitDefEqProofs only [Bool.not_true, cond_false, Option.bind_some, w]
      exact ⟨_, rfl, hi', (), by rw [e], trivial⟩
    | false =>
      rw [ho, cond_false] at e
      have e2 : repB (blks r 0 (l.take (i + 1))) = (repB (blks r 0 (l.take i)) && l[i].2) := by
        rw [e]
        unfold repB
        rw [List.all_append]
        simp
      simp -implicitDefEqProofs only [Bool.not_false, cond_true, hf, Option.bind_some, w]
      cases hrep : repB (blks r 0 (l.take i)) with
      | true =>
        rw [hrep, Bool.true_and] at e2
        simp -implicitDefEqProofs only [beq_self_eq_true, cond_true, Option.bind_some, Bool.not_true, cond_false]
        exact ⟨_, rfl, hi', (), by rw [e2, e], trivial⟩
      | false =>
        rw [hrep, Bool.false_and] at e2
        simp -implicitDefEqProofs only [show (false == true) = false from rfl, cond_false, Option.bind_some, Bool.not_true]
        exact ⟨_, rfl, hi', (), by rw [e2, e], trivial⟩
  · have c0 : decide ((i : Int) < (l.length : Int)) = false := decide_eq_false (by omega)
    have ht : l.take i = l := List.take_of_length_le (by omega)
    simp -implicitDefEqProofs only [c0, cond_false]
    refine ⟨_, rfl, ?_⟩
    simp only [ht]
    exact ⟨_, rfl, _, rfl, rfl⟩
/-! -/
/-! -/
def encB : Bs → Bs
  | a :: b :: c :: r => enc4 (n3 a b c) ++ encB r
  | [_, _] => []
  | [a] => (enc4 (n3 a 0 0)).take 2
  | [] => []
theorem encB_eq : ∀ s : Bs, s.length % 3 = 1 → encW s = encB s ++ [61, 61] ∧ (encB s).length % 4 = 2
  | [], h => by simp at h
  | [a], _ => ⟨by rw [encW, encB], by simp [encB, enc4]⟩
  | [a, b], h => by simp at h
  | a :: b :: c :: r, h => by
    obtain ⟨h1, h2⟩ := encB_eq r (by simp at h; omega)
    rw [encW, encB, h1, List.append_assoc]
    refine ⟨rfl, ?_⟩
    rw [List.length_append]
    simp only [enc4, List.length_cons, List.length_nil]
    omega
theorem sgn_val (n : Nat) (h : n < 64) : noV (sgn n) = false ∧ valN (sgn n) = n := by
  have := List.all_eq_true.1 (show ((List.range 64).all fun n => !noV (sgn n) && valN (sgn n) == n) = true from by kernel_rfl) n (List.mem_range.2 h)
  simpa using this
theorem encB_val : ∀ s : Bs, ∀ c ∈ encB s, noV c = false
  | [], c, h => by cases h
  | [a], c, h => by
    have h : c ∈ [sgn (n3 a 0 0 / 2 ^ 18 % 64), sgn (n3 a 0 0 / 2 ^ 12 % 64)] := h
    simp only [List.mem_cons, List.not_mem_nil, or_false] at h
    rcases h with rfl | rfl
    · exact (sgn_val _ (Nat.mod_lt _ (by decide))).1
    · exact (sgn_val _ (Nat.mod_lt _ (by decide))).1
  | [a, b], c, h => by cases h
  | a :: b :: d :: r, c, h => by
    rw [encB] at h
    rcases List.mem_append.1 h with h | h
    · unfold enc4 at h
      simp only [List.mem_cons, List.not_mem_nil, or_false] at h
      rcases h with rfl | rfl | rfl | rfl <;> exact (sgn_val _ (Nat.mod_lt _ (by decide))).1
    · exact encB_val r c h
theorem ofNat_byte {n : Nat} {a : UInt8} (h : n = a.toNat) : UInt8.ofNat n = a := by rw [h]; exact UInt8.ofNat_toNat
theorem dec_three (a b c : UInt8) (r : Bs) : decF (enc4 (n3 a b c) ++ r) 0 0 = (a :: b :: c :: (decF r 0 0).1, (decF r 0 0).2) := by
  have ha := a.toNat_lt; have hb := b.toNat_lt; have hc := c.toNat_lt
  have hn : n3 a b c = (a.toNat * 256 + b.toNat) * 256 + c.toNat := rfl
  have v1 := (sgn_val (n3 a b c / 2 ^ 18 % 64) (Nat.mod_lt _ (by decide))).2
  have v2 := (sgn_val (n3 a b c / 2 ^ 12 % 64) (Nat.mod_lt _ (by decide))).2
  have v3 := (sgn_val (n3 a b c / 2 ^ 6 % 64) (Nat.mod_lt _ (by decide))).2
  have v4 := (sgn_val (n3 a b c / 2 ^ 0 % 64) (Nat.mod_lt _ (by decide))).2
  unfold enc4
  show decF (sgn _ :: sgn _ :: sgn _ :: sgn _ :: r) 0 0 = _
  rw [decF, if_neg (by decide), decF, if_pos (by decide), decF, if_pos (by decide), decF, if_pos (by decide), v1, v2, v3, v4]
  simp only [Nat.zero_add, Nat.add_sub_cancel, Nat.reduceSub, Nat.reducePow]
  generalize n3 a b c = n at *
  have e1 : (((0 * 64 + n / 262144 % 64) * 64 + n / 4096 % 64) / 16) = a.toNat := by omega
  have e2 : ((((0 * 64 + n / 262144 % 64) * 64 + n / 4096 % 64) % 16) * 64 + n / 64 % 64) / 4 = b.toNat := by omega
  have e3 : (((((0 * 64 + n / 262144 % 64) * 64 + n / 4096 % 64) % 16) * 64 + n / 64 % 64) % 4 * 64 + n / 1 % 64) / 1 = c.toNat := by omega
  have e4 : (((((0 * 64 + n / 262144 % 64) * 64 + n / 4096 % 64) % 16) * 64 + n / 64 % 64) % 4 * 64 + n / 1 % 64) % 1 = 0 := Nat.mod_one _
  simp only [Nat.zero_mul, Nat.zero_add] at e1 e2 e3 e4 ⊢
  rw [e4, ofNat_byte e1, ofNat_byte e2, ofNat_byte e3]
theorem dec_one (a : UInt8) : decF ((enc4 (n3 a 0 0)).take 2) 0 0 = ([a], 0) := by
  have ha := a.toNat_lt
  have hn : n3 a 0 0 = (a.toNat * 256 + 0) * 256 + 0 := rfl
  have v1 := (sgn_val (n3 a 0 0 / 2 ^ 18 % 64) (Nat.mod_lt _ (by decide))).2
  have v2 := (sgn_val (n3 a 0 0 / 2 ^ 12 % 64) (Nat.mod_lt _ (by decide))).2
  unfold enc4
  show decF [sgn _, sgn _] 0 0 = _
  rw [decF, if_neg (by decide), decF, if_pos (by decide), decF, v1, v2]
  simp only [Nat.zero_add, Nat.reduceSub, Nat.reducePow]
  generalize n3 a 0 0 = n at *
  have e1 : (((0 * 64 + n / 262144 % 64) * 64 + n / 4096 % 64) / 16) = a.toNat := by omega
  have e2 : (((0 * 64 + n / 262144 % 64) * 64 + n / 4096 % 64) % 16) = 0 := by omega
  simp only [Nat.zero_mul, Nat.zero_add] at e1 e2 ⊢
  rw [e2, ofNat_byte e1]
theorem dec_encB : ∀ s : Bs, s.length % 3 = 1 → decF (encB s) 0 0 = (s, 0)
  | [], h => by simp at h
  | [a], _ => by rw [encB, dec_one]
  | [a, b], h => by simp at h
  | a :: b :: c :: r, h => by
    rw [encB, dec_three, dec_encB r (by simp at h; omega)]
theorem dec_enc (s : Bs) (h : s.length % 3 = 1) : decW (encW s) = s := by
  obtain ⟨h1, h2⟩ := encB_eq s h
  have hh : headB (encW s) = encB s := by
    unfold headB
    rw [h1, show encB s ++ [61, 61] = (encB s ++ [61]) ++ [61] by simp, cutE_snoc, if_pos rfl, cutE_snoc, if_pos rfl]
  have hne : encB s ≠ [] := fun e => by rw [e] at h2; simp at h2
  have hf : formB (encW s) = true := by
    unfold formB
    rw [hh]
    have : (encB s == ([] : Bs)) = false := by simpa using hne
    rw [this, Bool.not_false, Bool.true_and, List.all_eq_true]
    intro c hc
    rw [encB_val s c hc]
    rfl
  have hno : decNo (encW s) = false := by
    unfold decNo
    rw [hf, hh]
    have a1 : ((encB s).length % 4 == 1) = false := by rw [h2]; rfl
    have a2 : ((encW s).length % 4 != 0) = false := by
      rw [h1, List.length_append]
      have : ((encB s).length + ([61, 61] : Bs).length) % 4 = 0 := by simp; omega
      rw [this]; rfl
    rw [a1, a2, Bool.and_false]
    rfl
  unfold decW
  rw [if_neg (by rw [h1]; simp), if_neg (by rw [hno]; decide), hh, dec_encB s h, if_pos rfl]
/-! -/
theorem rune_ascii {s : Bs} {i : Nat} (h : i < s.length) (ha : s[i].toNat < 128) : runeAt s i = ((s[i].toNat : Nat) : Int) ∧ nextPos s i = i + 1 := by
  have e := decode_ascii ⟨s.toArray⟩ i (by show i < s.toArray.size; simpa using h) (by simpa [ByteArray.getElem_eq_getElem_data] using ha)
  unfold runeAt nextPos
  rw [e, decide_eq_true h]
  simp [ByteArray.getElem_eq_getElem_data]
def cpl (n : Int) : Int := (IntKind.wrap .i64 ((BitVec.toNat (BitVec.ofInt 64 (xorC .i64) ^^^ BitVec.ofInt 64 n) : Nat) : Int))
abbrev FS := Int × (List (Int × Int) × Nat)
def fst1 (s : FS) (c : UInt8) : FS := bif blanks.contains c then (bif decide (s.1 ≥ 0) then (cpl s.1, (s.2.1 ++ [(s.1, (s.2.2 : Int))], s.2.2 + 1)) else (s.1, (s.2.1, s.2.2 + 1))) else (bif decide (s.1 < 0) then ((s.2.2 : Int), (s.2.1, s.2.2 + 1)) else (s.1, (s.2.1, s.2.2 + 1)))
def runF (s : Bs) : FS := s.foldl fst1 (-1, ([], 0))
theorem runF_pos (s : Bs) : ∀ x : FS, (s.foldl fst1 x).2.2 = x.2.2 + s.length := by
  induction s with
  | nil => intro x; rfl
  | cons c s ih =>
    intro x
    rw [List.foldl_cons, ih, List.length_cons]
    unfold fst1
    cases blanks.contains c <;> cases decide (x.1 ≥ 0) <;> cases decide (x.1 < 0) <;> simp <;> omega
theorem runF_len (s : Bs) : ∀ x : FS, (s.foldl fst1 x).2.1.length ≤ x.2.1.length + s.length := by
  induction s with
  | nil => intro x; simp
  | cons c s ih =>
    intro x
    rw [List.foldl_cons, List.length_cons]
    have := ih (fst1 x c)
    have h2 : (fst1 x c).2.1.length ≤ x.2.1.length + 1 := by
      unfold fst1
      cases blanks.contains c <;> cases decide (x.1 ≥ 0) <;> cases decide (x.1 < 0) <;> simp
    omega
theorem runF_in (w : Bs) (hw : ∀ c ∈ w, blanks.contains c = false) : ∀ (st : Int) (sp : List (Int × Int)) (p : Nat), 0 ≤ st → w.foldl fst1 (st, (sp, p)) = (st, (sp, p + w.length)) := by
  induction w with
  | nil => intro st sp p _; rfl
  | cons c w ih =>
    intro st sp p h
    rw [List.foldl_cons]
    have e : fst1 (st, (sp, p)) c = (st, (sp, p + 1)) := by
      unfold fst1
      rw [hw c (List.mem_cons_self ..), cond_false, decide_eq_false (show ¬ st < 0 by omega), cond_false]
    rw [e, ih (fun x hx => hw x (List.mem_cons_of_mem _ hx)) st sp (p + 1) h, List.length_cons]
    congr 2; omega
theorem runF_word (w : Bs) (h0 : w ≠ []) (hw : ∀ c ∈ w, blanks.contains c = false) (st : Int) (sp : List (Int × Int)) (p : Nat) (h : st < 0) : w.foldl fst1 (st, (sp, p)) = ((p : Int), (sp, p + w.length)) := by
  cases w with
  | nil => exact absurd rfl h0
  | cons c w =>
    rw [List.foldl_cons]
    have e : fst1 (st, (sp, p)) c = ((p : Int), (sp, p + 1)) := by
      unfold fst1
      rw [hw c (List.mem_cons_self ..), cond_false, decide_eq_true h, cond_true]
    rw [e, runF_in w (fun x hx => hw x (List.mem_cons_of_mem _ hx)) _ sp (p + 1) (by omega), List.length_cons]
    congr 2; omega
theorem sethas_eq (V : Ev) (c : UInt8) (hc : c.toNat < 128) : fold_set_has_ V ((blanks, ((((c.toNat : Nat) : Int)), ())), ()) = some ((blanks.contains c, ()), ()) := by
  have := fa_byte (P := fun c => !decide (c.toNat < 128) || (fold_set_has_ Ev.all ((blanks, ((((c.toNat : Nat) : Int)), ())), ()) == some ((blanks.contains c, ()), ()))) (by kernel_rfl) c
  rw [decide_eq_true hc, Bool.not_true, Bool.false_or] at this
  exact beq_iff_eq.1 this
def spansF (s : Bs) : List (Int × Int) := bif decide ((runF s).1 ≥ 0) then (runF s).2.1 ++ [((runF s).1, (s.length : Int))] else (runF s).2.1
def wordAt (s : Bs) (p : Int × Int) : Bs := (s.take p.2.toNat).drop p.1.toNat
theorem Words_eq (s : Bs) (hs : s.length ≤ 10000) (ha : ∀ c ∈ s, c.toNat < 128) (hsp : ∀ p ∈ spansF s, 0 ≤ p.1 ∧ p.1 ≤ p.2 ∧ p.2 ≤ (s.length : Int)) : fold_Words_ (Ev.upto 200000) ((s, ()), ()) = some ((), ((spansF s).map (wordAt s), ())) := by
  apply wp_eq
  unfold fold_Words_ strings_FieldsFunc_25a
  have hfit : (decide ((0 : Int) ≤ (32 : Int)) && fits (Int.toNat (32 : Int)) 16) = true := by kernel_rfl
  simp -implicitDefEqProofs only [hfit, cond_true]
  refine wp_bind (wp_bind ?_)
  refine wp_for (σ := Unit) (fun i _ => ((s, (blanks, ((runF (s.take i)).1, ()))), ((runF (s.take i)).2.1, ((s, i), ())))) (fun _ _ => True) s.length () rfl trivial (by omega) ?_
  rintro i _ hi _
  by_cases hi' : i < s.length
  · have c0 : decide (i < s.length) = true := decide_eq_true hi'
    obtain ⟨r1, r2⟩ := rune_ascii hi' (ha _ (List.getElem_mem hi'))
    have q := sethas_eq (Ev.upto 200000) s[i] (ha _ (List.getElem_mem hi'))
    have hp := runF_pos (s.take i) (-1, ([], 0))
    have hl := runF_len (s.take i) (-1, ([], 0))
    have e : runF (s.take (i + 1)) = fst1 (runF (s.take i)) s[i] := by
      unfold runF
      rw [List.take_succ_eq_append_getElem hi', List.foldl_append]
      rfl
    have hp' : (runF (s.take i)).2.2 = i := by
      have : (s.take i).length = i := by simp; omega
      unfold runF
      rw [hp, this]; simp
    have hl' : (runF (s.take i)).2.1.length ≤ 10000 := by
      have : (s.take i).length ≤ 10000 := by simp; omega
      unfold runF
      simp at hl; simp; omega
    generalize runF (s.take i) = x at *
    obtain ⟨st, sp, p⟩ := x
    simp only at hp' hl'
    subst hp'
    have hf : fits (sp.length + ([(st, (p : Int))] : List (Int × Int)).length) 16 = true := fits_of (by simp; omega)
    simp -implicitDefEqProofs only [c0, cond_true, r1, r2, q, Option.bind_some]
    unfold fst1 at e
    cases hb : blanks.contains s[p] with
    | true =>
      rw [hb, cond_true] at e
      cases h0 : decide (st ≥ 0) with
      | true =>
        rw [h0, cond_true] at e
        simp -implicitDefEqProofs only [cond_true, hf, h0, Option.bind_some]
        exact ⟨_, rfl, hi', (), by rw [e]; rfl, trivial⟩
      | false =>
        rw [h0, cond_false] at e
        simp -implicitDefEqProofs only [cond_true, cond_false, h0, Option.bind_some]
        exact ⟨_, rfl, hi', (), by rw [e], trivial⟩
    | false =>
      rw [hb, cond_false] at e
      cases h0 : decide (st < 0) with
      | true =>
        rw [h0, cond_true] at e
        simp -implicitDefEqProofs only [cond_true, cond_false, h0, Option.bind_some]
        exact ⟨_, rfl, hi', (), by rw [e], trivial⟩
      | false =>
        rw [h0, cond_false] at e
        simp -implicitDefEqProofs only [cond_false, h0, Option.bind_some]
        exact ⟨_, rfl, hi', (), by rw [e], trivial⟩
  · have c0 : decide (i < s.length) = false := decide_eq_false hi'
    have ht : s.take i = s := List.take_of_length_le (by omega)
    have hl := runF_len s (-1, ([], 0))
    simp -implicitDefEqProofs only [c0, cond_false, ht]
    refine ⟨_, rfl, ?_⟩
    simp -implicitDefEqProofs only []
    have hl' : (runF s).2.1.length ≤ 10000 := by unfold runF; simp at hl; omega
    refine wp_seq (fun o => o = ((s, ()), (spansF s, ()))) ?_ ?_
    · unfold spansF
      have hf : fits ((runF s).2.1.length + ([((runF s).1, (s.length : Int))] : List (Int × Int)).length) 16 = true := fits_of (by simp; omega)
      cases h0 : decide ((runF s).1 ≥ 0) with
      | true =>
        simp -implicitDefEqProofs only [cond_true, hf]
        exact ⟨_, rfl, rfl⟩
      | false => exact ⟨_, rfl, rfl⟩
    · rintro _ rfl
      have hL : (spansF s).length ≤ 10001 := by
        unfold spansF
        cases decide ((runF s).1 ≥ 0) <;> simp <;> omega
      generalize spansF s = L at *
      have g1 : (decide ((0 : Int) ≤ (L.length : Int)) && ((L.length : Int)) == (L.length : Int) && fits L.length 16) = true := by
        rw [decide_eq_true (by omega), beq_self_eq_true, fits_of (by omega)]; rfl
      simp -implicitDefEqProofs only [g1, cond_true, Int.toNat_natCast]
      refine wp_bind ?_
      refine wp_for (σ := Unit) (fun i _ => ((s, ((L.length : Int), ((i : Int), ()))), ((L.take i).map (wordAt s) ++ List.replicate (L.length - i) ([] : Bs), (L, ())))) (fun _ _ => True) L.length () rfl trivial (by omega) ?_
      rintro k _ hk _
      by_cases hk' : k < L.length
      · have d0 : decide ((k : Int) < (L.length : Int)) = true := decide_eq_true (by omega)
        have hlen : ((L.take k).map (wordAt s) ++ List.replicate (L.length - k) ([] : Bs)).length = L.length := by simp; omega
        have d1 : (decide (0 ≤ (k : Int)) && decide ((k : Int) < (L.length : Int))) = true := by rw [d0, decide_eq_true (by omega)]; rfl
        have d2 : (decide (0 ≤ (k : Int)) && decide ((k : Int) < ((((L.take k).map (wordAt s) ++ List.replicate (L.length - k) ([] : Bs)).length : Nat) : Int))) = true := by rw [hlen]; exact d1
        obtain ⟨p1, p2, p3⟩ := hsp _ (List.getElem_mem hk')
        have q := sl_int (l := s) p1 p2 p3
        have w4 : IntKind.wrap .i64 ((k : Int) + 1) = ((k + 1 : Nat) : Int) := by rw [wrap64 (by omega) (by omega)]; omega
        have g : ((L.take k).map (wordAt s) ++ List.replicate (L.length - k) ([] : Bs))[k]? = some [] := by
          rw [List.getElem?_append_right (by simp; omega), List.length_map, List.length_take, Nat.min_eq_left (by omega), Nat.sub_self, List.getElem?_replicate, if_pos (by omega)]
        have hset : ((L.take k).map (wordAt s) ++ List.replicate (L.length - k) ([] : Bs)).set k (wordAt s L[k]) = (L.take (k + 1)).map (wordAt s) ++ List.replicate (L.length - (k + 1)) ([] : Bs) := by
          have hkl : ((L.take k).map (wordAt s)).length = k := by simp; omega
          rw [List.set_append_right _ _ (by omega), hkl, Nat.sub_self, show L.length - k = (L.length - (k + 1)) + 1 by omega, List.replicate_succ, List.set_cons_zero, List.take_succ_eq_append_getElem hk', List.map_append, List.append_assoc]
          rfl
        simp -implicitDefEqProofs only [d0, d1, d2, cond_true, Int.toNat_natCast, List.getElem?_eq_getElem hk', Option.bind_some, q, g, w4]
        refine ⟨_, rfl, hk', (), ?_, trivial⟩
        rw [← hset]
        rfl
      · have d0 : decide ((k : Int) < (L.length : Int)) = false := decide_eq_false (by omega)
        obtain rfl : k = L.length := by omega
        have e : (L.take L.length).map (wordAt s) ++ List.replicate (L.length - L.length) ([] : Bs) = L.map (wordAt s) := by simp
        simp -implicitDefEqProofs only [d0, cond_false, e]
        exact ⟨_, rfl, _, rfl, _, rfl, rfl⟩
/-! -/
theorem Parts_one (S : Bs) (c : UInt8) (hS : S.length ≤ 100000) (h : c ∉ S) : fold_Parts_ (Ev.upto 200000) ((S, ((((c.toNat : Nat) : Int)), ())), ()) = some ((), ([trimB S], ())) := by
  unfold fold_Parts_
  have q := IB_eq (Ev.upto 200000) S c
  have q2 := trim_eq (Ev.upto 200000) ((S, ()), ())
  have hn := (indexByte_neg S c).2 h
  have hf : fits (([] : List Bs).length + ([trimB S] : List Bs).length) 16 = true := fits_of (by simp)
  obtain ⟨n, hnn⟩ : ∃ n, 200000 = n + 1 := ⟨199999, rfl⟩
  rw [hnn] at q q2 ⊢
  rw [upto_it]
  unfold iterN
  simp -implicitDefEqProofs only [q, Option.bind_some, decide_eq_true hn, cond_true, q2, hf, List.nil_append]
def wdC (c : UInt8) : Bool := decide ((c.toNat : Int) > 32) && (decide ((c.toNat : Int) < 127) && (((c.toNat : Int) != 44) && ((c.toNat : Int) != 59)))
theorem word1_eq (V : Ev) (c : UInt8) : header_word_1_ V ((((c.toNat : Nat) : Int), ()), ()) = some ((wdC c, ()), ()) := by
  unfold header_word_1_ wdC
  simp -implicitDefEqProofs only []
  cases decide (((c.toNat : Nat) : Int) > 32) <;> cases decide (((c.toNat : Nat) : Int) < 127) <;> cases (((c.toNat : Nat) : Int) != 44) <;> rfl
theorem word_ok (w : Bs) (h0 : w ≠ []) (hl : w.length ≤ 1000) (hw : ∀ c ∈ w, wdC c = true) : header_word_ (Ev.upto 200000) ((w, ()), ()) = some ((true, ()), ()) := by
  apply wp_eq
  unfold header_word_ header_all_baf
  refine wp_bind (wp_bind ?_)
  refine wp_for (σ := Unit) (fun i _ => ((w, ((w.length : Int), ((i : Int), ()))), ())) (fun _ _ => True) w.length () rfl trivial (by omega) ?_
  rintro i _ hi _
  by_cases hi' : i < w.length
  · have c0 : decide ((i : Int) < (w.length : Int)) = true := decide_eq_true (by omega)
    have w4 : IntKind.wrap .i64 ((i : Int) + 1) = ((i + 1 : Nat) : Int) := by rw [wrap64 (by omega) (by omega)]; omega
    simp -implicitDefEqProofs only [c0, cond_true, idx_nat hi', Option.bind_some, word1_eq (Ev.upto 200000) w[i], hw _ (List.getElem_mem hi'), Bool.not_true, cond_false, w4]
    exact ⟨_, rfl, hi', (), rfl, trivial⟩
  · have c0 : decide ((i : Int) < (w.length : Int)) = false := decide_eq_false (by omega)
    have e0 : (w == ([] : Bs)) = false := by simpa using h0
    simp -implicitDefEqProofs only [c0, cond_false]
    exact ⟨_, rfl, _, rfl, _, rfl, by show (((!(w == ([] : Bs)), ()), ()) : (Bool × Unit) × Unit) = _; rw [e0]; rfl⟩
def okW (w : Bs) : Prop := w ≠ [] ∧ w.length ≤ 1000 ∧ ∀ c ∈ w, wdC c = true
theorem IndexFunc_no (l : List Bs) (hl : l.length ≤ 1000) (h : ∀ w ∈ l, okW w) : slices_IndexFunc__string_string_7e9 (Ev.upto 200000) ((l, ()), ()) = some (((-1 : Int), ()), ()) := by
  apply wp_eq
  unfold slices_IndexFunc__string_string_7e9
  refine wp_bind ?_
  refine wp_for (σ := Unit) (fun i _ => ((l, ((l.length : Int), ((i : Int), ()))), ())) (fun _ _ => True) l.length () rfl trivial (by omega) ?_
  rintro i _ hi _
  by_cases hi' : i < l.length
  · have c0 : decide ((i : Int) < (l.length : Int)) = true := decide_eq_true (by omega)
    have w4 : IntKind.wrap .i64 ((i : Int) + 1) = ((i + 1 : Nat) : Int) := by rw [wrap64 (by omega) (by omega)]; omega
    obtain ⟨h1, h2, h3⟩ := h _ (List.getElem_mem hi')
    have q := word_ok l[i] h1 h2 h3
    simp -implicitDefEqProofs only [c0, cond_true, idx_nat hi', Option.bind_some, header_directives_1_1_, q, Bool.not_true, cond_false, w4]
    exact ⟨_, rfl, hi', (), rfl, trivial⟩
  · have c0 : decide ((i : Int) < (l.length : Int)) = false := decide_eq_false (by omega)
    simp -implicitDefEqProofs only [c0, cond_false]
    exact ⟨_, rfl, _, rfl, rfl⟩
theorem DeleteFunc_no (l : List Bs) (a b : Nat) (hl : l.length ≤ 1000) (h : ∀ w ∈ (l.drop a).take (b - a), okW w) : slices_DeleteFunc__string_string_80a (Ev.upto 200000) (((a, b), ()), (l, ())) = some (((a, b), ()), (l, ())) := by
  unfold slices_DeleteFunc__string_string_80a
  have q := IndexFunc_no ((l.drop a).take (b - a)) (by simp; omega) h
  simp -implicitDefEqProofs only [q, Option.bind_some, beq_self_eq_true, cond_true]
theorem named_src : header_named_ (Ev.upto 200000) ((nSrc, ()), ()) = some ((true, ()), ()) := by kernel_rfl
theorem low_src : lowerB nSrc = nSrc := by kernel_rfl
structure OneD (S : Bs) (ws : List Bs) : Prop where
  len : S.length ≤ 10000
  no44 : (44 : UInt8) ∉ S
  no59 : (59 : UInt8) ∉ S
  trim : trimB S = S
  ascii : ∀ c ∈ S, c.toNat < 128
  spans : ∀ p ∈ spansF S, 0 ≤ p.1 ∧ p.1 ≤ p.2 ∧ p.2 ≤ (S.length : Int)
  words : (spansF S).map (wordAt S) = nSrc :: ws
  wlen : ws.length ≤ 200
  ok : ∀ w ∈ ws, okW w
theorem directives_one {S : Bs} {ws : List Bs} (h : OneD S ws) (Y : (sigY8870).In → Option (sigY8870).Out) (z z' : Bool) (ds ds' : List Dir) (hY : Y (((nSrc, ws), ()), ((z, ()), (ds, ()))) = some ((true, ()), ((z', ()), (ds', ())))) :
    header_directives_1_f2e (Ev.upto 200000) Y ((), ((z, ()), ((S, ()), (ds, ())))) = some ((), ((z', ()), ((S, ()), (ds', ())))) := by
  apply wp_eq
  unfold header_directives_1_f2e
  have q1 := Parts_one S 59 (by have := h.len; omega) h.no59
  rw [h.trim] at q1
  rw [show (((59 : UInt8).toNat : Nat) : Int) = 59 from rfl] at q1
  have q2 := Words_eq S h.len h.ascii h.spans
  rw [h.words] at q2
  have q3 := lower_eq 200000 nSrc (by decide) (by decide)
  rw [low_src] at q3
  have hwl := h.wlen
  have q4 := DeleteFunc_no (nSrc :: ws) 1 (ws.length + 1) (by simp; omega) (fun w hw => by
    rw [List.drop_succ_cons, List.drop_zero] at hw
    exact h.ok w (List.mem_of_mem_take hw))
  have hm : mn (((nSrc :: ws).length : Nat) : Int) (201 : Int) = ((ws.length + 1 : Nat) : Int) := by
    unfold mn; simp; omega
  have e0 : ((((nSrc :: ws).length : Nat) : Int) == (0 : Int)) = false := by rw [beq_eq_false_iff_ne]; simp; omega
  have e1 : (decide (0 ≤ (0 : Int)) && decide ((0 : Int) < (((nSrc :: ws).length : Nat) : Int))) = true := by rw [decide_eq_true (by omega), decide_eq_true (by simp)]; rfl
  have e2 : (decide (0 ≤ (1 : Int)) && decide ((1 : Int) ≤ ((ws.length + 1 : Nat) : Int)) && decide (((ws.length + 1 : Nat) : Int) ≤ (((nSrc :: ws).length : Nat) : Int))) = true := by
    rw [decide_eq_true (by omega), decide_eq_true (by omega), decide_eq_true (by simp)]; rfl
  have e3 : (((nSrc :: ws).drop 1).take (ws.length + 1 - 1)) = ws := by simp
  simp -implicitDefEqProofs only [q1, Option.bind_some]
  refine wp_bind ?_
  refine wp_for (σ := Bool × List Dir) (fun i s => (((([S] : List Bs).length : Int), ((i : Int), ())), ((s.1, ()), ((S, ()), ([S], (s.2, ())))))) (fun i s => s = bif i == 0 then (z, ds) else (z', ds')) 1 (z, ds) rfl rfl (by omega) ?_
  rintro i s hi rfl
  by_cases hi' : i < 1
  · obtain rfl : i = 0 := by omega
    have c0 : decide (((0 : Nat) : Int) < ((([S] : List Bs).length : Nat) : Int)) = true := rfl
    have c1 : (decide (0 ≤ ((0 : Nat) : Int)) && decide (((0 : Nat) : Int) < ((([S] : List Bs).length : Nat) : Int))) = true := rfl
    have g0 : ([S] : List Bs)[(((0 : Nat) : Int)).toNat]? = some S := rfl
    have g1 : (nSrc :: ws)[((0 : Int)).toNat]? = some nSrc := rfl
    have t1 : ((1 : Int)).toNat = 1 := rfl
    have t2 : (((ws.length + 1 : Nat) : Int)).toNat = ws.length + 1 := rfl
    have w4 : IntKind.wrap .i64 (((0 : Nat) : Int) + 1) = ((0 + 1 : Nat) : Int) := rfl
    simp -implicitDefEqProofs only [beq_self_eq_true, cond_true, c0, c1, g0, Option.bind_some, q2, e0, cond_false, e1, g1, q3, hm, e2, t1, t2, q4, named_src, e3, hY, Bool.not_true, w4]
    exact ⟨_, rfl, by omega, _, rfl, rfl⟩
  · obtain rfl : i = 1 := by omega
    have c0 : decide (((1 : Nat) : Int) < ((([S] : List Bs).length : Nat) : Int)) = false := rfl
    have z0 : ((1 : Nat) == 0) = false := rfl
    simp -implicitDefEqProofs only [c0, cond_false, z0]
    exact ⟨_, rfl, _, rfl, rfl⟩
theorem Parse_one {S : Bs} {ws : List Bs} (h : OneD S ws) : header_Parse_ (Ev.upto 200000) ((S, (false, ())), ()) = some ((), ([([(nSrc, ws)], false)], ())) := by
  apply wp_eq
  unfold header_Parse_
  have q1 := Parts_one S 44 (by have := h.len; omega) h.no44
  rw [h.trim] at q1
  rw [show (((44 : UInt8).toNat : Nat) : Int) = 44 from rfl] at q1
  have hr : header_Parse_r (Ev.upto 200000) (((nSrc, ws), ()), ((false, ()), (([] : List Dir), ()))) = some ((true, ()), ((false, ()), ([(nSrc, ws)], ()))) := by
    unfold header_Parse_r
    have qf := Find_eq (([] : List Dir), false) nSrc ⟨by simp, fun d hd => by cases hd⟩ (by decide)
    have hf : fits (([] : List Dir).length + ([(nSrc, ws)] : List Dir).length) 40 = true := fits_of (by simp)
    simp -implicitDefEqProofs only [Option.bind_some, qf, findD, Option.isSome_none, Bool.not_false, cond_true, hf, List.nil_append]
  have q2 := directives_one h (header_Parse_r (Ev.upto 200000)) false false [] [(nSrc, ws)] hr
  simp -implicitDefEqProofs only [q1, Option.bind_some]
  refine wp_seq (fun o => o = ((), ([([(nSrc, ws)], false)], ()))) ?_ ?_
  · refine wp_for (σ := List Pol) (fun i s => ((false, (((([S] : List Bs).length : Nat) : Int), ((i : Int), ()))), (s, ([S], ())))) (fun i s => s = bif i == 0 then [] else [([(nSrc, ws)], false)]) 1 [] rfl rfl (by omega) ?_
    rintro i s hi rfl
    by_cases hi' : i < 1
    · obtain rfl : i = 0 := by omega
      have c0 : decide (((0 : Nat) : Int) < ((([S] : List Bs).length : Nat) : Int)) = true := rfl
      have c1 : (decide (0 ≤ ((0 : Nat) : Int)) && decide (((0 : Nat) : Int) < ((([S] : List Bs).length : Nat) : Int))) = true := rfl
      have g0 : ([S] : List Bs)[(((0 : Nat) : Int)).toNat]? = some S := rfl
      have c2 : decide (((([(nSrc, ws)] : List Dir).length : Nat) : Int) > (0 : Int)) = true := rfl
      have hf : fits (([] : List Pol).length + ([([(nSrc, ws)], false)] : List Pol).length) 32 = true := fits_of (by simp)
      have w4 : IntKind.wrap .i64 (((0 : Nat) : Int) + 1) = ((0 + 1 : Nat) : Int) := rfl
      simp -implicitDefEqProofs only [beq_self_eq_true, cond_true, c0, c1, g0, Option.bind_some, header_directives_567, q2, c2, hf, List.nil_append, w4]
      exact ⟨_, rfl, by omega, _, rfl, rfl⟩
    · obtain rfl : i = 1 := by omega
      have c0 : decide (((1 : Nat) : Int) < ((([S] : List Bs).length : Nat) : Int)) = false := rfl
      have z0 : ((1 : Nat) == 0) = false := rfl
      simp -implicitDefEqProofs only [c0, cond_false, z0]
      exact ⟨_, rfl, rfl⟩
  · rintro _ rfl
    exact ⟨_, rfl, rfl⟩
/-! -/
def goodC (c : UInt8) : Bool := wdC c && (decide (c.toNat < 128) && (!blanks.contains c && (!(c == 44) && !(c == 59))))
def mw (m : Bs) : Bs := [39, 109, 97, 114, 107, 45] ++ encW m ++ [39]
def uh : Bs := [39, 117, 110, 115, 97, 102, 101, 45, 104, 97, 115, 104, 101, 115, 39]
theorem goodV (c : UInt8) (h : noV c = false) : goodC c = true := by
  have := fa_byte (P := fun c => noV c || goodC c) (by kernel_rfl) c
  rw [h, Bool.false_or] at this
  exact this
theorem mw_good (m : Bs) (hm : m.length % 3 = 1) : ∀ c ∈ mw m, goodC c = true := by
  intro c hc
  unfold mw at hc
  rw [(encB_eq m hm).1] at hc
  simp only [List.mem_append, List.mem_cons, List.not_mem_nil, or_false] at hc
  rcases hc with (h | (h | h)) | h
  · rcases h with rfl | rfl | rfl | rfl | rfl | rfl <;> kernel_rfl
  · exact goodV c (encB_val m c h)
  · rcases h with rfl | rfl <;> kernel_rfl
  · subst h; kernel_rfl
theorem uh_good : ∀ c ∈ uh, goodC c = true := List.all_eq_true.1 (show uh.all goodC = true by kernel_rfl)
theorem src_good : ∀ c ∈ nSrc, goodC c = true := List.all_eq_true.1 (show nSrc.all goodC = true by kernel_rfl)
theorem good_wd {c : UInt8} (h : goodC c = true) : wdC c = true := by unfold goodC at h; simp only [Bool.and_eq_true] at h; exact h.1
theorem good_asc {c : UInt8} (h : goodC c = true) : c.toNat < 128 := by unfold goodC at h; simp only [Bool.and_eq_true, decide_eq_true_eq] at h; exact h.2.1
theorem good_bl {c : UInt8} (h : goodC c = true) : blanks.contains c = false := by unfold goodC at h; simp only [Bool.and_eq_true, Bool.not_eq_true'] at h; exact h.2.2.1
theorem good_44 {c : UInt8} (h : goodC c = true) : c ≠ 44 ∧ c ≠ 59 := by unfold goodC at h; simp only [Bool.and_eq_true, Bool.not_eq_true', beq_eq_false_iff_ne] at h; exact h.2.2.2
theorem trim_same {S : Bs} (h0 : S ≠ []) (hf : blanks.contains (firstC S) = false) (hl : blanks.contains (lastC S) = false) : trimB S = S := by
  have hp : 0 < S.length := List.length_pos_iff.2 h0
  unfold trimB Lib.trimS
  rw [Lib.trimRightS_take S blanks S.length (Nat.le_refl _) (fun j b hj hb => by rw [List.getElem?_eq_none hj] at hb; cases hb) (fun b _ hb => by
    have : lastC S = b := by unfold lastC; rw [List.getLast?_eq_getElem?, hb]; rfl
    rw [← this]; exact hl), List.take_length]
  have := Lib.trimLeftS_drop S blanks 0 (Nat.zero_le _) (fun j b hj _ => absurd hj (Nat.not_lt_zero _)) (fun b hb => by
    have : firstC S = b := by unfold firstC; rw [List.head?_eq_getElem?, hb]; rfl
    rw [← this]; exact hf)
  rw [this, List.drop_zero]
theorem cpl11 : cpl 11 = -12 := by kernel_rfl
theorem lastC_end (x : Bs) (c : UInt8) : lastC (x ++ [c]) = c := by unfold lastC; rw [List.getLast?_concat]; rfl
theorem run_src (r : Bs) : runF (nSrc ++ 32 :: r) = r.foldl fst1 (-1, ([(0, 10)], 11)) := by
  unfold runF
  rw [List.foldl_append, runF_word nSrc (by decide) (fun c hc => good_bl (src_good c hc)) (-1) [] 0 (by decide), List.foldl_cons]
  congr 1
theorem one_word (w : Bs) (h0 : w ≠ []) (hl : w.length ≤ 1000) (hw : ∀ c ∈ w, goodC c = true) : OneD (nSrc ++ 32 :: w) [w] := by
  have hlen : (nSrc ++ 32 :: w).length = w.length + 11 := by simp [nSrc]
  have hr : runF (nSrc ++ 32 :: w) = (11, ([(0, 10)], 11 + w.length)) := by
    rw [run_src, runF_word w h0 (fun c hc => good_bl (hw c hc)) (-1) _ 11 (by decide)]
    rfl
  have hsp : spansF (nSrc ++ 32 :: w) = [(0, 10), (11, ((w.length + 11 : Nat) : Int))] := by
    unfold spansF
    rw [hr, hlen]
    rfl
  have mem : ∀ c ∈ nSrc ++ 32 :: w, goodC c = true ∨ c = 32 := fun c hc => by
    rcases List.mem_append.1 hc with h | h
    · exact .inl (src_good c h)
    · rcases List.mem_cons.1 h with h | h
      · exact .inr h
      · exact .inl (hw c h)
  refine ⟨by omega, fun h => ?_, fun h => ?_, ?_, fun c hc => ?_, ?_, ?_, by simp, ?_⟩
  · rcases mem _ h with h | h
    · exact (good_44 h).1 rfl
    · cases h
  · rcases mem _ h with h | h
    · exact (good_44 h).2 rfl
    · cases h
  · obtain h | ⟨x, c, rfl⟩ := snoc_cases w
    · exact absurd h h0
    · refine trim_same (by simp) (by kernel_rfl) ?_
      rw [show nSrc ++ 32 :: (x ++ [c]) = (nSrc ++ 32 :: x) ++ [c] by simp, lastC_end]
      exact good_bl (hw c (by simp))
  · rcases mem _ hc with h | h
    · exact good_asc h
    · subst h; decide
  · rw [hsp, hlen]
    intro p hp
    simp only [List.mem_cons, List.not_mem_nil, or_false] at hp
    rcases hp with rfl | rfl
    · refine ⟨by decide, by decide, by simp; omega⟩
    · refine ⟨by show (0 : Int) ≤ 11; decide, by simp; omega, by simp⟩
  · rw [hsp]
    simp only [List.map_cons, List.map_nil]
    have e1 : wordAt (nSrc ++ 32 :: w) (0, 10) = nSrc := rfl
    have e2 : wordAt (nSrc ++ 32 :: w) (11, ((w.length + 11 : Nat) : Int)) = w := by
      unfold wordAt
      simp only [Int.toNat_natCast]
      rw [List.take_of_length_le (by omega)]
      rfl
    rw [e1, e2]
  · intro x hx
    rw [List.mem_singleton.1 hx]
    exact ⟨h0, hl, fun c hc => good_wd (hw c hc)⟩
theorem two_words (w v : Bs) (h0 : w ≠ []) (hl : w.length ≤ 1000) (hw : ∀ c ∈ w, goodC c = true) (g0 : v ≠ []) (gl : v.length ≤ 1000) (hv : ∀ c ∈ v, goodC c = true) : OneD (nSrc ++ 32 :: (w ++ 32 :: v)) [w, v] := by
  have hlen : (nSrc ++ 32 :: (w ++ 32 :: v)).length = w.length + v.length + 12 := by simp [nSrc]; omega
  have hr : runF (nSrc ++ 32 :: (w ++ 32 :: v)) = (((12 + w.length : Nat) : Int), ([(0, 10), (11, ((11 + w.length : Nat) : Int))], 12 + w.length + v.length)) := by
    rw [run_src, List.foldl_append, runF_word w h0 (fun c hc => good_bl (hw c hc)) (-1) _ 11 (by decide), List.foldl_cons]
    have e : fst1 (((11 : Nat) : Int), ([(0, 10)], 11 + w.length)) 32 = (-12, ([(0, 10), (11, ((11 + w.length : Nat) : Int))], 12 + w.length)) := by
      show (cpl 11, ([(0, 10)] ++ [((((11 : Nat) : Int)), ((11 + w.length : Nat) : Int))], 11 + w.length + 1)) = _
      rw [cpl11]
      congr 2
      omega
    rw [e, runF_word v g0 (fun c hc => good_bl (hv c hc)) (-12) _ _ (by decide)]
  have hsp : spansF (nSrc ++ 32 :: (w ++ 32 :: v)) = [(0, 10), (11, ((11 + w.length : Nat) : Int)), (((12 + w.length : Nat) : Int), ((w.length + v.length + 12 : Nat) : Int))] := by
    unfold spansF
    rw [hr, hlen]
    rw [decide_eq_true (show ((12 + w.length : Nat) : Int) ≥ 0 by omega)]
    rfl
  have mem : ∀ c ∈ nSrc ++ 32 :: (w ++ 32 :: v), goodC c = true ∨ c = 32 := fun c hc => by
    rcases List.mem_append.1 hc with h | h
    · exact .inl (src_good c h)
    · rcases List.mem_cons.1 h with h | h
      · exact .inr h
      · rcases List.mem_append.1 h with h | h
        · exact .inl (hw c h)
        · rcases List.mem_cons.1 h with h | h
          · exact .inr h
          · exact .inl (hv c h)
  refine ⟨by omega, fun h => ?_, fun h => ?_, ?_, fun c hc => ?_, ?_, ?_, by simp, ?_⟩
  · rcases mem _ h with h | h
    · exact (good_44 h).1 rfl
    · cases h
  · rcases mem _ h with h | h
    · exact (good_44 h).2 rfl
    · cases h
  · obtain h | ⟨x, c, rfl⟩ := snoc_cases v
    · exact absurd h g0
    · refine trim_same (by simp) (by kernel_rfl) ?_
      rw [show nSrc ++ 32 :: (w ++ 32 :: (x ++ [c])) = (nSrc ++ 32 :: (w ++ 32 :: x)) ++ [c] by simp, lastC_end]
      exact good_bl (hv c (by simp))
  · rcases mem _ hc with h | h
    · exact good_asc h
    · subst h; decide
  · rw [hsp, hlen]
    intro p hp
    simp only [List.mem_cons, List.not_mem_nil, or_false] at hp
    rcases hp with rfl | rfl | rfl
    · refine ⟨by decide, by decide, by simp; omega⟩
    · refine ⟨by show (0 : Int) ≤ 11; decide, by simp; omega, by simp; omega⟩
    · refine ⟨by simp; omega, by simp; omega, by simp⟩
  · rw [hsp]
    simp only [List.map_cons, List.map_nil]
    have e1 : wordAt (nSrc ++ 32 :: (w ++ 32 :: v)) (0, 10) = nSrc := rfl
    have e2 : wordAt (nSrc ++ 32 :: (w ++ 32 :: v)) (11, ((11 + w.length : Nat) : Int)) = w := by
      unfold wordAt
      simp only [Int.toNat_natCast]
      rw [show nSrc ++ 32 :: (w ++ 32 :: v) = (nSrc ++ [32]) ++ (w ++ 32 :: v) by simp]
      have l11 : (nSrc ++ [32]).length = 11 := rfl
      rw [show 11 + w.length = (nSrc ++ [32]).length + w.length by rw [l11], List.take_length_add_append, List.take_left']
      · exact List.drop_left' l11
      · rfl
    have e3 : wordAt (nSrc ++ 32 :: (w ++ 32 :: v)) (((12 + w.length : Nat) : Int), ((w.length + v.length + 12 : Nat) : Int)) = v := by
      unfold wordAt
      simp only [Int.toNat_natCast]
      rw [List.take_of_length_le (by omega), show nSrc ++ 32 :: (w ++ 32 :: v) = (nSrc ++ 32 :: w ++ [32]) ++ v by simp]
      exact List.drop_left' (by simp [nSrc]; omega)
    rw [e1, e2, e3]
  · intro x hx
    simp only [List.mem_cons, List.not_mem_nil, or_false] at hx
    rcases hx with rfl | rfl
    · exact ⟨h0, hl, fun c hc => good_wd (hw c hc)⟩
    · exact ⟨g0, gl, fun c hc => good_wd (hv c hc)⟩
/-! -/
theorem mw_len (m : Bs) (hm : m.length = 16) : (mw m).length ≤ 100 := by
  have := encW_len _ m (Nat.le_refl _)
  unfold mw
  simp
  omega
theorem mw_par (m : Bs) (hm : m.length = 16) : parO (mw m) = some (10, (m, zS.2.2)) := by
  have hp : parP (mw m) = some (10, (m, zS.2.2)) := by
    unfold parP mw
    have hq : qtB ([39, 109, 97, 114, 107, 45] ++ encW m ++ [39]) = true := by
      unfold qtB
      rw [lastC_end, decide_eq_true (by simp; omega)]
      rfl
    rw [if_neg (by simp), if_pos hq]
    unfold quoS
    have lt : ∀ (l : Bs) (k : Nat), (lowerB l).take k = lowerB (l.take k) := fun l k => by rw [lowerB_map, lowerB_map, List.map_take]
    have h6 : (lowerB ([39, 109, 97, 114, 107, 45] ++ encW m ++ [39])).take 6 = [39, 109, 97, 114, 107, 45] := by
      rw [lt, List.append_assoc]
      show lowerB [39, 109, 97, 114, 107, 45] = _
      kernel_rfl
    have h7 : ¬ (lowerB ([39, 109, 97, 114, 107, 45] ++ encW m ++ [39])).take 7 = [39, 110, 111, 110, 99, 101, 45] := by
      intro e
      have e2 : ((lowerB ([39, 109, 97, 114, 107, 45] ++ encW m ++ [39])).take 7).take 6 = ([39, 110, 111, 110, 99, 101, 45] : Bs).take 6 := by rw [e]
      rw [List.take_take, show min 6 7 = 6 from rfl, h6] at e2
      exact absurd e2 (by decide)
    rw [if_neg h7, if_pos h6, List.dropLast_concat]
    have : ([39, 109, 97, 114, 107, 45] ++ encW m).drop 6 = encW m := rfl
    rw [this, dec_enc m (by omega)]
  have hr : rightB (10, (m, zS.2.2)) = true := by
    unfold rightB
    simp only [show ((10 : Int) == 9) = false from rfl, show ((10 : Int) == 10) = true from rfl, cond_false, cond_true]
    rw [hm]
    rfl
  unfold parO parR
  rw [hp]
  simp only
  rw [hr, if_pos rfl]
  simp
theorem uh_par : parO uh = some (7, zS.2) := by kernel_rfl
theorem long_ok (a b : Bs) : wp (pouncetop_long_ (Ev.upto 200000) ((([a, b] : List Bs), ()), ())) (fun o => ∃ z, o = ((z, ()), ()) ∧ (z = false → a.length ≤ 1500 ∧ b.length ≤ 1500)) := by
  unfold pouncetop_long_
  refine wp_bind ?_
  refine wp_for (σ := Unit) (fun i _ => ((([a, b] : List Bs), ((i : Int), ())), ())) (fun i _ => (0 < i → a.length ≤ 1500) ∧ (1 < i → b.length ≤ 1500)) 2 () rfl (by simp) (by omega) ?_
  rintro i _ hi ⟨h1, h2⟩
  by_cases hi' : i < 2
  · have hl : i < ([a, b] : List Bs).length := hi'
    have c0 : decide ((i : Int) < ((([a, b] : List Bs).length : Nat) : Int)) = true := decide_eq_true (by omega)
    have w4 : IntKind.wrap .i64 ((i : Int) + 1) = ((i + 1 : Nat) : Int) := by rw [wrap64 (by omega) (by omega)]; omega
    simp -implicitDefEqProofs only [c0, cond_true, idx_nat hl, Option.bind_some]
    by_cases hc : (([a, b] : List Bs)[i].length : Int) > 1500
    · rw [decide_eq_true hc]
      exact ⟨_, rfl, _, rfl, true, rfl, fun h => by cases h⟩
    · rw [decide_eq_false hc]
      simp -implicitDefEqProofs only [cond_false, w4]
      refine ⟨_, rfl, hi', (), rfl, ?_⟩
      have : i = 0 ∨ i = 1 := by omega
      rcases this with rfl | rfl
      · have hc : ¬ ((a.length : Nat) : Int) > 1500 := hc
        exact ⟨fun _ => by omega, fun h => by omega⟩
      · have hc : ¬ ((b.length : Nat) : Int) > 1500 := hc
        exact ⟨fun _ => h1 (by omega), fun _ => by omega⟩
  · have c0 : decide ((i : Int) < ((([a, b] : List Bs).length : Nat) : Int)) = false := decide_eq_false (by show ¬ (i : Int) < ((2 : Nat) : Int); omega)
    simp -implicitDefEqProofs only [c0, cond_false]
    exact ⟨_, rfl, _, rfl, false, rfl, fun _ => ⟨h1 (by omega), h2 (by omega)⟩⟩
theorem says_eq {S : Bs} {ws : List Bs} (h : OneD S ws) (hw : ∀ w ∈ ws, w.length ≤ 300) (r : Req) (hr : okR r) : pouncetop_says_ (Ev.upto 200000) ((S, (r, ())), ()) = some (((oneB [(nSrc, ws)] r).1, ()), ()) := by
  unfold pouncetop_says_
  have q1 := Parse_one h
  have hl : okP [(([(nSrc, ws)], false) : Pol)] := ⟨by simp, fun p hp => by
    rw [List.mem_singleton.1 hp]
    refine ⟨by simp, fun d hd => ?_⟩
    rw [List.mem_singleton.1 hd]
    have := h.wlen
    exact ⟨by show ws.length ≤ 210; omega, hw⟩⟩
  have q2 := All_eq [(([(nSrc, ws)], false) : Pol)] r hl hr
  simp -implicitDefEqProofs only [q1, q2, Option.bind_some]
  have : repB (blks r 0 [(([(nSrc, ws)], false) : Pol)]) = (oneB [(nSrc, ws)] r).1 := by
    unfold blks blks blk repB
    cases (oneB [(nSrc, ws)] r).1 <;> rfl
  rw [this]
theorem one_src (ws : List Bs) (r : Req) (hk : r.1 = 1 ∨ r.1 = 3) : (oneB [(nSrc, ws)] r).1 = inlineB (parL ws) r.1 r.2.2.2.2.1 (mrk r.2.1) := by
  have he : effO [(nSrc, ws)] (namesB r.1) = some (nSrc, ws) := by
    rcases hk with h | h <;> rw [h] <;> kernel_rfl
  unfold oneB
  rw [he]
  show verdictB (parL ws) r = _
  unfold verdictB
  rcases hk with h | h <;> rw [h] <;> rfl
theorem mrk_len (s : Bs) : (mrk s).length = 16 := by
  unfold mrk toBs q4
  rw [List.length_map]
  rfl
theorem firm_eq : pouncetop_firm_ (Ev.upto 200000) ((), ()) = some ((true, ()), ()) := by kernel_rfl
theorem plainTopMarks (t n : Bs) : pouncetop_TopMarks_ (Ev.upto 200000) ((t, (n, ())), ()) = some ((true, ()), ()) := by
  apply wp_eq
  unfold pouncetop_TopMarks_
  obtain ⟨o, e, b, rfl, hb⟩ := long_ok t n
  simp -implicitDefEqProofs only [e, Option.bind_some]
  cases b with
  | true => exact ⟨_, rfl, rfl⟩
  | false =>
    obtain ⟨ht, hn⟩ := hb rfl
    have q1 := OfX 200000 t (by omega) (by omega) (by decide)
    have hm := mrk_len t
    have q2 := Encode_eq 200000 (mrk t) (by omega) (by omega) (by decide)
    have el := encW_len _ (mrk t) (Nat.le_refl _)
    have hml := mw_len (mrk t) hm
    have hmp := mw_par (mrk t) hm
    have hmg := mw_good (mrk t) (by omega)
    have hm0 : mw (mrk t) ≠ [] := by unfold mw; simp
    have okr : ∀ k : Int, okR (k, (t, ((false, (([] : Bs), (([] : Bs), ((0 : Int), (([] : Bs), ([] : Bs)))))), (false, (n, (false, (false, (([] : Bs), (([] : Bs), ((0 : Int), (([] : Bs), ([] : Bs)))))))))))) := fun k => ⟨by show t.length ≤ 3000; omega, ⟨by simp, by simp, by simp, by simp⟩, ⟨by simp, by simp, by simp, by simp⟩⟩
    have o1 := one_word (mw (mrk t)) hm0 (by omega) hmg
    have o2 := two_words (mw (mrk t)) uh hm0 (by omega) hmg (by decide) (by decide) uh_good
    have s1 := says_eq o1 (fun w hw => by rw [List.mem_singleton.1 hw]; omega) _ (okr 1)
    have s2 := says_eq o1 (fun w hw => by rw [List.mem_singleton.1 hw]; omega) _ (okr 3)
    have s3 := says_eq o2 (fun w hw => by
      simp only [List.mem_cons, List.not_mem_nil, or_false] at hw
      rcases hw with rfl | rfl
      · omega
      · decide) _ (okr 3)
    rw [one_src _ _ (.inl rfl)] at s1
    rw [one_src _ _ (.inr rfl)] at s2 s3
    have p1 : parL [mw (mrk t)] = [(10, (mrk t, zS.2.2))] := by
      unfold parL
      simp only [List.filterMap_cons, hmp, List.filterMap_nil]
    have p2 : parL [mw (mrk t), uh] = [(10, (mrk t, zS.2.2)), (7, zS.2)] := by
      unfold parL
      simp only [List.filterMap_cons, hmp, uh_par, List.filterMap_nil]
    rw [p1] at s1 s2
    rw [p2] at s3
    have v1 : inlineB [(10, (mrk t, zS.2.2))] 1 n (mrk t) = true := by
      unfold inlineB hasT
      simp
    have v2 : inlineB [(10, (mrk t, zS.2.2))] 3 n (mrk t) = false := rfl
    have v3 : inlineB [(10, (mrk t, zS.2.2)), (7, zS.2)] 3 n (mrk t) = true := by
      unfold inlineB hasT hask
      simp
    simp only at s1 s2 s3
    rw [v1] at s1
    rw [v2] at s2
    rw [v3] at s3
    have e1 : ([115, 99, 114, 105, 112, 116, 45, 115, 114, 99, 32] : Bs) ++ ((([39, 109, 97, 114, 107, 45] : Bs) ++ encW (mrk t)) ++ ([39] : Bs)) = nSrc ++ 32 :: mw (mrk t) := rfl
    have e2 : (nSrc ++ 32 :: mw (mrk t)) ++ ([32, 39, 117, 110, 115, 97, 102, 101, 45, 104, 97, 115, 104, 101, 115, 39] : Bs) = nSrc ++ 32 :: (mw (mrk t) ++ 32 :: uh) := by
      rw [List.append_assoc]; rfl
    have g1 := strFits_of (show ([39, 109, 97, 114, 107, 45] : Bs).length + (encW (mrk t)).length ≤ 100000000 by simp; omega)
    have g2 := strFits_of (show (([39, 109, 97, 114, 107, 45] : Bs) ++ encW (mrk t)).length + ([39] : Bs).length ≤ 100000000 by simp; omega)
    have g3 := strFits_of (show ([115, 99, 114, 105, 112, 116, 45, 115, 114, 99, 32] : Bs).length + ((([39, 109, 97, 114, 107, 45] : Bs) ++ encW (mrk t)) ++ ([39] : Bs)).length ≤ 100000000 by simp; omega)
    have g4 := strFits_of (show (nSrc ++ 32 :: mw (mrk t)).length + ([32, 39, 117, 110, 115, 97, 102, 101, 45, 104, 97, 115, 104, 101, 115, 39] : Bs).length ≤ 100000000 by simp [nSrc]; omega)
    simp -implicitDefEqProofs only [cond_false, q1, q2, g1, g2, g3, cond_true, Option.bind_some, e1, s1, s2, g4, e2, s3]
    rw [firm_eq]
    exact ⟨_, rfl, rfl⟩
end Go.En.Pl
