/- Text E6 of this seat: written by a program of ours, or by hand; checked by Lean. -/
import Derived.Test.YtfgphjencdhdgaaGreatDoorE5
import Derived.Great.BuildSlice
set_option linter.unusedVariables false
set_option linter.unusedSimpArgs false
namespace Go.En
open Go.RowKit

/-! -/
theorem z48 {ob : List Ob} {lend : Bool} : ∀ {t : Ty} {d : D} {fr fr' : List Nat} {x : t.T}, gw ob lend t d fr = some (x, fr') → ∀ i, i ∈ fr' → i ∈ fr ∨ i < ob.length := by
 intro t d fr fr' x h i hi
 cases t <;> cases d <;> simp only [gw, reduceCtorEq] at h
 case slice.vec e t j =>
  split at h
  ·split at h
   ·rename_i hv
    split at h
    ·split at h
     ·simp only [Option.some.injEq, Prod.mk.injEq] at h
      obtain ⟨_, rfl⟩ := h
      rcases List.mem_cons.1 hi with rfl | hi
      ·exact .inr (List.getElem?_eq_some_iff.1 (getD_some hv (by simp))).1
      ·exact .inl hi
     ·cases h
    ·cases h
   ·rename_i hv
    split at h
    ·split at h
     ·simp only [Option.some.injEq, Prod.mk.injEq] at h
      obtain ⟨_, rfl⟩ := h
      rcases List.mem_cons.1 hi with rfl | hi
      ·exact .inr (List.getElem?_eq_some_iff.1 (getD_some hv (by simp))).1
      ·exact .inl hi
     ·cases h
    ·cases h
   ·cases h
  ·cases h
 case slice.iv e t j g k sz off =>
  split at h
  ·unfold zyh at h
   split at h
   ·rename_i hd
    split at h
    ·split at h
     ·dsimp only at h
      split at h
      ·split at h
       ·simp only [Option.some.injEq, Prod.mk.injEq] at h
        obtain ⟨_, rfl⟩ := h
        rcases List.mem_cons.1 hi with rfl | hi
        ·exact .inr (List.getElem?_eq_some_iff.1 (getD_some hd (by simp))).1
        ·exact .inl hi
       ·cases h
      ·cases h
     ·cases h
    ·cases h
   ·cases h
  ·cases h
 case slice.sub e t j lo hi' sz =>
  split at h
  ·split at h
   ·rename_i hv
    split at h
    ·split at h
     ·simp only [Option.some.injEq, Prod.mk.injEq] at h
      obtain ⟨_, rfl⟩ := h
      rcases List.mem_cons.1 hi with rfl | hi
      ·exact .inr (List.getElem?_eq_some_iff.1 (getD_some hv (by simp))).1
      ·exact .inl hi
     ·cases h
    ·cases h
   ·cases h
  ·cases h
 case slice.isl =>
  split at h
  ·split at h
   ·simp only [Option.some.injEq, Prod.mk.injEq] at h
    obtain ⟨_, rfl⟩ := h
    exact .inl hi
   ·cases h
  ·cases h
 case int.int =>
  split at h
  ·simp only [Option.some.injEq, Prod.mk.injEq] at h
   obtain ⟨_, rfl⟩ := h
   exact .inl hi
  ·cases h
 case eint.ierr =>
  split at h
  ·cases h
  ·simp only [Option.some.injEq, Prod.mk.injEq] at h
   obtain ⟨_, rfl⟩ := h
   exact .inl hi
 case eint.eint =>
  split at h
  ·simp only [Option.some.injEq, Prod.mk.injEq] at h
   obtain ⟨_, rfl⟩ := h
   exact .inl hi
  ·cases h
 case slice.asl =>
  split at h
  ·obtain ⟨l, h1, h2⟩ := Option.bind_eq_some_iff.1 h
   simp only [Option.some.injEq, Prod.mk.injEq] at h2
   obtain ⟨_, rfl⟩ := h2
   rcases List.mem_cons.1 hi with rfl | hi
   ·exact .inr (z42 h1)
   ·exact .inl hi
  ·cases h
 all_goals
  simp only [Option.some.injEq, Prod.mk.injEq] at h
  obtain ⟨_, rfl⟩ := h
  exact .inl hi
theorem z3v {ob : List Ob} {lend : Bool} : ∀ {t : Ty} {ds rest : List D} {fr fr' : List Nat} {x : t.T}, xn ob lend t ds fr = some (x, rest, fr') → ∀ i, i ∈ fr' → i ∈ fr ∨ i < ob.length := by
 intro t
 induction t with
 | pair a b iha ihb =>
  intro ds rest fr fr' x h i hi
  simp only [xn] at h
  obtain ⟨y, h1, h2⟩ := Option.bind_eq_some_iff.1 h
  obtain ⟨z, h3, h4⟩ := Option.bind_eq_some_iff.1 h2
  simp only [Option.some.injEq, Prod.mk.injEq] at h4
  obtain ⟨rfl, rfl, rfl⟩ := h4
  rcases ihb h3 i hi with h | h
  ·exact iha h1 i h
  ·exact .inr h
 | _ =>
  intro ds rest fr fr' x h
  cases ds with
  | nil => simp [xn] at h
  | cons d ds =>
   simp only [xn] at h
   obtain ⟨y, h1, h2⟩ := Option.bind_eq_some_iff.1 h
   simp only [Option.some.injEq, Prod.mk.injEq] at h2
   obtain ⟨rfl, rfl, rfl⟩ := h2
   exact z48 h1
theorem zfx {ob : List Ob} {lend : Bool} {t : Ty} {ds : List D} {fr fr' : List Nat} {x : t.T} (h : ki ob lend t ds fr = some (x, fr')) : xn ob lend t ds fr = some (x, [], fr') := by
 unfold ki at h
 obtain ⟨y, h1, h2⟩ := Option.bind_eq_some_iff.1 h
 split at h2
 ·rename_i hr
  simp only [Option.some.injEq, Prod.mk.injEq] at h2
  obtain ⟨rfl, rfl⟩ := h2
  rw [h1, ← hr]
 ·cases h2
theorem z3w {ob : List Ob} {lend : Bool} {t : Ty} {ds : List D} {fr fr' : List Nat} {x : t.T} (h : ki ob lend t ds fr = some (x, fr')) : ∀ i, i ∈ fr' → i ∈ fr ∨ i < ob.length := z3v (zfx h)
theorem z3x {ob : List Ob} {lend : Bool} {t : Ty} {ds : List D} {fr fr' : List Nat} {x : t.T} (h : ki ob lend t ds fr = some (x, fr')) : ∀ i, i ∈ fr → i ∈ fr' := zn2 (zfx h)
section
variable {P : Program} {E : Env} {c : Ctx} {β : Nat → GL} {S : Nat → Prop} {ob : List Ob} {w w' : World} {R : Type}
theorem z3y (hI : Inv c β S ob w) (hm : c.m0 ≤ ob.length) {o' : Ob} {v : Value} {fr : List Nat} (hfr : ∀ i, i ∈ fr → i < ob.length) (hbox : ∀ t cs, o' ≠ .box t cs) (hw : Same (fun _ => False) w w')
  (hb : ∀ b, b ∈ v.ownBlock.toList → w.heap.size ≤ b ∧ b < w'.heap.size) (ho : RelO (ob.length + 1) (upd β ob.length (.row v)) (fun b => S b ∨ ∃ i, i ∈ fr ∧ b ∈ blks β ob i) w' (.row v) o') (hv : ∃ A l c, v = .slice A l c) {tm : List D} {vs : List Value} (hd : za ob.length β S w tm vs) :
  RelF c fr (.vec ob.length :: tm) (ob ++ [o']) (v :: vs) w' := by
 cases fr with
 | nil =>
  have hSS : (fun b => S b ∨ ∃ i, i ∈ ([] : List Nat) ∧ b ∈ blks β ob i) = S := by funext b; simp
  rw [hSS] at ho
  exact zlq hI hm hw hb ho hv hd
 | cons f fr =>
  have hI2 := zpc hI hm (f :: fr)
  have hd2 := zj9 hI.obj (S' := fun b => S b ∨ ∃ i, i ∈ f :: fr ∧ b ∈ blks β ob i) (fun _ h => .inl h) (fun i hi b hb => .inr ⟨i, hi, hb⟩) (Nat.le_refl _) hd
  have hget : ∀ j, j ∈ f :: fr → (ob ++ [o']).getD j .gone = ob.getD j .gone := fun j hj => by
   rw [List.getD_eq_getElem?_getD, List.getD_eq_getElem?_getD, List.getElem?_append_left (hfr j hj)]
  have hn : ¬ ob.length ∈ f :: fr := fun h => Nat.lt_irrefl _ (hfr _ h)
  have hnc : (f :: fr).contains ob.length = false := by
   cases h : (f :: fr).contains ob.length with
   | false => rfl
   | true => exact absurd (List.contains_iff_mem.1 h) hn
  have hob : frzO (ob ++ [o']) (f :: fr) 0 (ob ++ [o']) = frzO ob (f :: fr) 0 ob ++ [o'] := by
   rw [zp9 hget]
   apply List.ext_getElem?
   intro k
   rw [zcd, Nat.zero_add]
   by_cases h1 : k < ob.length
   ·rw [List.getElem?_append_left h1, List.getElem?_append_left (by rw [qq]; exact h1), zcd, Nat.zero_add]
   ·rw [List.getElem?_append_right (by omega), List.getElem?_append_right (by rw [qq]; omega), qq]
    by_cases h2 : k = ob.length
    ·subst h2
     simp only [Nat.sub_self, List.getElem?_cons_zero, Option.map_some, Option.some.injEq]
     unfold frzo
     rw [hnc]
     cases o' with
     | box t cs => exact absurd rfl (hbox t cs)
     | _ => rfl
    ·rw [List.getElem?_eq_none (by simp; omega)]; rfl
  have hvec : frzD ob (f :: fr) (.vec ob.length) = .vec ob.length := by
   simp only [frzD, frzA, frz1, hnc]
   rfl
  show Rel c ((D.vec ob.length :: tm).map (frzD (ob ++ [o']) (f :: fr))) (frzO (ob ++ [o']) (f :: fr) 0 (ob ++ [o'])) (v :: vs) w'
  rw [hob, zsy hget, List.map_cons, hvec]
  have := zlq (o' := o') (v := v) hI2 (by rw [qq]; exact hm) hw hb (by rw [qq]; exact ho) hv (by rw [qq]; exact hd2)
  rw [qq] at this
  exact this

/-! -/
theorem zvz {t : Ty} : ∀ {l : List t.T} {css : List (List Value)}, l.length = css.length → (∀ (k : Nat) (x : t.T) (cs : List Value), l[k]? = some x → css[k]? = some cs → cs.length = t.size ∧ ImmC S w t (fun j => cs[j]?) x) →
  css.flatten.length = l.length * t.size ∧ ∀ (k : Nat) (x : t.T), l[k]? = some x → ImmC S w t (fun j => css.flatten[k * t.size + j]?) x
 | [], css, hl, h => by
  obtain rfl : css = [] := List.eq_nil_of_length_eq_zero hl.symm
  exact ⟨by simp, fun k x hk => by simp at hk⟩
 | x :: l, [], hl, h => by simp at hl
 | x :: l, cs :: css, hl, h => by
  obtain ⟨h1, h2⟩ := zvz (l := l) (css := css) (by simpa using hl) (fun k y cs hk hc => h (k + 1) y cs (by simpa using hk) (by simpa using hc))
  obtain ⟨h3, h4⟩ := h 0 x cs rfl rfl
  refine ⟨by simp only [List.flatten_cons, List.length_append, h1, h3, List.length_cons, Nat.add_mul]; omega, fun k y hk => ?_⟩
  cases k with
  | zero =>
   simp only [List.getElem?_cons_zero, Option.some.injEq] at hk
   subst hk
   refine ImmC.congr (fun j hj => ?_) h4
   rw [List.flatten_cons, Nat.zero_mul, Nat.zero_add, List.getElem?_append_left (by omega)]
  | succ k =>
   refine ImmC.congr (fun j hj => ?_) (h2 k y (by simpa using hk))
   rw [List.flatten_cons, List.getElem?_append_right (by rw [h3, Nat.add_mul]; omega), h3]
   congr 1
   rw [Nat.add_mul]; omega
theorem zy0 {n size : Nat} : ∀ {vs : List (Nat × Value)} {k : Nat} {cells : Array Value}, (∀ (j : Nat) (p : Nat × Value), vs[j]? = some p → p.1 = k + j ∧ p.2.cells.toList.length = size) → cells.size = n * size → k + vs.length = n →
  ∃ cells', Instr.fill (fun i => some (i * size, size)) cells vs = some cells' ∧ cells'.toList = cells.toList.take (k * size) ++ (vs.map fun p => p.2.cells.toList).flatten
 | [], k, cells, h, hs, hn => ⟨cells, rfl, by
  simp only [List.map_nil, List.flatten_nil, List.append_nil]
  rw [List.take_of_length_le (by simp; simp at hn; subst hn; omega)]⟩
 | p :: vs, k, cells, h, hs, hn => by
  obtain ⟨i, v⟩ := p
  obtain ⟨h1, h2⟩ := h 0 _ rfl
  simp only [Nat.add_zero] at h1
  subst h1
  simp only [List.length_cons] at hn
  have hm := Nat.mul_le_mul_right size (show i + 1 ≤ n by omega)
  rw [Nat.add_mul] at hm
  have hfold : (v.cells.zipIdx.foldl (fun cs (c, j) => cs.setIfInBounds (i * size + j) c) cells).toList = cells.toList.take (i * size) ++ v.cells.toList ++ cells.toList.drop (i * size + v.cells.toList.length) := by
   rw [← Array.foldl_toList, Array.toList_zipIdx]
   have := zyv (i * size) v.cells.toList 0 cells (by simp only at h2; omega)
   simpa using this
  have hsz : v.cells.size = size := by rw [← Array.length_toList, h2]
  obtain ⟨cells', h3, h4⟩ := zy0 (vs := vs) (k := i + 1) (cells := v.cells.zipIdx.foldl (fun cs (c, j) => cs.setIfInBounds (i * size + j) c) cells) (fun j p hj => by
   have := h (j + 1) p (by simpa using hj)
   exact ⟨by omega, this.2⟩) (n := n) (by rw [← Array.length_toList, hfold]; simp; omega) (by omega)
  refine ⟨cells', ?_, ?_⟩
  ·simp only [Instr.fill]
   rw [if_neg]
   ·exact h3
   ·simp [hsz]; omega
  ·rw [h4, hfold, List.map_cons, List.flatten_cons]
   have hlen : (cells.toList.take (i * size) ++ v.cells.toList).length = (i + 1) * size := by
    simp only [List.length_append, List.length_take, Array.length_toList, h2, Nat.add_mul]
    omega
   rw [List.take_append_of_le_length (by omega), List.take_of_length_le (by omega), List.append_assoc]
theorem zrm {S' : Nat → Prop} (hob : ∀ (i : Nat) (o : Ob), ob[i]? = some o → RelO ob.length β S w (β i) o) (hS : ∀ b, S b → S' b) {ty : Ty} : ∀ {ps : List (Nat × D)} {k : Nat} {fr fr' : List Nat} {l : List ty.T} {vs : List (Nat × Value)}, zlh ob ty k ps fr = some (l, fr') →
  (∀ i, i ∈ fr' → ∀ b, b ∈ blks β ob i → S' b) → ps.map (·.1) = vs.map (·.1) → za ob.length β S w (ps.map (·.2)) (vs.map (·.2)) → (∀ p, p ∈ ps → p.2.known = true) →
  l.length = ps.length ∧ (∀ (j : Nat) (p : Nat × Value), vs[j]? = some p → p.1 = k + j) ∧ (∀ (j : Nat) (x : ty.T) (p : Nat × Value), l[j]? = some x → vs[j]? = some p → p.2.cells.toList.length = ty.size ∧ ImmC S' w ty (fun i => p.2.cells.toList[i]?) x) ∧
   (∀ i, i ∈ fr → i ∈ fr') ∧ (∀ i, i ∈ fr' → i ∈ fr ∨ i < ob.length)
 | [], k, fr, fr', l, vs, h, hfr, h1, h2, hk => by
  simp only [zlh, Option.some.injEq, Prod.mk.injEq] at h
  obtain ⟨rfl, rfl⟩ := h
  cases vs with
  | nil => exact ⟨rfl, fun j p hj => by simp at hj, fun j x p hj => by simp at hj, fun _ h => h, fun _ h => .inl h⟩
  | cons v vs => simp at h1
 | p :: ps, k, fr, fr', l, vs, h, hfr, h1, h2, hk => by
  cases vs with
  | nil => simp at h1
  | cons q vs =>
   simp only [List.map_cons, List.cons.injEq] at h1
   obtain ⟨u, us, h3, h4, h5⟩ := h2
   simp only [List.map_cons, List.cons.injEq] at h3
   obtain ⟨rfl, rfl⟩ := h3
   simp only [zlh] at h
   split at h
   ·rename_i hpk
    obtain ⟨x, hx, h⟩ := Option.bind_eq_some_iff.1 h
    obtain ⟨y, hy, h⟩ := Option.bind_eq_some_iff.1 h
    simp only [Option.some.injEq, Prod.mk.injEq] at h
    obtain ⟨rfl, rfl⟩ := h
    obtain ⟨h6, h7, h8, h9, h10⟩ := zrm hob hS (show zlh ob ty (k + 1) ps x.2 = some (y.1, y.2) from hy) hfr h1.2 h5 (fun p hp => hk p (List.mem_cons_of_mem _ hp))
    have hx' : ki ob true ty p.2.cells fr = some (x.1, x.2) := hx
    obtain ⟨h11, h12⟩ := zgk hob hS hx' (fun i hi => hfr i (h9 i hi)) (h4.cells (hk p (List.mem_cons_self ..)))
    refine ⟨by simp [h6], fun j r hj => ?_, fun j z r hz hj => ?_, fun i hi => h9 i (z3x hx' i hi), fun i hi => ?_⟩
    ·cases j with
     | zero => simp only [List.getElem?_cons_zero, Option.some.injEq] at hj; subst hj; omega
     | succ j => have := h7 j r (by simpa using hj); omega
    ·cases j with
     | zero =>
      simp only [List.getElem?_cons_zero, Option.some.injEq] at hj hz
      subst hj; subst hz
      exact ⟨h11, h12⟩
     | succ j => exact h8 j z r (by simpa using hz) (by simpa using hj)
    ·rcases h10 i hi with h | h
     ·exact z3w hx' i h
     ·exact .inr h
   ·cases h
theorem zt5 {lend : Bool} {t : Ty} {d : D} {fr : List Nat} {x : t.T × List Nat} (h : ki ob lend t d.cells fr = some x) : d.known = true := by
 have this : ∀ {d : D}, d.known = false → ∀ {t : Ty} {fr : List Nat} {rest : List D} {x : t.T × List D × List Nat}, xn ob lend t [d] fr = some x → False := by
  intro d hd t
  induction t with
  | pair a b iha ihb =>
   intro fr rest x h
   simp only [xn] at h
   obtain ⟨y, h1, h2⟩ := Option.bind_eq_some_iff.1 h
   exact iha (rest := rest) h1
  | _ =>
   intro fr rest x h
   cases d <;> simp [D.known] at hd <;> simp [xn, gw] at h
 cases d <;> first | rfl | skip
 ·have h1 := zfx (show ki ob lend t [D.yld _ _] fr = some (x.1, x.2) from h)
  exact (this (d := D.yld _ _) rfl (rest := []) h1).elim
 ·have h1 := zfx (show ki ob lend t [D.nxt _ _] fr = some (x.1, x.2) from h)
  exact (this (d := D.nxt _ _) rfl (rest := []) h1).elim
 ·have h1 := zfx (show ki ob lend t [D.any] fr = some (x.1, x.2) from h)
  exact (this (d := D.any) rfl (rest := []) h1).elim
theorem zrn {ty : Ty} : ∀ {ps : List (Nat × D)} {k : Nat} {fr : List Nat} {x : List ty.T × List Nat}, zlh ob ty k ps fr = some x → ∀ p, p ∈ ps → p.2.known = true
 | [], _, _, _, _ => fun p hp => by simp at hp
 | q :: ps, k, fr, x, h => by
  simp only [zlh] at h
  split at h
  ·obtain ⟨y, hy, h⟩ := Option.bind_eq_some_iff.1 h
   obtain ⟨z, hz, h⟩ := Option.bind_eq_some_iff.1 h
   intro p hp
   rcases List.mem_cons.1 hp with rfl | hp
   ·exact zt5 hy
   ·exact zrn hz p hp
  ·cases h
theorem zp2 {n : Nat} : ∀ {ps : List (Nat × D)} {k : Nat} {cs : List D} {vs : List (Nat × Value)}, zrb k ps = some cs → ps.map (·.1) = vs.map (·.1) → za n β S w (ps.map (·.2)) (vs.map (·.2)) →
  (∀ (j : Nat) (p : Nat × Value), vs[j]? = some p → p.1 = k + j ∧ p.2.cells.toList.length = 1) ∧ za n β S w cs (vs.map fun p => p.2.cells.toList).flatten
 | [], k, cs, vs, h, h1, h2 => by
  simp only [zrb, Option.some.injEq] at h
  subst h
  cases vs with
  | nil => exact ⟨fun j p hj => by simp at hj, rfl⟩
  | cons v vs => simp at h1
 | p :: ps, k, cs, vs, h, h1, h2 => by
  cases vs with
  | nil => simp at h1
  | cons q vs =>
   simp only [List.map_cons, List.cons.injEq] at h1
   obtain ⟨u, us, h3, h4, h5⟩ := h2
   simp only [List.map_cons, List.cons.injEq] at h3
   obtain ⟨rfl, rfl⟩ := h3
   simp only [zrb] at h
   split at h
   ·rename_i hpk
    obtain ⟨y, hy, h⟩ := Option.bind_eq_some_iff.1 h
    simp only [Option.some.injEq] at h
    subst h
    obtain ⟨h6, h7⟩ := zp2 hy h1.2 h5
    have hc : p.2.cells = [p.2] := by
     have := hpk.2
     cases hp : p.2 <;> first | rfl | (rw [hp] at this; cases this)
    have hkn : p.2.known = true := by
     have := hpk.2
     cases hp : p.2 <;> first | rfl | (rw [hp] at this; cases this)
    have hcl := RelD.cells (d := p.2) h4 hkn
    rw [hc] at hcl
    have hlen := za.length hcl
    refine ⟨fun j r hj => ?_, ?_⟩
    ·cases j with
     | zero =>
      simp only [List.getElem?_cons_zero, Option.some.injEq] at hj
      subst hj
      exact ⟨by omega, by rw [← hlen]; rfl⟩
     | succ j => have := h6 j r (by simpa using hj); exact ⟨by omega, this.2⟩
    ·rw [List.map_cons, List.flatten_cons]
     exact za.append hcl h7
   ·cases h
theorem zha (hT : z7 P E) {t e : TypeId} (hu : (E.ti t).und = .slice e) {len : Nat} (hsmall : len * (E.ti e).size ≤ 16777216) {parts : Array (Nat × Value)} {cells : Array Value}
  (hl : parts.size = len) (h : ∀ (j : Nat) (p : Nat × Value), parts.toList[j]? = some p → p.1 = 0 + j ∧ p.2.cells.toList.length = (E.ti e).size) :
  (Instr.buildSlice t len parts).run P w = .ok (.slice (some ⟨w.heap.size, 0, none⟩) len len) (w.alloc (.cells (parts.toList.map fun p => p.2.cells.toList).flatten.toArray e)) := by
 obtain ⟨h1, h2⟩ := hT.slice hu
 obtain ⟨ie, z, h3, h4, h5, h6, _⟩ := hT.info h2
 by_cases h0 : len * (E.ti e).size = 0
 ·obtain ⟨cells', h7, h8⟩ := zy0 (n := len) (size := (E.ti e).size) (vs := parts.toList) (k := 0) (cells := #[]) h (by simp [h0]) (by simp [hl])
  have hc : cells' = (parts.toList.map fun p => p.2.cells.toList).flatten.toArray := by
   apply Array.ext'
   rw [h8]; simp
  rw [← h6] at h0 hsmall h7
  have hsz : (sizeOf e).run P w = .ok ie.size w := by rw [um hT h2, h6]
  have hr0 : (Array.map (fun _ : Nat => (default : Value)) (Array.range 0)) = #[] := by simp
  simp [Instr.buildSlice, run_underlying h1, hsz, h0, newRow]
  rw [hr0, h7]
  simp [hc]
 ·obtain ⟨cells', h7, h8⟩ := zy0 (n := len) (size := (E.ti e).size) (vs := parts.toList) (k := 0) (cells := (Array.range (len * (E.ti e).size)).map (z.cells[· % z.cells.size]!)) h (by simp) (by simp [hl])
  have hc : cells' = (parts.toList.map fun p => p.2.cells.toList).flatten.toArray := by
   apply Array.ext'
   rw [h8]; simp
  rw [← hc]
  rw [← h6] at h0 hsmall h7
  exact run_buildSlice w t e len parts cells' ie z h1 h3 h4 (by omega) h0 h7
/-! -/
def zic : List Bool → List D → List Nat
 | true :: m, .vec i :: ds => i :: zic m ds
 | _ :: m, _ :: ds => zic m ds
 | _, _ => []
theorem zs1 : ∀ {m m' : List Bool} {ds ds' : List D}, m.length = ds.length → bn (m ++ m') (ds ++ ds') = true → bn m ds = true ∧ bn m' ds' = true
 | [], m', [], ds', _, h => ⟨rfl, h⟩
 | [], m', d :: ds, ds', hl, h => by simp at hl
 | b :: m, m', [], ds', hl, h => by simp at hl
 | b :: m, m', d :: ds, ds', hl, h => by
  have hl' : m.length = ds.length := by simpa using hl
  cases b with
  | false =>
   have h' : bn (m ++ m') (ds ++ ds') = true := by simpa only [List.cons_append, bn] using h
   obtain ⟨h1, h2⟩ := zs1 hl' h'
   exact ⟨by simpa only [bn] using h1, h2⟩
  | true =>
   cases d <;> (try (simp [bn] at h; done))
   all_goals
    have h' : bn (m ++ m') (ds ++ ds') = true := by simpa only [List.cons_append, bn] using h
    obtain ⟨h1, h2⟩ := zs1 hl' h'
    exact ⟨by simpa only [bn] using h1, h2⟩
theorem z0b : ∀ {m m' : List Bool} {ds ds' : List D}, m.length = ds.length → zic (m ++ m') (ds ++ ds') = zic m ds ++ zic m' ds'
 | [], m', [], ds', _ => rfl
 | [], m', d :: ds, ds', hl => by simp at hl
 | b :: m, m', [], ds', hl => by simp at hl
 | b :: m, m', d :: ds, ds', hl => by
  have hl' : m.length = ds.length := by simpa using hl
  have ih := z0b (m' := m') (ds' := ds') hl'
  cases b with
  | false => simpa only [List.cons_append, zic] using ih
  | true => cases d <;> simp only [List.cons_append, zic, ih]
def z65 (ob : List Ob) (m : Bool) (d d' : D) : Prop := match m with
 | false => ∀ (n n' : Nat) (β β' : Nat → GL) (S : Nat → Prop) (w : World) (u : Value), RelD n β S w d u → RelD n' β' S w d' u
 | true => (d = .nsl ∧ ∃ e t, d' = .isl e t []) ∨ ∃ i e t l, d = .vec i ∧ d' = .isl e t l ∧ ((∃ mk, ob.getD i .gone = .vec mk e t l) ∨ ∃ own g, ob.getD i .gone = .dv e t l own g none)
theorem z2p {ob : List Ob} : ∀ {t : Ty} {ds rest : List D} {fr fr' : List Nat} {y : t.T}, xn ob true t ds fr = some (y, rest, fr') → ∃ hd, ds = hd ++ rest ∧ hd.length = t.size ∧
  (bn t.mask hd = true → fr' = (zic t.mask hd).reverse ++ fr ∧ ∀ (j : Nat) (d : D), hd[j]? = some d → ∃ d', (t.cells y)[j]? = some d' ∧ z65 ob (t.mask.getD j false) d d') := by
 have one : ∀ (t : Ty) (ds rest : List D) (fr fr' : List Nat) (y : t.T), t.mask = [false] → (∀ d fr, gw ob true t d fr = gw ob false t d fr) → (match ds with | d :: r => (gw ob true t d fr).bind fun x => some (x.1, r, x.2) | [] => none) = some (y, rest, fr') →
   ∃ hd, ds = hd ++ rest ∧ hd.length = t.size ∧ (bn t.mask hd = true → fr' = (zic t.mask hd).reverse ++ fr ∧ ∀ (j : Nat) (d : D), hd[j]? = some d → ∃ d', (t.cells y)[j]? = some d' ∧ z65 ob (t.mask.getD j false) d d') := by
  intro t ds rest fr fr' y hmk hlend h
  cases ds with
  | nil => cases h
  | cons d ds =>
   obtain ⟨z, h1, h2⟩ := Option.bind_eq_some_iff.1 h
   simp only [Option.some.injEq, Prod.mk.injEq] at h2
   obtain ⟨rfl, rfl, rfl⟩ := h2
   rw [hlend] at h1
   obtain ⟨h3, d', h4, h5, h6⟩ := zvr (show gw ob false t d fr = some (z.1, z.2) from h1)
   refine ⟨[d], rfl, h3.symm, fun _ => ⟨?_, fun j d0 hj => ?_⟩⟩
   ·rw [hmk]
    exact zyp (show gw ob false t d fr = some (z.1, z.2) from h1) rfl
   ·cases j with
    | zero =>
     simp only [List.getElem?_cons_zero, Option.some.injEq] at hj
     subst hj
     exact ⟨d', by rw [h4]; rfl, by rw [hmk]; exact h6⟩
    | succ j => simp at hj
 intro t
 induction t with
 | pair a b iha ihb =>
  intro ds rest fr fr' y h
  simp only [xn] at h
  obtain ⟨p, h1, h2⟩ := Option.bind_eq_some_iff.1 h
  obtain ⟨q, h3, h4⟩ := Option.bind_eq_some_iff.1 h2
  simp only [Option.some.injEq, Prod.mk.injEq] at h4
  obtain ⟨rfl, rfl, rfl⟩ := h4
  obtain ⟨hd1, e1, l1, g1⟩ := iha (show xn ob true a ds fr = some (p.1, p.2.1, p.2.2) from h1)
  obtain ⟨hd2, e2, l2, g2⟩ := ihb (show xn ob true b p.2.1 p.2.2 = some (q.1, q.2.1, q.2.2) from h3)
  refine ⟨hd1 ++ hd2, by rw [e1, e2, List.append_assoc], by simp [Ty.size, l1, l2], fun hok => ?_⟩
  simp only [Ty.mask] at hok ⊢
  have hml : a.mask.length = hd1.length := by rw [Ty.mask_len, l1]
  obtain ⟨k1, k2⟩ := zs1 hml hok
  obtain ⟨f1, g1⟩ := g1 k1
  obtain ⟨f2, g2⟩ := g2 k2
  refine ⟨by rw [f2, f1, z0b hml]; simp, fun j d hj => ?_⟩
  simp only [Ty.cells]
  rcases Nat.lt_or_ge j hd1.length with hlt | hge
  ·rw [List.getElem?_append_left hlt] at hj
   rw [List.getElem?_append_left (by rw [Ty.cells_length]; omega), List.getD_eq_getElem?_getD, List.getElem?_append_left (by omega), ← List.getD_eq_getElem?_getD]
   exact g1 j d hj
  ·rw [List.getElem?_append_right hge] at hj
   rw [List.getElem?_append_right (by rw [Ty.cells_length]; omega), Ty.cells_length, List.getD_eq_getElem?_getD, List.getElem?_append_right (by omega), ← List.getD_eq_getElem?_getD, hml, ← l1]
   exact g2 _ d hj
 | slice e0 t0 ih =>
  intro ds rest fr fr' y h
  cases ds with
  | nil => simp [xn] at h
  | cons d ds =>
   simp only [xn] at h
   obtain ⟨z, h1, h2⟩ := Option.bind_eq_some_iff.1 h
   simp only [Option.some.injEq, Prod.mk.injEq] at h2
   obtain ⟨rfl, rfl, rfl⟩ := h2
   refine ⟨[d], rfl, rfl, fun hok => ?_⟩
   cases d <;> (try (simp [Ty.mask, bn] at hok; done))
   case vec i =>
    simp only [gw, if_true] at h1
    split at h1
    ·rename_i mk e' t' l hv
     split at h1
     ·rename_i ht
      subst ht
      split at h1
      ·rename_i he
       subst he
       obtain ⟨z1, z2⟩ := z
       simp only [Option.some.injEq, Prod.mk.injEq] at h1
       obtain ⟨rfl, rfl⟩ := h1
       refine ⟨rfl, fun j d0 hj => ?_⟩
       cases j with
       | zero =>
        simp only [List.getElem?_cons_zero, Option.some.injEq] at hj
        subst hj
        exact ⟨_, rfl, .inr ⟨i, _, _, _, rfl, rfl, .inl ⟨mk, hv⟩⟩⟩
       | succ j => simp at hj
      ·cases h1
     ·cases h1
    ·rename_i e' t' l own g hv
     split at h1
     ·rename_i ht
      subst ht
      split at h1
      ·rename_i he
       subst he
       obtain ⟨z1, z2⟩ := z
       simp only [Option.some.injEq, Prod.mk.injEq] at h1
       obtain ⟨rfl, rfl⟩ := h1
       refine ⟨rfl, fun j d0 hj => ?_⟩
       cases j with
       | zero =>
        simp only [List.getElem?_cons_zero, Option.some.injEq] at hj
        subst hj
        exact ⟨_, rfl, .inr ⟨i, _, _, _, rfl, rfl, .inr ⟨_, _, hv⟩⟩⟩
       | succ j => simp at hj
      ·cases h1
     ·cases h1
    ·cases h1
   case nsl =>
    simp only [gw] at h1
    obtain ⟨z1, z2⟩ := z
    simp only [Option.some.injEq, Prod.mk.injEq] at h1
    obtain ⟨rfl, rfl⟩ := h1
    refine ⟨rfl, fun j d0 hj => ?_⟩
    cases j with
    | zero =>
     simp only [List.getElem?_cons_zero, Option.some.injEq] at hj
     subst hj
     exact ⟨_, rfl, .inl ⟨rfl, _, _, rfl⟩⟩
    | succ j => simp at hj
 | _ =>
  intro ds rest fr fr' y h
  refine one _ ds rest fr fr' y rfl (fun d fr => by cases d <;> rfl) ?_
  cases ds with
  | nil => simp [xn] at h
  | cons d ds => simpa only [xn] using h
def hsOf : Nat → List Bool → List Value → List (Nat × Value)
 | j, true :: m, v :: vs => (j, v) :: hsOf (j + 1) m vs
 | j, false :: m, _ :: vs => hsOf (j + 1) m vs
 | _, _, _ => []
theorem z12 : ∀ {m : List Bool} {vs : List Value} {j0 j : Nat} {v : Value}, m[j]? = some true → vs[j]? = some v → (hsOf j0 m vs).lookup (j0 + j) = some v
 | [], vs, j0, j, v, h, h' => by simp at h
 | b :: m, [], j0, j, v, h, h' => by simp at h'
 | b :: m, u :: vs, j0, 0, v, h, h' => by
  simp only [List.getElem?_cons_zero, Option.some.injEq] at h h'
  subst h
  subst h'
  simp [hsOf, List.lookup_cons]
 | b :: m, u :: vs, j0, j + 1, v, h, h' => by
  simp only [List.getElem?_cons_succ] at h h'
  have ih := z12 (j0 := j0 + 1) h h'
  rw [show j0 + 1 + j = j0 + (j + 1) by omega] at ih
  cases b with
  | true =>
   simp only [hsOf, List.lookup_cons]
   rw [show (j0 + (j + 1) == j0) = false by simp]
   exact ih
  | false => exact ih
theorem zlr (hI : Inv c β S ob w) : ∀ {m : List Bool} {ds : List D} {vs : List Value} {j : Nat}, bn m ds = true → za ob.length β S w ds vs → (zic m ds).Nodup → (∀ i, i ∈ zic m ds → ∃ e t l, ob.getD i .gone = .vec false e t l) →
  ((hsOf j m vs).flatMap (fun h => h.2.ownBlock.toList)).Nodup ∧ ∀ b, b ∈ (hsOf j m vs).flatMap (fun h => h.2.ownBlock.toList) → ∃ i, i ∈ zic m ds ∧ b ∈ blks β ob i
 | [], ds, vs, j, _, _, _, _ => ⟨by simp [hsOf], fun b hb => by simp [hsOf] at hb⟩
 | b :: m, [], vs, j, h, _, _, _ => by cases b <;> simp [bn] at h
 | b :: m, d :: ds, vs, j, h, hd, hn, hv => by
  obtain ⟨u, us, rfl, hd1, hd2⟩ := hd
  cases b with
  | false =>
   have h' : bn m ds = true := by simpa only [bn] using h
   have e1 : zic (false :: m) (d :: ds) = zic m ds := by cases d <;> rfl
   rw [e1] at hn hv ⊢
   exact zlr hI (j := j + 1) h' hd2 hn hv
  | true =>
   cases d <;> (try (simp [bn] at h; done))
   case vec i =>
    have h' : bn m ds = true := by simpa only [bn] using h
    simp only [zic] at hn hv ⊢
    obtain ⟨hn1, hn2⟩ := List.nodup_cons.1 hn
    obtain ⟨ih1, ih2⟩ := zlr hI (j := j + 1) h' hd2 hn2 (fun i hi => hv i (List.mem_cons_of_mem _ hi))
    obtain ⟨e, t, l, hvi⟩ := hv i (List.mem_cons_self ..)
    obtain ⟨_, v, k2, _, k4⟩ := ze1 hI.obj hvi
    obtain ⟨_, k5, _⟩ := hd1
    rw [k2] at k5
    injection k5 with k5
    subst k5
    simp only [hsOf, List.flatMap_cons]
    refine ⟨?_, fun b hb => ?_⟩
    ·rw [List.nodup_append]
     refine ⟨zj7 v, ih1, fun a ha b hb e => ?_⟩
     subst e
     obtain ⟨i', hi', hb'⟩ := ih2 a hb
     exact hI.sep i i' a (fun e => hn1 (e ▸ hi')) (k4 a ha) hb'
    ·rcases List.mem_append.1 hb with hb | hb
     ·exact ⟨i, List.mem_cons_self .., k4 b hb⟩
     ·obtain ⟨i', hi', hb'⟩ := ih2 b hb
      exact ⟨i', List.mem_cons_of_mem _ hi', hb'⟩
   case nsl =>
    have h' : bn m ds = true := by simpa only [bn] using h
    simp only [zic] at hn hv ⊢
    obtain ⟨ih1, ih2⟩ := zlr hI (j := j + 1) h' hd2 hn hv
    obtain rfl : u = .slice none 0 0 := hd1
    simp only [hsOf, List.flatMap_cons]
    exact ⟨by simpa [Value.ownBlock] using ih1, fun b hb => ih2 b (by simpa [Value.ownBlock] using hb)⟩
theorem zfy : ∀ (js : List Nat) (ob : List Ob), (zzq js ob).length = ob.length
 | [], ob => rfl
 | j :: js, ob => by simp [zzq, zfy js]
theorem zv0 : ∀ {js : List Nat} {ob : List Ob} {x : Nat}, x < ob.length → (x ∈ js → (zzq js ob)[x]? = some .gone) ∧ (x ∉ js → (zzq js ob)[x]? = ob[x]?)
 | [], ob, x, _ => ⟨fun h => by simp at h, fun _ => rfl⟩
 | j :: js, ob, x, hx => by
  have ih := zv0 (js := js) (ob := ob.set j .gone) (x := x) (by simpa using hx)
  refine ⟨fun h => ?_, fun h => ?_⟩
  ·by_cases hjs : x ∈ js
   ·exact ih.1 hjs
   ·have e : x = j := by
     rcases List.mem_cons.1 h with h | h
     ·exact h
     ·exact absurd h hjs
    simp only [zzq]
    rw [ih.2 hjs, e, List.getElem?_set_self (by rw [← e]; exact hx)]
  ·simp only [List.mem_cons, not_or] at h
   simp only [zzq]
   rw [ih.2 h.2, List.getElem?_set_ne (fun e => h.1 e.symm)]
theorem zv1 (hT : z7 P E) (hI : Inv c β S ob w) (hm : c.m0 ≤ ob.length) {t e : TypeId} {ty : Ty} {d : D} {pv : Value} {pvs : Array (Nat × Value)} {K : D → List Ob → List Nat → Option R} {r : R} (hu : (E.ti t).und = .slice e) (hty : (E.ti e).ty = some ty) (hsmall : 1 * (E.ti e).size ≤ 16777216)
  (hok : bn ty.mask d.cells = true) (h : zve ob e ty d K = some r) (hpv : pvs.toList = [(0, pv)]) (hd0 : RelD ob.length β S w d pv) {tm : List D} {vs : List Value} (hd : za ob.length β S w tm vs) :
  ∃ d ob' fr v w', K d ob' fr = some r ∧ (Instr.buildSlice t 1 pvs).run P w = .ok v w' ∧ RelF c fr (d :: tm) ob' (v :: vs) w' ∧ Same (fun _ => False) w w' := by
 unfold zve at h
 obtain ⟨x, hx, h⟩ := Option.bind_eq_some_iff.1 h
 split at h
 ·rename_i hcond
  obtain ⟨hnd, hall⟩ := hcond
  obtain ⟨_, hys, _⟩ := hT.tyOf hty
  have hcl := hd0.cells (zt5 hx)
  have hget : ∃ rest, xn ob true ty d.cells [] = some (x.1, rest, x.2) ∧ rest = [] := by
   unfold ki at hx
   obtain ⟨z, z1, z2⟩ := Option.bind_eq_some_iff.1 hx
   split at z2
   ·rename_i hr
    simp only [Option.some.injEq] at z2
    rw [← z2, ← hr]
    exact ⟨_, z1, rfl⟩
   ·cases z2
  obtain ⟨rest, hget, rfl⟩ := hget
  obtain ⟨hdl, e1, l1, g1⟩ := z2p hget
  rw [List.append_nil] at e1
  subst e1
  obtain ⟨f1, g1⟩ := g1 hok
  rw [List.append_nil] at f1
  have hlen := za.length hcl
  have hrow : ∀ (j : Nat) (p : Nat × Value), pvs.toList[j]? = some p → p.1 = 0 + j ∧ p.2.cells.toList.length = (E.ti e).size := by
   intro j p hj
   rw [hpv] at hj
   cases j with
   | zero => cases hj; exact ⟨rfl, by rw [← hlen, l1, hys]⟩
   | succ j => simp at hj
  have hrun := zha (P := P) (w := w) hT hu (parts := pvs) hsmall (cells := #[]) (by rw [← Array.length_toList, hpv]; rfl) hrow
  rw [hpv] at hrun
  simp only [List.map_cons, List.map_nil, List.flatten_cons, List.flatten_nil, List.append_nil] at hrun
  have hw := Same.alloc (fun _ => False) w (.cells pv.cells.toList.toArray e)
  have hSb : ∀ b, S b → (w.alloc (.cells pv.cells.toList.toArray e)).heap[b]? = w.heap[b]? := fun b hb => hw.block b (hI.imm b hb) (fun h => h)
  have hvec : ∀ i, i ∈ zic ty.mask d.cells → ∃ e t l, ob.getD i .gone = .vec false e t l := by
   intro i hi
   have h9 := List.all_eq_true.1 hall i (by rw [f1]; exact List.mem_reverse.2 hi)
   unfold z5r at h9
   split at h9
   ·rename_i e' t' l' hv; exact ⟨_, _, _, hv⟩
   ·cases h9
  have hndv : (zic ty.mask d.cells).Nodup := by rw [f1] at hnd; exact (List.reverse_perm _).nodup_iff.1 hnd
  obtain ⟨hb1, hb2⟩ := zlr hI (j := 0) hok hcl hndv hvec
  have hmem : ∀ i, i ∈ zic ty.mask d.cells ↔ i ∈ x.2 := fun i => by rw [f1]; exact List.mem_reverse.symm
  have hltv : ∀ b, b ∈ (hsOf 0 ty.mask pv.cells.toList).flatMap (fun h => h.2.ownBlock.toList) → b < w.heap.size := fun b hb => by
   obtain ⟨i, _, hi⟩ := hb2 b hb
   exact (hI.own i b hi).2.1
  have hsz1 : (w.alloc (.cells pv.cells.toList.toArray e)).heap.size = w.heap.size + 1 := by simp
  have hdeep : ql S (w.alloc (.cells pv.cells.toList.toArray e)) e ty none none (.slice (some ⟨w.heap.size, 0, none⟩) 1 1) (hsOf 0 ty.mask pv.cells.toList) [x.1] := by
   refine ⟨pv.cells.toList, ⟨by rw [← hlen, l1]; simp, .inr ⟨w.heap.size, 1, _, (0, 0), rfl, heap_alloc_new _ _, .inl rfl, Nat.le_refl _, by simp [maxLen], by rw [List.size_toArray, ← hlen, l1]; simp, ?_⟩⟩, by simp [maxB], fun k y hk j hj _ => ?_⟩
   ·simp only [List.toList_toArray]
    rw [List.take_of_length_le (by rw [← hlen, l1]; simp)]
   ·cases k with
    | succ k => simp at hk
    | zero =>
     simp only [List.getElem?_cons_zero, Option.some.injEq] at hk
     subst hk
     rw [Nat.zero_mul, Nat.zero_add]
     have hjd : j < d.cells.length := by omega
     obtain ⟨u, r1, r2⟩ := za.get hcl j _ (List.getElem?_eq_getElem hjd)
     obtain ⟨d', r3, r4⟩ := g1 j _ (List.getElem?_eq_getElem hjd)
     refine ⟨d', u, r3, r1, ?_⟩
     cases hmk : ty.mask.getD j false with
     | false =>
      rw [hmk] at r4
      rw [zrj hmk]
      exact RelD.imp (Nat.le_refl _) (fun i hi => absurd hi (Nat.not_lt_zero _)) (fun _ h => h) hSb _ (r4 _ 0 _ (fun _ => .blk 0) _ _ _ r2)
     | true =>
      rw [hmk] at r4
      have ho : wn ty none 0 j = true := by unfold wn; rw [hmk]; rfl
      rw [ho]
      have hm2 : ty.mask[j]? = some true := by
       have hjm : j < ty.mask.length := by rw [Ty.mask_len]; exact hj
       rw [List.getD_eq_getElem?_getD, List.getElem?_eq_getElem hjm] at hmk
       rw [List.getElem?_eq_getElem hjm]
       exact congrArg some hmk
      have hl0 := z12 (j0 := 0) hm2 r1
      rw [Nat.zero_add] at hl0
      refine ⟨hl0, ?_⟩
      rcases r4 with ⟨r5, e', t', rfl⟩ | ⟨i, e', t', l', r5, rfl, r6⟩
      ·rw [r5] at r2
       obtain rfl : u = .slice none 0 0 := r2
       exact ⟨e', t', [], rfl, [], ⟨by simp, .inl ⟨rfl, rfl⟩⟩, by simp, fun k' x' hk' => by simp at hk'⟩
      ·have hiv : i ∈ zic ty.mask d.cells := by
        clear g1 hb1 hb2 hcl r2 hndv hvec hmem f1 hltv hok
        have key : ∀ (m : List Bool) (ds : List D) (j : Nat), m[j]? = some true → ds[j]? = some (.vec i) → i ∈ zic m ds := by
         intro m
         induction m with
         | nil => intro ds j h; simp at h
         | cons b m ih =>
          intro ds j h h'
          cases ds with
          | nil => simp at h'
          | cons d0 ds =>
           cases j with
           | zero =>
            simp only [List.getElem?_cons_zero, Option.some.injEq] at h h'
            subst h
            subst h'
            exact List.mem_cons_self ..
           | succ j =>
            have := ih ds j (by simpa using h) (by simpa using h')
            cases b <;> cases d0 <;> simp only [zic] <;> first | exact this | exact List.mem_cons_of_mem _ this
        exact key _ _ j hm2 (by rw [List.getElem?_eq_getElem hjd, r5])
       obtain ⟨e2, t2, l2, hv2⟩ := hvec i hiv
       rcases r6 with ⟨mk, r6⟩ | ⟨own, g, r6⟩
       ·rw [hv2] at r6
        cases r6
        obtain ⟨_, v, k2, ⟨ys, p1, p2, p3⟩, k4⟩ := ze1 hI.obj hv2
        rw [r5] at r2
        obtain ⟨_, k5, _⟩ := r2
        rw [k2] at k5
        injection k5 with k5
        subst k5
        exact ⟨e', t', l', rfl, ys, p1.imp (fun b hb => hw.block b (hI.own i b (k4 b hb)).2.1 (fun h => h)), p2, fun k' x' hk' => ImmC.imp (fun _ h => h) hSb (p3 k' x' hk')⟩
       ·rw [hv2] at r6; cases r6
  refine ⟨_, _, [], _, _, h, hrun, ?_, hw⟩
  have hnd2 : (GL.deep 0 (.slice (some ⟨w.heap.size, 0, none⟩) 1 1) (hsOf 0 ty.mask pv.cells.toList)).blocks.Nodup := by
   simp only [GL.blocks]
   rw [List.nodup_append]
   refine ⟨zj7 _, hb1, fun a ha b hb e => ?_⟩
   subst e
   have := hltv a hb
   simp [Value.ownBlock] at ha
   omega
  refine ⟨_, S, hI.target (w' := w.alloc (.cells pv.cells.toList.toArray e)) hm (fun i => i ∈ x.2) (i := ob.length) (o' := .dv e ty [x.1] none 0 none) (g' := .deep 0 (.slice (some ⟨w.heap.size, 0, none⟩) 1 1) (hsOf 0 ty.mask pv.cells.toList)) (by simp [zfy]) (fun y hy => ?_) ?_ (fun y _ hy hyl => ?_) (fun y hy _ hn => ?_) (fun h => absurd h (Nat.lt_irrefl _)) (hw.mono fun _ _ h => h.elim) ⟨rfl, hnd2, hdeep⟩ (fun b hb => ?_), ?_⟩
  ·simp [zfy] at hy; omega
  ·rw [List.getElem?_append_right (by simp [zfy])]; simp [zfy]
  ·rw [List.getElem?_append_left (by rw [zfy]; exact hyl)]
   exact (zv0 hyl).1 hy
  ·rw [List.getElem?_append_left (by rw [zfy]; exact hy)]
   exact (zv0 hy).2 hn
  ·simp only [GL.blocks] at hb
   rcases List.mem_append.1 hb with hb | hb
   ·simp [Value.ownBlock] at hb
    rw [hsz1]
    exact ⟨by omega, .inr (by omega)⟩
   ·obtain ⟨i, hi1, hi2⟩ := hb2 b hb
    exact ⟨by rw [hsz1]; have := hltv b hb; omega, .inl ⟨i, .inr ((hmem i).1 hi1), hi2⟩⟩
  ·rw [List.length_append, zfy]
   exact ⟨_, vs, rfl, ⟨by simp, by rw [jh]; rfl, _, _, _, rfl⟩, za.imp (by simp) (fun y hy => .of_eq (zri hy)) (fun _ h => h) hSb _ hd⟩
 ·cases h
theorem zs2 (hT : z7 P E) (hI : Inv c β S ob w) (hm : c.m0 ≤ ob.length) {t : TypeId} {len : Nat} {ps : List (Nat × D)} {pvs : Array (Nat × Value)} {K : D → List Ob → List Nat → Option R} {r : R} (h : zp5 E ob t len ps K = some r)
  (h1 : ps.map (·.1) = pvs.toList.map (·.1)) (h2 : za ob.length β S w (ps.map (·.2)) (pvs.toList.map (·.2))) {tm : List D} {vs : List Value} (hd : za ob.length β S w tm vs) :
  ∃ d ob' fr v w', K d ob' fr = some r ∧ (Instr.buildSlice t len pvs).run P w = .ok v w' ∧ RelF c fr (d :: tm) ob' (v :: vs) w' ∧ Same (fun _ => False) w w' := by
 unfold zp5 at h
 have hpl : ps.length = pvs.size := by have := congrArg List.length h1; simpa using this
 split at h
 ·rename_i e hu
  split at h
  ·rename_i hlen
   obtain ⟨hlen, hsmall⟩ := hlen
   have hl2 : pvs.size = len := by omega
   split at h
   ·rename_i ty hty
    split at h
    ·rename_i d0 hdp
     unfold z5s at hdp
     split at hdp
     ·rename_i ty' d1 _ hty'
      split at hdp
      ·rename_i hok
       rw [hty] at hty'
       cases hty'
       cases hdp
       have hlen1 : len = 1 := by rw [← hlen]; rfl
       subst hlen1
       obtain ⟨p, hp⟩ : ∃ p, pvs.toList = [p] := by
        cases hq : pvs.toList with
        | nil => have h7 := congrArg List.length hq; rw [Array.length_toList, hl2] at h7; simp at h7
        | cons p l =>
         cases l with
         | nil => exact ⟨p, rfl⟩
         | cons q l => have h7 := congrArg List.length hq; rw [Array.length_toList, hl2] at h7; simp at h7
       rw [hp] at h1 h2
       simp only [List.map_cons, List.map_nil, List.cons.injEq, and_true] at h1 h2
       obtain ⟨u, us, h3, h4, _⟩ := h2
       simp only [List.cons.injEq] at h3
       obtain ⟨pn, pv⟩ := p
       obtain ⟨h5, _⟩ := h3
       simp only at h1 h5
       subst h1
       subst h5
       exact zv1 hT hI hm hu hty hsmall hok h hp h4 hd
      ·cases hdp
     ·cases hdp
    obtain ⟨x, hx, h⟩ := Option.bind_eq_some_iff.1 h
    obtain ⟨_, hys, _⟩ := hT.tyOf hty
    obtain ⟨h3, h4, h5, _, h7⟩ := zrm hI.obj (S' := fun b => S b ∨ ∃ i, i ∈ x.2 ∧ b ∈ blks β ob i) (fun _ h => .inl h) (show zlh ob ty 0 ps [] = some (x.1, x.2) from hx) (fun i hi b hb => .inr ⟨i, hi, hb⟩) h1 h2 (zrn hx)
    have hfr : ∀ i, i ∈ x.2 → i < ob.length := fun i hi => (h7 i hi).resolve_left (by simp)
    have hrow : ∀ (j : Nat) (p : Nat × Value), pvs.toList[j]? = some p → p.1 = 0 + j ∧ p.2.cells.toList.length = (E.ti e).size := by
     intro j p hj
     refine ⟨h4 j p hj, ?_⟩
     have hjl : j < x.1.length := by have := (List.getElem?_eq_some_iff.1 hj).1; simp at this; omega
     rw [← hys]
     exact (h5 j _ p (List.getElem?_eq_getElem hjl) hj).1
    have hrun := zha (P := P) (w := w) hT hu (parts := pvs) hsmall (cells := #[]) hl2 hrow
    obtain ⟨h8, h9⟩ := zvz (S := fun b => S b ∨ ∃ i, i ∈ x.2 ∧ b ∈ blks β ob i) (w := w) (l := x.1) (css := pvs.toList.map fun p => p.2.cells.toList) (by simp; omega) (fun k y cs hk hc => by
     rw [List.getElem?_map, Option.map_eq_some_iff] at hc
     obtain ⟨p, hp, rfl⟩ := hc
     exact h5 k y p hk hp)
    have hxl : x.1.length = len := by omega
    have hw := Same.alloc (fun _ => False) w (.cells (pvs.toList.map fun p => p.2.cells.toList).flatten.toArray e)
    have hmb : len ≤ maxB := by
     have := Nat.le_mul_of_pos_right len ty.size_pos
     rw [← hys] at hsmall
     simp only [maxB]; omega
    refine ⟨_, _, _, _, _, h, hrun, z3y (o' := .vec false e ty x.1) hI hm hfr (by simp) hw (fun b hb => ?_) ⟨(pvs.toList.map fun p => p.2.cells.toList).flatten, ?_, by omega, fun k y hk => ImmC.imp (fun _ h => h) (fun b hb => ?_) (h9 k y hk)⟩ ⟨_, _, _, rfl⟩ hd, hw⟩
    ·simp [Value.ownBlock] at hb
     subst hb
     simp
    ·refine ⟨h8, .inr ⟨w.heap.size, len, _, (0, 0), by rw [hxl], heap_alloc_new _ _, .inl rfl, by omega, by simp only [maxB, maxLen] at *; omega, ?_, ?_⟩⟩
     ·rw [List.size_toArray, h8, hxl]
     ·simp only [List.toList_toArray]
      rw [List.take_of_length_le (by omega)]
    ·refine hw.block b ?_ (fun h => h)
     rcases hb with hb | ⟨i, _, hb⟩
     ·exact hI.imm b hb
     ·exact (hI.own i b hb).2.1
   ·split at h
    ·rename_i hone
     obtain ⟨cs, hcs, h⟩ := Option.bind_eq_some_iff.1 h
     obtain ⟨h3, h4⟩ := zp2 hcs h1 h2
     have hrun := zha (P := P) (w := w) hT hu (parts := pvs) hsmall (cells := #[]) hl2 (by rw [hone]; exact h3)
     have hw := Same.alloc (fun _ => False) w (.cells (pvs.toList.map fun p => p.2.cells.toList).flatten.toArray e)
     refine ⟨_, _, [], _, _, h, hrun, ⟨upd β ob.length (.blk w.heap.size), S, hI.push hm hw (fun b hb => ?_) ⟨_, ?_, h4.push hI hw⟩, ?_⟩, hw⟩
     ·simp only [GL.blocks, List.mem_singleton] at hb
      subst hb
      simp
     ·exact heap_alloc_new _ _
     ·rw [List.length_append]
      exact ⟨_, vs, rfl, ⟨by simp, w.heap.size, jh _ _ _, rfl⟩, hd.push hI hw⟩
    ·cases h
  ·cases h
 ·cases h

/-! -/
theorem zv2 (hT : z7 P E) (hI : Inv c β S ob w) (hm : c.m0 ≤ ob.length) {t : TypeId} {i : Nat} {pv : Value} {lo hi : Option D} {lv hv : Option Value} {K : D → List Ob → Option R} {r : R}
  (h : zzr E ob t (.vec i) lo hi K = some r) (hp : RelD ob.length β S w (.vec i) pv) (hl : zyu lo lv) (hh : zyu hi hv) {tm : List D} {vs : List Value} (hd : za ob.length β S w tm vs) :
  ∃ d ob' v, K d ob' = some r ∧ (Instr.sliceAt t pv lv hv none).run P w = .ok v w ∧ Rel c (d :: tm) ob' (v :: vs) w := by
 unfold zzr at h
 split at h
 ·rename_i hx; cases hx
 ·rename_i hx; cases hx
 ·rename_i e' j hu hx
  injection hx with hx
  subst hx
  split at h
  ·rename_i mk e ty l hvec
   split at h
   ·cases h
   ·rename_i hz
    obtain ⟨x, hx, h⟩ := Option.bind_eq_some_iff.1 h
    obtain ⟨y, hy, h⟩ := Option.bind_eq_some_iff.1 h
    obtain ⟨h1, u, h2, ⟨xs, h3, h4, h5⟩, h6⟩ := ze1 hI.obj hvec
    obtain ⟨h7, h8, _⟩ := hp
    rw [h2] at h8
    injection h8 with h8
    subst h8
    obtain ⟨h9, h10⟩ := hT.slice hu
    have hz' : (E.ti e').size = ty.size := by simpa using hz
    have hlen : ∃ A cap, u = .slice A l.length cap ∧ l.length ≤ cap ∧ cap ≤ maxLen ∧ (A = none → cap = 0) := by
     rcases h3.2 with ⟨rfl, h0⟩ | ⟨g, cap, cur, fz, rfl, _, _, hn, hc, _⟩
     ·exact ⟨none, 0, by rw [h0], by omega, by simp [maxLen], fun _ => rfl⟩
     ·exact ⟨_, cap, rfl, hn, hc, fun h => by simp at h⟩
    obtain ⟨A, cap, rfl, hcap, hcm, hnil⟩ := hlen
    have hrun : 0 ≤ x → x ≤ y → y ≤ l.length → (Instr.sliceAt t (.slice A l.length cap) lv hv none).run P w = .ok (.slice (if cap = x.toNat then A else A.map fun a => a.add (x.toNat * ty.size)) (y.toNat - x.toNat) (cap - x.toNat)) w := by
     intro h0 h1 h2
     have hb := bo (P := P) (w := w) (b := true) (len := l.length) (cap := cap) (lo := lv) (hi := hv) (x := x) (y := y)
      (za7 hx hl) (za7 hy hh) h0 h1 (by omega)
     simp [Instr.sliceAt, run_underlying h9, Instr.slice, hb, um hT h10, hz']
    split at h
    ·obtain ⟨l', hs, h⟩ := Option.bind_eq_some_iff.1 h
     obtain ⟨h11, h12, h13, rfl⟩ := zyt hs
     have hx0 : x = 0 := by
      simp only [zg7, Option.some.injEq] at hx
      exact hx.symm
     have hr := hrun (by omega) (by omega) h13
     simp only [hx0, Int.toNat_zero, Nat.sub_zero, Nat.zero_mul] at hr
     have hA : (if cap = 0 then A else A.map fun a => a.add 0) = A := by
      split
      ·rfl
      ·cases A with
       | none => rfl
       | some a => simp [Addr.add]
     rw [hA] at hr
     have hl' : ((l.take y.toNat).drop 0).length = y.toNat := by simp; omega
     simp only [Int.toNat_zero] at h
     refine ⟨_, _, _, h, hr, zyy (o' := .vec mk e ty ((l.take y.toNat).drop 0)) hI hm h1 rfl (Same.refl _ _) (fun b hb => ?_) ⟨xs.take (y.toNat * ty.size), ?_, ?_, ?_⟩ ⟨_, _, _, rfl⟩ hd⟩
     ·have hb' : b ∈ (β i).blocks := by
       rw [h2]
       cases A <;> simp [Value.ownBlock] at hb <;> simp [GL.blocks, Value.ownBlock, hb]
      exact ⟨.inl hb', (hI.own i b (zj.2 ⟨_, h1, rfl, hb'⟩)).2.1⟩
     ·rw [hl']
      have hm1 := Nat.mul_le_mul_right ty.size (show y.toNat ≤ l.length by omega)
      refine ⟨by rw [List.length_take, h3.1]; omega, ?_⟩
      rcases h3.2 with ⟨h0, hn0⟩ | ⟨g, cap', cur, fz, h0, hg, hfz, hn, hc, hcs, htk⟩
      ·injection h0 with a1 a2 a3
       subst a1; subst a3
       have hy0 : y.toNat = 0 := by omega
       exact .inl ⟨by rw [hy0], hy0⟩
      ·injection h0 with a1 a2 a3
       subst a1; subst a3
       refine .inr ⟨g, cap, cur, fz, rfl, hg, hfz, by omega, hc, hcs, ?_⟩
       rw [← htk, List.take_take]
       congr 1; omega
     ·rw [hl']; omega
     ·intro k z hk
      rw [List.drop_zero] at hk
      have hkl : k < y.toNat := by
       have := (List.getElem?_eq_some_iff.1 hk).1
       simp at this; omega
      rw [List.getElem?_take, if_pos hkl] at hk
      refine ImmC.congr (fun j hj => ?_) (h5 k z hk)
      have hm1 := Nat.mul_le_mul_right ty.size (show k + 1 ≤ y.toNat from hkl)
      rw [Nat.add_mul] at hm1
      rw [List.getElem?_take, if_pos (by omega)]
    ·obtain ⟨hb, h⟩ := ya h
     simp only [Bool.and_eq_true, decide_eq_true_eq] at hb
     obtain ⟨⟨h11, h12⟩, h13⟩ := hb
     have hr := hrun h11 h12 h13
     refine ⟨_, _, _, h, hr, β, S, hI, _, vs, rfl, ⟨h7, by omega, A, l.length, cap, cap - x.toNat, _, by rw [h2]; rfl, by omega, rfl, by omega, by omega, fun hA => ?_, fun hlt => ?_⟩, hd⟩
     ·split at hA
      ·omega
      ·cases A with
       | none => have := hnil rfl; omega
       | some a => simp at hA
     ·rw [if_neg (by omega)]
  ·cases h
 ·rename_i hx; cases hx
 ·rename_i hx; cases hx
 ·cases h

/-! -/
theorem Same.drew (B : Nat → Prop) (w : World) : Same B w w.drew := ⟨rfl, rfl, rfl, Nat.le_refl _, fun _ _ _ => rfl⟩
theorem zqa (hT : z7 P E) (hI : Inv c β S ob w) (hm : c.m0 ≤ ob.length) {s t : TypeId} {p : D} {pv : Value} {K : D → List Ob → Option R} {r : R} {e : TypeId} (hub : (E.ti t).und = .slice e)
  (h : zo8 E ob s t p K = some r) (hp : RelD ob.length β S w p pv) {tm : List D} {vs : List Value} (hd : za ob.length β S w tm vs) :
  ∃ d ob' v w', K d ob' = some r ∧ (convert s t pv).run P w = .ok v w' ∧ Rel c (d :: tm) ob' (v :: vs) w' ∧ Same (fun _ => False) w w' := by
 unfold zo8 at h
 split at h
 ·rename_i hx; rw [hub] at hx; cases hx
 ·rename_i hx; rw [hub] at hx; cases hx
 ·rename_i e' x hu hx
  rw [hub] at hx
  injection hx with hx
  subst hx
  split at h
  ·rename_i he hty
   obtain ⟨rfl, hlen⟩ := hp
   obtain ⟨h1, h2⟩ := hT.slice hub
   have hrun := run_bytes_of_string (P := P) w s t e ⟨x.toArray⟩ (hT.str hu) h1 (hT.int he)
   have hsz : (⟨x.toArray⟩ : ByteArray).size = x.length := by simp [ByteArray.size]
   have hgc := grownCap_le_maxLen w x.length 0 e (by simp only [maxB, maxLen] at *; omega)
   have hge := grownCap_ge w x.length 0 e
   rw [hsz] at hrun
   have hsize : (bytesRow ⟨x.toArray⟩ (grownCap w x.length 0 e)).size = grownCap w x.length 0 e := by
    simp [bytesRow, ByteArray.size]; omega
   rw [hsize] at hrun
   have hlist : (bytesRow ⟨x.toArray⟩ (grownCap w x.length 0 e)).toList.take x.length = (ofBs x).map (Value.int .u8) := by
    simp [bytesRow, ofBs, List.take_append, Function.comp_def]
   have hw : Same (fun _ => False) w (w.drew.alloc (.cells (bytesRow ⟨x.toArray⟩ (grownCap w x.length 0 e)) e (grownCap w x.length 0 e, grownCap w x.length 0 e + 1))) := (Same.drew _ w).trans (Same.alloc (fun _ => False) w.drew _) (fun _ h => h) (fun _ _ h => h)
   have hol : (ofBs x).length = x.length := by simp [ofBs]
   refine ⟨_, _, _, _, h, hrun, zlq (o' := .vec true e (.int .u8) (ofBs x)) hI hm hw (fun b hb => ?_) ⟨(ofBs x).map (Value.int .u8), ?_, by rw [hol]; exact hlen, fun k y hk => ?_⟩ ⟨_, _, _, rfl⟩ hd, hw⟩
   ·simp [Value.ownBlock] at hb
    subst hb
    exact ⟨Nat.le_refl _, by show _ < (w.heap.push _).size; simp⟩
   ·refine ⟨by simp [Ty.size], .inr ⟨w.heap.size, _, _, _, by rw [hol], heap_alloc_new w.drew _, .inr ⟨rfl, by simp [hsize]⟩, by rw [hol]; exact hge, hgc, by simp [Ty.size, hsize], ?_⟩⟩
    rw [hol, show (Ty.int .u8).size = 1 from rfl, Nat.mul_one, hlist]
   ·refine ⟨?_, ?_⟩
    ·show ((ofBs x).map (Value.int .u8))[k * 1 + 0]? = _
     rw [List.getElem?_map, Nat.mul_one, Nat.add_zero, hk]; rfl
    simp only [ofBs, List.getElem?_map, Option.map_eq_some_iff] at hk
    obtain ⟨b, _, rfl⟩ := hk
    exact zys b
  ·cases h
 ·rename_i hx; rw [hub] at hx; cases hx
 ·cases h
end
end Go.En
