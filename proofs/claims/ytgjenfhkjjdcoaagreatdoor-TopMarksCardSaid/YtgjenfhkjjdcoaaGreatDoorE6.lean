/- Text E6 of this seat: written by a program of ours, or by hand; checked by Lean. -/
import Derived.Test.YtgjenfhkjjdcoaaGreatDoorE5
import Derived.Great.BuildSlice
set_option linter.unusedVariables false
set_option linter.unusedSimpArgs false
namespace Go.En
open Go.RowKit

/-! -/
theorem getTy_lt {ob : List Ob} {lend : Bool} : ∀ {t : Ty} {d : D} {fr fr' : List Nat} {x : t.T}, getTy ob lend t d fr = some (x, fr') → ∀ i, i ∈ fr' → i ∈ fr ∨ i < ob.length := by
  intro t d fr fr' x h i hi
  cases t <;> cases d <;> simp only [getTy, reduceCtorEq] at h
  case slice.vec e t j =>
    split at h
    · split at h
      · rename_i hv
        split at h
        · split at h
          · simp only [Option.some.injEq, Prod.mk.injEq] at h
            obtain ⟨_, rfl⟩ := h
            rcases List.mem_cons.1 hi with rfl | hi
            · exact .inr (List.getElem?_eq_some_iff.1 (getD_some hv (by simp))).1
            · exact .inl hi
          · cases h
        · cases h
      · cases h
    · cases h
  case slice.sub e t j lo hi' sz =>
    split at h
    · split at h
      · rename_i hv
        split at h
        · split at h
          · simp only [Option.some.injEq, Prod.mk.injEq] at h
            obtain ⟨_, rfl⟩ := h
            rcases List.mem_cons.1 hi with rfl | hi
            · exact .inr (List.getElem?_eq_some_iff.1 (getD_some hv (by simp))).1
            · exact .inl hi
          · cases h
        · cases h
      · cases h
    · cases h
  case slice.isl =>
    split at h
    · split at h
      · simp only [Option.some.injEq, Prod.mk.injEq] at h
        obtain ⟨_, rfl⟩ := h
        exact .inl hi
      · cases h
    · cases h
  case int.int =>
    split at h
    · simp only [Option.some.injEq, Prod.mk.injEq] at h
      obtain ⟨_, rfl⟩ := h
      exact .inl hi
    · cases h
  case eint.ierr =>
    split at h
    · cases h
    · simp only [Option.some.injEq, Prod.mk.injEq] at h
      obtain ⟨_, rfl⟩ := h
      exact .inl hi
  case eint.eint =>
    split at h
    · simp only [Option.some.injEq, Prod.mk.injEq] at h
      obtain ⟨_, rfl⟩ := h
      exact .inl hi
    · cases h
  case slice.asl =>
    split at h
    · obtain ⟨l, h1, h2⟩ := Option.bind_eq_some_iff.1 h
      simp only [Option.some.injEq, Prod.mk.injEq] at h2
      obtain ⟨_, rfl⟩ := h2
      rcases List.mem_cons.1 hi with rfl | hi
      · exact .inr (readT_lt h1)
      · exact .inl hi
    · cases h
  all_goals
    simp only [Option.some.injEq, Prod.mk.injEq] at h
    obtain ⟨_, rfl⟩ := h
    exact .inl hi
theorem getTys_lt {ob : List Ob} {lend : Bool} : ∀ {t : Ty} {ds rest : List D} {fr fr' : List Nat} {x : t.T}, getTys ob lend t ds fr = some (x, rest, fr') → ∀ i, i ∈ fr' → i ∈ fr ∨ i < ob.length := by
  intro t
  induction t with
  | pair a b iha ihb =>
    intro ds rest fr fr' x h i hi
    simp only [getTys] at h
    obtain ⟨y, h1, h2⟩ := Option.bind_eq_some_iff.1 h
    obtain ⟨z, h3, h4⟩ := Option.bind_eq_some_iff.1 h2
    simp only [Option.some.injEq, Prod.mk.injEq] at h4
    obtain ⟨rfl, rfl, rfl⟩ := h4
    rcases ihb h3 i hi with h | h
    · exact iha h1 i h
    · exact .inr h
  | _ =>
    intro ds rest fr fr' x h
    cases ds with
    | nil => simp [getTys] at h
    | cons d ds =>
      simp only [getTys] at h
      obtain ⟨y, h1, h2⟩ := Option.bind_eq_some_iff.1 h
      simp only [Option.some.injEq, Prod.mk.injEq] at h2
      obtain ⟨rfl, rfl, rfl⟩ := h2
      exact getTy_lt h1
theorem getRow_split {ob : List Ob} {lend : Bool} {t : Ty} {ds : List D} {fr fr' : List Nat} {x : t.T} (h : getRow ob lend t ds fr = some (x, fr')) : getTys ob lend t ds fr = some (x, [], fr') := by
  unfold getRow at h
  obtain ⟨y, h1, h2⟩ := Option.bind_eq_some_iff.1 h
  split at h2
  · rename_i hr
    simp only [Option.some.injEq, Prod.mk.injEq] at h2
    obtain ⟨rfl, rfl⟩ := h2
    rw [h1, ← hr]
  · cases h2
theorem getRow_lt {ob : List Ob} {lend : Bool} {t : Ty} {ds : List D} {fr fr' : List Nat} {x : t.T} (h : getRow ob lend t ds fr = some (x, fr')) : ∀ i, i ∈ fr' → i ∈ fr ∨ i < ob.length := getTys_lt (getRow_split h)
theorem getRow_le {ob : List Ob} {lend : Bool} {t : Ty} {ds : List D} {fr fr' : List Nat} {x : t.T} (h : getRow ob lend t ds fr = some (x, fr')) : ∀ i, i ∈ fr → i ∈ fr' := getTys_le (getRow_split h)
section
variable {P : Program} {E : Env} {c : Ctx} {β : Nat → GL} {S : Nat → Prop} {ob : List Ob} {w w' : World} {R : Type}
theorem push_relF (hI : Inv c β S ob w) (hm : c.m0 ≤ ob.length) {o' : Ob} {v : Value} {fr : List Nat} (hfr : ∀ i, i ∈ fr → i < ob.length) (hbox : ∀ t cs, o' ≠ .box t cs) (hw : Same (fun _ => False) w w')
    (hb : ∀ b, b ∈ v.ownBlock.toList → w.heap.size ≤ b ∧ b < w'.heap.size) (ho : RelO (ob.length + 1) (upd β ob.length (.row v)) (fun b => S b ∨ ∃ i, i ∈ fr ∧ b ∈ blks β ob i) w' (.row v) o') (hv : ∃ A l c, v = .slice A l c) {tm : List D} {vs : List Value} (hd : RelDs ob.length β S w tm vs) :
    RelF c fr (.vec ob.length :: tm) (ob ++ [o']) (v :: vs) w' := by
  cases fr with
  | nil =>
    have hSS : (fun b => S b ∨ ∃ i, i ∈ ([] : List Nat) ∧ b ∈ blks β ob i) = S := by funext b; simp
    rw [hSS] at ho
    exact push_rel hI hm hw hb ho hv hd
  | cons f fr =>
    have hI2 := freeze_inv hI hm (f :: fr)
    have hd2 := frzD_sound hI.obj (S' := fun b => S b ∨ ∃ i, i ∈ f :: fr ∧ b ∈ blks β ob i) (fun _ h => .inl h) (fun i hi b hb => .inr ⟨i, hi, hb⟩) (Nat.le_refl _) hd
    have hget : ∀ j, j ∈ f :: fr → (ob ++ [o']).getD j .gone = ob.getD j .gone := fun j hj => by
      rw [List.getD_eq_getElem?_getD, List.getD_eq_getElem?_getD, List.getElem?_append_left (hfr j hj)]
    have hn : ¬ ob.length ∈ f :: fr := fun h => Nat.lt_irrefl _ (hfr _ h)
    have hnc : (f :: fr).contains ob.length = false := by
      cases h : (f :: fr).contains ob.length with
      | false => rfl
      | true => exact absurd (List.contains_iff_mem.1 h) hn
    have hob : frzO (ob ++ [o']) (f :: fr) 0 (ob ++ [o']) = frzO ob (f :: fr) 0 ob ++ [o'] := by
      rw [frzOb_congr hget]
      apply List.ext_getElem?
      intro k
      rw [frzO_get, Nat.zero_add]
      by_cases h1 : k < ob.length
      · rw [List.getElem?_append_left h1, List.getElem?_append_left (by rw [frzO_length]; exact h1), frzO_get, Nat.zero_add]
      · rw [List.getElem?_append_right (by omega), List.getElem?_append_right (by rw [frzO_length]; omega), frzO_length]
        by_cases h2 : k = ob.length
        · subst h2
          simp only [Nat.sub_self, List.getElem?_cons_zero, Option.map_some, Option.some.injEq]
          unfold frzo
          rw [hnc]
          cases o' with
          | box t cs => exact absurd rfl (hbox t cs)
          | _ => rfl
        · rw [List.getElem?_eq_none (by simp; omega)]; rfl
    have hvec : frzD ob (f :: fr) (.vec ob.length) = .vec ob.length := by
      simp only [frzD, frzA, frz1, hnc]
      rfl
    show Rel c ((D.vec ob.length :: tm).map (frzD (ob ++ [o']) (f :: fr))) (frzO (ob ++ [o']) (f :: fr) 0 (ob ++ [o'])) (v :: vs) w'
    rw [hob, frzD_congr hget, List.map_cons, hvec]
    have := push_rel (o' := o') (v := v) hI2 (by rw [frzO_length]; exact hm) hw hb (by rw [frzO_length]; exact ho) hv (by rw [frzO_length]; exact hd2)
    rw [frzO_length] at this
    exact this

/-! -/
theorem rows_concat {t : Ty} : ∀ {l : List t.T} {css : List (List Value)}, l.length = css.length → (∀ (k : Nat) (x : t.T) (cs : List Value), l[k]? = some x → css[k]? = some cs → cs.length = t.size ∧ ImmC S w t (fun j => cs[j]?) x) →
    css.flatten.length = l.length * t.size ∧ ∀ (k : Nat) (x : t.T), l[k]? = some x → ImmC S w t (fun j => css.flatten[k * t.size + j]?) x
  | [], css, hl, h => by
    obtain rfl : css = [] := List.eq_nil_of_length_eq_zero hl.symm
    exact ⟨by simp, fun k x hk => by simp at hk⟩
  | x :: l, [], hl, h => by simp at hl
  | x :: l, cs :: css, hl, h => by
    obtain ⟨h1, h2⟩ := rows_concat (l := l) (css := css) (by simpa using hl) (fun k y cs hk hc => h (k + 1) y cs (by simpa using hk) (by simpa using hc))
    obtain ⟨h3, h4⟩ := h 0 x cs rfl rfl
    refine ⟨by simp only [List.flatten_cons, List.length_append, h1, h3, List.length_cons, Nat.add_mul]; omega, fun k y hk => ?_⟩
    cases k with
    | zero =>
      simp only [List.getElem?_cons_zero, Option.some.injEq] at hk
      subst hk
      refine ImmC.congr (fun j hj => ?_) h4
      rw [List.flatten_cons, Nat.zero_mul, Nat.zero_add, List.getElem?_append_left (by omega)]
    | succ k =>
      refine ImmC.congr (fun j hj => ?_) (h2 k y (by simpa using hk))
      rw [List.flatten_cons, List.getElem?_append_right (by rw [h3, Nat.add_mul]; omega), h3]
      congr 1
      rw [Nat.add_mul]; omega
theorem fill_row {n size : Nat} : ∀ {vs : List (Nat × Value)} {k : Nat} {cells : Array Value}, (∀ (j : Nat) (p : Nat × Value), vs[j]? = some p → p.1 = k + j ∧ p.2.cells.toList.length = size) → cells.size = n * size → k + vs.length = n →
    ∃ cells', Instr.fill (fun i => some (i * size, size)) cells vs = some cells' ∧ cells'.toList = cells.toList.take (k * size) ++ (vs.map fun p => p.2.cells.toList).flatten
  | [], k, cells, h, hs, hn => ⟨cells, rfl, by
    simp only [List.map_nil, List.flatten_nil, List.append_nil]
    rw [List.take_of_length_le (by simp; simp at hn; subst hn; omega)]⟩
  | p :: vs, k, cells, h, hs, hn => by
    obtain ⟨i, v⟩ := p
    obtain ⟨h1, h2⟩ := h 0 _ rfl
    simp only [Nat.add_zero] at h1
    subst h1
    simp only [List.length_cons] at hn
    have hm := Nat.mul_le_mul_right size (show i + 1 ≤ n by omega)
    rw [Nat.add_mul] at hm
    have hfold : (v.cells.zipIdx.foldl (fun cs (c, j) => cs.setIfInBounds (i * size + j) c) cells).toList = cells.toList.take (i * size) ++ v.cells.toList ++ cells.toList.drop (i * size + v.cells.toList.length) := by
      rw [← Array.foldl_toList, Array.toList_zipIdx]
      have := fold_set (i * size) v.cells.toList 0 cells (by simp only at h2; omega)
      simpa using this
    have hsz : v.cells.size = size := by rw [← Array.length_toList, h2]
    obtain ⟨cells', h3, h4⟩ := fill_row (vs := vs) (k := i + 1) (cells := v.cells.zipIdx.foldl (fun cs (c, j) => cs.setIfInBounds (i * size + j) c) cells) (fun j p hj => by
      have := h (j + 1) p (by simpa using hj)
      exact ⟨by omega, this.2⟩) (n := n) (by rw [← Array.length_toList, hfold]; simp; omega) (by omega)
    refine ⟨cells', ?_, ?_⟩
    · simp only [Instr.fill]
      rw [if_neg]
      · exact h3
      · simp [hsz]; omega
    · rw [h4, hfold, List.map_cons, List.flatten_cons]
      have hlen : (cells.toList.take (i * size) ++ v.cells.toList).length = (i + 1) * size := by
        simp only [List.length_append, List.length_take, Array.length_toList, h2, Nat.add_mul]
        omega
      rw [List.take_append_of_le_length (by omega), List.take_of_length_le (by omega), List.append_assoc]
theorem litRows_sound {S' : Nat → Prop} (hob : ∀ (i : Nat) (o : Ob), ob[i]? = some o → RelO ob.length β S w (β i) o) (hS : ∀ b, S b → S' b) {ty : Ty} : ∀ {ps : List (Nat × D)} {k : Nat} {fr fr' : List Nat} {l : List ty.T} {vs : List (Nat × Value)}, litRows ob ty k ps fr = some (l, fr') →
    (∀ i, i ∈ fr' → ∀ b, b ∈ blks β ob i → S' b) → ps.map (·.1) = vs.map (·.1) → RelDs ob.length β S w (ps.map (·.2)) (vs.map (·.2)) → (∀ p, p ∈ ps → p.2.known = true) →
    l.length = ps.length ∧ (∀ (j : Nat) (p : Nat × Value), vs[j]? = some p → p.1 = k + j) ∧ (∀ (j : Nat) (x : ty.T) (p : Nat × Value), l[j]? = some x → vs[j]? = some p → p.2.cells.toList.length = ty.size ∧ ImmC S' w ty (fun i => p.2.cells.toList[i]?) x) ∧
      (∀ i, i ∈ fr → i ∈ fr') ∧ (∀ i, i ∈ fr' → i ∈ fr ∨ i < ob.length)
  | [], k, fr, fr', l, vs, h, hfr, h1, h2, hk => by
    simp only [litRows, Option.some.injEq, Prod.mk.injEq] at h
    obtain ⟨rfl, rfl⟩ := h
    cases vs with
    | nil => exact ⟨rfl, fun j p hj => by simp at hj, fun j x p hj => by simp at hj, fun _ h => h, fun _ h => .inl h⟩
    | cons v vs => simp at h1
  | p :: ps, k, fr, fr', l, vs, h, hfr, h1, h2, hk => by
    cases vs with
    | nil => simp at h1
    | cons q vs =>
      simp only [List.map_cons, List.cons.injEq] at h1
      obtain ⟨u, us, h3, h4, h5⟩ := h2
      simp only [List.map_cons, List.cons.injEq] at h3
      obtain ⟨rfl, rfl⟩ := h3
      simp only [litRows] at h
      split at h
      · rename_i hpk
        obtain ⟨x, hx, h⟩ := Option.bind_eq_some_iff.1 h
        obtain ⟨y, hy, h⟩ := Option.bind_eq_some_iff.1 h
        simp only [Option.some.injEq, Prod.mk.injEq] at h
        obtain ⟨rfl, rfl⟩ := h
        obtain ⟨h6, h7, h8, h9, h10⟩ := litRows_sound hob hS (show litRows ob ty (k + 1) ps x.2 = some (y.1, y.2) from hy) hfr h1.2 h5 (fun p hp => hk p (List.mem_cons_of_mem _ hp))
        have hx' : getRow ob true ty p.2.cells fr = some (x.1, x.2) := hx
        obtain ⟨h11, h12⟩ := getRow_values hob hS hx' (fun i hi => hfr i (h9 i hi)) (h4.cells (hk p (List.mem_cons_self ..)))
        refine ⟨by simp [h6], fun j r hj => ?_, fun j z r hz hj => ?_, fun i hi => h9 i (getRow_le hx' i hi), fun i hi => ?_⟩
        · cases j with
          | zero => simp only [List.getElem?_cons_zero, Option.some.injEq] at hj; subst hj; omega
          | succ j => have := h7 j r (by simpa using hj); omega
        · cases j with
          | zero =>
            simp only [List.getElem?_cons_zero, Option.some.injEq] at hj hz
            subst hj; subst hz
            exact ⟨h11, h12⟩
          | succ j => exact h8 j z r (by simpa using hz) (by simpa using hj)
        · rcases h10 i hi with h | h
          · exact getRow_lt hx' i h
          · exact .inr h
      · cases h
theorem getRow_known {lend : Bool} {t : Ty} {d : D} {fr : List Nat} {x : t.T × List Nat} (h : getRow ob lend t d.cells fr = some x) : d.known = true := by
  have this : ∀ {d : D}, d.known = false → ∀ {t : Ty} {fr : List Nat} {rest : List D} {x : t.T × List D × List Nat}, getTys ob lend t [d] fr = some x → False := by
    intro d hd t
    induction t with
    | pair a b iha ihb =>
      intro fr rest x h
      simp only [getTys] at h
      obtain ⟨y, h1, h2⟩ := Option.bind_eq_some_iff.1 h
      exact iha (rest := rest) h1
    | _ =>
      intro fr rest x h
      cases d <;> simp [D.known] at hd <;> simp [getTys, getTy] at h
  cases d <;> first | rfl | skip
  · have h1 := getRow_split (show getRow ob lend t [D.yld _ _] fr = some (x.1, x.2) from h)
    exact (this (d := D.yld _ _) rfl (rest := []) h1).elim
  · have h1 := getRow_split (show getRow ob lend t [D.nxt _ _] fr = some (x.1, x.2) from h)
    exact (this (d := D.nxt _ _) rfl (rest := []) h1).elim
  · have h1 := getRow_split (show getRow ob lend t [D.any] fr = some (x.1, x.2) from h)
    exact (this (d := D.any) rfl (rest := []) h1).elim
theorem litRows_known {ty : Ty} : ∀ {ps : List (Nat × D)} {k : Nat} {fr : List Nat} {x : List ty.T × List Nat}, litRows ob ty k ps fr = some x → ∀ p, p ∈ ps → p.2.known = true
  | [], _, _, _, _ => fun p hp => by simp at hp
  | q :: ps, k, fr, x, h => by
    simp only [litRows] at h
    split at h
    · obtain ⟨y, hy, h⟩ := Option.bind_eq_some_iff.1 h
      obtain ⟨z, hz, h⟩ := Option.bind_eq_some_iff.1 h
      intro p hp
      rcases List.mem_cons.1 hp with rfl | hp
      · exact getRow_known hy
      · exact litRows_known hz p hp
    · cases h
theorem litCells_sound {n : Nat} : ∀ {ps : List (Nat × D)} {k : Nat} {cs : List D} {vs : List (Nat × Value)}, litCells k ps = some cs → ps.map (·.1) = vs.map (·.1) → RelDs n β S w (ps.map (·.2)) (vs.map (·.2)) →
    (∀ (j : Nat) (p : Nat × Value), vs[j]? = some p → p.1 = k + j ∧ p.2.cells.toList.length = 1) ∧ RelDs n β S w cs (vs.map fun p => p.2.cells.toList).flatten
  | [], k, cs, vs, h, h1, h2 => by
    simp only [litCells, Option.some.injEq] at h
    subst h
    cases vs with
    | nil => exact ⟨fun j p hj => by simp at hj, rfl⟩
    | cons v vs => simp at h1
  | p :: ps, k, cs, vs, h, h1, h2 => by
    cases vs with
    | nil => simp at h1
    | cons q vs =>
      simp only [List.map_cons, List.cons.injEq] at h1
      obtain ⟨u, us, h3, h4, h5⟩ := h2
      simp only [List.map_cons, List.cons.injEq] at h3
      obtain ⟨rfl, rfl⟩ := h3
      simp only [litCells] at h
      split at h
      · rename_i hpk
        obtain ⟨y, hy, h⟩ := Option.bind_eq_some_iff.1 h
        simp only [Option.some.injEq] at h
        subst h
        obtain ⟨h6, h7⟩ := litCells_sound hy h1.2 h5
        have hc : p.2.cells = [p.2] := by
          have := hpk.2
          cases hp : p.2 <;> first | rfl | (rw [hp] at this; cases this)
        have hkn : p.2.known = true := by
          have := hpk.2
          cases hp : p.2 <;> first | rfl | (rw [hp] at this; cases this)
        have hcl := RelD.cells (d := p.2) h4 hkn
        rw [hc] at hcl
        have hlen := RelDs.length hcl
        refine ⟨fun j r hj => ?_, ?_⟩
        · cases j with
          | zero =>
            simp only [List.getElem?_cons_zero, Option.some.injEq] at hj
            subst hj
            exact ⟨by omega, by rw [← hlen]; rfl⟩
          | succ j => have := h6 j r (by simpa using hj); exact ⟨by omega, this.2⟩
        · rw [List.map_cons, List.flatten_cons]
          exact RelDs.append hcl h7
      · cases h
theorem run_buildSlice' (hT : TypesOK P E) {t e : TypeId} (hu : (E.ti t).und = .slice e) {len : Nat} (hsmall : len * (E.ti e).size ≤ 16777216) {parts : Array (Nat × Value)} {cells : Array Value}
    (hl : parts.size = len) (h : ∀ (j : Nat) (p : Nat × Value), parts.toList[j]? = some p → p.1 = 0 + j ∧ p.2.cells.toList.length = (E.ti e).size) :
    (Instr.buildSlice t len parts).run P w = .ok (.slice (some ⟨w.heap.size, 0, none⟩) len len) (w.alloc (.cells (parts.toList.map fun p => p.2.cells.toList).flatten.toArray e)) := by
  obtain ⟨h1, h2⟩ := hT.slice hu
  obtain ⟨ie, z, h3, h4, h5, h6, _⟩ := hT.info h2
  by_cases h0 : len * (E.ti e).size = 0
  · obtain ⟨cells', h7, h8⟩ := fill_row (n := len) (size := (E.ti e).size) (vs := parts.toList) (k := 0) (cells := #[]) h (by simp [h0]) (by simp [hl])
    have hc : cells' = (parts.toList.map fun p => p.2.cells.toList).flatten.toArray := by
      apply Array.ext'
      rw [h8]; simp
    rw [← h6] at h0 hsmall h7
    have hsz : (sizeOf e).run P w = .ok ie.size w := by rw [run_sizeOf hT h2, h6]
    have hr0 : (Array.map (fun _ : Nat => (default : Value)) (Array.range 0)) = #[] := by simp
    simp [Instr.buildSlice, run_underlying h1, hsz, h0, newRow]
    rw [hr0, h7]
    simp [hc]
  · obtain ⟨cells', h7, h8⟩ := fill_row (n := len) (size := (E.ti e).size) (vs := parts.toList) (k := 0) (cells := (Array.range (len * (E.ti e).size)).map (z.cells[· % z.cells.size]!)) h (by simp) (by simp [hl])
    have hc : cells' = (parts.toList.map fun p => p.2.cells.toList).flatten.toArray := by
      apply Array.ext'
      rw [h8]; simp
    rw [← hc]
    rw [← h6] at h0 hsmall h7
    exact run_buildSlice w t e len parts cells' ie z h1 h3 h4 (by omega) h0 h7
theorem aBuildSlice_sound (hT : TypesOK P E) (hI : Inv c β S ob w) (hm : c.m0 ≤ ob.length) {t : TypeId} {len : Nat} {ps : List (Nat × D)} {pvs : Array (Nat × Value)} {K : D → List Ob → List Nat → Option R} {r : R} (h : aBuildSlice E ob t len ps K = some r)
    (h1 : ps.map (·.1) = pvs.toList.map (·.1)) (h2 : RelDs ob.length β S w (ps.map (·.2)) (pvs.toList.map (·.2))) {tm : List D} {vs : List Value} (hd : RelDs ob.length β S w tm vs) :
    ∃ d ob' fr v w', K d ob' fr = some r ∧ (Instr.buildSlice t len pvs).run P w = .ok v w' ∧ RelF c fr (d :: tm) ob' (v :: vs) w' ∧ Same (fun _ => False) w w' := by
  unfold aBuildSlice at h
  have hpl : ps.length = pvs.size := by have := congrArg List.length h1; simpa using this
  split at h
  · rename_i e hu
    split at h
    · rename_i hlen
      obtain ⟨hlen, hsmall⟩ := hlen
      have hl2 : pvs.size = len := by omega
      split at h
      · rename_i ty hty
        obtain ⟨x, hx, h⟩ := Option.bind_eq_some_iff.1 h
        obtain ⟨_, hys, _⟩ := hT.tyOf hty
        obtain ⟨h3, h4, h5, _, h7⟩ := litRows_sound hI.obj (S' := fun b => S b ∨ ∃ i, i ∈ x.2 ∧ b ∈ blks β ob i) (fun _ h => .inl h) (show litRows ob ty 0 ps [] = some (x.1, x.2) from hx) (fun i hi b hb => .inr ⟨i, hi, hb⟩) h1 h2 (litRows_known hx)
        have hfr : ∀ i, i ∈ x.2 → i < ob.length := fun i hi => (h7 i hi).resolve_left (by simp)
        have hrow : ∀ (j : Nat) (p : Nat × Value), pvs.toList[j]? = some p → p.1 = 0 + j ∧ p.2.cells.toList.length = (E.ti e).size := by
          intro j p hj
          refine ⟨h4 j p hj, ?_⟩
          have hjl : j < x.1.length := by have := (List.getElem?_eq_some_iff.1 hj).1; simp at this; omega
          rw [← hys]
          exact (h5 j _ p (List.getElem?_eq_getElem hjl) hj).1
        have hrun := run_buildSlice' (P := P) (w := w) hT hu (parts := pvs) hsmall (cells := #[]) hl2 hrow
        obtain ⟨h8, h9⟩ := rows_concat (S := fun b => S b ∨ ∃ i, i ∈ x.2 ∧ b ∈ blks β ob i) (w := w) (l := x.1) (css := pvs.toList.map fun p => p.2.cells.toList) (by simp; omega) (fun k y cs hk hc => by
          rw [List.getElem?_map, Option.map_eq_some_iff] at hc
          obtain ⟨p, hp, rfl⟩ := hc
          exact h5 k y p hk hp)
        have hxl : x.1.length = len := by omega
        have hw := Same.alloc (fun _ => False) w (.cells (pvs.toList.map fun p => p.2.cells.toList).flatten.toArray e)
        have hmb : len ≤ maxB := by
          have := Nat.le_mul_of_pos_right len ty.size_pos
          rw [← hys] at hsmall
          simp only [maxB]; omega
        refine ⟨_, _, _, _, _, h, hrun, push_relF (o' := .vec false e ty x.1) hI hm hfr (by simp) hw (fun b hb => ?_) ⟨(pvs.toList.map fun p => p.2.cells.toList).flatten, ?_, by omega, fun k y hk => ImmC.imp (fun _ h => h) (fun b hb => ?_) (h9 k y hk)⟩ ⟨_, _, _, rfl⟩ hd, hw⟩
        · simp [Value.ownBlock] at hb
          subst hb
          simp
        · refine ⟨h8, .inr ⟨w.heap.size, len, _, (0, 0), by rw [hxl], heap_alloc_new _ _, .inl rfl, by omega, by simp only [maxB, maxLen] at *; omega, ?_, ?_⟩⟩
          · rw [List.size_toArray, h8, hxl]
          · simp only [List.toList_toArray]
            rw [List.take_of_length_le (by omega)]
        · refine hw.block b ?_ (fun h => h)
          rcases hb with hb | ⟨i, _, hb⟩
          · exact hI.imm b hb
          · exact (hI.own i b hb).2.1
      · split at h
        · rename_i hone
          obtain ⟨cs, hcs, h⟩ := Option.bind_eq_some_iff.1 h
          obtain ⟨h3, h4⟩ := litCells_sound hcs h1 h2
          have hrun := run_buildSlice' (P := P) (w := w) hT hu (parts := pvs) hsmall (cells := #[]) hl2 (by rw [hone]; exact h3)
          have hw := Same.alloc (fun _ => False) w (.cells (pvs.toList.map fun p => p.2.cells.toList).flatten.toArray e)
          refine ⟨_, _, [], _, _, h, hrun, ⟨upd β ob.length (.blk w.heap.size), S, hI.push hm hw (fun b hb => ?_) ⟨_, ?_, h4.push hI hw⟩, ?_⟩, hw⟩
          · simp only [GL.blocks, List.mem_singleton] at hb
            subst hb
            simp
          · exact heap_alloc_new _ _
          · rw [List.length_append]
            exact ⟨_, vs, rfl, ⟨by simp, w.heap.size, upd_same _ _ _, rfl⟩, hd.push hI hw⟩
        · cases h
    · cases h
  · cases h

/-! -/
theorem aSliceVec_sound (hT : TypesOK P E) (hI : Inv c β S ob w) (hm : c.m0 ≤ ob.length) {t : TypeId} {i : Nat} {pv : Value} {lo hi : Option D} {lv hv : Option Value} {K : D → List Ob → Option R} {r : R}
    (h : aSlice E ob t (.vec i) lo hi K = some r) (hp : RelD ob.length β S w (.vec i) pv) (hl : ovals lo lv) (hh : ovals hi hv) {tm : List D} {vs : List Value} (hd : RelDs ob.length β S w tm vs) :
    ∃ d ob' v, K d ob' = some r ∧ (Instr.sliceAt t pv lv hv none).run P w = .ok v w ∧ Rel c (d :: tm) ob' (v :: vs) w := by
  unfold aSlice at h
  split at h
  · rename_i hx; cases hx
  · rename_i hx; cases hx
  · rename_i e' j hu hx
    injection hx with hx
    subst hx
    split at h
    · rename_i mk e ty l hvec
      split at h
      · cases h
      · rename_i hz
        obtain ⟨x, hx, h⟩ := Option.bind_eq_some_iff.1 h
        obtain ⟨y, hy, h⟩ := Option.bind_eq_some_iff.1 h
        obtain ⟨h1, u, h2, ⟨xs, h3, h4, h5⟩, h6⟩ := obVec hI.obj hvec
        obtain ⟨h7, h8, _⟩ := hp
        rw [h2] at h8
        injection h8 with h8
        subst h8
        obtain ⟨h9, h10⟩ := hT.slice hu
        have hz' : (E.ti e').size = ty.size := by simpa using hz
        have hlen : ∃ A cap, u = .slice A l.length cap ∧ l.length ≤ cap ∧ cap ≤ maxLen ∧ (A = none → cap = 0) := by
          rcases h3.2 with ⟨rfl, h0⟩ | ⟨g, cap, cur, fz, rfl, _, _, hn, hc, _⟩
          · exact ⟨none, 0, by rw [h0], by omega, by simp [maxLen], fun _ => rfl⟩
          · exact ⟨_, cap, rfl, hn, hc, fun h => by simp at h⟩
        obtain ⟨A, cap, rfl, hcap, hcm, hnil⟩ := hlen
        have hrun : 0 ≤ x → x ≤ y → y ≤ l.length → (Instr.sliceAt t (.slice A l.length cap) lv hv none).run P w = .ok (.slice (if cap = x.toNat then A else A.map fun a => a.add (x.toNat * ty.size)) (y.toNat - x.toNat) (cap - x.toNat)) w := by
          intro h0 h1 h2
          have hb := run_sliceBounds (P := P) (w := w) (b := true) (len := l.length) (cap := cap) (lo := lv) (hi := hv) (x := x) (y := y)
            (boundD_val hx hl) (boundD_val hy hh) h0 h1 (by omega)
          simp [Instr.sliceAt, run_underlying h9, Instr.slice, hb, run_sizeOf hT h10, hz']
        split at h
        · obtain ⟨l', hs, h⟩ := Option.bind_eq_some_iff.1 h
          obtain ⟨h11, h12, h13, rfl⟩ := sl_some hs
          have hx0 : x = 0 := by
            simp only [boundD, Option.some.injEq] at hx
            exact hx.symm
          have hr := hrun (by omega) (by omega) h13
          simp only [hx0, Int.toNat_zero, Nat.sub_zero, Nat.zero_mul] at hr
          have hA : (if cap = 0 then A else A.map fun a => a.add 0) = A := by
            split
            · rfl
            · cases A with
              | none => rfl
              | some a => simp [Addr.add]
          rw [hA] at hr
          have hl' : ((l.take y.toNat).drop 0).length = y.toNat := by simp; omega
          simp only [Int.toNat_zero] at h
          refine ⟨_, _, _, h, hr, move_rel (o' := .vec mk e ty ((l.take y.toNat).drop 0)) hI hm h1 rfl (Same.refl _ _) (fun b hb => ?_) ⟨xs.take (y.toNat * ty.size), ?_, ?_, ?_⟩ ⟨_, _, _, rfl⟩ hd⟩
          · have hb' : b ∈ (β i).blocks := by
              rw [h2]
              cases A <;> simp [Value.ownBlock] at hb <;> simp [GL.blocks, Value.ownBlock, hb]
            exact ⟨.inl hb', (hI.own i b (mem_blks.2 ⟨_, h1, rfl, hb'⟩)).2.1⟩
          · rw [hl']
            have hm1 := Nat.mul_le_mul_right ty.size (show y.toNat ≤ l.length by omega)
            refine ⟨by rw [List.length_take, h3.1]; omega, ?_⟩
            rcases h3.2 with ⟨h0, hn0⟩ | ⟨g, cap', cur, fz, h0, hg, hfz, hn, hc, hcs, htk⟩
            · injection h0 with a1 a2 a3
              subst a1; subst a3
              have hy0 : y.toNat = 0 := by omega
              exact .inl ⟨by rw [hy0], hy0⟩
            · injection h0 with a1 a2 a3
              subst a1; subst a3
              refine .inr ⟨g, cap, cur, fz, rfl, hg, hfz, by omega, hc, hcs, ?_⟩
              rw [← htk, List.take_take]
              congr 1; omega
          · rw [hl']; omega
          · intro k z hk
            rw [List.drop_zero] at hk
            have hkl : k < y.toNat := by
              have := (List.getElem?_eq_some_iff.1 hk).1
              simp at this; omega
            rw [List.getElem?_take, if_pos hkl] at hk
            refine ImmC.congr (fun j hj => ?_) (h5 k z hk)
            have hm1 := Nat.mul_le_mul_right ty.size (show k + 1 ≤ y.toNat from hkl)
            rw [Nat.add_mul] at hm1
            rw [List.getElem?_take, if_pos (by omega)]
        · obtain ⟨hb, h⟩ := cond_some h
          simp only [Bool.and_eq_true, decide_eq_true_eq] at hb
          obtain ⟨⟨h11, h12⟩, h13⟩ := hb
          have hr := hrun h11 h12 h13
          refine ⟨_, _, _, h, hr, β, S, hI, _, vs, rfl, ⟨h7, by omega, A, l.length, cap, cap - x.toNat, _, h2, by omega, rfl, by omega, by omega, fun hA => ?_, fun hlt => ?_⟩, hd⟩
          · split at hA
            · omega
            · cases A with
              | none => have := hnil rfl; omega
              | some a => simp at hA
          · rw [if_neg (by omega)]
    · cases h
  · rename_i hx; cases hx
  · rename_i hx; cases hx
  · cases h

/-! -/
theorem Same.drew (B : Nat → Prop) (w : World) : Same B w w.drew := ⟨rfl, rfl, rfl, Nat.le_refl _, fun _ _ _ => rfl⟩
theorem aConvertBytes_sound (hT : TypesOK P E) (hI : Inv c β S ob w) (hm : c.m0 ≤ ob.length) {s t : TypeId} {p : D} {pv : Value} {K : D → List Ob → Option R} {r : R} {e : TypeId} (hub : (E.ti t).und = .slice e)
    (h : aConvert E ob s t p K = some r) (hp : RelD ob.length β S w p pv) {tm : List D} {vs : List Value} (hd : RelDs ob.length β S w tm vs) :
    ∃ d ob' v w', K d ob' = some r ∧ (convert s t pv).run P w = .ok v w' ∧ Rel c (d :: tm) ob' (v :: vs) w' ∧ Same (fun _ => False) w w' := by
  unfold aConvert at h
  split at h
  · rename_i hx; rw [hub] at hx; cases hx
  · rename_i hx; rw [hub] at hx; cases hx
  · rename_i e' x hu hx
    rw [hub] at hx
    injection hx with hx
    subst hx
    split at h
    · rename_i he hty
      obtain ⟨rfl, hlen⟩ := hp
      obtain ⟨h1, h2⟩ := hT.slice hub
      have hrun := run_bytes_of_string (P := P) w s t e ⟨x.toArray⟩ (hT.str hu) h1 (hT.int he)
      have hsz : (⟨x.toArray⟩ : ByteArray).size = x.length := by simp [ByteArray.size]
      have hgc := grownCap_le_maxLen w x.length 0 e (by simp only [maxB, maxLen] at *; omega)
      have hge := grownCap_ge w x.length 0 e
      rw [hsz] at hrun
      have hsize : (bytesRow ⟨x.toArray⟩ (grownCap w x.length 0 e)).size = grownCap w x.length 0 e := by
        simp [bytesRow, ByteArray.size]; omega
      rw [hsize] at hrun
      have hlist : (bytesRow ⟨x.toArray⟩ (grownCap w x.length 0 e)).toList.take x.length = (ofBs x).map (Value.int .u8) := by
        simp [bytesRow, ofBs, List.take_append, Function.comp_def]
      have hw : Same (fun _ => False) w (w.drew.alloc (.cells (bytesRow ⟨x.toArray⟩ (grownCap w x.length 0 e)) e (grownCap w x.length 0 e, grownCap w x.length 0 e + 1))) := (Same.drew _ w).trans (Same.alloc (fun _ => False) w.drew _) (fun _ h => h) (fun _ _ h => h)
      have hol : (ofBs x).length = x.length := by simp [ofBs]
      refine ⟨_, _, _, _, h, hrun, push_rel (o' := .vec true e (.int .u8) (ofBs x)) hI hm hw (fun b hb => ?_) ⟨(ofBs x).map (Value.int .u8), ?_, by rw [hol]; exact hlen, fun k y hk => ?_⟩ ⟨_, _, _, rfl⟩ hd, hw⟩
      · simp [Value.ownBlock] at hb
        subst hb
        exact ⟨Nat.le_refl _, by show _ < (w.heap.push _).size; simp⟩
      · refine ⟨by simp [Ty.size], .inr ⟨w.heap.size, _, _, _, by rw [hol], heap_alloc_new w.drew _, .inr ⟨rfl, by simp [hsize]⟩, by rw [hol]; exact hge, hgc, by simp [Ty.size, hsize], ?_⟩⟩
        rw [hol, show (Ty.int .u8).size = 1 from rfl, Nat.mul_one, hlist]
      · refine ⟨?_, ?_⟩
        · show ((ofBs x).map (Value.int .u8))[k * 1 + 0]? = _
          rw [List.getElem?_map, Nat.mul_one, Nat.add_zero, hk]; rfl
        simp only [ofBs, List.getElem?_map, Option.map_eq_some_iff] at hk
        obtain ⟨b, _, rfl⟩ := hk
        exact rng_byte b
    · cases h
  · rename_i hx; rw [hub] at hx; cases hx
  · cases h
end
end Go.En
