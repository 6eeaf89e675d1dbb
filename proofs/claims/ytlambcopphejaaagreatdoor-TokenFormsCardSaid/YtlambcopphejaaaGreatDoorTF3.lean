/- Text TF3 of this seat: written by a program of ours, or by hand; checked by Lean. -/
import Derived.Test.YtlambcopphejaaaGreatDoorTF2
set_option linter.unusedSimpArgs false
set_option linter.unusedVariables false
namespace Go.En.Pl
def okTk (t : Tok) : Prop := greatB t.2.1 = false ∧ t.2.1.length ≤ 100000 ∧ okAs t.2.2.2.1 ∧ t.2.2.2.1.length ≤ 30 ∧ (t.1 = 1 → t.2.2.1 ≠ [])
def rawT (u : Tok) : Prop := u.1 = 2 ∧ rawN u.2.1 = true
def Rel (u v : Tok) : Prop := ¬ (u.1 = 1 ∧ v.1 = 1) ∧ (rawT u → v.1 = 1 ∨ (v.1 = 3 ∧ v.2.1 = u.2.1))
def Adj (out : List Tok) : Prop := ∀ (i : Nat) (u v : Tok), out[i]? = some u → out[i + 1]? = some v → Rel u v
def lastO (out : List Tok) : Option Tok := out[out.length - 1]?
structure FI (s : Bs) (st : St) : Prop where
  tk : ∀ t ∈ st.2.1, okTk t
  adj : Adj st.2.1
  pend : ∀ u, lastO st.2.1 = some u → rawT u → st.1 = s.length ∨ rawE s u.2.1 st.1 = true
theorem lastO_app (out : List Tok) (t : Tok) : lastO (out ++ [t]) = some t := by
  unfold lastO
  rw [List.length_append, List.length_singleton, Nat.add_sub_cancel, List.getElem?_append_right (Nat.le_refl _), Nat.sub_self]
  rfl
theorem adj_app {out : List Tok} {t : Tok} (h : Adj out) (hl : ∀ u, lastO out = some u → Rel u t) : Adj (out ++ [t]) := by
  intro i u v hu hv
  have hvl : i + 1 < (out ++ [t]).length := (List.getElem?_eq_some_iff.1 hv).1
  simp only [List.length_append, List.length_singleton] at hvl
  by_cases h1 : i + 1 < out.length
  · rw [List.getElem?_append_left (by omega)] at hu
    rw [List.getElem?_append_left h1] at hv
    exact h i u v hu hv
  · have e : i + 1 = out.length := by omega
    rw [List.getElem?_append_left (by omega)] at hu
    rw [List.getElem?_append_right (by omega), show i + 1 - out.length = 0 by omega] at hv
    simp only [List.getElem?_cons_zero, Option.some.injEq] at hv
    subst hv
    exact hl u (by unfold lastO; rw [← e, Nat.add_sub_cancel]; exact hu)
theorem mem_app {out : List Tok} {t : Tok} {P : Tok → Prop} (h : ∀ u ∈ out, P u) (ht : P t) : ∀ u ∈ out ++ [t], P u := fun u hu => by
  rcases List.mem_append.1 hu with hu | hu
  · exact h u hu
  · rw [List.mem_singleton.1 hu]; exact ht
theorem okTx {d : Bs} (hd : d ≠ []) : okTk (tx d) := ⟨rfl, Nat.zero_le _, okAs_nil, Nat.zero_le _, fun _ => hd⟩
/-- Text is told: the tokens stay good; the last one is a text, or nothing was told. -/
theorem tell_FI {out : List Tok} {d : Bs} (h : ∀ t ∈ out, okTk t) (ha : Adj out) : (∀ t ∈ tellS out (tx d), okTk t) ∧ Adj (tellS out (tx d)) ∧ ((d = [] ∧ tellS out (tx d) = out) ∨ ∃ u, lastO (tellS out (tx d)) = some u ∧ u.1 = 1) := by
  unfold tellS
  rw [if_pos (show ((tx d).1 == 1) = true from rfl)]
  by_cases hd : d = []
  · rw [if_pos (show ((tx d).2.2.1 == ([] : Bs)) = true by rw [hd]; rfl)]
    exact ⟨h, ha, Or.inl ⟨hd, rfl⟩⟩
  · rw [if_neg (show ¬ ((tx d).2.2.1 == ([] : Bs)) = true by simpa using hd)]
    by_cases hl : lastT out = true
    · rw [if_pos hl]
      unfold lastT at hl
      unfold joinL
      cases hg : out[out.length - 1]? with
      | none => rw [hg] at hl; cases hl
      | some u =>
        rw [hg] at hl
        have hu1 : u.1 = 1 := by simpa using hl
        have hlt := (List.getElem?_eq_some_iff.1 hg).1
        have hok := h u (List.mem_of_getElem? hg)
        dsimp only
        refine ⟨fun t ht => ?_, fun i x y hx hy => ?_, Or.inr ⟨(u.1, (u.2.1, (u.2.2.1 ++ d, u.2.2.2))), ?_, hu1⟩⟩
        · rcases List.mem_or_eq_of_mem_set ht with h1 | h1
          · exact h t h1
          · rw [h1]
            exact ⟨hok.1, hok.2.1, hok.2.2.1, hok.2.2.2.1, fun _ => by simp [hd]⟩
        · rw [List.getElem?_set] at hx hy
          have hyl : i + 1 < out.length := by
            split at hy
            · rename_i e; omega
            · exact (List.getElem?_eq_some_iff.1 hy).1
          rw [if_neg (by omega)] at hx
          split at hy
          · rename_i e
            cases hy
            have := ha i x u hx (by rw [← e]; exact hg)
            exact ⟨this.1, fun hr => this.2 hr⟩
          · exact ha i x y hx hy
        · unfold lastO
          rw [List.length_set, List.getElem?_set, if_pos rfl, if_pos hlt]
    · rw [if_neg hl]
      refine ⟨mem_app h (okTx hd), adj_app ha (fun u hu => ?_), Or.inr ⟨_, lastO_app _ _, rfl⟩⟩
      refine ⟨fun hc => hl ?_, fun _ => Or.inl rfl⟩
      unfold lastT
      rw [show out[out.length - 1]? = some u from hu]
      simp [hc.1]
theorem pend_text {s : Bs} {i : Nat} {out : List Tok} {u : Tok} (hl : lastO out = some u) (hu : u.1 = 1) : ∀ v, lastO out = some v → rawT v → i = s.length ∨ rawE s v.2.1 i = true := fun v hv hr => by
  rw [hl] at hv
  cases hv
  rw [hr.1] at hu
  cases hu
theorem raw_FI {s n : Bs} {j : Nat} {out : List Tok} {f : List Fl} (hj : j ≤ s.length) (h : ∀ t ∈ out, okTk t) (ha : Adj out) (hlast : ∀ u, lastO out = some u → u.2.1 = n) : FI s (rawS s n j out f) := by
  obtain ⟨a, b, c⟩ := tell_FI (d := bif plainN n then rawX s n j else (dec (rawX s n j) 0).1) h ha
  refine ⟨a, b, ?_⟩
  rcases c with ⟨_, e⟩ | ⟨u, hu, hu1⟩
  · intro v hv hr
    have hv2 : lastO out = some v := by rw [← e]; exact hv
    show endP s n j = s.length ∨ rawE s v.2.1 (endP s n j) = true
    rw [hlast v hv2]
    exact endP_stop s n j hj
  · exact pend_text hu hu1
theorem tag_FI {s : Bs} {k : Int} {i i1 : Nat} {out : List Tok} {f : List Fl} (hs : s.length ≤ 2500) (hi1 : i1 ≤ s.length) (hk : k = 2 ∨ k = 3) (h : ∀ t ∈ out, okTk t) (ha : Adj out)
    (hl : ∀ u, lastO out = some u → rawT u → k = 3 ∧ tagN s i1 = u.2.1) : FI s (tagS s k i i1 out f) := by
  unfold tagS
  cases hT : tagL s k s.length (tagI s i1) false [] [] with
  | none => exact ⟨h, ha, fun _ _ _ => Or.inl rfl⟩
  | some r =>
    obtain ⟨j, sh, l, g⟩ := r
    have hjl := (tagL_le s k _ _ _ _ _ _ hT).2.1
    have al := tagL_al s k _ _ _ _ _ _ (by simp) hT
    have ok := tagL_ok s k (by omega) _ _ _ _ _ _ okAs_nil hT
    simp only at hjl al ok
    have hkn : k ≠ 1 := by rcases hk with rfl | rfl <;> decide
    have hok : okTk (k, (tagN s i1, (([] : Bs), (l, sh && k == 2)))) := ⟨great_low _, by show (tagN s i1).length ≤ _; unfold tagN; rw [lowerB_length]; simp; omega, ok, al, fun h => absurd h hkn⟩
    have h2 := mem_app h hok
    have a2 : Adj (out ++ [(k, (tagN s i1, (([] : Bs), (l, sh && k == 2))))]) := adj_app ha (fun u hu => ⟨fun hc => hkn hc.2, fun hr => Or.inr (hl u hu hr)⟩)
    dsimp only
    split
    · refine raw_FI (by omega) h2 a2 (fun u hu => ?_)
      rw [lastO_app] at hu
      cases hu
      rfl
    · rename_i hc
      refine ⟨h2, a2, fun u hu hr => ?_⟩
      have hu : lastO (out ++ [(k, (tagN s i1, (([] : Bs), (l, sh && k == 2))))]) = some u := hu
      rw [lastO_app] at hu
      cases hu
      exact absurd (by rw [show k = 2 from hr.1]; simpa using hr.2) hc
theorem note_FI {s e : Bs} {k : Int} {b i : Nat} {out : List Tok} {f : List Fl} (hk : k = 4 ∨ k = 5) (h : ∀ t ∈ out, okTk t) (ha : Adj out) (hl : ∀ u, lastO out = some u → ¬ rawT u) : FI s (noteS s k b e i out f) := by
  have hkn : k ≠ 1 := by rcases hk with rfl | rfl <;> decide
  have hk2 : k ≠ 2 := by rcases hk with rfl | rfl <;> decide
  have key : ∀ (x : Bs) (j : Nat) (f' : List Fl), FI s (j, out ++ [(k, ([], (x, ([], false))))], f') := fun x j f' => by
    refine ⟨mem_app h ⟨rfl, Nat.zero_le _, okAs_nil, Nat.zero_le _, fun h => absurd h hkn⟩, adj_app ha (fun u hu => ⟨fun hc => hkn hc.2, fun hr => absurd hr (hl u hu)⟩), fun u hu hr => ?_⟩
    have hu : lastO (out ++ [(k, (([] : Bs), (x, (([] : List Att), false))))]) = some u := hu
    rw [lastO_app] at hu
    cases hu
    exact absurd hr.1 hk2
  unfold noteS
  split
  · exact key _ _ _
  · exact key _ _ _
theorem step_FI {s : Bs} {st : St} (hs : s.length ≤ 2500) (hi : st.1 < s.length) (h : FI s st) : FI s (stepS s st) := by
  obtain ⟨i, out, f⟩ := st
  obtain ⟨h1, h2, h3⟩ := h
  simp only at h1 h2 h3 hi
  have pe : ∀ u, lastO out = some u → rawT u → chr s i = 60 ∧ chr s (i + 1) = 47 ∧ letterB (chr s (i + 2)) = true ∧ tagN s (i + 2) = u.2.1 := fun u hu hr => by
    rcases h3 u hu hr with h | h
    · omega
    · exact end_sign (by omega) hr.2 h
  unfold stepS
  simp only
  by_cases hc : (chr s i == 60) = true
  · rw [if_pos hc]
    unfold signS
    by_cases hl1 : letterB (chr s (i + 1)) = true
    · rw [if_pos hl1]
      refine tag_FI hs (by have := letter_lt hl1; omega) (Or.inl rfl) h1 h2 (fun u hu hr => ?_)
      have := (pe u hu hr).2.1
      rw [this] at hl1
      exact absurd hl1 (by decide)
    · rw [if_neg hl1]
      by_cases hl2 : (chr s (i + 1) == 47 && letterB (chr s (i + 2))) = true
      · rw [if_pos hl2]
        exact tag_FI hs (by have := letter_lt (Bool.and_eq_true _ _ ▸ hl2 : _ ∧ _).2; omega) (Or.inr rfl) h1 h2 (fun u hu hr => ⟨rfl, (pe u hu hr).2.2.2⟩)
      · rw [if_neg hl2]
        have no : ∀ u, lastO out = some u → ¬ rawT u := fun u hu hr => by
          obtain ⟨_, a, b, _⟩ := pe u hu hr
          apply hl2
          rw [a, b]
          rfl
        split
        · exact note_FI (Or.inl rfl) h1 h2 no
        · split
          · exact note_FI (Or.inr rfl) h1 h2 no
          · split
            · exact note_FI (Or.inl rfl) h1 h2 no
            · obtain ⟨a, b, c⟩ := tell_FI (d := [60]) h1 h2
              refine ⟨a, b, ?_⟩
              rcases c with ⟨e, _⟩ | ⟨u, hu, hu1⟩
              · cases e
              · exact pend_text hu hu1
  · rw [if_neg hc]
    obtain ⟨a, b, c⟩ := tell_FI (d := (dec ((s.drop i).take (spanN notLt s i)) 0).1) h1 h2
    refine ⟨a, b, ?_⟩
    rcases c with ⟨_, e⟩ | ⟨u, hu, hu1⟩
    · intro v hv hr
      have hv2 : lastO out = some v := by rw [← e]; exact hv
      exact absurd (beq_iff_eq.2 (pe v hv2 hr).1) hc
    · exact pend_text hu hu1
theorem run_FI {s : Bs} (hs : s.length ≤ 2500) : ∀ (n : Nat) (st : St), FI s st → FI s (runS s n st)
  | 0, st, h => h
  | n + 1, st, h => by
    rw [runS]
    split
    · rename_i hi
      exact run_FI hs n _ (step_FI hs hi h)
    · exact h
theorem plainForms (s : Bs) : pouncelaw14_TokenForms_ (Ev.upto 200000000) ((s, ()), ()) = some ((true, ()), ()) := by
  apply wp_eq
  unfold pouncelaw14_TokenForms_
  by_cases hs : 2500 < s.length
  · rw [show decide ((s.length : Int) > 2500) = true from decide_eq_true (by omega)]
    exact ⟨_, rfl, rfl⟩
  · rw [show decide ((s.length : Int) > 2500) = false from decide_eq_false (by omega), cond_false]
    have hs' : s.length ≤ 2500 := by omega
    have q0 := Tokens_eq 200000000 s hs' (by decide)
    have hF := run_FI hs' s.length (0, [], []) ⟨fun t h => by simp at h, fun i u v h => by simp at h, fun u h => by simp [lastO] at h⟩
    have hI := run_inv hs' s.length _ (inv0 s)
    have hlen : (runT s).2.1.length ≤ 100000 := by have h1 := hI.len; have h2 := hI.le; show (runS s s.length (0, [], [])).2.1.length ≤ _; omega
    have tk : ∀ t ∈ (runT s).2.1, okTk t := hF.tk
    have adj : Adj (runT s).2.1 := hF.adj
    generalize (runT s).2.1 = l at *
    simp -implicitDefEqProofs only [q0, Option.bind_some, bne_self_eq_false, cond_false]
    refine wp_bind ?_
    refine wp_for (σ := Unit) (fun i _ => (((i : Int), ()), (l, ()))) (fun _ _ => True) l.length () rfl trivial (by omega) ?_
    rintro i _ hi _
    by_cases hi' : i < l.length
    · have c0 : decide ((i : Int) < (l.length : Int)) = true := decide_eq_true (by omega)
      have c1 : decide (0 ≤ (i : Int)) = true := decide_eq_true (by omega)
      have w : IntKind.wrap .i64 ((i : Int) + 1) = ((i + 1 : Nat) : Int) := by rw [wrap64 (by omega) (by omega)]; omega
      have ii : l[((i : Nat) : Int).toNat]? = some l[i] := by rw [Int.toNat_natCast]; exact List.getElem?_eq_getElem hi'
      obtain ⟨t1, t2, t3, t4, t5⟩ := tk _ (List.getElem_mem hi')
      have qg := great_eq 200000000 l[i].2.1 t2 (by omega)
      have qt := twice_eq 200000000 l[i].2.2.2.1 t3 (by omega) (by decide)
      have c30 : decide ((l[i].2.2.2.1.length : Int) > 30) = false := decide_eq_false (by omega)
      rw [t1] at qg
      have clen : decide ((i : Int) < (l.length : Int)) = true := c0
      have dne : l[i].1 = 1 → (l[i].2.2.1 == ([] : Bs)) = false := fun h => by have := t5 h; simpa using this
      cases i with
      | zero =>
        have z1 : (decide (((0 : Nat) : Int) > 0) == true) = false := rfl
        have z2 : ((((0 : Nat) : Int) == 0) == false) = false := rfl
        cases hk1 : (l[0].1 == 1) with
        | true =>
          have hd := dne (by simpa using hk1)
          simp -implicitDefEqProofs only [c0, c1, Bool.and_self, Bool.and_true, cond_true, ii, Option.bind_some, hk1, beq_self_eq_true, hd, z1, cond_false, qg, qt, c30, z2, w]
          exact ⟨_, rfl, hi', (), rfl, trivial⟩
        | false =>
          simp -implicitDefEqProofs only [c0, c1, Bool.and_self, Bool.and_true, cond_true, ii, Option.bind_some, hk1, show (false == true) = false from rfl, beq_self_eq_true, cond_false, qg, qt, c30, z2, w]
          exact ⟨_, rfl, hi', (), rfl, trivial⟩
      | succ j =>
        have hj : j < l.length := by omega
        have z1 : (decide (((j + 1 : Nat) : Int) > 0) == true) = true := by rw [show decide (((j + 1 : Nat) : Int) > 0) = true from decide_eq_true (by omega)]; rfl
        have z2 : ((((j + 1 : Nat) : Int) == 0) == false) = true := by rw [show (((j + 1 : Nat) : Int) == 0) = false from by simp; omega]; rfl
        have wj : IntKind.wrap .i64 (((j + 1 : Nat) : Int) - 1) = (j : Int) := by rw [wrap64 (by omega) (by omega)]; omega
        have cj0 : decide (0 ≤ (j : Int)) = true := decide_eq_true (by omega)
        have cj1 : decide ((j : Int) < (l.length : Int)) = true := decide_eq_true (by omega)
        have ij : l[((j : Nat) : Int).toNat]? = some l[j] := by rw [Int.toNat_natCast]; exact List.getElem?_eq_getElem hj
        obtain ⟨r1, r2⟩ := adj j l[j] l[j + 1] (List.getElem?_eq_getElem hj) (List.getElem?_eq_getElem hi')
        have qr := Raw_eq (Ev.upto 200000000) l[j].2.1
        have first : wp ((bif ((l[j + 1].1 == (1 : Int)) == true) then (bif ((l[j + 1].2.2.1 == ([] : Bs)) == false) then (some ((((j + 1 : Nat) : Int), ((l[j].1 == (1 : Int)), ())), (l, ()))) else (some ((((j + 1 : Nat) : Int), (true, ())), (l, ())))) else (some ((((j + 1 : Nat) : Int), (false, ())), (l, ()))) : Option ((Int × Bool × Unit) × ((List Tok) × Unit)))) (fun o => o = ((((j + 1 : Nat) : Int), (false, ())), (l, ()))) := by
          cases hk1 : (l[j + 1].1 == 1) with
          | true =>
            have h1 : l[j + 1].1 = 1 := by simpa using hk1
            have hu : (l[j].1 == 1) = false := by
              cases hc : (l[j].1 == 1) with
              | false => rfl
              | true => exact absurd ⟨by simpa using hc, h1⟩ r1
            rw [dne h1, hu]
            exact ⟨_, rfl, rfl⟩
          | false => exact ⟨_, rfl, rfl⟩
        obtain ⟨_, e1, rfl⟩ := first
        simp -implicitDefEqProofs only [c0, c1, Bool.and_self, Bool.and_true, cond_true, ii, Option.bind_some, z1, wj, cj0, cj1, ij]
        rw [e1]
        simp -implicitDefEqProofs only [c0, c1, Bool.and_self, Bool.and_true, cond_true, cond_false, ii, Option.bind_some, beq_self_eq_true, qg, qt, c30, z2, wj, cj0, cj1, ij, qr, w]
        by_cases hr : rawT l[j]
        · have h2 : (l[j].1 != 2) = false := by rw [hr.1]; rfl
          simp -implicitDefEqProofs only [h2, beq_self_eq_true, cond_true, hr.2, Bool.not_true, cond_false, Option.bind_some]
          rcases r2 hr with h | ⟨h, hn⟩
          · have h3 : (l[j + 1].1 != 1) = false := by rw [h]; rfl
            simp -implicitDefEqProofs only [c0, c1, Bool.and_self, Bool.and_true, Bool.true_and, ii, wj, cj0, cj1, ij, cond_true, h3, show (false == true) = false from rfl, cond_false, Option.bind_some, w]
            exact ⟨_, rfl, hi', (), rfl, trivial⟩
          · have h3 : (l[j + 1].1 != 1) = true := by rw [h]; rfl
            have h4 : (l[j + 1].1 != 3) = false := by rw [h]; rfl
            have h5 : (l[j + 1].2.1 == l[j].2.1) = true := by rw [hn]; exact beq_self_eq_true _
            simp -implicitDefEqProofs only [c0, c1, Bool.and_self, Bool.and_true, Bool.true_and, ii, wj, cj0, cj1, ij, cond_true, h3, h4, h5, beq_self_eq_true, cond_true, Bool.not_true, cond_false, Option.bind_some, w]
            exact ⟨_, rfl, hi', (), rfl, trivial⟩
        · cases h2 : (l[j].1 != 2) with
          | true =>
            simp -implicitDefEqProofs only [show (true == false) = false from rfl, cond_false, cond_true, Option.bind_some, w]
            exact ⟨_, rfl, hi', (), rfl, trivial⟩
          | false =>
            have hn : rawN l[j].2.1 = false := by
              cases hc : rawN l[j].2.1 with
              | false => rfl
              | true => exact absurd ⟨by simpa using h2, hc⟩ hr
            simp -implicitDefEqProofs only [beq_self_eq_true, hn, Bool.not_false, cond_false, cond_true, Option.bind_some, w]
            exact ⟨_, rfl, hi', (), rfl, trivial⟩
    · have c0 : decide ((i : Int) < (l.length : Int)) = false := decide_eq_false (by omega)
      simp -implicitDefEqProofs only [c0, cond_false]
      refine ⟨_, rfl, ?_⟩
      simp only
      rw [exT]
      exact ⟨_, rfl, rfl⟩
end Go.En.Pl
