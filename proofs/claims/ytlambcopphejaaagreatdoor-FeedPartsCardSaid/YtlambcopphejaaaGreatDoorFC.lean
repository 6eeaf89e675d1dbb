/- Text FC of this seat: written by a program of ours, or by hand; checked by Lean. -/
import Derived.Test.YtlambcopphejaaaGreatDoorFA
set_option linter.unusedSimpArgs false
set_option linter.unusedVariables false
namespace Go.En.Pl
theorem tagL_al (s : Bs) (k : Int) : ∀ (n i : Nat) (sl : Bool) (l : List Att) (g : List Fl) (r : Nat × Bool × List Att × List Fl), l.length ≤ 30 → tagL s k n i sl l g = some r → r.2.2.1.length ≤ 30
  | 0, i, sl, l, g, r, _, h => by cases h
  | n + 1, i, sl, l, g, r, hl, h => by
    rw [tagL] at h
    cases hc : s[i]? with
    | none => rw [hc] at h; cases h
    | some c =>
      rw [hc] at h
      simp only at h
      split at h
      · cases h; exact hl
      · split at h
        · exact tagL_al s k n _ _ _ _ _ hl h
        · split at h
          · exact tagL_al s k n _ _ _ _ _ (attS_al s i k l hl) h
          · cases h
def alOK (out : List Tok) : Prop := ∀ u ∈ out, u.2.2.2.1.length ≤ 30
theorem tell_al {out : List Tok} {t : Tok} (h : alOK out) (ht : t.2.2.2.1.length ≤ 30) : alOK (tellS out t) := by
  intro u hu
  have app : u ∈ out ++ [t] → u.2.2.2.1.length ≤ 30 := fun h1 => by
    rcases List.mem_append.1 h1 with h1 | h1
    · exact h u h1
    · rw [List.mem_singleton.1 h1]; exact ht
  unfold tellS at hu
  split at hu
  · split at hu
    · exact h u hu
    · split at hu
      · unfold joinL at hu
        split at hu
        · rename_i v hv
          rcases List.mem_or_eq_of_mem_set hu with h1 | h1
          · exact h u h1
          · rw [h1]; exact h v (List.mem_of_getElem? hv)
        · exact h u hu
      · exact app hu
  · exact app hu
theorem app_al {out : List Tok} {t : Tok} (h : alOK out) (ht : t.2.2.2.1.length ≤ 30) : alOK (out ++ [t]) := by
  intro u hu
  rcases List.mem_append.1 hu with h1 | h1
  · exact h u h1
  · rw [List.mem_singleton.1 h1]; exact ht
theorem raw_al {s n : Bs} {i : Nat} {out : List Tok} {f : List Fl} (h : alOK out) : alOK (rawS s n i out f).2.1 := tell_al (t := tx (bif plainN n then rawX s n i else (dec (rawX s n i) 0).1)) h (Nat.zero_le 30)
theorem tag_al {s : Bs} {k : Int} {i i1 : Nat} {out : List Tok} {f : List Fl} (h : alOK out) : alOK (tagS s k i i1 out f).2.1 := by
  unfold tagS
  cases hT : tagL s k s.length (tagI s i1) false [] [] with
  | none => exact h
  | some r =>
    obtain ⟨j, sh, l, g⟩ := r
    have := tagL_al s k _ _ _ _ _ _ (by simp) hT
    dsimp only
    split
    · exact raw_al (app_al h this)
    · exact app_al h this
theorem note_al {s e : Bs} {k : Int} {b i : Nat} {out : List Tok} {f : List Fl} (h : alOK out) : alOK (noteS s k b e i out f).2.1 := by
  unfold noteS
  split
  · exact app_al h (by simp)
  · exact app_al h (by simp)
theorem step_al {s : Bs} {st : St} (h : alOK st.2.1) : alOK (stepS s st).2.1 := by
  unfold stepS
  split
  · unfold signS
    split
    · exact tag_al h
    · split
      · exact tag_al h
      · split
        · exact note_al h
        · split
          · exact note_al h
          · split
            · exact note_al h
            · exact tell_al (t := tx [60]) h (Nat.zero_le 30)
  · exact tell_al (t := tx (dec ((s.drop st.1).take (spanN notLt s st.1)) 0).1) h (Nat.zero_le 30)
theorem run_al (s : Bs) : ∀ (n : Nat) (st : St), alOK st.2.1 → alOK (runS s n st).2.1
  | 0, st, h => h
  | n + 1, st, h => by
    rw [runS]
    split
    · exact run_al s n _ (step_al h)
    · exact h
theorem run_inv {s : Bs} (hs : s.length ≤ 15000) : ∀ (n : Nat) (st : St), Inv s st → Inv s (runS s n st)
  | 0, st, h => h
  | n + 1, st, h => by
    rw [runS]
    split
    · rename_i hi
      exact run_inv hs n _ (step_inv (by omega) hi h).1
    · exact h
theorem Same2_eq (N : Nat) (l : List Tok) (hl : l.length < N) (hb : l.length ≤ 1000000000) (h : ∀ t ∈ l, t.2.2.2.1.length ≤ 4000) (hN : 4000 < N) : pounceref14_Same_ (Ev.upto N) ((l, (l, ())), ()) = some ((true, ()), ()) := by
  apply wp_eq
  unfold pounceref14_Same_
  have cz : ((l.length : Int) != (l.length : Int)) = false := by simp
  simp -implicitDefEqProofs only [cz, cond_false]
  refine wp_bind ?_
  refine wp_for (σ := Unit) (fun i _ => ((l, (l, ((i : Int), ()))), ())) (fun i _ => True) l.length () rfl trivial (by omega) ?_
  rintro i _ hi _
  by_cases hi' : i < l.length
  · have c0 : decide ((i : Int) < (l.length : Int)) = true := decide_eq_true (by omega)
    have w : IntKind.wrap .i64 ((i : Int) + 1) = ((i + 1 : Nat) : Int) := by rw [wrap64 (by omega) (by omega)]; omega
    have q := One_eq N l[i] (h _ (List.getElem_mem hi')) hN
    simp -implicitDefEqProofs only [c0, cond_true, idx_nat hi', Option.bind_some, w, q, Bool.not_true, cond_false]
    exact ⟨_, rfl, hi', (), rfl, trivial⟩
  · have c0 : decide ((i : Int) < (l.length : Int)) = false := decide_eq_false (by omega)
    simp -implicitDefEqProofs only [c0, cond_false]
    exact ⟨_, rfl, _, rfl, rfl⟩
theorem Fails2_eq (N : Nat) (l : List (Int × Int)) (hN : l.length < N) (h : l.length ≤ 1000000000) : pounceref13_Fails_ (Ev.upto N) ((l, (l, ())), ()) = some ((true, ()), ()) := by
  apply wp_eq
  unfold pounceref13_Fails_
  simp -implicitDefEqProofs only [bne_self_eq_false, cond_false]
  refine wp_bind ?_
  refine wp_for (σ := Unit) (fun i _ => ((l, (l, ((i : Int), ()))), ())) (fun _ _ => True) l.length () rfl trivial hN ?_
  rintro i _ hi _
  by_cases hi' : i < l.length
  · have c0 : decide ((i : Int) < ((l.length : Nat) : Int)) = true := decide_eq_true (by omega)
    have w : IntKind.wrap .i64 ((i : Int) + 1) = ((i + 1 : Nat) : Int) := by rw [wrap64 (by omega) (by omega)]; omega
    simp -implicitDefEqProofs only [c0, cond_true, idx_nat hi', Option.bind_some, beq_self_eq_true, Bool.and_self, Bool.not_true, cond_false, w]
    exact ⟨_, rfl, hi', (), rfl, trivial⟩
  · have c0 : decide ((i : Int) < ((l.length : Nat) : Int)) = false := decide_eq_false (by omega)
    simp -implicitDefEqProofs only [c0, cond_false]
    exact ⟨_, rfl, ⟨_, rfl, rfl⟩⟩
end Go.En.Pl
