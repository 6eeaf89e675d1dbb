/- Text TB6 of this seat: written by a program of ours, or by hand; checked by Lean. -/
import Derived.Test.YtlambcopphejaaaGreatDoorTB5
set_option linter.unusedSimpArgs false
set_option linter.unusedVariables false
namespace Go.En.Pl
def BS (s : Bs) (st : St) : Prop := st.2.2 = [] → ∃ pd, BI s st.1 st.2.1 pd
theorem note_fails (s : Bs) (k : Int) (b : Nat) (e : Bs) (i : Nat) (out : List Tok) (f : List Fl) : f <+: (noteS s k b e i out f).2.2 := by
  unfold noteS
  split
  · exact List.prefix_refl _
  · exact List.prefix_append _ _
theorem raw_fails (s n : Bs) (i : Nat) (out : List Tok) (f : List Fl) : f <+: (rawS s n i out f).2.2 := by
  unfold rawS
  simp only [List.append_assoc]
  exact List.prefix_append _ _
theorem tag_fails (s : Bs) (k : Int) (fr i : Nat) (out : List Tok) (f : List Fl) : f <+: (tagS s k fr i out f).2.2 := by
  unfold tagS
  split
  · exact List.prefix_append _ _
  · split
    · exact (List.prefix_append _ _).trans (raw_fails _ _ _ _ _)
    · exact List.prefix_append _ _
theorem step_fails (s : Bs) (st : St) : st.2.2 <+: (stepS s st).2.2 := by
  unfold stepS
  split
  · unfold signS
    split
    · exact tag_fails _ _ _ _ _ _
    · split
      · exact tag_fails _ _ _ _ _ _
      · split
        · exact note_fails _ _ _ _ _ _ _
        · split
          · exact note_fails _ _ _ _ _ _ _
          · split
            · exact (List.prefix_append _ _).trans (note_fails _ _ _ _ _ _ _)
            · exact List.prefix_append _ _
  · exact List.prefix_append _ _
theorem step_BS {s : Bs} {st : St} (hs : s.length ≤ 2500) (hi : st.1 < s.length) (h : BS s st) : BS s (stepS s st) := by
  intro hf
  obtain ⟨i, out, f⟩ := st
  have hf0 : f = [] := by
    have := step_fails s (i, out, f)
    rw [hf] at this
    exact List.prefix_nil.1 this
  subst hf0
  obtain ⟨pd, hb⟩ := h rfl
  simp only at hb hi
  unfold stepS at hf ⊢
  simp only at hf ⊢
  by_cases hc : (chr s i == 60) = true
  · rw [if_pos hc] at hf ⊢
    unfold signS at hf ⊢
    by_cases h1 : letterB (chr s (i + 1)) = true
    · rw [if_pos h1] at hf ⊢
      have hpd : pd = none := pend_none (by omega) hb (fun hx => by
        have := (Bool.and_eq_true _ _ ▸ hx : _ ∧ _).1
        rw [beq_iff_eq.1 this] at h1
        exact absurd h1 (by decide))
      subst hpd
      exact start_BI hs (by omega) hb h1 hf
    · rw [if_neg h1] at hf ⊢
      by_cases h2 : (chr s (i + 1) == 47 && letterB (chr s (i + 2))) = true
      · rw [if_pos h2] at hf ⊢
        exact ⟨none, end_BI hs (by omega) hb (Bool.and_eq_true _ _ ▸ h2 : _ ∧ _).2 hf⟩
      · rw [if_neg h2] at hf ⊢
        have hpd : pd = none := pend_none (by omega) hb h2
        subst hpd
        by_cases h3 : isB s i [60, 33, 45, 45] = true
        · rw [if_pos h3] at hf ⊢
          exact ⟨none, note_BI hs (by have := isB_lt h3 (by omega); simpa using this) hb hf⟩
        · rw [if_neg h3] at hf ⊢
          by_cases h4 : isB s i [60, 33, 100, 111, 99, 116, 121, 112, 101] = true
          · rw [if_pos h4] at hf ⊢
            exact ⟨none, doct_BI hs (by have := isB_lt h4 (by omega); simpa using this) hb hf⟩
          · rw [if_neg h4] at hf
            exfalso
            split at hf
            · have := note_fails s 4 2 [62] i out ([] ++ [(141, (i : Int))])
              rw [hf] at this
              have := List.prefix_nil.1 this
              simp at this
            · simp at hf
  · rw [if_neg hc] at hf ⊢
    exact ⟨none, text_BI hs hi hb (by simpa using hc) hf⟩
theorem run_BS {s : Bs} (hs : s.length ≤ 2500) : ∀ (n : Nat) (st : St), BS s st → BS s (runS s n st)
  | 0, st, h => h
  | n + 1, st, h => by
    rw [runS]
    split
    · rename_i hi
      exact run_BS hs n _ (step_BS hs hi h)
    · exact h
theorem run_end {s : Bs} : ∀ (n : Nat) (st : St), s.length ≤ st.1 → runS s n st = st
  | 0, st, _ => rfl
  | n + 1, st, h => by rw [runS, if_neg (by omega)]
/-- The tokens of the printed text are the tokens. -/
theorem back {s : Bs} (hs : s.length ≤ 2500) (hend : (runT s).1 = s.length) (hf : (runT s).2.2 = []) : (∀ t ∈ (runT s).2.1, okP t) ∧ (P (runT s).2.1).length ≤ 15000 ∧ runT (P (runT s).2.1) = ((P (runT s).2.1).length, (runT s).2.1, []) := by
  obtain ⟨pd, hb⟩ := run_BS hs s.length (0, [], []) (fun _ => ⟨none, BI0 s⟩) hf
  have hb : BI s (runT s).1 (runT s).2.1 pd := hb
  rw [hend] at hb
  have hpd : pd = none := by
    cases hp : pd with
    | none => rfl
    | some n =>
      have := rawE_lt (hb.pend n hp).2
      omega
  subst hpd
  generalize (runT s).2.1 = out at *
  refine ⟨hb.ok, by have := hb.len; omega, ?_⟩
  obtain ⟨k, hk, hre⟩ := hb.re [] ⟨fun _ c z e => by (cases e), fun n e => by (cases e)⟩
  rw [List.append_nil] at hre
  have := hre ((P out).length - k)
  rw [show k + ((P out).length - k) = (P out).length by omega, run_end (s := P out) ((P out).length - k) ((P out).length, out, []) (Nat.le_refl _)] at this
  exact this
end Go.En.Pl
