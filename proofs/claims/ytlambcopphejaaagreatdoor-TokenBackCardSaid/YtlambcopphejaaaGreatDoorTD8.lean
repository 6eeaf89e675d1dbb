/- Text TD8 of this seat: written by a program of ours, or by hand; checked by Lean. -/
import Derived.Test.YtlambcopphejaaaGreatDoorTD4
set_option linter.unusedSimpArgs false
set_option linter.unusedVariables false
namespace Go.En.Pl
theorem decB_shift : ∀ (f : Nat) (s : Bs) (a k : Int), decB f s (a + k) = ((decB f s a).1, (decB f s a).2.map fun p => (p.1, p.2 + k))
  | 0, s, a, k => rfl
  | f + 1, [], a, k => rfl
  | f + 1, c :: r, a, k => by
    simp only [decB]
    cases sgAt c r with
    | none =>
      simp only
      rw [show a + k + 1 = (a + 1) + k by omega, decB_shift f r (a + 1) k]
    | some p =>
      simp only
      rw [show a + k + p.1.length + 2 = (a + p.1.length + 2) + k by omega, decB_shift f p.2 (a + p.1.length + 2) k]
      simp only [List.map_append]
      congr 2
      unfold bad
      split <;> rfl
theorem dec_shift (s : Bs) (k : Int) : dec s k = ((dec s 0).1, (dec s 0).2.map fun p => (p.1, p.2 + k)) := by
  have := decB_shift s.length s 0 k
  rw [Int.zero_add] at this
  exact this
theorem dec_pos : ∀ (f : Nat) (s : Bs) (a : Int), ∀ p ∈ (decB f s a).2, a ≤ p.2 ∧ p.2 ≤ a + s.length
  | 0, s, a, p, h => by simp [decB] at h
  | f + 1, [], a, p, h => by simp [decB] at h
  | f + 1, c :: r, a, p, h => by
    simp only [decB] at h
    cases hs : sgAt c r with
    | none =>
      rw [hs] at h
      have := dec_pos f r (a + 1) p h
      simp only [List.length_cons]; omega
    | some q =>
      rw [hs] at h
      simp only [List.mem_append] at h
      have hl : r.length = q.1.length + q.2.length + 1 := by rw [(sgAt_some hs).2.1]; simp; omega
      rcases h with h | h
      · unfold bad at h
        split at h
        · cases h
        · have : p = (130, a) := by simpa using h
          subst this
          simp only [List.length_cons]; omega
      · have := dec_pos f q.2 _ p h
        simp only [List.length_cons]; omega
theorem Fails_eq (N : Nat) (l : List (Int × Int)) (hN : l.length < N) (h : l.length ≤ 100000) : pounceref13_Fails_ (Ev.upto N) ((l, (l, ())), ()) = some ((true, ()), ()) := by
  apply wp_eq
  unfold pounceref13_Fails_
  simp -implicitDefEqProofs only [bne_self_eq_false, cond_false]
  refine wp_bind ?_
  refine wp_for (σ := Unit) (fun i _ => ((l, (l, ((i : Int), ()))), ())) (fun _ _ => True) l.length () rfl trivial hN ?_
  rintro i _ hi _
  by_cases hi' : i < l.length
  · have c0 : decide ((i : Int) < ((l.length : Nat) : Int)) = true := decide_eq_true (by omega)
    have w : IntKind.wrap .i64 ((i : Int) + 1) = ((i + 1 : Nat) : Int) := by rw [wrap64 (by omega) (by omega)]; omega
    simp -implicitDefEqProofs only [c0, cond_true, idx_nat hi', Option.bind_some, beq_self_eq_true, Bool.and_self, Bool.not_true, cond_false, w]
    exact ⟨_, rfl, hi', (), rfl, trivial⟩
  · have c0 : decide ((i : Int) < ((l.length : Nat) : Int)) = false := decide_eq_false (by omega)
    simp -implicitDefEqProofs only [c0, cond_false]
    exact ⟨_, rfl, ⟨_, rfl, rfl⟩⟩
theorem utf_ne (n : Nat) : utf n ≠ [] := by
  unfold utf utfI
  repeat' split
  all_goals simp [toBs]
theorem nm_ne (s : Bs) (h : (nm s).2 = true) : (nm s).1 ≠ [] := by
  unfold nm at h ⊢
  cases hf : names.find? (fun p => p.1 == s) with
  | none => rw [hf] at h; cases h
  | some p =>
    have hm := List.mem_of_find?_eq_some hf
    have : ∀ p ∈ names, p.2 ≠ [] := by decide
    exact this p hm
theorem sg_ne (s : Bs) (h : (sg s).2.1 = true) : (sg s).1 ≠ [] := by
  unfold sg at h ⊢
  split at h
  · rename_i h1
    rw [if_pos h1]
    exact nm_ne s h1
  · rename_i h1
    rw [if_neg h1]
    cases s with
    | nil => cases h
    | cons c d =>
      simp only [sgT] at h ⊢
      split at h
      · rename_i h2
        rw [if_pos h2]
        cases hs : sgNum d with
        | none => rw [hs] at h; cases h
        | some n =>
          simp only [sgOf]
          split <;> exact utf_ne _
      · cases h
theorem dec_ne {s : Bs} (h : s ≠ []) (a : Int) : (dec s a).1 ≠ [] := by
  cases s with
  | nil => exact absurd rfl h
  | cons c r =>
    cases hs : sgAt c r with
    | none => rw [dec_plain hs]; simp
    | some p =>
      rw [dec_sign hs]
      have := sg_ne p.1 (sgAt_some hs).2.2.2
      simp [this]
end Go.En.Pl
