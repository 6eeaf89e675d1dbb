/- Text TT3 of this seat: written by a program of ours, or by hand; checked by Lean. -/
import Derived.Test.YtlambcopphejaaaGreatDoorTT2
set_option linter.unusedSimpArgs false
set_option linter.unusedVariables false
namespace Go.En.Pl
/-! ### The first place of a text -/
def findB : Bs → Bs → Option Nat
  | [], e => if e.isEmpty then some 0 else none
  | c :: r, e => if e.isPrefixOf (c :: r) then some 0 else (findB r e).map (· + 1)
theorem findB_index : ∀ (l e : Bs), Lib.index l e = match findB l e with | some k => (k : Int) | none => -1
  | [], e => by unfold Lib.index findB; split <;> rfl
  | c :: r, e => by
    unfold Lib.index findB
    split
    · rfl
    · rw [findB_index r e]
      cases findB r e with
      | none => rfl
      | some k =>
        have : ((k : Int) == -1) = false := by simp
        simp only [this, Option.map_some]
        simp
theorem findB_some : ∀ (l e : Bs) (k : Nat), findB l e = some k → k + e.length ≤ l.length ∧ (l.drop k).take e.length = e
  | [], e, k, h => by
    unfold findB at h
    split at h
    · rename_i he
      cases h
      have : e = [] := by simpa using he
      subst this
      simp
    · cases h
  | c :: r, e, k, h => by
    unfold findB at h
    split at h
    · rename_i hp
      cases h
      have := List.isPrefixOf_iff_prefix.1 hp
      refine ⟨by simpa using this.length_le, ?_⟩
      rw [List.drop_zero]
      exact (List.prefix_iff_eq_take.1 this).symm
    · cases hr : findB r e with
      | none => rw [hr] at h; cases h
      | some j =>
        rw [hr] at h
        cases h
        have := findB_some r e j hr
        simp only [List.length_cons, List.drop_succ_cons]
        exact ⟨by omega, this.2⟩
theorem findB_short : ∀ (l e : Bs), l.length < e.length → findB l e = none
  | [], e, h => by
    unfold findB
    rw [if_neg]
    intro he
    have : e = [] := by simpa using he
    subst this
    simp at h
  | c :: r, e, h => by
    unfold findB
    rw [if_neg, findB_short r e (by simp at h; omega)]
    · rfl
    · intro hp
      have := (List.isPrefixOf_iff_prefix.1 hp).length_le
      omega
theorem findB_step {s e : Bs} {i : Nat} (he : 0 < e.length) (h : i < s.length) : findB (s.drop i) e = if (s.drop i).take e.length == e then some 0 else (findB (s.drop (i + 1)) e).map (· + 1) := by
  rw [List.drop_eq_getElem_cons h, findB]
  congr 1
  rw [eq_iff_iff, List.isPrefixOf_iff_prefix, List.prefix_iff_eq_take, beq_iff_eq]
  exact eq_comm
theorem Cut_eq (V : Ev) (l e : Bs) (hl : l.length ≤ 100000) : strings_Cut_ V ((l, (e, ())), ()) = some ((match findB l e with | some k => (l.take k, (l.drop (k + e.length), (true, ()))) | none => (l, (([] : Bs), (false, ())))), ()) := by
  unfold strings_Cut_ istringslite_Cut_ istringslite_Index_ gIndex
  simp -implicitDefEqProofs only [show decide (l.length < 4294967281) = true from decide_eq_true (by omega), cond_true, Option.bind_some, findB_index l e]
  cases hf : findB l e with
  | none =>
    simp -implicitDefEqProofs only [show decide ((-1 : Int) ≥ 0) = false from rfl, cond_false, Option.bind_some]
  | some k =>
    obtain ⟨h1, h2⟩ := findB_some l e k hf
    have w : IntKind.wrap .i64 ((k : Int) + (e.length : Int)) = ((k + e.length : Nat) : Int) := by rw [wrap64 (by omega) (by omega)]; omega
    have s1 : sl l (0 : Int) (k : Int) = some (l.take k) := by have := sl_nat (l := l) (a := 0) (b := k) (by omega) (by omega); simpa using this
    have s2 : sl l ((k + e.length : Nat) : Int) (l.length : Int) = some (l.drop (k + e.length)) := sl_end h1
    simp -implicitDefEqProofs only [show decide ((k : Int) ≥ 0) = true from decide_eq_true (by omega), cond_true, w, s1, s2, Option.bind_some]
/-! ### The cursor -/
theorem left_eq (V : Ev) (s : Bs) (i : Nat) (out : List Tok) (f : List Fl) (hi : i ≤ s.length) : token_text_left_4fb V ((), cur s i out f) = some ((s.drop i, ()), cur s i out f) := by
  unfold token_text_left_4fb
  have q : sl s ((i : Nat) : Int) (s.length : Int) = some (s.drop i) := sl_end hi
  simp -implicitDefEqProofs only [q, Option.bind_some]
def isB (s : Bs) (i : Nat) (low : Bs) : Bool := decide (low.length ≤ s.length - i) && lowerB ((s.drop i).take low.length) == lowerB low
theorem is_eq (N : Nat) (low s : Bs) (i : Nat) (out : List Tok) (f : List Fl) (hi : i ≤ s.length) (hs : s.length ≤ 100000) (hl : low.length ≤ 100000) (hN : s.length < N) : token_text_is_129 (Ev.upto N) ((low, ()), cur s i out f) = some ((isB s i low, ()), cur s i out f) := by
  unfold token_text_is_129 isB
  have q := left_eq (Ev.upto N) s i out f hi
  simp -implicitDefEqProofs only [q, Option.bind_some]
  by_cases h : low.length ≤ s.length - i
  · have c : decide (((s.drop i).length : Int) ≥ (low.length : Int)) = true := decide_eq_true (by simp; omega)
    have s1 : sl (s.drop i) (0 : Int) (low.length : Int) = some ((s.drop i).take low.length) := by have := sl_nat (l := s.drop i) (a := 0) (b := low.length) (by omega) (by simp; omega); simpa using this
    have q2 := same_eq N ((s.drop i).take low.length) low (by simp; omega) (by omega) (by simp; omega) (by omega)
    simp -implicitDefEqProofs only [c, beq_self_eq_true, cond_true, s1, Option.bind_some, q2, show decide (low.length ≤ s.length - i) = true from decide_eq_true h, Bool.true_and]
  · have c : decide (((s.drop i).length : Int) ≥ (low.length : Int)) = false := decide_eq_false (by simp; omega)
    simp -implicitDefEqProofs only [c, show (false == true) = false from rfl, cond_false, Option.bind_some, show decide (low.length ≤ s.length - i) = false from decide_eq_false h, Bool.false_and]
theorem upto_eq (V : Ev) (e s : Bs) (i : Nat) (out : List Tok) (f : List Fl) (hi : i ≤ s.length) (hs : s.length ≤ 100000) : token_text_upto_129 V ((e, ()), cur s i out f) = match findB (s.drop i) e with | some k => some (((s.drop i).take k, (true, ())), cur s (i + k + e.length) out f) | none => some ((s.drop i, (false, ())), cur s s.length out f) := by
  unfold token_text_upto_129
  have q := left_eq V s i out f hi
  have q2 := Cut_eq V (s.drop i) e (by simp; omega)
  simp -implicitDefEqProofs only [q, Option.bind_some, q2]
  cases hf : findB (s.drop i) e with
  | none =>
    have w : IntKind.wrap .i64 (((i : Nat) : Int) + ((s.drop i).length : Int)) = ((s.length : Nat) : Int) := by rw [wrap64 (by simp; omega) (by simp; omega)]; simp; omega
    simp -implicitDefEqProofs only [cond_false, Option.bind_some, w]
  | some k =>
    have hk := (findB_some _ _ _ hf).1
    have hk2 : k + e.length ≤ s.length - i := by simpa using hk
    have hl : (((s.drop i).take k).length : Int) = (k : Int) := by simp; omega
    have w1 : IntKind.wrap .i64 (((i : Nat) : Int) + (k : Int)) = ((i + k : Nat) : Int) := by rw [wrap64 (by omega) (by omega)]; omega
    have w2 : IntKind.wrap .i64 (((i + k : Nat) : Int) + (e.length : Int)) = ((i + k + e.length : Nat) : Int) := by rw [wrap64 (by omega) (by omega)]; omega
    simp -implicitDefEqProofs only [cond_true, Option.bind_some, hl, w1, w2]
/-- An attribute's value at a place: its text, whether it ends, the place behind it, its Fails. -/
def valP (s : Bs) (i : Nat) : Bs × Bool × Nat × List Fl :=
  if isB s i [34] || isB s i [39] then
    match findB (s.drop (i + 1)) ((s.drop i).take 1) with
    | some k => ((dec ((s.drop (i + 1)).take k) (i + 1 : Nat)).1, true, i + 1 + k + 1, (dec ((s.drop (i + 1)).take k) (i + 1 : Nat)).2)
    | none => ((dec (s.drop (i + 1)) (i + 1 : Nat)).1, false, s.length, (dec (s.drop (i + 1)) (i + 1 : Nat)).2)
  else ((dec ((s.drop i).take (spanN isVal s i)) (i : Nat)).1, true, i + spanN isVal s i, (dec ((s.drop i).take (spanN isVal s i)) (i : Nat)).2)
theorem dec_fst (x : Bs) (a : Int) : (dec x a).1 = (dec x 0).1 := by rw [dec_shift x a]
theorem value_eq (N : Nat) (s : Bs) (i : Nat) (out : List Tok) (f : List Fl) (hi : i ≤ s.length) (hs : s.length ≤ 15000) (hf : f.length ≤ 900000000) (hN : s.length < N) (h8 : 8 < N) :
    token_cursor_value_4fb (Ev.upto N) ((), cur s i out f) = some (((valP s i).1, ((valP s i).2.1, ())), cur s (valP s i).2.2.1 out (f ++ (valP s i).2.2.2)) := by
  unfold token_cursor_value_4fb valP
  have q1 := is_eq N [34] s i out f hi (by omega) (by decide) hN
  have q2 := is_eq N [39] s i out f hi (by omega) (by decide) hN
  cases h1 : (isB s i [34] || isB s i [39]) with
  | true =>
    have hlt : i < s.length := by
      rcases Bool.or_eq_true _ _ ▸ h1 with h | h
      · have := of_decide_eq_true (Bool.and_eq_true _ _ ▸ h : _ ∧ _).1
        simp at this; omega
      · have := of_decide_eq_true (Bool.and_eq_true _ _ ▸ h : _ ∧ _).1
        simp at this; omega
    have e : ((token_text_is_129 (Ev.upto N) ((([34] : Bs), ()), cur s i out f)).bind fun v1 => (bif (v1.1.1 == false) then ((token_text_is_129 (Ev.upto N) ((([39] : Bs), ()), ((v1.2.1.1, (v1.2.1.2.1, ())), (v1.2.2.1, (v1.2.2.2.1, ()))))).bind fun v2 => (some ((v2.1.1, ()), ((v2.2.1.1, (v2.2.1.2.1, ())), (v2.2.2.1, (v2.2.2.2.1, ())))))) else (some ((true, ()), ((v1.2.1.1, (v1.2.1.2.1, ())), (v1.2.2.1, (v1.2.2.2.1, ()))))))) = some ((true, ()), cur s i out f) := by
      simp -implicitDefEqProofs only [q1, Option.bind_some]
      cases h34 : isB s i [34] with
      | true => rfl
      | false =>
        rw [h34, Bool.false_or] at h1
        rw [h1] at q2
        simp -implicitDefEqProofs only [beq_self_eq_true, cond_true, q2, Option.bind_some]
    rw [if_pos rfl]
    have s1 : sl (s.drop i) (0 : Int) (1 : Int) = some ((s.drop i).take 1) := by have := sl_nat (l := s.drop i) (a := 0) (b := 1) (by omega) (by simp; omega); simpa using this
    have w : IntKind.wrap .i64 (((i : Nat) : Int) + 1) = ((i + 1 : Nat) : Int) := by rw [wrap64 (by omega) (by omega)]; omega
    have q3 := left_eq (Ev.upto N) s i out f hi
    have q4 := upto_eq (Ev.upto N) ((s.drop i).take 1) s (i + 1) out f (by omega) (by omega)
    have hl1 : ((s.drop i).take 1).length = 1 := by simp; omega
    rw [e]
    simp -implicitDefEqProofs only [Option.bind_some, cond_true, q3, s1, w, q4]
    cases hfd : findB (s.drop (i + 1)) ((s.drop i).take 1) with
    | none =>
      have q5 := decoded_eq N (s.drop (i + 1)) (i + 1) s s.length out f (by simp; omega) (by omega) (by simp; omega) (by simp; omega) h8
      simp -implicitDefEqProofs only [Option.bind_some, q5, dec_fst]
    | some k =>
      have hk := (findB_some _ _ _ hfd).1
      rw [hl1] at hk
      have hk2 : k + 1 ≤ s.length - (i + 1) := by simpa using hk
      have q5 := decoded_eq N ((s.drop (i + 1)).take k) (i + 1) s (i + 1 + k + ((s.drop i).take 1).length) out f (by simp; omega) (by omega) (by simp; omega) (by simp; omega) h8
      rw [hl1] at q5
      simp -implicitDefEqProofs only [Option.bind_some, q5, dec_fst, hl1]
  | false =>
    obtain ⟨h34, h39⟩ := Bool.or_eq_false_iff.1 h1
    rw [h34] at q1
    rw [h39] at q2
    rw [if_neg (by simp)]
    have q3 := takeVal_eq N s i out f hi (by omega) hN
    have hsp := spanN_le isVal s i hi
    have q5 := decoded_eq N ((s.drop i).take (spanN isVal s i)) i s (i + spanN isVal s i) out f (by simp; omega) (by omega) (by simp; omega) (by simp; omega) h8
    simp -implicitDefEqProofs only [q1, q2, Option.bind_some, beq_self_eq_true, cond_true, cond_false, q3, q5, dec_fst]
end Go.En.Pl
