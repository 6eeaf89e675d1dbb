/- Text PL6 of this seat: written by a program of ours, or by hand; checked by Lean. -/
import Derived.Test.YtgenjkaccmjfkaaGreatDoorPL5
set_option linter.unusedSimpArgs false
set_option linter.unusedVariables false
namespace Go.En.Pl
/-! ### The law SourceLetters -/
def fixC (c : UInt8) : Prop := ∀ x, low1 x = c ↔ x = c
theorem fix_of (c : UInt8) (h : (List.range 256).all (fun n => (low1 (UInt8.ofNat n) == c) == (UInt8.ofNat n == c)) = true) : fixC c := fun x => by
  have := fa_byte (P := fun x => (low1 x == c) == (x == c)) h x
  have := beq_iff_eq.1 this
  constructor
  · intro e; rw [e, beq_self_eq_true] at this; simpa using this.symm
  · intro e; rw [e, beq_self_eq_true] at this; rw [e]; simpa using this
theorem f58 : fixC 58 := fix_of _ (by kernel_rfl)
theorem f47 : fixC 47 := fix_of _ (by kernel_rfl)
theorem f39 : fixC 39 := fix_of _ (by kernel_rfl)
theorem f42 : fixC 42 := fix_of _ (by kernel_rfl)
theorem pre_low : ∀ (e l : Bs), (∀ c ∈ e, fixC c) → e.isPrefixOf (lowerB l) = e.isPrefixOf l
  | [], l, _ => by simp [List.isPrefixOf]
  | a :: e, [], _ => rfl
  | a :: e, x :: l, h => by
    have h1 := h a List.mem_cons_self x
    have ih := pre_low e l (fun c hc => h c (List.mem_cons_of_mem _ hc))
    have e1 : (a == low1 x) = (a == x) := by
      rw [Bool.eq_iff_iff, beq_iff_eq, beq_iff_eq]
      exact ⟨fun h => (h1.1 h.symm).symm, fun h => (h1.2 h.symm).symm⟩
    rw [lowerB_cons]
    simp only [List.isPrefixOf, ih, e1]
theorem findB_low (e : Bs) (he : ∀ c ∈ e, fixC c) : ∀ l : Bs, findB (lowerB l) e = findB l e
  | [] => rfl
  | x :: l => by
    have ih := findB_low e he l
    have hp := pre_low e (x :: l) he
    rw [lowerB_cons] at hp ⊢
    rw [findB, findB, hp, ih]
theorem low_take (l : Bs) (k : Nat) : (lowerB l).take k = lowerB (l.take k) := by rw [lowerB_map, lowerB_map, List.map_take]
theorem low_drop (l : Bs) (k : Nat) : (lowerB l).drop k = lowerB (l.drop k) := by rw [lowerB_map, lowerB_map, List.map_drop]
theorem notSl_low (c : UInt8) : notSl (low1 c) = notSl c := by
  have := fa_byte (P := fun c => notSl (low1 c) == notSl c) (by kernel_rfl) c
  exact beq_iff_eq.1 this
theorem tw_low (l : Bs) : (lowerB l).takeWhile notSl = lowerB (l.takeWhile notSl) := by
  rw [lowerB_map, lowerB_map, List.takeWhile_map]
  congr 2
  funext c
  exact notSl_low c
theorem dw_low (l : Bs) : (lowerB l).dropWhile notSl = lowerB (l.dropWhile notSl) := by
  rw [lowerB_map, lowerB_map, List.dropWhile_map]
  congr 2
  funext c
  exact notSl_low c
theorem low_digs (s : Bs) (h : allDig s = true) : lowerB s = s := by
  rw [lowerB_map]
  conv => rhs; rw [← List.map_id s]
  apply List.map_congr_left
  intro c hc
  have hd := List.all_eq_true.1 h c hc
  have := fa_byte (P := fun c => !digC c || low1 c == c) (by kernel_rfl) c
  rw [hd] at this
  simpa using this
theorem portS_low {n : Bs} {p : Int} (h : portS n = some p) : portS (lowerB n) = some p := by
  have h0 := h
  unfold portS at h
  split at h
  · rename_i e
    subst e
    rw [show lowerB [42] = [42] from by kernel_rfl]
    exact h0
  · split at h
    · rename_i hc
      rw [low_digs n hc.2.2.1]
      exact h0
    · cases h
theorem low_star (n : Bs) : lowerB n = [42] ↔ n = [42] := by
  constructor
  · intro h
    match n, h with
    | [], h => cases h
    | [c], h =>
      have : low1 c = 42 := by rw [lowerB_map] at h; exact (List.cons.inj h).1
      rw [(f42 c).1 this]
    | _ :: _ :: _, h => have := congrArg List.length h; rw [lowerB_length] at this; simp at this
  · intro h
    rw [h]
    kernel_rfl
theorem starR_low (n : Bs) : starR (lowerB n) = starR n := by
  unfold starR
  rw [lowerB_low]
  by_cases h : n = [42]
  · rw [if_pos h, if_pos ((low_star n).2 h)]
  · rw [if_neg h, if_neg (fun e => h ((low_star n).1 e))]
theorem hostR_low {sc r : Bs} {s : Src} (h : hostR sc r = some s) (hp : s.2.2.2.2.2.2 = []) : hostR sc (lowerB r) = some s := by
  unfold hostR at h ⊢
  rw [tw_low, dw_low]
  have hn : (numR (lowerB (r.takeWhile notSl))).1 = lowerB (numR (r.takeWhile notSl)).1 ∧ ∀ p, (numR (r.takeWhile notSl)).2 = some p → (numR (lowerB (r.takeWhile notSl))).2 = some p := by
    generalize r.takeWhile notSl = f
    unfold numR
    rw [findB_low [58] (by simp [f58])]
    cases findB f [58] with
    | none => exact ⟨rfl, fun p h => h⟩
    | some k => exact ⟨low_take f k, fun p h => by simp only at h ⊢; rw [low_drop]; exact portS_low h⟩
  cases hq : (numR (r.takeWhile notSl)).2 with
  | none => rw [hq] at h; cases h
  | some p =>
    rw [hq] at h
    rw [hn.2 p hq, hn.1, starR_low]
    simp only at h ⊢
    cases hx : starR (numR (r.takeWhile notSl)).1 with
    | none => rw [hx] at h; cases h
    | some x =>
      rw [hx] at h
      cases h
      have hp : r.dropWhile notSl = [] := hp
      rw [hp]
      rfl
theorem hostP_low {w : Bs} {s : Src} (h : hostP w = some s) (hp : s.2.2.2.2.2.2 = []) : hostP (lowerB w) = some s := by
  unfold hostP schR at h ⊢
  rw [findB_low [58, 47, 47] (by simp [f58, f47])]
  cases hf : findB w [58, 47, 47] with
  | none =>
    rw [hf] at h
    exact hostR_low h hp
  | some k =>
    rw [hf] at h
    simp only at h ⊢
    by_cases h0 : k = 0
    · rw [if_pos h0] at h; cases h
    · rw [if_neg h0] at h ⊢
      simp only at h ⊢
      rw [low_take, lowerB_low, low_drop]
      exact hostR_low h hp
theorem first_low {w : Bs} (h : w ≠ []) : firstC (lowerB w) = low1 (firstC w) := by
  cases w with
  | nil => exact absurd rfl h
  | cons c r => rw [lowerB_cons]; rfl
theorem last_low {w : Bs} (h : w ≠ []) : lastC (lowerB w) = low1 (lastC w) := by
  unfold lastC
  rw [lowerB_map, List.getLast?_map]
  cases hg : w.getLast? with
  | none => exact absurd (List.getLast?_eq_none_iff.1 hg) h
  | some c => rfl
theorem fix_beq {c x : UInt8} (h : fixC c) : (low1 x == c) = (x == c) := by
  rw [Bool.eq_iff_iff, beq_iff_eq, beq_iff_eq]; exact h x
theorem parP_low {w : Bs} {s : Src} (h : parP w = some s) (h9 : ¬ s.1 = 9) (h10 : ¬ s.1 = 10) (hp : s.2.2.2.2.2.2 = []) : parP (lowerB w) = some s := by
  unfold parP at h ⊢
  by_cases h0 : w = []
  · rw [if_pos h0] at h; cases h
  · have h0' : lowerB w ≠ [] := fun e => h0 (by
      have := congrArg List.length e
      rw [lowerB_length] at this
      exact List.length_eq_zero_iff.1 this)
    have hq : qtB (lowerB w) = qtB w := by
      unfold qtB
      rw [lowerB_length, first_low h0, last_low h0, fix_beq f39, fix_beq f39]
    rw [if_neg h0] at h
    rw [if_neg h0', hq]
    by_cases h1 : qtB w = true
    · rw [if_pos h1] at h ⊢
      cases h
      unfold quoS at h9 h10 ⊢
      rw [lowerB_low]
      by_cases h7 : (lowerB w).take 7 = [39, 110, 111, 110, 99, 101, 45]
      · rw [if_pos h7] at h9; exact absurd rfl h9
      · rw [if_neg h7] at h10 ⊢
        by_cases h6 : (lowerB w).take 6 = [39, 109, 97, 114, 107, 45]
        · rw [if_pos h6] at h10; exact absurd rfl h10
        · rw [if_neg h6, if_neg h7, if_neg h6]
    · rw [if_neg h1] at h ⊢
      have hl : (lastC (lowerB w) = 58) ↔ (lastC w = 58) := by rw [last_low h0]; exact f58 _
      by_cases h2 : lastC w = 58
      · rw [if_pos h2] at h
        rw [if_pos (hl.2 h2)]
        cases h
        rw [lowerB_map w, List.dropLast_eq_take, ← List.map_take, List.length_map, ← List.dropLast_eq_take, ← lowerB_map, lowerB_low]
      · rw [if_neg h2] at h
        rw [if_neg (fun e => h2 (hl.1 e))]
        exact hostP_low h hp
theorem srcBeq (a : Src) : ((a.1 == a.1) && ((a.2.1 == a.2.1) && ((a.2.2.1 == a.2.2.1) && ((a.2.2.2.1 == a.2.2.2.1) && ((a.2.2.2.2.1 == a.2.2.2.2.1) && ((a.2.2.2.2.2.1 == a.2.2.2.2.2.1) && ((a.2.2.2.2.2.2 == a.2.2.2.2.2.2) && true))))))) = true := by
  simp only [beq_self_eq_true, Bool.and_self]
theorem plainLetters (w : Bs) : pouncelaw09_SourceLetters_ (Ev.upto 200000) ((w, ()), ()) = some ((true, ()), ()) := by
  apply wp_eq
  unfold pouncelaw09_SourceLetters_
  by_cases hw : 800 < w.length
  · rw [show decide ((w.length : Int) > 800) = true from decide_eq_true (by omega)]
    exact ⟨_, rfl, rfl⟩
  · rw [show decide ((w.length : Int) > 800) = false from decide_eq_false (by omega), cond_false]
    have q1 := Parse_eq w (by omega)
    have q2 := lower_eq 200000 w (by omega) (by omega)
    have q3 := Parse_eq (lowerB w) (by rw [lowerB_length]; omega)
    simp -implicitDefEqProofs only [q1, q2, q3, Option.bind_some]
    have words : ∀ (P : ((Bool × Unit) × Unit) → Prop), P ((true, ()), ()) → wp ((pouncelaw09_words_ (Ev.upto 200000) ((), ())).bind fun v5 => (some ((v5.1.1, ()), ()) : Option ((Bool × Unit) × Unit))) P := fun P h => by
      rw [exw2]; exact ⟨_, rfl, h⟩
    by_cases hok : (parR w).2 = true ∧ ¬ (parR w).1.1 = 9 ∧ ¬ (parR w).1.1 = 10 ∧ (parR w).1.2.2.2.2.2.2 = []
    · obtain ⟨a, b, c, d⟩ := hok
      have hs : ∃ s, parP w = some s ∧ rightB s = true ∧ parR w = (s, true) := by
        unfold parR at a
        cases hpp : parP w with
        | none => rw [hpp] at a; cases a
        | some s =>
          rw [hpp] at a
          simp only at a
          cases hr : rightB s with
          | false => rw [hr, if_neg (by decide)] at a; cases a
          | true => exact ⟨s, rfl, hr, by unfold parR; rw [hpp]; simp only; rw [hr, if_pos rfl]⟩
      obtain ⟨s, hpp, hr, he⟩ := hs
      rw [he] at b c d
      have hl : parR (lowerB w) = (s, true) := by
        unfold parR
        rw [parP_low hpp b c d]
        simp only
        rw [hr, if_pos rfl]
      rw [he, hl]
      have b9 : (s.1 == 9) = false := by simpa using b
      have b10 : (s.1 == 10) = false := by simpa using c
      have bp : (s.2.2.2.2.2.2 == ([] : Bs)) = true := by simpa using d
      simp -implicitDefEqProofs only [Bool.not_true, beq_self_eq_true, cond_true, cond_false, b9, b10, bp, Option.bind_some]
      rw [exw2]
      simp -implicitDefEqProofs only [Option.bind_some, beq_self_eq_true, cond_true, Bool.and_self]
      exact ⟨_, rfl, rfl⟩
    · generalize (parR (lowerB w)).1 = s2
      generalize (parR (lowerB w)).2 = ok2
      generalize (parR w).1 = s1 at *
      generalize (parR w).2 = ok at *
      have hsimp : True := trivial
      cases ok with
      | false =>
        simp -implicitDefEqProofs only [Bool.not_false, show (true == false) = false from rfl, cond_false, cond_true, Option.bind_some]
        exact words _ rfl
      | true =>
        cases b9 : (s1.1 == 9) with
        | true =>
          simp -implicitDefEqProofs only [Bool.not_true, beq_self_eq_true, cond_true, show (true == false) = false from rfl, cond_false, b9, Option.bind_some]
          exact words _ rfl
        | false =>
          cases b10 : (s1.1 == 10) with
          | true =>
            simp -implicitDefEqProofs only [Bool.not_true, beq_self_eq_true, cond_true, show (true == false) = false from rfl, cond_false, b9, b10, Option.bind_some]
            exact words _ rfl
          | false =>
            have hp : ¬ s1.2.2.2.2.2.2 = [] := fun e => hok ⟨rfl, by simpa using b9, by simpa using b10, e⟩
            have bp : (s1.2.2.2.2.2.2 == ([] : Bs)) = false := by simpa using hp
            simp -implicitDefEqProofs only [Bool.not_true, beq_self_eq_true, cond_true, b9, b10, bp, Option.bind_some, Bool.not_false]
            exact words _ rfl
end Go.En.Pl
