/- Text PS4 of this seat: written by a program of ours, or by hand; checked by Lean. -/
import Derived.Test.YtgenjkaccmjfkaaGreatDoorPS3
set_option linter.unusedSimpArgs false
set_option linter.unusedVariables false
namespace Go.En.Pl
/-! ### base: a text's form -/
def cutE (s : Bs) : Bs := if s.getLast? = some 61 then s.dropLast else s
theorem cutE_snoc (l : Bs) (c : UInt8) : cutE (l ++ [c]) = if c = 61 then l else l ++ [c] := by
  unfold cutE
  rw [List.getLast?_concat, List.dropLast_concat]
  by_cases h : c = 61 <;> simp [h]
theorem snoc_cases (s : Bs) : s = [] ∨ ∃ l c, s = l ++ [c] := by
  rcases List.eq_nil_or_concat s with h | ⟨l, c, h⟩
  · exact Or.inl h
  · exact Or.inr ⟨l, c, by rw [h, List.concat_eq_append]⟩
theorem cutE_len (s : Bs) : (cutE s).length ≤ s.length := by
  unfold cutE
  split
  · simp
  · exact Nat.le_refl _
theorem one_beq (c : UInt8) : (([c] : Bs) == ([61] : Bs)) = (c == 61) := by
  rw [Bool.eq_iff_iff, beq_iff_eq, beq_iff_eq]
  exact ⟨fun h => (List.cons.inj h).1, fun h => by rw [h]⟩
theorem TS_eq (V : Ev) (s : Bs) (hs : s.length ≤ 1000000) : strings_TrimSuffix_ V ((s, (([61] : Bs), ())), ()) = some ((cutE s, ()), ()) := by
  unfold strings_TrimSuffix_ istringslite_TrimSuffix_ istringslite_HasSuffix_
  rcases snoc_cases s with rfl | ⟨l, c, rfl⟩
  · rfl
  · rw [List.length_append] at hs
    have hs : l.length + 1 ≤ 1000000 := hs
    have hl : (l ++ [c]).length = l.length + 1 := by simp
    have c0 : (decide (((l ++ [c]).length : Int) ≥ ((([61] : Bs).length : Nat) : Int)) == true) = true := by rw [decide_eq_true (by rw [hl]; simp; omega)]; rfl
    have w : IntKind.wrap .i64 (((l ++ [c]).length : Int) - ((([61] : Bs).length : Nat) : Int)) = ((l.length : Nat) : Int) := by rw [wrap64 (by rw [hl]; simp only [List.length_cons, List.length_nil]; omega) (by rw [hl]; simp only [List.length_cons, List.length_nil]; omega), hl]; simp only [List.length_cons, List.length_nil]; omega
    have s1 : sl (l ++ [c]) ((l.length : Nat) : Int) (((l ++ [c]).length : Nat) : Int) = some [c] := by rw [sl_end (by rw [hl]; omega), List.drop_left]
    have s2 : sl (l ++ [c]) (0 : Int) ((l.length : Nat) : Int) = some l := by
      have := sl_nat (l := l ++ [c]) (a := 0) (b := l.length) (by omega) (by rw [hl]; omega)
      rw [List.take_left, List.drop_zero] at this
      exact this
    simp -implicitDefEqProofs only [c0, cond_true, w, s1, Option.bind_some, one_beq]
    rw [cutE_snoc]
    cases hc : (c == 61) with
    | true =>
      rw [if_pos (by simpa using hc)]
      simp -implicitDefEqProofs only [cond_true, s2, Option.bind_some]
    | false =>
      rw [if_neg (by simpa using hc)]
      simp -implicitDefEqProofs only [cond_false, Option.bind_some]
def headB (s : Bs) : Bs := cutE (cutE s)
theorem head_eq (V : Ev) (s : Bs) (hs : s.length ≤ 1000000) : base_head_ V ((s, ()), ()) = some ((headB s, ()), ()) := by
  unfold base_head_
  rw [TS_eq V s hs, Option.bind_some]
  rw [TS_eq V (cutE s) (by have := cutE_len s; omega), Option.bind_some]
  rfl
theorem rhead_eq (N : Nat) (s : Bs) (hs : s.length ≤ 1000000) (hN : 4 < N) : pounceref04_head_ (Ev.upto N) ((s, ()), ()) = some ((headB s, ()), ()) := by
  apply wp_eq
  unfold pounceref04_head_
  refine wp_bind ?_
  have stp : ∀ (n k : Nat), n ≤ s.length → k < 2 → (∀ c, 0 < n → s[n - 1]? = some c → (c == 61) = true → True) → True := fun _ _ _ _ _ => trivial
  refine wp_it (fun a => ∃ (n k : Nat), a = ((s, ((n : Int), ((k : Int), ()))), ()) ∧ n ≤ s.length ∧ k ≤ 2 ∧ ((k = 0 ∧ n = s.length) ∨ (k = 1 ∧ cutE s = s.take n ∧ n < s.length) ∨ (k = 2 ∧ cutE (cutE s) = s.take n))) (fun a => 3 - a.1.2.2.1.toNat) ⟨s.length, 0, rfl, Nat.le_refl _, by omega, Or.inl ⟨rfl, rfl⟩⟩ (by simp; omega) ?_
  rintro _ ⟨n, k, rfl, hn, hk, hst⟩
  have fin : headB s = s.take n → wp ((sl s (0 : Int) (n : Int)).bind fun v5 => (some ((v5, ()), ()) : Option ((Bs × Unit) × Unit))) (fun x => x = ((headB s, ()), ())) := fun h => by
    have := sl_nat (l := s) (a := 0) (b := n) (by omega) hn
    rw [List.drop_zero] at this
    rw [show (0 : Int) = ((0 : Nat) : Int) from rfl, this, h]
    exact ⟨_, rfl, rfl⟩
  have cut : ∀ m, m ≤ s.length → cutE (s.take m) = if h : 0 < m ∧ m - 1 < s.length then (if s[m - 1]'h.2 = 61 then s.take (m - 1) else s.take m) else s.take m := fun m hm => by
    by_cases h : 0 < m
    · have h1 : m - 1 < s.length := by omega
      have e : s.take m = s.take (m - 1) ++ [s[m - 1]] := by
        have := List.take_succ_eq_append_getElem h1
        rwa [show m - 1 + 1 = m by omega] at this
      rw [dif_pos ⟨h, h1⟩]
      conv => lhs; rw [e]
      rw [cutE_snoc, e]
    · have : m = 0 := by omega
      subst this
      rw [dif_neg (by omega), List.take_zero]
      rfl
  by_cases hk2 : k < 2
  · have c1 : (decide ((k : Int) < (2 : Int)) == true) = true := by rw [decide_eq_true (by omega)]; rfl
    by_cases hn0 : 0 < n
    · have hn1 : n - 1 < s.length := by omega
      have c2 : (decide ((n : Int) > (0 : Int)) == true) = true := by rw [decide_eq_true (by omega)]; rfl
      have w : IntKind.wrap .i64 ((n : Int) - 1) = ((n - 1 : Nat) : Int) := by rw [wrap64 (by omega) (by omega)]; omega
      have w2 : IntKind.wrap .i64 ((k : Int) + 1) = ((k + 1 : Nat) : Int) := by rw [wrap64 (by omega) (by omega)]; omega
      have e61 : (((s[n - 1].toNat : Nat) : Int) == 61) = (s[n - 1] == 61) := byteZ _ 61 (by decide)
      simp -implicitDefEqProofs only [c1, c2, cond_true, w, idx_nat hn1, Option.bind_some, e61]
      have hcut := cut n hn
      rw [dif_pos ⟨hn0, hn1⟩] at hcut
      cases hc : (s[n - 1] == 61) with
      | true =>
        rw [if_pos (by simpa using hc)] at hcut
        simp -implicitDefEqProofs only [cond_true, w, w2]
        refine ⟨_, rfl, ⟨n - 1, k + 1, rfl, by omega, by omega, ?_⟩, by simp; omega⟩
        rcases hst with ⟨rfl, rfl⟩ | ⟨rfl, h, _⟩ | ⟨rfl, _⟩
        · right; left
          rw [List.take_length] at hcut
          exact ⟨rfl, hcut, by omega⟩
        · right; right
          exact ⟨rfl, by rw [h, hcut]⟩
        · omega
      | false =>
        rw [if_neg (by simpa using hc)] at hcut
        simp -implicitDefEqProofs only [cond_false]
        refine ⟨_, rfl, fin ?_⟩
        unfold headB
        rcases hst with ⟨rfl, rfl⟩ | ⟨rfl, h, _⟩ | ⟨rfl, _⟩
        · rw [List.take_length] at hcut ⊢
          rw [hcut, hcut]
        · rw [h, hcut]
        · omega
    · have c2 : (decide ((n : Int) > (0 : Int)) == true) = false := by rw [decide_eq_false (by omega)]; rfl
      simp -implicitDefEqProofs only [c1, c2, cond_true, cond_false, Option.bind_some]
      refine ⟨_, rfl, fin ?_⟩
      unfold headB
      have : n = 0 := by omega
      subst this
      rcases hst with ⟨rfl, h⟩ | ⟨rfl, h, _⟩ | ⟨rfl, h⟩
      · have : s = [] := List.length_eq_zero_iff.1 h.symm
        rw [this]; rfl
      · rw [h]; rfl
      · exact h
  · have c1 : (decide ((k : Int) < (2 : Int)) == true) = false := by rw [decide_eq_false (by omega)]; rfl
    simp -implicitDefEqProofs only [c1, cond_false, Option.bind_some]
    refine ⟨_, rfl, fin ?_⟩
    rcases hst with ⟨rfl, _⟩ | ⟨rfl, _⟩ | ⟨rfl, h⟩
    · omega
    · omega
    · exact h
noncomputable def noV (c : UInt8) : Bool := decide (valB c < 0)
noncomputable def formB (s : Bs) : Bool := !(headB s == ([] : Bs)) && (headB s).all fun c => !noV c
theorem headB_len (s : Bs) : (headB s).length ≤ s.length := Nat.le_trans (cutE_len _) (cutE_len _)
theorem form_eq (N : Nat) (s : Bs) (hs : s.length ≤ 1000000) (hN : s.length < N) : base_Form_ (Ev.upto N) ((s, ()), ()) = some ((formB s, ()), ()) := by
  apply wp_eq
  unfold base_Form_
  rw [head_eq _ s hs, Option.bind_some]
  have hh := headB_len s
  unfold formB
  generalize headB s = h at *
  refine wp_bind ?_
  refine wp_for (σ := Unit) (fun i _ => ((h, ((h.length : Int), ((i : Int), ()))), ())) (fun i _ => (h.take i).all (fun c => !noV c) = true) h.length () rfl (by simp) (by omega) ?_
  rintro i _ hi hn
  by_cases hi' : i < h.length
  · have c0 : decide ((i : Int) < (h.length : Int)) = true := decide_eq_true (by omega)
    have w : IntKind.wrap .i64 ((i : Int) + 1) = ((i + 1 : Nat) : Int) := by rw [wrap64 (by omega) (by omega)]; omega
    have q := bvalue_eq (Ev.upto N) h[i]
    simp -implicitDefEqProofs only [c0, cond_true, idx_nat hi', Option.bind_some, q]
    cases hc : decide (valB h[i] < 0) with
    | true =>
      have : (h.all fun c => !noV c) = false := all_no hi' (by unfold noV; rw [hc]; rfl)
      exact ⟨_, rfl, _, rfl, by rw [this, Bool.and_false]⟩
    | false =>
      simp -implicitDefEqProofs only [cond_false, w]
      exact ⟨_, rfl, hi', (), rfl, by rw [all_take hi', hn]; unfold noV; rw [hc]; rfl⟩
  · have c0 : decide ((i : Int) < (h.length : Int)) = false := decide_eq_false (by omega)
    rw [List.take_of_length_le (by omega)] at hn
    simp -implicitDefEqProofs only [c0, cond_false]
    exact ⟨_, rfl, _, rfl, by rw [hn, Bool.and_true]⟩
theorem rform_eq (s : Bs) (hs : s.length ≤ 1000) : pounceref04_Form_ (Ev.upto 200000) ((s, ()), ()) = some ((formB s, ()), ()) := by
  apply wp_eq
  unfold pounceref04_Form_
  rw [rhead_eq 200000 s (by omega) (by decide), Option.bind_some]
  have hh := headB_len s
  unfold formB
  generalize headB s = h at *
  refine wp_bind ?_
  refine wp_for (σ := Unit) (fun i _ => ((h, ((i : Int), ())), ())) (fun i _ => (h.take i).all (fun c => !noV c) = true) h.length () rfl (by simp) (by omega) ?_
  rintro i _ hi hn
  by_cases hi' : i < h.length
  · have c0 : decide ((i : Int) < (h.length : Int)) = true := decide_eq_true (by omega)
    have w : IntKind.wrap .i64 ((i : Int) + 1) = ((i + 1 : Nat) : Int) := by rw [wrap64 (by omega) (by omega)]; omega
    have q := rbvalue_eq h[i]
    simp -implicitDefEqProofs only [c0, cond_true, idx_nat hi', Option.bind_some, q]
    cases hc : decide (valB h[i] < 0) with
    | true =>
      have : (h.all fun c => !noV c) = false := all_no hi' (by unfold noV; rw [hc]; rfl)
      exact ⟨_, rfl, _, rfl, by rw [this, Bool.and_false]⟩
    | false =>
      simp -implicitDefEqProofs only [cond_false, w]
      exact ⟨_, rfl, hi', (), rfl, by rw [all_take hi', hn]; unfold noV; rw [hc]; rfl⟩
  · have c0 : decide ((i : Int) < (h.length : Int)) = false := decide_eq_false (by omega)
    rw [List.take_of_length_le (by omega)] at hn
    simp -implicitDefEqProofs only [c0, cond_false]
    exact ⟨_, rfl, _, rfl, by rw [hn, Bool.and_true]⟩
end Go.En.Pl
