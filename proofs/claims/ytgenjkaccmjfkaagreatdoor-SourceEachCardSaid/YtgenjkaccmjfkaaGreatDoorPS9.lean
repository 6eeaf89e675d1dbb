/- Text PS9 of this seat: written by a program of ours, or by hand; checked by Lean. -/
import Derived.Test.YtgenjkaccmjfkaaGreatDoorPS8
set_option linter.unusedSimpArgs false
set_option linter.unusedVariables false
namespace Go.En.Pl
theorem it_k2 {α β : Type} {f : α → Option (α ⊕ β)} {a0 a1 a2 : α} {z : β} {N : Nat} (h0 : f a0 = some (.inl a1)) (h1 : f a1 = some (.inl a2)) (h2 : f a2 = some (.inr z)) (hN : 10 < N) : (Ev.upto N).it f a0 = some z := by
  obtain ⟨n, rfl⟩ : ∃ n, N = n + 3 := ⟨N - 3, by omega⟩
  rw [upto_it]
  simp only [iterN, h0, h1, h2, Option.bind_some]
theorem sig6_len : ∀ (n : Nat) (l : List Bool), l.length ≤ n → (sig6 l).length = l.length / 6
  | 0, l, h => by
    have : l = [] := List.length_eq_zero_iff.1 (by omega)
    subst this; rfl
  | n + 1, l, h => by
    match l, h with
    | [], _ => rfl
    | [_], _ => simp [sig6]
    | [_, _], _ => simp [sig6]
    | [_, _, _], _ => simp [sig6]
    | [_, _, _, _], _ => simp [sig6]
    | [_, _, _, _, _], _ => simp [sig6]
    | a :: b :: c :: d :: e :: f :: r, h =>
      have := sig6_len n r (by simp at h; omega)
      rw [sig6]
      simp only [List.length_cons]
      omega
theorem sgn_sl (n : Nat) (h : n < 64) : sl signs (n : Int) (IntKind.wrap .i64 ((n : Int) + 1)) = some [sgn n] := by
  have hl : n < signs.length := h
  rw [wrap64 (by omega) (by omega), sl_one hl]
  unfold sgn
  rw [List.getElem?_eq_getElem hl]
  rfl
theorem six {l : List Bool} (h : 6 ≤ l.length) : ∃ a b c d e f r, l = a :: b :: c :: d :: e :: f :: r := by
  match l, h with
  | [], h => simp at h
  | [_], h => simp at h
  | [_, _], h => simp at h
  | [_, _, _], h => simp at h
  | [_, _, _, _], h => simp at h
  | [_, _, _, _, _], h => simp at h
  | a :: b :: c :: d :: e :: f :: r, _ => exact ⟨a, b, c, d, e, f, r, rfl⟩
theorem rEncode_eq (s : Bs) (hs : s.length = 16) : pounceref04_Encode_ (Ev.upto 200000) ((s, ()), ()) = some ((encW s, ()), ()) := by
  apply wp_eq
  unfold pounceref04_Encode_
  refine wp_bind ?_
  refine wp_for (σ := Unit) (fun i _ => ((s, ((i : Int), ())), (bitsL (s.take i), ()))) (fun _ _ => True) s.length () rfl trivial (by omega) ?_
  rintro i _ hi _
  by_cases hi' : i < s.length
  · have c0 : decide ((i : Int) < (s.length : Int)) = true := decide_eq_true (by omega)
    have w : IntKind.wrap .i64 ((i : Int) + 1) = ((i + 1 : Nat) : Int) := by rw [wrap64 (by omega) (by omega)]; omega
    have w8 : IntKind.wrap .i64 ((s[i].toNat : Nat) : Int) = ((s[i].toNat : Nat) : Int) := by have := s[i].toNat_lt; exact wrap64 (by omega) (by omega)
    have q := bits_eq s[i]
    have hl := bitsL_len (s.take i)
    have hf : fits ((bitsL (s.take i)).length + (bitsE s[i].toNat).length) 1 = true := fits_of (by rw [hl]; simp [bitsE]; omega)
    simp -implicitDefEqProofs only [c0, cond_true, idx_nat hi', Option.bind_some, w8, q, hf, w]
    refine ⟨_, rfl, hi', (), ?_, trivial⟩
    have e : bitsL (s.take (i + 1)) = bitsL (s.take i) ++ bitsE s[i].toNat := by
      unfold bitsL
      rw [List.take_succ_eq_append_getElem hi', List.flatMap_append]
      simp
    rw [e]
  · have c0 : decide ((i : Int) < (s.length : Int)) = false := decide_eq_false (by omega)
    have hlen := bitsL_len s
    simp -implicitDefEqProofs only [c0, cond_false]
    refine ⟨_, rfl, ?_⟩
    dsimp only
    rw [List.take_of_length_le (by omega)]
    have hb : sig6 (bitsL s ++ [false, false, false, false]) ++ [61, 61] = encW s := sig_enc s (by omega)
    generalize bitsL s = l at *
    have m6 : ((6 : Int) != 0) = true := rfl
    have st : ∀ (x : List Bool) (k : Nat), x.length = 128 + k → k ≤ 4 → rngB .i64 (Int.tmod ((x.length : Nat) : Int) 6) = true ∧ (Int.tmod ((x.length : Nat) : Int) 6 != 0) = decide (k < 4) ∧ fits (x.length + ([false] : List Bool).length) 1 = true := fun x k hx hk => by
      rw [hx]
      refine ⟨?_, ?_, fits_of (by simp; omega)⟩ <;>
      · have : k = 0 ∨ k = 1 ∨ k = 2 ∨ k = 3 ∨ k = 4 := by omega
        rcases this with rfl | rfl | rfl | rfl | rfl <;> decide
    have l0 := st l 0 (by omega) (by omega)
    have l1 := st (l ++ [false]) 1 (by simp; omega) (by omega)
    have l2 := st (l ++ [false] ++ [false]) 2 (by simp; omega) (by omega)
    have l3 := st (l ++ [false] ++ [false] ++ [false]) 3 (by simp; omega) (by omega)
    have l4 := st (l ++ [false] ++ [false] ++ [false] ++ [false]) 4 (by simp; omega) (by omega)
    rw [it_k4 (a1 := ((), (l ++ [false], ()))) (a2 := ((), (l ++ [false] ++ [false], ()))) (a3 := ((), (l ++ [false] ++ [false] ++ [false], ()))) (a4 := ((), (l ++ [false] ++ [false] ++ [false] ++ [false], ()))) (z := ((), (l ++ [false] ++ [false] ++ [false] ++ [false], ())))
      (by simp -implicitDefEqProofs only [m6, l0.1, l0.2.1, l0.2.2, Bool.and_self, cond_true, show decide (0 < 4) = true from rfl])
      (by simp -implicitDefEqProofs only [m6, l1.1, l1.2.1, l1.2.2, Bool.and_self, cond_true, show decide (1 < 4) = true from rfl])
      (by simp -implicitDefEqProofs only [m6, l2.1, l2.2.1, l2.2.2, Bool.and_self, cond_true, show decide (2 < 4) = true from rfl])
      (by simp -implicitDefEqProofs only [m6, l3.1, l3.2.1, l3.2.2, Bool.and_self, cond_true, show decide (3 < 4) = true from rfl])
      (by simp -implicitDefEqProofs only [m6, l4.1, l4.2.1, Bool.and_self, cond_true, cond_false, show decide (4 < 4) = false from rfl]) (by decide), Option.bind_some]
    have hL : (l ++ [false] ++ [false] ++ [false] ++ [false]).length = 132 := by simp; omega
    have hLb : l ++ [false] ++ [false] ++ [false] ++ [false] = l ++ [false, false, false, false] := by simp
    rw [← hLb] at hb
    generalize l ++ [false] ++ [false] ++ [false] ++ [false] = L at *
    refine wp_bind ?_
    refine wp_it (fun a => ∃ (o : Bs) (i : Nat), a = ((o, ((i : Int), ())), (L, ())) ∧ i ≤ 132 ∧ i % 6 = 0 ∧ o ++ sig6 (L.drop i) = sig6 L ∧ o.length ≤ i) (fun a => 132 - a.1.2.1.toNat) ⟨[], 0, rfl, by omega, rfl, rfl, by simp⟩ (by simp) ?_
    rintro _ ⟨o, i, rfl, hi, h6, ho, hol⟩
    by_cases hi' : i < 132
    · have c0 : decide ((i : Int) < ((L.length : Nat) : Int)) = true := decide_eq_true (by omega)
      have w : IntKind.wrap .i64 ((i : Int) + 6) = ((i + 6 : Nat) : Int) := by rw [wrap64 (by omega) (by omega)]; omega
      obtain ⟨a, b, c, d, e, f, r, hd⟩ := six (l := L.drop i) (by rw [List.length_drop]; omega)
      have g : (decide (0 ≤ (i : Int)) && decide ((i : Int) ≤ ((i + 6 : Nat) : Int)) && decide (((i + 6 : Nat) : Int) ≤ ((L.length : Nat) : Int))) = true := by
        rw [decide_eq_true (by omega), decide_eq_true (by omega), decide_eq_true (by omega)]; rfl
      have hsl : (L.drop ((i : Int)).toNat).take ((((i + 6 : Nat) : Int)).toNat - ((i : Int)).toNat) = [a, b, c, d, e, f] := by
        rw [Int.toNat_natCast, Int.toNat_natCast, Nat.add_sub_cancel_left, hd]; rfl
      have hr : L.drop (i + 6) = r := by
        have := List.drop_drop (i := 6) (j := i) (l := L)
        rw [← this, hd]; rfl
      have q := number_eq a b c d e f
      have qs := sgn_sl (num6 a b c d e f) (num6_lt a b c d e f)
      unfold signs at qs
      have hf : strFits (o.length + ([sgn (num6 a b c d e f)] : Bs).length) = true := strFits_of (by simp; omega)
      simp -implicitDefEqProofs only [c0, cond_true, w, g, hsl, q, Option.bind_some, qs, hf]
      refine ⟨_, rfl, ⟨o ++ [sgn (num6 a b c d e f)], i + 6, rfl, by omega, by omega, ?_, by simp; omega⟩, by simp; omega⟩
      rw [← ho, hd, hr, sig6]
      simp
    · have c0 : decide ((i : Int) < ((L.length : Nat) : Int)) = false := decide_eq_false (by omega)
      have hi2 : i = 132 := by omega
      subst hi2
      rw [List.drop_eq_nil_of_le (by omega), show sig6 [] = [] from rfl, List.append_nil] at ho
      have hol2 : o.length = 22 := by rw [ho, sig6_len _ L (Nat.le_refl _), hL]
      rw [← ho] at hb
      simp -implicitDefEqProofs only [c0, cond_false]
      refine ⟨_, rfl, ?_⟩
      dsimp only
      have m4 : ((4 : Int) != 0) = true := rfl
      have st : ∀ (x : Bs) (k : Nat), x.length = 22 + k → k ≤ 2 → rngB .i64 (Int.tmod ((x.length : Nat) : Int) 4) = true ∧ (Int.tmod ((x.length : Nat) : Int) 4 != 0) = decide (k < 2) ∧ strFits (x.length + ([61] : Bs).length) = true := fun x k hx hk => by
        rw [hx]
        refine ⟨?_, ?_, strFits_of (by simp; omega)⟩ <;>
        · have : k = 0 ∨ k = 1 ∨ k = 2 := by omega
          rcases this with rfl | rfl | rfl <;> decide
      have l0 := st o 0 (by omega) (by omega)
      have l1 := st (o ++ [61]) 1 (by simp; omega) (by omega)
      have l2 := st (o ++ [61] ++ [61]) 2 (by simp; omega) (by omega)
      rw [it_k2 (a1 := ((o ++ [61], ()), ())) (a2 := ((o ++ [61] ++ [61], ()), ())) (z := ((o ++ [61] ++ [61], ()), ()))
        (by simp -implicitDefEqProofs only [m4, l0.1, l0.2.1, l0.2.2, Bool.and_self, cond_true, show decide (0 < 2) = true from rfl])
        (by simp -implicitDefEqProofs only [m4, l1.1, l1.2.1, l1.2.2, Bool.and_self, cond_true, show decide (1 < 2) = true from rfl])
        (by simp -implicitDefEqProofs only [m4, l2.1, l2.2.1, Bool.and_self, cond_true, cond_false, show decide (2 < 2) = false from rfl]) (by decide), Option.bind_some]
      refine ⟨_, rfl, ?_⟩
      rw [← hb]
      simp
end Go.En.Pl
