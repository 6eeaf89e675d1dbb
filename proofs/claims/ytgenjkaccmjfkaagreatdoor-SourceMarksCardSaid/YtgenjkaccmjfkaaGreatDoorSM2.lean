/- Text SM2 of this seat: written by a program of ours, or by hand; checked by Lean. -/
import Derived.Test.YtgenjkaccmjfkaaGreatDoorSM1
set_option linter.unusedSimpArgs false
set_option linter.unusedVariables false
namespace Go.En.Pl
theorem exw : pouncelaw09_words_ (Ev.upto 5000) ((), ()) = some ((true, ()), ()) := by kernel_rfl
abbrev kS (k : Int) : Int × (Bs × (Bs × (Bs × (Bool × (Int × Bs))))) := (k, (([] : Bs), (([] : Bs), (([] : Bs), (false, ((0 : Int), ([] : Bs)))))))
def keptW (k : Int) : Bs := if k = 1 then [39, 110, 111, 110, 101, 39] else if k = 2 then [39, 115, 101, 108, 102, 39] else if k = 3 then [39, 117, 110, 115, 97, 102, 101, 45, 105, 110, 108, 105, 110, 101, 39] else if k = 4 then [39, 117, 110, 115, 97, 102, 101, 45, 101, 118, 97, 108, 39] else if k = 5 then [39, 119, 97, 115, 109, 45, 117, 110, 115, 97, 102, 101, 45, 101, 118, 97, 108, 39] else if k = 6 then [39, 115, 116, 114, 105, 99, 116, 45, 100, 121, 110, 97, 109, 105, 99, 39] else if k = 7 then [39, 117, 110, 115, 97, 102, 101, 45, 104, 97, 115, 104, 101, 115, 39] else [39, 114, 101, 112, 111, 114, 116, 45, 115, 97, 109, 112, 108, 101, 39]
theorem prOk (k : Int) (h0 : 1 ≤ k) (h1 : k ≤ 8) : source_Print_ (Ev.upto 5000) ((kS k, ()), ()) = some ((keptW k, (true, ())), ()) := by
  have : k = 1 ∨ k = 2 ∨ k = 3 ∨ k = 4 ∨ k = 5 ∨ k = 6 ∨ k = 7 ∨ k = 8 := by omega
  rcases this with rfl | rfl | rfl | rfl | rfl | rfl | rfl | rfl <;> (show _ = _; kernel_rfl)
theorem prNo (k : Int) (h : ¬ (1 ≤ k ∧ k ≤ 8)) : source_Print_ (Ev.upto 5000) ((kS k, ()), ()) = some ((([] : Bs), (false, ())), ()) := by
  by_cases h9 : k = 9
  · subst h9; kernel_rfl
  by_cases h10 : k = 10
  · subst h10; kernel_rfl
  by_cases h11 : k = 11
  · subst h11; kernel_rfl
  by_cases h12 : k = 12
  · subst h12; kernel_rfl
  have e9 : (k == 9) = false := by simp [h9]
  have e10 : (k == 10) = false := by simp [h10]
  have e11 : (k == 11) = false := by simp [h11]
  have e12 : (k == 12) = false := by simp [h12]
  have hr : source_right_ (Ev.upto 5000) ((kS k, ()), ()) = some ((false, ()), ()) := by
    unfold source_right_
    by_cases h1 : k ≥ 1
    · have d1 : decide (k ≥ 1) = true := decide_eq_true h1
      have d2 : decide (k ≤ 8) = false := decide_eq_false (by omega)
      simp -implicitDefEqProofs only [d1, d2, beq_self_eq_true, cond_true, cond_false, Option.bind_some, e9, e10, e11, e12]
      rfl
    · have d1 : decide (k ≥ 1) = false := decide_eq_false h1
      simp -implicitDefEqProofs only [d1, show (false == true) = false from rfl, cond_true, cond_false, Option.bind_some, e9, e10, e11, e12]
  unfold source_Print_
  rw [hr]
  rfl
theorem paOk (k : Int) (h0 : 1 ≤ k) (h1 : k ≤ 8) : source_Parse_ (Ev.upto 5000) ((keptW k, ()), ()) = some ((kS k, (true, ())), ()) := by
  have : k = 1 ∨ k = 2 ∨ k = 3 ∨ k = 4 ∨ k = 5 ∨ k = 6 ∨ k = 7 ∨ k = 8 := by omega
  rcases this with rfl | rfl | rfl | rfl | rfl | rfl | rfl | rfl <;> (show _ = _; kernel_rfl)
def keptO (k : Int) : Bs := bif keptB k then keptW k else []
theorem keptO_ne (k : Int) : (keptO k == ([] : Bs)) = !keptB k := by
  unfold keptO
  cases hk : keptB k with
  | false => rfl
  | true =>
    unfold keptB at hk
    simp only [Bool.and_eq_true, decide_eq_true_eq] at hk
    have : k = 1 ∨ k = 2 ∨ k = 3 ∨ k = 4 ∨ k = 5 ∨ k = 6 ∨ k = 7 ∨ k = 8 := by omega
    rcases this with rfl | rfl | rfl | rfl | rfl | rfl | rfl | rfl <;> (show _ = _; kernel_rfl)
set_option maxHeartbeats 2000000 in
/-! ### base: what is encoded -/
theorem it_k3 {α β : Type} {f : α → Option (α ⊕ β)} {a0 a1 a2 a3 : α} {z : β} {N : Nat} (h0 : f a0 = some (.inl a1)) (h1 : f a1 = some (.inl a2)) (h2 : f a2 = some (.inl a3)) (h3 : f a3 = some (.inr z)) (hN : 10 < N) : (Ev.upto N).it f a0 = some z := by
  obtain ⟨n, rfl⟩ : ∃ n, N = n + 4 := ⟨N - 4, by omega⟩
  rw [upto_it]
  simp only [iterN, h0, h1, h2, h3, Option.bind_some]
theorem it_k4 {α β : Type} {f : α → Option (α ⊕ β)} {a0 a1 a2 a3 a4 : α} {z : β} {N : Nat} (h0 : f a0 = some (.inl a1)) (h1 : f a1 = some (.inl a2)) (h2 : f a2 = some (.inl a3)) (h3 : f a3 = some (.inl a4)) (h4 : f a4 = some (.inr z)) (hN : 10 < N) : (Ev.upto N).it f a0 = some z := by
  obtain ⟨n, rfl⟩ : ∃ n, N = n + 5 := ⟨N - 5, by omega⟩
  rw [upto_it]
  simp only [iterN, h0, h1, h2, h3, h4, Option.bind_some]
theorem WS_eq (V : Ev) (x b : Bs) (h : b.length + x.length ≤ 100000000) : strings_Builder_WriteString_cc3 V ((x, ()), ((), (ofBs b, ()))) = some ((((x.length : Int)), (false, ())), ((), ((ofBs (b ++ x), ())))) := by
  unfold strings_Builder_WriteString_cc3 strings_Builder_copyCheck_20a
  simp only [Option.bind_some, fits_of (show ((ofBs b).length + x.length) * 1 ≤ 100000000 by rw [ofBs_length]; omega), cond_true, ofBs_append]
theorem WSd_eq (V : Ev) (x b : Bs) (h : b.length + x.length ≤ 100000000) : strings_Builder_WriteString_d1d V ((x, ()), ((), (ofBs b, ()))) = some ((((x.length : Int)), (false, ())), ((), ((ofBs (b ++ x), ())))) := by
  unfold strings_Builder_WriteString_d1d strings_Builder_copyCheck_476
  simp only [Option.bind_some, fits_of (show ((ofBs b).length + x.length) * 1 ≤ 100000000 by rw [ofBs_length]; omega), cond_true, ofBs_append]
theorem WB_eq (V : Ev) (c : UInt8) (b : Bs) (h : b.length ≤ 10000000) : strings_Builder_WriteByte_a04 V ((((c.toNat : Nat) : Int), ()), ((), (ofBs b, ()))) = some ((false, ()), ((), ((ofBs (b ++ [c]), ())))) := by
  unfold strings_Builder_WriteByte_a04 strings_Builder_copyCheck_20a
  simp only [Option.bind_some, fits_of (show ((ofBs b).length + ([((c.toNat : Nat) : Int)] : List Int).length) * 1 ≤ 100000000 by rw [ofBs_length]; simp; omega), cond_true]
  rw [← ofBs_append]
  rfl
theorem BS_eq (V : Ev) (b : Bs) : strings_Builder_String_20a V ((), ((), (ofBs b, ()))) = some ((b, ()), ((), ())) := by
  unfold strings_Builder_String_20a
  simp only [beq_self_eq_true, cond_true, toBs_ofBs]
def signs : Bs := [65, 66, 67, 68, 69, 70, 71, 72, 73, 74, 75, 76, 77, 78, 79, 80, 81, 82, 83, 84, 85, 86, 87, 88, 89, 90, 97, 98, 99, 100, 101, 102, 103, 104, 105, 106, 107, 108, 109, 110, 111, 112, 113, 114, 115, 116, 117, 118, 119, 120, 121, 122, 48, 49, 50, 51, 52, 53, 54, 55, 56, 57, 43, 47]
def sgn (n : Nat) : UInt8 := (signs[n]?).getD 0
theorem sgn_idx (n : Nat) (h : n < 64) : idx signs (n : Int) = some (sgn n) := by
  have hl : n < signs.length := h
  rw [idx_nat hl]
  unfold sgn
  rw [List.getElem?_eq_getElem hl]
  rfl
theorem orL (x c : Nat) (hx : x < 1000000000) (hc : c < 256) : IntKind.wrap .i64 ((BitVec.toNat (BitVec.ofInt 64 (IntKind.wrap .i64 ((x : Int) * 2 ^ (min (Int.toNat (8 : Int)) 64))) ||| BitVec.ofInt 64 (IntKind.wrap .i64 ((c : Nat) : Int))) : Nat) : Int) = ((x * 256 + c : Nat) : Int) := by
  have e : (x : Int) * 2 ^ (min (Int.toNat (8 : Int)) 64) = ((x * 256 : Nat) : Int) := by
    rw [show min (Int.toNat (8 : Int)) 64 = 8 from rfl]; omega
  rw [e, wrap64 (n := ((x * 256 : Nat) : Int)) (by omega) (by omega), wrap64 (n := (c : Int)) (by omega) (by omega), BitVec.ofInt_natCast, BitVec.ofInt_natCast, BitVec.toNat_or, BitVec.toNat_ofNat, BitVec.toNat_ofNat, Nat.mod_eq_of_lt (by omega), Nat.mod_eq_of_lt (by omega)]
  have h8 := Nat.shiftLeft_add_eq_or_of_lt (i := 8) (b := c) hc x
  rw [Nat.shiftLeft_eq] at h8
  rw [show x * 256 = x * 2 ^ 8 from rfl, ← h8]
  exact wrap64 (by omega) (by omega)
theorem shL (x : Nat) (hx : x < 1000000000) : IntKind.wrap .i64 ((x : Int) * 2 ^ (min (Int.toNat (8 : Int)) 64)) = ((x * 256 : Nat) : Int) := by
  have e : (x : Int) * 2 ^ (min (Int.toNat (8 : Int)) 64) = ((x * 256 : Nat) : Int) := by
    rw [show min (Int.toNat (8 : Int)) 64 = 8 from rfl]; omega
  rw [e, wrap64 (by omega) (by omega)]
theorem fdivL (n k : Nat) : Int.fdiv (n : Int) ((2 : Int) ^ k) = ((n / 2 ^ k : Nat) : Int) := by
  rw [show ((2 : Int) ^ k) = ((2 ^ k : Nat) : Int) by simp]
  rw [Int.fdiv_eq_ediv_of_nonneg _ (Int.natCast_nonneg _)]
  rfl
theorem andL (m : Nat) (hm : m < 1000000000) : IntKind.wrap .i64 ((BitVec.toNat (BitVec.ofInt 64 (m : Int) &&& BitVec.ofInt 64 (63 : Int)) : Nat) : Int) = ((m % 64 : Nat) : Int) := by
  rw [BitVec.ofInt_natCast, show (BitVec.ofInt 64 (63 : Int)) = BitVec.ofNat 64 63 from rfl, BitVec.toNat_and, BitVec.toNat_ofNat, BitVec.toNat_ofNat, Nat.mod_eq_of_lt (show m < 2 ^ 64 by omega), show (63 % 2 ^ 64 : Nat) = 2 ^ 6 - 1 from rfl, Nat.and_two_pow_sub_one_eq_mod]
  exact wrap64 (by omega) (by omega)
def n3 (a b c : UInt8) : Nat := (a.toNat * 256 + b.toNat) * 256 + c.toNat
def enc4 (n : Nat) : Bs := [sgn (n / 2 ^ 18 % 64), sgn (n / 2 ^ 12 % 64), sgn (n / 2 ^ 6 % 64), sgn (n / 2 ^ 0 % 64)]
def encW : Bs → Bs
  | a :: b :: c :: r => enc4 (n3 a b c) ++ encW r
  | [a, b] => (enc4 (n3 a b 0)).take 3 ++ [61]
  | [a] => (enc4 (n3 a 0 0)).take 2 ++ [61, 61]
  | [] => []
theorem Encode_eq (N : Nat) (s : Bs) (hs : s.length ≤ 1000) (h1 : s.length % 3 = 1) (hN : 2000 < N) : base_Encode_ (Ev.upto N) ((s, ()), ()) = some ((encW s, ()), ()) := by
  apply wp_eq
  unfold base_Encode_
  refine wp_bind ?_
  refine wp_it (fun a => ∃ (x b : Bs), a = ((x, ()), ((), (ofBs b, ()))) ∧ b ++ encW x = encW s ∧ x.length ≤ s.length ∧ b.length + 4 * x.length ≤ 4 * s.length + 4 ∧ (x.length % 3 = 1 ∨ x = [])) (fun a => a.1.1.length) ⟨s, [], rfl, rfl, Nat.le_refl _, by simp, Or.inl h1⟩ (by show s.length < N; omega) ?_
  rintro _ ⟨x, b, rfl, hb, hx, hbl, hm⟩
  have e18 : IntKind.wrap .i64 ((18 : Int) - (IntKind.wrap .i64 ((6 : Int) * 0))) = 18 := by decide
  have e12 : IntKind.wrap .i64 ((18 : Int) - (IntKind.wrap .i64 ((6 : Int) * 1))) = 12 := by decide
  have e6 : IntKind.wrap .i64 ((18 : Int) - (IntKind.wrap .i64 ((6 : Int) * 2))) = 6 := by decide
  have e0 : IntKind.wrap .i64 ((18 : Int) - (IntKind.wrap .i64 ((6 : Int) * 3))) = 0 := by decide
  have w01 : IntKind.wrap .i64 ((0 : Int) + 1) = 1 := by decide
  have w12 : IntKind.wrap .i64 ((1 : Int) + 1) = 2 := by decide
  have w23 : IntKind.wrap .i64 ((2 : Int) + 1) = 3 := by decide
  have w34 : IntKind.wrap .i64 ((3 : Int) + 1) = 4 := by decide
  have m18 : min (Int.toNat (18 : Int)) 64 = 18 := rfl
  have m12 : min (Int.toNat (12 : Int)) 64 = 12 := rfl
  have m6 : min (Int.toNat (6 : Int)) 64 = 6 := rfl
  have m0 : min (Int.toNat (0 : Int)) 64 = 0 := rfl
  have rg : ∀ (n k : Nat), n < 1000000000 → rngB .i64 ((n / 2 ^ k : Nat) : Int) = true := fun n k h => by
    have := Nat.div_le_self n (2 ^ k)
    generalize n / 2 ^ k = m at *
    rw [rngB, Bool.and_eq_true, decide_eq_true_eq, decide_eq_true_eq, show IntKind.i64.min = -9223372036854775808 from rfl, show IntKind.i64.max = 9223372036854775807 from rfl]
    omega
  have sg : ∀ (n k : Nat), n < 1000000000 → idx signs (IntKind.wrap .i64 ((BitVec.toNat (BitVec.ofInt 64 ((n / 2 ^ k : Nat) : Int) &&& BitVec.ofInt 64 (63 : Int)) : Nat) : Int)) = some (sgn (n / 2 ^ k % 64)) := fun n k h => by
    have := Nat.div_le_self n (2 ^ k)
    rw [andL _ (by omega)]
    exact sgn_idx _ (Nat.mod_lt _ (by decide))
  match x, hb, hx, hbl, hm with
  | [], hb, hx, hbl, hm =>
    have q := BS_eq (Ev.upto N) b
    refine ⟨_, rfl, ?_⟩
    simp -implicitDefEqProofs only [q, Option.bind_some]
    rw [encW, List.append_nil] at hb
    rw [hb]
    exact ⟨_, rfl, rfl⟩
  | [a], hb, hx, hbl, hm =>
    have c0 : decide (((([a] : Bs).length : Nat) : Int) > 0) = true := rfl
    have l0 : decide ((0 : Int) < ((([a] : Bs).length : Nat) : Int)) = true := rfl
    have l1 : decide ((1 : Int) < ((([a] : Bs).length : Nat) : Int)) = false := rfl
    have l2 : decide ((2 : Int) < ((([a] : Bs).length : Nat) : Int)) = false := rfl
    have g0 : decide ((0 : Int) > ((([a] : Bs).length : Nat) : Int)) = false := rfl
    have g1 : decide ((1 : Int) > ((([a] : Bs).length : Nat) : Int)) = false := rfl
    have g2 : decide ((2 : Int) > ((([a] : Bs).length : Nat) : Int)) = true := rfl
    have g3 : decide ((3 : Int) > ((([a] : Bs).length : Nat) : Int)) = true := rfl
    have ha := a.toNat_lt
    have o1 := orL 0 a.toNat (by decide) ha
    have o2 := shL (0 * 256 + a.toNat) (by omega)
    have o3 := shL ((0 * 256 + a.toNat) * 256) (by omega)
    have hn3 : ((0 * 256 + a.toNat) * 256) * 256 = n3 a 0 0 := by unfold n3; rw [show (0 : UInt8).toNat = 0 from rfl]; omega
    have hn : n3 a 0 0 < 1000000000 := by rw [← hn3]; omega
    rw [hn3] at o3
    simp -implicitDefEqProofs only [c0, cond_true]
    rw [it_k3 (a1 := (([a], (((0 * 256 + a.toNat : Nat) : Int), (1, ()))), ((), (ofBs b, ())))) (a2 := (([a], ((((0 * 256 + a.toNat) * 256 : Nat) : Int), (2, ()))), ((), (ofBs b, ())))) (a3 := (([a], (((n3 a 0 0 : Nat) : Int), (3, ()))), ((), (ofBs b, ())))) (z := (([a], (((n3 a 0 0 : Nat) : Int), ())), ((), (ofBs b, ()))))
      (by simp -implicitDefEqProofs only [show decide ((0 : Int) < 3) = true from rfl, cond_true, l0, idx_zero, Option.bind_some, w01]; rw [show ((0 : Int)) = ((0 : Nat) : Int) from rfl, o1])
      (by simp -implicitDefEqProofs only [show decide ((1 : Int) < 3) = true from rfl, cond_true, cond_false, l1, Option.bind_some, w12, o2])
      (by simp -implicitDefEqProofs only [show decide ((2 : Int) < 3) = true from rfl, cond_true, cond_false, l2, Option.bind_some, w23, o3])
      (by simp -implicitDefEqProofs only [show decide ((3 : Int) < 3) = false from rfl, cond_false]) (by omega), Option.bind_some]
    generalize hnn : n3 a 0 0 = n at *
    have b1 := WB_eq (Ev.upto N) (sgn (n / 2 ^ 18 % 64)) b (by omega)
    have b2 := WB_eq (Ev.upto N) (sgn (n / 2 ^ 12 % 64)) (b ++ [sgn (n / 2 ^ 18 % 64)]) (by simp; omega)
    have b3 := WB_eq (Ev.upto N) 61 (b ++ [sgn (n / 2 ^ 18 % 64)] ++ [sgn (n / 2 ^ 12 % 64)]) (by simp; omega)
    have b4 := WB_eq (Ev.upto N) 61 (b ++ [sgn (n / 2 ^ 18 % 64)] ++ [sgn (n / 2 ^ 12 % 64)] ++ [61]) (by simp; omega)
    rw [show (((61 : UInt8).toNat : Nat) : Int) = 61 from rfl] at b3 b4
    have s18 := sg n 18 hn; have s12 := sg n 12 hn
    have r18 := rg n 18 hn; have r12 := rg n 12 hn
    unfold signs at s18 s12
    rw [it_k4 (a1 := (([a], ((n : Int), (1, ()))), ((), (ofBs (b ++ [sgn (n / 2 ^ 18 % 64)]), ())))) (a2 := (([a], ((n : Int), (2, ()))), ((), (ofBs (b ++ [sgn (n / 2 ^ 18 % 64)] ++ [sgn (n / 2 ^ 12 % 64)]), ())))) (a3 := (([a], ((n : Int), (3, ()))), ((), (ofBs (b ++ [sgn (n / 2 ^ 18 % 64)] ++ [sgn (n / 2 ^ 12 % 64)] ++ [61]), ())))) (a4 := (([a], ((n : Int), (4, ()))), ((), (ofBs (b ++ [sgn (n / 2 ^ 18 % 64)] ++ [sgn (n / 2 ^ 12 % 64)] ++ [61] ++ [61]), ()))))
      (z := (([a], ()), ((), (ofBs (b ++ [sgn (n / 2 ^ 18 % 64)] ++ [sgn (n / 2 ^ 12 % 64)] ++ [61] ++ [61]), ()))))
      (by simp -implicitDefEqProofs only [show decide ((0 : Int) < 4) = true from rfl, g0, cond_true, cond_false, e18, m18, fdivL, r18, s18, b1, Option.bind_some, w01, show decide ((0 : Int) ≤ 18) = true from rfl, Bool.and_self])
      (by simp -implicitDefEqProofs only [show decide ((1 : Int) < 4) = true from rfl, g1, cond_true, cond_false, e12, m12, fdivL, r12, s12, b2, Option.bind_some, w12, show decide ((0 : Int) ≤ 12) = true from rfl, Bool.and_self])
      (by simp -implicitDefEqProofs only [show decide ((2 : Int) < 4) = true from rfl, g2, cond_true, cond_false, b3, Option.bind_some, w23])
      (by simp -implicitDefEqProofs only [show decide ((3 : Int) < 4) = true from rfl, g3, cond_true, cond_false, b4, Option.bind_some, w34])
      (by simp -implicitDefEqProofs only [show decide ((4 : Int) < 4) = false from rfl, cond_false]) (by omega), Option.bind_some]
    have hsl : sl [a] (mn (3 : Int) ((([a] : Bs).length : Nat) : Int)) ((([a] : Bs).length : Nat) : Int) = some [] := rfl
    simp -implicitDefEqProofs only [hsl, Option.bind_some]
    refine ⟨_, rfl, ⟨[], _, rfl, ?_, Nat.zero_le _, by simp only [List.length_append, List.length_cons, List.length_nil] at hbl ⊢; omega, Or.inr rfl⟩, by show 0 < _; simp⟩
    rw [← hb, encW, encW]
    simp [enc4, hnn]
  | [a, a2], hb, hx, hbl, hm => exact absurd hm (by simp)
  | a :: a2 :: a3 :: r, hb, hx, hbl, hm =>
    have hl : (a :: a2 :: a3 :: r).length = r.length + 3 := by simp
    have c0 : decide ((((a :: a2 :: a3 :: r).length : Nat) : Int) > 0) = true := decide_eq_true (by rw [hl]; omega)
    have l0 : decide ((0 : Int) < (((a :: a2 :: a3 :: r).length : Nat) : Int)) = true := c0
    have l1 : decide ((1 : Int) < (((a :: a2 :: a3 :: r).length : Nat) : Int)) = true := decide_eq_true (by rw [hl]; omega)
    have l2 : decide ((2 : Int) < (((a :: a2 :: a3 :: r).length : Nat) : Int)) = true := decide_eq_true (by rw [hl]; omega)
    have g : ∀ k : Int, k ≤ 3 → decide (k > (((a :: a2 :: a3 :: r).length : Nat) : Int)) = false := fun k hk => decide_eq_false (by rw [hl]; omega)
    have i1 : idx (a :: a2 :: a3 :: r) (1 : Int) = some a2 := idx_nat (i := 1) (by simp)
    have i2 : idx (a :: a2 :: a3 :: r) (2 : Int) = some a3 := idx_nat (i := 2) (by simp)
    have ha := a.toNat_lt; have ha2 := a2.toNat_lt; have ha3 := a3.toNat_lt
    have o1 := orL 0 a.toNat (by decide) ha
    have o2 := orL (0 * 256 + a.toNat) a2.toNat (by omega) ha2
    have o3 := orL ((0 * 256 + a.toNat) * 256 + a2.toNat) a3.toNat (by omega) ha3
    have hn : n3 a a2 a3 < 1000000000 := by unfold n3; omega
    have hn3 : ((0 * 256 + a.toNat) * 256 + a2.toNat) * 256 + a3.toNat = n3 a a2 a3 := by unfold n3; omega
    rw [hn3] at o3
    simp -implicitDefEqProofs only [c0, cond_true]
    rw [it_k3 (a1 := ((a :: a2 :: a3 :: r, (((0 * 256 + a.toNat : Nat) : Int), (1, ()))), ((), (ofBs b, ())))) (a2 := ((a :: a2 :: a3 :: r, ((((0 * 256 + a.toNat) * 256 + a2.toNat : Nat) : Int), (2, ()))), ((), (ofBs b, ())))) (a3 := ((a :: a2 :: a3 :: r, (((n3 a a2 a3 : Nat) : Int), (3, ()))), ((), (ofBs b, ())))) (z := ((a :: a2 :: a3 :: r, (((n3 a a2 a3 : Nat) : Int), ())), ((), (ofBs b, ()))))
      (by simp -implicitDefEqProofs only [show decide ((0 : Int) < 3) = true from rfl, cond_true, l0, idx_zero, Option.bind_some, w01]; rw [show ((0 : Int)) = ((0 : Nat) : Int) from rfl, o1])
      (by simp -implicitDefEqProofs only [show decide ((1 : Int) < 3) = true from rfl, cond_true, l1, i1, Option.bind_some, w12, o2])
      (by simp -implicitDefEqProofs only [show decide ((2 : Int) < 3) = true from rfl, cond_true, l2, i2, Option.bind_some, w23, o3])
      (by simp -implicitDefEqProofs only [show decide ((3 : Int) < 3) = false from rfl, cond_false]) (by omega), Option.bind_some]
    have hn3' : n3 a a2 a3 = n3 a a2 a3 := rfl
    generalize hnn : n3 a a2 a3 = n at *
    have b1 := WB_eq (Ev.upto N) (sgn (n / 2 ^ 18 % 64)) b (by omega)
    have b2 := WB_eq (Ev.upto N) (sgn (n / 2 ^ 12 % 64)) (b ++ [sgn (n / 2 ^ 18 % 64)]) (by simp; omega)
    have b3 := WB_eq (Ev.upto N) (sgn (n / 2 ^ 6 % 64)) (b ++ [sgn (n / 2 ^ 18 % 64)] ++ [sgn (n / 2 ^ 12 % 64)]) (by simp; omega)
    have b4 := WB_eq (Ev.upto N) (sgn (n / 2 ^ 0 % 64)) (b ++ [sgn (n / 2 ^ 18 % 64)] ++ [sgn (n / 2 ^ 12 % 64)] ++ [sgn (n / 2 ^ 6 % 64)]) (by simp; omega)
    have s18 := sg n 18 hn; have s12 := sg n 12 hn; have s6 := sg n 6 hn; have s0 := sg n 0 hn
    have r18 := rg n 18 hn; have r12 := rg n 12 hn; have r6 := rg n 6 hn; have r0 := rg n 0 hn
    unfold signs at s18 s12 s6 s0
    rw [it_k4 (a1 := ((a :: a2 :: a3 :: r, ((n : Int), (1, ()))), ((), (ofBs (b ++ [sgn (n / 2 ^ 18 % 64)]), ())))) (a2 := ((a :: a2 :: a3 :: r, ((n : Int), (2, ()))), ((), (ofBs (b ++ [sgn (n / 2 ^ 18 % 64)] ++ [sgn (n / 2 ^ 12 % 64)]), ())))) (a3 := ((a :: a2 :: a3 :: r, ((n : Int), (3, ()))), ((), (ofBs (b ++ [sgn (n / 2 ^ 18 % 64)] ++ [sgn (n / 2 ^ 12 % 64)] ++ [sgn (n / 2 ^ 6 % 64)]), ())))) (a4 := ((a :: a2 :: a3 :: r, ((n : Int), (4, ()))), ((), (ofBs (b ++ [sgn (n / 2 ^ 18 % 64)] ++ [sgn (n / 2 ^ 12 % 64)] ++ [sgn (n / 2 ^ 6 % 64)] ++ [sgn (n / 2 ^ 0 % 64)]), ()))))
      (z := ((a :: a2 :: a3 :: r, ()), ((), (ofBs (b ++ [sgn (n / 2 ^ 18 % 64)] ++ [sgn (n / 2 ^ 12 % 64)] ++ [sgn (n / 2 ^ 6 % 64)] ++ [sgn (n / 2 ^ 0 % 64)]), ()))))
      (by simp -implicitDefEqProofs only [show decide ((0 : Int) < 4) = true from rfl, g 0 (by decide), cond_true, cond_false, e18, m18, fdivL, r18, s18, b1, Option.bind_some, w01, show decide ((0 : Int) ≤ 18) = true from rfl, Bool.and_self])
      (by simp -implicitDefEqProofs only [show decide ((1 : Int) < 4) = true from rfl, g 1 (by decide), cond_true, cond_false, e12, m12, fdivL, r12, s12, b2, Option.bind_some, w12, show decide ((0 : Int) ≤ 12) = true from rfl, Bool.and_self])
      (by simp -implicitDefEqProofs only [show decide ((2 : Int) < 4) = true from rfl, g 2 (by decide), cond_true, cond_false, e6, m6, fdivL, r6, s6, b3, Option.bind_some, w23, show decide ((0 : Int) ≤ 6) = true from rfl, Bool.and_self])
      (by simp -implicitDefEqProofs only [show decide ((3 : Int) < 4) = true from rfl, g 3 (by decide), cond_true, cond_false, e0, m0, fdivL, r0, s0, b4, Option.bind_some, w34, show decide ((0 : Int) ≤ 0) = true from rfl, Bool.and_self])
      (by simp -implicitDefEqProofs only [show decide ((4 : Int) < 4) = false from rfl, cond_false]) (by omega), Option.bind_some]
    have hm3 : mn (3 : Int) (((a :: a2 :: a3 :: r).length : Nat) : Int) = ((3 : Nat) : Int) := by unfold mn; rw [if_neg (by rw [hl]; omega)]; rfl
    have hsl : sl (a :: a2 :: a3 :: r) ((3 : Nat) : Int) (((a :: a2 :: a3 :: r).length : Nat) : Int) = some r := by rw [sl_end (by rw [hl]; omega)]; rfl
    simp -implicitDefEqProofs only [hm3, hsl, Option.bind_some]
    refine ⟨_, rfl, ⟨r, _, rfl, ?_, by rw [hl] at hx; omega, by simp only [List.length_append, List.length_cons, List.length_nil] at hbl ⊢; omega, ?_⟩, by show r.length < (a :: a2 :: a3 :: r).length; rw [hl]; omega⟩
    · rw [← hb, encW]
      simp [enc4, hnn]
    · rcases hm with hm | hm
      · left; rw [hl] at hm; omega
      · cases hm
/-! ### the reference's: as rows of bits -/
def bitsE (n : Nat) : List Bool := [n / 128 % 2 == 1, n / 64 % 2 == 1, n / 32 % 2 == 1, n / 16 % 2 == 1, n / 8 % 2 == 1, n / 4 % 2 == 1, n / 2 % 2 == 1, n % 2 == 1]
def bv (b : Bool) : Nat := bif b then 1 else 0
def num2 (a b : Bool) : Nat := 2 * bv a + bv b
def num4 (a b c d : Bool) : Nat := 8 * bv a + 4 * bv b + 2 * bv c + bv d
def num6 (a b c d e f : Bool) : Nat := num2 a b * 16 + num4 c d e f
def sig6 : List Bool → Bs
  | a :: b :: c :: d :: e :: f :: r => sgn (num6 a b c d e f) :: sig6 r
  | _ => []
theorem num6_lt (a b c d e f : Bool) : num6 a b c d e f < 64 := by
  cases a <;> cases b <;> cases c <;> cases d <;> cases e <;> cases f <;> decide
/-- three bytes are four signs -/
theorem hi6 (c : UInt8) : num6 (c.toNat / 128 % 2 == 1) (c.toNat / 64 % 2 == 1) (c.toNat / 32 % 2 == 1) (c.toNat / 16 % 2 == 1) (c.toNat / 8 % 2 == 1) (c.toNat / 4 % 2 == 1) = c.toNat / 4 := by
  have := fa_byte (P := fun c => num6 (c.toNat / 128 % 2 == 1) (c.toNat / 64 % 2 == 1) (c.toNat / 32 % 2 == 1) (c.toNat / 16 % 2 == 1) (c.toNat / 8 % 2 == 1) (c.toNat / 4 % 2 == 1) == c.toNat / 4) (by kernel_rfl) c
  exact beq_iff_eq.1 this
theorem lo6 (c : UInt8) : num6 (c.toNat / 32 % 2 == 1) (c.toNat / 16 % 2 == 1) (c.toNat / 8 % 2 == 1) (c.toNat / 4 % 2 == 1) (c.toNat / 2 % 2 == 1) (c.toNat % 2 == 1) = c.toNat % 64 := by
  have := fa_byte (P := fun c => num6 (c.toNat / 32 % 2 == 1) (c.toNat / 16 % 2 == 1) (c.toNat / 8 % 2 == 1) (c.toNat / 4 % 2 == 1) (c.toNat / 2 % 2 == 1) (c.toNat % 2 == 1) == c.toNat % 64) (by kernel_rfl) c
  exact beq_iff_eq.1 this
theorem lo2 (c : UInt8) : num2 (c.toNat / 2 % 2 == 1) (c.toNat % 2 == 1) = c.toNat % 4 := by
  have := fa_byte (P := fun c => num2 (c.toNat / 2 % 2 == 1) (c.toNat % 2 == 1) == c.toNat % 4) (by kernel_rfl) c
  exact beq_iff_eq.1 this
theorem hi4 (c : UInt8) : num4 (c.toNat / 128 % 2 == 1) (c.toNat / 64 % 2 == 1) (c.toNat / 32 % 2 == 1) (c.toNat / 16 % 2 == 1) = c.toNat / 16 := by
  have := fa_byte (P := fun c => num4 (c.toNat / 128 % 2 == 1) (c.toNat / 64 % 2 == 1) (c.toNat / 32 % 2 == 1) (c.toNat / 16 % 2 == 1) == c.toNat / 16) (by kernel_rfl) c
  exact beq_iff_eq.1 this
theorem lo4 (c : UInt8) : num4 (c.toNat / 8 % 2 == 1) (c.toNat / 4 % 2 == 1) (c.toNat / 2 % 2 == 1) (c.toNat % 2 == 1) = c.toNat % 16 := by
  have := fa_byte (P := fun c => num4 (c.toNat / 8 % 2 == 1) (c.toNat / 4 % 2 == 1) (c.toNat / 2 % 2 == 1) (c.toNat % 2 == 1) == c.toNat % 16) (by kernel_rfl) c
  exact beq_iff_eq.1 this
theorem hi2 (c : UInt8) : num2 (c.toNat / 128 % 2 == 1) (c.toNat / 64 % 2 == 1) = c.toNat / 64 := by
  have := fa_byte (P := fun c => num2 (c.toNat / 128 % 2 == 1) (c.toNat / 64 % 2 == 1) == c.toNat / 64) (by kernel_rfl) c
  exact beq_iff_eq.1 this
theorem num42 (a b c d e f : Bool) : num6 a b c d e f = num4 a b c d * 4 + num2 e f := by
  unfold num6 num4 num2; omega
theorem sig_three (a b c : UInt8) (r : List Bool) : sig6 (bitsE a.toNat ++ (bitsE b.toNat ++ (bitsE c.toNat ++ r))) = enc4 (n3 a b c) ++ sig6 r := by
  have ha := a.toNat_lt; have hb := b.toNat_lt; have hc := c.toNat_lt
  show sgn (num6 (a.toNat / 128 % 2 == 1) (a.toNat / 64 % 2 == 1) (a.toNat / 32 % 2 == 1) (a.toNat / 16 % 2 == 1) (a.toNat / 8 % 2 == 1) (a.toNat / 4 % 2 == 1)) :: sgn (num2 (a.toNat / 2 % 2 == 1) (a.toNat % 2 == 1) * 16 + num4 (b.toNat / 128 % 2 == 1) (b.toNat / 64 % 2 == 1) (b.toNat / 32 % 2 == 1) (b.toNat / 16 % 2 == 1)) :: sgn (num6 (b.toNat / 8 % 2 == 1) (b.toNat / 4 % 2 == 1) (b.toNat / 2 % 2 == 1) (b.toNat % 2 == 1) (c.toNat / 128 % 2 == 1) (c.toNat / 64 % 2 == 1)) :: sgn (num6 (c.toNat / 32 % 2 == 1) (c.toNat / 16 % 2 == 1) (c.toNat / 8 % 2 == 1) (c.toNat / 4 % 2 == 1) (c.toNat / 2 % 2 == 1) (c.toNat % 2 == 1)) :: sig6 r = _
  rw [hi6, lo2, hi4, num42 (b.toNat / 8 % 2 == 1), lo4, hi2, lo6]
  have e1 : n3 a b c / 2 ^ 18 % 64 = a.toNat / 4 := by unfold n3; omega
  have e2 : n3 a b c / 2 ^ 12 % 64 = a.toNat % 4 * 16 + b.toNat / 16 := by unfold n3; omega
  have e3 : n3 a b c / 2 ^ 6 % 64 = b.toNat % 16 * 4 + c.toNat / 64 := by unfold n3; omega
  have e4 : n3 a b c / 2 ^ 0 % 64 = c.toNat % 64 := by unfold n3; omega
  unfold enc4
  rw [e1, e2, e3, e4]
  rfl
theorem sig_one (a : UInt8) : sig6 (bitsE a.toNat ++ [false, false, false, false]) = (enc4 (n3 a 0 0)).take 2 := by
  have ha := a.toNat_lt
  show sgn (num6 (a.toNat / 128 % 2 == 1) (a.toNat / 64 % 2 == 1) (a.toNat / 32 % 2 == 1) (a.toNat / 16 % 2 == 1) (a.toNat / 8 % 2 == 1) (a.toNat / 4 % 2 == 1)) :: sgn (num2 (a.toNat / 2 % 2 == 1) (a.toNat % 2 == 1) * 16 + num4 false false false false) :: [] = _
  rw [hi6, lo2]
  have e1 : n3 a 0 0 / 2 ^ 18 % 64 = a.toNat / 4 := by unfold n3; rw [show (0 : UInt8).toNat = 0 from rfl]; omega
  have e2 : n3 a 0 0 / 2 ^ 12 % 64 = a.toNat % 4 * 16 + 0 := by unfold n3; rw [show (0 : UInt8).toNat = 0 from rfl]; omega
  unfold enc4
  rw [e1, e2]
  rfl
def bitsL (s : Bs) : List Bool := s.flatMap fun c => bitsE c.toNat
theorem bitsL_len (s : Bs) : (bitsL s).length = 8 * s.length := by
  induction s with
  | nil => rfl
  | cons c s ih =>
    have e : bitsL (c :: s) = bitsE c.toNat ++ bitsL s := by simp [bitsL]
    rw [e, List.length_append, ih]
    simp [bitsE]
    omega
theorem bitsL_cons (c : UInt8) (s : Bs) : bitsL (c :: s) = bitsE c.toNat ++ bitsL s := by simp [bitsL]
theorem sig_enc : ∀ (s : Bs), s.length % 3 = 1 → sig6 (bitsL s ++ [false, false, false, false]) ++ [61, 61] = encW s
  | [], h => by simp at h
  | [a], _ => by
    rw [encW, bitsL_cons, show bitsL [] = [] from rfl, List.append_nil, sig_one]
  | [a, b], h => by simp at h
  | a :: b :: c :: r, h => by
    rw [encW, bitsL_cons, bitsL_cons, bitsL_cons, List.append_assoc, List.append_assoc, List.append_assoc, sig_three, List.append_assoc, sig_enc r (by simp at h; omega)]
theorem it_k2 {α β : Type} {f : α → Option (α ⊕ β)} {a0 a1 a2 : α} {z : β} {N : Nat} (h0 : f a0 = some (.inl a1)) (h1 : f a1 = some (.inl a2)) (h2 : f a2 = some (.inr z)) (hN : 10 < N) : (Ev.upto N).it f a0 = some z := by
  obtain ⟨n, rfl⟩ : ∃ n, N = n + 3 := ⟨N - 3, by omega⟩
  rw [upto_it]
  simp only [iterN, h0, h1, h2, Option.bind_some]
theorem sig6_len : ∀ (n : Nat) (l : List Bool), l.length ≤ n → (sig6 l).length = l.length / 6
  | 0, l, h => by
    have : l = [] := List.length_eq_zero_iff.1 (by omega)
    subst this; rfl
  | n + 1, l, h => by
    match l, h with
    | [], _ => rfl
    | [_], _ => simp [sig6]
    | [_, _], _ => simp [sig6]
    | [_, _, _], _ => simp [sig6]
    | [_, _, _, _], _ => simp [sig6]
    | [_, _, _, _, _], _ => simp [sig6]
    | a :: b :: c :: d :: e :: f :: r, h =>
      have := sig6_len n r (by simp at h; omega)
      rw [sig6]
      simp only [List.length_cons]
      omega
theorem sgn_sl (n : Nat) (h : n < 64) : sl signs (n : Int) (IntKind.wrap .i64 ((n : Int) + 1)) = some [sgn n] := by
  have hl : n < signs.length := h
  rw [wrap64 (by omega) (by omega), sl_one hl]
  unfold sgn
  rw [List.getElem?_eq_getElem hl]
  rfl
theorem six {l : List Bool} (h : 6 ≤ l.length) : ∃ a b c d e f r, l = a :: b :: c :: d :: e :: f :: r := by
  match l, h with
  | [], h => simp at h
  | [_], h => simp at h
  | [_, _], h => simp at h
  | [_, _, _], h => simp at h
  | [_, _, _, _], h => simp at h
  | [_, _, _, _, _], h => simp at h
  | a :: b :: c :: d :: e :: f :: r, _ => exact ⟨a, b, c, d, e, f, r, rfl⟩
/-! ### A source's word -/
def hdP (sc : Bs) : Bs := bif sc == ([] : Bs) then [] else sc ++ [58, 47, 47]
def wiP (wi : Bool) (ho : Bs) : Bs := bif wi then (bif ho == ([] : Bs) then [42] else [42, 46]) else []
def poP (po : Int) : Bs := bif decide (po < 0) then [58, 42] else bif decide (po > 0) then [58] ++ digs 20 po.toNat else []
def prS (s : Src) : Bs := hdP s.2.2.1 ++ wiP s.2.2.2.2.1 s.2.2.2.1 ++ s.2.2.2.1 ++ poP s.2.2.2.2.2.1 ++ s.2.2.2.2.2.2
theorem digs_len (k u : Nat) : (digs k u).length ≤ k := by
  induction k generalizing u with
  | zero => simp [digs]
  | succ k ih =>
    unfold digs
    have := ih (u / 10)
    cases decide (u < 10)
    · simp only [cond_false, List.length_append, List.length_cons, List.length_nil]; omega
    · simp
theorem hdP_len (sc : Bs) : (hdP sc).length ≤ sc.length + 3 := by unfold hdP; cases (sc == ([] : Bs)) <;> simp
theorem wiP_len (wi : Bool) (ho : Bs) : (wiP wi ho).length ≤ 2 := by unfold wiP; cases wi <;> cases (ho == ([] : Bs)) <;> simp
theorem poP_len (po : Int) : (poP po).length ≤ 22 := by
  unfold poP
  have := digs_len 20 po.toNat
  cases decide (po < 0) <;> cases decide (po > 0) <;> simp <;> omega
theorem printed_eq (s : Src) (h : smallS s) (V : Ev) : source_printed_ V ((s, ()), ()) = some ((prS s, ()), ()) := by
  obtain ⟨k, tx, sc, ho, wi, po, pa⟩ := s
  obtain ⟨h1, h2, h3, h4⟩ := h
  simp only at h1 h2 h3 h4
  apply wp_eq
  unfold source_printed_ prS
  simp only
  have l1 := hdP_len sc
  have l2 := wiP_len wi ho
  have l3 := poP_len po
  -- the scheme
  have a1 : wp ((bif (!(sc == ([] : Bs))) then ((some (((k, (tx, (sc, (ho, (wi, (po, pa)))))), (([] : Bs), (sc, ((!(sc == ([] : Bs))), ())))), (((k, (tx, (sc, (ho, (wi, (po, pa)))))), ()), ((), (([] : List Int), ())))) : Option ((Src × Bs × Bs × Bool × Unit) × (Src × Unit) × Unit × (List Int) × Unit)).bind fun p1 => (bif strFits ((p1.2.1.1.2.2.1).length + (([58, 47, 47] : Bs)).length) then ((strings_Builder_WriteString_d1d V (((p1.2.1.1.2.2.1 ++ ([58, 47, 47] : Bs)), ()), ((), (p1.2.2.2.1, ())))).bind fun v2 => (some ((), ((p1.2.1.1, ()), ((), (v2.2.2.1, ())))))) else none)) else (some ((), (((k, (tx, (sc, (ho, (wi, (po, pa)))))), ()), ((), (([] : List Int), ()))))) : Option (Unit × (Src × Unit) × Unit × (List Int) × Unit))) (fun o => o = ((), (((k, (tx, (sc, (ho, (wi, (po, pa)))))), ()), ((), (ofBs (hdP sc), ()))))) := by
    unfold hdP
    cases (sc == ([] : Bs)) with
    | true => exact ⟨_, rfl, rfl⟩
    | false =>
      have g := strFits_of (show sc.length + ([58, 47, 47] : Bs).length ≤ 100000000 by simp; omega)
      have q := WSd_eq V (sc ++ [58, 47, 47]) [] (by simp; omega)
      rw [show ofBs [] = ([] : List Int) from rfl, List.nil_append] at q
      simp -implicitDefEqProofs only [Bool.not_false, cond_true, Option.bind_some, g, q]
      exact ⟨_, rfl, rfl⟩
  obtain ⟨_, e1, rfl⟩ := a1
  rw [e1]
  -- the star
  have a2 : wp (((bif (wi == true) then (some (((!(ho == ([] : Bs))), ()), (((k, (tx, (sc, (ho, (wi, (po, pa)))))), ()), ((), (ofBs (hdP sc), ()))))) else (some ((false, ()), (((k, (tx, (sc, (ho, (wi, (po, pa)))))), ()), ((), (ofBs (hdP sc), ()))))) : Option ((Bool × Unit) × (Src × Unit) × Unit × (List Int) × Unit)).bind fun o4 => ((bif o4.1.1 then ((strings_Builder_WriteString_cc3 V ((([42, 46] : Bs), ()), ((), (o4.2.2.2.1, ())))).bind fun v5 => (some ((), ((o4.2.1.1, ()), ((), (v5.2.2.1, ())))))) else ((bif o4.2.1.1.2.2.2.2.1 then ((strings_Builder_WriteString_cc3 V ((([42] : Bs), ()), ((), (o4.2.2.2.1, ())))).bind fun v6 => (some ((), ((o4.2.1.1, ()), ((), (v6.2.2.1, ())))))) else (some ((), ((o4.2.1.1, ()), ((), (o4.2.2.2.1, ())))))).bind fun o7 => (some ((), ((o7.2.1.1, ()), ((), (o7.2.2.2.1, ()))))))) : Option (Unit × (Src × Unit) × Unit × (List Int) × Unit)))) (fun o => o = ((), (((k, (tx, (sc, (ho, (wi, (po, pa)))))), ()), ((), (ofBs (hdP sc ++ wiP wi ho), ()))))) := by
    have q1 := WS_eq V [42, 46] (hdP sc) (by simp; omega)
    have q2 := WS_eq V [42] (hdP sc) (by simp; omega)
    unfold wiP
    cases wi with
    | false => exact ⟨_, rfl, by simp⟩
    | true =>
      cases (ho == ([] : Bs)) with
      | true =>
        simp -implicitDefEqProofs only [beq_self_eq_true, Bool.not_true, cond_true, cond_false, Option.bind_some, q2]
        exact ⟨_, rfl, rfl⟩
      | false =>
        simp -implicitDefEqProofs only [beq_self_eq_true, Bool.not_false, cond_true, cond_false, Option.bind_some, q1]
        exact ⟨_, rfl, rfl⟩
  obtain ⟨_, e2, e2'⟩ := a2
  rw [Option.bind_some]
  have bb : ∀ {α β γ : Type} (x : Option α) (f : α → Option β) (g : β → Option γ), (x.bind fun y => (f y).bind g) = (x.bind f).bind g := fun x f g => by cases x <;> rfl
  rw [bb, e2, e2', Option.bind_some]
  have q3 := WS_eq V ho (hdP sc ++ wiP wi ho) (by simp; omega)
  simp -implicitDefEqProofs only [q3, Option.bind_some]
  -- the port
  have a3 : wp ((bif decide (po < (0 : Int)) then ((strings_Builder_WriteString_cc3 V ((([58, 42] : Bs), ()), ((), (ofBs (hdP sc ++ wiP wi ho ++ ho), ())))).bind fun v10 => (some ((), (((k, (tx, (sc, (ho, (wi, (po, pa)))))), ()), ((), (v10.2.2.1, ())))))) else ((bif decide (po > (0 : Int)) then ((strconv_Itoa_ V ((po, ()), ())).bind fun v11 => (bif strFits ((([58] : Bs)).length + (v11.1.1).length) then ((strings_Builder_WriteString_cc3 V (((([58] : Bs) ++ v11.1.1), ()), ((), (ofBs (hdP sc ++ wiP wi ho ++ ho), ())))).bind fun v12 => (some ((), (((k, (tx, (sc, (ho, (wi, (po, pa)))))), ()), ((), (v12.2.2.1, ())))))) else none)) else (some ((), (((k, (tx, (sc, (ho, (wi, (po, pa)))))), ()), ((), (ofBs (hdP sc ++ wiP wi ho ++ ho), ())))))).bind fun o13 => (some ((), ((o13.2.1.1, ()), ((), (o13.2.2.2.1, ())))))) : Option (Unit × (Src × Unit) × Unit × (List Int) × Unit))) (fun o => o = ((), (((k, (tx, (sc, (ho, (wi, (po, pa)))))), ()), ((), (ofBs (hdP sc ++ wiP wi ho ++ ho ++ poP po), ()))))) := by
    unfold poP
    by_cases hp : po < 0
    · have q := WS_eq V [58, 42] (hdP sc ++ wiP wi ho ++ ho) (by simp; omega)
      rw [decide_eq_true hp]
      simp -implicitDefEqProofs only [cond_true, q, Option.bind_some]
      exact ⟨_, rfl, rfl⟩
    · rw [decide_eq_false hp]
      by_cases hp0 : po > 0
      · have hd := digs_len 20 po.toNat
        have q := WS_eq V ([58] ++ digs 20 po.toNat) (hdP sc ++ wiP wi ho ++ ho) (by simp; omega)
        have qi := itoa_eq V po (by omega)
        have g := strFits_of (show ([58] : Bs).length + (digs 20 po.toNat).length ≤ 100000000 by simp; omega)
        rw [decide_eq_true hp0]
        simp -implicitDefEqProofs only [cond_true, cond_false, qi, g, q, Option.bind_some]
        exact ⟨_, rfl, rfl⟩
      · rw [decide_eq_false hp0]
        exact ⟨_, rfl, by simp⟩
  obtain ⟨_, e3, rfl⟩ := a3
  rw [e3]
  have q4 := BS_eq V (hdP sc ++ wiP wi ho ++ ho ++ poP po)
  have g := strFits_of (show (hdP sc ++ wiP wi ho ++ ho ++ poP po).length + pa.length ≤ 100000000 by simp; omega)
  simp -implicitDefEqProofs only [q4, Option.bind_some, g, cond_true]
  exact ⟨_, rfl, rfl⟩
theorem exw2 : pouncelaw09_words_ (Ev.upto 200000) ((), ()) = some ((true, ()), ()) := by kernel_rfl
def wordB (s : Src) : Bs :=
  bif s.1 == 9 then [39, 110, 111, 110, 99, 101, 45] ++ s.2.1 ++ [39] else bif s.1 == 10 then [39, 109, 97, 114, 107, 45] ++ encW s.2.1 ++ [39]
  else bif s.1 == 11 then s.2.2.1 ++ [58] else bif s.1 == 12 then prS s else keptO s.1
theorem encW_len : ∀ (n : Nat) (s : Bs), s.length ≤ n → (encW s).length ≤ 4 * s.length
  | 0, s, h => by
    have : s = [] := List.length_eq_zero_iff.1 (by omega)
    subst this; simp [encW]
  | n + 1, s, h => by
    match s, h with
    | [], _ => simp [encW]
    | [a], _ => simp [encW, enc4]
    | [a, b], _ => simp [encW, enc4]
    | a :: b :: c :: r, h =>
      have := encW_len n r (by simp at h; omega)
      simp [encW, enc4]
      omega
theorem Print_eq (s : Src) (h : smallS s) : source_Print_ (Ev.upto 200000) ((s, ()), ()) = some (((bif rightB s then wordB s else []), (rightB s, ())), ()) := by
  have q := right_eq s h
  have q12 := printed_eq s h (Ev.upto 200000)
  unfold source_Print_
  simp -implicitDefEqProofs only [q, Option.bind_some]
  cases hr : rightB s with
  | false => rfl
  | true =>
    simp -implicitDefEqProofs only [Bool.not_true, cond_false, cond_true]
    unfold wordB
    obtain ⟨k, tx, sc, ho, wi, po, pa⟩ := s
    obtain ⟨h1, h2, h3, h4⟩ := h
    simp only at h1 h2 h3 h4 ⊢
    cases e9 : (k == 9) with
    | true =>
      have g1 := strFits_of (show ([39, 110, 111, 110, 99, 101, 45] : Bs).length + tx.length ≤ 100000000 by simp; omega)
      have g2 := strFits_of (show (([39, 110, 111, 110, 99, 101, 45] : Bs) ++ tx).length + ([39] : Bs).length ≤ 100000000 by simp; omega)
      simp -implicitDefEqProofs only [cond_true, g1, g2]
    | false =>
      cases e10 : (k == 10) with
      | true =>
        have hl : tx.length = 16 := by
          unfold rightB at hr
          simp only [e9, e10, cond_false, cond_true, Bool.and_eq_true, beq_iff_eq] at hr
          omega
        have qe := Encode_eq 200000 tx (by omega) (by omega) (by decide)
        have el := encW_len _ tx (Nat.le_refl _)
        have g1 := strFits_of (show ([39, 109, 97, 114, 107, 45] : Bs).length + (encW tx).length ≤ 100000000 by simp; omega)
        have g2 := strFits_of (show (([39, 109, 97, 114, 107, 45] : Bs) ++ encW tx).length + ([39] : Bs).length ≤ 100000000 by simp; omega)
        simp -implicitDefEqProofs only [cond_false, cond_true, qe, Option.bind_some, g1, g2]
      | false =>
        cases e11 : (k == 11) with
        | true =>
          have g1 := strFits_of (show sc.length + ([58] : Bs).length ≤ 100000000 by simp; omega)
          simp -implicitDefEqProofs only [cond_false, cond_true, g1]
        | false =>
          cases e12 : (k == 12) with
          | true => simp -implicitDefEqProofs only [cond_false, cond_true, q12, Option.bind_some]
          | false =>
            have hk : keptB k = true := by
              unfold rightB at hr
              simp only [e9, e10, e11, e12, cond_false, Bool.and_eq_true] at hr
              exact hr.1
            have hk2 := hk
            unfold keptB at hk
            simp only [Bool.and_eq_true, decide_eq_true_eq] at hk
            have qi : idx tabl0 k = some (keptO k) := by
              have : k = 1 ∨ k = 2 ∨ k = 3 ∨ k = 4 ∨ k = 5 ∨ k = 6 ∨ k = 7 ∨ k = 8 := by omega
              rcases this with rfl | rfl | rfl | rfl | rfl | rfl | rfl | rfl <;> (show _ = _; kernel_rfl)
            simp -implicitDefEqProofs only [cond_false, qi, Option.bind_some]
/-! ### Small letters, places of a text -/
theorem forall_byte {P : UInt8 → Bool} (h : (List.range 256).all (fun n => P (UInt8.ofNat n)) = true) (c : UInt8) : P c = true := by
  have h2 := List.all_eq_true.1 h c.toNat (List.mem_range.2 c.toNat_lt)
  rwa [UInt8.ofNat_toNat] at h2
theorem ofBs_gel {s : Bs} {i : Nat} (h : i < s.length) : (ofBs s)[i]'(by rw [ofBs_length]; exact h) = (s[i].toNat : Int) := by simp [ofBs]
def lowI (n : Int) : Int := bif decide (n ≥ 65) && decide (n ≤ 90) then n + 32 else n
def lowerB (s : Bs) : Bs := toBs ((ofBs s).map lowI)
theorem lowerB_length (s : Bs) : (lowerB s).length = s.length := by simp [lowerB, toBs, ofBs]
theorem low_wrap (c : UInt8) (h0 : decide ((c.toNat : Int) ≥ 65) = true) (h1 : decide ((c.toNat : Int) ≤ 90) = true) : IntKind.wrap .u8 ((IntKind.wrap .u8 ((c.toNat : Int) + 97)) - 65) = (c.toNat : Int) + 32 := by
  have h0 := of_decide_eq_true h0
  have h1 := of_decide_eq_true h1
  rw [wrapu8 (n := (c.toNat : Int) + 97) (by omega) (by omega), wrapu8 (by omega) (by omega)]
  omega
theorem lower_eq (N : Nat) (s : Bs) (hs : s.length < N) (hb : s.length ≤ 1000000) : fold_Lower_ (Ev.upto N) ((s, ()), ()) = some ((lowerB s, ()), ()) := by
  apply wp_eq
  unfold fold_Lower_
  refine wp_bind ?_
  refine wp_for (σ := Unit) (fun i _ => ((((ofBs s).length : Int), ((i : Int), ())), (((ofBs s).take i).map lowI ++ (ofBs s).drop i, ()))) (fun i _ => True) s.length () (by simp) trivial hs ?_
  rintro i _ hi _
  have hol := ofBs_length s
  have hll : (((ofBs s).take i).map lowI ++ (ofBs s).drop i).length = s.length := by simp [hol]; omega
  by_cases hi' : i < s.length
  · have c0 : decide ((i : Int) < ((ofBs s).length : Int)) = true := decide_eq_true (by omega)
    have c1 : decide ((i : Int) < ((((ofBs s).take i).map lowI ++ (ofBs s).drop i).length : Int)) = true := decide_eq_true (by omega)
    have c2 : decide ((0 : Int) ≤ (i : Int)) = true := decide_eq_true (by omega)
    have w : IntKind.wrap .i64 ((i : Int) + 1) = ((i + 1 : Nat) : Int) := by rw [wrap64 (by omega) (by omega)]; omega
    have hd : (ofBs s).drop i = (s[i].toNat : Int) :: (ofBs s).drop (i + 1) := by rw [List.drop_eq_getElem_cons (by omega), ofBs_gel hi']
    have hlen : (((ofBs s).take i).map lowI).length = i := by simp [hol]; omega
    have g : (((ofBs s).take i).map lowI ++ (ofBs s).drop i)[((i : Int)).toNat]? = some (s[i].toNat : Int) := by
      rw [Int.toNat_natCast, List.getElem?_append_right (by omega), hlen, Nat.sub_self, hd]; rfl
    have st : ∀ v, (((ofBs s).take i).map lowI ++ (ofBs s).drop i).set ((i : Int)).toNat v = ((ofBs s).take i).map lowI ++ v :: (ofBs s).drop (i + 1) := by
      intro v
      rw [Int.toNat_natCast, List.set_append_right _ _ (by omega), hlen, Nat.sub_self, hd]; rfl
    have nx : ((ofBs s).take (i + 1)).map lowI ++ (ofBs s).drop (i + 1) = ((ofBs s).take i).map lowI ++ lowI (s[i].toNat : Int) :: (ofBs s).drop (i + 1) := by
      rw [List.take_succ_eq_append_getElem (by omega), List.map_append, ofBs_gel hi']; simp
    simp -implicitDefEqProofs only [c0, c1, c2, Bool.and_self, cond_true, g, Option.bind_some]
    cases h1 : decide ((s[i].toNat : Int) ≥ 65) with
    | false =>
      have hx : lowI (s[i].toNat : Int) = (s[i].toNat : Int) := by unfold lowI; rw [h1]; rfl
      rw [hx] at nx
      exact ⟨_, rfl, hi', (), by simp only [w, nx, ← hd], trivial⟩
    | true =>
      cases h2 : decide ((s[i].toNat : Int) ≤ 90) with
      | false =>
        have hx : lowI (s[i].toNat : Int) = (s[i].toNat : Int) := by unfold lowI; rw [h1, h2]; rfl
        rw [hx] at nx
        exact ⟨_, rfl, hi', (), by simp only [w, nx, ← hd], trivial⟩
      | true =>
        have hx : lowI (s[i].toNat : Int) = (s[i].toNat : Int) + 32 := by unfold lowI; rw [h1, h2]; rfl
        rw [hx] at nx
        have lw := low_wrap s[i] h1 h2
        simp -implicitDefEqProofs only [beq_self_eq_true, cond_true, Option.bind_some, c1, c2, Bool.and_self, g, st, lw]
        exact ⟨_, rfl, hi', (), by simp only [w, nx], trivial⟩
  · have c0 : decide ((i : Int) < ((ofBs s).length : Int)) = false := decide_eq_false (by omega)
    simp -implicitDefEqProofs only [c0, cond_false]
    refine ⟨_, rfl, _, rfl, ?_⟩
    rw [List.take_of_length_le (by omega), List.drop_eq_nil_of_le (by omega), List.append_nil]
    rfl
theorem lowI_low (n : Int) : lowI (lowI n) = lowI n := by
  unfold lowI
  by_cases h0 : n ≥ 65
  · by_cases h1 : n ≤ 90
    · rw [show decide (n ≥ 65) = true from decide_eq_true h0, show decide (n ≤ 90) = true from decide_eq_true h1]
      simp only [Bool.and_self, cond_true]
      rw [show decide (n + 32 ≤ 90) = false from decide_eq_false (by omega), Bool.and_false, cond_false]
    · rw [show decide (n ≤ 90) = false from decide_eq_false h1, Bool.and_false, cond_false, show decide (n ≤ 90) = false from decide_eq_false h1, Bool.and_false, cond_false]
  · rw [show decide (n ≥ 65) = false from decide_eq_false h0, Bool.false_and, cond_false, show decide (n ≥ 65) = false from decide_eq_false h0, Bool.false_and, cond_false]
def low1 (c : UInt8) : UInt8 := UInt8.ofNat (lowI (c.toNat : Int)).toNat
theorem low1_toNat (c : UInt8) : ((low1 c).toNat : Int) = lowI (c.toNat : Int) := by
  have := c.toNat_lt
  unfold low1 lowI
  rw [UInt8.toNat_ofNat']
  by_cases h0 : (c.toNat : Int) ≥ 65
  · by_cases h1 : (c.toNat : Int) ≤ 90
    · rw [show decide ((c.toNat : Int) ≥ 65) = true from decide_eq_true h0, show decide ((c.toNat : Int) ≤ 90) = true from decide_eq_true h1]
      simp only [Bool.and_self, cond_true]
      omega
    · rw [show decide ((c.toNat : Int) ≤ 90) = false from decide_eq_false h1, Bool.and_false, cond_false]
      omega
  · rw [show decide ((c.toNat : Int) ≥ 65) = false from decide_eq_false h0, Bool.false_and, cond_false]
    omega
theorem lowerB_map (s : Bs) : lowerB s = s.map low1 := by simp [lowerB, toBs, ofBs, low1, Function.comp_def]
theorem low1_low (c : UInt8) : low1 (low1 c) = low1 c := by
  apply UInt8.toNat_inj.1
  have h1 := low1_toNat (low1 c)
  rw [low1_toNat c, lowI_low] at h1
  have h2 := low1_toNat c
  omega
theorem lowerB_low (s : Bs) : lowerB (lowerB s) = lowerB s := by
  rw [lowerB_map, lowerB_map, List.map_map]
  congr 1
  funext c
  exact low1_low c
theorem lowerB_cons (c : UInt8) (x : Bs) : lowerB (c :: x) = low1 c :: lowerB x := by simp [lowerB_map]
def findB : Bs → Bs → Option Nat
  | [], e => if e.isEmpty then some 0 else none
  | c :: r, e => if e.isPrefixOf (c :: r) then some 0 else (findB r e).map (· + 1)
theorem findB_index : ∀ (l e : Bs), Lib.index l e = match findB l e with | some k => (k : Int) | none => -1
  | [], e => by unfold Lib.index findB; split <;> rfl
  | c :: r, e => by
    unfold Lib.index findB
    split
    · rfl
    · rw [findB_index r e]
      cases findB r e with
      | none => rfl
      | some k =>
        have : ((k : Int) == -1) = false := by simp
        simp only [this, Option.map_some]
        simp
theorem findB_some : ∀ (l e : Bs) (k : Nat), findB l e = some k → k + e.length ≤ l.length ∧ (l.drop k).take e.length = e
  | [], e, k, h => by
    unfold findB at h
    split at h
    · rename_i he
      cases h
      have : e = [] := by simpa using he
      subst this
      simp
    · cases h
  | c :: r, e, k, h => by
    unfold findB at h
    split at h
    · rename_i hp
      cases h
      have := List.isPrefixOf_iff_prefix.1 hp
      refine ⟨by simpa using this.length_le, ?_⟩
      rw [List.drop_zero]
      exact (List.prefix_iff_eq_take.1 this).symm
    · cases hr : findB r e with
      | none => rw [hr] at h; cases h
      | some j =>
        rw [hr] at h
        cases h
        have := findB_some r e j hr
        simp only [List.length_cons, List.drop_succ_cons]
        exact ⟨by omega, this.2⟩
theorem findB_short : ∀ (l e : Bs), l.length < e.length → findB l e = none
  | [], e, h => by
    unfold findB
    rw [if_neg]
    intro he
    have : e = [] := by simpa using he
    subst this
    simp at h
  | c :: r, e, h => by
    unfold findB
    rw [if_neg, findB_short r e (by simp at h; omega)]
    · rfl
    · intro hp
      have := (List.isPrefixOf_iff_prefix.1 hp).length_le
      omega
theorem Cut_eq (V : Ev) (l e : Bs) (hl : l.length ≤ 100000) : strings_Cut_ V ((l, (e, ())), ()) = some ((match findB l e with | some k => (l.take k, (l.drop (k + e.length), (true, ()))) | none => (l, (([] : Bs), (false, ())))), ()) := by
  unfold strings_Cut_ istringslite_Cut_ istringslite_Index_ gIndex
  simp -implicitDefEqProofs only [show decide (l.length < 4294967281) = true from decide_eq_true (by omega), cond_true, Option.bind_some, findB_index l e]
  cases hf : findB l e with
  | none =>
    simp -implicitDefEqProofs only [show decide ((-1 : Int) ≥ 0) = false from rfl, cond_false, Option.bind_some]
  | some k =>
    obtain ⟨h1, h2⟩ := findB_some l e k hf
    have w : IntKind.wrap .i64 ((k : Int) + (e.length : Int)) = ((k + e.length : Nat) : Int) := by rw [wrap64 (by omega) (by omega)]; omega
    have s1 : sl l (0 : Int) (k : Int) = some (l.take k) := by have := sl_nat (l := l) (a := 0) (b := k) (by omega) (by omega); simpa using this
    have s2 : sl l ((k + e.length : Nat) : Int) (l.length : Int) = some (l.drop (k + e.length)) := sl_end h1
    simp -implicitDefEqProofs only [show decide ((k : Int) ≥ 0) = true from decide_eq_true (by omega), cond_true, w, s1, s2, Option.bind_some]
theorem findB_pre : ∀ (X e X' : Bs) (m : Nat), findB X e = some m → X.take (m + e.length) <+: X' → findB X' e = some m
  | [], e, X', m, h, hp => by
    unfold findB at h
    split at h
    · rename_i he
      cases h
      have : e = [] := by simpa using he
      subst this
      cases X' <;> rfl
    · cases h
  | c :: r, e, X', m, h, hp => by
    unfold findB at h
    split at h
    · rename_i he
      cases h
      have he := List.isPrefixOf_iff_prefix.1 he
      rw [Nat.zero_add, ← List.prefix_iff_eq_take.1 he] at hp
      cases X' with
      | nil => rw [List.prefix_nil.1 hp]; rfl
      | cons c' r' => unfold findB; rw [if_pos (List.isPrefixOf_iff_prefix.2 hp)]
    · rename_i he
      cases hr : findB r e with
      | none => rw [hr] at h; cases h
      | some j =>
        rw [hr] at h
        cases h
        have hs := (findB_some r e j hr).1
        rw [show j + 1 + e.length = (j + e.length) + 1 by omega, List.take_succ_cons] at hp
        cases X' with
        | nil => have := hp.length_le; simp at this
        | cons c' r' =>
          obtain ⟨rfl, hp2⟩ := List.cons_prefix_cons.1 hp
          have ih := findB_pre r e r' j hr hp2
          unfold findB
          rw [if_neg, ih]
          · rfl
          · intro hc
            have hc := List.isPrefixOf_iff_prefix.1 hc
            apply he
            rw [List.isPrefixOf_iff_prefix]
            have h2 : e <+: c :: r.take (j + e.length) := List.prefix_of_prefix_length_le hc (List.cons_prefix_cons.2 ⟨rfl, hp2⟩) (by simp; omega)
            exact h2.trans (List.cons_prefix_cons.2 ⟨rfl, List.take_prefix _ _⟩)
theorem findB_one : ∀ (x y : Bs) (c : UInt8), c ∉ x → findB (x ++ c :: y) [c] = some x.length
  | [], y, c, _ => by simp [findB, List.isPrefixOf]
  | d :: x, y, c, h => by
    rw [List.cons_append, findB, if_neg, findB_one x y c (fun hm => h (List.mem_cons_of_mem _ hm))]
    · rfl
    · intro hp
      have := List.isPrefixOf_iff_prefix.1 hp
      obtain ⟨e, _⟩ := List.cons_prefix_cons.1 this
      exact h (e ▸ List.mem_cons_self)
theorem findB_notin : ∀ (X : Bs) (c : UInt8) (m : Nat), findB X [c] = some m → c ∉ X.take m
  | [], c, m, h => by simp
  | d :: X, c, m, h => by
    unfold findB at h
    split at h
    · cases h; simp
    · rename_i hp
      cases hr : findB X [c] with
      | none => rw [hr] at h; cases h
      | some j =>
        rw [hr] at h
        cases h
        rw [List.take_succ_cons]
        intro hm
        rcases List.mem_cons.1 hm with h1 | h1
        · apply hp
          rw [h1]
          simp [List.isPrefixOf]
        · exact findB_notin X c j hr h1
theorem tw_mem {α : Type} {p : α → Bool} {x : α} : ∀ {l : List α}, x ∈ l.takeWhile p → p x = true
  | [], h => by cases h
  | a :: l, h => by
    rw [List.takeWhile_cons] at h
    split at h
    · rename_i ha
      rcases List.mem_cons.1 h with h | h
      · rw [h]; exact ha
      · exact tw_mem h
    · cases h
theorem dropWhile_head {p : UInt8 → Bool} : ∀ (l : Bs) (c : UInt8) (z : Bs), l.dropWhile p = c :: z → p c = false
  | [], c, z, h => by cases h
  | d :: l, c, z, h => by
    rw [List.dropWhile_cons] at h
    split at h
    · exact dropWhile_head l c z h
    · rename_i hd
      cases h
      simpa using hd
theorem HP_eq (V : Ev) (s p : Bs) (hs : s.length ≤ 1000000) (hp : p.length ≤ 1000) : strings_HasPrefix_ V ((s, (p, ())), ()) = some ((s.take p.length == p, ()), ()) := by
  unfold strings_HasPrefix_ istringslite_HasPrefix_
  by_cases h : p.length ≤ s.length
  · have c0 : (decide ((s.length : Int) ≥ (p.length : Int)) == true) = true := by rw [decide_eq_true (by omega)]; rfl
    have := sl_nat (l := s) (a := 0) (b := p.length) (by omega) h
    rw [List.drop_zero] at this
    simp -implicitDefEqProofs only [c0, cond_true, show (0 : Int) = ((0 : Nat) : Int) from rfl, this, Option.bind_some]
  · have c0 : (decide ((s.length : Int) ≥ (p.length : Int)) == true) = false := by rw [decide_eq_false (by omega)]; rfl
    have hne : (s.take p.length == p) = false := by
      rw [beq_eq_false_iff_ne]
      intro e
      have := congrArg List.length e
      simp at this
      omega
    simp -implicitDefEqProofs only [c0, cond_false, Option.bind_some, hne]
theorem CP_eq (V : Ev) (s p : Bs) (hs : s.length ≤ 1000000) (hp : p.length ≤ 1000) : strings_CutPrefix_ V ((s, (p, ())), ()) = some ((bif s.take p.length == p then (s.drop p.length, (true, ())) else (s, (false, ())), ()) : (Bs × Bool × Unit) × Unit) := by
  have q := HP_eq V s p hs hp
  unfold strings_HasPrefix_ at q
  unfold strings_CutPrefix_ istringslite_CutPrefix_
  cases hq : istringslite_HasPrefix_ V ((s, (p, ())), ()) with
  | none => simp only [hq] at q; cases q
  | some r =>
    simp only [hq, Option.bind_some, Option.some.injEq, Prod.mk.injEq, and_true] at q
    simp -implicitDefEqProofs only [Option.bind_some, q]
    cases hc : (s.take p.length == p) with
    | false => rfl
    | true =>
      have hl : p.length ≤ s.length := by
        have := congrArg List.length (beq_iff_eq.1 hc)
        simp at this
        omega
      have := sl_end (l := s) (a := p.length) hl
      simp -implicitDefEqProofs only [Bool.not_true, cond_false, cond_true, this, Option.bind_some]
/-! ### A port -/
def digC (c : UInt8) : Bool := decide (48 ≤ c.toNat) && decide (c.toNat ≤ 57)
def allDig (s : Bs) : Bool := s.all digC
def digV (s : Bs) : Nat := s.foldl (fun n c => n * 10 + (c.toNat - 48)) 0
theorem digs_contains (c : UInt8) : ([48, 49, 50, 51, 52, 53, 54, 55, 56, 57] : Bs).contains c = digC c := by
  have := fa_byte (P := fun c => ([48, 49, 50, 51, 52, 53, 54, 55, 56, 57] : Bs).contains c == digC c) (by kernel_rfl) c
  exact beq_iff_eq.1 this
theorem dw_nil {p : UInt8 → Bool} {l : Bs} : l.dropWhile p = [] ↔ ∀ x ∈ l, p x = true := by
  induction l with
  | nil => simp
  | cons a l ih =>
    rw [List.dropWhile_cons]
    cases ha : p a with
    | true => simp [ha, ih]
    | false => simp [ha]
theorem trimS_nil (s cs : Bs) : (Lib.trimS s cs == ([] : Bs)) = s.all (cs.contains ·) := by
  rw [Bool.eq_iff_iff, beq_iff_eq, List.all_eq_true]
  unfold Lib.trimS Lib.trimLeftS Lib.trimRightS
  constructor
  · intro h
    rw [dw_nil] at h
    cases hd : s.reverse.dropWhile (cs.contains ·) with
    | nil =>
      rw [dw_nil] at hd
      exact fun x hx => hd x (List.mem_reverse.2 hx)
    | cons c z =>
      have h1 := dropWhile_head _ c z hd
      have h2 := h c (by rw [hd]; simp)
      rw [h1] at h2
      cases h2
  · intro h
    have : s.reverse.dropWhile (cs.contains ·) = [] := dw_nil.2 (fun x hx => h x (List.mem_reverse.1 hx))
    rw [this]
    rfl
theorem trim_dig (V : Ev) (s : Bs) : ∃ x, strings_Trim_ V ((s, (([48, 49, 50, 51, 52, 53, 54, 55, 56, 57] : Bs), ())), ()) = some ((x, ()), ()) ∧ (x == ([] : Bs)) = allDig s := by
  refine ⟨Lib.trimS s [48, 49, 50, 51, 52, 53, 54, 55, 56, 57], rfl, ?_⟩
  rw [trimS_nil]
  unfold allDig
  congr 1
  funext c
  exact digs_contains c
theorem digV_snoc (l : Bs) (c : UInt8) : digV (l ++ [c]) = digV l * 10 + (c.toNat - 48) := by
  unfold digV
  rw [List.foldl_append]
  rfl
theorem digV_lt (s : Bs) (h : allDig s = true) : digV s < 10 ^ s.length := by
  rcases snoc_cases s with rfl | ⟨l, c, rfl⟩
  · decide
  · unfold allDig at h
    rw [List.all_append, Bool.and_eq_true] at h
    have ih := digV_lt l h.1
    have hc := h.2
    simp only [List.all_cons, List.all_nil, Bool.and_true, digC, Bool.and_eq_true, decide_eq_true_eq] at hc
    rw [digV_snoc, List.length_append, List.length_singleton, Nat.pow_succ]
    omega
termination_by s.length
decreasing_by all_goals (subst_vars; simp)
theorem Atoi_eq (N : Nat) (s : Bs) (h0 : s ≠ []) (h5 : s.length ≤ 5) (hd : allDig s = true) (hN : 10 < N) : strconv_Atoi_ (Ev.upto N) ((s, ()), ()) = some ((((digV s : Nat) : Int), (false, ())), ()) := by
  have dig : ∀ (i : Nat) (h : i < s.length), 48 ≤ s[i].toNat ∧ s[i].toNat ≤ 57 := fun i h => by
    have := List.all_eq_true.1 hd s[i] (List.getElem_mem h)
    simpa [digC] using this
  have hl : 0 < s.length := List.length_pos_iff.2 h0
  have d0 := dig 0 hl
  have i0 : idx s (0 : Int) = some s[0] := idx_nat (i := 0) hl
  have e45 : (((s[0].toNat : Nat) : Int) == 45) = false := by rw [beq_eq_false_iff_ne]; omega
  have e43 : (((s[0].toNat : Nat) : Int) == 43) = false := by rw [beq_eq_false_iff_ne]; omega
  have key : wp (istrconv_Atoi_ (Ev.upto N) ((s, ()), ())) (fun r => r = ((((digV s : Nat) : Int), ((none : Option Int), ())), ())) := by
    unfold istrconv_Atoi_
    have c1 : decide ((0 : Int) < (s.length : Int)) = true := decide_eq_true (by omega)
    have c2 : decide ((s.length : Int) < (19 : Int)) = true := decide_eq_true (by omega)
    simp -implicitDefEqProofs only [c1, c2, beq_self_eq_true, cond_true, cond_false, Option.bind_some, i0, e45, e43]
    refine wp_bind ?_
    have hol : (ofBs s).length = s.length := ofBs_length s
    refine wp_for (σ := Unit) (fun i _ => ((s, (((digV (s.take i) : Nat) : Int), (((ofBs s).length : Int), ((i : Int), ())))), (ofBs s, ()))) (fun _ _ => True) s.length () rfl trivial (by omega) ?_
    rintro i _ hi _
    by_cases hi' : i < s.length
    · have c0 : decide ((i : Int) < ((ofBs s).length : Int)) = true := decide_eq_true (by omega)
      have c3 : (decide (0 ≤ (i : Int)) && decide ((i : Int) < ((ofBs s).length : Int))) = true := by rw [c0, decide_eq_true (by omega)]; rfl
      have g : (ofBs s)[((i : Int)).toNat]? = some ((s[i].toNat : Nat) : Int) := by
        rw [Int.toNat_natCast, List.getElem?_eq_getElem (by omega), ofBs_gel hi']
      have hdi := dig i hi'
      have w8 : IntKind.wrap .u8 (((s[i].toNat : Nat) : Int) - 48) = ((s[i].toNat - 48 : Nat) : Int) := by rw [wrapu8 (by omega) (by omega)]; omega
      have c9 : decide (((s[i].toNat - 48 : Nat) : Int) > 9) = false := decide_eq_false (by omega)
      have hlt : digV (s.take i) < 100000 := by
        have ha : allDig (s.take i) = true := List.all_eq_true.2 (fun x hx => List.all_eq_true.1 hd x (List.mem_of_mem_take hx))
        have := digV_lt _ ha
        have h2 : (s.take i).length ≤ 5 := by simp; omega
        have h3 : 10 ^ (s.take i).length ≤ 10 ^ 5 := Nat.pow_le_pow_right (by decide) h2
        omega
      have w1 : IntKind.wrap .i64 (((digV (s.take i) : Nat) : Int) * 10) = ((digV (s.take i) * 10 : Nat) : Int) := by rw [wrap64 (by omega) (by omega)]; omega
      have w2 : IntKind.wrap .i64 ((s[i].toNat - 48 : Nat) : Int) = ((s[i].toNat - 48 : Nat) : Int) := wrap64 (by omega) (by omega)
      have w3 : IntKind.wrap .i64 (((digV (s.take i) * 10 : Nat) : Int) + ((s[i].toNat - 48 : Nat) : Int)) = ((digV (s.take (i + 1)) : Nat) : Int) := by
        rw [List.take_succ_eq_append_getElem hi', digV_snoc, wrap64 (by omega) (by omega)]; omega
      have w4 : IntKind.wrap .i64 ((i : Int) + 1) = ((i + 1 : Nat) : Int) := by rw [wrap64 (by omega) (by omega)]; omega
      simp -implicitDefEqProofs only [c0, c3, cond_true, cond_false, g, Option.bind_some, w8, c9, w1, w2, w3, w4]
      exact ⟨_, rfl, hi', (), rfl, trivial⟩
    · have c0 : decide ((i : Int) < ((ofBs s).length : Int)) = false := decide_eq_false (by omega)
      simp -implicitDefEqProofs only [c0, cond_false]
      refine ⟨_, rfl, ?_⟩
      have ht : s.take i = s := List.take_of_length_le (by omega)
      simp -implicitDefEqProofs only [i0, Option.bind_some, e45, cond_false, ht]
      exact ⟨_, rfl, rfl⟩
  unfold strconv_Atoi_
  obtain ⟨_, e, rfl⟩ := key
  simp -implicitDefEqProofs only []
  rw [e]
  rfl
def portS (n : Bs) : Option Int := if n = [42] then some (-1) else if n ≠ [] ∧ n.length ≤ 5 ∧ allDig n = true ∧ 0 < digV n then some ((digV n : Nat) : Int) else none
abbrev Cut := Src × Bs
def withP (c : Cut) (p : Int) : Cut := ((c.1.1, (c.1.2.1, (c.1.2.2.1, (c.1.2.2.2.1, (c.1.2.2.2.2.1, (p, c.1.2.2.2.2.2.2)))))), c.2)
theorem port_eq (N : Nat) (n : Bs) (c : Cut) (hN : 10 < N) : wp (source_cutter_port_456 (Ev.upto N) ((n, ()), ((c, ()), ()))) (fun o => ∃ b c', o = ((b, ()), ((c', ()), ())) ∧ match portS n with | some p => b = true ∧ c' = withP c p | none => b = false) := by
  unfold source_cutter_port_456 portS
  by_cases h42 : n = [42]
  · subst h42
    exact ⟨_, rfl, true, _, rfl, by rw [if_pos rfl]; exact ⟨rfl, rfl⟩⟩
  · have c42 : (n == ([42] : Bs)) = false := by simpa using h42
    obtain ⟨x, qx, hx⟩ := trim_dig (Ev.upto N) n
    rw [if_neg h42]
    simp -implicitDefEqProofs only [c42, cond_false]
    by_cases h0 : n = []
    · subst h0
      exact ⟨_, rfl, false, c, rfl, by rw [if_neg (by simp)]⟩
    · have c0 : (n == ([] : Bs)) = false := by simpa using h0
      by_cases h5 : (n.length : Int) > 5
      · rw [c0, decide_eq_true h5]
        exact ⟨_, rfl, false, c, rfl, by rw [if_neg (by omega)]⟩
      · rw [c0, decide_eq_false h5]
        simp -implicitDefEqProofs only [beq_self_eq_true, cond_true, qx, Option.bind_some, hx]
        cases hd : allDig n with
        | false =>
          simp -implicitDefEqProofs only [Bool.not_false, cond_true]
          exact ⟨_, rfl, false, c, rfl, by rw [if_neg (by simp)]⟩
        | true =>
          have qa := Atoi_eq N n h0 (by omega) hd hN
          simp -implicitDefEqProofs only [Bool.not_true, cond_false, qa, Option.bind_some]
          by_cases hp : 0 < digV n
          · have e : decide (((digV n : Nat) : Int) > 0) = true := decide_eq_true (by omega)
            rw [if_pos ⟨h0, by omega, by trivial, hp⟩]
            exact ⟨_, rfl, true, withP c ((digV n : Nat) : Int), by rw [e]; rfl, rfl, rfl⟩
          · have e : decide (((digV n : Nat) : Int) > 0) = false := decide_eq_false (by omega)
            rw [if_neg (by omega)]
            exact ⟨_, rfl, false, withP c ((digV n : Nat) : Int), by rw [e]; rfl, rfl⟩
/-! ### A host's word -/
def notSl (c : UInt8) : Bool := !(c == 47)
def schR (w : Bs) : Option (Bs × Bs) := match findB w [58, 47, 47] with
  | some k => if k = 0 then none else some (lowerB (w.take k), w.drop (k + 3))
  | none => some ([], w)
def numR (f : Bs) : Bs × Option Int := match findB f [58] with
  | some k => (f.take k, portS (f.drop (k + 1)))
  | none => (f, some 0)
def starR (n : Bs) : Option (Bool × Bs) :=
  if n = [42] then some (true, []) else if (lowerB n).take 2 = [42, 46] then (if (lowerB n).drop 2 = [] then none else some (true, (lowerB n).drop 2)) else some (false, lowerB n)
def hostR (sc r : Bs) : Option Src := match (numR (r.takeWhile notSl)).2 with
  | none => none
  | some p => match starR (numR (r.takeWhile notSl)).1 with
    | none => none
    | some x => some (12, (([] : Bs), (sc, (x.2, (x.1, (p, r.dropWhile notSl))))))
def hostP (w : Bs) : Option Src := match schR w with
  | none => none
  | some x => hostR x.1 x.2
def zS : Src := ((0 : Int), (([] : Bs), (([] : Bs), (([] : Bs), (false, ((0 : Int), ([] : Bs)))))))
theorem split47 (r : Bs) : (Lib.indexByte r 47 < 0 ∧ r.takeWhile notSl = r ∧ r.dropWhile notSl = []) ∨ ∃ x y, r = x ++ 47 :: y ∧ Lib.indexByte r 47 = (x.length : Int) ∧ r.takeWhile notSl = x ∧ r.dropWhile notSl = 47 :: y := by
  by_cases h : (47 : UInt8) ∈ r
  · obtain ⟨x, y, e, hx, hi⟩ := indexByte_split r 47 h
    right
    have ha : ∀ c ∈ x, notSl c = true := fun c hc => by
      unfold notSl
      have : ¬ c = 47 := fun e => hx (e ▸ hc)
      simpa using this
    refine ⟨x, y, e, hi, ?_, ?_⟩
    · rw [e, List.takeWhile_append_of_pos ha, List.takeWhile_cons, if_neg (by decide), List.append_nil]
    · rw [e, List.dropWhile_append_of_pos ha, List.dropWhile_cons, if_neg (by decide)]
  · left
    have ha : ∀ c ∈ r, notSl c = true := fun c hc => by
      unfold notSl
      have : ¬ c = 47 := fun e => h (e ▸ hc)
      simpa using this
    have := (indexByte_neg r 47).2 h
    refine ⟨this, ?_, dw_nil.2 ha⟩
    have e := List.takeWhile_append_of_pos (l₂ := []) ha
    simpa using e
theorem host_tail (N : Nat) (sc r : Bs) (R : Src × Bs) (hR : R = (((12 : Int), (([] : Bs), (sc, (([] : Bs), (false, ((0 : Int), ([] : Bs))))))), r)) (hr : r.length ≤ 1000) (hN : 2000 < N) :
    wp ((strings_IndexByte_ (Ev.upto N) ((R.2, ((47 : Int), ())), ())).bind fun v6 => ((bif decide (v6.1.1 ≥ (0 : Int)) then ((sl R.2 (0 : Int) v6.1.1).bind fun v7 => ((sl R.2 v6.1.1 ((R.2).length : Int)).bind fun v8 => (some ((), ((((R.1.1, (R.1.2.1, (R.1.2.2.1, (R.1.2.2.2.1, (R.1.2.2.2.2.1, (R.1.2.2.2.2.2.1, v8)))))), v7), ()), ()))))) else (some ((), ((R, ()), ()))) : Option (Unit × ((Cut × Unit) × Unit))).bind fun o9 => ((strings_Cut_ (Ev.upto N) ((o9.2.1.1.2, (([58] : Bs), ())), ())).bind fun v10 => ((bif (v10.1.2.2.1 == true) then ((source_cutter_port_456 (Ev.upto N) ((v10.1.2.1, ()), ((o9.2.1.1, ()), ()))).bind fun v11 => (some ((v10.1.1, ((!v11.1.1), ())), ((v11.2.1.1, ()), ())))) else (some ((v10.1.1, (false, ())), ((o9.2.1.1, ()), ()))) : Option ((Bs × Bool × Unit) × ((Cut × Unit) × Unit))).bind fun o12 => (bif o12.1.2.1 then (some ((false, ()), ((o12.2.1.1, ()), ()))) else ((fold_Lower_ (Ev.upto N) ((o12.1.1, ()), ())).bind fun v13 => ((bif (o12.1.1 == ([42] : Bs)) then (some ((), ((((o12.2.1.1.1.1, (o12.2.1.1.1.2.1, (o12.2.1.1.1.2.2.1, (([] : Bs), (true, o12.2.1.1.1.2.2.2.2.2))))), o12.2.1.1.2), ()), ()))) else (some ((), ((((o12.2.1.1.1.1, (o12.2.1.1.1.2.1, (o12.2.1.1.1.2.2.1, (v13.1.1, o12.2.1.1.1.2.2.2.2)))), o12.2.1.1.2), ()), ()))) : Option (Unit × ((Cut × Unit) × Unit))).bind fun o14 => ((strings_CutPrefix_ (Ev.upto N) ((o14.2.1.1.1.2.2.2.1, (([42, 46] : Bs), ())), ())).bind fun v15 => (bif v15.1.2.1 then (some (((!(v15.1.1 == ([] : Bs))), ()), ((((o14.2.1.1.1.1, (o14.2.1.1.1.2.1, (o14.2.1.1.1.2.2.1, (v15.1.1, (true, o14.2.1.1.1.2.2.2.2.2))))), o14.2.1.1.2), ()), ()))) else (some ((true, ()), ((o14.2.1.1, ()), ()))) : Option ((Bool × Unit) × ((Cut × Unit) × Unit)))))))))))
      (fun o => ∃ b c', o = ((b, ()), (((c' : Cut), ()), ())) ∧ match hostR sc r with | some s => b = true ∧ c'.1 = s | none => b = false) := by
  subst hR
  have qi := IB_eq (Ev.upto N) r 47
  rw [show (((47 : UInt8).toNat : Nat) : Int) = 47 from rfl] at qi
  simp -implicitDefEqProofs only [qi, Option.bind_some]
  generalize hf : r.takeWhile notSl = f at *
  generalize hp : r.dropWhile notSl = pa at *
  have first : wp (bif decide (Lib.indexByte r 47 ≥ (0 : Int)) then ((sl r (0 : Int) (Lib.indexByte r 47)).bind fun v7 => ((sl r (Lib.indexByte r 47) ((r).length : Int)).bind fun v8 => (some ((), (((((12 : Int), (([] : Bs), (sc, (([] : Bs), (false, ((0 : Int), v8)))))), v7), ()), ()))))) else (some ((), (((((12 : Int), (([] : Bs), (sc, (([] : Bs), (false, ((0 : Int), ([] : Bs))))))), r), ()), ()))) : Option (Unit × ((Cut × Unit) × Unit))) (fun o => o = ((), (((((12 : Int), (([] : Bs), (sc, (([] : Bs), (false, ((0 : Int), pa)))))), f), ()), ()))) ∧ f.length ≤ 1000 := by
    rcases split47 r with ⟨h1, h2, h3⟩ | ⟨x, y, e, h1, h2, h3⟩
    · rw [decide_eq_false (by omega)]
      rw [hf] at h2; rw [hp] at h3; subst h2; subst h3
      exact ⟨⟨_, rfl, rfl⟩, hr⟩
    · rw [h1, decide_eq_true (by omega)]
      rw [hf] at h2; rw [hp] at h3
      have s1 : sl r (0 : Int) (x.length : Int) = some x := by
        have := sl_nat (l := r) (a := 0) (b := x.length) (by omega) (by rw [e]; simp)
        rw [List.drop_zero] at this
        rw [show (0 : Int) = ((0 : Nat) : Int) from rfl, this, e, List.take_left]
      have s2 : sl r (x.length : Int) (r.length : Int) = some (47 :: y) := by
        rw [sl_end (by rw [e]; simp)]
        conv => lhs; rw [e]
        rw [List.drop_left]
      refine ⟨?_, by have h9 := congrArg List.length e; rw [List.length_append, List.length_cons] at h9; rw [h2]; omega⟩
      simp -implicitDefEqProofs only [cond_true, s1, s2, Option.bind_some, h2, h3]
      exact ⟨_, rfl, rfl⟩
  obtain ⟨⟨_, e1, rfl⟩, hfl⟩ := first
  rw [e1]
  have qc := Cut_eq (Ev.upto N) f [58] (by omega)
  simp -implicitDefEqProofs only [qc, Option.bind_some]
  unfold hostR
  rw [hf, hp]
  -- behind the port
  have fin : ∀ (name : Bs) (p : Int), name.length ≤ 1000 → wp ((fold_Lower_ (Ev.upto N) ((name, ()), ())).bind fun v13 => ((bif (name == ([42] : Bs)) then (some ((), (((((12 : Int), (([] : Bs), (sc, (([] : Bs), (true, (p, pa)))))), f), ()), ()))) else (some ((), (((((12 : Int), (([] : Bs), (sc, (v13.1.1, (false, (p, pa)))))), f), ()), ()))) : Option (Unit × ((Cut × Unit) × Unit))).bind fun o14 => ((strings_CutPrefix_ (Ev.upto N) ((o14.2.1.1.1.2.2.2.1, (([42, 46] : Bs), ())), ())).bind fun v15 => (bif v15.1.2.1 then (some (((!(v15.1.1 == ([] : Bs))), ()), ((((o14.2.1.1.1.1, (o14.2.1.1.1.2.1, (o14.2.1.1.1.2.2.1, (v15.1.1, (true, o14.2.1.1.1.2.2.2.2.2))))), o14.2.1.1.2), ()), ()))) else (some ((true, ()), ((o14.2.1.1, ()), ()))) : Option ((Bool × Unit) × ((Cut × Unit) × Unit))))))
      (fun o => ∃ b c', o = ((b, ()), (((c' : Cut), ()), ())) ∧ match (match starR name with | none => none | some x => some ((12 : Int), (([] : Bs), (sc, (x.2, (x.1, (p, pa)))))) : Option Src) with | some s => b = true ∧ c'.1 = s | none => b = false) := by
    intro name p hn
    have ql := lower_eq N name (by omega) (by omega)
    simp -implicitDefEqProofs only [ql, Option.bind_some]
    unfold starR
    by_cases h42 : name = [42]
    · subst h42
      have qp := CP_eq (Ev.upto N) ([] : Bs) [42, 46] (by simp) (by simp)
      rw [if_pos rfl]
      simp -implicitDefEqProofs only [beq_self_eq_true, cond_true, Option.bind_some, qp]
      exact ⟨_, rfl, true, _, rfl, rfl, rfl⟩
    · have c42 : (name == ([42] : Bs)) = false := by simpa using h42
      have qp := CP_eq (Ev.upto N) (lowerB name) [42, 46] (by rw [lowerB_length]; omega) (by simp)
      rw [if_neg h42]
      simp -implicitDefEqProofs only [c42, cond_false, Option.bind_some, qp]
      rw [show ([42, 46] : Bs).length = 2 from rfl]
      by_cases h2 : (lowerB name).take 2 = [42, 46]
      · rw [if_pos h2, show ((lowerB name).take 2 == ([42, 46] : Bs)) = true from by simpa using h2]
        by_cases h3 : (lowerB name).drop 2 = []
        · rw [if_pos h3, h3]
          exact ⟨_, rfl, false, _, rfl, rfl⟩
        · rw [if_neg h3]
          refine ⟨_, rfl, _, _, rfl, ?_⟩
          have : ((lowerB name).drop 2 == ([] : Bs)) = false := by simpa using h3
          exact ⟨by simp only [cond_true, this]; rfl, rfl⟩
      · rw [if_neg h2, show ((lowerB name).take 2 == ([42, 46] : Bs)) = false from by simpa using h2]
        exact ⟨_, rfl, true, _, rfl, rfl, rfl⟩
  unfold numR
  cases hc : findB f [58] with
  | none =>
    simp -implicitDefEqProofs only [show (false == true) = false from rfl, cond_false, Option.bind_some]
    exact fin f 0 hfl
  | some k =>
    simp -implicitDefEqProofs only [beq_self_eq_true, cond_true]
    rw [show ([58] : Bs).length = 1 from rfl]
    obtain ⟨o, e, b, c', rfl, hb⟩ := port_eq N (f.drop (k + 1)) (((12 : Int), (([] : Bs), (sc, (([] : Bs), (false, ((0 : Int), pa)))))), f) (by omega)
    rw [e]
    simp -implicitDefEqProofs only [Option.bind_some]
    cases hps : portS (f.drop (k + 1)) with
    | none =>
      rw [hps] at hb
      have hb : b = false := hb
      subst hb
      exact ⟨_, rfl, false, _, rfl, rfl⟩
    | some p =>
      rw [hps] at hb
      obtain ⟨rfl, rfl⟩ := hb
      simp -implicitDefEqProofs only [Bool.not_true, cond_false]
      exact fin (f.take k) p (by simp; omega)
theorem host_word (N : Nat) (w : Bs) (hw : w.length ≤ 1000) (hN : 2000 < N) : wp (source_cutter_host_2b7 (Ev.upto N) ((), (((zS, w), ()), ()))) (fun o => ∃ b c', o = ((b, ()), (((c' : Cut), ()), ())) ∧ match hostP w with | some s => b = true ∧ c'.1 = s | none => b = false) := by
  unfold source_cutter_host_2b7 hostP schR
  have qc := Cut_eq (Ev.upto N) w [58, 47, 47] (by omega)
  simp -implicitDefEqProofs only [qc, Option.bind_some]
  cases hf : findB w [58, 47, 47] with
  | none =>
    simp -implicitDefEqProofs only [cond_false, Option.bind_some]
    exact host_tail N [] w _ rfl hw hN
  | some k =>
    have hk := (findB_some _ _ _ hf).1
    have ql := lower_eq N (w.take k) (by simp; omega) (by simp; omega)
    simp -implicitDefEqProofs only [cond_true, ql, Option.bind_some]
    rw [show ([58, 47, 47] : Bs).length = 3 from rfl]
    by_cases h0 : k = 0
    · subst h0
      rw [if_pos rfl]
      exact ⟨_, rfl, false, _, rfl, rfl⟩
    · have hne : (w.take k == ([] : Bs)) = false := by
        cases w with
        | nil => simp at hk
        | cons c r =>
          cases k with
          | zero => exact absurd rfl h0
          | succ k => rfl
      rw [if_neg h0, hne]
      simp -implicitDefEqProofs only [cond_false, Option.bind_some]
      exact host_tail N (lowerB (w.take k)) (w.drop (k + 3)) _ rfl (by simp; omega) hN
end Go.En.Pl
