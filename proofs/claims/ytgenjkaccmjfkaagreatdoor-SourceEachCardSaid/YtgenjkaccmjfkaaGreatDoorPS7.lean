/- Text PS7 of this seat: written by a program of ours, or by hand; checked by Lean. -/
import Derived.Test.YtgenjkaccmjfkaaGreatDoorPS6
set_option linter.unusedSimpArgs false
set_option linter.unusedVariables false
namespace Go.En.Pl
/-! ### base: what is encoded -/
theorem it_k3 {α β : Type} {f : α → Option (α ⊕ β)} {a0 a1 a2 a3 : α} {z : β} {N : Nat} (h0 : f a0 = some (.inl a1)) (h1 : f a1 = some (.inl a2)) (h2 : f a2 = some (.inl a3)) (h3 : f a3 = some (.inr z)) (hN : 10 < N) : (Ev.upto N).it f a0 = some z := by
  obtain ⟨n, rfl⟩ : ∃ n, N = n + 4 := ⟨N - 4, by omega⟩
  rw [upto_it]
  simp only [iterN, h0, h1, h2, h3, Option.bind_some]
theorem it_k4 {α β : Type} {f : α → Option (α ⊕ β)} {a0 a1 a2 a3 a4 : α} {z : β} {N : Nat} (h0 : f a0 = some (.inl a1)) (h1 : f a1 = some (.inl a2)) (h2 : f a2 = some (.inl a3)) (h3 : f a3 = some (.inl a4)) (h4 : f a4 = some (.inr z)) (hN : 10 < N) : (Ev.upto N).it f a0 = some z := by
  obtain ⟨n, rfl⟩ : ∃ n, N = n + 5 := ⟨N - 5, by omega⟩
  rw [upto_it]
  simp only [iterN, h0, h1, h2, h3, h4, Option.bind_some]
theorem WS_eq (V : Ev) (x b : Bs) (h : b.length + x.length ≤ 100000000) : strings_Builder_WriteString_cc3 V ((x, ()), ((), (ofBs b, ()))) = some ((((x.length : Int)), (false, ())), ((), ((ofBs (b ++ x), ())))) := by
  unfold strings_Builder_WriteString_cc3 strings_Builder_copyCheck_20a
  simp only [Option.bind_some, fits_of (show ((ofBs b).length + x.length) * 1 ≤ 100000000 by rw [ofBs_length]; omega), cond_true, ofBs_append]
theorem WSd_eq (V : Ev) (x b : Bs) (h : b.length + x.length ≤ 100000000) : strings_Builder_WriteString_d1d V ((x, ()), ((), (ofBs b, ()))) = some ((((x.length : Int)), (false, ())), ((), ((ofBs (b ++ x), ())))) := by
  unfold strings_Builder_WriteString_d1d strings_Builder_copyCheck_476
  simp only [Option.bind_some, fits_of (show ((ofBs b).length + x.length) * 1 ≤ 100000000 by rw [ofBs_length]; omega), cond_true, ofBs_append]
theorem WB_eq (V : Ev) (c : UInt8) (b : Bs) (h : b.length ≤ 10000000) : strings_Builder_WriteByte_a04 V ((((c.toNat : Nat) : Int), ()), ((), (ofBs b, ()))) = some ((false, ()), ((), ((ofBs (b ++ [c]), ())))) := by
  unfold strings_Builder_WriteByte_a04 strings_Builder_copyCheck_20a
  simp only [Option.bind_some, fits_of (show ((ofBs b).length + ([((c.toNat : Nat) : Int)] : List Int).length) * 1 ≤ 100000000 by rw [ofBs_length]; simp; omega), cond_true]
  rw [← ofBs_append]
  rfl
theorem BS_eq (V : Ev) (b : Bs) : strings_Builder_String_20a V ((), ((), (ofBs b, ()))) = some ((b, ()), ((), ())) := by
  unfold strings_Builder_String_20a
  simp only [beq_self_eq_true, cond_true, toBs_ofBs]
def signs : Bs := [65, 66, 67, 68, 69, 70, 71, 72, 73, 74, 75, 76, 77, 78, 79, 80, 81, 82, 83, 84, 85, 86, 87, 88, 89, 90, 97, 98, 99, 100, 101, 102, 103, 104, 105, 106, 107, 108, 109, 110, 111, 112, 113, 114, 115, 116, 117, 118, 119, 120, 121, 122, 48, 49, 50, 51, 52, 53, 54, 55, 56, 57, 43, 47]
def sgn (n : Nat) : UInt8 := (signs[n]?).getD 0
theorem sgn_idx (n : Nat) (h : n < 64) : idx signs (n : Int) = some (sgn n) := by
  have hl : n < signs.length := h
  rw [idx_nat hl]
  unfold sgn
  rw [List.getElem?_eq_getElem hl]
  rfl
theorem orL (x c : Nat) (hx : x < 1000000000) (hc : c < 256) : IntKind.wrap .i64 ((BitVec.toNat (BitVec.ofInt 64 (IntKind.wrap .i64 ((x : Int) * 2 ^ (min (Int.toNat (8 : Int)) 64))) ||| BitVec.ofInt 64 (IntKind.wrap .i64 ((c : Nat) : Int))) : Nat) : Int) = ((x * 256 + c : Nat) : Int) := by
  have e : (x : Int) * 2 ^ (min (Int.toNat (8 : Int)) 64) = ((x * 256 : Nat) : Int) := by
    rw [show min (Int.toNat (8 : Int)) 64 = 8 from rfl]; omega
  rw [e, wrap64 (n := ((x * 256 : Nat) : Int)) (by omega) (by omega), wrap64 (n := (c : Int)) (by omega) (by omega), BitVec.ofInt_natCast, BitVec.ofInt_natCast, BitVec.toNat_or, BitVec.toNat_ofNat, BitVec.toNat_ofNat, Nat.mod_eq_of_lt (by omega), Nat.mod_eq_of_lt (by omega)]
  have h8 := Nat.shiftLeft_add_eq_or_of_lt (i := 8) (b := c) hc x
  rw [Nat.shiftLeft_eq] at h8
  rw [show x * 256 = x * 2 ^ 8 from rfl, ← h8]
  exact wrap64 (by omega) (by omega)
theorem shL (x : Nat) (hx : x < 1000000000) : IntKind.wrap .i64 ((x : Int) * 2 ^ (min (Int.toNat (8 : Int)) 64)) = ((x * 256 : Nat) : Int) := by
  have e : (x : Int) * 2 ^ (min (Int.toNat (8 : Int)) 64) = ((x * 256 : Nat) : Int) := by
    rw [show min (Int.toNat (8 : Int)) 64 = 8 from rfl]; omega
  rw [e, wrap64 (by omega) (by omega)]
theorem fdivL (n k : Nat) : Int.fdiv (n : Int) ((2 : Int) ^ k) = ((n / 2 ^ k : Nat) : Int) := by
  rw [show ((2 : Int) ^ k) = ((2 ^ k : Nat) : Int) by simp]
  rw [Int.fdiv_eq_ediv_of_nonneg _ (Int.natCast_nonneg _)]
  rfl
theorem andL (m : Nat) (hm : m < 1000000000) : IntKind.wrap .i64 ((BitVec.toNat (BitVec.ofInt 64 (m : Int) &&& BitVec.ofInt 64 (63 : Int)) : Nat) : Int) = ((m % 64 : Nat) : Int) := by
  rw [BitVec.ofInt_natCast, show (BitVec.ofInt 64 (63 : Int)) = BitVec.ofNat 64 63 from rfl, BitVec.toNat_and, BitVec.toNat_ofNat, BitVec.toNat_ofNat, Nat.mod_eq_of_lt (show m < 2 ^ 64 by omega), show (63 % 2 ^ 64 : Nat) = 2 ^ 6 - 1 from rfl, Nat.and_two_pow_sub_one_eq_mod]
  exact wrap64 (by omega) (by omega)
def n3 (a b c : UInt8) : Nat := (a.toNat * 256 + b.toNat) * 256 + c.toNat
def enc4 (n : Nat) : Bs := [sgn (n / 2 ^ 18 % 64), sgn (n / 2 ^ 12 % 64), sgn (n / 2 ^ 6 % 64), sgn (n / 2 ^ 0 % 64)]
def encW : Bs → Bs
  | a :: b :: c :: r => enc4 (n3 a b c) ++ encW r
  | [a, b] => (enc4 (n3 a b 0)).take 3 ++ [61]
  | [a] => (enc4 (n3 a 0 0)).take 2 ++ [61, 61]
  | [] => []
theorem Encode_eq (N : Nat) (s : Bs) (hs : s.length ≤ 1000) (h1 : s.length % 3 = 1) (hN : 2000 < N) : base_Encode_ (Ev.upto N) ((s, ()), ()) = some ((encW s, ()), ()) := by
  apply wp_eq
  unfold base_Encode_
  refine wp_bind ?_
  refine wp_it (fun a => ∃ (x b : Bs), a = ((x, ()), ((), (ofBs b, ()))) ∧ b ++ encW x = encW s ∧ x.length ≤ s.length ∧ b.length + 4 * x.length ≤ 4 * s.length + 4 ∧ (x.length % 3 = 1 ∨ x = [])) (fun a => a.1.1.length) ⟨s, [], rfl, rfl, Nat.le_refl _, by simp, Or.inl h1⟩ (by show s.length < N; omega) ?_
  rintro _ ⟨x, b, rfl, hb, hx, hbl, hm⟩
  have e18 : IntKind.wrap .i64 ((18 : Int) - (IntKind.wrap .i64 ((6 : Int) * 0))) = 18 := by decide
  have e12 : IntKind.wrap .i64 ((18 : Int) - (IntKind.wrap .i64 ((6 : Int) * 1))) = 12 := by decide
  have e6 : IntKind.wrap .i64 ((18 : Int) - (IntKind.wrap .i64 ((6 : Int) * 2))) = 6 := by decide
  have e0 : IntKind.wrap .i64 ((18 : Int) - (IntKind.wrap .i64 ((6 : Int) * 3))) = 0 := by decide
  have w01 : IntKind.wrap .i64 ((0 : Int) + 1) = 1 := by decide
  have w12 : IntKind.wrap .i64 ((1 : Int) + 1) = 2 := by decide
  have w23 : IntKind.wrap .i64 ((2 : Int) + 1) = 3 := by decide
  have w34 : IntKind.wrap .i64 ((3 : Int) + 1) = 4 := by decide
  have m18 : min (Int.toNat (18 : Int)) 64 = 18 := rfl
  have m12 : min (Int.toNat (12 : Int)) 64 = 12 := rfl
  have m6 : min (Int.toNat (6 : Int)) 64 = 6 := rfl
  have m0 : min (Int.toNat (0 : Int)) 64 = 0 := rfl
  have rg : ∀ (n k : Nat), n < 1000000000 → rngB .i64 ((n / 2 ^ k : Nat) : Int) = true := fun n k h => by
    have := Nat.div_le_self n (2 ^ k)
    generalize n / 2 ^ k = m at *
    rw [rngB, Bool.and_eq_true, decide_eq_true_eq, decide_eq_true_eq, show IntKind.i64.min = -9223372036854775808 from rfl, show IntKind.i64.max = 9223372036854775807 from rfl]
    omega
  have sg : ∀ (n k : Nat), n < 1000000000 → idx signs (IntKind.wrap .i64 ((BitVec.toNat (BitVec.ofInt 64 ((n / 2 ^ k : Nat) : Int) &&& BitVec.ofInt 64 (63 : Int)) : Nat) : Int)) = some (sgn (n / 2 ^ k % 64)) := fun n k h => by
    have := Nat.div_le_self n (2 ^ k)
    rw [andL _ (by omega)]
    exact sgn_idx _ (Nat.mod_lt _ (by decide))
  match x, hb, hx, hbl, hm with
  | [], hb, hx, hbl, hm =>
    have q := BS_eq (Ev.upto N) b
    refine ⟨_, rfl, ?_⟩
    simp -implicitDefEqProofs only [q, Option.bind_some]
    rw [encW, List.append_nil] at hb
    rw [hb]
    exact ⟨_, rfl, rfl⟩
  | [a], hb, hx, hbl, hm =>
    have c0 : decide (((([a] : Bs).length : Nat) : Int) > 0) = true := rfl
    have l0 : decide ((0 : Int) < ((([a] : Bs).length : Nat) : Int)) = true := rfl
    have l1 : decide ((1 : Int) < ((([a] : Bs).length : Nat) : Int)) = false := rfl
    have l2 : decide ((2 : Int) < ((([a] : Bs).length : Nat) : Int)) = false := rfl
    have g0 : decide ((0 : Int) > ((([a] : Bs).length : Nat) : Int)) = false := rfl
    have g1 : decide ((1 : Int) > ((([a] : Bs).length : Nat) : Int)) = false := rfl
    have g2 : decide ((2 : Int) > ((([a] : Bs).length : Nat) : Int)) = true := rfl
    have g3 : decide ((3 : Int) > ((([a] : Bs).length : Nat) : Int)) = true := rfl
    have ha := a.toNat_lt
    have o1 := orL 0 a.toNat (by decide) ha
    have o2 := shL (0 * 256 + a.toNat) (by omega)
    have o3 := shL ((0 * 256 + a.toNat) * 256) (by omega)
    have hn3 : ((0 * 256 + a.toNat) * 256) * 256 = n3 a 0 0 := by unfold n3; rw [show (0 : UInt8).toNat = 0 from rfl]; omega
    have hn : n3 a 0 0 < 1000000000 := by rw [← hn3]; omega
    rw [hn3] at o3
    simp -implicitDefEqProofs only [c0, cond_true]
    rw [it_k3 (a1 := (([a], (((0 * 256 + a.toNat : Nat) : Int), (1, ()))), ((), (ofBs b, ())))) (a2 := (([a], ((((0 * 256 + a.toNat) * 256 : Nat) : Int), (2, ()))), ((), (ofBs b, ())))) (a3 := (([a], (((n3 a 0 0 : Nat) : Int), (3, ()))), ((), (ofBs b, ())))) (z := (([a], (((n3 a 0 0 : Nat) : Int), ())), ((), (ofBs b, ()))))
      (by simp -implicitDefEqProofs only [show decide ((0 : Int) < 3) = true from rfl, cond_true, l0, idx_zero, Option.bind_some, w01]; rw [show ((0 : Int)) = ((0 : Nat) : Int) from rfl, o1])
      (by simp -implicitDefEqProofs only [show decide ((1 : Int) < 3) = true from rfl, cond_true, cond_false, l1, Option.bind_some, w12, o2])
      (by simp -implicitDefEqProofs only [show decide ((2 : Int) < 3) = true from rfl, cond_true, cond_false, l2, Option.bind_some, w23, o3])
      (by simp -implicitDefEqProofs only [show decide ((3 : Int) < 3) = false from rfl, cond_false]) (by omega), Option.bind_some]
    generalize hnn : n3 a 0 0 = n at *
    have b1 := WB_eq (Ev.upto N) (sgn (n / 2 ^ 18 % 64)) b (by omega)
    have b2 := WB_eq (Ev.upto N) (sgn (n / 2 ^ 12 % 64)) (b ++ [sgn (n / 2 ^ 18 % 64)]) (by simp; omega)
    have b3 := WB_eq (Ev.upto N) 61 (b ++ [sgn (n / 2 ^ 18 % 64)] ++ [sgn (n / 2 ^ 12 % 64)]) (by simp; omega)
    have b4 := WB_eq (Ev.upto N) 61 (b ++ [sgn (n / 2 ^ 18 % 64)] ++ [sgn (n / 2 ^ 12 % 64)] ++ [61]) (by simp; omega)
    rw [show (((61 : UInt8).toNat : Nat) : Int) = 61 from rfl] at b3 b4
    have s18 := sg n 18 hn; have s12 := sg n 12 hn
    have r18 := rg n 18 hn; have r12 := rg n 12 hn
    unfold signs at s18 s12
    rw [it_k4 (a1 := (([a], ((n : Int), (1, ()))), ((), (ofBs (b ++ [sgn (n / 2 ^ 18 % 64)]), ())))) (a2 := (([a], ((n : Int), (2, ()))), ((), (ofBs (b ++ [sgn (n / 2 ^ 18 % 64)] ++ [sgn (n / 2 ^ 12 % 64)]), ())))) (a3 := (([a], ((n : Int), (3, ()))), ((), (ofBs (b ++ [sgn (n / 2 ^ 18 % 64)] ++ [sgn (n / 2 ^ 12 % 64)] ++ [61]), ())))) (a4 := (([a], ((n : Int), (4, ()))), ((), (ofBs (b ++ [sgn (n / 2 ^ 18 % 64)] ++ [sgn (n / 2 ^ 12 % 64)] ++ [61] ++ [61]), ()))))
      (z := (([a], ()), ((), (ofBs (b ++ [sgn (n / 2 ^ 18 % 64)] ++ [sgn (n / 2 ^ 12 % 64)] ++ [61] ++ [61]), ()))))
      (by simp -implicitDefEqProofs only [show decide ((0 : Int) < 4) = true from rfl, g0, cond_true, cond_false, e18, m18, fdivL, r18, s18, b1, Option.bind_some, w01, show decide ((0 : Int) ≤ 18) = true from rfl, Bool.and_self])
      (by simp -implicitDefEqProofs only [show decide ((1 : Int) < 4) = true from rfl, g1, cond_true, cond_false, e12, m12, fdivL, r12, s12, b2, Option.bind_some, w12, show decide ((0 : Int) ≤ 12) = true from rfl, Bool.and_self])
      (by simp -implicitDefEqProofs only [show decide ((2 : Int) < 4) = true from rfl, g2, cond_true, cond_false, b3, Option.bind_some, w23])
      (by simp -implicitDefEqProofs only [show decide ((3 : Int) < 4) = true from rfl, g3, cond_true, cond_false, b4, Option.bind_some, w34])
      (by simp -implicitDefEqProofs only [show decide ((4 : Int) < 4) = false from rfl, cond_false]) (by omega), Option.bind_some]
    have hsl : sl [a] (mn (3 : Int) ((([a] : Bs).length : Nat) : Int)) ((([a] : Bs).length : Nat) : Int) = some [] := rfl
    simp -implicitDefEqProofs only [hsl, Option.bind_some]
    refine ⟨_, rfl, ⟨[], _, rfl, ?_, Nat.zero_le _, by simp only [List.length_append, List.length_cons, List.length_nil] at hbl ⊢; omega, Or.inr rfl⟩, by show 0 < _; simp⟩
    rw [← hb, encW, encW]
    simp [enc4, hnn]
  | [a, a2], hb, hx, hbl, hm => exact absurd hm (by simp)
  | a :: a2 :: a3 :: r, hb, hx, hbl, hm =>
    have hl : (a :: a2 :: a3 :: r).length = r.length + 3 := by simp
    have c0 : decide ((((a :: a2 :: a3 :: r).length : Nat) : Int) > 0) = true := decide_eq_true (by rw [hl]; omega)
    have l0 : decide ((0 : Int) < (((a :: a2 :: a3 :: r).length : Nat) : Int)) = true := c0
    have l1 : decide ((1 : Int) < (((a :: a2 :: a3 :: r).length : Nat) : Int)) = true := decide_eq_true (by rw [hl]; omega)
    have l2 : decide ((2 : Int) < (((a :: a2 :: a3 :: r).length : Nat) : Int)) = true := decide_eq_true (by rw [hl]; omega)
    have g : ∀ k : Int, k ≤ 3 → decide (k > (((a :: a2 :: a3 :: r).length : Nat) : Int)) = false := fun k hk => decide_eq_false (by rw [hl]; omega)
    have i1 : idx (a :: a2 :: a3 :: r) (1 : Int) = some a2 := idx_nat (i := 1) (by simp)
    have i2 : idx (a :: a2 :: a3 :: r) (2 : Int) = some a3 := idx_nat (i := 2) (by simp)
    have ha := a.toNat_lt; have ha2 := a2.toNat_lt; have ha3 := a3.toNat_lt
    have o1 := orL 0 a.toNat (by decide) ha
    have o2 := orL (0 * 256 + a.toNat) a2.toNat (by omega) ha2
    have o3 := orL ((0 * 256 + a.toNat) * 256 + a2.toNat) a3.toNat (by omega) ha3
    have hn : n3 a a2 a3 < 1000000000 := by unfold n3; omega
    have hn3 : ((0 * 256 + a.toNat) * 256 + a2.toNat) * 256 + a3.toNat = n3 a a2 a3 := by unfold n3; omega
    rw [hn3] at o3
    simp -implicitDefEqProofs only [c0, cond_true]
    rw [it_k3 (a1 := ((a :: a2 :: a3 :: r, (((0 * 256 + a.toNat : Nat) : Int), (1, ()))), ((), (ofBs b, ())))) (a2 := ((a :: a2 :: a3 :: r, ((((0 * 256 + a.toNat) * 256 + a2.toNat : Nat) : Int), (2, ()))), ((), (ofBs b, ())))) (a3 := ((a :: a2 :: a3 :: r, (((n3 a a2 a3 : Nat) : Int), (3, ()))), ((), (ofBs b, ())))) (z := ((a :: a2 :: a3 :: r, (((n3 a a2 a3 : Nat) : Int), ())), ((), (ofBs b, ()))))
      (by simp -implicitDefEqProofs only [show decide ((0 : Int) < 3) = true from rfl, cond_true, l0, idx_zero, Option.bind_some, w01]; rw [show ((0 : Int)) = ((0 : Nat) : Int) from rfl, o1])
      (by simp -implicitDefEqProofs only [show decide ((1 : Int) < 3) = true from rfl, cond_true, l1, i1, Option.bind_some, w12, o2])
      (by simp -implicitDefEqProofs only [show decide ((2 : Int) < 3) = true from rfl, cond_true, l2, i2, Option.bind_some, w23, o3])
      (by simp -implicitDefEqProofs only [show decide ((3 : Int) < 3) = false from rfl, cond_false]) (by omega), Option.bind_some]
    have hn3' : n3 a a2 a3 = n3 a a2 a3 := rfl
    generalize hnn : n3 a a2 a3 = n at *
    have b1 := WB_eq (Ev.upto N) (sgn (n / 2 ^ 18 % 64)) b (by omega)
    have b2 := WB_eq (Ev.upto N) (sgn (n / 2 ^ 12 % 64)) (b ++ [sgn (n / 2 ^ 18 % 64)]) (by simp; omega)
    have b3 := WB_eq (Ev.upto N) (sgn (n / 2 ^ 6 % 64)) (b ++ [sgn (n / 2 ^ 18 % 64)] ++ [sgn (n / 2 ^ 12 % 64)]) (by simp; omega)
    have b4 := WB_eq (Ev.upto N) (sgn (n / 2 ^ 0 % 64)) (b ++ [sgn (n / 2 ^ 18 % 64)] ++ [sgn (n / 2 ^ 12 % 64)] ++ [sgn (n / 2 ^ 6 % 64)]) (by simp; omega)
    have s18 := sg n 18 hn; have s12 := sg n 12 hn; have s6 := sg n 6 hn; have s0 := sg n 0 hn
    have r18 := rg n 18 hn; have r12 := rg n 12 hn; have r6 := rg n 6 hn; have r0 := rg n 0 hn
    unfold signs at s18 s12 s6 s0
    rw [it_k4 (a1 := ((a :: a2 :: a3 :: r, ((n : Int), (1, ()))), ((), (ofBs (b ++ [sgn (n / 2 ^ 18 % 64)]), ())))) (a2 := ((a :: a2 :: a3 :: r, ((n : Int), (2, ()))), ((), (ofBs (b ++ [sgn (n / 2 ^ 18 % 64)] ++ [sgn (n / 2 ^ 12 % 64)]), ())))) (a3 := ((a :: a2 :: a3 :: r, ((n : Int), (3, ()))), ((), (ofBs (b ++ [sgn (n / 2 ^ 18 % 64)] ++ [sgn (n / 2 ^ 12 % 64)] ++ [sgn (n / 2 ^ 6 % 64)]), ())))) (a4 := ((a :: a2 :: a3 :: r, ((n : Int), (4, ()))), ((), (ofBs (b ++ [sgn (n / 2 ^ 18 % 64)] ++ [sgn (n / 2 ^ 12 % 64)] ++ [sgn (n / 2 ^ 6 % 64)] ++ [sgn (n / 2 ^ 0 % 64)]), ()))))
      (z := ((a :: a2 :: a3 :: r, ()), ((), (ofBs (b ++ [sgn (n / 2 ^ 18 % 64)] ++ [sgn (n / 2 ^ 12 % 64)] ++ [sgn (n / 2 ^ 6 % 64)] ++ [sgn (n / 2 ^ 0 % 64)]), ()))))
      (by simp -implicitDefEqProofs only [show decide ((0 : Int) < 4) = true from rfl, g 0 (by decide), cond_true, cond_false, e18, m18, fdivL, r18, s18, b1, Option.bind_some, w01, show decide ((0 : Int) ≤ 18) = true from rfl, Bool.and_self])
      (by simp -implicitDefEqProofs only [show decide ((1 : Int) < 4) = true from rfl, g 1 (by decide), cond_true, cond_false, e12, m12, fdivL, r12, s12, b2, Option.bind_some, w12, show decide ((0 : Int) ≤ 12) = true from rfl, Bool.and_self])
      (by simp -implicitDefEqProofs only [show decide ((2 : Int) < 4) = true from rfl, g 2 (by decide), cond_true, cond_false, e6, m6, fdivL, r6, s6, b3, Option.bind_some, w23, show decide ((0 : Int) ≤ 6) = true from rfl, Bool.and_self])
      (by simp -implicitDefEqProofs only [show decide ((3 : Int) < 4) = true from rfl, g 3 (by decide), cond_true, cond_false, e0, m0, fdivL, r0, s0, b4, Option.bind_some, w34, show decide ((0 : Int) ≤ 0) = true from rfl, Bool.and_self])
      (by simp -implicitDefEqProofs only [show decide ((4 : Int) < 4) = false from rfl, cond_false]) (by omega), Option.bind_some]
    have hm3 : mn (3 : Int) (((a :: a2 :: a3 :: r).length : Nat) : Int) = ((3 : Nat) : Int) := by unfold mn; rw [if_neg (by rw [hl]; omega)]; rfl
    have hsl : sl (a :: a2 :: a3 :: r) ((3 : Nat) : Int) (((a :: a2 :: a3 :: r).length : Nat) : Int) = some r := by rw [sl_end (by rw [hl]; omega)]; rfl
    simp -implicitDefEqProofs only [hm3, hsl, Option.bind_some]
    refine ⟨_, rfl, ⟨r, _, rfl, ?_, by rw [hl] at hx; omega, by simp only [List.length_append, List.length_cons, List.length_nil] at hbl ⊢; omega, ?_⟩, by show r.length < (a :: a2 :: a3 :: r).length; rw [hl]; omega⟩
    · rw [← hb, encW]
      simp [enc4, hnn]
    · rcases hm with hm | hm
      · left; rw [hl] at hm; omega
      · cases hm
end Go.En.Pl
