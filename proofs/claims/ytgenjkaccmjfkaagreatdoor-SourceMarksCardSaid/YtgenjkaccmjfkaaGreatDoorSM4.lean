/- Text SM4 of this seat: written by a program of ours, or by hand; checked by Lean. -/
import Derived.Test.YtgenjkaccmjfkaaGreatDoorSM3
set_option linter.unusedSimpArgs false
set_option linter.unusedVariables false
namespace Go.En.Pl
/-! ### A text's mark -/
theorem tm_range (x : Int) (h : 0 ≤ x) : 0 ≤ Int.tmod x 1000000007 ∧ Int.tmod x 1000000007 < 1000000007 := by
  rw [Int.tmod_eq_emod_of_nonneg h]
  omega
theorem rng64 {n : Int} (h0 : 0 ≤ n) (h1 : n ≤ 18446744073709551615) : rngB .u64 n = true := by
  simp [rngB, IntKind.min, IntKind.max, IntKind.signed, IntKind.bits]; omega
theorem fdiv_rng (a k : Int) (h0 : 0 ≤ a) (h1 : a ≤ 18446744073709551615) (hk : 1 ≤ k) : rngB .u64 (Int.fdiv a k) = true := by
  rw [Int.fdiv_eq_ediv_of_nonneg _ (by omega)]
  have h2 : 0 ≤ a / k := Int.ediv_nonneg h0 (by omega)
  have h3 : a / k ≤ a := Int.ediv_le_self _ h0
  exact rng64 h2 (by omega)
def stepM (k : Int) (a : Int) (c : UInt8) : Int := Int.tmod (a * k + (c.toNat : Int) + 1) 1000000007
def foldM (k : Int) (a : Int) (s : Bs) : Int := s.foldl (stepM k) a
def q4 (x : Int) : List Int := [x / 16777216 % 256, x / 65536 % 256, x / 256 % 256, x % 256]
def mrk (s : Bs) : Bs := toBs (q4 (foldM 257 7 s) ++ q4 (foldM 65539 11 s) ++ q4 (Int.tmod (foldM 257 7 s * foldM 65539 11 s) 1000000007) ++ q4 (Int.tmod (s.length : Int) 1000000007))
theorem foldM_take {k a : Int} {s : Bs} {i : Nat} (h : i < s.length) : foldM k a (s.take (i + 1)) = stepM k (foldM k a (s.take i)) s[i] := by
  unfold foldM
  rw [List.take_succ_eq_append_getElem h, List.foldl_append]
  rfl
theorem u8lt (c : UInt8) : (c.toNat : Int) ≤ 255 := by have := c.toNat_lt; omega
theorem stepM_rng {k a : Int} {c : UInt8} (ha : 0 ≤ a) (hk : 0 ≤ k) : 0 ≤ stepM k a c ∧ stepM k a c < 1000000007 := by
  have := Int.mul_nonneg ha hk
  exact tm_range _ (by omega)
theorem foldM_rng {k : Int} (hk : 0 ≤ k) (s : Bs) : ∀ a, 0 ≤ a → a < 1000000007 → 0 ≤ foldM k a s ∧ foldM k a s < 1000000007 := by
  induction s with
  | nil => intro a h0 h1; exact ⟨h0, h1⟩
  | cons c s ih =>
    intro a h0 h1
    have := stepM_rng (c := c) h0 hk
    exact ih _ this.1 this.2
theorem tmi (x : Int) (h0 : 0 ≤ x) : rngB .i64 (Int.tmod x 1000000007) = true := by
  have := tm_range x h0
  simp [rngB, IntKind.min, IntKind.max, IntKind.signed, IntKind.bits]; omega
theorem pu (a k : Int) (c : UInt8) (h0 : 0 ≤ a) (h1 : a < 1000000007) (hk : k = 257 ∨ k = 65539) : Int.tmod (IntKind.wrap .u64 ((IntKind.wrap .u64 ((IntKind.wrap .u64 (a * k)) + (IntKind.wrap .u64 ((c).toNat : Int)))) + (1 : Int))) (1000000007 : Int) = stepM k a c := by
  have := u8lt c
  rcases hk with rfl | rfl
  · rw [wrapu64 (n := a * 257) (by omega) (by omega), wrapu64 (n := (c.toNat : Int)) (by omega) (by omega), wrapu64 (n := a * 257 + (c.toNat : Int)) (by omega) (by omega), wrapu64 (by omega) (by omega)]; rfl
  · rw [wrapu64 (n := a * 65539) (by omega) (by omega), wrapu64 (n := (c.toNat : Int)) (by omega) (by omega), wrapu64 (n := a * 65539 + (c.toNat : Int)) (by omega) (by omega), wrapu64 (by omega) (by omega)]; rfl
theorem pi (a k : Int) (c : UInt8) (h0 : 0 ≤ a) (h1 : a < 1000000007) (hk : k = 257 ∨ k = 65539) : Int.tmod (IntKind.wrap .i64 ((IntKind.wrap .i64 ((IntKind.wrap .i64 (a * k)) + (IntKind.wrap .i64 ((c).toNat : Int)))) + (1 : Int))) (1000000007 : Int) = stepM k a c := by
  have := u8lt c
  rcases hk with rfl | rfl
  · rw [wrap64 (n := a * 257) (by omega) (by omega), wrap64 (n := (c.toNat : Int)) (by omega) (by omega), wrap64 (n := a * 257 + (c.toNat : Int)) (by omega) (by omega), wrap64 (by omega) (by omega)]; rfl
  · rw [wrap64 (n := a * 65539) (by omega) (by omega), wrap64 (n := (c.toNat : Int)) (by omega) (by omega), wrap64 (n := a * 65539 + (c.toNat : Int)) (by omega) (by omega), wrap64 (by omega) (by omega)]; rfl
theorem stepM_i64 {k a : Int} {c : UInt8} (ha : 0 ≤ a) (hk : 0 ≤ k) : rngB .i64 (stepM k a c) = true := by
  have := stepM_rng (c := c) ha hk
  simp [rngB, IntKind.min, IntKind.max, IntKind.signed, IntKind.bits]; omega
theorem stepM_u64 {k a : Int} {c : UInt8} (ha : 0 ≤ a) (hk : 0 ≤ k) : rngB .u64 (stepM k a c) = true := by
  have := stepM_rng (c := c) ha hk
  exact rng64 this.1 (by omega)
theorem AddX (N : Nat) (s : Bs) (a b c : Int) (hs : s.length < N) (hb : s.length ≤ 1000000) (ha0 : 0 ≤ a) (ha : a < 1000000007) (hb0 : 0 ≤ b) (hb1 : b < 1000000007) :
    mark_Maker_Add_f92 (Ev.upto N) ((s, ()), (((((a, b), c)), ()), ())) = some ((0, ()), (((((foldM 257 a s, foldM 65539 b s), IntKind.wrap .i64 (c + (s.length : Int)))), ()), ())) := by
  apply wp_eq
  unfold mark_Maker_Add_f92
  refine wp_bind ?_
  refine wp_for (σ := Unit) (fun i _ => ((s, ((s.length : Int), ((i : Int), ()))), ((((foldM 257 a (s.take i), foldM 65539 b (s.take i)), c), ()), ()))) (fun i _ => True) s.length () rfl trivial hs ?_
  rintro i _ hi _
  by_cases hi' : i < s.length
  · have c0 : decide ((i : Int) < (s.length : Int)) = true := decide_eq_true (by omega)
    have w : IntKind.wrap .i64 ((i : Int) + 1) = ((i + 1 : Nat) : Int) := by rw [wrap64 (by omega) (by omega)]; omega
    have t0 : idx tabl1 (0 : Int) = some 257 := rfl
    have t1 : idx tabl1 (1 : Int) = some 65539 := rfl
    have nz : ((1000000007 : Int) != 0) = true := rfl
    have r1 := foldM_rng (k := 257) (by decide) (s.take i) a ha0 ha
    have r2 := foldM_rng (k := 65539) (by decide) (s.take i) b hb0 hb1
    have e1 := pu _ 257 s[i] r1.1 r1.2 (Or.inl rfl)
    have e2 := pu _ 65539 s[i] r2.1 r2.2 (Or.inr rfl)
    have g1 : rngB .u64 (stepM 257 (foldM 257 a (s.take i)) s[i]) = true := stepM_u64 r1.1 (by decide)
    have g2 : rngB .u64 (stepM 65539 (foldM 65539 b (s.take i)) s[i]) = true := stepM_u64 r2.1 (by decide)
    simp -implicitDefEqProofs only [c0, cond_true, idx_nat hi', Option.bind_some, t0, t1, nz, Bool.true_and, e1, e2, g1, g2, w]
    exact ⟨_, rfl, hi', (), by rw [foldM_take hi', foldM_take hi'], trivial⟩
  · have c0 : decide ((i : Int) < (s.length : Int)) = false := decide_eq_false (by omega)
    have : s.take i = s := List.take_of_length_le (by omega)
    simp -implicitDefEqProofs only [c0, cond_false, this]
    exact ⟨_, rfl, _, rfl, rfl⟩
theorem b24 (x : Int) : Int.fdiv x (2 ^ (min (Int.toNat (24 : Int)) 64)) = x / 16777216 := by
  rw [Int.fdiv_eq_ediv_of_nonneg _ (by decide)]; rfl
theorem b16 (x : Int) : Int.fdiv x (2 ^ (min (Int.toNat (16 : Int)) 64)) = x / 65536 := by
  rw [Int.fdiv_eq_ediv_of_nonneg _ (by decide)]; rfl
theorem b8 (x : Int) : Int.fdiv x (2 ^ (min (Int.toNat (8 : Int)) 64)) = x / 256 := by
  rw [Int.fdiv_eq_ediv_of_nonneg _ (by decide)]; rfl
theorem b0 (x : Int) : IntKind.wrap .u8 x = x % 256 := by rw [IntKind.wrap_u8]
theorem MarkX (V : Ev) (a b c : Int) (ha0 : 0 ≤ a) (ha : a < 1000000007) (hb0 : 0 ≤ b) (hb1 : b < 1000000007) (hc0 : 0 ≤ c) (hc1 : c ≤ 1000000) :
    mark_Maker_Mark_def V ((), ((((a, b), c), ()), ())) = some ((toBs (q4 a ++ q4 b ++ q4 (Int.tmod (a * b) 1000000007) ++ q4 (Int.tmod c 1000000007)), ()), ((((a, b), c), ()), ())) := by
  unfold mark_Maker_Mark_def
  have nz : ((1000000007 : Int) != 0) = true := rfl
  have p : ∀ k : Nat, (1 : Int) ≤ 2 ^ k := fun k => by
    have : 0 < (2 : Int) ^ k := Int.pow_pos (by decide)
    omega
  have d24 : decide ((0 : Int) ≤ 24) = true := rfl
  have d16 : decide ((0 : Int) ≤ 16) = true := rfl
  have d8 : decide ((0 : Int) ≤ 8) = true := rfl
  have q : ∀ (x : Int) (k : Nat), 0 ≤ x → x < 1000000007 → rngB .u64 (Int.fdiv x (2 ^ k)) = true := fun x k h0 h1 => fdiv_rng x _ h0 (by omega) (p k)
  have m0 : 0 ≤ a * b := Int.mul_nonneg ha0 hb0
  have m1 : a * b ≤ 1000000006 * 1000000006 := Int.mul_le_mul (by omega) (by omega) hb0 (by omega)
  have ew : IntKind.wrap .u64 (a * b) = a * b := wrapu64 m0 (by omega)
  have ec : IntKind.wrap .u64 c = c := wrapu64 hc0 (by omega)
  have rx : 0 ≤ Int.tmod (a * b) 1000000007 ∧ Int.tmod (a * b) 1000000007 < 1000000007 := tm_range _ m0
  have ry : 0 ≤ Int.tmod c 1000000007 ∧ Int.tmod c 1000000007 < 1000000007 := tm_range _ hc0
  unfold q4
  simp -implicitDefEqProofs only [ew, ec]
  generalize Int.tmod (a * b) 1000000007 = x at *
  generalize Int.tmod c 1000000007 = y at *
  have sx : rngB .u64 x = true := rng64 rx.1 (by omega)
  have sy : rngB .u64 y = true := rng64 ry.1 (by omega)
  have f4 : fits 4 1 = true := fits_of (by decide)
  have f8 : fits 8 1 = true := fits_of (by decide)
  have f12 : fits 12 1 = true := fits_of (by decide)
  have f16 : fits 16 1 = true := fits_of (by decide)
  simp -implicitDefEqProofs only [nz, sx, sy, d24, d16, d8, Bool.true_and, q _ _ ha0 ha, q _ _ hb0 hb1, q _ _ rx.1 rx.2, q _ _ ry.1 ry.2, cond_true, List.length_cons, List.length_nil, List.length_append, Nat.zero_add, Nat.reduceAdd, f4, f8, f12, f16]
  simp -implicitDefEqProofs only [b24, b16, b8, b0]
theorem OfX (N : Nat) (s : Bs) (hs : s.length < N) (hb : s.length ≤ 1000000) (hN : 2 < N) : mark_Of_ (Ev.upto N) ((([s] : List Bs), ()), ()) = some ((mrk s, ()), ()) := by
  have q1 := AddX N s 7 11 0 hs hb (by decide) (by decide) (by decide) (by decide)
  have e : IntKind.wrap .i64 (0 + (s.length : Int)) = (s.length : Int) := by rw [wrap64 (by omega) (by omega)]; omega
  rw [e] at q1
  have r1 := foldM_rng (k := 257) (by decide) s 7 (by decide) (by decide)
  have r2 := foldM_rng (k := 65539) (by decide) s 11 (by decide) (by decide)
  have q2 := MarkX (Ev.upto N) (foldM 257 7 s) (foldM 65539 11 s) (s.length : Int) r1.1 r1.2 r2.1 r2.2 (by omega) (by omega)
  apply wp_eq
  unfold mark_Of_ mark_New_775
  simp -implicitDefEqProofs only [Option.bind_some]
  refine wp_bind ?_
  refine wp_for (σ := (Int × Int) × Int) (fun i s2 => ((([s] : List Bs), ((1 : Int), ((i : Int), ()))), ((s2, ()), ()))) (fun i s2 => s2 = bif i == 0 then ((7, 11), 0) else ((foldM 257 7 s, foldM 65539 11 s), (s.length : Int))) 1 ((7, 11), 0) rfl rfl (by omega) ?_
  rintro i s2 hi rfl
  by_cases hi' : i < 1
  · obtain rfl : i = 0 := by omega
    have c0 : decide (((0 : Nat) : Int) < 1) = true := rfl
    have i0 : idx ([s] : List Bs) ((0 : Nat) : Int) = some s := rfl
    have w : IntKind.wrap .i64 (((0 : Nat) : Int) + 1) = ((0 + 1 : Nat) : Int) := by rw [wrap64 (by omega) (by omega)]; rfl
    have z : ((0 : Nat) == 0) = true := rfl
    simp -implicitDefEqProofs only [c0, cond_true, i0, Option.bind_some, w, z, q1]
    exact ⟨_, rfl, by omega, _, rfl, rfl⟩
  · obtain rfl : i = 1 := by omega
    have c0 : decide (((1 : Nat) : Int) < 1) = false := rfl
    have z : ((1 : Nat) == 0) = false := rfl
    simp -implicitDefEqProofs only [c0, cond_false, z]
    refine ⟨_, rfl, ?_⟩
    simp -implicitDefEqProofs only [q2, Option.bind_some]
    exact ⟨_, rfl, rfl⟩
theorem mrk_len (s : Bs) : (mrk s).length = 16 := by
  unfold mrk toBs q4
  rw [List.length_map]
  rfl
theorem plainMarks (s : Bs) : pouncelaw09_SourceMarks_ (Ev.upto 200000) ((s, ()), ()) = some ((true, ()), ()) := by
  apply wp_eq
  unfold pouncelaw09_SourceMarks_
  by_cases hs : 3000 < s.length
  · rw [show decide ((s.length : Int) > 3000) = true from decide_eq_true (by omega)]
    exact ⟨_, rfl, rfl⟩
  · rw [show decide ((s.length : Int) > 3000) = false from decide_eq_false (by omega), cond_false]
    have q1 := OfX 200000 s (by omega) (by omega) (by decide)
    have hm := mrk_len s
    generalize mrk s = m at *
    have q2 := Encode_eq 200000 m (by omega) (by omega) (by decide)
    have el := encW_len _ m (Nat.le_refl _)
    have g1 := strFits_of (show ([39, 109, 97, 114, 107, 45] : Bs).length + (encW m).length ≤ 100000000 by simp; omega)
    have g2 := strFits_of (show (([39, 109, 97, 114, 107, 45] : Bs) ++ encW m).length + ([39] : Bs).length ≤ 100000000 by simp; omega)
    have hr : rightB (10, (m, zS.2.2)) = true := by
      unfold rightB
      simp only [show ((10 : Int) == 9) = false from rfl, show ((10 : Int) == 10) = true from rfl, cond_false, cond_true]
      rw [hm]
      rfl
    obtain ⟨hb, hbl⟩ := word_back hr
    have hw : wordB (10, (m, zS.2.2)) = [39, 109, 97, 114, 107, 45] ++ encW m ++ [39] := rfl
    rw [hw] at hb hbl
    have q3 := Parse_eq _ hbl
    have hR : parR ([39, 109, 97, 114, 107, 45] ++ encW m ++ [39]) = ((10, (m, zS.2.2)), true) := by
      unfold parR
      rw [hb]
      simp only
      rw [hr, if_pos rfl]
    rw [hR] at q3
    simp -implicitDefEqProofs only [q1, q2, Option.bind_some, g1, g2, cond_true, q3]
    rw [exw2]
    simp -implicitDefEqProofs only [Option.bind_some, beq_self_eq_true, cond_true, Bool.true_and]
    exact ⟨_, rfl, rfl⟩
end Go.En.Pl
