/- Text MA of this seat: written by a program of ours, or by hand; checked by Lean. -/
import Derived.Test.YtgjenfhkjjdcoaaGreatDoorMU
set_option linter.unusedSimpArgs false
set_option linter.unusedVariables false
namespace Go.En.Pl
abbrev Req := Int × (Bs × (Url × (Bool × (Bs × (Bool × Url)))))
theorem any_take {α : Type} {p : α → Bool} {l : List α} {i : Nat} (h : i < l.length) : (l.take (i + 1)).any p = ((l.take i).any p || p l[i]) := by
  rw [List.take_succ_eq_append_getElem h, List.any_append]
  simp
theorem any_at {α : Type} {p : α → Bool} {l : List α} {i : Nat} (h : i < l.length) (hp : p l[i] = true) : l.any p = true :=
  List.any_eq_true.2 ⟨_, List.getElem_mem h, hp⟩
def hask (l : List Src) (k : Int) : Bool := l.any fun s => s.1 == k
def hasT (l : List Src) (k : Int) (x : Bs) : Bool := l.any fun s => s.1 == k && s.2.1 == x
theorem some39_eq (N : Nat) (l : List Src) (k : Int) (hl : l.length < N) (hb : l.length ≤ 1000000) : allow_some_api_Source_aa9 (Ev.upto N) ((l, ()), ((k, ()), ())) = some ((hask l k, ()), ((k, ()), ())) := by
  apply wp_eq
  unfold allow_some_api_Source_aa9
  refine wp_bind ?_
  refine wp_for (σ := Unit) (fun i _ => ((l, ((l.length : Int), ((i : Int), ()))), ((k, ()), ()))) (fun i _ => (l.take i).any (fun s => s.1 == k) = false) l.length () rfl (by simp) hl ?_
  rintro i _ hi hn
  by_cases hi' : i < l.length
  · have c0 : decide ((i : Int) < (l.length : Int)) = true := decide_eq_true (by omega)
    have w : IntKind.wrap .i64 ((i : Int) + 1) = ((i + 1 : Nat) : Int) := by rw [wrap64 (by omega) (by omega)]; omega
    simp -implicitDefEqProofs only [c0, cond_true, idx_nat hi', Option.bind_some, allow_has_1_1_8c6, w]
    cases hc : (l[i].1 == k) with
    | true =>
      have : hask l k = true := any_at hi' hc
      exact ⟨_, rfl, _, rfl, by rw [this]⟩
    | false => exact ⟨_, rfl, hi', (), rfl, by rw [any_take hi', hn, hc]; rfl⟩
  · have c0 : decide ((i : Int) < (l.length : Int)) = false := decide_eq_false (by omega)
    rw [List.take_of_length_le (by omega)] at hn
    simp -implicitDefEqProofs only [c0, cond_false]
    exact ⟨_, rfl, _, rfl, by rw [show hask l k = false from hn]⟩
theorem some_eq (N : Nat) (ks : List Int) (l : List Src) (hl : l.length < N) (hb : l.length ≤ 1000000) (hk : ks.length < N) (hkb : ks.length ≤ 1000000) : allow_some_api_SourceKind_c08 (Ev.upto N) ((ks, ()), ((l, ()), ())) = some ((ks.any (hask l), ()), ((l, ()), ())) := by
  apply wp_eq
  unfold allow_some_api_SourceKind_c08
  refine wp_bind ?_
  refine wp_for (σ := Unit) (fun i _ => ((ks, ((ks.length : Int), ((i : Int), ()))), ((l, ()), ()))) (fun i _ => (ks.take i).any (hask l) = false) ks.length () rfl (by simp) hk ?_
  rintro i _ hi hn
  by_cases hi' : i < ks.length
  · have c0 : decide ((i : Int) < (ks.length : Int)) = true := decide_eq_true (by omega)
    have w : IntKind.wrap .i64 ((i : Int) + 1) = ((i + 1 : Nat) : Int) := by rw [wrap64 (by omega) (by omega)]; omega
    have q := some39_eq N l ks[i] hl hb
    simp -implicitDefEqProofs only [c0, cond_true, idx_nat hi', Option.bind_some, allow_has_1_905, w, q]
    cases hc : hask l ks[i] with
    | true => exact ⟨_, rfl, _, rfl, by rw [any_at hi' hc]⟩
    | false => exact ⟨_, rfl, hi', (), rfl, by rw [any_take hi', hn, hc]; rfl⟩
  · have c0 : decide ((i : Int) < (ks.length : Int)) = false := decide_eq_false (by omega)
    rw [List.take_of_length_le (by omega)] at hn
    simp -implicitDefEqProofs only [c0, cond_false]
    exact ⟨_, rfl, _, rfl, by rw [hn]⟩
theorem has_eq (N : Nat) (ks : List Int) (l : List Src) (hl : l.length < N) (hb : l.length ≤ 1000000) (hk : ks.length < N) (hkb : ks.length ≤ 1000000) : allow_has_ (Ev.upto N) ((l, (ks, ())), ()) = some ((ks.any (hask l), ()), ()) := by
  unfold allow_has_
  have q := some_eq N ks l hl hb hk hkb
  simp -implicitDefEqProofs only [q, Option.bind_some]
theorem some39b_eq (N : Nat) (l : List Src) (k : Int) (x : Bs) (hl : l.length < N) (hb : l.length ≤ 1000000) : allow_some_api_Source_a97 (Ev.upto N) ((l, ()), ((k, ()), ((x, ()), ()))) = some ((hasT l k x, ()), ((k, ()), ((x, ()), ()))) := by
  apply wp_eq
  unfold allow_some_api_Source_a97
  refine wp_bind ?_
  refine wp_for (σ := Unit) (fun i _ => ((l, ((l.length : Int), ((i : Int), ()))), ((k, ()), ((x, ()), ())))) (fun i _ => (l.take i).any (fun s => s.1 == k && s.2.1 == x) = false) l.length () rfl (by simp) hl ?_
  rintro i _ hi hn
  by_cases hi' : i < l.length
  · have c0 : decide ((i : Int) < (l.length : Int)) = true := decide_eq_true (by omega)
    have w : IntKind.wrap .i64 ((i : Int) + 1) = ((i + 1 : Nat) : Int) := by rw [wrap64 (by omega) (by omega)]; omega
    have q : allow_text_1_8f5 (Ev.upto N) ((l[i], ()), ((k, ()), ((x, ()), ()))) = some (((l[i].1 == k && l[i].2.1 == x), ()), ((k, ()), ((x, ()), ()))) := by
      unfold allow_text_1_8f5
      cases (l[i].1 == k) <;> rfl
    simp -implicitDefEqProofs only [c0, cond_true, idx_nat hi', Option.bind_some, q, w]
    cases hc : (l[i].1 == k && l[i].2.1 == x) with
    | true =>
      have : hasT l k x = true := any_at hi' hc
      exact ⟨_, rfl, _, rfl, by rw [this]⟩
    | false => exact ⟨_, rfl, hi', (), rfl, by rw [any_take hi', hn, hc]; rfl⟩
  · have c0 : decide ((i : Int) < (l.length : Int)) = false := decide_eq_false (by omega)
    rw [List.take_of_length_le (by omega)] at hn
    simp -implicitDefEqProofs only [c0, cond_false]
    exact ⟨_, rfl, _, rfl, by rw [show hasT l k x = false from hn]⟩
theorem atext_eq (N : Nat) (l : List Src) (k : Int) (x : Bs) (hl : l.length < N) (hb : l.length ≤ 1000000) : allow_text_ (Ev.upto N) ((l, (k, (x, ()))), ()) = some ((hasT l k x, ()), ()) := by
  unfold allow_text_
  have q := some39b_eq N l k x hl hb
  simp -implicitDefEqProofs only [q, Option.bind_some]
def nonceB (l : List Src) (x : Bs) : Bool := !(x == ([] : Bs)) && hasT l 9 x
theorem Nonce_eq (N : Nat) (l : List Src) (x : Bs) (hl : l.length < N) (hb : l.length ≤ 1000000) : allow_Nonce_ (Ev.upto N) ((l, (x, ())), ()) = some ((nonceB l x, ()), ()) := by
  unfold allow_Nonce_ nonceB
  have q := atext_eq N l 9 x hl hb
  cases (x == ([] : Bs))
  · simp -implicitDefEqProofs only [Bool.not_false, beq_self_eq_true, cond_true, q, Option.bind_some, Bool.true_and]
  · rfl
def looseB (l : List Src) : Bool := hask l 3 && !(hask l 9 || (hask l 10 || (hask l 6 || false)))
theorem Loose_eq (N : Nat) (l : List Src) (hl : l.length < N) (hN : 3 < N) (hb : l.length ≤ 1000000) : allow_Loose_ (Ev.upto N) ((l, ()), ()) = some ((looseB l, ()), ()) := by
  unfold allow_Loose_ looseB
  have q1 := has_eq N [3] l hl hb (by simp; omega) (by simp)
  have q2 := has_eq N [9, 10, 6] l hl hb (by simp; omega) (by simp)
  simp -implicitDefEqProofs only [q1, q2, Option.bind_some, List.any_cons, List.any_nil, Bool.or_false]
  cases hask l 3 <;> rfl
/-! -/
theorem tm_range (x : Int) (h : 0 ≤ x) : 0 ≤ Int.tmod x 1000000007 ∧ Int.tmod x 1000000007 < 1000000007 := by
  rw [Int.tmod_eq_emod_of_nonneg h]
  omega
theorem rng64 {n : Int} (h0 : 0 ≤ n) (h1 : n ≤ 18446744073709551615) : rngB .u64 n = true := by
  simp [rngB, IntKind.min, IntKind.max, IntKind.signed, IntKind.bits]; omega
theorem fdiv_rng (a k : Int) (h0 : 0 ≤ a) (h1 : a ≤ 18446744073709551615) (hk : 1 ≤ k) : rngB .u64 (Int.fdiv a k) = true := by
  rw [Int.fdiv_eq_ediv_of_nonneg _ (by omega)]
  have h2 : 0 ≤ a / k := Int.ediv_nonneg h0 (by omega)
  have h3 : a / k ≤ a := Int.ediv_le_self _ h0
  exact rng64 h2 (by omega)
theorem Hash_eq (N : Nat) (l : List Src) (x m : Bs) (hl : l.length < N) (hb : l.length ≤ 1000000) (hm : mark_Of_ (Ev.upto N) ((([x] : List Bs), ()), ()) = some ((m, ()), ())) : allow_Hash_ (Ev.upto N) ((l, (x, ())), ()) = some ((hasT l 10 m, ()), ()) := by
  unfold allow_Hash_
  have q := atext_eq N l 10 m hl hb
  simp -implicitDefEqProofs only [hm, q, Option.bind_some]
def inlineB (l : List Src) (k : Int) (n m : Bs) : Bool :=
  bif k == 1 then looseB l || (nonceB l n || hasT l 10 m) else bif (k == 3 || k == 4) then looseB l || (hask l 7 && hasT l 10 m) else false
theorem Inline_eq (N : Nat) (l : List Src) (k : Int) (n x m : Bs) (hl : l.length < N) (hN : 3 < N) (hb : l.length ≤ 1000000) (hm : mark_Of_ (Ev.upto N) ((([x] : List Bs), ()), ()) = some ((m, ()), ())) :
    allow_Inline_ (Ev.upto N) ((l, (k, (n, (x, ())))), ()) = some ((inlineB l k n m, ()), ()) := by
  unfold allow_Inline_ inlineB
  have q1 := Loose_eq N l hl hN hb
  have q2 := Nonce_eq N l n hl hb
  have q3 := Hash_eq N l x m hl hb hm
  have q4 := has_eq N [7] l hl hb (by simp; omega) (by simp)
  cases hk : (k == 1) with
  | true =>
    simp -implicitDefEqProofs only [q1, q2, q3, Option.bind_some, cond_true]
    cases looseB l
    · cases nonceB l n <;> rfl
    · rfl
  | false =>
    simp -implicitDefEqProofs only [cond_false]
    cases h3 : (k == 3) with
    | true =>
      simp -implicitDefEqProofs only [q1, q3, q4, Option.bind_some, cond_true, Bool.true_or, List.any_cons, List.any_nil, Bool.or_false]
      cases looseB l
      · cases hask l 7 <;> rfl
      · rfl
    | false =>
      cases h4 : (k == 4) with
      | true =>
        simp -implicitDefEqProofs only [q1, q3, q4, Option.bind_some, cond_true, cond_false, Bool.false_or, List.any_cons, List.any_nil, Bool.or_false]
        cases looseB l
        · cases hask l 7 <;> rfl
        · rfl
      | false => rfl
theorem Eval_eq (N : Nat) (l : List Src) (k : Int) (hl : l.length < N) (hN : 3 < N) (hb : l.length ≤ 1000000) :
    allow_Eval_ (Ev.upto N) ((l, (k, ())), ()) = some ((bif k == 5 then hask l 4 else bif k == 6 then hask l 4 || hask l 5 else false, ()), ()) := by
  unfold allow_Eval_
  have q1 := has_eq N [4] l hl hb (by simp; omega) (by simp)
  have q2 := has_eq N [4, 5] l hl hb (by simp; omega) (by simp)
  cases (k == 5)
  · cases (k == 6)
    · rfl
    · simp -implicitDefEqProofs only [q2, Option.bind_some, cond_true, cond_false, List.any_cons, List.any_nil, Bool.or_false]
  · simp -implicitDefEqProofs only [q1, Option.bind_some, cond_true, cond_false, List.any_cons, List.any_nil, Bool.or_false]
def stepM (k : Int) (a : Int) (c : UInt8) : Int := Int.tmod (a * k + (c.toNat : Int) + 1) 1000000007
def foldM (k : Int) (a : Int) (s : Bs) : Int := s.foldl (stepM k) a
def q4 (x : Int) : List Int := [x / 16777216 % 256, x / 65536 % 256, x / 256 % 256, x % 256]
def mrk (s : Bs) : Bs := toBs (q4 (foldM 257 7 s) ++ q4 (foldM 65539 11 s) ++ q4 (Int.tmod (foldM 257 7 s * foldM 65539 11 s) 1000000007) ++ q4 (Int.tmod (s.length : Int) 1000000007))
theorem foldM_take {k a : Int} {s : Bs} {i : Nat} (h : i < s.length) : foldM k a (s.take (i + 1)) = stepM k (foldM k a (s.take i)) s[i] := by
  unfold foldM
  rw [List.take_succ_eq_append_getElem h, List.foldl_append]
  rfl
theorem u8lt (c : UInt8) : (c.toNat : Int) ≤ 255 := by have := c.toNat_lt; omega
theorem stepM_rng {k a : Int} {c : UInt8} (ha : 0 ≤ a) (hk : 0 ≤ k) : 0 ≤ stepM k a c ∧ stepM k a c < 1000000007 := by
  have := Int.mul_nonneg ha hk
  exact tm_range _ (by omega)
theorem foldM_rng {k : Int} (hk : 0 ≤ k) (s : Bs) : ∀ a, 0 ≤ a → a < 1000000007 → 0 ≤ foldM k a s ∧ foldM k a s < 1000000007 := by
  induction s with
  | nil => intro a h0 h1; exact ⟨h0, h1⟩
  | cons c s ih =>
    intro a h0 h1
    have := stepM_rng (c := c) h0 hk
    exact ih _ this.1 this.2
theorem pu (a k : Int) (c : UInt8) (h0 : 0 ≤ a) (h1 : a < 1000000007) (hk : k = 257 ∨ k = 65539) : Int.tmod (IntKind.wrap .u64 ((IntKind.wrap .u64 ((IntKind.wrap .u64 (a * k)) + (IntKind.wrap .u64 ((c).toNat : Int)))) + (1 : Int))) (1000000007 : Int) = stepM k a c := by
  have := u8lt c
  rcases hk with rfl | rfl
  · rw [wrapu64 (n := a * 257) (by omega) (by omega), wrapu64 (n := (c.toNat : Int)) (by omega) (by omega), wrapu64 (n := a * 257 + (c.toNat : Int)) (by omega) (by omega), wrapu64 (by omega) (by omega)]; rfl
  · rw [wrapu64 (n := a * 65539) (by omega) (by omega), wrapu64 (n := (c.toNat : Int)) (by omega) (by omega), wrapu64 (n := a * 65539 + (c.toNat : Int)) (by omega) (by omega), wrapu64 (by omega) (by omega)]; rfl
theorem stepM_u64 {k a : Int} {c : UInt8} (ha : 0 ≤ a) (hk : 0 ≤ k) : rngB .u64 (stepM k a c) = true := by
  have := stepM_rng (c := c) ha hk
  exact rng64 this.1 (by omega)
theorem AddX (N : Nat) (s : Bs) (a b c : Int) (hs : s.length < N) (hb : s.length ≤ 1000000) (ha0 : 0 ≤ a) (ha : a < 1000000007) (hb0 : 0 ≤ b) (hb1 : b < 1000000007) :
    mark_Maker_Add_f92 (Ev.upto N) ((s, ()), (((((a, b), c)), ()), ())) = some ((0, ()), (((((foldM 257 a s, foldM 65539 b s), IntKind.wrap .i64 (c + (s.length : Int)))), ()), ())) := by
  apply wp_eq
  unfold mark_Maker_Add_f92
  refine wp_bind ?_
  refine wp_for (σ := Unit) (fun i _ => ((s, ((s.length : Int), ((i : Int), ()))), ((((foldM 257 a (s.take i), foldM 65539 b (s.take i)), c), ()), ()))) (fun i _ => True) s.length () rfl trivial hs ?_
  rintro i _ hi _
  by_cases hi' : i < s.length
  · have c0 : decide ((i : Int) < (s.length : Int)) = true := decide_eq_true (by omega)
    have w : IntKind.wrap .i64 ((i : Int) + 1) = ((i + 1 : Nat) : Int) := by rw [wrap64 (by omega) (by omega)]; omega
    have t0 : idx tabl0 (0 : Int) = some 257 := rfl
    have t1 : idx tabl0 (1 : Int) = some 65539 := rfl
    have nz : ((1000000007 : Int) != 0) = true := rfl
    have r1 := foldM_rng (k := 257) (by decide) (s.take i) a ha0 ha
    have r2 := foldM_rng (k := 65539) (by decide) (s.take i) b hb0 hb1
    have e1 := pu _ 257 s[i] r1.1 r1.2 (Or.inl rfl)
    have e2 := pu _ 65539 s[i] r2.1 r2.2 (Or.inr rfl)
    have g1 : rngB .u64 (stepM 257 (foldM 257 a (s.take i)) s[i]) = true := stepM_u64 r1.1 (by decide)
    have g2 : rngB .u64 (stepM 65539 (foldM 65539 b (s.take i)) s[i]) = true := stepM_u64 r2.1 (by decide)
    simp -implicitDefEqProofs only [c0, cond_true, idx_nat hi', Option.bind_some, t0, t1, nz, Bool.true_and, e1, e2, g1, g2, w]
    exact ⟨_, rfl, hi', (), by rw [foldM_take hi', foldM_take hi'], trivial⟩
  · have c0 : decide ((i : Int) < (s.length : Int)) = false := decide_eq_false (by omega)
    have : s.take i = s := List.take_of_length_le (by omega)
    simp -implicitDefEqProofs only [c0, cond_false, this]
    exact ⟨_, rfl, _, rfl, rfl⟩
theorem b24 (x : Int) : Int.fdiv x (2 ^ (min (Int.toNat (24 : Int)) 64)) = x / 16777216 := by
  rw [Int.fdiv_eq_ediv_of_nonneg _ (by decide)]; rfl
theorem b16 (x : Int) : Int.fdiv x (2 ^ (min (Int.toNat (16 : Int)) 64)) = x / 65536 := by
  rw [Int.fdiv_eq_ediv_of_nonneg _ (by decide)]; rfl
theorem b8 (x : Int) : Int.fdiv x (2 ^ (min (Int.toNat (8 : Int)) 64)) = x / 256 := by
  rw [Int.fdiv_eq_ediv_of_nonneg _ (by decide)]; rfl
theorem b0 (x : Int) : IntKind.wrap .u8 x = x % 256 := by rw [IntKind.wrap_u8]
theorem MarkX (V : Ev) (a b c : Int) (ha0 : 0 ≤ a) (ha : a < 1000000007) (hb0 : 0 ≤ b) (hb1 : b < 1000000007) (hc0 : 0 ≤ c) (hc1 : c ≤ 1000000) :
    mark_Maker_Mark_def V ((), ((((a, b), c), ()), ())) = some ((toBs (q4 a ++ q4 b ++ q4 (Int.tmod (a * b) 1000000007) ++ q4 (Int.tmod c 1000000007)), ()), ((((a, b), c), ()), ())) := by
  unfold mark_Maker_Mark_def
  have nz : ((1000000007 : Int) != 0) = true := rfl
  have p : ∀ k : Nat, (1 : Int) ≤ 2 ^ k := fun k => by
    have : 0 < (2 : Int) ^ k := Int.pow_pos (by decide)
    omega
  have d24 : decide ((0 : Int) ≤ 24) = true := rfl
  have d16 : decide ((0 : Int) ≤ 16) = true := rfl
  have d8 : decide ((0 : Int) ≤ 8) = true := rfl
  have q : ∀ (x : Int) (k : Nat), 0 ≤ x → x < 1000000007 → rngB .u64 (Int.fdiv x (2 ^ k)) = true := fun x k h0 h1 => fdiv_rng x _ h0 (by omega) (p k)
  have m0 : 0 ≤ a * b := Int.mul_nonneg ha0 hb0
  have m1 : a * b ≤ 1000000006 * 1000000006 := Int.mul_le_mul (by omega) (by omega) hb0 (by omega)
  have ew : IntKind.wrap .u64 (a * b) = a * b := wrapu64 m0 (by omega)
  have ec : IntKind.wrap .u64 c = c := wrapu64 hc0 (by omega)
  have rx : 0 ≤ Int.tmod (a * b) 1000000007 ∧ Int.tmod (a * b) 1000000007 < 1000000007 := tm_range _ m0
  have ry : 0 ≤ Int.tmod c 1000000007 ∧ Int.tmod c 1000000007 < 1000000007 := tm_range _ hc0
  unfold q4
  simp -implicitDefEqProofs only [ew, ec]
  generalize Int.tmod (a * b) 1000000007 = x at *
  generalize Int.tmod c 1000000007 = y at *
  have sx : rngB .u64 x = true := rng64 rx.1 (by omega)
  have sy : rngB .u64 y = true := rng64 ry.1 (by omega)
  have f4 : fits 4 1 = true := fits_of (by decide)
  have f8 : fits 8 1 = true := fits_of (by decide)
  have f12 : fits 12 1 = true := fits_of (by decide)
  have f16 : fits 16 1 = true := fits_of (by decide)
  simp -implicitDefEqProofs only [nz, sx, sy, d24, d16, d8, Bool.true_and, q _ _ ha0 ha, q _ _ hb0 hb1, q _ _ rx.1 rx.2, q _ _ ry.1 ry.2, cond_true, List.length_cons, List.length_nil, List.length_append, Nat.zero_add, Nat.reduceAdd, f4, f8, f12, f16]
  simp -implicitDefEqProofs only [b24, b16, b8, b0]
theorem OfX (N : Nat) (s : Bs) (hs : s.length < N) (hb : s.length ≤ 1000000) (hN : 2 < N) : mark_Of_ (Ev.upto N) ((([s] : List Bs), ()), ()) = some ((mrk s, ()), ()) := by
  have q1 := AddX N s 7 11 0 hs hb (by decide) (by decide) (by decide) (by decide)
  have e : IntKind.wrap .i64 (0 + (s.length : Int)) = (s.length : Int) := by rw [wrap64 (by omega) (by omega)]; omega
  rw [e] at q1
  have r1 := foldM_rng (k := 257) (by decide) s 7 (by decide) (by decide)
  have r2 := foldM_rng (k := 65539) (by decide) s 11 (by decide) (by decide)
  have q2 := MarkX (Ev.upto N) (foldM 257 7 s) (foldM 65539 11 s) (s.length : Int) r1.1 r1.2 r2.1 r2.2 (by omega) (by omega)
  apply wp_eq
  unfold mark_Of_ mark_New_775
  simp -implicitDefEqProofs only [Option.bind_some]
  refine wp_bind ?_
  refine wp_for (σ := (Int × Int) × Int) (fun i s2 => ((([s] : List Bs), ((1 : Int), ((i : Int), ()))), ((s2, ()), ()))) (fun i s2 => s2 = bif i == 0 then ((7, 11), 0) else ((foldM 257 7 s, foldM 65539 11 s), (s.length : Int))) 1 ((7, 11), 0) rfl rfl (by omega) ?_
  rintro i s2 hi rfl
  by_cases hi' : i < 1
  · obtain rfl : i = 0 := by omega
    have c0 : decide (((0 : Nat) : Int) < 1) = true := rfl
    have i0 : idx ([s] : List Bs) ((0 : Nat) : Int) = some s := rfl
    have w : IntKind.wrap .i64 (((0 : Nat) : Int) + 1) = ((0 + 1 : Nat) : Int) := by rw [wrap64 (by omega) (by omega)]; rfl
    have z : ((0 : Nat) == 0) = true := rfl
    simp -implicitDefEqProofs only [c0, cond_true, i0, Option.bind_some, w, z, q1]
    exact ⟨_, rfl, by omega, _, rfl, rfl⟩
  · obtain rfl : i = 1 := by omega
    have c0 : decide (((1 : Nat) : Int) < 1) = false := rfl
    have z : ((1 : Nat) == 0) = false := rfl
    simp -implicitDefEqProofs only [c0, cond_false, z]
    refine ⟨_, rfl, ?_⟩
    simp -implicitDefEqProofs only [q2, Option.bind_some]
    exact ⟨_, rfl, rfl⟩
def urlL (l : List Src) (u own : Url) (m : Bool) : Bool := l.any fun s => matchB s u own m
theorem UrlA_eq (N : Nat) (l : List Src) (u own : Url) (m : Bool) (hl : l.length < N) (hb : l.length ≤ 1000000) (hs : ∀ s ∈ l, smallS s) (hu : small u) (ho : small own) (hN : 100005 < N) : allow_Url_ (Ev.upto N) ((l, (u, (own, (m, ())))), ()) = some ((urlL l u own m, ()), ()) := by
  have this : allow_some_api_Source_3c0 (Ev.upto N) ((l, ()), ((u, ()), ((own, ()), ((m, ()), ())))) = some ((urlL l u own m, ()), ((u, ()), ((own, ()), ((m, ()), ())))) := by
    apply wp_eq
    unfold allow_some_api_Source_3c0
    refine wp_bind ?_
    refine wp_for (σ := Unit) (fun i _ => ((l, ((l.length : Int), ((i : Int), ()))), ((u, ()), ((own, ()), ((m, ()), ()))))) (fun i _ => (l.take i).any (fun s => matchB s u own m) = false) l.length () rfl (by simp) hl ?_
    rintro i _ hi hn
    by_cases hi' : i < l.length
    · have c0 : decide ((i : Int) < (l.length : Int)) = true := decide_eq_true (by omega)
      have w : IntKind.wrap .i64 ((i : Int) + 1) = ((i + 1 : Nat) : Int) := by rw [wrap64 (by omega) (by omega)]; omega
      have q := url_eq N l[i] u own m (hs _ (List.getElem_mem hi')) hu ho hN
      simp -implicitDefEqProofs only [c0, cond_true, idx_nat hi', Option.bind_some, allow_Url_1_cbd, q, w]
      cases hc : matchB l[i] u own m with
      | true =>
        have : urlL l u own m = true := any_at hi' hc
        exact ⟨_, rfl, _, rfl, by rw [this]⟩
      | false => exact ⟨_, rfl, hi', (), rfl, by rw [any_take hi', hn, hc]; rfl⟩
    · have c0 : decide ((i : Int) < (l.length : Int)) = false := decide_eq_false (by omega)
      rw [List.take_of_length_le (by omega)] at hn
      simp -implicitDefEqProofs only [c0, cond_false]
      exact ⟨_, rfl, _, rfl, by rw [show urlL l u own m = false from hn]⟩
  unfold allow_Url_
  rw [this]
  rfl
def evalB (l : List Src) (k : Int) : Bool := bif k == 5 then hask l 4 else bif k == 6 then hask l 4 || hask l 5 else false
def fetchB (l : List Src) (r : Req) : Bool := nonceB l r.2.2.2.2.1 || (bif hask l 6 then !r.2.2.2.2.2.1 else urlL l r.2.2.1 r.2.2.2.2.2.2 r.2.2.2.1)
theorem Fetch_eq (N : Nat) (l : List Src) (r : Req) (hl : l.length < N) (hb : l.length ≤ 1000000) (hs : ∀ s ∈ l, smallS s) (hu : small r.2.2.1) (ho : small r.2.2.2.2.2.2) (hN : 100005 < N) : allow_Fetch_ (Ev.upto N) ((l, (r, ())), ()) = some ((fetchB l r, ()), ()) := by
  unfold allow_Fetch_ fetchB
  have q1 := Nonce_eq N l r.2.2.2.2.1 hl hb
  have q2 := has_eq N [6] l hl hb (by simp; omega) (by simp)
  have q3 := UrlA_eq N l r.2.2.1 r.2.2.2.2.2.2 r.2.2.2.1 hl hb hs hu ho hN
  simp -implicitDefEqProofs only [q1, q2, q3, Option.bind_some, List.any_cons, List.any_nil, Bool.or_false]
  cases nonceB l r.2.2.2.2.1
  · cases hask l 6 <;> rfl
  · rfl
/-! -/
def okR (r : Req) : Prop := r.2.1.length ≤ 3000 ∧ small r.2.2.1 ∧ small r.2.2.2.2.2.2
end Go.En.Pl
