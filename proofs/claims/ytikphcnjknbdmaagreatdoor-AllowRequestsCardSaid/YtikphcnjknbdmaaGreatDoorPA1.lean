/- Text PA1 of this seat: written by a program of ours, or by hand; checked by Lean. -/
import Derived.Test.YtikphcnjknbdmaaGreatDoorPM2
set_option linter.unusedSimpArgs false
set_option linter.unusedVariables false
namespace Go.En.Pl
abbrev Req := Int × (Bs × (Url × (Bool × (Bs × (Bool × Url)))))
theorem any_take {α : Type} {p : α → Bool} {l : List α} {i : Nat} (h : i < l.length) : (l.take (i + 1)).any p = ((l.take i).any p || p l[i]) := by
  rw [List.take_succ_eq_append_getElem h, List.any_append]
  simp
theorem any_at {α : Type} {p : α → Bool} {l : List α} {i : Nat} (h : i < l.length) (hp : p l[i] = true) : l.any p = true :=
  List.any_eq_true.2 ⟨_, List.getElem_mem h, hp⟩
def hask (l : List Src) (k : Int) : Bool := l.any fun s => s.1 == k
def hasT (l : List Src) (k : Int) (x : Bs) : Bool := l.any fun s => s.1 == k && s.2.1 == x
theorem some39_eq (N : Nat) (l : List Src) (k : Int) (hl : l.length < N) (hb : l.length ≤ 1000000) : allow_some_api_Source_aa9 (Ev.upto N) ((l, ()), ((k, ()), ())) = some ((hask l k, ()), ((k, ()), ())) := by
  apply wp_eq
  unfold allow_some_api_Source_aa9
  refine wp_bind ?_
  refine wp_for (σ := Unit) (fun i _ => ((l, ((l.length : Int), ((i : Int), ()))), ((k, ()), ()))) (fun i _ => (l.take i).any (fun s => s.1 == k) = false) l.length () rfl (by simp) hl ?_
  rintro i _ hi hn
  by_cases hi' : i < l.length
  · have c0 : decide ((i : Int) < (l.length : Int)) = true := decide_eq_true (by omega)
    have w : IntKind.wrap .i64 ((i : Int) + 1) = ((i + 1 : Nat) : Int) := by rw [wrap64 (by omega) (by omega)]; omega
    simp -implicitDefEqProofs only [c0, cond_true, idx_nat hi', Option.bind_some, allow_has_1_1_8c6, w]
    cases hc : (l[i].1 == k) with
    | true =>
      have : hask l k = true := any_at hi' hc
      exact ⟨_, rfl, _, rfl, by rw [this]⟩
    | false => exact ⟨_, rfl, hi', (), rfl, by rw [any_take hi', hn, hc]; rfl⟩
  · have c0 : decide ((i : Int) < (l.length : Int)) = false := decide_eq_false (by omega)
    rw [List.take_of_length_le (by omega)] at hn
    simp -implicitDefEqProofs only [c0, cond_false]
    exact ⟨_, rfl, _, rfl, by rw [show hask l k = false from hn]⟩
theorem some_eq (N : Nat) (ks : List Int) (l : List Src) (hl : l.length < N) (hb : l.length ≤ 1000000) (hk : ks.length < N) (hkb : ks.length ≤ 1000000) : allow_some_api_SourceKind_c08 (Ev.upto N) ((ks, ()), ((l, ()), ())) = some ((ks.any (hask l), ()), ((l, ()), ())) := by
  apply wp_eq
  unfold allow_some_api_SourceKind_c08
  refine wp_bind ?_
  refine wp_for (σ := Unit) (fun i _ => ((ks, ((ks.length : Int), ((i : Int), ()))), ((l, ()), ()))) (fun i _ => (ks.take i).any (hask l) = false) ks.length () rfl (by simp) hk ?_
  rintro i _ hi hn
  by_cases hi' : i < ks.length
  · have c0 : decide ((i : Int) < (ks.length : Int)) = true := decide_eq_true (by omega)
    have w : IntKind.wrap .i64 ((i : Int) + 1) = ((i + 1 : Nat) : Int) := by rw [wrap64 (by omega) (by omega)]; omega
    have q := some39_eq N l ks[i] hl hb
    simp -implicitDefEqProofs only [c0, cond_true, idx_nat hi', Option.bind_some, allow_has_1_905, w, q]
    cases hc : hask l ks[i] with
    | true => exact ⟨_, rfl, _, rfl, by rw [any_at hi' hc]⟩
    | false => exact ⟨_, rfl, hi', (), rfl, by rw [any_take hi', hn, hc]; rfl⟩
  · have c0 : decide ((i : Int) < (ks.length : Int)) = false := decide_eq_false (by omega)
    rw [List.take_of_length_le (by omega)] at hn
    simp -implicitDefEqProofs only [c0, cond_false]
    exact ⟨_, rfl, _, rfl, by rw [hn]⟩
theorem has_eq (N : Nat) (ks : List Int) (l : List Src) (hl : l.length < N) (hb : l.length ≤ 1000000) (hk : ks.length < N) (hkb : ks.length ≤ 1000000) : allow_has_ (Ev.upto N) ((l, (ks, ())), ()) = some ((ks.any (hask l), ()), ()) := by
  unfold allow_has_
  have q := some_eq N ks l hl hb hk hkb
  simp -implicitDefEqProofs only [q, Option.bind_some]
theorem some39b_eq (N : Nat) (l : List Src) (k : Int) (x : Bs) (hl : l.length < N) (hb : l.length ≤ 1000000) : allow_some_api_Source_a97 (Ev.upto N) ((l, ()), ((k, ()), ((x, ()), ()))) = some ((hasT l k x, ()), ((k, ()), ((x, ()), ()))) := by
  apply wp_eq
  unfold allow_some_api_Source_a97
  refine wp_bind ?_
  refine wp_for (σ := Unit) (fun i _ => ((l, ((l.length : Int), ((i : Int), ()))), ((k, ()), ((x, ()), ())))) (fun i _ => (l.take i).any (fun s => s.1 == k && s.2.1 == x) = false) l.length () rfl (by simp) hl ?_
  rintro i _ hi hn
  by_cases hi' : i < l.length
  · have c0 : decide ((i : Int) < (l.length : Int)) = true := decide_eq_true (by omega)
    have w : IntKind.wrap .i64 ((i : Int) + 1) = ((i + 1 : Nat) : Int) := by rw [wrap64 (by omega) (by omega)]; omega
    have q : allow_text_1_8f5 (Ev.upto N) ((l[i], ()), ((k, ()), ((x, ()), ()))) = some (((l[i].1 == k && l[i].2.1 == x), ()), ((k, ()), ((x, ()), ()))) := by
      unfold allow_text_1_8f5
      cases (l[i].1 == k) <;> rfl
    simp -implicitDefEqProofs only [c0, cond_true, idx_nat hi', Option.bind_some, q, w]
    cases hc : (l[i].1 == k && l[i].2.1 == x) with
    | true =>
      have : hasT l k x = true := any_at hi' hc
      exact ⟨_, rfl, _, rfl, by rw [this]⟩
    | false => exact ⟨_, rfl, hi', (), rfl, by rw [any_take hi', hn, hc]; rfl⟩
  · have c0 : decide ((i : Int) < (l.length : Int)) = false := decide_eq_false (by omega)
    rw [List.take_of_length_le (by omega)] at hn
    simp -implicitDefEqProofs only [c0, cond_false]
    exact ⟨_, rfl, _, rfl, by rw [show hasT l k x = false from hn]⟩
theorem atext_eq (N : Nat) (l : List Src) (k : Int) (x : Bs) (hl : l.length < N) (hb : l.length ≤ 1000000) : allow_text_ (Ev.upto N) ((l, (k, (x, ()))), ()) = some ((hasT l k x, ()), ()) := by
  unfold allow_text_
  have q := some39b_eq N l k x hl hb
  simp -implicitDefEqProofs only [q, Option.bind_some]
def nonceB (l : List Src) (x : Bs) : Bool := !(x == ([] : Bs)) && hasT l 9 x
theorem Nonce_eq (N : Nat) (l : List Src) (x : Bs) (hl : l.length < N) (hb : l.length ≤ 1000000) : allow_Nonce_ (Ev.upto N) ((l, (x, ())), ()) = some ((nonceB l x, ()), ()) := by
  unfold allow_Nonce_ nonceB
  have q := atext_eq N l 9 x hl hb
  cases (x == ([] : Bs))
  · simp -implicitDefEqProofs only [Bool.not_false, beq_self_eq_true, cond_true, q, Option.bind_some, Bool.true_and]
  · rfl
def looseB (l : List Src) : Bool := hask l 3 && !(hask l 9 || (hask l 10 || (hask l 6 || false)))
theorem Loose_eq (N : Nat) (l : List Src) (hl : l.length < N) (hN : 3 < N) (hb : l.length ≤ 1000000) : allow_Loose_ (Ev.upto N) ((l, ()), ()) = some ((looseB l, ()), ()) := by
  unfold allow_Loose_ looseB
  have q1 := has_eq N [3] l hl hb (by simp; omega) (by simp)
  have q2 := has_eq N [9, 10, 6] l hl hb (by simp; omega) (by simp)
  simp -implicitDefEqProofs only [q1, q2, Option.bind_some, List.any_cons, List.any_nil, Bool.or_false]
  cases hask l 3 <;> rfl
/-! ### Marks -/
def P1 : Int := 1000000007
theorem tm_range (x : Int) (h : 0 ≤ x) : 0 ≤ Int.tmod x 1000000007 ∧ Int.tmod x 1000000007 < 1000000007 := by
  rw [Int.tmod_eq_emod_of_nonneg h]
  omega
theorem u64_nonneg (x : Int) : 0 ≤ IntKind.wrap .u64 x := by rw [show IntKind.wrap .u64 x = x % 18446744073709551616 from by simp [IntKind.wrap, IntKind.bits, IntKind.signed]]; omega
theorem rng64 {n : Int} (h0 : 0 ≤ n) (h1 : n ≤ 18446744073709551615) : rngB .u64 n = true := by
  simp [rngB, IntKind.min, IntKind.max, IntKind.signed, IntKind.bits]; omega
theorem tm_rng (x : Int) : rngB .u64 (Int.tmod (IntKind.wrap .u64 x) 1000000007) = true := by
  have := tm_range _ (u64_nonneg x)
  exact rng64 this.1 (by omega)
theorem Add_wp (N : Nat) (s : Bs) (a b c : Int) (hs : s.length < N) (hb : s.length ≤ 1000000) (ha0 : 0 ≤ a) (ha : a < 1000000007) (hb0 : 0 ≤ b) (hb1 : b < 1000000007) :
    wp (mark_Maker_Add_f92 (Ev.upto N) ((s, ()), (((((a, b), c)), ()), ()))) (fun r => ∃ a' b' c', r = ((0, ()), (((((a', b'), c')), ()), ())) ∧ 0 ≤ a' ∧ a' < 1000000007 ∧ 0 ≤ b' ∧ b' < 1000000007) := by
  unfold mark_Maker_Add_f92
  refine wp_bind ?_
  refine wp_for (σ := Int × Int) (fun i s2 => ((s, ((s.length : Int), ((i : Int), ()))), ((((s2.1, s2.2), c), ()), ()))) (fun i s2 => (0 ≤ s2.1 ∧ s2.1 < 1000000007) ∧ 0 ≤ s2.2 ∧ s2.2 < 1000000007) s.length (a, b) rfl ⟨⟨ha0, ha⟩, hb0, hb1⟩ hs ?_
  rintro i ⟨x, y⟩ hi ⟨⟨hx0, hx1⟩, hy0, hy1⟩
  by_cases hi' : i < s.length
  · have c0 : decide ((i : Int) < (s.length : Int)) = true := decide_eq_true (by omega)
    have w : IntKind.wrap .i64 ((i : Int) + 1) = ((i + 1 : Nat) : Int) := by rw [wrap64 (by omega) (by omega)]; omega
    have t0 : idx tabl0 (0 : Int) = some 257 := rfl
    have t1 : idx tabl0 (1 : Int) = some 65539 := rfl
    have nz : ((1000000007 : Int) != 0) = true := rfl
    simp -implicitDefEqProofs only [c0, cond_true, idx_nat hi', Option.bind_some, t0, t1, nz, Bool.true_and, tm_rng, w]
    exact ⟨_, rfl, hi', (_, _), rfl, tm_range _ (u64_nonneg _), tm_range _ (u64_nonneg _)⟩
  · have c0 : decide ((i : Int) < (s.length : Int)) = false := decide_eq_false (by omega)
    simp -implicitDefEqProofs only [c0, cond_false]
    exact ⟨_, rfl, _, rfl, _, _, _, rfl, hx0, hx1, hy0, hy1⟩
theorem fdiv_rng (a k : Int) (h0 : 0 ≤ a) (h1 : a ≤ 18446744073709551615) (hk : 1 ≤ k) : rngB .u64 (Int.fdiv a k) = true := by
  rw [Int.fdiv_eq_ediv_of_nonneg _ (by omega)]
  have h2 : 0 ≤ a / k := Int.ediv_nonneg h0 (by omega)
  have h3 : a / k ≤ a := Int.ediv_le_self _ h0
  exact rng64 h2 (by omega)
theorem Mark_wp (V : Ev) (a b c : Int) (ha0 : 0 ≤ a) (ha : a < 1000000007) (hb0 : 0 ≤ b) (hb1 : b < 1000000007) : wp (mark_Maker_Mark_def V ((), ((((a, b), c), ()), ()))) (fun r => ∃ m o, r = ((m, ()), (((o), ()), ()))) := by
  unfold mark_Maker_Mark_def
  have nz : ((1000000007 : Int) != 0) = true := rfl
  have p : ∀ k : Nat, (1 : Int) ≤ 2 ^ k := fun k => by
    have : 0 < (2 : Int) ^ k := Int.pow_pos (by decide)
    omega
  have d24 : decide ((0 : Int) ≤ 24) = true := rfl
  have d16 : decide ((0 : Int) ≤ 16) = true := rfl
  have d8 : decide ((0 : Int) ≤ 8) = true := rfl
  have q : ∀ (x : Int) (k : Nat), 0 ≤ x → x < 1000000007 → rngB .u64 (Int.fdiv x (2 ^ k)) = true := fun x k h0 h1 => fdiv_rng x _ h0 (by omega) (p k)
  have tr := fun x => tm_range _ (u64_nonneg x)
  generalize hx : Int.tmod (IntKind.wrap .u64 (a * b)) 1000000007 = x
  generalize hy : Int.tmod (IntKind.wrap .u64 c) 1000000007 = y
  have rx : 0 ≤ x ∧ x < 1000000007 := hx ▸ tr _
  have ry : 0 ≤ y ∧ y < 1000000007 := hy ▸ tr _
  have sx : rngB .u64 x = true := rng64 rx.1 (by omega)
  have sy : rngB .u64 y = true := rng64 ry.1 (by omega)
  have f4 : fits 4 1 = true := fits_of (by decide)
  have f8 : fits 8 1 = true := fits_of (by decide)
  have f12 : fits 12 1 = true := fits_of (by decide)
  have f16 : fits 16 1 = true := fits_of (by decide)
  simp -implicitDefEqProofs only [hx, hy, nz, sx, sy, d24, d16, d8, Bool.true_and, q _ _ ha0 ha, q _ _ hb0 hb1, q _ _ rx.1 rx.2, q _ _ ry.1 ry.2, cond_true, List.length_cons, List.length_nil, List.length_append, Nat.zero_add, Nat.reduceAdd, f4, f8, f12, f16]
  exact ⟨_, rfl, _, _, rfl⟩
theorem Of_tot (N : Nat) (s : Bs) (hs : s.length < N) (hb : s.length ≤ 1000000) (hN : 2 < N) : ∃ m : Bs, mark_Of_ (Ev.upto N) ((([s] : List Bs), ()), ()) = some ((m, ()), ()) := by
  have : wp (mark_Of_ (Ev.upto N) ((([s] : List Bs), ()), ())) (fun r => ∃ m : Bs, r = ((m, ()), ())) := by
    unfold mark_Of_ mark_New_775
    simp -implicitDefEqProofs only [Option.bind_some]
    refine wp_bind ?_
    refine wp_for (σ := (Int × Int) × Int) (fun i s2 => ((([s] : List Bs), ((1 : Int), ((i : Int), ()))), ((s2, ()), ()))) (fun i s2 => (0 ≤ s2.1.1 ∧ s2.1.1 < 1000000007) ∧ 0 ≤ s2.1.2 ∧ s2.1.2 < 1000000007) 1 ((7, 11), 0) rfl (by decide) (by omega) ?_
    rintro i ⟨⟨x, y⟩, z⟩ hi ⟨⟨hx0, hx1⟩, hy0, hy1⟩
    by_cases hi' : i < 1
    · obtain rfl : i = 0 := by omega
      have c0 : decide (((0 : Nat) : Int) < 1) = true := rfl
      have i0 : idx ([s] : List Bs) ((0 : Nat) : Int) = some s := rfl
      have w : IntKind.wrap .i64 (((0 : Nat) : Int) + 1) = ((0 + 1 : Nat) : Int) := by rw [wrap64 (by omega) (by omega)]; rfl
      simp -implicitDefEqProofs only [c0, cond_true, i0, Option.bind_some, w]
      refine wp_seq _ (Add_wp N s x y z hs hb hx0 hx1 hy0 hy1) ?_
      rintro _ ⟨a', b', c', rfl, h1, h2, h3, h4⟩
      exact ⟨_, rfl, by omega, ((a', b'), c'), rfl, ⟨h1, h2⟩, h3, h4⟩
    · have c0 : decide ((i : Int) < 1) = false := decide_eq_false (by omega)
      simp -implicitDefEqProofs only [c0, cond_false]
      refine ⟨_, rfl, ?_⟩
      refine wp_seq _ (Mark_wp _ x y z hx0 hx1 hy0 hy1) ?_
      rintro _ ⟨m, o, rfl⟩
      exact ⟨_, rfl, m, rfl⟩
  obtain ⟨r, e, m, rfl⟩ := this
  exact ⟨m, e⟩
end Go.En.Pl
