/- Text O7 of this seat: written by a program of ours, or by hand; checked by Lean. -/
import Derived.Test.YtadpiodjbcjlcaaO6
set_option linter.unusedVariables false
set_option linter.unusedSimpArgs false
namespace Go.En.Pl
/-! -/
theorem up_succ (d : List Nd) : ∀ (j : Nat) (x : Int), up d (j + 1) x = pr d (up d j x)
  | 0, x => rfl
  | j + 1, x => up_succ d j (pr d x)
theorem up_add (d : List Nd) : ∀ (i j : Nat) (x : Int), up d (i + j) x = up d j (up d i x)
  | 0, j, x => by rw [Nat.zero_add]; rfl
  | i + 1, j, x => by
    rw [show i + 1 + j = (i + j) + 1 by omega]
    exact up_add d i j (pr d x)
theorem pr_ge {d : List Nd} {x : Int} (h : ¬ (0 ≤ x ∧ x < d.length)) : pr d x = -1 := by
  unfold pr
  cases hx : idx d x with
  | none => rfl
  | some n => exact absurd ⟨(idx_some hx).1, (idx_some hx).2.1⟩ h
def ks (d : List Nd) (x : Int) : List Int := match idx d x with
  | some n => kidsOf n
  | none => []
theorem ks_nat {d : List Nd} {i : Nat} {n : Nd} (h : d[i]? = some n) : ks d (i : Int) = kidsOf n := by
  unfold ks idx
  rw [if_pos (by omega), Int.toNat_natCast, h]
def dn (d : List Nd) : Nat → Int → List Int
  | 0, _ => []
  | f + 1, x => x :: (ks d x).flatMap (dn d f)
def okD (d : List Nd) : Nat → Int → Prop
  | 0, _ => False
  | f + 1, x => ∀ k, k ∈ ks d x → okD d f k
theorem okD_mono {d : List Nd} : ∀ {f f' : Nat} {x : Int}, f ≤ f' → okD d f x → okD d f' x
  | 0, _, _, _, h => h.elim
  | f + 1, 0, _, hf, _ => by omega
  | f + 1, f' + 1, x, hf, h => fun k hk => okD_mono (by omega) (h k hk)
theorem dn_okD {d : List Nd} : ∀ {f f' : Nat} {x : Int}, f ≤ f' → okD d f x → dn d f' x = dn d f x
  | 0, _, _, _, h => h.elim
  | f + 1, 0, _, hf, _ => by omega
  | f + 1, f' + 1, x, hf, h => by
    unfold dn
    congr 1
    have : ∀ l : List Int, (∀ k, k ∈ l → okD d f k) → l.flatMap (dn d f') = l.flatMap (dn d f) := by
      intro l
      induction l with
      | nil => intro _; rfl
      | cons a l ih =>
        intro hl
        rw [List.flatMap_cons, List.flatMap_cons, dn_okD (by omega) (hl a (List.mem_cons_self ..)), ih fun k hk => hl k (List.mem_cons_of_mem _ hk)]
    exact this _ h
def In' (d : List Nd) (x : Int) : Prop := 0 ≤ x ∧ x < d.length
theorem In'.nat {d : List Nd} {x : Int} (h : In' d x) : ∃ (i : Nat) (n : Nd), x = (i : Int) ∧ d[i]? = some n := by
  obtain ⟨i, hi⟩ := Int.eq_ofNat_of_zero_le h.1
  have : i < d.length := by have := h.2; omega
  exact ⟨i, d[i], hi, List.getElem?_eq_getElem this⟩
theorem Right.mem_all {d : List Nd} (R : Right d) {k : Int} : k ∈ allKids d ↔ ∃ (i : Nat) (n : Nd), d[i]? = some n ∧ k ∈ kidsOf n := by
  unfold allKids
  rw [List.mem_flatMap]
  constructor
  · rintro ⟨n, hn, hk⟩
    obtain ⟨i, hi⟩ := List.getElem?_of_mem hn
    exact ⟨i, n, hi, hk⟩
  · rintro ⟨i, n, hi, hk⟩
    exact ⟨n, List.mem_of_getElem? hi, hk⟩
theorem Right.kid {d : List Nd} (R : Right d) {x k : Int} (h : k ∈ ks d x) : In' d x ∧ In' d k ∧ 1 ≤ k ∧ pr d k = x := by
  unfold ks at h
  cases hx : idx d x with
  | none => rw [hx] at h; simp at h
  | some n =>
    rw [hx] at h
    obtain ⟨h0, h1, h2⟩ := idx_some hx
    have hr := R.rng n (List.mem_of_getElem? h2) k h
    have hb := R.back _ n h2 k h
    exact ⟨⟨h0, h1⟩, ⟨by omega, hr.2⟩, hr.1, by rw [hb]; omega⟩
theorem Right.par {d : List Nd} (R : Right d) {k : Int} (hk : In' d k) (h : pr d k ≠ -1) : In' d (pr d k) ∧ k ∈ ks d (pr d k) := by
  obtain ⟨i, n, rfl, hi⟩ := hk.nat
  rw [pr_nat hi] at h ⊢
  obtain ⟨j, m, hj, hm⟩ := R.mem_all.1 (R.laid i n hi h)
  have := R.back j m hj _ hm
  rw [pr_nat hi] at this
  rw [this]
  have hl := (List.getElem?_eq_some_iff.1 hj).1
  exact ⟨⟨by omega, by omega⟩, by rw [ks_nat hj]; exact hm⟩
theorem Right.cl {d : List Nd} (R : Right d) (x : Int) (h0 : 0 ≤ x) (h1 : x < d.length) : pr d x = -1 ∨ (0 ≤ pr d x ∧ pr d x < d.length) := by
  by_cases h : pr d x = -1
  · exact .inl h
  · exact .inr (R.par ⟨h0, h1⟩ h).1
theorem Right.up_in {d : List Nd} (R : Right d) {x : Int} (hx : In' d x) : ∀ j, up d j x = -1 ∨ In' d (up d j x)
  | 0 => .inr hx
  | j + 1 => by
    rw [up_succ]
    rcases R.up_in hx j with h | h
    · rw [h]; exact .inl rfl
    · exact R.cl _ h.1 h.2
theorem Right.ends' {d : List Nd} (R : Right d) {x : Int} (hx : In' d x) : ∃ j, j ≤ d.length + 1 ∧ up d j x = -1 := by
  obtain ⟨i, n, rfl, hi⟩ := hx.nat
  obtain ⟨j, hj, hu⟩ := R.ends i n hi
  exact ⟨j + 1, by omega, by show up d j (pr d i) = -1; rw [pr_nat hi]; exact hu⟩
theorem Right.acyc {d : List Nd} (R : Right d) {x : Int} (hx : In' d x) (j : Nat) (h : up d (j + 1) x = x) : False := by
  obtain ⟨m, _, hm⟩ := R.ends' hx
  have hn : ∀ n, up d (n * (j + 1)) x = x := by
    intro n
    induction n with
    | zero => rw [Nat.zero_mul]; rfl
    | succ n ih => rw [Nat.add_mul, Nat.one_mul, up_add, ih]; exact h
  have h1 := hn m
  have : m * (j + 1) = m + m * j := by rw [Nat.mul_add, Nat.mul_one]; omega
  rw [this, up_add, hm, up_neg] at h1
  have := hx.1
  omega
theorem least {P : Nat → Prop} : ∀ n, P n → ∃ m, m ≤ n ∧ P m ∧ ∀ j, j < m → ¬ P j := by
  intro n
  induction n using Nat.strongRecOn with
  | ind n ih =>
    intro hn
    by_cases h : ∃ j, j < n ∧ P j
    · obtain ⟨j, hj, hp⟩ := h
      obtain ⟨m, h1, h2, h3⟩ := ih j hj hp
      exact ⟨m, by omega, h2, h3⟩
    · exact ⟨n, Nat.le_refl _, hn, fun j hj hp => h ⟨j, hj, hp⟩⟩
theorem Right.okDr {d : List Nd} (R : Right d) {x : Int} (hx : In' d x) : okD d (d.length + 2) x := by
  have key : ∀ (f m : Nat) (x : Int), In' d x → up d m x = -1 → (∀ j, j < m → up d j x ≠ -1) → d.length + 1 < m + f → okD d f x := by
    intro f
    induction f with
    | zero =>
      intro m x hx h1 h2 h3
      obtain ⟨j, hj, hu⟩ := R.ends' hx
      exact absurd hu (h2 j (by omega))
    | succ f ih =>
      intro m x hx h1 h2 h3 k hk
      obtain ⟨_, g1, g2, g3⟩ := R.kid hk
      refine ih (m + 1) k g1 (by show up d m (pr d k) = -1; rw [g3]; exact h1) (fun j hj => ?_) (by omega)
      cases j with
      | zero => have := g1.1; show k ≠ -1; omega
      | succ j => show up d j (pr d k) ≠ -1; rw [g3]; exact h2 j (by omega)
  obtain ⟨j, hj, hu⟩ := R.ends' hx
  obtain ⟨m, h1, h2, h3⟩ := least (P := fun m => up d m x = -1) j hu
  have hm0 : 0 < m := by
    rcases Nat.eq_zero_or_pos m with h | h
    · subst h; have := hx.1; simp only [up] at h2; omega
    · exact h
  exact key _ m x hx h2 h3 (by omega)
theorem Right.mem_dn {d : List Nd} (R : Right d) {y : Int} : ∀ {f : Nat} {x : Int}, y ∈ dn d f x → (∃ j, up d j y = x) ∧ (y = x ∨ In' d y)
  | 0, x, h => by simp [dn] at h
  | f + 1, x, h => by
    unfold dn at h
    rcases List.mem_cons.1 h with rfl | h
    · exact ⟨⟨0, rfl⟩, .inl rfl⟩
    · obtain ⟨k, hk, hy⟩ := List.mem_flatMap.1 h
      obtain ⟨⟨j, hj⟩, hin⟩ := R.mem_dn hy
      obtain ⟨_, g1, _, g3⟩ := R.kid hk
      refine ⟨⟨j + 1, by rw [up_succ, hj]; exact g3⟩, ?_⟩
      rcases hin with rfl | h
      · exact .inr g1
      · exact .inr h
theorem Right.dn_mem {d : List Nd} (R : Right d) {y : Int} (hy : In' d y) : ∀ (j : Nat) {f : Nat} {x : Int}, okD d f x → In' d x → up d j y = x → y ∈ dn d f x
  | 0, 0, x, h, _, _ => h.elim
  | 0, f + 1, x, _, _, h => by
    obtain rfl : y = x := h
    exact List.mem_cons_self ..
  | j + 1, 0, x, h, _, _ => h.elim
  | j + 1, f + 1, x, h, hx, hu => by
    rw [up_succ] at hu
    have hz : In' d (up d j y) := by
      rcases R.up_in hy j with h1 | h1
      · rw [h1, pr_neg] at hu; have := hx.1; omega
      · exact h1
    have hk := (R.par hz (by rw [hu]; have := hx.1; omega)).2
    rw [hu] at hk
    unfold dn
    exact List.mem_cons_of_mem _ (List.mem_flatMap.2 ⟨_, hk, R.dn_mem hy j (h _ hk) hz rfl⟩)
theorem flat_nodup {α β : Type} (f : α → List β) : ∀ {l : List α}, l.Nodup → (∀ a, a ∈ l → (f a).Nodup) → (∀ a b, a ∈ l → b ∈ l → a ≠ b → ∀ x, x ∈ f a → x ∈ f b → False) → (l.flatMap f).Nodup
  | [], _, _, _ => by simp
  | a :: l, h, h1, h2 => by
    obtain ⟨h3, h4⟩ := List.nodup_cons.1 h
    rw [List.flatMap_cons, List.nodup_append]
    refine ⟨h1 a (List.mem_cons_self ..), flat_nodup f h4 (fun b hb => h1 b (List.mem_cons_of_mem _ hb)) (fun b c hb hc => h2 b c (List.mem_cons_of_mem _ hb) (List.mem_cons_of_mem _ hc)), fun x hx y hy e => ?_⟩
    subst e
    obtain ⟨b, hb, hxb⟩ := List.mem_flatMap.1 hy
    exact h2 a b (List.mem_cons_self ..) (List.mem_cons_of_mem _ hb) (fun e => h3 (e ▸ hb)) x hx hxb
theorem Right.ks_nodup {d : List Nd} (R : Right d) (x : Int) : (ks d x).Nodup := by
  unfold ks
  cases hx : idx d x with
  | none => simp
  | some n =>
    have hn := List.mem_of_getElem? (idx_some hx).2.2
    refine List.Nodup.sublist ?_ R.nodup
    obtain ⟨l1, l2, e⟩ := List.append_of_mem hn
    show (kidsOf n).Sublist (allKids d)
    rw [e]
    simp only [allKids, List.flatMap_append, List.flatMap_cons]
    exact (List.sublist_append_left _ _).trans (List.sublist_append_right _ _)
theorem Right.dn_nodup {d : List Nd} (R : Right d) : ∀ (f : Nat) {x : Int}, In' d x → (dn d f x).Nodup
  | 0, x, _ => by simp [dn]
  | f + 1, x, hx => by
    unfold dn
    rw [List.nodup_cons]
    refine ⟨fun h => ?_, flat_nodup _ (R.ks_nodup x) (fun k hk => R.dn_nodup f (R.kid hk).2.1) (fun k1 k2 h1 h2 hne y hy1 hy2 => ?_)⟩
    · obtain ⟨k, hk, hxk⟩ := List.mem_flatMap.1 h
      obtain ⟨⟨j, hj⟩, _⟩ := R.mem_dn hxk
      exact R.acyc hx j (by rw [up_succ, hj]; exact (R.kid hk).2.2.2)
    · obtain ⟨⟨a, ha⟩, _⟩ := R.mem_dn hy1
      obtain ⟨⟨b, hb⟩, _⟩ := R.mem_dn hy2
      have p1 := (R.kid h1).2.2.2
      have p2 := (R.kid h2).2.2.2
      have main : ∀ (a b : Nat) (k1 k2 : Int), up d a y = k1 → up d b y = k2 → pr d k1 = x → pr d k2 = x → a < b → False := by
        intro a b k1 k2 ha hb p1 p2 hab
        obtain ⟨c, rfl⟩ : ∃ c, b = a + (c + 1) := ⟨b - a - 1, by omega⟩
        rw [up_add, ha] at hb
        have h3 : up d c x = k2 := by rw [← p1]; exact hb
        exact R.acyc hx c (by rw [up_succ, h3]; exact p2)
      rcases Nat.lt_trichotomy a b with h | h | h
      · exact main a b k1 k2 ha hb p1 p2 h
      · subst h; exact hne (ha.symm.trans hb)
      · exact main b a k2 k1 hb ha p2 p1 h
theorem Right.dn_in {d : List Nd} (R : Right d) (f : Nat) {x y : Int} (hx : In' d x) (h : y ∈ dn d f x) : In' d y := by
  rcases (R.mem_dn h).2 with rfl | h
  · exact hx
  · exact h
theorem Right.dn_len {d : List Nd} (R : Right d) (f : Nat) {x : Int} (hx : In' d x) : (dn d f x).length ≤ d.length :=
  nodupLen _ _ (R.dn_nodup f hx) fun k hk => R.dn_in f hx hk
def below (d : List Nd) (x : Int) : List Int := dn d 400 x
theorem Right.okD4 {d : List Nd} (R : Right d) {x : Int} (hx : In' d x) : okD d 400 x := okD_mono (by have := R.len; omega) (R.okDr hx)
theorem Right.mem_below {d : List Nd} (R : Right d) {x y : Int} (hx : In' d x) : y ∈ below d x ↔ In' d y ∧ ∃ j, up d j y = x :=
  ⟨fun h => ⟨R.dn_in _ hx h, (R.mem_dn h).1⟩, fun ⟨h1, j, h2⟩ => R.dn_mem h1 j (R.okD4 hx) hx h2⟩
end Go.En.Pl
