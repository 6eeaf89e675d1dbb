/- Text PU3 of this seat: written by a program of ours, or by hand; checked by Lean. -/
import Derived.Test.YtikphcnjknbdmaaGreatDoorPU2
set_option linter.unusedSimpArgs false
set_option linter.unusedVariables false
namespace Go.En.Pl
/-! Addresses: trimmed texts, numbers, right or not. -/
abbrev Url := Bool × (Bs × (Bs × (Int × (Bs × Bs))))
def blanks : Bs := [9, 10, 12, 13, 32]
def trimB (s : Bs) : Bs := Lib.trimS s blanks
theorem trim_eq (V : Ev) (t : (Bs × Unit) × Unit) : fold_Trim_ V t = some ((trimB t.1.1, ()), ()) := rfl
theorem contains_blank (c : UInt8) : blanks.contains c = ((c.toNat : Int) == 9 || ((c.toNat : Int) == 10 || ((c.toNat : Int) == 12 || ((c.toNat : Int) == 13 || (c.toNat : Int) == 32)))) := by
  have h : ∀ k : UInt8, (c == k) = ((c.toNat : Int) == (k.toNat : Int)) := fun k => by
    rw [Bool.eq_iff_iff]
    simp only [beq_iff_eq]
    constructor
    · rintro rfl; rfl
    · intro h; exact UInt8.toNat_inj.1 (by omega)
  unfold blanks
  simp only [List.contains_cons, List.contains_nil, Bool.or_false, h]
  rfl
theorem rblank_eq (V : Ev) (t : (Int × Unit) × Unit) : pounceref02_Blank_ V t = some ((t.1.1 == 9 || (t.1.1 == 10 || (t.1.1 == 12 || (t.1.1 == 13 || t.1.1 == 32))), ()), ()) := by
  unfold pounceref02_Blank_
  cases t.1.1 == (9 : Int) <;> cases t.1.1 == (10 : Int) <;> cases t.1.1 == (12 : Int) <;> cases t.1.1 == (13 : Int) <;> rfl
theorem rblank_at (V : Ev) (c : UInt8) : pounceref02_Blank_ V ((((c.toNat : Nat) : Int), ()), ()) = some ((blanks.contains c, ()), ()) := by
  rw [rblank_eq, contains_blank]
theorem rtrim_eq (N : Nat) (s : Bs) (hN : s.length + 1 < N) (hb : s.length ≤ 1000000) : pounceref02_Trim_ (Ev.upto N) ((s, ()), ()) = some ((trimB s, ()), ()) := by
  apply wp_eq
  unfold pounceref02_Trim_
  refine wp_bind ?_
  refine wp_for (σ := Unit) (fun i _ => ((s, ((i : Int), ())), ())) (fun i _ => ∀ (j : Nat) b, j < i → s[j]? = some b → blanks.contains b = true) s.length () rfl (fun j b h => by omega) (by omega) ?_
  rintro i _ hi hn
  have back : ∀ (from_ : Nat), from_ ≤ s.length → (∀ (j : Nat) b, j < from_ → s[j]? = some b → blanks.contains b = true) → (∀ b, s[from_]? = some b → blanks.contains b = false) →
      wp (((Ev.upto N).it (α := ((Bs × Int × Int × Unit) × (Unit))) (β := ((Bs × Int × Int × Unit) × (Unit))) (fun s6 => ((bif (decide (s6.1.2.2.1 > s6.1.2.1) == true) then ((idx s6.1.1 (IntKind.wrap .i64 (s6.1.2.2.1 - (1 : Int)))).bind fun v7 => ((pounceref02_Blank_ (Ev.upto N) ((((v7).toNat : Int), ()), ())).bind fun v8 => (some ((s6.1.1, (s6.1.2.1, (s6.1.2.2.1, (v8.1.1, ())))), ())))) else (some ((s6.1.1, (s6.1.2.1, (s6.1.2.2.1, (false, ())))), ()))).bind fun o9 => (bif o9.1.2.2.2.1 then (some (Sum.inl ((o9.1.1, (o9.1.2.1, ((IntKind.wrap .i64 (o9.1.2.2.1 - (1 : Int))), ()))), ()))) else (some (Sum.inr ((o9.1.1, (o9.1.2.1, (o9.1.2.2.1, ()))), ())))))) ((s, ((from_ : Int), ((s.length : Int), ()))), ())).bind fun o10 => ((sl o10.1.1 o10.1.2.1 o10.1.2.2.1).bind fun v11 => (some ((v11, ()), ())))) (fun r => r = ((trimB s, ()), ())) := by
    intro from_ hf h1 h2
    refine wp_bind ?_
    refine wp_it (fun a => ∃ k : Nat, a = ((s, ((from_ : Int), ((k : Int), ()))), ()) ∧ from_ ≤ k ∧ k ≤ s.length ∧ ∀ (j : Nat) b, k ≤ j → s[j]? = some b → blanks.contains b = true) (fun a => a.1.2.2.1.toNat) ⟨s.length, rfl, hf, Nat.le_refl _, fun j b hj hb => by rw [List.getElem?_eq_none (by omega)] at hb; cases hb⟩ (by simp; omega) ?_
    rintro _ ⟨k, rfl, hk1, hk2, hk3⟩
    have stop : (k = from_ ∨ ∃ h : k - 1 < s.length, 0 < k ∧ blanks.contains s[k - 1] = false) → trimB s = (s.take k).drop from_ := by
      intro h
      unfold trimB Lib.trimS
      by_cases hfk : from_ = s.length
      · have hk : k = s.length := by omega
        have hall : ∀ (j : Nat) b, 0 ≤ j → s[j]? = some b → blanks.contains b = true := fun j b _ hb => h1 j b (by rw [hfk]; exact (List.getElem?_eq_some_iff.1 hb).1) hb
        rw [Lib.trimRightS_take s blanks 0 (Nat.zero_le _) hall (fun b h0 => absurd h0 (by omega)), hk, hfk, List.take_length, List.drop_length]
        rfl
      · have hlt : from_ < s.length := by omega
        have hnb := h2 _ (List.getElem?_eq_getElem hlt)
        have hkf : from_ < k := by
          rcases Nat.lt_or_ge from_ k with h' | h'
          · exact h'
          · have := hk3 from_ _ h' (List.getElem?_eq_getElem hlt)
            rw [hnb] at this; cases this
        have hlast : ∀ b, 0 < k → s[k - 1]? = some b → blanks.contains b = false := by
          intro b _ hb
          rcases h with h | ⟨h3, h4, h5⟩
          · omega
          · rw [List.getElem?_eq_getElem h3] at hb; cases hb; exact h5
        rw [Lib.trimRightS_take s blanks k hk2 hk3 hlast]
        refine Lib.trimLeftS_drop _ blanks from_ (by simp; omega) (fun j b hj hb => ?_) (fun b hb => ?_)
        · rw [List.getElem?_take, if_pos (by omega)] at hb
          exact h1 j b hj hb
        · rw [List.getElem?_take, if_pos hkf] at hb
          exact h2 b hb
    have fin : trimB s = (s.take k).drop from_ → wp ((sl s (from_ : Int) (k : Int)).bind fun v11 => (some ((v11, ()), ()) : Option ((Bs × Unit) × Unit))) (fun r => r = ((trimB s, ()), ())) := fun h => by
      rw [sl_nat hk1 hk2]
      exact ⟨_, rfl, by rw [h]⟩
    by_cases hgt : from_ < k
    · have c0 : decide ((k : Int) > (from_ : Int)) = true := decide_eq_true (by omega)
      have w : IntKind.wrap .i64 ((k : Int) - 1) = ((k - 1 : Nat) : Int) := by rw [wrap64 (by omega) (by omega)]; omega
      have hk' : k - 1 < s.length := by omega
      have qb := rblank_at (Ev.upto N) s[k - 1]
      simp -implicitDefEqProofs only [c0, beq_self_eq_true, cond_true, w, idx_nat hk', Option.bind_some, qb]
      cases hc : blanks.contains s[k - 1] with
      | true =>
        refine wp_some ⟨⟨k - 1, by simp only [w], by omega, by omega, fun j b hj hb => ?_⟩, by simp only [w, Int.toNat_natCast]; omega⟩
        rcases Nat.lt_or_ge j k with h' | h'
        · obtain rfl : j = k - 1 := by omega
          rw [List.getElem?_eq_getElem hk'] at hb; cases hb; exact hc
        · exact hk3 j b h' hb
      | false => exact wp_some (fin (stop (.inr ⟨hk', by omega, hc⟩)))
    · have c0 : decide ((k : Int) > (from_ : Int)) = false := decide_eq_false (by omega)
      simp -implicitDefEqProofs only [c0, show (false == true) = false from rfl, cond_false, Option.bind_some]
      exact wp_some (fin (stop (.inl (by omega))))
  by_cases hi' : i < s.length
  · have c0 : decide ((i : Int) < (s.length : Int)) = true := decide_eq_true (by omega)
    have w : IntKind.wrap .i64 ((i : Int) + 1) = ((i + 1 : Nat) : Int) := by rw [wrap64 (by omega) (by omega)]; omega
    have qb := rblank_at (Ev.upto N) s[i]
    simp -implicitDefEqProofs only [c0, beq_self_eq_true, cond_true, idx_nat hi', Option.bind_some, qb]
    cases hc : blanks.contains s[i] with
    | true =>
      refine wp_some ⟨hi', (), by simp only [w], fun j b hj hb => ?_⟩
      rcases Nat.lt_or_ge j i with h' | h'
      · exact hn j b h' hb
      · obtain rfl : j = i := by omega
        rw [List.getElem?_eq_getElem hi'] at hb; cases hb; exact hc
    | false => exact wp_some (back i (by omega) hn fun b hb => by rw [List.getElem?_eq_getElem hi'] at hb; cases hb; exact hc)
  · have c0 : decide ((i : Int) < (s.length : Int)) = false := decide_eq_false (by omega)
    obtain rfl : i = s.length := by omega
    simp -implicitDefEqProofs only [c0, show (false == true) = false from rfl, cond_false, Option.bind_some]
    exact wp_some (back s.length (Nat.le_refl _) hn fun b hb => by rw [List.getElem?_eq_none (Nat.le_refl _)] at hb; cases hb)
/-! ### Numbers -/
theorem itoa_eq (V : Ev) (n : Int) (h0 : 0 ≤ n) : strconv_Itoa_ V ((n, ()), ()) = some ((digs 20 n.toNat, ()), ()) := by
  have : istrconv_Itoa_ V ((n, ()), ()) = some ((digs 20 n.toNat, ()), ()) := by
    unfold istrconv_Itoa_ gItoa
    rw [decide_eq_false (show ¬ n < 0 by omega)]
    rfl
  unfold strconv_Itoa_
  simp -implicitDefEqProofs only [this, Option.bind_some]
theorem digit_one : ∀ (n : Nat), n < 10 → sl ([48, 49, 50, 51, 52, 53, 54, 55, 56, 57] : Bs) (n : Int) (IntKind.wrap .i64 ((n : Int) + 1)) = some [UInt8.ofNat (48 + n)] := by decide +kernel
theorem digs_step (k u : Nat) (h : 10 ≤ u) : digs (k + 1) u = digs k (u / 10) ++ digs 1 (u % 10) := by
  rw [digs, decide_eq_false (by omega), cond_false]
  congr 1
  rw [digs, decide_eq_true (by omega), cond_true]
theorem Digits_eq (V : Ev) : ∀ (k u : Nat), u < 10 ^ k → k ≤ 10 → ∀ m, k ≤ m → pounceref05_Digits_N V (m + 1) (((u : Int), ()), ()) = some ((digs (k + 1) u, ()), ())
  | 0, u, h, _, m, _ => by
    obtain rfl : u = 0 := by simp at h; exact h
    rfl
  | k + 1, u, h, hk, m, hm => by
    obtain ⟨m, rfl⟩ : ∃ x, m = x + 1 := ⟨m - 1, by omega⟩
    show pounceref05_Digits_B V (pounceref05_Digits_N V (m + 1)) (((u : Int), ()), ()) = _
    have hu : u < 10 ^ 11 := Nat.lt_of_lt_of_le h (Nat.pow_le_pow_right (by decide) (by omega))
    unfold pounceref05_Digits_B
    by_cases h10 : u < 10
    · have c0 : decide ((u : Int) < 10) = true := decide_eq_true (by omega)
      simp -implicitDefEqProofs only [c0, cond_true, digit_one u h10, Option.bind_some]
      rw [digs, decide_eq_true h10, cond_true]
    · have c0 : decide ((u : Int) < 10) = false := decide_eq_false (by omega)
      have e1 : IntKind.wrap .i64 (Int.tdiv (u : Int) 10) = ((u / 10 : Nat) : Int) := by
        rw [Int.tdiv_eq_ediv_of_nonneg (by omega), wrap64 (by omega) (by omega)]; omega
      have e2 : Int.tmod (u : Int) 10 = ((u % 10 : Nat) : Int) := by rw [Int.tmod_eq_emod_of_nonneg (by omega)]; omega
      have e3 : rngB .i64 ((u % 10 : Nat) : Int) = true := by
        simp [rngB, IntKind.min, IntKind.max, IntKind.signed, IntKind.bits]; omega
      have nz : ((10 : Int) != 0) = true := rfl
      have q1 := Digits_eq V k (u / 10) (by rw [Nat.pow_succ] at h; omega) (by omega) m (by omega)
      have q2 : pounceref05_Digits_N V (m + 1) ((((u % 10 : Nat) : Int), ()), ()) = some ((digs 1 (u % 10), ()), ()) := by
        show pounceref05_Digits_B V (pounceref05_Digits_N V m) ((((u % 10 : Nat) : Int), ()), ()) = _
        unfold pounceref05_Digits_B
        have c1 : decide (((u % 10 : Nat) : Int) < 10) = true := decide_eq_true (by omega)
        simp -implicitDefEqProofs only [c1, cond_true, digit_one (u % 10) (by omega), Option.bind_some]
        rw [digs, decide_eq_true (by omega), cond_true]
      have l1 := digs_le (k + 1) (u / 10)
      have l2 := digs_le 1 (u % 10)
      have f : strFits ((digs (k + 1) (u / 10)).length + (digs 1 (u % 10)).length) = true := strFits_of (by omega)
      simp -implicitDefEqProofs only [c0, cond_false, e1, q1, Option.bind_some, e2, nz, e3, Bool.and_self, cond_true, q2, f]
      rw [digs_step (k + 1) u (by omega)]
theorem rdigits_eq (N : Nat) (n : Int) (h0 : 0 ≤ n) (h1 : n ≤ 65535) (hN : 20 < N) : pounceref05_Digits_ (Ev.upto N) ((n, ()), ()) = some ((digs 20 n.toNat, ()), ()) := by
  obtain ⟨u, rfl⟩ := Int.eq_ofNat_of_zero_le h0
  have h := Digits_eq (Ev.upto N) 5 u (by omega) (by decide) (N - 1) (by omega)
  rw [show N - 1 + 1 = N by omega, digs_eq 6 u (by omega) (by decide)] at h
  rw [Int.toNat_natCast, digs_eq 20 u (by omega) (by decide)]
  exact h
end Go.En.Pl
