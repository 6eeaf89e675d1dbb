/- Text TD2 of this seat: written by a program of ours, or by hand; checked by Lean. -/
import Derived.Test.YtlambcopphejaaaGreatDoorTD1
set_option linter.unusedSimpArgs false
set_option linter.unusedVariables false
namespace Go.En.Pl
def lowr (c : Nat) : Nat := if (c / 32) % 2 = 0 then c + 32 else c
theorem istrconv_lower_fin : ∀ c : Fin 256, (istrconv_lower_ (Ev.upto 0) (((c.val : Int), ()), ()) : Option ((Int × Unit) × Unit)) = some (((lowr c.val : Int), ()), ()) := by decide +kernel
theorem istrconv_lower_eq (V : Ev) (c : Nat) (h : c < 256) : istrconv_lower_ V (((c : Int), ()), ()) = some (((lowr c : Int), ()), ()) := istrconv_lower_fin ⟨c, h⟩
theorem dvA : ∀ c : Fin 256, 48 ≤ c.val ∧ c.val ≤ 57 → dv c.val = c.val - 48 := by decide +kernel
theorem dvB10 : ∀ c : Fin 256, ¬ (48 ≤ c.val ∧ c.val ≤ 57) → ¬ dv c.val < 10 := by decide +kernel
theorem dvB16 : ∀ c : Fin 256, ¬ (48 ≤ c.val ∧ c.val ≤ 57) → 97 ≤ lowr c.val → lowr c.val ≤ 122 → (lowr c.val - 87 < 16 ↔ dv c.val < 16) ∧ (dv c.val < 16 → dv c.val = lowr c.val - 87) := by decide +kernel
theorem dvC16 : ∀ c : Fin 256, ¬ (48 ≤ c.val ∧ c.val ≤ 57) → ¬ (97 ≤ lowr c.val ∧ lowr c.val ≤ 122) → ¬ dv c.val < 16 := by decide +kernel
theorem fl (a b : Bool) : (bif a == true then b else false) = (a && b) := by cases a <;> rfl
theorem ofBs_get {s : Bs} {i : Nat} (h : i < s.length) : (ofBs s)[i]? = some ((s[i].toNat : Nat) : Int) := by
  simp [ofBs, h]
theorem istrconv_ParseUint_wp (N : Nat) (hN : 8 < N) (base : Nat) (hb : base = 10 ∨ base = 16) (s : Bs) (h0 : s ≠ []) (h7 : s.length ≤ 7) :
    wp (istrconv_ParseUint_ (Ev.upto N) ((s, ((base : Int), ((64 : Int), ()))), ())) (fun r => match nums base s 0 with | some n => r = (((n : Int), (none, ())), ()) | none => ∃ x, r = ((x, (some (2 : Int), ())), ())) := by
  unfold istrconv_ParseUint_
  have e0 : (s == ([] : Bs)) = false := by simpa using h0
  have b2 : decide ((2 : Int) ≤ (base : Int)) = true := by simp; omega
  have b36 : decide ((base : Int) ≤ 36) = true := by simp; omega
  have bz : ((base : Int) == 0) = false := by rw [beq_eq_false_iff_ne]; omega
  have w64 : IntKind.wrap .u64 (64 : Int) = 64 := wrapu64 (by decide) (by decide)
  have mv : IntKind.wrap .u64 (IntKind.wrap .u64 ((1 : Int) * 2 ^ (min (Int.toNat (64 : Int)) 64)) - 1) = 18446744073709551615 := by decide +kernel
  simp -implicitDefEqProofs only [e0, b2, b36, bz, w64, mv, cond_true, cond_false, Option.bind_some, beq_self_eq_true, show ((64 : Int) == 0) = false from rfl, show decide ((64 : Int) < 0) = false from rfl, show decide ((64 : Int) > 64) = false from rfl, show decide ((0 : Int) ≤ 64) = true from rfl]
  refine wp_seq (fun o => ∃ cut : Int, 1152921504606846976 ≤ cut ∧ o = ((s, ((base : Int), ((64 : Int), (false, (s, (cut, ())))))), ())) ?_ ?_
  · rcases hb with rfl | rfl
    · exact ⟨_, rfl, 1844674407370955162, by decide, rfl⟩
    · exact ⟨_, rfl, 1152921504606846976, by decide, rfl⟩
  rintro _ ⟨cut, hcut, rfl⟩
  simp -implicitDefEqProofs only [w64, mv, cond_true, show decide ((0 : Int) ≤ 64) = true from rfl]
  refine wp_bind ?_
  have hb16 : base ≤ 16 := by omega
  have wb64 : IntKind.wrap .u64 (base : Int) = (base : Int) := wrapu64 (by omega) (by omega)
  have wb8 : IntKind.wrap .u8 (base : Int) = (base : Int) := wrapu8 (by omega) (by omega)
  refine wp_for (σ := Nat) (fun i n => (((base : Int), (false, (s, (cut, ((18446744073709551615 : Int), (false, ((n : Int), ((((ofBs s).length : Nat) : Int), ((i : Int), ()))))))))), (ofBs s, ()))) (fun i n => n < 16 ^ i ∧ nums base (s.drop i) n = nums base s 0) s.length 0 rfl ⟨by decide, by simp⟩ (by omega) ?_
  rintro i n hi ⟨hn, hv⟩
  have hp7 : 16 ^ i ≤ 16 ^ 7 := Nat.pow_le_pow_right (by decide) (by omega)
  have hc3 : decide ((i : Int) < (((ofBs s).length : Nat) : Int)) = decide (i < s.length) := decide_eq_decide.2 (by rw [ofBs_length]; omega)
  by_cases hi' : i < s.length
  · have hc := byte_lt s[i]
    have ht : decide (i < s.length) = true := decide_eq_true hi'
    have h00 : decide ((0 : Int) ≤ (i : Int)) = true := decide_eq_true (by omega)
    rw [List.drop_eq_getElem_cons hi', nums] at hv
    simp -implicitDefEqProofs only [hc3, ht, h00, Bool.true_and, cond_true, Int.toNat_natCast, ofBs_get hi', Option.bind_some, condSome, cond_fst, cond_snd, Bool.cond_self, cond_false, fl]
    by_cases hA : 48 ≤ s[i].toNat ∧ s[i].toNat ≤ 57
    · have a1 : decide ((48 : Int) ≤ ((s[i].toNat : Nat) : Int)) = true := decide_eq_true (by omega)
      have a2 : decide (((s[i].toNat : Nat) : Int) ≤ 57) = true := decide_eq_true (by omega)
      have a3 : IntKind.wrap .u8 (((s[i].toNat : Nat) : Int) - 48) = ((s[i].toNat - 48 : Nat) : Int) := by rw [wrapu8 (by omega) (by omega)]; omega
      simp -implicitDefEqProofs only [a1, a2, a3, Bool.true_and, cond_true, Option.bind_some]
      have hdv : dv s[i].toNat = s[i].toNat - 48 := dvA ⟨s[i].toNat, hc⟩ hA
      have hde : dv s[i].toNat < base → s[i].toNat - 48 = dv s[i].toNat := fun _ => hdv.symm
      by_cases hd : dv s[i].toNat < base
      · have hD : (s[i].toNat - 48) = dv s[i].toNat := hde hd
        have t1 : decide ((((s[i].toNat - 48) : Nat) : Int) ≥ IntKind.wrap .u8 (base : Int)) = false := by rw [wb8]; exact decide_eq_false (by omega)
        have t2 : decide ((n : Int) ≥ cut) = false := decide_eq_false (by omega)
        have hmul : n * base + (s[i].toNat - 48) < 16 ^ (i + 1) := by
          have : (n + 1) * base ≤ 16 ^ i * 16 := Nat.mul_le_mul (by omega) hb16
          rw [Nat.succ_mul] at this
          rw [Nat.pow_succ]; omega
        have hp8 : 16 ^ (i + 1) ≤ 16 ^ 8 := Nat.pow_le_pow_right (by decide) (by omega)
        have hm0 : ((n : Int) * (base : Int)) = ((n * base : Nat) : Int) := by simp
        have u1 : IntKind.wrap .u64 ((n : Int) * (base : Int)) = ((n * base : Nat) : Int) := by rw [hm0]; exact wrapu64 (by omega) (by omega)
        have u2 : IntKind.wrap .u64 (((s[i].toNat - 48) : Nat) : Int) = (((s[i].toNat - 48) : Nat) : Int) := wrapu64 (by omega) (by omega)
        have u3 : IntKind.wrap .u64 (((n * base : Nat) : Int) + (((s[i].toNat - 48) : Nat) : Int)) = ((n * base + (s[i].toNat - 48) : Nat) : Int) := by rw [wrapu64 (by omega) (by omega)]; omega
        have t4 : decide (((n * base + (s[i].toNat - 48) : Nat) : Int) < ((n * base : Nat) : Int)) = false := decide_eq_false (by omega)
        have t5 : decide (((n * base + (s[i].toNat - 48) : Nat) : Int) > 18446744073709551615) = false := decide_eq_false (by omega)
        have wi : IntKind.wrap .i64 ((i : Int) + 1) = ((i + 1 : Nat) : Int) := by rw [wrap64 (by omega) (by omega)]; omega
        simp -implicitDefEqProofs only [t1, t2, wb64, u1, u2, u3, t4, t5, wi, beq_self_eq_true, cond_true, cond_false]
        exact ⟨_, rfl, hi', n * base + (s[i].toNat - 48), rfl, hmul, by rw [← hv, if_pos hd, hD]⟩
      · have t1 : decide ((((s[i].toNat - 48) : Nat) : Int) ≥ IntKind.wrap .u8 (base : Int)) = true := by rw [wb8]; exact decide_eq_true (by omega)
        rw [if_neg hd] at hv
        simp -implicitDefEqProofs only [t1, cond_true]
        refine ⟨_, rfl, ?_⟩
        rw [← hv]
        exact ⟨_, rfl, _, rfl⟩
    · have a1 : (decide ((48 : Int) ≤ ((s[i].toNat : Nat) : Int)) && decide (((s[i].toNat : Nat) : Int) ≤ 57)) = false := by
        by_cases h1 : 48 ≤ s[i].toNat
        · rw [show decide (((s[i].toNat : Nat) : Int) ≤ 57) = false from decide_eq_false (by omega), Bool.and_false]
        · rw [show decide ((48 : Int) ≤ ((s[i].toNat : Nat) : Int)) = false from decide_eq_false (by omega), Bool.false_and]
      have q58 := istrconv_lower_eq (Ev.upto N) s[i].toNat hc
      have hl256 : lowr s[i].toNat < 256 + 32 := by unfold lowr; split <;> omega
      simp -implicitDefEqProofs only [a1, cond_false]
      simp -implicitDefEqProofs only [q58, Option.bind_some, condSome, fl, cond_fst, cond_snd, Bool.cond_self]
      by_cases hB : 97 ≤ lowr s[i].toNat ∧ lowr s[i].toNat ≤ 122
      · have b1 : decide ((97 : Int) ≤ ((lowr s[i].toNat : Nat) : Int)) = true := decide_eq_true (by omega)
        have b2 : decide (((lowr s[i].toNat : Nat) : Int) ≤ 122) = true := decide_eq_true (by omega)
        have b3 : IntKind.wrap .u8 (IntKind.wrap .u8 (((lowr s[i].toNat : Nat) : Int) - 97) + 10) = ((lowr s[i].toNat - 87 : Nat) : Int) := by
          rw [wrapu8 (n := _ - 97) (by omega) (by omega), wrapu8 (by omega) (by omega)]; omega
        simp -implicitDefEqProofs only [b1, b2, b3, Bool.true_and, cond_true, Option.bind_some]
        have h16 := dvB16 ⟨s[i].toNat, hc⟩ hA hB.1 hB.2
        have h10 := dvB10 ⟨s[i].toNat, hc⟩ hA
        simp only at h16 h10
        have hde : dv s[i].toNat < base → lowr s[i].toNat - 87 = dv s[i].toNat := fun h => by
          have := h16.2; omega
        have hdn : ¬ dv s[i].toNat < base → ¬ lowr s[i].toNat - 87 < base := fun h => by
          have := h16.1
          rcases hb with rfl | rfl
          · omega
          · omega
        by_cases hd : dv s[i].toNat < base
        · have hD : (lowr s[i].toNat - 87) = dv s[i].toNat := hde hd
          have t1 : decide ((((lowr s[i].toNat - 87) : Nat) : Int) ≥ IntKind.wrap .u8 (base : Int)) = false := by rw [wb8]; exact decide_eq_false (by omega)
          have t2 : decide ((n : Int) ≥ cut) = false := decide_eq_false (by omega)
          have hmul : n * base + (lowr s[i].toNat - 87) < 16 ^ (i + 1) := by
            have : (n + 1) * base ≤ 16 ^ i * 16 := Nat.mul_le_mul (by omega) hb16
            rw [Nat.succ_mul] at this
            rw [Nat.pow_succ]; omega
          have hp8 : 16 ^ (i + 1) ≤ 16 ^ 8 := Nat.pow_le_pow_right (by decide) (by omega)
          have hm0 : ((n : Int) * (base : Int)) = ((n * base : Nat) : Int) := by simp
          have u1 : IntKind.wrap .u64 ((n : Int) * (base : Int)) = ((n * base : Nat) : Int) := by rw [hm0]; exact wrapu64 (by omega) (by omega)
          have u2 : IntKind.wrap .u64 (((lowr s[i].toNat - 87) : Nat) : Int) = (((lowr s[i].toNat - 87) : Nat) : Int) := wrapu64 (by omega) (by omega)
          have u3 : IntKind.wrap .u64 (((n * base : Nat) : Int) + (((lowr s[i].toNat - 87) : Nat) : Int)) = ((n * base + (lowr s[i].toNat - 87) : Nat) : Int) := by rw [wrapu64 (by omega) (by omega)]; omega
          have t4 : decide (((n * base + (lowr s[i].toNat - 87) : Nat) : Int) < ((n * base : Nat) : Int)) = false := decide_eq_false (by omega)
          have t5 : decide (((n * base + (lowr s[i].toNat - 87) : Nat) : Int) > 18446744073709551615) = false := decide_eq_false (by omega)
          have wi : IntKind.wrap .i64 ((i : Int) + 1) = ((i + 1 : Nat) : Int) := by rw [wrap64 (by omega) (by omega)]; omega
          simp -implicitDefEqProofs only [t1, t2, wb64, u1, u2, u3, t4, t5, wi, beq_self_eq_true, cond_true, cond_false]
          exact ⟨_, rfl, hi', n * base + (lowr s[i].toNat - 87), rfl, hmul, by rw [← hv, if_pos hd, hD]⟩
        · have t1 : decide ((((lowr s[i].toNat - 87) : Nat) : Int) ≥ IntKind.wrap .u8 (base : Int)) = true := by rw [wb8]; exact decide_eq_true (by omega)
          rw [if_neg hd] at hv
          simp -implicitDefEqProofs only [t1, cond_true]
          refine ⟨_, rfl, ?_⟩
          rw [← hv]
          exact ⟨_, rfl, _, rfl⟩
      · have b1 : (decide ((97 : Int) ≤ ((lowr s[i].toNat : Nat) : Int)) && decide (((lowr s[i].toNat : Nat) : Int) ≤ 122)) = false := by
          by_cases h1 : 97 ≤ lowr s[i].toNat
          · rw [show decide (((lowr s[i].toNat : Nat) : Int) ≤ 122) = false from decide_eq_false (by omega), Bool.and_false]
          · rw [show decide ((97 : Int) ≤ ((lowr s[i].toNat : Nat) : Int)) = false from decide_eq_false (by omega), Bool.false_and]
        simp -implicitDefEqProofs only [b1, cond_false, Option.bind_some]
        have h16 := dvC16 ⟨s[i].toNat, hc⟩ hA hB
        simp only at h16
        rw [if_neg (by omega)] at hv
        refine ⟨_, rfl, ?_⟩
        rw [← hv]
        exact ⟨_, rfl, _, rfl⟩
  · have ht : decide (i < s.length) = false := decide_eq_false hi'
    simp -implicitDefEqProofs only [hc3, ht, cond_false]
    refine ⟨_, rfl, ?_⟩
    rw [List.drop_eq_nil_of_le (by omega), nums] at hv
    rw [← hv]
    exact ⟨_, rfl, rfl⟩
end Go.En.Pl
