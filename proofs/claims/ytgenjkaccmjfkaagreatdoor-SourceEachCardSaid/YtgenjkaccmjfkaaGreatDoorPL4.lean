/- Text PL4 of this seat: written by a program of ours, or by hand; checked by Lean. -/
import Derived.Test.YtgenjkaccmjfkaaGreatDoorPL3
set_option linter.unusedSimpArgs false
set_option linter.unusedVariables false
namespace Go.En.Pl
/-! ### base: what is decoded -/
noncomputable def valN (c : UInt8) : Nat := (valB c).toNat
theorem valB_lt (c : UInt8) : valB c < 64 := by
  have := fa_byte (P := fun c => decide (valB c < 64)) (by kernel_rfl) c
  exact of_decide_eq_true this
theorem valN_eq (c : UInt8) (h : noV c = false) : valB c = ((valN c : Nat) : Int) ∧ valN c < 64 := by
  unfold noV at h
  have h0 := of_decide_eq_false h
  have := valB_lt c
  unfold valN
  omega
noncomputable def decF : Bs → Nat → Nat → Bs × Nat
  | [], _, n => ([], n)
  | c :: r, bits, n => if 2 ≤ bits then (UInt8.ofNat ((n * 64 + valN c) / 2 ^ (bits - 2)) :: (decF r (bits - 2) ((n * 64 + valN c) % 2 ^ (bits - 2))).1, (decF r (bits - 2) ((n * 64 + valN c) % 2 ^ (bits - 2))).2) else decF r (bits + 6) (n * 64 + valN c)
theorem decF_len : ∀ (l : Bs) (b n : Nat), (decF l b n).1.length ≤ l.length
  | [], _, _ => Nat.le_refl _
  | c :: r, b, n => by
    unfold decF
    split
    · have := decF_len r (b - 2) ((n * 64 + valN c) % 2 ^ (b - 2))
      simp only [List.length_cons]
      omega
    · have := decF_len r (b + 6) (n * 64 + valN c)
      simp only [List.length_cons]
      omega
noncomputable def decNo (s : Bs) : Bool := !formB s || ((headB s).length % 4 == 1 || (!(headB s == s) && s.length % 4 != 0))
noncomputable def decW (s : Bs) : Bs := if s = [] then [] else if decNo s = true then [] else if (decF (headB s) 0 0).2 = 0 then (decF (headB s) 0 0).1 else []
theorem or6 (x c : Nat) (hx : x < 1000000) (hc : c < 64) : IntKind.wrap .i64 ((BitVec.toNat (BitVec.ofInt 64 (IntKind.wrap .i64 ((x : Int) * 2 ^ (min (Int.toNat (6 : Int)) 64))) ||| BitVec.ofInt 64 ((c : Nat) : Int)) : Nat) : Int) = ((x * 64 + c : Nat) : Int) := by
  have e : (x : Int) * 2 ^ (min (Int.toNat (6 : Int)) 64) = ((x * 64 : Nat) : Int) := by
    rw [show min (Int.toNat (6 : Int)) 64 = 6 from rfl]; omega
  rw [e, wrap64 (n := ((x * 64 : Nat) : Int)) (by omega) (by omega), BitVec.ofInt_natCast, BitVec.ofInt_natCast, BitVec.toNat_or, BitVec.toNat_ofNat, BitVec.toNat_ofNat, Nat.mod_eq_of_lt (by omega), Nat.mod_eq_of_lt (by omega)]
  have h8 := Nat.shiftLeft_add_eq_or_of_lt (i := 6) (b := c) hc x
  rw [Nat.shiftLeft_eq] at h8
  rw [show x * 64 = x * 2 ^ 6 from rfl, ← h8]
  exact wrap64 (by omega) (by omega)
theorem andK (m k : Nat) (hm : m < 1000000) (hk : k ≤ 6) : IntKind.wrap .i64 ((BitVec.toNat (BitVec.ofInt 64 (m : Int) &&& BitVec.ofInt 64 (((2 ^ k - 1 : Nat) : Nat) : Int)) : Nat) : Int) = ((m % 2 ^ k : Nat) : Int) := by
  have h2 : 2 ^ k ≤ 2 ^ 6 := Nat.pow_le_pow_right (by decide) hk
  rw [BitVec.ofInt_natCast, BitVec.ofInt_natCast, BitVec.toNat_and, BitVec.toNat_ofNat, BitVec.toNat_ofNat, Nat.mod_eq_of_lt (show m < 2 ^ 64 by omega), Nat.mod_eq_of_lt (show 2 ^ k - 1 < 2 ^ 64 by omega), Nat.and_two_pow_sub_one_eq_mod]
  have := Nat.mod_le m (2 ^ k)
  exact wrap64 (by omega) (by omega)
theorem Decode_eq (N : Nat) (s : Bs) (hs : s.length ≤ 1000) (hN : 2000 < N) : wp (base_Decode_ (Ev.upto N) ((s, ()), ())) (fun o => ∃ b, o = ((decW s, (b, ())), ())) := by
  have qh := head_eq (Ev.upto N) s (by omega)
  have qf := form_eq N s (by omega) (by omega)
  have hh := headB_len s
  unfold base_Decode_
  simp -implicitDefEqProofs only [qh, Option.bind_some]
  by_cases h0 : s = []
  · subst h0
    exact ⟨_, rfl, true, by unfold decW; rw [if_pos rfl]⟩
  · have c0 : (s == ([] : Bs)) = false := by simpa using h0
    simp -implicitDefEqProofs only [c0, cond_false]
    have tm : ∀ n : Nat, Int.tmod ((n : Nat) : Int) (4 : Int) = ((n % 4 : Nat) : Int) := fun n => rfl
    have rg : ∀ n : Nat, rngB .i64 ((n % 4 : Nat) : Int) = true := fun n => by
      have : n % 4 < 4 := Nat.mod_lt _ (by decide)
      simp [rngB, IntKind.min, IntKind.max, IntKind.signed, IntKind.bits]; omega
    have ze : ∀ n k : Nat, (((n : Nat) : Int) == ((k : Nat) : Int)) = (n == k) := fun n k => by
      rw [Bool.eq_iff_iff, beq_iff_eq, beq_iff_eq]; omega
    have g : wp ((base_Form_ (Ev.upto N) ((s, ()), ())).bind fun v2 => (bif ((!v2.1.1) == false) then (bif ((4 : Int) != 0 && rngB .i64 (Int.tmod ((headB s).length : Int) (4 : Int))) then (bif (((Int.tmod ((headB s).length : Int) (4 : Int)) == (1 : Int)) == false) then (bif ((!(headB s == s)) == true) then (bif ((4 : Int) != 0 && rngB .i64 (Int.tmod ((s).length : Int) (4 : Int))) then (some ((headB s, (((Int.tmod ((s).length : Int) (4 : Int)) != (0 : Int)), ())), ())) else none) else (some ((headB s, (false, ())), ()))) else (some ((headB s, (true, ())), ()))) else none) else (some ((headB s, (true, ())), ())) : Option ((Bs × Bool × Unit) × Unit))) (fun o => o = ((headB s, (decNo s, ())), ())) := by
      simp -implicitDefEqProofs only [qf, Option.bind_some, tm, rg, show ((4 : Int) != 0) = true from rfl, Bool.and_self, cond_true]
      unfold decNo
      have z1 := ze ((headB s).length % 4) 1
      have z0 := ze (s.length % 4) 0
      rw [show ((1 : Nat) : Int) = 1 from rfl] at z1
      rw [show ((0 : Nat) : Int) = 0 from rfl] at z0
      simp -implicitDefEqProofs only [bne, z1, z0]
      cases formB s <;> cases ((headB s).length % 4 == 1) <;> cases (headB s == s) <;> exact ⟨_, rfl, rfl⟩
    obtain ⟨_, e, rfl⟩ := g
    rw [e]
    simp -implicitDefEqProofs only [Option.bind_some]
    unfold decW
    rw [if_neg h0]
    cases hno : decNo s with
    | true => exact ⟨_, rfl, false, by rw [if_pos rfl]⟩
    | false =>
      rw [if_neg (by decide)]
      have hform : formB s = true := by
        unfold decNo at hno
        cases hf : formB s with
        | true => rfl
        | false => rw [hf] at hno; simp at hno
      have hv : ∀ c ∈ headB s, noV c = false := fun c hc => by
        unfold formB at hform
        have := List.all_eq_true.1 (Bool.and_eq_true _ _ ▸ hform : _ ∧ _).2 c hc
        simpa using this
      generalize headB s = h at *
      simp -implicitDefEqProofs only [cond_false]
      refine wp_bind ?_
      generalize hT : decF h 0 0 = T
      refine wp_for (σ := Nat × Nat × Bs) (fun i x => ((h, ((x.1 : Int), ((x.2.1 : Int), ((h.length : Int), ((i : Int), ()))))), (ofBs x.2.2, ()))) (fun i x => (x.1 = 0 ∨ x.1 = 2 ∨ x.1 = 4 ∨ x.1 = 6) ∧ x.2.1 < 2 ^ x.1 ∧ x.2.2.length ≤ i ∧ (x.2.2 ++ (decF (h.drop i) x.1 x.2.1).1, (decF (h.drop i) x.1 x.2.1).2) = T) h.length (0, 0, []) rfl ⟨Or.inl rfl, by decide, by simp, by rw [← hT]; simp⟩ (by omega) ?_
      rintro i ⟨bits, n, o⟩ hi ⟨hb, hn, hol, hdec⟩
      simp only at hb hn hol hdec
      by_cases hi' : i < h.length
      · have c1 : decide ((i : Int) < (h.length : Int)) = true := decide_eq_true (by omega)
        have w : IntKind.wrap .i64 ((i : Int) + 1) = ((i + 1 : Nat) : Int) := by rw [wrap64 (by omega) (by omega)]; omega
        obtain ⟨hve, hvl⟩ := valN_eq h[i] (hv _ (List.getElem_mem hi'))
        have qv := bvalue_eq (Ev.upto N) h[i]
        rw [hve] at qv
        have hn64 : n < 64 := by rcases hb with rfl | rfl | rfl | rfl <;> simp at hn <;> omega
        have o6 := or6 n (valN h[i]) (by omega) hvl
        have w6 : IntKind.wrap .i64 ((bits : Int) + 6) = ((bits + 6 : Nat) : Int) := by rw [wrap64 (by omega) (by omega)]; omega
        rw [List.drop_eq_getElem_cons hi', decF] at hdec
        simp -implicitDefEqProofs only [c1, cond_true, idx_nat hi', Option.bind_some, qv, w6, o6]
        generalize hm : n * 64 + valN h[i] = m at *
        have hm4 : m < 4096 := by omega
        by_cases h2 : 2 ≤ bits
        · rw [if_pos h2] at hdec
          have c8 : decide (((bits + 6 : Nat) : Int) ≥ (8 : Int)) = true := decide_eq_true (by omega)
          have w8 : IntKind.wrap .i64 (((bits + 6 : Nat) : Int) - 8) = ((bits - 2 : Nat) : Int) := by rw [wrap64 (by omega) (by omega)]; omega
          have hmin : min (Int.toNat ((bits - 2 : Nat) : Int)) 64 = bits - 2 := by rw [Int.toNat_natCast]; omega
          have d0 : decide ((0 : Int) ≤ ((bits - 2 : Nat) : Int)) = true := decide_eq_true (by omega)
          have hdiv : m / 2 ^ (bits - 2) < 256 := by
            rcases hb with rfl | rfl | rfl | rfl <;> simp at hn ⊢ <;> omega
          have rgm : rngB .i64 ((m / 2 ^ (bits - 2) : Nat) : Int) = true := by
            generalize m / 2 ^ (bits - 2) = z at *
            rw [rngB, Bool.and_eq_true, decide_eq_true_eq, decide_eq_true_eq, show IntKind.i64.min = -9223372036854775808 from rfl, show IntKind.i64.max = 9223372036854775807 from rfl]
            omega
          have wu : IntKind.wrap .u8 ((m / 2 ^ (bits - 2) : Nat) : Int) = ((m / 2 ^ (bits - 2) : Nat) : Int) := by
            generalize m / 2 ^ (bits - 2) = z at *
            exact wrapu8 (by omega) (by omega)
          have hp64 : 2 ^ (bits - 2) ≤ 16 := by rcases hb with rfl | rfl | rfl | rfl <;> simp
          have hp1 : 1 ≤ 2 ^ (bits - 2) := Nat.one_le_two_pow
          have wm : IntKind.wrap .i64 ((IntKind.wrap .i64 ((1 : Int) * 2 ^ (bits - 2))) - (1 : Int)) = ((2 ^ (bits - 2) - 1 : Nat) : Int) := by
            rw [show ((1 : Int) * 2 ^ (bits - 2)) = ((2 ^ (bits - 2) : Nat) : Int) by simp]
            generalize 2 ^ (bits - 2) = z at *
            rw [wrap64 (n := (z : Int)) (by omega) (by omega), wrap64 (by omega) (by omega)]; omega
          have ak := andK m (bits - 2) (by omega) (by omega)
          have hof : ofBs o ++ ([((m / 2 ^ (bits - 2) : Nat) : Int)] : List Int) = ofBs (o ++ [UInt8.ofNat (m / 2 ^ (bits - 2))]) := by
            rw [← ofBs_append]
            congr 1
            show _ = [(((UInt8.ofNat (m / 2 ^ (bits - 2))).toNat : Nat) : Int)]
            rw [UInt8.toNat_ofNat', Nat.mod_eq_of_lt (by omega)]
          have hf : fits ((ofBs o).length + ([((m / 2 ^ (bits - 2) : Nat) : Int)] : List Int).length) 1 = true := fits_of (by rw [ofBs_length]; simp; omega)
          simp -implicitDefEqProofs only [c8, cond_true, w8, d0, hmin, fdivL, rgm, Bool.and_self, wu, hf, wm, ak, hof, Option.bind_some, w]
          refine ⟨_, rfl, hi', (bits - 2, m % 2 ^ (bits - 2), o ++ [UInt8.ofNat (m / 2 ^ (bits - 2))]), rfl, ?_, Nat.mod_lt _ (by omega), by simp; omega, ?_⟩
          · show bits - 2 = 0 ∨ bits - 2 = 2 ∨ bits - 2 = 4 ∨ bits - 2 = 6
            omega
          · rw [← hdec]
            simp
        · rw [if_neg h2] at hdec
          have c8 : decide (((bits + 6 : Nat) : Int) ≥ (8 : Int)) = false := decide_eq_false (by omega)
          have hb0 : bits = 0 := by omega
          subst hb0
          simp -implicitDefEqProofs only [c8, cond_false, Option.bind_some, w]
          refine ⟨_, rfl, hi', (6, m, o), rfl, by simp, ?_, by simp; omega, hdec⟩
          have : n < 1 := hn
          show m < 64
          omega
      · have c1 : decide ((i : Int) < (h.length : Int)) = false := decide_eq_false (by omega)
        have hii : i = h.length := by omega
        subst hii
        rw [List.drop_length, decF, List.append_nil] at hdec
        simp -implicitDefEqProofs only [c1, cond_false]
        refine ⟨_, rfl, ?_⟩
        simp -implicitDefEqProofs only []
        rw [← hdec]
        by_cases hz : n = 0
        · subst hz
          rw [if_pos rfl]
          exact ⟨_, rfl, true, by simp only [toBs_ofBs]⟩
        · rw [if_neg hz]
          have : (((n : Nat) : Int) != 0) = true := by simp; omega
          rw [this]
          exact ⟨_, rfl, false, rfl⟩
end Go.En.Pl
