/- Text SM3 of this seat: written by a program of ours, or by hand; checked by Lean. -/
import Derived.Test.YtgenjkaccmjfkaaGreatDoorSM2
set_option linter.unusedSimpArgs false
set_option linter.unusedVariables false
namespace Go.En.Pl
/-! ### base: what is decoded -/
noncomputable def valN (c : UInt8) : Nat := (valB c).toNat
theorem valB_lt (c : UInt8) : valB c < 64 := by
  have := fa_byte (P := fun c => decide (valB c < 64)) (by kernel_rfl) c
  exact of_decide_eq_true this
theorem valN_eq (c : UInt8) (h : noV c = false) : valB c = ((valN c : Nat) : Int) ∧ valN c < 64 := by
  unfold noV at h
  have h0 := of_decide_eq_false h
  have := valB_lt c
  unfold valN
  omega
noncomputable def decF : Bs → Nat → Nat → Bs × Nat
  | [], _, n => ([], n)
  | c :: r, bits, n => if 2 ≤ bits then (UInt8.ofNat ((n * 64 + valN c) / 2 ^ (bits - 2)) :: (decF r (bits - 2) ((n * 64 + valN c) % 2 ^ (bits - 2))).1, (decF r (bits - 2) ((n * 64 + valN c) % 2 ^ (bits - 2))).2) else decF r (bits + 6) (n * 64 + valN c)
theorem decF_len : ∀ (l : Bs) (b n : Nat), (decF l b n).1.length ≤ l.length
  | [], _, _ => Nat.le_refl _
  | c :: r, b, n => by
    unfold decF
    split
    · have := decF_len r (b - 2) ((n * 64 + valN c) % 2 ^ (b - 2))
      simp only [List.length_cons]
      omega
    · have := decF_len r (b + 6) (n * 64 + valN c)
      simp only [List.length_cons]
      omega
noncomputable def decNo (s : Bs) : Bool := !formB s || ((headB s).length % 4 == 1 || (!(headB s == s) && s.length % 4 != 0))
noncomputable def decW (s : Bs) : Bs := if s = [] then [] else if decNo s = true then [] else if (decF (headB s) 0 0).2 = 0 then (decF (headB s) 0 0).1 else []
theorem or6 (x c : Nat) (hx : x < 1000000) (hc : c < 64) : IntKind.wrap .i64 ((BitVec.toNat (BitVec.ofInt 64 (IntKind.wrap .i64 ((x : Int) * 2 ^ (min (Int.toNat (6 : Int)) 64))) ||| BitVec.ofInt 64 ((c : Nat) : Int)) : Nat) : Int) = ((x * 64 + c : Nat) : Int) := by
  have e : (x : Int) * 2 ^ (min (Int.toNat (6 : Int)) 64) = ((x * 64 : Nat) : Int) := by
    rw [show min (Int.toNat (6 : Int)) 64 = 6 from rfl]; omega
  rw [e, wrap64 (n := ((x * 64 : Nat) : Int)) (by omega) (by omega), BitVec.ofInt_natCast, BitVec.ofInt_natCast, BitVec.toNat_or, BitVec.toNat_ofNat, BitVec.toNat_ofNat, Nat.mod_eq_of_lt (by omega), Nat.mod_eq_of_lt (by omega)]
  have h8 := Nat.shiftLeft_add_eq_or_of_lt (i := 6) (b := c) hc x
  rw [Nat.shiftLeft_eq] at h8
  rw [show x * 64 = x * 2 ^ 6 from rfl, ← h8]
  exact wrap64 (by omega) (by omega)
theorem andK (m k : Nat) (hm : m < 1000000) (hk : k ≤ 6) : IntKind.wrap .i64 ((BitVec.toNat (BitVec.ofInt 64 (m : Int) &&& BitVec.ofInt 64 (((2 ^ k - 1 : Nat) : Nat) : Int)) : Nat) : Int) = ((m % 2 ^ k : Nat) : Int) := by
  have h2 : 2 ^ k ≤ 2 ^ 6 := Nat.pow_le_pow_right (by decide) hk
  rw [BitVec.ofInt_natCast, BitVec.ofInt_natCast, BitVec.toNat_and, BitVec.toNat_ofNat, BitVec.toNat_ofNat, Nat.mod_eq_of_lt (show m < 2 ^ 64 by omega), Nat.mod_eq_of_lt (show 2 ^ k - 1 < 2 ^ 64 by omega), Nat.and_two_pow_sub_one_eq_mod]
  have := Nat.mod_le m (2 ^ k)
  exact wrap64 (by omega) (by omega)
theorem Decode_eq (N : Nat) (s : Bs) (hs : s.length ≤ 1000) (hN : 2000 < N) : wp (base_Decode_ (Ev.upto N) ((s, ()), ())) (fun o => ∃ b, o = ((decW s, (b, ())), ())) := by
  have qh := head_eq (Ev.upto N) s (by omega)
  have qf := form_eq N s (by omega) (by omega)
  have hh := headB_len s
  unfold base_Decode_
  simp -implicitDefEqProofs only [qh, Option.bind_some]
  by_cases h0 : s = []
  · subst h0
    exact ⟨_, rfl, true, by unfold decW; rw [if_pos rfl]⟩
  · have c0 : (s == ([] : Bs)) = false := by simpa using h0
    simp -implicitDefEqProofs only [c0, cond_false]
    have tm : ∀ n : Nat, Int.tmod ((n : Nat) : Int) (4 : Int) = ((n % 4 : Nat) : Int) := fun n => rfl
    have rg : ∀ n : Nat, rngB .i64 ((n % 4 : Nat) : Int) = true := fun n => by
      have : n % 4 < 4 := Nat.mod_lt _ (by decide)
      simp [rngB, IntKind.min, IntKind.max, IntKind.signed, IntKind.bits]; omega
    have ze : ∀ n k : Nat, (((n : Nat) : Int) == ((k : Nat) : Int)) = (n == k) := fun n k => by
      rw [Bool.eq_iff_iff, beq_iff_eq, beq_iff_eq]; omega
    have g : wp ((base_Form_ (Ev.upto N) ((s, ()), ())).bind fun v2 => (bif ((!v2.1.1) == false) then (bif ((4 : Int) != 0 && rngB .i64 (Int.tmod ((headB s).length : Int) (4 : Int))) then (bif (((Int.tmod ((headB s).length : Int) (4 : Int)) == (1 : Int)) == false) then (bif ((!(headB s == s)) == true) then (bif ((4 : Int) != 0 && rngB .i64 (Int.tmod ((s).length : Int) (4 : Int))) then (some ((headB s, (((Int.tmod ((s).length : Int) (4 : Int)) != (0 : Int)), ())), ())) else none) else (some ((headB s, (false, ())), ()))) else (some ((headB s, (true, ())), ()))) else none) else (some ((headB s, (true, ())), ())) : Option ((Bs × Bool × Unit) × Unit))) (fun o => o = ((headB s, (decNo s, ())), ())) := by
      simp -implicitDefEqProofs only [qf, Option.bind_some, tm, rg, show ((4 : Int) != 0) = true from rfl, Bool.and_self, cond_true]
      unfold decNo
      have z1 := ze ((headB s).length % 4) 1
      have z0 := ze (s.length % 4) 0
      rw [show ((1 : Nat) : Int) = 1 from rfl] at z1
      rw [show ((0 : Nat) : Int) = 0 from rfl] at z0
      simp -implicitDefEqProofs only [bne, z1, z0]
      cases formB s <;> cases ((headB s).length % 4 == 1) <;> cases (headB s == s) <;> exact ⟨_, rfl, rfl⟩
    obtain ⟨_, e, rfl⟩ := g
    rw [e]
    simp -implicitDefEqProofs only [Option.bind_some]
    unfold decW
    rw [if_neg h0]
    cases hno : decNo s with
    | true => exact ⟨_, rfl, false, by rw [if_pos rfl]⟩
    | false =>
      rw [if_neg (by decide)]
      have hform : formB s = true := by
        unfold decNo at hno
        cases hf : formB s with
        | true => rfl
        | false => rw [hf] at hno; simp at hno
      have hv : ∀ c ∈ headB s, noV c = false := fun c hc => by
        unfold formB at hform
        have := List.all_eq_true.1 (Bool.and_eq_true _ _ ▸ hform : _ ∧ _).2 c hc
        simpa using this
      generalize headB s = h at *
      simp -implicitDefEqProofs only [cond_false]
      refine wp_bind ?_
      generalize hT : decF h 0 0 = T
      refine wp_for (σ := Nat × Nat × Bs) (fun i x => ((h, ((x.1 : Int), ((x.2.1 : Int), ((h.length : Int), ((i : Int), ()))))), (ofBs x.2.2, ()))) (fun i x => (x.1 = 0 ∨ x.1 = 2 ∨ x.1 = 4 ∨ x.1 = 6) ∧ x.2.1 < 2 ^ x.1 ∧ x.2.2.length ≤ i ∧ (x.2.2 ++ (decF (h.drop i) x.1 x.2.1).1, (decF (h.drop i) x.1 x.2.1).2) = T) h.length (0, 0, []) rfl ⟨Or.inl rfl, by decide, by simp, by rw [← hT]; simp⟩ (by omega) ?_
      rintro i ⟨bits, n, o⟩ hi ⟨hb, hn, hol, hdec⟩
      simp only at hb hn hol hdec
      by_cases hi' : i < h.length
      · have c1 : decide ((i : Int) < (h.length : Int)) = true := decide_eq_true (by omega)
        have w : IntKind.wrap .i64 ((i : Int) + 1) = ((i + 1 : Nat) : Int) := by rw [wrap64 (by omega) (by omega)]; omega
        obtain ⟨hve, hvl⟩ := valN_eq h[i] (hv _ (List.getElem_mem hi'))
        have qv := bvalue_eq (Ev.upto N) h[i]
        rw [hve] at qv
        have hn64 : n < 64 := by rcases hb with rfl | rfl | rfl | rfl <;> simp at hn <;> omega
        have o6 := or6 n (valN h[i]) (by omega) hvl
        have w6 : IntKind.wrap .i64 ((bits : Int) + 6) = ((bits + 6 : Nat) : Int) := by rw [wrap64 (by omega) (by omega)]; omega
        rw [List.drop_eq_getElem_cons hi', decF] at hdec
        simp -implicitDefEqProofs only [c1, cond_true, idx_nat hi', Option.bind_some, qv, w6, o6]
        generalize hm : n * 64 + valN h[i] = m at *
        have hm4 : m < 4096 := by omega
        by_cases h2 : 2 ≤ bits
        · rw [if_pos h2] at hdec
          have c8 : decide (((bits + 6 : Nat) : Int) ≥ (8 : Int)) = true := decide_eq_true (by omega)
          have w8 : IntKind.wrap .i64 (((bits + 6 : Nat) : Int) - 8) = ((bits - 2 : Nat) : Int) := by rw [wrap64 (by omega) (by omega)]; omega
          have hmin : min (Int.toNat ((bits - 2 : Nat) : Int)) 64 = bits - 2 := by rw [Int.toNat_natCast]; omega
          have d0 : decide ((0 : Int) ≤ ((bits - 2 : Nat) : Int)) = true := decide_eq_true (by omega)
          have hdiv : m / 2 ^ (bits - 2) < 256 := by
            rcases hb with rfl | rfl | rfl | rfl <;> simp at hn ⊢ <;> omega
          have rgm : rngB .i64 ((m / 2 ^ (bits - 2) : Nat) : Int) = true := by
            generalize m / 2 ^ (bits - 2) = z at *
            rw [rngB, Bool.and_eq_true, decide_eq_true_eq, decide_eq_true_eq, show IntKind.i64.min = -9223372036854775808 from rfl, show IntKind.i64.max = 9223372036854775807 from rfl]
            omega
          have wu : IntKind.wrap .u8 ((m / 2 ^ (bits - 2) : Nat) : Int) = ((m / 2 ^ (bits - 2) : Nat) : Int) := by
            generalize m / 2 ^ (bits - 2) = z at *
            exact wrapu8 (by omega) (by omega)
          have hp64 : 2 ^ (bits - 2) ≤ 16 := by rcases hb with rfl | rfl | rfl | rfl <;> simp
          have hp1 : 1 ≤ 2 ^ (bits - 2) := Nat.one_le_two_pow
          have wm : IntKind.wrap .i64 ((IntKind.wrap .i64 ((1 : Int) * 2 ^ (bits - 2))) - (1 : Int)) = ((2 ^ (bits - 2) - 1 : Nat) : Int) := by
            rw [show ((1 : Int) * 2 ^ (bits - 2)) = ((2 ^ (bits - 2) : Nat) : Int) by simp]
            generalize 2 ^ (bits - 2) = z at *
            rw [wrap64 (n := (z : Int)) (by omega) (by omega), wrap64 (by omega) (by omega)]; omega
          have ak := andK m (bits - 2) (by omega) (by omega)
          have hof : ofBs o ++ ([((m / 2 ^ (bits - 2) : Nat) : Int)] : List Int) = ofBs (o ++ [UInt8.ofNat (m / 2 ^ (bits - 2))]) := by
            rw [← ofBs_append]
            congr 1
            show _ = [(((UInt8.ofNat (m / 2 ^ (bits - 2))).toNat : Nat) : Int)]
            rw [UInt8.toNat_ofNat', Nat.mod_eq_of_lt (by omega)]
          have hf : fits ((ofBs o).length + ([((m / 2 ^ (bits - 2) : Nat) : Int)] : List Int).length) 1 = true := fits_of (by rw [ofBs_length]; simp; omega)
          simp -implicitDefEqProofs only [c8, cond_true, w8, d0, hmin, fdivL, rgm, Bool.and_self, wu, hf, wm, ak, hof, Option.bind_some, w]
          refine ⟨_, rfl, hi', (bits - 2, m % 2 ^ (bits - 2), o ++ [UInt8.ofNat (m / 2 ^ (bits - 2))]), rfl, ?_, Nat.mod_lt _ (by omega), by simp; omega, ?_⟩
          · show bits - 2 = 0 ∨ bits - 2 = 2 ∨ bits - 2 = 4 ∨ bits - 2 = 6
            omega
          · rw [← hdec]
            simp
        · rw [if_neg h2] at hdec
          have c8 : decide (((bits + 6 : Nat) : Int) ≥ (8 : Int)) = false := decide_eq_false (by omega)
          have hb0 : bits = 0 := by omega
          subst hb0
          simp -implicitDefEqProofs only [c8, cond_false, Option.bind_some, w]
          refine ⟨_, rfl, hi', (6, m, o), rfl, by simp, ?_, by simp; omega, hdec⟩
          have : n < 1 := hn
          show m < 64
          omega
      · have c1 : decide ((i : Int) < (h.length : Int)) = false := decide_eq_false (by omega)
        have hii : i = h.length := by omega
        subst hii
        rw [List.drop_length, decF, List.append_nil] at hdec
        simp -implicitDefEqProofs only [c1, cond_false]
        refine ⟨_, rfl, ?_⟩
        simp -implicitDefEqProofs only []
        rw [← hdec]
        by_cases hz : n = 0
        · subst hz
          rw [if_pos rfl]
          exact ⟨_, rfl, true, by simp only [toBs_ofBs]⟩
        · rw [if_neg hz]
          have : (((n : Nat) : Int) != 0) = true := by simp; omega
          rw [this]
          exact ⟨_, rfl, false, rfl⟩
/-! ### A word is parsed -/
def T9 : List Bs := [[], [39, 110, 111, 110, 101, 39], [39, 115, 101, 108, 102, 39], [39, 117, 110, 115, 97, 102, 101, 45, 105, 110, 108, 105, 110, 101, 39], [39, 117, 110, 115, 97, 102, 101, 45, 101, 118, 97, 108, 39], [39, 119, 97, 115, 109, 45, 117, 110, 115, 97, 102, 101, 45, 101, 118, 97, 108, 39], [39, 115, 116, 114, 105, 99, 116, 45, 100, 121, 110, 97, 109, 105, 99, 39], [39, 117, 110, 115, 97, 102, 101, 45, 104, 97, 115, 104, 101, 115, 39], [39, 114, 101, 112, 111, 114, 116, 45, 115, 97, 109, 112, 108, 101, 39]]
def kfold (low : Bs) : Nat → Int
  | 0 => 0
  | i + 1 => if ((T9[i]?).getD [] == low) = true then (i : Int) else kfold low i
noncomputable def quoS (w : Bs) : Src :=
  if (lowerB w).take 7 = [39, 110, 111, 110, 99, 101, 45] then (9, (w.dropLast.drop 7, zS.2.2)) else
  if (lowerB w).take 6 = [39, 109, 97, 114, 107, 45] then (10, (decW (w.dropLast.drop 6), zS.2.2)) else (kfold (lowerB w) 9, zS.2)
theorem decW_len (s : Bs) : (decW s).length ≤ s.length := by
  unfold decW
  have := decF_len (headB s) 0 0
  have := headB_len s
  split
  · simp
  · split
    · simp
    · split
      · omega
      · simp
theorem dropLast_sl {w : Bs} (h : w ≠ []) (hl : w.length ≤ 1000000) : sl w (0 : Int) (IntKind.wrap .i64 ((w.length : Int) - (1 : Int))) = some w.dropLast := by
  have hp : 0 < w.length := List.length_pos_iff.2 h
  rw [wrap64 (by omega) (by omega), show ((w.length : Int) - 1) = ((w.length - 1 : Nat) : Int) by omega]
  have := sl_nat (l := w) (a := 0) (b := w.length - 1) (by omega) (by omega)
  rw [List.drop_zero] at this
  rw [show (0 : Int) = ((0 : Nat) : Int) from rfl, this, List.dropLast_eq_take]
theorem quoted_eq (N : Nat) (w : Bs) (hw : w.length ≤ 1000) (h2 : w ≠ []) (hq : w.getLast? = some 39) (hN : 2000 < N) : source_cutter_quoted_2b7 (Ev.upto N) ((), (((zS, w), ()), ())) = some ((true, ()), (((quoS w, w), ()), ())) := by
  have hp : 0 < w.length := List.length_pos_iff.2 h2
  have ql := lower_eq N w (by omega) (by omega)
  have qs := dropLast_sl h2 (by omega)
  have q1 := HP_eq (Ev.upto N) (lowerB w) [39, 110, 111, 110, 99, 101, 45] (by rw [lowerB_length]; omega) (by simp)
  have q2 := HP_eq (Ev.upto N) (lowerB w) [39, 109, 97, 114, 107, 45] (by rw [lowerB_length]; omega) (by simp)
  -- a text that ends with a quote and begins with p is longer than p
  have long : ∀ p : Bs, (lowerB w).take p.length = p → p.getLast? ≠ some 39 → p ≠ [] → p.length ≤ w.dropLast.length := fun p hp2 hp3 hp4 => by
    have hl : p.length ≤ w.length := by
      have := congrArg List.length hp2
      rw [List.length_take, lowerB_length] at this
      omega
    rw [List.length_dropLast]
    rcases Nat.lt_or_ge p.length w.length with h | h
    · omega
    · exfalso
      apply hp3
      rw [← hp2, List.take_of_length_le (by rw [lowerB_length]; omega), lowerB_map, List.getLast?_map, hq]
      rfl
  apply wp_eq
  unfold source_cutter_quoted_2b7 quoS
  simp -implicitDefEqProofs only [ql, qs, q1, Option.bind_some]
  rw [show ([39, 110, 111, 110, 99, 101, 45] : Bs).length = 7 from rfl]
  by_cases h7 : (lowerB w).take 7 = [39, 110, 111, 110, 99, 101, 45]
  · have hl := long [39, 110, 111, 110, 99, 101, 45] h7 (by decide) (by simp)
    have s7 : sl w.dropLast (7 : Int) ((w.dropLast).length : Int) = some (w.dropLast.drop 7) := sl_end (l := w.dropLast) (a := 7) (by simpa using hl)
    rw [if_pos h7, show ((lowerB w).take 7 == ([39, 110, 111, 110, 99, 101, 45] : Bs)) = true from by simpa using h7]
    simp -implicitDefEqProofs only [cond_true, s7, Option.bind_some]
    exact ⟨_, rfl, rfl⟩
  · rw [if_neg h7, show ((lowerB w).take 7 == ([39, 110, 111, 110, 99, 101, 45] : Bs)) = false from by simpa using h7]
    simp -implicitDefEqProofs only [cond_false, q2, Option.bind_some]
    rw [show ([39, 109, 97, 114, 107, 45] : Bs).length = 6 from rfl]
    by_cases h6 : (lowerB w).take 6 = [39, 109, 97, 114, 107, 45]
    · have hl := long [39, 109, 97, 114, 107, 45] h6 (by decide) (by simp)
      have s6 : sl w.dropLast (6 : Int) ((w.dropLast).length : Int) = some (w.dropLast.drop 6) := sl_end (l := w.dropLast) (a := 6) (by simpa using hl)
      obtain ⟨_, qd, b, rfl⟩ := Decode_eq N (w.dropLast.drop 6) (by simp; omega) hN
      rw [if_pos h6, show ((lowerB w).take 6 == ([39, 109, 97, 114, 107, 45] : Bs)) = true from by simpa using h6]
      simp -implicitDefEqProofs only [cond_true, s6, Option.bind_some, qd]
      exact ⟨_, rfl, rfl⟩
    · rw [if_neg h6, show ((lowerB w).take 6 == ([39, 109, 97, 114, 107, 45] : Bs)) = false from by simpa using h6]
      simp -implicitDefEqProofs only [cond_false]
      generalize lowerB w = low
      refine wp_bind (wp_bind (wp_bind ?_))
      refine wp_for (σ := Unit) (fun i _ => ((low, ((([] : Bs), (([39, 110, 111, 110, 101, 39] : Bs), (([39, 115, 101, 108, 102, 39] : Bs), (([39, 117, 110, 115, 97, 102, 101, 45, 105, 110, 108, 105, 110, 101, 39] : Bs), (([39, 117, 110, 115, 97, 102, 101, 45, 101, 118, 97, 108, 39] : Bs), (([39, 119, 97, 115, 109, 45, 117, 110, 115, 97, 102, 101, 45, 101, 118, 97, 108, 39] : Bs), (([39, 115, 116, 114, 105, 99, 116, 45, 100, 121, 110, 97, 109, 105, 99, 39] : Bs), (([39, 117, 110, 115, 97, 102, 101, 45, 104, 97, 115, 104, 101, 115, 39] : Bs), ([39, 114, 101, 112, 111, 114, 116, 45, 115, 97, 109, 112, 108, 101, 39] : Bs))))))))), ((i : Int), ()))), ((((kfold low i, zS.2), w), ()), ()))) (fun _ _ => True) 9 () rfl trivial (by omega) ?_
      rintro i _ hi _
      by_cases hi' : i < 9
      · have c0 : decide ((i : Int) < (9 : Int)) = true := decide_eq_true (by omega)
        have w1 : IntKind.wrap .i64 ((i : Int) + 1) = ((i + 1 : Nat) : Int) := by rw [wrap64 (by omega) (by omega)]; omega
        have it : idx T9 (i : Int) = some ((T9[i]?).getD []) := by
          have hl : i < T9.length := hi'
          rw [idx_nat hl, List.getElem?_eq_getElem hl]
          rfl
        have hk : kfold low (i + 1) = if ((T9[i]?).getD [] == low) = true then (i : Int) else kfold low i := rfl
        generalize (T9[i]?).getD [] = v at it hk
        unfold T9 at it
        simp -implicitDefEqProofs only [c0, cond_true, it, Option.bind_some, w1]
        cases hc : (v == low) with
        | true =>
          rw [hc, if_pos rfl] at hk
          exact ⟨_, rfl, hi', (), by dsimp only; rw [hk, w1], trivial⟩
        | false =>
          rw [hc, if_neg (by decide)] at hk
          exact ⟨_, rfl, hi', (), by dsimp only; rw [hk, w1], trivial⟩
      · have c0 : decide ((i : Int) < (9 : Int)) = false := decide_eq_false (by omega)
        have : i = 9 := by omega
        subst this
        simp -implicitDefEqProofs only [c0, cond_false]
        exact ⟨_, rfl, _, rfl, _, rfl, _, rfl, rfl⟩
def firstC (w : Bs) : UInt8 := (w.head?).getD 0
def lastC (w : Bs) : UInt8 := (w.getLast?).getD 0
def qtB (w : Bs) : Bool := decide ((w.length : Int) > 1) && (firstC w == 39 && lastC w == 39)
noncomputable def parP (w : Bs) : Option Src :=
  if w = [] then none else if qtB w = true then some (quoS w) else if lastC w = 58 then some (11, (([] : Bs), (lowerB w.dropLast, zS.2.2.2))) else hostP w
noncomputable def parR (w : Bs) : Src × Bool := match parP w with
  | some s => if rightB s = true then (s, true) else (zS, false)
  | none => (zS, false)
theorem hostP_small {w : Bs} {s : Src} (hw : w.length ≤ 1000) (h : hostP w = some s) : smallS s := by
  unfold hostP schR at h
  have key : ∀ (sc r : Bs), sc.length ≤ 1000 → r.length ≤ 1000 → hostR sc r = some s → smallS s := fun sc r h1 h2 h3 => by
    unfold hostR at h3
    have hf : (r.takeWhile notSl).length ≤ r.length := (List.takeWhile_prefix _).length_le
    have hd : (r.dropWhile notSl).length ≤ r.length := (List.dropWhile_suffix _).length_le
    have hn : (numR (r.takeWhile notSl)).1.length ≤ 1000 := by
      unfold numR
      split
      · simp; omega
      · exact Nat.le_trans hf h2
    split at h3
    · cases h3
    · split at h3
      · cases h3
      · rename_i x hx
        cases h3
        refine ⟨by simp, h1, ?_, by show (r.dropWhile notSl).length ≤ 1000; omega⟩
        have hl := lowerB_length (numR (r.takeWhile notSl)).1
        show x.2.length ≤ 1000
        unfold starR at hx
        split at hx
        · cases hx; simp
        · split at hx
          · split at hx
            · cases hx
            · cases hx; simp; omega
          · cases hx; show (lowerB _).length ≤ 1000; omega
  cases hf : findB w [58, 47, 47] with
  | none =>
    rw [hf] at h
    exact key [] w (by simp) hw h
  | some k =>
    rw [hf] at h
    simp only at h
    by_cases h0 : k = 0
    · rw [if_pos h0] at h; cases h
    · rw [if_neg h0] at h
      exact key _ _ (by rw [lowerB_length]; simp; omega) (by simp; omega) h
theorem parP_small {w : Bs} {s : Src} (hw : w.length ≤ 1000) (h : parP w = some s) : smallS s := by
  unfold parP at h
  split at h
  · cases h
  · split at h
    · cases h
      unfold quoS
      split
      · exact ⟨by simp; omega, by simp [zS], by simp [zS], by simp [zS]⟩
      · split
        · refine ⟨?_, by simp [zS], by simp [zS], by simp [zS]⟩
          have := decW_len (w.dropLast.drop 6)
          simp only [List.length_drop, List.length_dropLast] at this
          show (decW (w.dropLast.drop 6)).length ≤ 1000
          omega
        · exact ⟨by simp [zS], by simp [zS], by simp [zS], by simp [zS]⟩
    · split at h
      · cases h
        exact ⟨by simp, by show (lowerB w.dropLast).length ≤ 1000; rw [lowerB_length]; simp; omega, by simp [zS], by simp [zS]⟩
      · exact hostP_small hw h
theorem Parse_eq (w : Bs) (hw : w.length ≤ 1000) : source_Parse_ (Ev.upto 200000) ((w, ()), ()) = some (((parR w).1, ((parR w).2, ())), ()) := by
  apply wp_eq
  have hsm : ∀ s, parP w = some s → smallS s := fun s h => parP_small hw h
  unfold source_Parse_ parR
  by_cases h0 : w = []
  · subst h0
    have : parP [] = none := by unfold parP; rw [if_pos rfl]
    rw [this]
    exact ⟨_, rfl, rfl⟩
  have c0 : (w == ([] : Bs)) = false := by simpa using h0
  have hp : 0 < w.length := List.length_pos_iff.2 h0
  have w1 : IntKind.wrap .i64 ((w.length : Int) - 1) = ((w.length - 1 : Nat) : Int) := by rw [wrap64 (by omega) (by omega)]; omega
  have iF : idx w (0 : Int) = some (firstC w) := by
    cases w with
    | nil => exact absurd rfl h0
    | cons c r => rfl
  have iL : idx w ((w.length - 1 : Nat) : Int) = some (lastC w) := by
    rw [idx_nat (by omega)]
    unfold lastC
    rw [List.getLast?_eq_getElem?, List.getElem?_eq_getElem (by omega)]
    rfl
  have eF : (((firstC w).toNat : Int) == 39) = (firstC w == 39) := byteZ _ 39 (by decide)
  have eL : (((lastC w).toNat : Int) == 39) = (lastC w == 39) := byteZ _ 39 (by decide)
  have e58 : (((lastC w).toNat : Int) == 58) = (lastC w == 58) := byteZ _ 58 (by decide)
  -- the end: what was cut is right, or not
  have fin : ∀ (ok : Bool) (c : Cut), (match parP w with | some s => ok = true ∧ c.1 = s | none => ok = false) →
      wp ((bif ((!ok) == false) then ((source_right_ (Ev.upto 200000) ((c.1, ()), ())).bind fun v12 => (some (((!v12.1.1), ()), ((zS, ()), ((c, ()), ()))))) else (some ((true, ()), ((zS, ()), ((c, ()), ())))) : Option ((Bool × Unit) × ((Src × Unit) × ((Cut × Unit) × Unit)))).bind fun o13 => (bif o13.1.1 then (some ((((0 : Int), (([] : Bs), (([] : Bs), (([] : Bs), (false, ((0 : Int), ([] : Bs))))))), (false, ())), ())) else (some ((o13.2.2.1.1.1, (true, ())), ())) : Option ((Src × Bool × Unit) × Unit)))
        (fun x => x = (((match parP w with | some s => if rightB s = true then (s, true) else (zS, false) | none => (zS, false)).1, ((match parP w with | some s => if rightB s = true then (s, true) else (zS, false) | none => (zS, false)).2, ())), ())) := by
    intro ok c h
    cases hpp : parP w with
    | none =>
      rw [hpp] at h
      have h : ok = false := h
      subst h
      exact ⟨_, rfl, rfl⟩
    | some s =>
      rw [hpp] at h
      obtain ⟨rfl, rfl⟩ := h
      have qr := right_eq c.1 (hsm _ hpp)
      simp -implicitDefEqProofs only [Bool.not_true, beq_self_eq_true, cond_true, qr, Option.bind_some]
      cases hr : rightB c.1 with
      | true => exact ⟨_, rfl, by rw [if_pos rfl]⟩
      | false => exact ⟨_, rfl, by rw [if_neg (by decide)]; rfl⟩
  simp -implicitDefEqProofs only [c0, Bool.not_false, Bool.not_true, cond_false, w1, iF, Option.bind_some, eF]
  have q : wp ((bif (decide (((w).length : Int) > (1 : Int)) == true) then (bif ((firstC w == 39) == true) then ((idx w ((w.length - 1 : Nat) : Int)).bind fun v2 => (some ((w, (true, ((((v2).toNat : Int) == (39 : Int)), ()))), ((zS, ()), (((zS, w), ()), ()))))) else (some ((w, (true, (false, ()))), ((zS, ()), (((zS, w), ()), ()))))) else (some ((w, (true, (false, ()))), ((zS, ()), (((zS, w), ()), ())))) : Option ((Bs × Bool × Bool × Unit) × ((Src × Unit) × ((Cut × Unit) × Unit))))) (fun o => o = ((w, (true, (qtB w, ()))), ((zS, ()), (((zS, w), ()), ())))) := by
    unfold qtB
    simp -implicitDefEqProofs only [iL, Option.bind_some, eL]
    cases decide (((w).length : Int) > (1 : Int)) <;> cases (firstC w == 39) <;> exact ⟨_, rfl, rfl⟩
  obtain ⟨_, e, e'⟩ := q
  unfold zS at e e'
  rw [e, e']
  simp -implicitDefEqProofs only [Option.bind_some]
  cases hq : qtB w with
  | true =>
    have hl : w.getLast? = some 39 := by
      unfold qtB at hq
      simp only [Bool.and_eq_true, beq_iff_eq] at hq
      have h3 := hq.2.2
      unfold lastC at h3
      cases hg : w.getLast? with
      | none => rw [hg] at h3; cases h3
      | some c => rw [hg] at h3; simp at h3; rw [h3]
    have qq := quoted_eq 200000 w hw h0 hl (by decide)
    have hpp : parP w = some (quoS w) := by unfold parP; rw [if_neg h0, if_pos hq]
    unfold zS at qq
    simp -implicitDefEqProofs only [cond_true, qq, Option.bind_some]
    exact fin true (quoS w, w) (by rw [hpp]; exact ⟨rfl, rfl⟩)
  | false =>
    simp -implicitDefEqProofs only [cond_false, w1, iL, Option.bind_some, e58]
    cases h58 : (lastC w == 58) with
    | true =>
      have hpp : parP w = some (11, (([] : Bs), (lowerB w.dropLast, zS.2.2.2))) := by unfold parP; rw [if_neg h0, if_neg (by rw [hq]; decide), if_pos (by simpa using h58)]
      have qs := dropLast_sl h0 (by omega)
      rw [w1] at qs
      have ql := lower_eq 200000 w.dropLast (by simp; omega) (by simp; omega)
      simp -implicitDefEqProofs only [cond_true, qs, Option.bind_some, ql]
      exact fin true ((11, (([] : Bs), (lowerB w.dropLast, zS.2.2.2))), w) (by rw [hpp]; exact ⟨rfl, rfl⟩)
    | false =>
      have hpp : parP w = hostP w := by unfold parP; rw [if_neg h0, if_neg (by rw [hq]; decide), if_neg (by simpa using h58)]
      obtain ⟨o, qo, b, c, rfl, hb⟩ := host_word 200000 w hw (by decide)
      unfold zS at qo
      simp -implicitDefEqProofs only [cond_false]
      rw [qo]
      simp -implicitDefEqProofs only [Option.bind_some]
      exact fin b c (by rw [hpp]; exact hb)
/-! ### The law SourceLetters -/
def fixC (c : UInt8) : Prop := ∀ x, low1 x = c ↔ x = c
theorem fix_of (c : UInt8) (h : (List.range 256).all (fun n => (low1 (UInt8.ofNat n) == c) == (UInt8.ofNat n == c)) = true) : fixC c := fun x => by
  have := fa_byte (P := fun x => (low1 x == c) == (x == c)) h x
  have := beq_iff_eq.1 this
  constructor
  · intro e; rw [e, beq_self_eq_true] at this; simpa using this.symm
  · intro e; rw [e, beq_self_eq_true] at this; rw [e]; simpa using this
theorem f58 : fixC 58 := fix_of _ (by kernel_rfl)
theorem f47 : fixC 47 := fix_of _ (by kernel_rfl)
theorem f39 : fixC 39 := fix_of _ (by kernel_rfl)
theorem f42 : fixC 42 := fix_of _ (by kernel_rfl)
theorem pre_low : ∀ (e l : Bs), (∀ c ∈ e, fixC c) → e.isPrefixOf (lowerB l) = e.isPrefixOf l
  | [], l, _ => by simp [List.isPrefixOf]
  | a :: e, [], _ => rfl
  | a :: e, x :: l, h => by
    have h1 := h a List.mem_cons_self x
    have ih := pre_low e l (fun c hc => h c (List.mem_cons_of_mem _ hc))
    have e1 : (a == low1 x) = (a == x) := by
      rw [Bool.eq_iff_iff, beq_iff_eq, beq_iff_eq]
      exact ⟨fun h => (h1.1 h.symm).symm, fun h => (h1.2 h.symm).symm⟩
    rw [lowerB_cons]
    simp only [List.isPrefixOf, ih, e1]
theorem findB_low (e : Bs) (he : ∀ c ∈ e, fixC c) : ∀ l : Bs, findB (lowerB l) e = findB l e
  | [] => rfl
  | x :: l => by
    have ih := findB_low e he l
    have hp := pre_low e (x :: l) he
    rw [lowerB_cons] at hp ⊢
    rw [findB, findB, hp, ih]
theorem low_take (l : Bs) (k : Nat) : (lowerB l).take k = lowerB (l.take k) := by rw [lowerB_map, lowerB_map, List.map_take]
theorem low_drop (l : Bs) (k : Nat) : (lowerB l).drop k = lowerB (l.drop k) := by rw [lowerB_map, lowerB_map, List.map_drop]
theorem notSl_low (c : UInt8) : notSl (low1 c) = notSl c := by
  have := fa_byte (P := fun c => notSl (low1 c) == notSl c) (by kernel_rfl) c
  exact beq_iff_eq.1 this
theorem tw_low (l : Bs) : (lowerB l).takeWhile notSl = lowerB (l.takeWhile notSl) := by
  rw [lowerB_map, lowerB_map, List.takeWhile_map]
  congr 2
  funext c
  exact notSl_low c
theorem dw_low (l : Bs) : (lowerB l).dropWhile notSl = lowerB (l.dropWhile notSl) := by
  rw [lowerB_map, lowerB_map, List.dropWhile_map]
  congr 2
  funext c
  exact notSl_low c
theorem low_digs (s : Bs) (h : allDig s = true) : lowerB s = s := by
  rw [lowerB_map]
  conv => rhs; rw [← List.map_id s]
  apply List.map_congr_left
  intro c hc
  have hd := List.all_eq_true.1 h c hc
  have := fa_byte (P := fun c => !digC c || low1 c == c) (by kernel_rfl) c
  rw [hd] at this
  simpa using this
theorem portS_low {n : Bs} {p : Int} (h : portS n = some p) : portS (lowerB n) = some p := by
  have h0 := h
  unfold portS at h
  split at h
  · rename_i e
    subst e
    rw [show lowerB [42] = [42] from by kernel_rfl]
    exact h0
  · split at h
    · rename_i hc
      rw [low_digs n hc.2.2.1]
      exact h0
    · cases h
theorem low_star (n : Bs) : lowerB n = [42] ↔ n = [42] := by
  constructor
  · intro h
    match n, h with
    | [], h => cases h
    | [c], h =>
      have : low1 c = 42 := by rw [lowerB_map] at h; exact (List.cons.inj h).1
      rw [(f42 c).1 this]
    | _ :: _ :: _, h => have := congrArg List.length h; rw [lowerB_length] at this; simp at this
  · intro h
    rw [h]
    kernel_rfl
theorem starR_low (n : Bs) : starR (lowerB n) = starR n := by
  unfold starR
  rw [lowerB_low]
  by_cases h : n = [42]
  · rw [if_pos h, if_pos ((low_star n).2 h)]
  · rw [if_neg h, if_neg (fun e => h ((low_star n).1 e))]
theorem hostR_low {sc r : Bs} {s : Src} (h : hostR sc r = some s) (hp : s.2.2.2.2.2.2 = []) : hostR sc (lowerB r) = some s := by
  unfold hostR at h ⊢
  rw [tw_low, dw_low]
  have hn : (numR (lowerB (r.takeWhile notSl))).1 = lowerB (numR (r.takeWhile notSl)).1 ∧ ∀ p, (numR (r.takeWhile notSl)).2 = some p → (numR (lowerB (r.takeWhile notSl))).2 = some p := by
    generalize r.takeWhile notSl = f
    unfold numR
    rw [findB_low [58] (by simp [f58])]
    cases findB f [58] with
    | none => exact ⟨rfl, fun p h => h⟩
    | some k => exact ⟨low_take f k, fun p h => by simp only at h ⊢; rw [low_drop]; exact portS_low h⟩
  cases hq : (numR (r.takeWhile notSl)).2 with
  | none => rw [hq] at h; cases h
  | some p =>
    rw [hq] at h
    rw [hn.2 p hq, hn.1, starR_low]
    simp only at h ⊢
    cases hx : starR (numR (r.takeWhile notSl)).1 with
    | none => rw [hx] at h; cases h
    | some x =>
      rw [hx] at h
      cases h
      have hp : r.dropWhile notSl = [] := hp
      rw [hp]
      rfl
theorem hostP_low {w : Bs} {s : Src} (h : hostP w = some s) (hp : s.2.2.2.2.2.2 = []) : hostP (lowerB w) = some s := by
  unfold hostP schR at h ⊢
  rw [findB_low [58, 47, 47] (by simp [f58, f47])]
  cases hf : findB w [58, 47, 47] with
  | none =>
    rw [hf] at h
    exact hostR_low h hp
  | some k =>
    rw [hf] at h
    simp only at h ⊢
    by_cases h0 : k = 0
    · rw [if_pos h0] at h; cases h
    · rw [if_neg h0] at h ⊢
      simp only at h ⊢
      rw [low_take, lowerB_low, low_drop]
      exact hostR_low h hp
theorem first_low {w : Bs} (h : w ≠ []) : firstC (lowerB w) = low1 (firstC w) := by
  cases w with
  | nil => exact absurd rfl h
  | cons c r => rw [lowerB_cons]; rfl
theorem last_low {w : Bs} (h : w ≠ []) : lastC (lowerB w) = low1 (lastC w) := by
  unfold lastC
  rw [lowerB_map, List.getLast?_map]
  cases hg : w.getLast? with
  | none => exact absurd (List.getLast?_eq_none_iff.1 hg) h
  | some c => rfl
theorem fix_beq {c x : UInt8} (h : fixC c) : (low1 x == c) = (x == c) := by
  rw [Bool.eq_iff_iff, beq_iff_eq, beq_iff_eq]; exact h x
theorem parP_low {w : Bs} {s : Src} (h : parP w = some s) (h9 : ¬ s.1 = 9) (h10 : ¬ s.1 = 10) (hp : s.2.2.2.2.2.2 = []) : parP (lowerB w) = some s := by
  unfold parP at h ⊢
  by_cases h0 : w = []
  · rw [if_pos h0] at h; cases h
  · have h0' : lowerB w ≠ [] := fun e => h0 (by
      have := congrArg List.length e
      rw [lowerB_length] at this
      exact List.length_eq_zero_iff.1 this)
    have hq : qtB (lowerB w) = qtB w := by
      unfold qtB
      rw [lowerB_length, first_low h0, last_low h0, fix_beq f39, fix_beq f39]
    rw [if_neg h0] at h
    rw [if_neg h0', hq]
    by_cases h1 : qtB w = true
    · rw [if_pos h1] at h ⊢
      cases h
      unfold quoS at h9 h10 ⊢
      rw [lowerB_low]
      by_cases h7 : (lowerB w).take 7 = [39, 110, 111, 110, 99, 101, 45]
      · rw [if_pos h7] at h9; exact absurd rfl h9
      · rw [if_neg h7] at h10 ⊢
        by_cases h6 : (lowerB w).take 6 = [39, 109, 97, 114, 107, 45]
        · rw [if_pos h6] at h10; exact absurd rfl h10
        · rw [if_neg h6, if_neg h7, if_neg h6]
    · rw [if_neg h1] at h ⊢
      have hl : (lastC (lowerB w) = 58) ↔ (lastC w = 58) := by rw [last_low h0]; exact f58 _
      by_cases h2 : lastC w = 58
      · rw [if_pos h2] at h
        rw [if_pos (hl.2 h2)]
        cases h
        rw [lowerB_map w, List.dropLast_eq_take, ← List.map_take, List.length_map, ← List.dropLast_eq_take, ← lowerB_map, lowerB_low]
      · rw [if_neg h2] at h
        rw [if_neg (fun e => h2 (hl.1 e))]
        exact hostP_low h hp
theorem srcBeq (a : Src) : ((a.1 == a.1) && ((a.2.1 == a.2.1) && ((a.2.2.1 == a.2.2.1) && ((a.2.2.2.1 == a.2.2.2.1) && ((a.2.2.2.2.1 == a.2.2.2.2.1) && ((a.2.2.2.2.2.1 == a.2.2.2.2.2.1) && ((a.2.2.2.2.2.2 == a.2.2.2.2.2.2) && true))))))) = true := by
  simp only [beq_self_eq_true, Bool.and_self]
/-! ### What is encoded is decoded -/
def encB : Bs → Bs
  | a :: b :: c :: r => enc4 (n3 a b c) ++ encB r
  | [_, _] => []
  | [a] => (enc4 (n3 a 0 0)).take 2
  | [] => []
theorem encB_eq : ∀ s : Bs, s.length % 3 = 1 → encW s = encB s ++ [61, 61] ∧ (encB s).length % 4 = 2
  | [], h => by simp at h
  | [a], _ => ⟨by rw [encW, encB], by simp [encB, enc4]⟩
  | [a, b], h => by simp at h
  | a :: b :: c :: r, h => by
    obtain ⟨h1, h2⟩ := encB_eq r (by simp at h; omega)
    rw [encW, encB, h1, List.append_assoc]
    refine ⟨rfl, ?_⟩
    rw [List.length_append]
    simp only [enc4, List.length_cons, List.length_nil]
    omega
theorem sgn_val (n : Nat) (h : n < 64) : noV (sgn n) = false ∧ valN (sgn n) = n := by
  have := List.all_eq_true.1 (show ((List.range 64).all fun n => !noV (sgn n) && valN (sgn n) == n) = true from by kernel_rfl) n (List.mem_range.2 h)
  simpa using this
theorem encB_val : ∀ s : Bs, ∀ c ∈ encB s, noV c = false
  | [], c, h => by cases h
  | [a], c, h => by
    have h : c ∈ [sgn (n3 a 0 0 / 2 ^ 18 % 64), sgn (n3 a 0 0 / 2 ^ 12 % 64)] := h
    simp only [List.mem_cons, List.not_mem_nil, or_false] at h
    rcases h with rfl | rfl
    · exact (sgn_val _ (Nat.mod_lt _ (by decide))).1
    · exact (sgn_val _ (Nat.mod_lt _ (by decide))).1
  | [a, b], c, h => by cases h
  | a :: b :: d :: r, c, h => by
    rw [encB] at h
    rcases List.mem_append.1 h with h | h
    · unfold enc4 at h
      simp only [List.mem_cons, List.not_mem_nil, or_false] at h
      rcases h with rfl | rfl | rfl | rfl <;> exact (sgn_val _ (Nat.mod_lt _ (by decide))).1
    · exact encB_val r c h
theorem ofNat_byte {n : Nat} {a : UInt8} (h : n = a.toNat) : UInt8.ofNat n = a := by rw [h]; exact UInt8.ofNat_toNat
theorem dec_three (a b c : UInt8) (r : Bs) : decF (enc4 (n3 a b c) ++ r) 0 0 = (a :: b :: c :: (decF r 0 0).1, (decF r 0 0).2) := by
  have ha := a.toNat_lt; have hb := b.toNat_lt; have hc := c.toNat_lt
  have hn : n3 a b c = (a.toNat * 256 + b.toNat) * 256 + c.toNat := rfl
  have v1 := (sgn_val (n3 a b c / 2 ^ 18 % 64) (Nat.mod_lt _ (by decide))).2
  have v2 := (sgn_val (n3 a b c / 2 ^ 12 % 64) (Nat.mod_lt _ (by decide))).2
  have v3 := (sgn_val (n3 a b c / 2 ^ 6 % 64) (Nat.mod_lt _ (by decide))).2
  have v4 := (sgn_val (n3 a b c / 2 ^ 0 % 64) (Nat.mod_lt _ (by decide))).2
  unfold enc4
  show decF (sgn _ :: sgn _ :: sgn _ :: sgn _ :: r) 0 0 = _
  rw [decF, if_neg (by decide), decF, if_pos (by decide), decF, if_pos (by decide), decF, if_pos (by decide), v1, v2, v3, v4]
  simp only [Nat.zero_add, Nat.add_sub_cancel, Nat.reduceSub, Nat.reducePow]
  generalize n3 a b c = n at *
  have e1 : (((0 * 64 + n / 262144 % 64) * 64 + n / 4096 % 64) / 16) = a.toNat := by omega
  have e2 : ((((0 * 64 + n / 262144 % 64) * 64 + n / 4096 % 64) % 16) * 64 + n / 64 % 64) / 4 = b.toNat := by omega
  have e3 : (((((0 * 64 + n / 262144 % 64) * 64 + n / 4096 % 64) % 16) * 64 + n / 64 % 64) % 4 * 64 + n / 1 % 64) / 1 = c.toNat := by omega
  have e4 : (((((0 * 64 + n / 262144 % 64) * 64 + n / 4096 % 64) % 16) * 64 + n / 64 % 64) % 4 * 64 + n / 1 % 64) % 1 = 0 := Nat.mod_one _
  simp only [Nat.zero_mul, Nat.zero_add] at e1 e2 e3 e4 ⊢
  rw [e4, ofNat_byte e1, ofNat_byte e2, ofNat_byte e3]
theorem dec_one (a : UInt8) : decF ((enc4 (n3 a 0 0)).take 2) 0 0 = ([a], 0) := by
  have ha := a.toNat_lt
  have hn : n3 a 0 0 = (a.toNat * 256 + 0) * 256 + 0 := rfl
  have v1 := (sgn_val (n3 a 0 0 / 2 ^ 18 % 64) (Nat.mod_lt _ (by decide))).2
  have v2 := (sgn_val (n3 a 0 0 / 2 ^ 12 % 64) (Nat.mod_lt _ (by decide))).2
  unfold enc4
  show decF [sgn _, sgn _] 0 0 = _
  rw [decF, if_neg (by decide), decF, if_pos (by decide), decF, v1, v2]
  simp only [Nat.zero_add, Nat.reduceSub, Nat.reducePow]
  generalize n3 a 0 0 = n at *
  have e1 : (((0 * 64 + n / 262144 % 64) * 64 + n / 4096 % 64) / 16) = a.toNat := by omega
  have e2 : (((0 * 64 + n / 262144 % 64) * 64 + n / 4096 % 64) % 16) = 0 := by omega
  simp only [Nat.zero_mul, Nat.zero_add] at e1 e2 ⊢
  rw [e2, ofNat_byte e1]
theorem dec_encB : ∀ s : Bs, s.length % 3 = 1 → decF (encB s) 0 0 = (s, 0)
  | [], h => by simp at h
  | [a], _ => by rw [encB, dec_one]
  | [a, b], h => by simp at h
  | a :: b :: c :: r, h => by
    rw [encB, dec_three, dec_encB r (by simp at h; omega)]
theorem dec_enc (s : Bs) (h : s.length % 3 = 1) : decW (encW s) = s := by
  obtain ⟨h1, h2⟩ := encB_eq s h
  have hh : headB (encW s) = encB s := by
    unfold headB
    rw [h1, show encB s ++ [61, 61] = (encB s ++ [61]) ++ [61] by simp, cutE_snoc, if_pos rfl, cutE_snoc, if_pos rfl]
  have hne : encB s ≠ [] := fun e => by rw [e] at h2; simp at h2
  have hf : formB (encW s) = true := by
    unfold formB
    rw [hh]
    have : (encB s == ([] : Bs)) = false := by simpa using hne
    rw [this, Bool.not_false, Bool.true_and, List.all_eq_true]
    intro c hc
    rw [encB_val s c hc]
    rfl
  have hno : decNo (encW s) = false := by
    unfold decNo
    rw [hf, hh]
    have a1 : ((encB s).length % 4 == 1) = false := by rw [h2]; rfl
    have a2 : ((encW s).length % 4 != 0) = false := by
      rw [h1, List.length_append]
      have : ((encB s).length + ([61, 61] : Bs).length) % 4 = 0 := by simp; omega
      rw [this]; rfl
    rw [a1, a2, Bool.and_false]
    rfl
  unfold decW
  rw [if_neg (by rw [h1]; simp), if_neg (by rw [hno]; decide), hh, dec_encB s h, if_pos rfl]
/-! ### Digits -/
theorem digs_ok : ∀ (k u m : Nat), u < 10 ^ m → 1 ≤ m → m ≤ k → allDig (digs k u) = true ∧ digV (digs k u) = u ∧ digs k u ≠ [] ∧ (digs k u).length ≤ m
  | 0, u, m, _, h1, h2 => by omega
  | k + 1, u, m, h0, h1, h2 => by
    have dg : ∀ d, d < 10 → digC (UInt8.ofNat (48 + d)) = true ∧ (UInt8.ofNat (48 + d)).toNat - 48 = d := fun d hd => by
      have := List.all_eq_true.1 (show ((List.range 10).all fun d => digC (UInt8.ofNat (48 + d)) && (UInt8.ofNat (48 + d)).toNat - 48 == d) = true from by kernel_rfl) d (List.mem_range.2 hd)
      simpa using this
    rw [digs]
    by_cases hu : u < 10
    · rw [decide_eq_true hu, cond_true]
      obtain ⟨a, b⟩ := dg u hu
      refine ⟨by unfold allDig; rw [List.all_cons, a]; rfl, ?_, by simp, by simpa using h1⟩
      show 0 * 10 + ((UInt8.ofNat (48 + u)).toNat - 48) = u
      omega
    · rw [decide_eq_false hu, cond_false]
      obtain ⟨a, b⟩ := dg (u % 10) (Nat.mod_lt _ (by decide))
      obtain ⟨m, rfl⟩ : ∃ q, m = q + 1 := ⟨m - 1, by omega⟩
      rw [Nat.pow_succ] at h0
      have hm : 1 ≤ m := by
        rcases Nat.eq_zero_or_pos m with h | h
        · subst h; simp at h0; omega
        · exact h
      obtain ⟨c, d, e, f⟩ := digs_ok k (u / 10) m (by omega) hm (by omega)
      refine ⟨?_, ?_, by simp, by simp; omega⟩
      · unfold allDig at c ⊢
        rw [List.all_append, c, List.all_cons, a]
        rfl
      · rw [digV_snoc, d, b]
        omega
theorem portS_digs (p : Int) (h0 : 0 < p) (h1 : p ≤ 65535) : portS (digs 20 p.toNat) = some p := by
  obtain ⟨a, b, c, d⟩ := digs_ok 20 p.toNat 5 (by omega) (by decide) (by decide)
  unfold portS
  rw [if_neg (fun e => by rw [e] at a; exact absurd a (by decide)), if_pos ⟨c, d, a, by omega⟩, b]
  congr 1
  omega
/-! ### The first place of a text -/
theorem findB_skip : ∀ (x y e : Bs) (c : UInt8), c ∉ x → findB (x ++ y) (c :: e) = (findB y (c :: e)).map (· + x.length)
  | [], y, e, c, _ => by
    rw [List.nil_append, List.length_nil]
    cases findB y (c :: e) <;> rfl
  | d :: x, y, e, c, h => by
    rw [List.cons_append, findB, if_neg, findB_skip x y e c (fun hm => h (List.mem_cons_of_mem _ hm))]
    · cases findB y (c :: e) with
      | none => rfl
      | some k => simp only [Option.map_some, List.length_cons]; congr 1
    · intro hp
      obtain ⟨e1, _⟩ := List.cons_prefix_cons.1 (List.isPrefixOf_iff_prefix.1 hp)
      exact h (e1 ▸ List.mem_cons_self)
theorem findB_no (x e : Bs) (c : UInt8) (h : c ∉ x) : findB x (c :: e) = none := by
  have := findB_skip x [] e c h
  rw [List.append_nil] at this
  rw [this]
  rfl
/-! ### A source's word is parsed as it -/
theorem scm_no {c : UInt8} (h : scmI (c.toNat : Int) = true) : ¬ c = 58 ∧ ¬ c = 39 ∧ ¬ c = 47 ∧ low1 c = c := by
  have := fa_byte (P := fun c => !scmI (c.toNat : Int) || (!(c == 58) && (!(c == 39) && (!(c == 47) && low1 c == c)))) (by kernel_rfl) c
  rw [h] at this
  simpa using this
theorem hst_no {c : UInt8} (h : hstI (c.toNat : Int) = true) : ¬ c = 58 ∧ ¬ c = 39 ∧ ¬ c = 47 ∧ ¬ c = 42 ∧ low1 c = c := by
  have := fa_byte (P := fun c => !hstI (c.toNat : Int) || (!(c == 58) && (!(c == 39) && (!(c == 47) && (!(c == 42) && low1 c == c))))) (by kernel_rfl) c
  rw [h] at this
  simpa using this
theorem dig_no {c : UInt8} (h : digC c = true) : ¬ c = 58 ∧ ¬ c = 39 ∧ ¬ c = 47 ∧ ¬ c = 42 ∧ low1 c = c := by
  have := fa_byte (P := fun c => !digC c || (!(c == 58) && (!(c == 39) && (!(c == 47) && (!(c == 42) && low1 c == c))))) (by kernel_rfl) c
  rw [h] at this
  simpa using this
theorem ok_no {c : UInt8} (h : (!okC (c.toNat : Int)) = true) : ¬ c = 58 := by
  have := fa_byte (P := fun c => okC (c.toNat : Int) || !(c == 58)) (by kernel_rfl) c
  rw [Bool.not_eq_true'] at h
  rw [h] at this
  simpa using this
theorem low_same {s : Bs} (h : ∀ c ∈ s, low1 c = c) : lowerB s = s := by
  rw [lowerB_map]
  conv => rhs; rw [← List.map_id s]
  exact List.map_congr_left h
theorem scheme_chars {s : Bs} (h : schemeB s = true) : s ≠ [] ∧ ∀ c ∈ s, scmI (c.toNat : Int) = true := by
  unfold schemeB at h
  simp only [Bool.and_eq_true, Bool.not_eq_true', beq_eq_false_iff_ne] at h
  exact ⟨h.1, fun c hc => List.all_eq_true.1 h.2.2.2 c hc⟩
theorem host_chars {s : Bs} (h : hostB s = true) : s ≠ [] ∧ ∀ c ∈ s, hstI (c.toNat : Int) = true := by
  unfold hostB at h
  simp only [Bool.and_eq_true, Bool.not_eq_true', beq_eq_false_iff_ne] at h
  exact ⟨h.1, fun c hc => List.all_eq_true.1 h.2.2.1 c hc⟩
theorem path_chars {s : Bs} (h : pathB s = true) : (s = [] ∨ ∃ r, s = 47 :: r) ∧ ∀ c ∈ s, ¬ c = 58 := by
  cases s with
  | nil => exact ⟨Or.inl rfl, by simp⟩
  | cons c r =>
    rw [pathB_cons] at h
    simp only [Bool.and_eq_true, beq_iff_eq] at h
    exact ⟨Or.inr ⟨r, by rw [h.1]⟩, fun x hx => ok_no (List.all_eq_true.1 h.2.2 x hx)⟩
theorem lastC_snoc (l : Bs) (c : UInt8) : lastC (l ++ [c]) = c := by unfold lastC; rw [List.getLast?_concat]; rfl
theorem lastC_mem {l : Bs} (h : l ≠ []) : lastC l ∈ l := by
  rcases snoc_cases l with h1 | ⟨x, c, rfl⟩
  · exact absurd h1 h
  · rw [lastC_snoc]; simp
theorem lastC_app (x : Bs) {y : Bs} (h : y ≠ []) : lastC (x ++ y) = lastC y := by
  rcases snoc_cases y with h1 | ⟨z, c, rfl⟩
  · exact absurd h1 h
  · rw [← List.append_assoc, lastC_snoc, lastC_snoc]
theorem firstC_mem {l : Bs} (h : l ≠ []) : firstC l ∈ l := by
  cases l with
  | nil => exact absurd rfl h
  | cons c r => exact List.mem_cons_self
theorem firstC_app {x : Bs} (y : Bs) (h : x ≠ []) : firstC (x ++ y) = firstC x := by
  cases x with
  | nil => exact absurd rfl h
  | cons c r => rfl
theorem qt_first {w : Bs} (h : ¬ firstC w = 39) : qtB w = false := by
  unfold qtB
  have : (firstC w == 39) = false := by simpa using h
  rw [this, Bool.false_and, Bool.and_false]
/-- a host's own part: the star and the name -/
theorem name_ok {wi : Bool} {ho : Bs} (h : (bif ho == ([] : Bs) then wi else hostB ho) = true) : wiP wi ho ++ ho ≠ [] ∧ (∀ c ∈ wiP wi ho ++ ho, ¬ c = 58 ∧ ¬ c = 39 ∧ ¬ c = 47) ∧ starR (wiP wi ho ++ ho) = some (wi, ho) := by
  cases hh : (ho == ([] : Bs)) with
  | true =>
    rw [hh, cond_true] at h
    have hn := beq_iff_eq.1 hh
    subst hn
    subst h
    exact ⟨by decide, by decide, by unfold starR wiP; rfl⟩
  | false =>
    rw [hh, cond_false] at h
    obtain ⟨hne, hc⟩ := host_chars h
    have hc2 : ∀ c ∈ ho, low1 c = c := fun c hm => (hst_no (hc c hm)).2.2.2.2
    have hl := low_same hc2
    cases wi with
    | true =>
      have e : wiP true ho = [42, 46] := by unfold wiP; rw [hh]; rfl
      rw [e]
      refine ⟨by simp, fun c hm => ?_, ?_⟩
      · rcases List.mem_append.1 hm with hm | hm
        · have h2 : ∀ c ∈ ([42, 46] : Bs), ¬ c = 58 ∧ ¬ c = 39 ∧ ¬ c = 47 := by decide
          exact h2 c hm
        · have := hst_no (hc c hm); exact ⟨this.1, this.2.1, this.2.2.1⟩
      · have hlow : lowerB ([42, 46] ++ ho) = [42, 46] ++ ho := by
          show lowerB (42 :: 46 :: ho) = _
          rw [lowerB_cons, lowerB_cons, hl]
          rfl
        unfold starR
        rw [hlow, if_neg (by simp), if_pos (show (([42, 46] : Bs) ++ ho).take 2 = [42, 46] from rfl), if_neg (by simpa using hne)]
        rfl
    | false =>
      have e : wiP false ho = [] := rfl
      rw [e, List.nil_append]
      refine ⟨hne, fun c hm => ⟨(hst_no (hc c hm)).1, (hst_no (hc c hm)).2.1, (hst_no (hc c hm)).2.2.1⟩, ?_⟩
      have h42 : (42 : UInt8) ∉ ho := fun hm => (hst_no (hc _ hm)).2.2.2.1 rfl
      unfold starR
      rw [hl, if_neg (fun e => h42 (by rw [e]; simp)), if_neg (fun e => h42 (List.mem_of_mem_take (i := 2) (by rw [e]; simp)))]
theorem port_ok {po : Int} (h0 : po ≥ -1) (h1 : po ≤ 65535) : (po = 0 ∧ poP po = []) ∨ ∃ n, poP po = 58 :: n ∧ n ≠ [] ∧ portS n = some po ∧ ∀ c ∈ n, ¬ c = 58 ∧ ¬ c = 39 ∧ ¬ c = 47 := by
  unfold poP
  by_cases hn : po < 0
  · right
    rw [decide_eq_true hn]
    exact ⟨[42], rfl, by simp, by unfold portS; rw [if_pos rfl]; congr 1; omega, by decide⟩
  · rw [decide_eq_false hn]
    by_cases hp : po > 0
    · right
      obtain ⟨a, b, c, d⟩ := digs_ok 20 po.toNat 5 (by omega) (by decide) (by decide)
      rw [decide_eq_true hp]
      refine ⟨digs 20 po.toNat, rfl, c, portS_digs po hp h1, fun x hx => ?_⟩
      have := dig_no (List.all_eq_true.1 a x hx)
      exact ⟨this.1, this.2.1, this.2.2.1⟩
    · left
      rw [decide_eq_false hp]
      exact ⟨by omega, rfl⟩
theorem host_back {sc ho pa : Bs} {wi : Bool} {po : Int} (hs : sc = [] ∨ schemeB sc = true) (hh : (bif ho == ([] : Bs) then wi else hostB ho) = true) (h0 : po ≥ -1) (h1 : po ≤ 65535) (hp : pathB pa = true) :
    parP (prS (12, (([] : Bs), (sc, (ho, (wi, (po, pa))))))) = some (12, (([] : Bs), (sc, (ho, (wi, (po, pa)))))) := by
  obtain ⟨n1, n2, n3⟩ := name_ok hh
  obtain ⟨p1, p2⟩ := path_chars hp
  have e : prS (12, (([] : Bs), (sc, (ho, (wi, (po, pa)))))) = hdP sc ++ ((wiP wi ho ++ ho) ++ (poP po ++ pa)) := by
    unfold prS
    simp only [List.append_assoc]
  rw [e]
  generalize wiP wi ho ++ ho = F at *
  have f58 : (58 : UInt8) ∉ F := fun hm => (n2 _ hm).1 rfl
  have pa58 : (58 : UInt8) ∉ pa := fun hm => p2 _ hm rfl
  have hpo := port_ok h0 h1
  -- what stands behind the scheme
  have hfront : (F ++ (poP po ++ pa)).takeWhile notSl = F ++ poP po ∧ (F ++ (poP po ++ pa)).dropWhile notSl = pa := by
    have ha : ∀ c ∈ F ++ poP po, notSl c = true := fun c hc => by
      have : ¬ c = 47 := by
        rcases List.mem_append.1 hc with hc | hc
        · exact (n2 c hc).2.2
        · rcases hpo with ⟨_, h⟩ | ⟨n, h, _, _, hn⟩
          · rw [h] at hc; cases hc
          · rw [h] at hc
            rcases List.mem_cons.1 hc with hc | hc
            · rw [hc]; decide
            · exact (hn c hc).2.2
      unfold notSl
      simpa using this
    rw [← List.append_assoc, List.takeWhile_append_of_pos ha, List.dropWhile_append_of_pos ha]
    rcases p1 with h | ⟨r, h⟩
    · rw [h]; simp
    · rw [h, List.takeWhile_cons, if_neg (by decide), List.dropWhile_cons, if_neg (by decide)]
      simp
  have hnum : numR (F ++ poP po) = (F, some po) := by
    unfold numR
    rcases hpo with ⟨hz, h⟩ | ⟨n, h, _, hn, hc⟩
    · rw [h, List.append_nil, findB_no F [] 58 f58, hz]
    · rw [h, findB_one F n 58 f58]
      simp only
      rw [List.take_left]
      congr 1
      have : (F ++ 58 :: n).drop (F.length + 1) = n := by
        rw [← List.drop_drop, List.drop_left]
        rfl
      rw [this, hn]
  have hR : hostR sc (F ++ (poP po ++ pa)) = some (12, (([] : Bs), (sc, (ho, (wi, (po, pa)))))) := by
    unfold hostR
    rw [hfront.1, hfront.2, hnum]
    simp only
    rw [n3]
  have hno : findB (F ++ (poP po ++ pa)) [58, 47, 47] = none := by
    rw [findB_skip F _ _ _ f58]
    rcases hpo with ⟨_, h⟩ | ⟨n, h, hne, _, hc⟩
    · rw [h, List.nil_append, findB_no pa _ _ pa58]; rfl
    · rw [h]
      have hn58 : (58 : UInt8) ∉ n ++ pa := fun hm => by
        rcases List.mem_append.1 hm with hm | hm
        · exact (hc _ hm).1 rfl
        · exact pa58 hm
      rw [List.cons_append, findB, if_neg, findB_no _ _ _ hn58]
      · rfl
      · intro hpre
        cases n with
        | nil => exact hne rfl
        | cons d n =>
          obtain ⟨_, h2⟩ := List.cons_prefix_cons.1 (List.isPrefixOf_iff_prefix.1 hpre)
          obtain ⟨h3, _⟩ := List.cons_prefix_cons.1 h2
          exact (hc d List.mem_cons_self).2.2 h3.symm
  have hlast : ¬ lastC (F ++ (poP po ++ pa)) = 58 := by
    rcases p1 with h | ⟨r, h⟩
    · rw [h, List.append_nil]
      rcases hpo with ⟨_, h2⟩ | ⟨n, h2, hne, _, hc⟩
      · rw [h2, List.append_nil]
        exact fun e => f58 (e ▸ lastC_mem n1)
      · rw [h2, lastC_app F (by simp), show (58 :: n) = [58] ++ n from rfl, lastC_app _ hne]
        exact fun e => (hc _ (lastC_mem hne)).1 e
    · have hne : pa ≠ [] := by rw [h]; simp
      rw [← List.append_assoc, lastC_app _ hne]
      exact fun e => pa58 (e ▸ lastC_mem hne)
  have hGne : F ++ (poP po ++ pa) ≠ [] := by
    intro e
    exact n1 (List.append_eq_nil_iff.1 e).1
  have hGfirst : ¬ firstC (F ++ (poP po ++ pa)) = 39 := by
    rw [firstC_app _ n1]
    exact (n2 _ (firstC_mem n1)).2.1
  generalize F ++ (poP po ++ pa) = G at *
  unfold parP
  rcases hs with hs | hs
  · subst hs
    have : hdP [] = [] := rfl
    rw [this, List.nil_append, if_neg hGne, if_neg (by rw [qt_first hGfirst]; decide), if_neg hlast]
    unfold hostP schR
    rw [hno]
    exact hR
  · obtain ⟨s1, s2⟩ := scheme_chars hs
    have hd : hdP sc = sc ++ [58, 47, 47] := by
      unfold hdP
      have : (sc == ([] : Bs)) = false := by simpa using s1
      rw [this]; rfl
    have s58 : (58 : UInt8) ∉ sc := fun hm => (scm_no (s2 _ hm)).1 rfl
    have hlow : lowerB sc = sc := low_same (fun c hm => (scm_no (s2 c hm)).2.2.2)
    rw [hd, if_neg (by simp), if_neg, if_neg (by rw [lastC_app _ hGne]; exact hlast)]
    · unfold hostP schR
      have hf : findB (sc ++ [58, 47, 47] ++ G) [58, 47, 47] = some sc.length := by
        rw [List.append_assoc, findB_skip sc _ _ _ s58]
        have : findB ([58, 47, 47] ++ G) [58, 47, 47] = some 0 := by
          show findB (58 :: 47 :: 47 :: G) [58, 47, 47] = some 0
          rw [findB, if_pos (show ([58, 47, 47] : Bs).isPrefixOf (58 :: 47 :: 47 :: G) = true from List.isPrefixOf_iff_prefix.2 ⟨G, rfl⟩)]
        rw [this]
        simp
      rw [hf]
      have hl0 : ¬ sc.length = 0 := fun e => s1 (List.length_eq_zero_iff.1 e)
      have ht : (sc ++ [58, 47, 47] ++ G).take sc.length = sc := by rw [List.append_assoc, List.take_left]
      have hdr : (sc ++ [58, 47, 47] ++ G).drop (sc.length + 3) = G := by
        have : (sc ++ [58, 47, 47]).length = sc.length + 3 := by simp
        rw [← this, List.drop_left]
      simp only
      rw [if_neg hl0, ht, hdr, hlow]
      exact hR
    · rw [List.append_assoc, qt_first (by rw [firstC_app _ s1]; exact (scm_no (s2 _ (firstC_mem s1))).2.1)]
      decide
theorem word_back {s : Src} (h : rightB s = true) : parP (wordB s) = some s ∧ (wordB s).length ≤ 1000 := by
  obtain ⟨k, tx, sc, ho, wi, po, pa⟩ := s
  unfold rightB at h
  unfold wordB
  simp only at h ⊢
  have bare : bareB (k, (tx, (sc, (ho, (wi, (po, pa)))))) = true → ho = [] ∧ wi = false ∧ po = 0 ∧ pa = [] := fun hb => by
    unfold bareB at hb
    simp only [Bool.and_eq_true, beq_iff_eq, Bool.not_eq_true'] at hb
    exact hb
  cases e9 : (k == 9) with
  | true =>
    rw [e9, cond_true] at h
    simp only [Bool.and_eq_true, beq_iff_eq, decide_eq_true_eq] at h
    obtain ⟨a, b, c, d⟩ := h
    obtain ⟨rfl, rfl, rfl, rfl⟩ := bare a
    have hk := beq_iff_eq.1 e9
    subst hk; subst b
    simp only [cond_true]
    refine ⟨?_, by simp; omega⟩
    unfold parP
    have hq : qtB ([39, 110, 111, 110, 99, 101, 45] ++ tx ++ [39]) = true := by
      unfold qtB
      rw [lastC_snoc, decide_eq_true (by simp; omega)]
      rfl
    rw [if_neg (by simp), if_pos hq]
    unfold quoS
    have h7 : (lowerB ([39, 110, 111, 110, 99, 101, 45] ++ tx ++ [39])).take 7 = [39, 110, 111, 110, 99, 101, 45] := by
      rw [low_take, List.append_assoc]
      show lowerB [39, 110, 111, 110, 99, 101, 45] = _
      kernel_rfl
    rw [if_pos h7, List.dropLast_concat]
    rfl
  | false =>
    rw [e9, cond_false] at h
    cases e10 : (k == 10) with
    | true =>
      rw [e10, cond_true] at h
      simp only [Bool.and_eq_true, beq_iff_eq] at h
      obtain ⟨a, b, c⟩ := h
      obtain ⟨rfl, rfl, rfl, rfl⟩ := bare a
      have hk := beq_iff_eq.1 e10
      subst hk; subst b
      simp only [cond_true, cond_false]
      have hl : tx.length = 16 := by omega
      have el := encW_len _ tx (Nat.le_refl _)
      refine ⟨?_, by simp; omega⟩
      unfold parP
      have hq : qtB ([39, 109, 97, 114, 107, 45] ++ encW tx ++ [39]) = true := by
        unfold qtB
        rw [lastC_snoc, decide_eq_true (by simp; omega)]
        rfl
      rw [if_neg (by simp), if_pos hq]
      unfold quoS
      have h6 : (lowerB ([39, 109, 97, 114, 107, 45] ++ encW tx ++ [39])).take 6 = [39, 109, 97, 114, 107, 45] := by
        rw [low_take, List.append_assoc]
        show lowerB [39, 109, 97, 114, 107, 45] = _
        kernel_rfl
      have h7 : ¬ (lowerB ([39, 109, 97, 114, 107, 45] ++ encW tx ++ [39])).take 7 = [39, 110, 111, 110, 99, 101, 45] := by
        intro e
        have e2 : ((lowerB ([39, 109, 97, 114, 107, 45] ++ encW tx ++ [39])).take 7).take 6 = ([39, 110, 111, 110, 99, 101, 45] : Bs).take 6 := by rw [e]
        rw [List.take_take, show min 6 7 = 6 from rfl, h6] at e2
        exact absurd e2 (by decide)
      rw [if_neg h7, if_pos h6, List.dropLast_concat]
      have : ([39, 109, 97, 114, 107, 45] ++ encW tx : Bs).drop 6 = encW tx := rfl
      rw [this, dec_enc tx (by omega)]
      rfl
    | false =>
      rw [e10, cond_false] at h
      cases e11 : (k == 11) with
      | true =>
        rw [e11, cond_true] at h
        simp only [Bool.and_eq_true, beq_iff_eq] at h
        obtain ⟨a, b, c⟩ := h
        obtain ⟨rfl, rfl, rfl, rfl⟩ := bare a
        have hk := beq_iff_eq.1 e11
        subst hk; subst b
        simp only [cond_true, cond_false]
        obtain ⟨s1, s2⟩ := scheme_chars c
        have sl := schemeB_len c
        have hlow : lowerB sc = sc := low_same (fun c hm => (scm_no (s2 c hm)).2.2.2)
        refine ⟨?_, by simp; omega⟩
        unfold parP
        rw [if_neg (by simp), if_neg (by rw [qt_first (by rw [firstC_app _ s1]; exact (scm_no (s2 _ (firstC_mem s1))).2.1)]; decide), if_pos (lastC_snoc _ _), List.dropLast_concat, hlow]
        rfl
      | false =>
        rw [e11, cond_false] at h
        cases e12 : (k == 12) with
        | true =>
          rw [e12, cond_true] at h
          unfold hostS at h
          simp only [Bool.and_eq_true, beq_iff_eq, Bool.or_eq_true, decide_eq_true_eq] at h
          obtain ⟨a, b, c, d, e, f⟩ := h
          have hk := beq_iff_eq.1 e12
          subst hk; subst a
          simp only [cond_true, cond_false]
          refine ⟨host_back b c d e f, ?_⟩
          have l1 := hdP_len sc
          have l2 := wiP_len wi ho
          have l3 := poP_len po
          have l4 : sc.length ≤ 20 := by
            rcases b with b | b
            · rw [b]; simp
            · exact schemeB_len b
          have l5 : ho.length ≤ 100 := by
            cases hh : (ho == ([] : Bs)) with
            | true => rw [beq_iff_eq.1 hh]; simp
            | false => rw [hh, cond_false] at c; exact hostB_len c
          have l6 : pa.length ≤ 200 := by
            cases pa with
            | nil => simp
            | cons x r =>
              rw [pathB_cons] at f
              simp only [Bool.and_eq_true, decide_eq_true_eq] at f
              have := f.2.1
              omega
          unfold prS
          simp only [List.length_append]
          omega
        | false =>
          rw [e12, cond_false] at h
          simp only [Bool.and_eq_true, beq_iff_eq] at h
          obtain ⟨hk, a, b, c⟩ := h
          obtain ⟨rfl, rfl, rfl, rfl⟩ := bare a
          subst b; subst c
          simp only [cond_false]
          unfold keptB at hk
          simp only [Bool.and_eq_true, decide_eq_true_eq] at hk
          have : k = 1 ∨ k = 2 ∨ k = 3 ∨ k = 4 ∨ k = 5 ∨ k = 6 ∨ k = 7 ∨ k = 8 := by omega
          clear e9 e10 e11 e12 a bare
          rcases this with rfl | rfl | rfl | rfl | rfl | rfl | rfl | rfl <;> exact ⟨by kernel_rfl, by decide⟩
end Go.En.Pl
