/- Text FU3 of this seat: written by a program of ours, or by hand; checked by Lean. -/
import Derived.Test.YtlambcopphejaaaGreatDoorFU2
set_option linter.unusedSimpArgs false
set_option linter.unusedVariables false
namespace Go.En.Pl
/-! The reader and the feeder. -/
abbrev Rd := (Int × (Int × (Int × Int))) × Int
def RD (x : Rd) (K : Bs) : Prop := x.2 = (K.length : Int) ∧ K.length ≤ 3 ∧ List.take K.length [x.1.1, x.1.2.1, x.1.2.2.1, x.1.2.2.2] = ofBs K
theorem RD_new : RD ((0, (0, (0, 0))), 0) [] := ⟨rfl, by simp, rfl⟩
theorem keepF_succ (n k : Nat) (s : Bs) (h0 : 0 < k) (h : k ≤ s.length) : keepF (n + 1) k s = if ct (s[s.length - k]'(by omega)) = true then keepF n (k + 1) s else (if inc (s.drop (s.length - k)) = true then k else 0) := by
  show (if k ≤ s.length then _ else _) = _
  rw [if_pos h, List.getElem?_eq_getElem (by omega)]
theorem RFeed_eq (N : Nat) (x : Rd) (K b : Bs) (hx : RD x K) (hb : b.length ≤ 100000) (hN : 200000 < N) : ∃ x' : Rd, utf_Reader_Feed_155 (Ev.upto N) ((ofBs b, ()), ((x, ()), ())) =
    some ((U ((K ++ b).take ((K ++ b).length - keep (K ++ b))), ((0 : Int), ())), ((x', ()), ())) ∧ RD x' ((K ++ b).drop ((K ++ b).length - keep (K ++ b))) := by
  obtain ⟨h1, h2, h3⟩ := hx
  obtain ⟨⟨x0, x1, x2, x3⟩, m⟩ := x
  simp only at h1 h3
  subst h1
  have g1 : (decide ((0 : Int) ≤ (K.length : Int)) && decide ((K.length : Int) ≤ (4 : Int))) = true := by rw [decide_eq_true (show (0 : Int) ≤ (K.length : Int) by omega), decide_eq_true (show (K.length : Int) ≤ 4 by omega)]; rfl
  have tk : List.take (Int.toNat (K.length : Int)) [x0, x1, x2, x3] = ofBs K := by rw [Int.toNat_natCast]; exact h3
  generalize hA : K ++ b = A
  have hAl : A.length = K.length + b.length := by rw [← hA]; simp
  have hAl2 : A.length ≤ 100003 := by omega
  have hap : ([] : List Int) ++ ofBs K ++ ofBs b = ofBs A := by rw [List.nil_append, ofBs_append, hA]
  obtain ⟨k1, k2, _⟩ := keep_spec A []
  have hloop : ∀ W : Nat → Int, True := fun _ => trivial
  have main : wp (utf_Reader_Feed_155 (Ev.upto N) ((ofBs b, ()), ((((x0, (x1, (x2, x3))), (K.length : Int)), ()), ()))) (fun r => ∃ x' : Rd, r = ((U (A.take (A.length - keep A)), ((0 : Int), ())), ((x', ()), ())) ∧ RD x' (A.drop (A.length - keep A))) := by
    unfold utf_Reader_Feed_155
    simp -implicitDefEqProofs only [g1, cond_true, tk, ofBs_length, List.length_append, List.length_nil, fits_of (n := 0 + K.length) (k := 1) (by omega), fits_of (n := 0 + K.length + b.length) (k := 1) (by omega), hap, Option.bind_some]
    rw [if_pos (decide_eq_true (p := True) trivial), Option.bind_some]
    refine wp_seq (fun r => r = ((((A.length - keep A : Nat) : Int), ()), ((((x0, (x1, (x2, x3))), (K.length : Int)), ()), (ofBs A, ())))) ?_ ?_
    · refine wp_it (fun a => ∃ k : Nat, a = ((((A.length : Nat) : Int), ((k : Int), ())), ((((x0, (x1, (x2, x3))), (K.length : Int)), ()), (ofBs A, ()))) ∧ 1 ≤ k ∧ k ≤ 4 ∧ keepF (4 - k) k A = keep A) (fun a => 4 - a.1.2.1.toNat) ⟨1, by rw [ofBs_length]; rfl, by omega, by omega, rfl⟩ (by simp; omega) ?_
      rintro _ ⟨k, rfl, hk1, hk4, hkF⟩
      simp -implicitDefEqProofs only [ofBs_length]
      by_cases h4 : k < 4
      · obtain ⟨j, hj⟩ : ∃ j, 4 - k = j + 1 := ⟨3 - k, by omega⟩
        rw [hj] at hkF
        rw [show decide ((k : Int) < 4) = true from decide_eq_true (by omega)]
        by_cases hl : k ≤ A.length
        · rw [show decide ((k : Int) ≤ (A.length : Int)) = true from decide_eq_true (by omega)]
          have w : IntKind.wrap .i64 ((A.length : Int) - (k : Int)) = ((A.length - k : Nat) : Int) := by rw [wrap64 (by omega) (by omega)]; omega
          have c1 : (decide (0 ≤ ((A.length - k : Nat) : Int)) && decide (((A.length - k : Nat) : Int) ≤ (A.length : Int)) && decide ((A.length : Int) ≤ (A.length : Int))) = true := by
            rw [decide_eq_true (show (0 : Int) ≤ ((A.length - k : Nat) : Int) by omega), decide_eq_true (show ((A.length - k : Nat) : Int) ≤ (A.length : Int) by omega), decide_eq_true (Int.le_refl _)]; rfl
          have c2 : (decide ((0 : Int) ≤ 0) && decide ((0 : Int) < ((((A.length : Int)).toNat - (((A.length - k : Nat) : Int)).toNat : Nat) : Int))) = true := by
            rw [decide_eq_true (Int.le_refl _), decide_eq_true (show (0 : Int) < ((((A.length : Int)).toNat - (((A.length - k : Nat) : Int)).toNat : Nat) : Int) by simp; omega)]; rfl
          have hlt : A.length - k < A.length := by omega
          have c3 : (ofBs A)[(((A.length - k : Nat) : Int)).toNat + ((0 : Int)).toNat]? = some ((A[A.length - k].toNat : Nat) : Int) := by
            simp [ofBs]
            exact ⟨_, List.getElem?_eq_getElem hlt, rfl⟩
          have c4 : ((ofBs A).drop (((A.length - k : Nat) : Int)).toNat).take ((((A.length : Int)).toNat - (((A.length - k : Nat) : Int)).toNat)) = ofBs (A.drop (A.length - k)) := by
            rw [ofBs_drop, ofBs_take, Int.toNat_natCast, Int.toNat_natCast, List.take_of_length_le (by simp)]
          have bt : (true == true) = true := rfl
          have c5 := RuneStart_eq (Ev.upto N) (A[A.length - k]'hlt)
          simp -implicitDefEqProofs only [bt, cond_true, Option.bind_some, ofBs_length, w, c1, c2, c3, c5, c4]
          rw [keepF_succ _ _ _ (by omega) hl] at hkF
          cases hct : ct A[A.length - k] with
          | true =>
            rw [hct, if_pos rfl] at hkF
            have wk : IntKind.wrap .i64 ((k : Int) + 1) = ((k + 1 : Nat) : Int) := by rw [wrap64 (by omega) (by omega)]; omega
            simp -implicitDefEqProofs only [Bool.not_true, cond_false, Option.bind_some, ofBs_length, wk]
            exact ⟨_, rfl, ⟨k + 1, rfl, by omega, by omega, by rw [show 4 - (k + 1) = j by omega]; exact hkF⟩, by simp; omega⟩
          | false =>
            rw [hct, if_neg (by decide)] at hkF
            have hne : A.drop (A.length - k) ≠ [] := by intro e; simp at e; omega
            simp -implicitDefEqProofs only [Bool.not_false, cond_true, Option.bind_some, FullRune_eq _ _ hne, Bool.not_not]
            cases hi : inc (A.drop (A.length - k)) with
            | true =>
              rw [hi, if_pos rfl] at hkF
              simp -implicitDefEqProofs only [cond_true, Option.bind_some, w]
              exact ⟨_, rfl, by rw [← hkF]⟩
            | false =>
              rw [hi, if_neg (by decide)] at hkF
              simp -implicitDefEqProofs only [cond_false, Option.bind_some]
              exact ⟨_, rfl, by rw [← hkF]; rfl⟩
        · rw [show decide ((k : Int) ≤ (A.length : Int)) = false from decide_eq_false (by omega)]
          have : keepF (j + 1) k A = 0 := by show (if k ≤ A.length then _ else _) = _; rw [if_neg hl]
          rw [this] at hkF
          have bt : (true == true) = true := rfl
          simp -implicitDefEqProofs only [bt, cond_true, cond_false, Option.bind_some]
          exact ⟨_, rfl, by rw [← hkF]; rfl⟩
      · obtain rfl : k = 4 := by omega
        have hkF' : 0 = keep A := hkF
        rw [show decide (((4 : Nat) : Int) < 4) = false from rfl]
        have bt : (false == true) = false := rfl
        simp -implicitDefEqProofs only [bt, cond_false, Option.bind_some]
        exact ⟨_, rfl, by rw [← hkF']; rfl⟩
    · rintro _ rfl
      generalize hE : A.length - keep A = e at *
      have he : e ≤ A.length := by omega
      have c1 : (decide (0 ≤ (e : Int)) && decide ((e : Int) ≤ (A.length : Int)) && decide ((A.length : Int) ≤ (A.length : Int))) = true := by
        rw [decide_eq_true (show (0 : Int) ≤ (e : Int) by omega), decide_eq_true (show (e : Int) ≤ (A.length : Int) by omega), decide_eq_true (Int.le_refl _)]; rfl
      have s1 : sl (ofBs A) (0 : Int) (e : Int) = some (ofBs (A.take e)) := by
        rw [show (0 : Int) = ((0 : Nat) : Int) from rfl, sl_nat (Nat.zero_le _) (by rw [ofBs_length]; omega), List.drop_zero, ofBs_take]
      have c4 : ((ofBs A).drop ((e : Int)).toNat).take (((A.length : Int)).toNat - ((e : Int)).toNat) = ofBs (A.drop e) := by
        rw [ofBs_drop, ofBs_take, Int.toNat_natCast, Int.toNat_natCast, List.take_of_length_le (by simp)]
      simp -implicitDefEqProofs only [ofBs_length, c1, cond_true, s1, Option.bind_some, c4, uDecode_eq N (A.take e) (by simp; omega) (by simp; omega)]
      refine ⟨_, rfl, _, rfl, ?_⟩
      have hD : (A.drop e).length ≤ 3 := by simp; omega
      generalize A.drop e = D at hD
      refine ⟨?_, hD, ?_⟩
      · show mn ((D.length : Nat) : Int) 4 = _
        unfold mn
        split <;> omega
      · match D, hD with
        | [], _ => rfl
        | [a], _ => rfl
        | [a, b], _ => rfl
        | [a, b, c], _ => rfl
        | a :: b :: c :: d :: r, h => simp at h
  obtain ⟨r, e, x', rfl, hr⟩ := main
  exact ⟨x', e, hr⟩
theorem REnd_eq (N : Nat) (x : Rd) (K : Bs) (hx : RD x K) (hN : 10 < N) : ∃ x' : Rd, utf_Reader_End_c0b (Ev.upto N) ((), ((x, ()), ())) = some ((U K, ((0 : Int), ())), ((x', ()), ())) ∧ RD x' [] := by
  obtain ⟨h1, h2, h3⟩ := hx
  obtain ⟨⟨x0, x1, x2, x3⟩, m⟩ := x
  simp only at h1 h3
  subst h1
  have g1 : (decide ((0 : Int) ≤ (K.length : Int)) && decide ((K.length : Int) ≤ (4 : Int))) = true := by rw [decide_eq_true (show (0 : Int) ≤ (K.length : Int) by omega), decide_eq_true (show (K.length : Int) ≤ 4 by omega)]; rfl
  have tk : List.take (Int.toNat (K.length : Int)) [x0, x1, x2, x3] = ofBs K := by rw [Int.toNat_natCast]; exact h3
  unfold utf_Reader_End_c0b
  simp -implicitDefEqProofs only [g1, cond_true, tk, uDecode_eq N K (by omega) (by omega), Option.bind_some]
  exact ⟨_, rfl, rfl, by simp, rfl⟩
end Go.En.Pl
