/- Text OH of this seat: written by a program of ours, or by hand; checked by Lean. -/
import Derived.Test.YtadpiodjbcjlcaaOG
set_option linter.unusedVariables false
set_option linter.unusedSimpArgs false
namespace Go.En.Pl
/-! -/
theorem indexF (l : List Int) (x : Int) (h : l.length ≤ 4000) : wp (slices_IndexFunc__int_int_fb8 (Ev.upto 5000) ((l, ()), ((x, ()), ()))) (fun o => (o = (((-1 : Int), ()), ((x, ()), ())) ∧ ∀ k (hk : k < l.length), l[k] ≠ x) ∨ ∃ (i : Nat) (hi : i < l.length), o = (((i : Int), ()), ((x, ()), ())) ∧ l[i] = x ∧ ∀ k (hk : k < i), l[k] ≠ x) := by
  unfold slices_IndexFunc__int_int_fb8 dom_out_1_069
  refine wp_seq (fun o => (o = .inl ((), ((x, ()), ())) ∧ ∀ k (hk : k < l.length), l[k] ≠ x) ∨ ∃ (i : Nat) (hi : i < l.length), o = .inr (((i : Int), ()), ((x, ()), ())) ∧ l[i] = x ∧ ∀ k (hk : k < i), l[k] ≠ x) ?_ ?_
  · refine wp_for (fun i (_ : Unit) => ((l, ((l.length : Int), ((i : Int), ()))), ((x, ()), ()))) (fun i _ => ∀ k (hk : k < l.length), k < i → l[k] ≠ x) l.length () rfl (fun k hk h => by omega) (by omega) (fun i s hi hI => ?_)
    simp only [lenLt]
    refine wp_dec (fun hlt => ?_) (fun hge => wp_some (.inl ⟨rfl, fun k hk => hI k hk (by omega)⟩))
    simp only [idx_nat hlt, Option.bind_some, wrapS (show i < 1000000 by omega)]
    refine wp_cond (fun he => wp_some (.inr ⟨i, hlt, rfl, beq_iff_eq.1 he, fun k hk => hI k (by omega) hk⟩)) (fun hne => wp_some ⟨hlt, (), rfl, fun k hk hk2 => ?_⟩)
    rcases Nat.lt_succ_iff_lt_or_eq.1 hk2 with h2 | h2
    · exact hI k hk h2
    · subst h2; exact beq_eq_false_iff_ne.1 hne
  · rintro o (⟨rfl, h⟩ | ⟨i, hi, rfl, h1, h2⟩)
    · exact wp_some (.inl ⟨rfl, h⟩)
    · exact wp_some (.inr ⟨i, hi, rfl, h1, h2⟩)
theorem take_set_succ {l : List Int} {i : Nat} (v : Int) (h : i < l.length) : (l.set i v).take (i + 1) = l.take i ++ [v] := by
  rw [List.take_succ_eq_append_getElem (by simpa using h), List.getElem_set_self, List.take_set_of_le (Nat.le_refl _)]
theorem drop_set_lt {l : List Int} {i j : Nat} (v : Int) (h : i < j) : (l.set i v).drop j = l.drop j := by
  rw [List.drop_set_of_lt h]
theorem deleteF (l : List Int) (x : Int) (h : l.length ≤ 4000) : slices_DeleteFunc__int_int_8f6 (Ev.upto 5000) ((), (l, ((x, ()), ()))) = some ((), ((x, ()), (l.filter (· != x), ()))) := by
  apply wp_eq
  unfold slices_DeleteFunc__int_int_8f6
  simp only [Option.bind_some]
  refine wp_seq _ (indexF l x h) ?_
  rintro o (⟨rfl, hno⟩ | ⟨i, hi, rfl, hix, hbef⟩)
  · refine wp_true rfl (wp_some ?_)
    have : l.filter (· != x) = l := List.filter_eq_self.2 fun a ha => by
      obtain ⟨k, hk, rfl⟩ := List.getElem_of_mem ha
      exact bne_iff_ne.2 (hno k hk)
    rw [this]
  · refine wp_false (show ((i : Int) == (-1 : Int)) = false from beq_eq_false_iff_ne.2 (by omega)) ?_
    have h0 : (l.take (i + 1)).filter (· != x) = l.take i := by
      rw [List.take_succ_eq_append_getElem hi, List.filter_append]
      have e1 : (l.take i).filter (· != x) = l.take i := List.filter_eq_self.2 fun a ha => by
        obtain ⟨k, hk, rfl⟩ := List.getElem_of_mem ha
        rw [List.length_take] at hk
        rw [List.getElem_take]
        exact bne_iff_ne.2 (hbef k (by omega))
      rw [e1, hix]
      simp
    refine wp_seq (fun o => ∃ (i' : Nat) (l' : List Int), o = (((i' : Int), ()), ((x, ()), (l', ()))) ∧ i' ≤ l'.length ∧ l'.length = l.length ∧ l'.take i' = l.filter (· != x)) ?_ ?_
    · refine wp_for (fun k (s : Nat × List Int) => (((s.1 : Int), (((i + 1 + k : Nat) : Int), ())), ((x, ()), (s.2, ())))) (fun k s => s.1 ≤ i + 1 + k ∧ i + 1 + k ≤ l.length ∧ s.2.length = l.length ∧ s.2.take s.1 = (l.take (i + 1 + k)).filter (· != x) ∧ s.2.drop (i + 1 + k) = l.drop (i + 1 + k)) (l.length - (i + 1)) (i, l) (by simp only [Nat.add_zero]; rw [wrapS (show i < 1000000 by omega)]) ⟨by show i ≤ _; omega, by omega, rfl, h0.symm, rfl⟩ (by omega) (fun k s hk hI => ?_)
      obtain ⟨g1, g2, g3, g4, g5⟩ := hI
      simp only [g3, lenLt]
      refine wp_dec (fun hlt => ?_) (fun hge => ?_)
      · have hv : s.2[((i + 1 + k : Nat) : Int).toNat]? = some l[i + 1 + k] := by
          rw [Int.toNat_natCast]
          have := congrArg (fun z : List Int => z[0]?) g5
          simp only [List.getElem?_drop, Nat.add_zero] at this
          rw [this]
          exact List.getElem?_eq_getElem hlt
        have htk : l.take (i + 1 + (k + 1)) = l.take (i + 1 + k) ++ [l[i + 1 + k]] := by
          rw [show i + 1 + (k + 1) = (i + 1 + k) + 1 by omega]
          exact List.take_succ_eq_append_getElem hlt
        have hdr : s.2.drop (i + 1 + (k + 1)) = l.drop (i + 1 + (k + 1)) := by
          have := congrArg (fun z : List Int => z.drop 1) g5
          simp only [List.drop_drop] at this
          exact this
        simp only [decide_eq_true hlt, decide_eq_true (show (0 : Int) ≤ ((i + 1 + k : Nat) : Int) by omega), Bool.and_self, cond_true, hv, Option.bind_some, dom_out_1_069]
        by_cases hx : l[i + 1 + k] = x
        · simp only [hx, beq_self_eq_true, Bool.not_true, cond_false, Option.bind_some, wrapS (show i + 1 + k < 1000000 by omega)]
          refine wp_some ⟨by omega, s, rfl, by omega, by omega, g3, ?_, hdr⟩
          rw [htk, List.filter_append, hx, g4]
          simp
        · have hs1 : s.1 < s.2.length := by omega
          simp only [beq_eq_false_iff_ne.2 hx, Bool.not_false, cond_true, decide_eq_true (show (0 : Int) ≤ (s.1 : Int) by omega), decide_eq_true (show s.1 < l.length by omega), Bool.and_self, Int.toNat_natCast, List.getElem?_eq_getElem hs1, Option.bind_some, wrapS (show i + 1 + k < 1000000 by omega), wrapS (show s.1 < 1000000 by omega)]
          refine wp_some ⟨by omega, (s.1 + 1, s.2.set s.1 l[i + 1 + k]), rfl, by show s.1 + 1 ≤ _; omega, by omega, by show (s.2.set _ _).length = _; simpa using g3, ?_, ?_⟩
          · show (s.2.set s.1 l[i + 1 + k]).take (s.1 + 1) = _
            rw [take_set_succ _ hs1, htk, List.filter_append, g4]
            simp [hx]
          · show (s.2.set s.1 l[i + 1 + k]).drop _ = _
            rw [drop_set_lt _ (by omega), hdr]
      · refine wp_some ⟨s.1, s.2, rfl, by omega, g3, ?_⟩
        rw [g4, List.take_of_length_le (by omega)]
    · rintro _ ⟨i', l', rfl, g1, g2, g3⟩
      simp only [decide_eq_true (show (0 : Int) ≤ (i' : Int) by omega), decide_eq_true (show (i' : Int) ≤ (l'.length : Int) by omega), decide_eq_true (Int.le_refl (l'.length : Int)), Bool.and_self, cond_true, Int.toNat_natCast]
      have e : sl (List.take i' l' ++ List.replicate (l'.length - i') (0 : Int) ++ List.drop l'.length l') (0 : Int) (i' : Int) = some (l'.take i') := by
        rw [show (0 : Int) = ((0 : Nat) : Int) from rfl, sl_nat (by omega) (by simp; omega), List.drop_zero, List.append_assoc, List.take_append_of_le_length (by simp; omega), List.take_take, Nat.min_self]
      refine wp_bind (wp_of_eq e (wp_some ?_))
      rw [g3]
end Go.En.Pl
