/- Text PD6 of this seat: written by a program of ours, or by hand; checked by Lean. -/
import Derived.Test.YtgclokmkoningaaDoorPD5
set_option linter.unusedSimpArgs false
set_option linter.unusedVariables false
namespace Go.En.Ent
theorem lget {α : Type} {l : List α} {i : Nat} (h : i < l.length) : l[i]? = some l[i] := List.getElem?_eq_getElem h
theorem plain6 (a b : Bs) : F6 (Ev.upto 5000) ((a, (b, ())), ()) = some ((true, ()), ()) := by
  apply wp_eq
  unfold F6
  by_cases hs : 2000 < a.length ∨ 2000 < b.length
  · refine wp_seq (fun o => o = ((a, (b, (true, ()))), ())) ?_ ?_
    · by_cases ha : 2000 < a.length
      · rw [show decide (((a.length : Nat) : Int) > 2000) = true from decide_eq_true (by omega)]
        exact ⟨_, rfl, rfl⟩
      · rw [show decide (((a.length : Nat) : Int) > 2000) = false from decide_eq_false (by omega), show decide (((b.length : Nat) : Int) > 2000) = true from decide_eq_true (by omega)]
        exact ⟨_, rfl, rfl⟩
    · rintro _ rfl
      exact ⟨_, rfl, rfl⟩
  have ha : a.length ≤ 2000 := by omega
  have hb : b.length ≤ 2000 := by omega
  rw [show decide (((a.length : Nat) : Int) > 2000) = false from decide_eq_false (by omega)]
  simp -implicitDefEqProofs only [beq_self_eq_true, cond_true, Option.bind_some]
  rw [show decide (((b.length : Nat) : Int) > 2000) = false from decide_eq_false (by omega), cond_false]
  refine wp_bind ?_
  refine wp_for (σ := Unit) (fun i _ => ((a, (b, ((i : Int), ()))), ())) (fun i _ => (38 : UInt8) ∉ a.take i) a.length () rfl (by simp) (by omega) ?_
  rintro i _ hi hn
  by_cases hi' : i < a.length
  · have c0 : decide ((i : Int) < ((a.length : Nat) : Int)) = true := decide_eq_true (by omega)
    have w : IntKind.wrap .i64 ((i : Int) + 1) = ((i + 1 : Nat) : Int) := by rw [wrap64 (by omega) (by omega)]; omega
    simp -implicitDefEqProofs only [c0, cond_true, idx_nat hi', Option.bind_some, w]
    cases h38 : (((a[i].toNat : Nat) : Int) == 38) with
    | true =>
      simp -implicitDefEqProofs only [cond_true]
      rw [ex5]
      exact ⟨_, rfl, ⟨_, rfl, rfl⟩⟩
    | false =>
      simp -implicitDefEqProofs only [cond_false]
      refine ⟨_, rfl, hi', (), rfl, ?_⟩
      rw [List.take_succ_eq_append_getElem hi', List.mem_append]
      rintro (h | h)
      · exact hn h
      · have : a[i] = 38 := (List.mem_singleton.1 h).symm
        rw [this] at h38
        cases h38
  · have c0 : decide ((i : Int) < ((a.length : Nat) : Int)) = false := decide_eq_false (by omega)
    rw [List.take_of_length_le (by omega)] at hn
    simp -implicitDefEqProofs only [c0, cond_false]
    refine ⟨_, rfl, ?_⟩
    simp only
    have da := dec_none a 0 hn
    have dab := dec_app a b 0 hn
    rw [Int.zero_add, dec_shift b (a.length : Int)] at dab
    have hl := dec_len b.length b 0 (Nat.le_refl _)
    have fa : strFits (a.length + b.length) = true := strFits_of (by omega)
    have fb : strFits (a.length + (dec b 0).1.length) = true := strFits_of (by omega)
    rw [F9_eq 5000 a (by omega) (by omega) (by decide), da]
    simp -implicitDefEqProofs only [Option.bind_some]
    rw [F9_eq 5000 b (by omega) (by omega) (by decide)]
    simp -implicitDefEqProofs only [Option.bind_some, fa, cond_true]
    rw [F9_eq 5000 (a ++ b) (by simp; omega) (by simp; omega) (by decide), dab]
    simp -implicitDefEqProofs only [Option.bind_some, beq_self_eq_true, Bool.not_true, cond_true, List.length_nil, show (((0 : Nat) : Int) != 0) = false from rfl, fb, List.length_map, bne_self_eq_false, cond_false]
    have hpos := dec_pos b.length b 0
    have hg : (dec b 0).2 = (decB b.length b 0).2 := rfl
    rw [← hg] at hpos
    generalize (dec b 0).2 = g at hpos hl ⊢
    refine wp_bind ?_
    refine wp_for (σ := Unit) (fun i _ => ((a, ((i : Int), ())), (g, (g.map (fun p => (p.1, p.2 + (a.length : Int))), ())))) (fun i _ => True) g.length () rfl trivial (by omega) ?_
    rintro j _ hj _
    by_cases hj' : j < g.length
    · have c0 : decide ((j : Int) < ((g.length : Nat) : Int)) = true := decide_eq_true (by omega)
      have c1 : decide ((0 : Int) ≤ (j : Int)) = true := decide_eq_true (by omega)
      have w : IntKind.wrap .i64 ((j : Int) + 1) = ((j + 1 : Nat) : Int) := by rw [wrap64 (by omega) (by omega)]; omega
      have g1 : (g.map (fun p => (p.1, p.2 + (a.length : Int))))[j]? = some (g[j].1, g[j].2 + (a.length : Int)) := by rw [List.getElem?_map, lget hj']; rfl
      have hp := hpos g[j] (List.getElem_mem hj')
      have w2 : IntKind.wrap .i64 (g[j].2 + (a.length : Int) - (a.length : Int)) = g[j].2 := by rw [wrap64 (by omega) (by omega)]; omega
      simp -implicitDefEqProofs only [c0, c1, Bool.and_self, cond_true, List.length_map, Int.toNat_natCast, g1, lget hj', Option.bind_some, bne_self_eq_false, beq_self_eq_true, w2, cond_false, w]
      exact ⟨_, rfl, hj', (), rfl, trivial⟩
    · have c0 : decide ((j : Int) < ((g.length : Nat) : Int)) = false := decide_eq_false (by omega)
      simp -implicitDefEqProofs only [c0, cond_false]
      refine ⟨_, rfl, ?_⟩
      simp only
      rw [ex5]
      exact ⟨_, rfl, rfl⟩
theorem F12_eq (V : Ev) (s : Bs) : F12 V ((s, ()), ()) = some (((nm s).1, ((nm s).2, ())), ()) := by
  have q25 : F25 V ((160, ()), ()) = some (([194, 160], ()), ()) := F25_eq V 160 (by decide)
  unfold F12 nm
  simp only [names, List.find?_cons, List.find?_nil]
  rw [beqc s ([97, 109, 112] : Bs)]
  rw [beqc s ([108, 116] : Bs)]
  rw [beqc s ([103, 116] : Bs)]
  rw [beqc s ([113, 117, 111, 116] : Bs)]
  rw [beqc s ([97, 112, 111, 115] : Bs)]
  rw [beqc s ([110, 98, 115, 112] : Bs)]
  rw [beqc s ([99, 111, 108, 111, 110] : Bs)]
  rw [beqc s ([108, 112, 97, 114] : Bs)]
  rw [beqc s ([114, 112, 97, 114] : Bs)]
  rw [beqc s ([116, 97, 98] : Bs)]
  cases (([97, 109, 112] : Bs) == s) <;> try rfl
  cases (([108, 116] : Bs) == s) <;> try rfl
  cases (([103, 116] : Bs) == s) <;> try rfl
  cases (([113, 117, 111, 116] : Bs) == s) <;> try rfl
  cases (([97, 112, 111, 115] : Bs) == s) <;> try rfl
  cases (([110, 98, 115, 112] : Bs) == s) <;> try rfl
  cases (([99, 111, 108, 111, 110] : Bs) == s) <;> try rfl
  cases (([108, 112, 97, 114] : Bs) == s) <;> try rfl
  cases (([114, 112, 97, 114] : Bs) == s) <;> try rfl
  cases (([116, 97, 98] : Bs) == s) <;> try rfl
theorem F24_eq (N : Nat) (hN : 8 < N) (s : Bs) : F24 (Ev.upto N) ((s, ()), ()) = some (((sg s).1, ((sg s).2.1, ((!(sg s).2.2), ()))), ()) := by
  apply wp_eq
  unfold F24
  rw [F12_eq]
  simp -implicitDefEqProofs only [Option.bind_some]
  unfold sg
  by_cases h1 : (nm s).2 = true
  · rw [h1, if_pos rfl]
    exact ⟨_, rfl, rfl⟩
  have h1' : (nm s).2 = false := by simpa using h1
  rw [h1', if_neg (by decide), cond_false]
  have q32 : ∀ (base most : Nat) (hb : base = 10 ∨ base = 16) (hm : most ≤ 7) (s : Bs), F32 (Ev.upto N) ((s, ((base : Int), ((most : Int), ()))), ()) = some ((match numOk base most s with | some n => (n : Int) | none => -1, ()), ()) := F32_eq N hN
  cases s with
  | nil => exact ⟨_, rfl, rfl⟩
  | cons c d =>
    have c1 : decide ((((c :: d).length : Nat) : Int) < 1) = false := decide_eq_false (by simp only [List.length_cons]; omega)
    simp -implicitDefEqProofs only [c1, beq_self_eq_true, cond_true, idx_zero, Option.bind_some]
    by_cases hc : c = 35
    · subst hc
      simp -implicitDefEqProofs only [sgT, if_true, show ((((35 : UInt8).toNat : Nat) : Int) != 35) = false from rfl, cond_false, sl_tail, Option.bind_some]
      have tail : ∀ (o : Option Nat) (b : Int), b = (match o with | some n => (n : Int) | none => -1) → (∀ n, o = some n → n < 268435456) →
          wp (bif decide (b < (0 : Int)) then (some ((([] : Bs), (false, (false, ()))), ())) else ((bif ((b == (0 : Int)) == false) then ((F33 (Ev.upto N) ((b, ()), ())).bind fun v12 => (some ((b, ((!v12.1.1), ())), ()))) else (some ((b, (true, ())), ()))).bind fun o13 => (bif o13.1.2.1 then ((F25 (Ev.upto N) (((65533 : Int), ()), ())).bind fun v14 => (some ((v14.1.1, (true, (true, ()))), ()))) else ((F25 (Ev.upto N) ((o13.1.1, ()), ())).bind fun v15 => (some ((v15.1.1, (true, (false, ()))), ())))))) (fun x => x = (((sgOf o).1, ((sgOf o).2.1, ((!(sgOf o).2.2), ()))), ())) := by
        intro o b hbo hlt
        cases o with
        | none => subst hbo; exact ⟨_, rfl, rfl⟩
        | some n =>
          simp only at hbo
          subst hbo
          rw [nneg, cond_false]
          have q25o : F25 (Ev.upto N) (((65533 : Int), ()), ()) = some ((utf 65533, ()), ()) := F25_eq _ 65533 (by decide)
          simp only [sgOf]
          by_cases hz : n = 0
          · subst hz
            rw [if_pos (.inl rfl)]
            simp -implicitDefEqProofs only [show ((((0 : Nat) : Int) == 0) == false) = false from rfl, cond_true, cond_false, Option.bind_some]
            rw [q25o]
            exact ⟨_, rfl, rfl⟩
          · have hz' : (((n : Nat) : Int) == 0) = false := by rw [beq_eq_false_iff_ne]; omega
            have q33 : F33 (Ev.upto N) (((n : Int), ()), ()) = some ((pt n, ()), ()) := by
              unfold F33 pt
              have e0 : decide ((n : Int) ≥ 0) = true := decide_eq_true (by omega)
              have e1 : decide ((n : Int) < 55296) = decide (n < 55296) := decide_eq_decide.2 (by omega)
              have e2 : decide ((n : Int) > 57343) = decide (57343 < n) := decide_eq_decide.2 (by omega)
              have e3 : decide ((n : Int) ≤ 1114111) = decide (n ≤ 1114111) := decide_eq_decide.2 (by omega)
              rw [e0, e1, e2, e3]
              by_cases h0 : n ≤ 1114111
              · by_cases h1 : n < 55296
                · have a : ¬ 55296 ≤ n := by omega
                  simp [h0, h1, a]
                · by_cases h2 : n ≤ 57343
                  · have a : 55296 ≤ n := by omega
                    have b : ¬ 57343 < n := by omega
                    simp [h0, h1, h2, a, b]
                  · have a : 55296 ≤ n := by omega
                    have b : 57343 < n := by omega
                    simp [h0, h1, h2, a, b]
              · simp [h0]
            simp -implicitDefEqProofs only [hz', beq_self_eq_true, cond_true]
            rw [q33]
            simp -implicitDefEqProofs only [Option.bind_some]
            cases hp : pt n with
            | true =>
              rw [if_neg (by simp [hz])]
              have hn : n ≤ 1114111 := by simp [pt] at hp; omega
              simp -implicitDefEqProofs only [Bool.not_true, cond_false]
              rw [F25_eq _ n hn]
              exact ⟨_, rfl, rfl⟩
            | false =>
              rw [if_pos (.inr rfl)]
              simp -implicitDefEqProofs only [Bool.not_false, cond_true]
              rw [q25o]
              exact ⟨_, rfl, rfl⟩
      have q10 := q32 10 7 (.inl rfl) (by decide) d
      have q10' : F32 (Ev.upto N) ((d, ((10 : Int), ((7 : Int), ()))), ()) = _ := q10
      rw [q10']
      simp -implicitDefEqProofs only [Option.bind_some]
      cases d with
      | nil => exact ⟨_, rfl, rfl⟩
      | cons c' r =>
        have c2 : decide ((((35 :: c' :: r : Bs).length : Nat) : Int) ≥ 2) = true := decide_eq_true (by simp only [List.length_cons]; omega)
        have i1 : idx (35 :: c' :: r : Bs) 1 = some c' := rfl
        have s2 : sl (35 :: c' :: r : Bs) 2 (((35 :: c' :: r : Bs).length : Nat) : Int) = some r := by
          have := sl_end (l := (35 :: c' :: r : Bs)) (a := 2) (by simp)
          simpa using this
        simp -implicitDefEqProofs only [c2, i1, beq_self_eq_true, cond_true, Option.bind_some]
        by_cases hx1 : c'.toNat = 120 ∨ c'.toNat = 88
        · have e16 : sgNum (c' :: r) = numOk 16 6 r := by simp only [sgNum, if_pos hx1]
          rw [e16]
          refine wp_seq (fun o => ∃ u, o = ((35 :: c' :: r, (u, (true, ()))), ())) ?_ ?_
          · rcases hx1 with hx1 | hx1
            · rw [hx1]; exact ⟨_, rfl, _, rfl⟩
            · rw [hx1]; exact ⟨_, rfl, _, rfl⟩
          · rintro _ ⟨u, rfl⟩
            have q16 := q32 16 6 (.inr rfl) (by decide) r
            have q16' : F32 (Ev.upto N) ((r, ((16 : Int), ((6 : Int), ()))), ()) = _ := q16
            simp -implicitDefEqProofs only [cond_true, s2, Option.bind_some]
            rw [q16']
            simp -implicitDefEqProofs only [Option.bind_some]
            exact tail (numOk 16 6 r) _ rfl (fun m h => (numOk_lt (by decide) (by decide) h).1)
        · have e10 : sgNum (c' :: r) = numOk 10 7 (c' :: r) := by simp only [sgNum, if_neg hx1]
          have n1 : (((c'.toNat : Nat) : Int) == 120) = false := by rw [beq_eq_false_iff_ne]; omega
          have n2 : (((c'.toNat : Nat) : Int) == 88) = false := by rw [beq_eq_false_iff_ne]; omega
          rw [e10]
          simp -implicitDefEqProofs only [n1, n2, beq_self_eq_true, cond_true, cond_false, Option.bind_some]
          exact tail (numOk 10 7 (c' :: r)) _ rfl (fun m h => (numOk_lt (by decide) (by decide) h).1)
    · have hc' : ((((c.toNat : Nat) : Int)) != 35) = true := by
        rw [bne_iff_ne]; intro e; apply hc; apply UInt8.toNat_inj.1; have : (35 : UInt8).toNat = 35 := rfl; omega
      simp -implicitDefEqProofs only [sgT, if_neg hc, hc', cond_true]
      exact ⟨_, rfl, rfl⟩
end Go.En.Ent
