/- Text BP3 of this seat: written by a program of ours, or by hand; checked by Lean. -/
import Derived.Test.YtljnjjnjdanajaaGreatDoorBP2
set_option linter.unusedSimpArgs false
set_option linter.unusedVariables false
namespace Go.En.Pl
theorem plain_eq (V : Ev) (n : Bs) : token_plain_ V ((n, ()), ()) = some ((plainN n, ()), ()) := by
  unfold token_plain_ plainN
  cases (n == ([115, 99, 114, 105, 112, 116] : Bs)) <;> rfl
theorem WSc (V : Ev) (x b : Bs) (h : b.length + x.length ≤ 100000000) : strings_Builder_WriteString_cc3 V ((x, ()), ((), (ofBs b, ()))) = some ((((x.length : Int)), (false, ())), ((), ((ofBs (b ++ x), ())))) := by
  rw [WS_eq _ _ _ (by rw [ofBs_length]; exact h), ofBs_append]
theorem WSd (V : Ev) (x b : Bs) (h : b.length + x.length ≤ 100000000) : strings_Builder_WriteString_2ec V ((x, ()), ((), (ofBs b, ()))) = some ((((x.length : Int)), (false, ())), ((), ((ofBs (b ++ x), ())))) := by
  rw [WS2_eq _ _ _ (by rw [ofBs_length]; exact h), ofBs_append]
theorem Print_eq (N : Nat) (l : List Tok) (hl : l.length ≤ 100) (h : ∀ t ∈ l, okT t) (hN : 4000 < N) : token_Print_ (Ev.upto N) ((l, ()), ()) = some ((pre l l.length, ()), ()) := by
  apply wp_eq
  unfold token_Print_
  refine wp_bind ?_
  refine wp_for (σ := Unit) (fun i _ => ((codeB l i, (l, ((l.length : Int), ((i : Int), ())))), ((), (ofBs (pre l i), ())))) (fun i _ => True) l.length () rfl trivial (by omega) ?_
  rintro i _ hi _
  by_cases hi' : i < l.length
  · have c0 : decide ((i : Int) < (l.length : Int)) = true := decide_eq_true (by omega)
    have w : IntKind.wrap .i64 ((i : Int) + 1) = ((i + 1 : Nat) : Int) := by rw [wrap64 (by omega) (by omega)]; omega
    have lp := pre_len h i hi
    have ok := h _ (List.getElem_mem hi')
    obtain ⟨h1, h2, h3, h4⟩ := ok
    have pb : (pre l i).length ≤ 66000000 := by omega
    have el := enc_len l[i].2.2.1
    have tl : ∀ c, (tokP c l[i]).length ≤ 640000 := fun c => tokP_len (h _ (List.getElem_mem hi'))
    have ps := pre_succ hi'
    have cs := codeB_succ hi'
    have tp : ∀ c, tokP c l[i] = tokP c l[i] := fun _ => rfl
    have hpl : ∀ o : Option (((Bool × Unit)) × Unit), True := fun _ => trivial
    have pq := plain_eq (Ev.upto N) l[i].2.1
    have fin : ∀ b : Bs, b = pre l i ++ tokP (codeB l i) l[i] → wp ((bif ((l[i].1 == (2 : Int)) == true) then ((token_plain_ (Ev.upto N) ((l[i].2.1, ()), ())).bind fun v24 => (some ((v24.1.1, (l, ((l.length : Int), ((i : Int), ())))), ((), (ofBs b, ()))))) else (some ((false, (l, ((l.length : Int), ((i : Int), ())))), ((), (ofBs b, ()))))) : Option ((Bool × (List Tok) × Int × Int × Unit) × (Unit × (List Int) × Unit))) (fun o => o = ((codeB l (i + 1), (l, ((l.length : Int), ((i : Int), ())))), ((), (ofBs (pre l (i + 1)), ())))) := by
      intro b hb
      rw [← ps] at hb
      subst hb
      rw [cs]
      unfold codeT
      cases (l[i].1 == 2) with
      | true =>
        simp -implicitDefEqProofs only [beq_self_eq_true, cond_true, pq, Option.bind_some, Bool.true_and]
        exact ⟨_, rfl, rfl⟩
      | false => exact ⟨_, rfl, rfl⟩
    simp -implicitDefEqProofs only [c0, cond_true, idx_nat hi', Option.bind_some]
    cases k1 : (l[i].1 == (1 : Int)) with
    | true =>
      have tp : ∀ c, tokP c l[i] = bif c then l[i].2.2.1 else enc l[i].2.2.1 := fun c => by unfold tokP; rw [k1]; rfl
      have q := Encode_eq N l[i].2.2.1 (by omega) (by omega)
      have g1 := WSc (Ev.upto N) l[i].2.2.1 (pre l i) (by omega)
      have g2 := WSc (Ev.upto N) (enc l[i].2.2.1) (pre l i) (by omega)
      cases hc : codeB l i with
      | true =>
        obtain ⟨_, e, rfl⟩ := fin (pre l i ++ l[i].2.2.1) (by rw [tp, hc]; rfl)
        simp -implicitDefEqProofs only [cond_true, g1, Option.bind_some, e, w]
        exact ⟨_, rfl, hi', (), rfl, trivial⟩
      | false =>
        obtain ⟨_, e, rfl⟩ := fin (pre l i ++ enc l[i].2.2.1) (by rw [tp, hc]; rfl)
        simp -implicitDefEqProofs only [cond_true, cond_false, q, g2, Option.bind_some, e, w]
        exact ⟨_, rfl, hi', (), rfl, trivial⟩
    | false =>
      simp -implicitDefEqProofs only [cond_false]
      cases k2 : (l[i].1 == (2 : Int)) with
      | true =>
        have tp : ∀ c, tokP c l[i] = startP l[i] := fun c => by unfold tokP; rw [k1, k2]; rfl
        have al := attrsP_len _ h4
        have g0 : strFits (([60] : Bs).length + l[i].2.1.length) = true := sf (by decide) (by omega)
        have g1 := WSc (Ev.upto N) ([60] ++ l[i].2.1) (pre l i) (by simp; omega)
        simp -implicitDefEqProofs only [cond_true, g0, g1, Option.bind_some]
        have loop : ∀ (st0 : _), st0 = ((l, ((l.length : Int), ((i : Int), (l[i].2.2.2.1, ((l[i].2.2.2.1.length : Int), ((0 : Int), ())))))), ((), ((l[i], ()), (ofBs (pre l i ++ ([60] ++ l[i].2.1)), ())))) →
          wp ((Ev.upto N).it (fun s8 : (((List Tok) × Int × Int × (List Att) × Int × Int × Unit) × (Unit × (Tok × Unit) × (List Int) × Unit)) => (bif decide (s8.1.2.2.2.2.2.1 < s8.1.2.2.2.2.1) then ((idx s8.1.2.2.2.1 s8.1.2.2.2.2.2.1).bind fun v9 => (bif strFits ((([32] : Bs)).length + (v9.1).length) then (bif strFits (((([32] : Bs) ++ v9.1)).length + (([61, 34] : Bs)).length) then ((entity_Encode_ (Ev.upto N) ((v9.2, ()), ())).bind fun v10 => (bif strFits ((((([32] : Bs) ++ v9.1) ++ ([61, 34] : Bs))).length + (v10.1.1).length) then (bif strFits (((((([32] : Bs) ++ v9.1) ++ ([61, 34] : Bs)) ++ v10.1.1)).length + (([34] : Bs)).length) then ((strings_Builder_WriteString_2ec (Ev.upto N) ((((((([32] : Bs) ++ v9.1) ++ ([61, 34] : Bs)) ++ v10.1.1) ++ ([34] : Bs)), ()), ((), (s8.2.2.2.1, ())))).bind fun v11 => (some (Sum.inl ((s8.1.1, (s8.1.2.1, (s8.1.2.2.1, (s8.1.2.2.2.1, (s8.1.2.2.2.2.1, ((IntKind.wrap .i64 (s8.1.2.2.2.2.2.1 + (1 : Int))), ())))))), ((), ((s8.2.2.1.1, ()), (v11.2.2.1, ()))))))) else none) else none)) else none) else none)) else (some (Sum.inr (((s8.1.1, (s8.1.2.1, (s8.1.2.2.1, ()))), ((), ((s8.2.2.1.1, ()), (s8.2.2.2.1, ())))) : (((List Tok) × Int × Int × Unit) × (Unit × (Tok × Unit) × (List Int) × Unit))))))) st0) (fun o => o = ((l, ((l.length : Int), ((i : Int), ()))), ((), ((l[i], ()), (ofBs (pre l i ++ ([60] ++ l[i].2.1) ++ attrsP l[i].2.2.2.1), ()))))) := by
          rintro _ rfl
          refine wp_for (σ := Unit) (fun j _ => ((l, ((l.length : Int), ((i : Int), (l[i].2.2.2.1, ((l[i].2.2.2.1.length : Int), ((j : Int), ())))))), ((), ((l[i], ()), (ofBs (pre l i ++ ([60] ++ l[i].2.1) ++ attrsP (l[i].2.2.2.1.take j)), ()))))) (fun j _ => True) l[i].2.2.2.1.length () (by simp [attrsP]) trivial (by omega) ?_
          rintro j _ hj _
          have lt : (attrsP (l[i].2.2.2.1.take j)).length ≤ 12400 * j := by
            have := attrsP_len (l[i].2.2.2.1.take j) (fun a ha => h4 a (List.mem_of_mem_take ha))
            simp only [List.length_take] at this
            omega
          by_cases hj' : j < l[i].2.2.2.1.length
          · have c0 : decide ((j : Int) < (l[i].2.2.2.1.length : Int)) = true := decide_eq_true (by omega)
            have w : IntKind.wrap .i64 ((j : Int) + 1) = ((j + 1 : Nat) : Int) := by rw [wrap64 (by omega) (by omega)]; omega
            obtain ⟨a1, a2⟩ := h4 _ (List.getElem_mem hj')
            have el := enc_len l[i].2.2.2.1[j].2
            have q := Encode_eq N l[i].2.2.2.1[j].2 (by omega) (by omega)
            have g2 : strFits (([32] : Bs).length + l[i].2.2.2.1[j].1.length) = true := sf (by decide) (by omega)
            have g3 : strFits (([32] ++ l[i].2.2.2.1[j].1).length + ([61, 34] : Bs).length) = true := sf (by simp; omega) (by simp)
            have g4 : strFits (([32] ++ l[i].2.2.2.1[j].1 ++ [61, 34]).length + (enc l[i].2.2.2.1[j].2).length) = true := sf (by simp; omega) (by omega)
            have g5 : strFits (([32] ++ l[i].2.2.2.1[j].1 ++ [61, 34] ++ enc l[i].2.2.2.1[j].2).length + ([34] : Bs).length) = true := sf (by simp; omega) (by simp)
            have g6 := WSd (Ev.upto N) ([32] ++ l[i].2.2.2.1[j].1 ++ [61, 34] ++ enc l[i].2.2.2.1[j].2 ++ [34]) (pre l i ++ ([60] ++ l[i].2.1) ++ attrsP (l[i].2.2.2.1.take j)) (by simp; omega)
            simp -implicitDefEqProofs only [c0, cond_true, idx_nat hj', Option.bind_some, q, g2, g3, g4, g5, g6, w]
            exact ⟨_, rfl, hj', (), by rw [attrsP_take hj']; simp only [attrP, List.append_assoc], trivial⟩
          · have c0 : decide ((j : Int) < (l[i].2.2.2.1.length : Int)) = false := decide_eq_false (by omega)
            have ht : l[i].2.2.2.1.take j = l[i].2.2.2.1 := List.take_of_length_le (by omega)
            simp -implicitDefEqProofs only [c0, cond_false, ht]
            exact ⟨_, rfl, rfl⟩
        obtain ⟨_, e, rfl⟩ := loop _ rfl
        simp -implicitDefEqProofs only [e, Option.bind_some]
        cases hc : l[i].2.2.2.2 with
        | true =>
          have g2 := WSd (Ev.upto N) [47] (pre l i ++ ([60] ++ l[i].2.1) ++ attrsP l[i].2.2.2.1) (by simp; omega)
          have g3 := WSd (Ev.upto N) [62] (pre l i ++ ([60] ++ l[i].2.1) ++ attrsP l[i].2.2.2.1 ++ [47]) (by simp; omega)
          obtain ⟨_, e, rfl⟩ := fin (pre l i ++ ([60] ++ l[i].2.1) ++ attrsP l[i].2.2.2.1 ++ [47] ++ [62]) (by rw [tp]; unfold startP; rw [hc]; simp only [cond_true, List.append_assoc])
          rw [k2] at e
          simp -implicitDefEqProofs only [cond_true, hc, g2, g3, Option.bind_some, k2, e, w]
          exact ⟨_, rfl, hi', (), rfl, trivial⟩
        | false =>
          have g3 := WSd (Ev.upto N) [62] (pre l i ++ ([60] ++ l[i].2.1) ++ attrsP l[i].2.2.2.1) (by simp; omega)
          obtain ⟨_, e, rfl⟩ := fin (pre l i ++ ([60] ++ l[i].2.1) ++ attrsP l[i].2.2.2.1 ++ [62]) (by rw [tp]; unfold startP; rw [hc]; simp only [cond_false, List.append_assoc, List.nil_append])
          rw [k2] at e
          simp -implicitDefEqProofs only [cond_false, hc, g3, Option.bind_some, k2, e, w]
          exact ⟨_, rfl, hi', (), rfl, trivial⟩
      | false =>
        simp -implicitDefEqProofs only [cond_false]
        rw [k2] at fin
        cases k3 : (l[i].1 == (3 : Int)) with
        | true =>
          have tp : ∀ c, tokP c l[i] = [60, 47] ++ l[i].2.1 ++ [62] := fun c => by unfold tokP; rw [k1, k2, k3]; rfl
          have g1 : strFits (([60, 47] : Bs).length + l[i].2.1.length) = true := sf (by decide) (by omega)
          have g2 : strFits (([60, 47] ++ l[i].2.1).length + ([62] : Bs).length) = true := sf (by simp; omega) (by simp)
          have g3 := WSc (Ev.upto N) ([60, 47] ++ l[i].2.1 ++ [62]) (pre l i) (by simp; omega)
          obtain ⟨_, e, rfl⟩ := fin (pre l i ++ ([60, 47] ++ l[i].2.1 ++ [62])) (by rw [tp])
          simp -implicitDefEqProofs only [cond_true, g1, g2, g3, Option.bind_some, k2, e, w]
          exact ⟨_, rfl, hi', (), rfl, trivial⟩
        | false =>
          simp -implicitDefEqProofs only [cond_false]
          cases k4 : (l[i].1 == (4 : Int)) with
          | true =>
            have tp : ∀ c, tokP c l[i] = [60, 33, 45, 45] ++ l[i].2.2.1 ++ [45, 45, 62] := fun c => by unfold tokP; rw [k1, k2, k3, k4]; rfl
            have g1 : strFits (([60, 33, 45, 45] : Bs).length + l[i].2.2.1.length) = true := sf (by decide) (by omega)
            have g2 : strFits (([60, 33, 45, 45] ++ l[i].2.2.1).length + ([45, 45, 62] : Bs).length) = true := sf (by simp; omega) (by simp)
            have g3 := WSc (Ev.upto N) ([60, 33, 45, 45] ++ l[i].2.2.1 ++ [45, 45, 62]) (pre l i) (by simp; omega)
            obtain ⟨_, e, rfl⟩ := fin (pre l i ++ ([60, 33, 45, 45] ++ l[i].2.2.1 ++ [45, 45, 62])) (by rw [tp])
            simp -implicitDefEqProofs only [cond_true, g1, g2, g3, Option.bind_some, k2, e, w]
            exact ⟨_, rfl, hi', (), rfl, trivial⟩
          | false =>
            simp -implicitDefEqProofs only [cond_false]
            cases k5 : (l[i].1 == (5 : Int)) with
            | true =>
              have tp : ∀ c, tokP c l[i] = [60, 33, 100, 111, 99, 116, 121, 112, 101, 32] ++ l[i].2.2.1 ++ [62] := fun c => by unfold tokP; rw [k1, k2, k3, k4, k5]; rfl
              have g1 : strFits (([60, 33, 100, 111, 99, 116, 121, 112, 101, 32] : Bs).length + l[i].2.2.1.length) = true := sf (by decide) (by omega)
              have g2 : strFits (([60, 33, 100, 111, 99, 116, 121, 112, 101, 32] ++ l[i].2.2.1).length + ([62] : Bs).length) = true := sf (by simp; omega) (by simp)
              have g3 := WSc (Ev.upto N) ([60, 33, 100, 111, 99, 116, 121, 112, 101, 32] ++ l[i].2.2.1 ++ [62]) (pre l i) (by simp; omega)
              obtain ⟨_, e, rfl⟩ := fin (pre l i ++ ([60, 33, 100, 111, 99, 116, 121, 112, 101, 32] ++ l[i].2.2.1 ++ [62])) (by rw [tp])
              simp -implicitDefEqProofs only [cond_true, g1, g2, g3, Option.bind_some, k2, e, w]
              exact ⟨_, rfl, hi', (), rfl, trivial⟩
            | false =>
              have tp : ∀ c, tokP c l[i] = [] := fun c => by unfold tokP; rw [k1, k2, k3, k4, k5]; rfl
              obtain ⟨_, e, rfl⟩ := fin (pre l i) (by rw [tp, List.append_nil])
              simp -implicitDefEqProofs only [cond_false, Option.bind_some, k2, e, w]
              exact ⟨_, rfl, hi', (), rfl, trivial⟩
  · have c0 : decide ((i : Int) < (l.length : Int)) = false := decide_eq_false (by omega)
    obtain rfl : i = l.length := by omega
    simp -implicitDefEqProofs only [c0, cond_false]
    refine ⟨_, rfl, ?_⟩
    have q := BS_eq (Ev.upto N) (ofBs (pre l l.length))
    simp -implicitDefEqProofs only [q, Option.bind_some, toBs_ofBs]
    exact ⟨_, rfl, rfl⟩
end Go.En.Pl
