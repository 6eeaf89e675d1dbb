/- Text TT5 of this seat: written by a program of ours, or by hand; checked by Lean. -/
import Derived.Test.YtlambcopphejaaaGreatDoorTT4
set_option linter.unusedSimpArgs false
set_option linter.unusedVariables false
namespace Go.En.Pl
/-! ### A token is told -/
def lastT (out : List Tok) : Bool := match out[out.length - 1]? with
  | some u => u.1 == 1
  | none => false
def joinL (out : List Tok) (d : Bs) : List Tok := match out[out.length - 1]? with
  | some u => out.set (out.length - 1) (u.1, (u.2.1, (u.2.2.1 ++ d, u.2.2.2)))
  | none => out
def tellS (out : List Tok) (t : Tok) : List Tok :=
  if (t.1 == 1) = true then (if (t.2.2.1 == ([] : Bs)) = true then out else if lastT out = true then joinL out t.2.2.1 else out ++ [t]) else out ++ [t]
def okD (out : List Tok) : Prop := out.length ≤ 1000000000 ∧ ∀ u ∈ out, u.2.2.1.length ≤ 1000000000000
theorem tell_eq (V : Ev) (t : Tok) (s : Bs) (i : Nat) (out : List Tok) (f : List Fl) (ho : okD out) (ht : t.2.2.1.length ≤ 1000000000000) : token_cursor_tell_3d6 V ((t, ()), cur s i out f) = some ((), cur s i (tellS out t) f) := by
  obtain ⟨h1, h2⟩ := ho
  have w : IntKind.wrap .i64 ((out.length : Int) - 1) = (out.length : Int) - 1 := wrap64 (by omega) (by omega)
  have g : fits (out.length + ([t] : List Tok).length) 72 = true := fitsL (by simp; omega)
  have g' : fits (out.length + ([(t.1, (t.2.1, (t.2.2.1, t.2.2.2)))] : List Tok).length) 72 = true := g
  unfold token_cursor_tell_3d6 tellS
  cases k1 : (t.1 == 1) with
  | false =>
    simp -implicitDefEqProofs only [Option.bind_some, show (false == true) = false from rfl, cond_false, w, k1]
    rw [g, cond_true, if_neg (by simp)]
    rfl
  | true =>
    rw [if_pos rfl]
    cases k2 : (t.2.2.1 == ([] : Bs)) with
    | true =>
      rw [if_pos rfl]
      simp -implicitDefEqProofs only [Option.bind_some, beq_self_eq_true, cond_true, w, k1, k2]
    | false =>
      rw [if_neg (by simp)]
      by_cases hz : out.length = 0
      · have : out = [] := List.length_eq_zero_iff.1 hz
        subst this
        have c1 : (decide (((([] : List Tok).length : Int) - 1) ≥ 0) == true) = false := rfl
        simp -implicitDefEqProofs only [Option.bind_some, beq_self_eq_true, cond_true, cond_false, w, k1, k2, c1]
        rw [g, cond_true]
        rfl
      · have hl : out.length - 1 < out.length := by omega
        have c1 : (decide (((out.length : Int) - 1) ≥ 0) == true) = true := by rw [show decide (((out.length : Int) - 1) ≥ 0) = true from decide_eq_true (by omega)]; rfl
        have c2 : (decide (0 ≤ ((out.length : Int) - 1)) && decide (((out.length : Int) - 1) < (out.length : Int))) = true := by
          rw [show decide (0 ≤ ((out.length : Int) - 1)) = true from decide_eq_true (by omega), show decide (((out.length : Int) - 1) < (out.length : Int)) = true from decide_eq_true (by omega)]; rfl
        have c3 : ((out.length : Int) - 1).toNat = out.length - 1 := by omega
        have c4 : out[out.length - 1]? = some (out[out.length - 1]) := List.getElem?_eq_getElem hl
        simp -implicitDefEqProofs only [Option.bind_some, beq_self_eq_true, cond_true, cond_false, w, k1, k2, c1, c2, c3, c4, lastT, joinL]
        cases k3 : (out[out.length - 1].1 == 1) with
        | true =>
          have hb := h2 _ (List.getElem_mem hl)
          have g2 : strFits (out[out.length - 1].2.2.1.length + t.2.2.1.length) = true := strFitsL (by omega)
          simp -implicitDefEqProofs only [cond_true, g2, Option.bind_some, c2, c4]
          rw [if_pos trivial]
        | false =>
          simp -implicitDefEqProofs only [cond_false]
          rw [g, cond_true, if_neg (by simp)]
          rfl
/-! ### A raw name's text -/
def rawE (s n : Bs) (e : Nat) : Bool := isB s e ([60, 47] ++ n) && (match s[e + 2 + n.length]? with
  | some c => blankB c || (c == 47 || c == 62)
  | none => false)
def endP (s n : Bs) (i : Nat) : Nat := i + ((List.range (s.length - i)).takeWhile (fun d => !rawE s n (i + d))).length
theorem tw_range' (p : Nat → Bool) : ∀ (m k a : Nat), k ≤ m → (∀ d, a ≤ d → d < a + k → p d = true) → (k < m → p (a + k) = false) → ((List.range' a m).takeWhile p).length = k
  | 0, k, a, hk, _, _ => by simp; omega
  | m + 1, 0, a, _, _, h2 => by
    have := h2 (by omega)
    rw [Nat.add_zero] at this
    rw [List.range'_succ, List.takeWhile_cons, if_neg (by rw [this]; decide)]
    rfl
  | m + 1, k + 1, a, hk, h1, h2 => by
    have := h1 a (Nat.le_refl _) (by omega)
    rw [List.range'_succ, List.takeWhile_cons, if_pos this, List.length_cons, tw_range' p m k (a + 1) (by omega) (fun d hd hd2 => h1 d (by omega) (by omega)) (fun h => by rw [show a + 1 + k = a + (k + 1) by omega]; exact h2 (by omega))]
theorem tw_range (p : Nat → Bool) (n k : Nat) (hk : k ≤ n) (h1 : ∀ d, d < k → p d = true) (h2 : k < n → p k = false) : ((List.range n).takeWhile p).length = k := by
  rw [List.range_eq_range']
  exact tw_range' p n k 0 hk (fun d _ hd => h1 d (by omega)) (fun h => by rw [Nat.zero_add]; exact h2 h)
theorem endP_at {s n : Bs} {i j : Nat} (hij : i ≤ j) (hj : j ≤ s.length) (h1 : ∀ e, i ≤ e → e < j → rawE s n e = false) (h2 : j < s.length → rawE s n j = true) : endP s n i = j := by
  unfold endP
  rw [tw_range _ _ (j - i) (by omega) (fun d hd => by rw [h1 (i + d) (by omega) (by omega)]; rfl) (fun h => by rw [show i + (j - i) = j by omega, h2 (by omega)]; rfl)]
  omega
theorem endP_le (s n : Bs) (i : Nat) (h : i ≤ s.length) : i ≤ endP s n i ∧ endP s n i ≤ s.length := by
  unfold endP
  have : ((List.range (s.length - i)).takeWhile (fun d => !rawE s n (i + d))).length ≤ (List.range (s.length - i)).length := (List.takeWhile_prefix _).length_le
  rw [List.length_range] at this
  omega
theorem rawE_lt {s n : Bs} {e : Nat} (h : rawE s n e = true) : e < s.length := by
  unfold rawE at h
  have := (Bool.and_eq_true _ _ ▸ h : _ ∧ _).2
  cases hc : s[e + 2 + n.length]? with
  | none => rw [hc] at this; cases this
  | some c =>
    have := (List.getElem?_eq_some_iff.1 hc).1
    omega
def rawX (s n : Bs) (i : Nat) : Bs := (s.take (endP s n i)).drop i
def rawS (s n : Bs) (i : Nat) (out : List Tok) (f : List Fl) : Nat × List Tok × List Fl :=
  (endP s n i, tellS out (tx (bif plainN n then rawX s n i else (dec (rawX s n i) 0).1)), f ++ (bif plainN n then [] else (dec (rawX s n i) (i : Nat)).2) ++ (if endP s n i = s.length then [(140, (i : Int))] else []))
theorem raw_eq (N : Nat) (s n : Bs) (i : Nat) (out : List Tok) (f : List Fl) (hi : i ≤ s.length) (hs : s.length ≤ 15000) (hn : n.length ≤ 15000) (ho : okD out) (hf : f.length ≤ 800000000) (hN : s.length + 1 < N) (h8 : 8 < N) :
    token_cursor_raw_129 (Ev.upto N) ((n, ()), cur s i out f) = some ((), cur s (rawS s n i out f).1 (rawS s n i out f).2.1 (rawS s n i out f).2.2) := by
  apply wp_eq
  unfold token_cursor_raw_129
  simp -implicitDefEqProofs only [Option.bind_some]
  refine wp_bind ?_
  have f0 : strFits (([60, 47] : Bs).length + n.length) = true := strFitsL (by simp; omega)
  -- what is done behind the loop
  have fin : ∀ (en : Bool) (j : Nat), endP s n i = j → (en = true ↔ j < s.length) →
      wp ((sl s ((i : Nat) : Int) ((j : Nat) : Int)).bind fun v13 => ((token_plain_ (Ev.upto N) ((n, ()), ())).bind fun v14 => ((bif (!v14.1.1) then ((token_cursor_decoded_f56 (Ev.upto N) ((v13, (((i : Nat) : Int), ())), cur s j out f)).bind fun v15 => (some ((((i : Nat) : Int), (en, (v15.1.1, ()))), ((v15.2.1.1, (v15.2.1.2.1, ())), (v15.2.2.1, (v15.2.2.2.1, ())))))) else (some ((((i : Nat) : Int), (en, (v13, ()))), cur s j out f)) : Option ((Int × Bool × Bs × Unit) × ((Bs × Int × Unit) × (List Tok) × (List Fl) × Unit))).bind fun o16 => ((token_cursor_tell_3d6 (Ev.upto N) ((((1 : Int), (([] : Bs), (o16.1.2.2.1, (([] : List Att), false)))), ()), ((o16.2.1.1, (o16.2.1.2.1, ())), (o16.2.2.1, (o16.2.2.2.1, ()))))).bind fun v17 => ((bif (!o16.1.2.1) then ((token_cursor_fail_deb (Ev.upto N) (((140 : Int), (o16.1.1, ())), ((v17.2.1.1, (v17.2.1.2.1, ())), (v17.2.2.1, (v17.2.2.2.1, ()))))).bind fun v18 => (some ((), ((v18.2.1.1, (v18.2.1.2.1, ())), (v18.2.2.1, (v18.2.2.2.1, ())))))) else (some ((), ((v17.2.1.1, (v17.2.1.2.1, ())), (v17.2.2.1, (v17.2.2.2.1, ()))))) : Option (Unit × ((Bs × Int × Unit) × (List Tok) × (List Fl) × Unit))).bind fun o19 => (some ((), ((o19.2.1.1, (o19.2.1.2.1, ())), (o19.2.2.1, (o19.2.2.2.1, ()))))))))))
        (fun x => x = ((), cur s (rawS s n i out f).1 (rawS s n i out f).2.1 (rawS s n i out f).2.2)) := by
    intro en j hj hen
    have hle := endP_le s n i hi
    rw [hj] at hle
    have s1 : sl s ((i : Nat) : Int) ((j : Nat) : Int) = some ((s.take j).drop i) := sl_nat hle.1 hle.2
    have hx : rawX s n i = (s.take j).drop i := by unfold rawX; rw [hj]
    have hxl : ((s.take j).drop i).length ≤ s.length := by simp; omega
    have q1 := plain_eq (Ev.upto N) n
    have q2 := decoded_eq N ((s.take j).drop i) i s j out f (by omega) (by omega) (by omega) (by omega) h8
    have hdl := dec_len ((s.take j).drop i).length ((s.take j).drop i) 0 (Nat.le_refl _)
    have hdl2 := dec_len ((s.take j).drop i).length ((s.take j).drop i) (i : Nat) (Nat.le_refl _)
    unfold rawS
    rw [hx, hj]
    simp -implicitDefEqProofs only [s1, Option.bind_some, q1]
    cases hp : plainN n with
    | true =>
      have q3 := tell_eq (Ev.upto N) (tx ((s.take j).drop i)) s j out f ho (by show ((s.take j).drop i).length ≤ _; omega)
      simp -implicitDefEqProofs only [Bool.not_true, cond_false, cond_true, Option.bind_some, q3]
      cases en with
      | true =>
        rw [if_neg (by have := hen.1 rfl; omega), List.append_nil, List.append_nil]
        exact ⟨_, rfl, rfl⟩
      | false =>
        have q4 := fail_eq (Ev.upto N) 140 (i : Int) s j (tellS out (tx ((s.take j).drop i))) f (by omega)
        have hje : j = s.length := by
          by_cases h : j < s.length
          · exact absurd (hen.2 h) (by decide)
          · omega
        rw [if_pos hje, List.append_nil]
        simp -implicitDefEqProofs only [Bool.not_false, cond_true, q4, Option.bind_some]
        exact ⟨_, rfl, rfl⟩
    | false =>
      have q3 := tell_eq (Ev.upto N) (tx (dec ((s.take j).drop i) 0).1) s j out (f ++ (dec ((s.take j).drop i) (i : Nat)).2) ho (by show (dec ((s.take j).drop i) 0).1.length ≤ _; omega)
      simp -implicitDefEqProofs only [Bool.not_false, cond_false, cond_true, Option.bind_some, q2, q3]
      cases en with
      | true =>
        rw [if_neg (by have := hen.1 rfl; omega), List.append_nil]
        exact ⟨_, rfl, rfl⟩
      | false =>
        have q4 := fail_eq (Ev.upto N) 140 (i : Int) s j (tellS out (tx (dec ((s.take j).drop i) 0).1)) (f ++ (dec ((s.take j).drop i) (i : Nat)).2) (by simp; omega)
        have hje : j = s.length := by
          by_cases h : j < s.length
          · exact absurd (hen.2 h) (by decide)
          · omega
        rw [if_pos hje]
        simp -implicitDefEqProofs only [Bool.not_false, cond_true, q4, Option.bind_some]
        exact ⟨_, rfl, rfl⟩
  refine wp_it (fun a => ∃ j, a = ((n, (((i : Nat) : Int), (false, ()))), cur s j out f) ∧ i ≤ j ∧ j ≤ s.length ∧ ∀ e, i ≤ e → e < j → rawE s n e = false) (fun a => s.length - a.2.1.2.1.toNat) ⟨i, rfl, Nat.le_refl _, hi, fun e h1 h2 => absurd h1 (by omega)⟩ (by simp; omega) ?_
  rintro _ ⟨j, rfl, hij, hj, hno⟩
  by_cases hjl : j < s.length
  · have c0 : decide ((j : Int) < (s.length : Int)) = true := decide_eq_true (by omega)
    have q1 := is_eq N ([60, 47] ++ n) s j out f hj (by omega) (by simp; omega) (by omega)
    have w1 : IntKind.wrap .i64 ((j : Int) + 1) = ((j + 1 : Nat) : Int) := by rw [wrap64 (by omega) (by omega)]; omega
    have w2 : IntKind.wrap .i64 ((j : Int) + 2) = ((j + 2 : Nat) : Int) := by rw [wrap64 (by omega) (by omega)]; omega
    have w3 : IntKind.wrap .i64 (((j + 2 : Nat) : Int) + (n.length : Int)) = ((j + 2 + n.length : Nat) : Int) := by rw [wrap64 (by omega) (by omega)]; omega
    have step : ∀ b : Bool, rawE s n j = b → wp ((some ((n, (((i : Nat) : Int), (false, (b, ())))), cur s j out f) : Option ((Bs × Int × Bool × Bool × Unit) × ((Bs × Int × Unit) × (List Tok) × (List Fl) × Unit)))) (fun o8 => rawE s n j = b ∧ o8 = ((n, (((i : Nat) : Int), (false, (b, ())))), cur s j out f)) := fun b hb => ⟨_, rfl, hb, rfl⟩
    have inner : wp ((bif strFits ((([60, 47] : Bs)).length + (n).length) then ((token_text_is_129 (Ev.upto N) (((([60, 47] : Bs) ++ n), ()), cur s j out f)).bind fun v3 => (bif (v3.1.1 == true) then (bif (decide ((IntKind.wrap .i64 ((IntKind.wrap .i64 ((j : Int) + (2 : Int))) + ((n).length : Int))) < ((v3.2.1.1).length : Int)) == true) then ((idx v3.2.1.1 (IntKind.wrap .i64 ((IntKind.wrap .i64 ((j : Int) + (2 : Int))) + ((n).length : Int)))).bind fun v4 => ((fold_Blank_ (Ev.upto N) ((((v4).toNat : Int), ()), ())).bind fun v5 => (bif (v5.1.1 == false) then ((idx v3.2.1.1 (IntKind.wrap .i64 ((IntKind.wrap .i64 ((j : Int) + (2 : Int))) + ((n).length : Int)))).bind fun v6 => (bif ((((v6).toNat : Int) == (47 : Int)) == false) then ((idx v3.2.1.1 (IntKind.wrap .i64 ((IntKind.wrap .i64 ((j : Int) + (2 : Int))) + ((n).length : Int)))).bind fun v7 => (some ((n, (((i : Nat) : Int), (false, ((((v7).toNat : Int) == (62 : Int)), ())))), ((v3.2.1.1, (v3.2.1.2.1, ())), (v3.2.2.1, (v3.2.2.2.1, ())))))) else (some ((n, (((i : Nat) : Int), (false, (true, ())))), ((v3.2.1.1, (v3.2.1.2.1, ())), (v3.2.2.1, (v3.2.2.2.1, ()))))))) else (some ((n, (((i : Nat) : Int), (false, (true, ())))), ((v3.2.1.1, (v3.2.1.2.1, ())), (v3.2.2.1, (v3.2.2.2.1, ())))))))) else (some ((n, (((i : Nat) : Int), (false, (false, ())))), ((v3.2.1.1, (v3.2.1.2.1, ())), (v3.2.2.1, (v3.2.2.2.1, ())))))) else (some ((n, (((i : Nat) : Int), (false, (false, ())))), ((v3.2.1.1, (v3.2.1.2.1, ())), (v3.2.2.1, (v3.2.2.2.1, ()))))))) else none) : Option ((Bs × Int × Bool × Bool × Unit) × ((Bs × Int × Unit) × (List Tok) × (List Fl) × Unit))) (fun o8 => o8 = ((n, (((i : Nat) : Int), (false, (rawE s n j, ())))), cur s j out f)) := by
      simp -implicitDefEqProofs only [f0, cond_true, q1, Option.bind_some, w2, w3]
      unfold rawE
      cases hb : isB s j ([60, 47] ++ n) with
      | false => exact ⟨_, rfl, rfl⟩
      | true =>
        by_cases hk : j + 2 + n.length < s.length
        · have c2 : (decide (((j + 2 + n.length : Nat) : Int) < (s.length : Int)) == true) = true := by rw [show decide (((j + 2 + n.length : Nat) : Int) < (s.length : Int)) = true from decide_eq_true (by omega)]; rfl
          have g : s[j + 2 + n.length]? = some s[j + 2 + n.length] := List.getElem?_eq_getElem hk
          have q2 := blank_at (Ev.upto N) s[j + 2 + n.length]
          have n62 : ((s[j + 2 + n.length].toNat : Int) == 62) = (s[j + 2 + n.length] == 62) := by rw [Bool.eq_iff_iff, beq_iff_eq, beq_iff_eq]; exact ⟨fun h => UInt8.toNat_inj.1 (by show _ = 62; omega), fun h => by rw [h]; rfl⟩
          have n47 : ((s[j + 2 + n.length].toNat : Int) == 47) = (s[j + 2 + n.length] == 47) := by rw [Bool.eq_iff_iff, beq_iff_eq, beq_iff_eq]; exact ⟨fun h => UInt8.toNat_inj.1 (by show _ = 47; omega), fun h => by rw [h]; rfl⟩
          rw [g]
          simp -implicitDefEqProofs only [beq_self_eq_true, cond_true, c2, idx_nat hk, Option.bind_some, q2, n62, n47]
          cases blankB s[j + 2 + n.length] with
          | true => exact ⟨_, rfl, rfl⟩
          | false =>
            cases (s[j + 2 + n.length] == 47) with
            | true => exact ⟨_, rfl, rfl⟩
            | false => exact ⟨_, rfl, rfl⟩
        · have c2 : (decide (((j + 2 + n.length : Nat) : Int) < (s.length : Int)) == true) = false := by rw [show decide (((j + 2 + n.length : Nat) : Int) < (s.length : Int)) = false from decide_eq_false (by omega)]; rfl
          have g : s[j + 2 + n.length]? = none := List.getElem?_eq_none (by omega)
          rw [g]
          simp -implicitDefEqProofs only [beq_self_eq_true, cond_true, c2, cond_false]
          exact ⟨_, rfl, rfl⟩
    obtain ⟨_, e1, rfl⟩ := inner
    simp -implicitDefEqProofs only [c0, cond_true]
    rw [e1]
    cases hr : rawE s n j with
    | true =>
      refine ⟨_, rfl, ?_⟩
      exact fin true j (endP_at hij hj hno (fun _ => hr)) ⟨fun _ => hjl, fun _ => rfl⟩
    | false =>
      simp -implicitDefEqProofs only [Option.bind_some, cond_false, w1]
      refine ⟨_, rfl, ⟨j + 1, rfl, by omega, by omega, ?_⟩, by simp; omega⟩
      intro e h1 h2
      by_cases he : e = j
      · rw [he]; exact hr
      · exact hno e h1 (by omega)
  · have c0 : decide ((j : Int) < (s.length : Int)) = false := decide_eq_false (by omega)
    simp -implicitDefEqProofs only [c0, cond_false, Option.bind_some]
    refine ⟨_, rfl, ?_⟩
    exact fin false j (endP_at hij hj hno (fun h => absurd h hjl)) ⟨fun h => (by cases h), fun h => absurd h hjl⟩
end Go.En.Pl
