/- Text TE3 of this seat: written by a program of ours, or by hand; checked by Lean. -/
import Derived.Test.YtlambcopphejaaaGreatDoorTE2
set_option linter.unusedSimpArgs false
set_option linter.unusedVariables false
namespace Go.En.Pl
theorem forall_byte {P : UInt8 → Bool} (h : (List.range 256).all (fun n => P (UInt8.ofNat n)) = true) (c : UInt8) : P c = true := by
  have h2 := List.all_eq_true.1 h c.toNat (List.mem_range.2 c.toNat_lt)
  rwa [UInt8.ofNat_toNat] at h2
theorem isVal_none : isVal = noneOf [9, 10, 12, 13, 32, 62] := by
  funext c
  exact beq_iff_eq.1 (forall_byte (P := fun c => isVal c == noneOf [9, 10, 12, 13, 32, 62] c) (by kernel_rfl) c)
theorem isAttr_none : isAttr = noneOf [9, 10, 12, 13, 32, 47, 62, 61] := by
  funext c
  exact beq_iff_eq.1 (forall_byte (P := fun c => isAttr c == noneOf [9, 10, 12, 13, 32, 47, 62, 61] c) (by kernel_rfl) c)
theorem isTag_none : isTag = noneOf [9, 10, 12, 13, 32, 47, 62] := by
  funext c
  exact beq_iff_eq.1 (forall_byte (P := fun c => isTag c == noneOf [9, 10, 12, 13, 32, 47, 62] c) (by kernel_rfl) c)
theorem notLt_none : notLt = noneOf [60] := by
  funext c
  exact beq_iff_eq.1 (forall_byte (P := fun c => notLt c == noneOf [60] c) (by kernel_rfl) c)
theorem isB_one {x : UInt8} (hx : (List.range 256).all (fun n => (lowerB [UInt8.ofNat n] == lowerB [x]) == (UInt8.ofNat n == x)) = true) {s : Bs} {i : Nat} (hi : i < s.length) : isB s i [x] = (s[i] == x) := by
  unfold isB
  have e : (s.drop i).take ([x] : Bs).length = [s[i]] := by rw [List.drop_eq_getElem_cons hi]; rfl
  rw [e, show decide (([x] : Bs).length ≤ s.length - i) = true from decide_eq_true (by simp; omega), Bool.true_and]
  exact beq_iff_eq.1 (forall_byte (P := fun c => (lowerB [c] == lowerB [x]) == (c == x)) hx s[i])
theorem isB_end {x : UInt8} {s : Bs} {i : Nat} (hi : s.length ≤ i) : isB s i [x] = false := by
  unfold isB
  rw [show decide (([x] : Bs).length ≤ s.length - i) = false from decide_eq_false (by simp; omega), Bool.false_and]
theorem rvalue_wp (N : Nat) (s : Bs) (a i : Nat) (r : Bs) (out : List Tok) (f : List Fl) (ha : a ≤ s.length) (hs : s.length ≤ 15000) (hf : f.length ≤ 900000000) (hN : s.length < N) (hN2 : 1000 < N) :
    wp (pounceref14_Reader_value_810 (Ev.upto N) (((a : Int), ()), rcur s i r out f)) (fun x => if (valP s a).2.1 = true then x = (((valP s a).1, (((valP s a).2.2.1 : Nat) : Int), ()), rcur s i r out (f ++ (valP s a).2.2.2)) else x = ((([] : Bs), ((-1 : Int), ())), rcur s i r out f)) := by
  unfold pounceref14_Reader_value_810
  simp -implicitDefEqProofs only [Option.bind_some]
  have hq : wp ((bif (decide ((a : Int) < (s.length : Int)) == true) then ((idx s (a : Int)).bind fun v2 => (bif ((((v2).toNat : Int) == (34 : Int)) == false) then ((idx s (a : Int)).bind fun v3 => (some (((a : Int), ((((v3).toNat : Int) == (39 : Int)), ())), rcur s i r out f))) else (some (((a : Int), (true, ())), rcur s i r out f)))) else (some (((a : Int), (false, ())), rcur s i r out f)) : Option ((Int × Bool × Unit) × ((Bs × Int × Bs × Unit) × (List Tok) × (List Fl) × Unit)))) (fun o => o = (((a : Int), ((isB s a [34] || isB s a [39]), ())), rcur s i r out f)) := by
    by_cases h : a < s.length
    · have c0 : (decide ((a : Int) < (s.length : Int)) == true) = true := by rw [show decide ((a : Int) < (s.length : Int)) = true from decide_eq_true (by omega)]; rfl
      rw [isB_one (by kernel_rfl) h, isB_one (by kernel_rfl) h]
      have e34 : (((s[a].toNat : Nat) : Int) == 34) = (s[a] == 34) := byteEq s[a] 34 (by decide)
      have e39 : (((s[a].toNat : Nat) : Int) == 39) = (s[a] == 39) := byteEq s[a] 39 (by decide)
      simp -implicitDefEqProofs only [c0, cond_true, idx_nat h, Option.bind_some, e34, e39]
      cases (s[a] == 34) with
      | true => exact ⟨_, rfl, rfl⟩
      | false => exact ⟨_, rfl, rfl⟩
    · have c0 : (decide ((a : Int) < (s.length : Int)) == true) = false := by rw [show decide ((a : Int) < (s.length : Int)) = false from decide_eq_false (by omega)]; rfl
      rw [isB_end (by omega), isB_end (by omega)]
      simp -implicitDefEqProofs only [c0, cond_false]
      exact ⟨_, rfl, rfl⟩
  obtain ⟨_, e, rfl⟩ := hq
  rw [e]
  simp -implicitDefEqProofs only [Option.bind_some]
  unfold valP
  cases h1 : (isB s a [34] || isB s a [39]) with
  | true =>
    have hlt : a < s.length := by
      rcases Bool.or_eq_true _ _ ▸ h1 with h | h
      · have := isB_lt h ha; simp at this; omega
      · have := isB_lt h ha; simp at this; omega
    have w : IntKind.wrap .i64 ((a : Int) + 1) = ((a + 1 : Nat) : Int) := by rw [wrap64 (by omega) (by omega)]; omega
    have s1 : sl s (a : Int) ((a + 1 : Nat) : Int) = some ((s.drop a).take 1) := by
      have := sl_nat (l := s) (a := a) (b := a + 1) (by omega) (by omega)
      rw [this, List.drop_take, Nat.add_sub_cancel_left]
    have q1 := rfind_eq N ((s.drop a).take 1) s (a + 1) i r out f (by omega) (by omega) (by simp; omega) (by simp; omega) hN
    have hl1 : ((s.drop a).take 1).length = 1 := by simp; omega
    rw [if_pos rfl]
    simp -implicitDefEqProofs only [cond_true, w, s1, Option.bind_some, q1]
    cases hf1 : findB (s.drop (a + 1)) ((s.drop a).take 1) with
    | none =>
      refine ⟨_, rfl, ?_⟩
      simp
    | some k =>
      have hk := (findB_some _ _ _ hf1).1
      rw [hl1] at hk
      have hk2 : k + 1 ≤ s.length - (a + 1) := by simpa using hk
      have c1 : decide (((a + 1 + k : Nat) : Int) < 0) = false := decide_eq_false (by omega)
      have w2 : IntKind.wrap .i64 (((a + 1 + k : Nat) : Int) + 1) = ((a + 1 + k + 1 : Nat) : Int) := by rw [wrap64 (by omega) (by omega)]; omega
      have q2 := rdecode_eq N s (a + 1) (a + 1 + k) i r out f (by omega) (by omega) hs hf hN (by omega)
      have e1 : (s.take (a + 1 + k)).drop (a + 1) = (s.drop (a + 1)).take k := by rw [List.drop_take, Nat.add_sub_cancel_left]
      rw [e1] at q2
      simp -implicitDefEqProofs only [c1, cond_false, q2, Option.bind_some, w2]
      refine ⟨_, rfl, ?_⟩
      simp only [if_true]
      rw [dec_fst ((s.drop (a + 1)).take k) ((a + 1 : Nat) : Int)]
  | false =>
    rw [if_neg (by decide)]
    have hsp := spanN_le isVal s a ha
    have q1 := rupto_eq N [9, 10, 12, 13, 32, 62] s a i r out f ha (by omega) (by decide) hN hN2
    rw [← isVal_none] at q1
    have q2 := rdecode_eq N s a (a + spanN isVal s a) i r out f (by omega) hsp hs hf hN (by omega)
    have e1 : (s.take (a + spanN isVal s a)).drop a = (s.drop a).take (spanN isVal s a) := by rw [List.drop_take, Nat.add_sub_cancel_left]
    rw [e1] at q2
    simp -implicitDefEqProofs only [cond_false, q1, q2, Option.bind_some]
    refine ⟨_, rfl, ?_⟩
    simp only [if_true]
    rw [dec_fst ((s.drop a).take (spanN isVal s a)) ((a : Nat) : Int)]
abbrev rcur9 (s : Bs) (i : Nat) (r : Bs) (k : Int) (n d : Bs) (c : Bool) (out : List Tok) (f : List Fl) (l : List Att) : (Bs × Int × Bs × Unit) × (Int × Bs × Bs × Bool × Unit) × (List Tok) × (List Fl) × (List Att) × Unit := ((s, ((i : Int), (r, ()))), ((k, (n, (d, (c, ())))), (out, (f, (l, ())))))
theorem rattr_wp (N : Nat) (s : Bs) (a i : Nat) (r : Bs) (k : Int) (n d : Bs) (c : Bool) (out : List Tok) (f : List Fl) (l : List Att) (ha : a < s.length) (hs : s.length ≤ 15000) (hf : f.length ≤ 800000000) (hl : l.length ≤ 30) (hN : s.length < N) (hN2 : 1000 < N) :
    wp (pounceref14_Reader_attr_260 (Ev.upto N) (((a : Int), ()), rcur9 s i r k n d c out f l)) (fun x => if (attS s a k l).1 = true then x = (((((attS s a k l).2.1 : Nat) : Int), ()), rcur9 s i r k n d c out (f ++ (attS s a k l).2.2.2) (attS s a k l).2.2.1) else ∃ g l', x = (((-1 : Int), ()), rcur9 s i r k n d c out (f ++ g) l')) := by
  have eE := attE_le ha
  have eB := attB_le ha
  have w1 : IntKind.wrap .i64 (((a : Nat) : Int) + 1) = ((a + 1 : Nat) : Int) := by rw [wrap64 (by omega) (by omega)]; omega
  have q1 := rupto_eq N [9, 10, 12, 13, 32, 47, 62, 61] s (a + 1) i r out f (by omega) (by omega) (by decide) hN hN2
  rw [← isAttr_none, show a + 1 + spanN isAttr s (a + 1) = attE s a from rfl] at q1
  have q2 : sl s ((a : Nat) : Int) ((attE s a : Nat) : Int) = some ((s.take (attE s a)).drop a) := sl_nat (by omega) eE.2
  have q3 := rlower_eq N ((s.take (attE s a)).drop a) (by simp; omega) (by simp; omega)
  rw [show lowerB ((s.take (attE s a)).drop a) = attN s a from rfl] at q3
  have q4 := has_eq N k n d l c (attN s a) (by omega) hN2
  have q5 := rfail_eq (Ev.upto N) 142 (a : Int) s i r out f (by omega)
  have q6 := rfail_eq (Ev.upto N) 2 (a : Int) s i r out f (by omega)
  have q7 := fun f' => rblanks_eq N s (attE s a) i r out f' eE.2 (by omega) hN
  rw [show attE s a + spanN blankB s (attE s a) = attB s a from rfl] at q7
  have fl : ∀ x : Att, fits (l.length + ([x] : List Att).length) 32 = true := fun x => fits_of (by simp; omega)
  unfold pounceref14_Reader_attr_260
  simp -implicitDefEqProofs only [Option.bind_some, w1, q1, q2, q3]
  have tail : ∀ (tk : Bool) (f' : List Fl), f'.length ≤ 810000000 →
      wp (((pounceref14_Reader_blanks_810 (Ev.upto N) ((((attE s a : Nat) : Int), ()), rcur s i r out f')).bind fun v12 => ((bif (decide (v12.1.1 < ((v12.2.1.1).length : Int)) == true) then ((idx v12.2.1.1 v12.1.1).bind fun v13 => (some ((tk, (v12.1.1, (((attE s a : Nat) : Int), ((((v13).toNat : Int) == (61 : Int)), ())))), ((v12.2.1.1, (v12.2.1.2.1, (v12.2.1.2.2.1, ()))), ((k, (n, (d, (c, ())))), (((attN s a, ([] : Bs)), ()), (v12.2.2.1, (v12.2.2.2.1, (l, ()))))))))) else (some ((tk, (v12.1.1, (((attE s a : Nat) : Int), (false, ())))), ((v12.2.1.1, (v12.2.1.2.1, (v12.2.1.2.2.1, ()))), ((k, (n, (d, (c, ())))), (((attN s a, ([] : Bs)), ()), (v12.2.2.1, (v12.2.2.2.1, (l, ()))))))))) : Option ((Bool × Int × Int × Bool × Unit) × ((Bs × Int × Bs × Unit) × (Int × Bs × Bs × Bool × Unit) × (Att × Unit) × (List Tok) × (List Fl) × (List Att) × Unit))).bind fun o14 => ((bif o14.1.2.2.2.1 then ((pounceref14_Reader_blanks_810 (Ev.upto N) (((IntKind.wrap .i64 (o14.1.2.1 + (1 : Int))), ()), ((o14.2.1.1, (o14.2.1.2.1, (o14.2.1.2.2.1, ()))), (o14.2.2.2.2.1, (o14.2.2.2.2.2.1, ()))))).bind fun v15 => ((pounceref14_Reader_value_810 (Ev.upto N) ((v15.1.1, ()), ((v15.2.1.1, (v15.2.1.2.1, (v15.2.1.2.2.1, ()))), (v15.2.2.1, (v15.2.2.2.1, ()))))).bind fun v16 => (some ((o14.1.1, (v16.1.2.1, ())), ((v16.2.1.1, (v16.2.1.2.1, (v16.2.1.2.2.1, ()))), ((o14.2.2.1.1, (o14.2.2.1.2.1, (o14.2.2.1.2.2.1, (o14.2.2.1.2.2.2.1, ())))), (((o14.2.2.2.1.1.1, v16.1.1), ()), (v16.2.2.1, (v16.2.2.2.1, (o14.2.2.2.2.2.2.1, ())))))))))) else (some ((o14.1.1, (o14.1.2.2.1, ())), ((o14.2.1.1, (o14.2.1.2.1, (o14.2.1.2.2.1, ()))), ((o14.2.2.1.1, (o14.2.2.1.2.1, (o14.2.2.1.2.2.1, (o14.2.2.1.2.2.2.1, ())))), ((o14.2.2.2.1.1, ()), (o14.2.2.2.2.1, (o14.2.2.2.2.2.1, (o14.2.2.2.2.2.2.1, ()))))))))).bind fun o17 => ((bif o17.1.1 then (bif fits ((o17.2.2.2.2.2.2.1).length + (([o17.2.2.2.1.1] : List Att)).length) 32 then (some ((o17.1.2.1, ()), ((o17.2.1.1, (o17.2.1.2.1, (o17.2.1.2.2.1, ()))), ((o17.2.2.1.1, (o17.2.2.1.2.1, (o17.2.2.1.2.2.1, (o17.2.2.1.2.2.2.1, ())))), (o17.2.2.2.2.1, (o17.2.2.2.2.2.1, ((o17.2.2.2.2.2.2.1 ++ ([o17.2.2.2.1.1] : List Att)), ()))))))) else none) else (some ((o17.1.2.1, ()), ((o17.2.1.1, (o17.2.1.2.1, (o17.2.1.2.2.1, ()))), ((o17.2.2.1.1, (o17.2.2.1.2.1, (o17.2.2.1.2.2.1, (o17.2.2.1.2.2.2.1, ())))), (o17.2.2.2.2.1, (o17.2.2.2.2.2.1, (o17.2.2.2.2.2.2.1, ())))))))).bind fun o18 => (some ((o18.1.1, ()), ((o18.2.1.1, (o18.2.1.2.1, (o18.2.1.2.2.1, ()))), ((o18.2.2.1.1, (o18.2.2.1.2.1, (o18.2.2.1.2.2.1, (o18.2.2.1.2.2.2.1, ())))), (o18.2.2.2.1, (o18.2.2.2.2.1, (o18.2.2.2.2.2.1, ())))))))))))
        (fun x => if isB s (attB s a) [61] = true then (if (valP s (attV s a)).2.1 = true then x = (((((valP s (attV s a)).2.2.1 : Nat) : Int), ()), rcur9 s i r k n d c out (f' ++ (valP s (attV s a)).2.2.2) (bif tk then l ++ [(attN s a, (valP s (attV s a)).1)] else l)) else ∃ l', x = (((-1 : Int), ()), rcur9 s i r k n d c out f' l'))
          else x = ((((attE s a : Nat) : Int), ()), rcur9 s i r k n d c out f' (bif tk then l ++ [(attN s a, [])] else l))) := by
    intro tk f' hf'
    simp -implicitDefEqProofs only [q7 f', Option.bind_some]
    by_cases hlt : attB s a < s.length
    · have c0 : (decide (((attB s a : Nat) : Int) < (s.length : Int)) == true) = true := by rw [show decide (((attB s a : Nat) : Int) < (s.length : Int)) = true from decide_eq_true (by omega)]; rfl
      have e61 : (((s[attB s a].toNat : Nat) : Int) == 61) = isB s (attB s a) [61] := by rw [isB_one (by kernel_rfl) hlt]; exact byteEq _ 61 (by decide)
      simp -implicitDefEqProofs only [c0, cond_true, idx_nat hlt, Option.bind_some, e61]
      cases hb : isB s (attB s a) [61] with
      | true =>
        have eV := attV_le ha hb
        have w2 : IntKind.wrap .i64 (((attB s a : Nat) : Int) + 1) = ((attB s a + 1 : Nat) : Int) := by rw [wrap64 (by omega) (by omega)]; omega
        have q9 := rblanks_eq N s (attB s a + 1) i r out f' (by omega) (by omega) hN
        rw [show attB s a + 1 + spanN blankB s (attB s a + 1) = attV s a from rfl] at q9
        obtain ⟨v, qv, hv⟩ := rvalue_wp N s (attV s a) i r out f' eV.2 hs (by omega) hN hN2
        simp only [eq_self, if_true]
        simp -implicitDefEqProofs only [cond_true, w2, q9, Option.bind_some, qv]
        cases hok : (valP s (attV s a)).2.1 with
        | true =>
          rw [hok, if_pos rfl] at hv
          subst hv
          simp only [eq_self, if_true]
          cases tk with
          | true =>
            simp -implicitDefEqProofs only [cond_true, fl, Option.bind_some]
            exact ⟨_, rfl, rfl⟩
          | false => exact ⟨_, rfl, rfl⟩
        | false =>
          rw [hok, if_neg (by decide)] at hv
          subst hv
          simp only [Bool.false_eq_true, if_false]
          cases tk with
          | true =>
            simp -implicitDefEqProofs only [cond_true, fl, Option.bind_some]
            exact ⟨_, rfl, _, rfl⟩
          | false => exact ⟨_, rfl, _, rfl⟩
      | false =>
        simp only [Bool.false_eq_true, if_false]
        simp -implicitDefEqProofs only [cond_false, Option.bind_some]
        cases tk with
        | true =>
          simp -implicitDefEqProofs only [cond_true, fl, Option.bind_some]
          exact ⟨_, rfl, rfl⟩
        | false => exact ⟨_, rfl, rfl⟩
    · have c0 : (decide (((attB s a : Nat) : Int) < (s.length : Int)) == true) = false := by rw [show decide (((attB s a : Nat) : Int) < (s.length : Int)) = false from decide_eq_false (by omega)]; rfl
      rw [isB_end (by omega)]
      simp only [Bool.false_eq_true, if_false]
      simp -implicitDefEqProofs only [c0, cond_false, Option.bind_some]
      cases tk with
      | true =>
        simp -implicitDefEqProofs only [cond_true, fl, Option.bind_some]
        exact ⟨_, rfl, rfl⟩
      | false => exact ⟨_, rfl, rfl⟩
  have join : ∀ (tk : Bool) (F : List Fl), attT s a k l = tk → attF s a k l = F → ∀ x, (if isB s (attB s a) [61] = true then (if (valP s (attV s a)).2.1 = true then x = (((((valP s (attV s a)).2.2.1 : Nat) : Int), ()), rcur9 s i r k n d c out (f ++ F ++ (valP s (attV s a)).2.2.2) (bif tk then l ++ [(attN s a, (valP s (attV s a)).1)] else l)) else ∃ l', x = (((-1 : Int), ()), rcur9 s i r k n d c out (f ++ F) l'))
          else x = ((((attE s a : Nat) : Int), ()), rcur9 s i r k n d c out (f ++ F) (bif tk then l ++ [(attN s a, [])] else l))) →
      (if (attS s a k l).1 = true then x = (((((attS s a k l).2.1 : Nat) : Int), ()), rcur9 s i r k n d c out (f ++ (attS s a k l).2.2.2) (attS s a k l).2.2.1) else ∃ g l', x = (((-1 : Int), ()), rcur9 s i r k n d c out (f ++ g) l')) := by
    rintro tk F rfl rfl x h
    unfold attS
    by_cases hb : isB s (attB s a) [61] = true
    · rw [if_pos hb] at h ⊢
      by_cases hv : (valP s (attV s a)).2.1 = true
      · rw [if_pos hv] at h ⊢
        rw [h, List.append_assoc]
      · rw [if_neg hv] at h ⊢
        obtain ⟨l', rfl⟩ := h
        exact ⟨_, l', rfl⟩
    · rw [if_neg hb] at h ⊢
      rw [if_pos rfl]
      exact h
  cases hk : (k == 2) with
  | false =>
    have hF : attF s a k l = [] := by unfold attF; rw [hk]; rfl
    have hT : attT s a k l = false := by unfold attT; rw [hk]; rfl
    have t1 := tail false (f ++ []) (by simp; omega)
    rw [List.append_nil] at t1
    simp -implicitDefEqProofs only [show (false == true) = false from rfl, cond_false, Option.bind_some]
    refine wp_mono t1 (fun x hx => join false [] hT hF x ?_)
    rw [List.append_nil]
    exact hx
  | true =>
    simp -implicitDefEqProofs only [beq_self_eq_true, cond_true, Option.bind_some, q4]
    cases hd : hasA l (attN s a) with
    | true =>
      have hF : attF s a k l = [(142, (a : Int))] := by unfold attF; rw [hk, if_pos rfl, hd, if_pos rfl]
      have hT : attT s a k l = false := by unfold attT; rw [hk, hd]; rfl
      have t1 := tail false (f ++ [(142, (a : Int))]) (by simp; omega)
      simp -implicitDefEqProofs only [q5, Option.bind_some, cond_true]
      exact wp_mono t1 (fun x hx => join false _ hT hF x hx)
    | false =>
      simp -implicitDefEqProofs only [cond_false, beq_self_eq_true, cond_true, Option.bind_some]
      by_cases h30 : 30 ≤ l.length
      · have hF : attF s a k l = [(2, (a : Int))] := by unfold attF; rw [hk, if_pos rfl, hd, if_neg (by simp), if_pos h30]
        have hT : attT s a k l = false := by unfold attT; rw [hk, hd, show decide (30 ≤ l.length) = true from decide_eq_true h30]; rfl
        have t1 := tail false (f ++ [(2, (a : Int))]) (by simp; omega)
        simp -implicitDefEqProofs only [show decide ((l.length : Int) ≥ 30) = true from decide_eq_true (by omega), q6, Option.bind_some, cond_true]
        exact wp_mono t1 (fun x hx => join false _ hT hF x hx)
      · have hF : attF s a k l = [] := by unfold attF; rw [hk, if_pos rfl, hd, if_neg (by simp), if_neg h30]
        have hT : attT s a k l = true := by unfold attT; rw [hk, hd, show decide (30 ≤ l.length) = false from decide_eq_false h30]; rfl
        have t1 := tail true (f ++ []) (by simp; omega)
        rw [List.append_nil] at t1
        simp -implicitDefEqProofs only [show decide ((l.length : Int) ≥ 30) = false from decide_eq_false (by omega), Option.bind_some, cond_false]
        refine wp_mono t1 (fun x hx => join true [] hT hF x ?_)
        rw [List.append_nil]
        exact hx
end Go.En.Pl
