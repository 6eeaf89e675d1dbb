/- Text TT6 of this seat: written by a program of ours, or by hand; checked by Lean. -/
import Derived.Test.YtlambcopphejaaaGreatDoorTT5
set_option linter.unusedSimpArgs false
set_option linter.unusedVariables false
namespace Go.En.Pl
theorem byteEq (c : UInt8) (k : Nat) (hk : k < 256) : (((c.toNat : Nat) : Int) == (k : Int)) = (c == UInt8.ofNat k) := by
  rw [Bool.eq_iff_iff, beq_iff_eq, beq_iff_eq]
  constructor
  · intro h; apply UInt8.toNat_inj.1; rw [UInt8.toNat_ofNat']; omega
  · intro h; rw [h, UInt8.toNat_ofNat']; omega
theorem dec_snd_len (x : Bs) (a : Int) : (dec x a).2.length ≤ x.length := (dec_len x.length x a (Nat.le_refl _)).2
theorem valP_fl (s : Bs) (i : Nat) : (valP s i).2.2.2.length ≤ s.length := by
  unfold valP
  split
  · split
    · refine Nat.le_trans (dec_snd_len _ _) ?_; simp; omega
    · refine Nat.le_trans (dec_snd_len _ _) ?_; simp
  · refine Nat.le_trans (dec_snd_len _ _) ?_; simp; omega
theorem valP_le {s : Bs} {i : Nat} (h : i ≤ s.length) : i ≤ (valP s i).2.2.1 ∧ (valP s i).2.2.1 ≤ s.length := by
  unfold valP
  split
  · rename_i hq
    have hlt : i < s.length := by
      rcases Bool.or_eq_true _ _ ▸ hq with h1 | h1
      · have := isB_lt h1 h; simp at this; omega
      · have := isB_lt h1 h; simp at this; omega
    split
    · rename_i k hf
      have := (findB_some _ _ _ hf).1
      have hl1 : ((s.drop i).take 1).length = 1 := by simp; omega
      rw [hl1] at this
      simp at this ⊢
      omega
    · exact ⟨h, Nat.le_refl _⟩
  · have := spanN_le isVal s i h
    simp only
    omega
theorem attF_len (s : Bs) (i : Nat) (k : Int) (l : List Att) : (attF s i k l).length ≤ 1 := by
  unfold attF
  split
  · split
    · simp
    · split <;> simp
  · simp
theorem attS_fl (s : Bs) (i : Nat) (k : Int) (l : List Att) : (attS s i k l).2.2.2.length ≤ s.length + 1 := by
  have h1 := attF_len s i k l
  have h2 := valP_fl s (attV s i)
  unfold attS
  split
  · simp; omega
  · simp; omega
theorem attS_al (s : Bs) (i : Nat) (k : Int) (l : List Att) (h : l.length ≤ 30) : (attS s i k l).2.2.1.length ≤ 30 := by
  have key : ∀ a : Att, (bif attT s i k l then l ++ [a] else l).length ≤ 30 := fun a => by
    cases ht : attT s i k l with
    | false => exact h
    | true =>
      unfold attT at ht
      have : decide (30 ≤ l.length) = false := by
        cases hd : decide (30 ≤ l.length) with
        | false => rfl
        | true => rw [hd] at ht; simp at ht
      have := of_decide_eq_false this
      simp; omega
  unfold attS
  split
  · exact key _
  · exact key _
theorem attS_le {s : Bs} {i : Nat} (k : Int) (l : List Att) (h : i < s.length) : i < (attS s i k l).2.1 ∧ (attS s i k l).2.1 ≤ s.length := by
  unfold attS
  have hE := attE_le h
  have hB := attB_le h
  split
  · rename_i hb
    have hV := attV_le h hb
    have := valP_le hV.2
    simp only
    omega
  · exact hE
theorem sl_pre0 {α : Type} (a b : List α) : sl (a ++ b) (0 : Int) (a.length : Int) = some a := by
  have := sl_nat (l := a ++ b) (a := 0) (b := a.length) (by omega) (by simp)
  simpa using this
/-! ### A tag -/
def tagL (s : Bs) (k : Int) : Nat → Nat → Bool → List Att → List Fl → Option (Nat × Bool × List Att × List Fl)
  | 0, _, _, _, _ => none
  | n + 1, i, sl, l, g => match s[i]? with
    | none => none
    | some c => if (c == 62) = true then some (i, sl, l, g) else if (c == 47 || blankB c) = true then tagL s k n (i + 1) (c == 47) l g
      else if (attS s i k l).1 = true then tagL s k n (attS s i k l).2.1 false (attS s i k l).2.2.1 (g ++ (attS s i k l).2.2.2) else none
theorem tagL_end (s : Bs) (k : Int) (n i : Nat) (sl : Bool) (l : List Att) (g : List Fl) (h : s.length ≤ i) : tagL s k n i sl l g = none := by
  cases n with
  | zero => rfl
  | succ n => rw [tagL, List.getElem?_eq_none h]
def rawN (n : Bs) : Bool := n == ([115, 99, 114, 105, 112, 116] : Bs) || (n == ([115, 116, 121, 108, 101] : Bs) || (n == ([116, 101, 120, 116, 97, 114, 101, 97] : Bs) || n == ([116, 105, 116, 108, 101] : Bs)))
theorem Raw_eq (V : Ev) (n : Bs) : token_Raw_ V ((n, ()), ()) = some ((rawN n, ()), ()) := by
  unfold token_Raw_ rawN
  cases h1 : (n == ([115, 99, 114, 105, 112, 116] : Bs)) with
  | true => simp -implicitDefEqProofs only [h1, cond_true, Option.bind_some, Bool.true_or]
  | false =>
    cases h2 : (n == ([115, 116, 121, 108, 101] : Bs)) with
    | true => simp -implicitDefEqProofs only [h1, h2, cond_true, cond_false, Option.bind_some, Bool.true_or, Bool.false_or]
    | false =>
      cases h3 : (n == ([116, 101, 120, 116, 97, 114, 101, 97] : Bs)) with
      | true => simp -implicitDefEqProofs only [h1, h2, h3, cond_true, cond_false, Option.bind_some, Bool.true_or, Bool.false_or]
      | false =>
        cases h4 : (n == ([116, 105, 116, 108, 101] : Bs)) with
        | true => simp -implicitDefEqProofs only [h1, h2, h3, h4, cond_true, cond_false, Option.bind_some, Bool.true_or, Bool.false_or]
        | false => simp -implicitDefEqProofs only [h1, h2, h3, h4, cond_true, cond_false, Option.bind_some, Bool.false_or]
def tagI (s : Bs) (i : Nat) : Nat := i + spanN isTag s i
def tagN (s : Bs) (i : Nat) : Bs := lowerB ((s.drop i).take (spanN isTag s i))
def tagS (s : Bs) (k : Int) (fr i : Nat) (out : List Tok) (f : List Fl) : Nat × List Tok × List Fl :=
  match tagL s k s.length (tagI s i) false [] [] with
  | none => (s.length, out, f ++ [(140, (fr : Int))])
  | some (j, sl, l, g) => if (k == 2 && rawN (tagN s i)) = true then rawS s (tagN s i) (j + 1) (out ++ [(k, (tagN s i, ([], (l, sl && k == 2))))]) (f ++ g) else (j + 1, out ++ [(k, (tagN s i, ([], (l, sl && k == 2))))], f ++ g)
theorem tag_eq (N : Nat) (s : Bs) (k : Int) (fr i : Nat) (out : List Tok) (f : List Fl) (hk : k = 2 ∨ k = 3) (hi : i ≤ s.length) (hs : s.length ≤ 15000) (hfr : fr ≤ 15000) (ho : okD out) (ho2 : out.length ≤ 900000000) (hf : f.length ≤ 490000000) (hN : s.length + 1 < N) (hN2 : 1000 < N) :
    token_cursor_tag_deb (Ev.upto N) ((k, ((fr : Int), ())), cur s i out f) = some ((), cur s (tagS s k fr i out f).1 (tagS s k fr i out f).2.1 (tagS s k fr i out f).2.2) := by
  have hsp := spanN_le isTag s i hi
  have k1 : (k == 1) = false := by rcases hk with rfl | rfl <;> rfl
  have q1 := takeTag_eq N s i out f hi (by omega) (by omega)
  have q2 := lower_eq N ((s.drop i).take (spanN isTag s i)) (by simp; omega) (by simp; omega)
  rw [show lowerB ((s.drop i).take (spanN isTag s i)) = tagN s i from rfl] at q2
  rw [show i + spanN isTag s i = tagI s i from rfl] at q1 hsp
  have hnl : (tagN s i).length ≤ 15000 := by unfold tagN; rw [lowerB_length]; simp; omega
  apply wp_eq
  unfold token_cursor_tag_deb
  simp -implicitDefEqProofs only [Option.bind_some, q1, q2]
  unfold tagS
  generalize hR : tagL s k s.length (tagI s i) false [] [] = R
  generalize hname : tagN s i = name at *
  refine wp_bind ?_
  refine wp_it (fun a => ∃ (n j : Nat) (sl : Bool) (l : List Att) (g : List Fl), a = ((k, ((fr : Int), ((f.length : Int), (sl, ())))), ((s, ((j : Int), ())), ((k, (name, (([] : Bs), (false, ())))), (out, (f ++ g, (l, ())))))) ∧ tagI s i ≤ j ∧ j ≤ s.length ∧ s.length - j ≤ n ∧ l.length ≤ 30 ∧ g.length ≤ 20000 * j ∧ tagL s k n j sl l g = R) (fun a => s.length - a.2.1.2.1.toNat) ⟨s.length, tagI s i, false, [], [], by rw [List.append_nil], Nat.le_refl _, hsp, by omega, by simp, by simp, hR⟩ (by simp; omega) ?_
  rintro _ ⟨n, j, sl, l, g, rfl, hij, hj, hn, hl, hg, hT⟩
  by_cases hjl : j < s.length
  · have c0 : decide ((j : Int) < (s.length : Int)) = true := decide_eq_true (by omega)
    have w1 : IntKind.wrap .i64 ((j : Int) + 1) = ((j + 1 : Nat) : Int) := by rw [wrap64 (by omega) (by omega)]; omega
    obtain ⟨n, rfl⟩ : ∃ m, n = m + 1 := ⟨n - 1, by omega⟩
    rw [tagL, List.getElem?_eq_getElem hjl] at hT
    simp only at hT
    have e62 : (((s[j].toNat : Nat) : Int) == 62) = (s[j] == 62) := byteEq s[j] 62 (by decide)
    have e47 : (((s[j].toNat : Nat) : Int) == 47) = (s[j] == 47) := byteEq s[j] 47 (by decide)
    have qb := blank_at (Ev.upto N) s[j]
    simp -implicitDefEqProofs only [c0, cond_true, idx_nat hjl, Option.bind_some, e62]
    cases h62 : (s[j] == 62) with
    | true =>
      rw [h62, if_pos rfl] at hT
      subst hT
      have q3 := tell_eq (Ev.upto N) (k, (name, (([] : Bs), (l, sl && k == 2)))) s (j + 1) out (f ++ g) ho (by simp)
      have hts : tellS out (k, (name, (([] : Bs), (l, sl && k == 2)))) = out ++ [(k, (name, (([] : Bs), (l, sl && k == 2))))] := by unfold tellS; rw [if_neg (by show ¬ (k == 1) = true; rw [k1]; decide)]
      rw [hts] at q3
      have hcl : wp ((bif (sl == true) then (some ((k, ()), ((s, ((IntKind.wrap .i64 ((j : Int) + (1 : Int))), ())), ((k, (name, (([] : Bs), ((k == (2 : Int)), ())))), (out, (f ++ g, (l, ()))))))) else (some ((k, ()), ((s, ((IntKind.wrap .i64 ((j : Int) + (1 : Int))), ())), ((k, (name, (([] : Bs), (false, ())))), (out, (f ++ g, (l, ())))))))) : Option ((Int × Unit) × ((Bs × Int × Unit) × (Int × Bs × Bs × Bool × Unit) × (List Tok) × (List Fl) × (List Att) × Unit))) (fun o => o = ((k, ()), ((s, (((j + 1 : Nat) : Int), ())), ((k, (name, (([] : Bs), (sl && k == 2, ())))), (out, (f ++ g, (l, ()))))))) := by
        rw [w1]
        cases sl
        · exact ⟨_, rfl, rfl⟩
        · exact ⟨_, rfl, rfl⟩
      obtain ⟨_, e, rfl⟩ := hcl
      simp -implicitDefEqProofs only [cond_true, e, Option.bind_some, q3]
      have qr := Raw_eq (Ev.upto N) name
      have hoo : okD (out ++ [(k, (name, (([] : Bs), (l, sl && k == 2))))]) := by
        refine ⟨by simp; omega, ?_⟩
        intro u hu
        rcases List.mem_append.1 hu with h | h
        · exact ho.2 u h
        · rw [List.mem_singleton.1 h]; simp
      have q4 := raw_eq N s name (j + 1) (out ++ [(k, (name, (([] : Bs), (l, sl && k == 2))))]) (f ++ g) (by omega) hs hnl hoo (by simp; omega) hN (by omega)
      cases h2 : (k == 2) with
      | false =>
        rw [h2] at q3 q4
        simp -implicitDefEqProofs only [show (false == true) = false from rfl, cond_false, Option.bind_some, Bool.false_and]
        refine ⟨_, rfl, ?_⟩
        rw [if_neg (by decide)]
        exact ⟨_, rfl, rfl⟩
      | true =>
        rw [h2] at q3 q4
        simp -implicitDefEqProofs only [beq_self_eq_true, cond_true, qr, Option.bind_some, Bool.true_and]
        cases hrn : rawN name with
        | true =>
          rw [if_pos rfl]
          simp -implicitDefEqProofs only [cond_true, q4, Option.bind_some]
          exact ⟨_, rfl, _, rfl, rfl⟩
        | false =>
          rw [if_neg (by decide)]
          simp -implicitDefEqProofs only [cond_false, Option.bind_some]
          exact ⟨_, rfl, _, rfl, rfl⟩
    | false =>
      rw [h62, if_neg (by decide)] at hT
      have hcl : wp ((bif ((((s[j]).toNat : Int) == (47 : Int)) == false) then ((fold_Blank_ (Ev.upto N) ((((s[j]).toNat : Int), ()), ())).bind fun v12 => (some ((k, ((fr : Int), ((f.length : Int), (((s[j]).toNat : Int), (v12.1.1, ()))))), ((s, ((j : Int), ())), ((k, (name, (([] : Bs), (false, ())))), (out, (f ++ g, (l, ())))))))) else (some ((k, ((fr : Int), ((f.length : Int), (((s[j]).toNat : Int), (true, ()))))), ((s, ((j : Int), ())), ((k, (name, (([] : Bs), (false, ())))), (out, (f ++ g, (l, ())))))))) : Option ((Int × Int × Int × Int × Bool × Unit) × ((Bs × Int × Unit) × (Int × Bs × Bs × Bool × Unit) × (List Tok) × (List Fl) × (List Att) × Unit))) (fun o => o = ((k, ((fr : Int), ((f.length : Int), (((s[j]).toNat : Int), (s[j] == 47 || blankB s[j], ()))))), ((s, ((j : Int), ())), ((k, (name, (([] : Bs), (false, ())))), (out, (f ++ g, (l, ()))))))) := by
        rw [e47]
        cases (s[j] == 47) with
        | true => exact ⟨_, rfl, rfl⟩
        | false =>
          simp -implicitDefEqProofs only [beq_self_eq_true, cond_true, qb, Option.bind_some, Bool.false_or]
          exact ⟨_, rfl, rfl⟩
      obtain ⟨_, e, rfl⟩ := hcl
      simp -implicitDefEqProofs only [cond_false]
      rw [e]
      cases hsb : (s[j] == 47 || blankB s[j]) with
      | true =>
        rw [hsb, if_pos rfl] at hT
        simp -implicitDefEqProofs only [cond_true, Option.bind_some, w1, e47]
        exact ⟨_, rfl, ⟨n, j + 1, s[j] == 47, l, g, rfl, by omega, by omega, by omega, hl, by omega, hT⟩, by simp; omega⟩
      | false =>
        rw [hsb, if_neg (by decide)] at hT
        have q5 := attr_eq N s j k name [] false out (f ++ g) l hjl hs (by simp; omega) hl (by omega) hN2
        have al := attS_le k l hjl
        have fl := attS_fl s j k l
        simp -implicitDefEqProofs only [cond_false, Option.bind_some, q5]
        cases hok : (attS s j k l).1 with
        | true =>
          rw [hok, if_pos rfl] at hT
          simp -implicitDefEqProofs only [Bool.not_true, cond_false, Option.bind_some]
          exact ⟨_, rfl, ⟨n, (attS s j k l).2.1, false, (attS s j k l).2.2.1, g ++ (attS s j k l).2.2.2, by rw [List.append_assoc], by omega, al.2, by omega, attS_al s j k l hl, by simp; omega, hT⟩, by simp; omega⟩
        | false =>
          rw [hok, if_neg (by decide)] at hT
          subst hT
          simp -implicitDefEqProofs only [Bool.not_false, cond_true, Option.bind_some]
          refine ⟨_, rfl, ?_⟩
          have s1 := sl_pre0 f (g ++ (attS s j k l).2.2.2)
          have q6 := fail_eq (Ev.upto N) 140 (fr : Int) s (attS s j k l).2.1 out f (by omega)
          rw [← List.append_assoc] at s1
          simp -implicitDefEqProofs only [s1, Option.bind_some, q6]
          exact ⟨_, rfl, rfl⟩
  · have c0 : decide ((j : Int) < (s.length : Int)) = false := decide_eq_false (by omega)
    rw [tagL_end s k n j _ _ _ (by omega)] at hT
    subst hT
    have s1 := sl_pre0 f g
    have q6 := fail_eq (Ev.upto N) 140 (fr : Int) s j out f (by omega)
    simp -implicitDefEqProofs only [c0, cond_false, Option.bind_some]
    refine ⟨_, rfl, ?_⟩
    simp -implicitDefEqProofs only [s1, Option.bind_some, q6]
    exact ⟨_, rfl, rfl⟩
/-! ### A comment or a doctype -/
def noteS (s : Bs) (k : Int) (b : Nat) (e : Bs) (i : Nat) (out : List Tok) (f : List Fl) : Nat × List Tok × List Fl :=
  match findB (s.drop (i + b)) e with
  | some m => (i + b + m + e.length, out ++ [(k, ([], ((bif k == 5 then trimB ((s.drop (i + b)).take m) else (s.drop (i + b)).take m), ([], false))))], f)
  | none => (s.length, out ++ [(k, ([], ((bif k == 5 then trimB (s.drop (i + b)) else s.drop (i + b)), ([], false))))], f ++ [(140, (i : Int))])
theorem trim_len (s : Bs) : (trimB s).length ≤ s.length := by
  unfold trimB
  exact trimS_le s blanks
theorem note_eq (N : Nat) (s : Bs) (k : Int) (b : Nat) (e : Bs) (i : Nat) (out : List Tok) (f : List Fl) (hk : k = 4 ∨ k = 5) (hi : i + b ≤ s.length) (hs : s.length ≤ 15000) (hb : b ≤ 100) (ho : okD out) (hf : f.length ≤ 490000000) :
    token_cursor_note_bca (Ev.upto N) ((k, ((b : Int), (e, ()))), cur s i out f) = some ((), cur s (noteS s k b e i out f).1 (noteS s k b e i out f).2.1 (noteS s k b e i out f).2.2) := by
  have w1 : IntKind.wrap .i64 ((i : Int) + (b : Int)) = ((i + b : Nat) : Int) := by rw [wrap64 (by omega) (by omega)]; omega
  have q1 := upto_eq (Ev.upto N) e s (i + b) out f hi (by omega)
  have tl : ∀ x : Bs, x.length ≤ 15000 → tellS out (k, ([], (x, ([], false)))) = out ++ [(k, ([], (x, ([], false))))] := fun x _ => by
    unfold tellS; rw [if_neg (by rcases hk with rfl | rfl <;> exact fun h => (by cases h))]
  have qt : ∀ (x : Bs), fold_Trim_ (Ev.upto N) ((x, ()), ()) = some ((trimB x, ()), ()) := fun x => rfl
  have tail : ∀ (x : Bs) (j : Nat) (f' : List Fl), x.length ≤ 15000 →
      (((bif (k == (5 : Int)) then ((fold_Trim_ (Ev.upto N) ((x, ()), ())).bind fun v5 => (some ((k, (v5.1.1, ())), cur s j out f'))) else (some ((k, (x, ())), cur s j out f')) : Option ((Int × Bs × Unit) × ((Bs × Int × Unit) × (List Tok) × (List Fl) × Unit))).bind fun o6 => ((token_cursor_tell_3d6 (Ev.upto N) (((o6.1.1, (([] : Bs), (o6.1.2.1, (([] : List Att), false)))), ()), ((o6.2.1.1, (o6.2.1.2.1, ())), (o6.2.2.1, (o6.2.2.2.1, ()))))).bind fun v7 => (some ((), ((v7.2.1.1, (v7.2.1.2.1, ())), (v7.2.2.1, (v7.2.2.2.1, ()))))))) : Option (Unit × ((Bs × Int × Unit) × (List Tok) × (List Fl) × Unit)))
        = some ((), cur s j (out ++ [(k, ([], ((bif k == 5 then trimB x else x), ([], false))))]) f') := by
    intro x j f' hx
    have hy : (bif k == 5 then trimB x else x).length ≤ 15000 := by
      have := trim_len x
      cases (k == 5) <;> simp only [cond_true, cond_false] <;> omega
    have q2 := tell_eq (Ev.upto N) (k, ([], ((bif k == 5 then trimB x else x), ([], false)))) s j out f' ho (by show (bif k == 5 then trimB x else x).length ≤ _; omega)
    rw [tl _ hy] at q2
    cases h5 : (k == 5) with
    | true =>
      rw [h5] at q2
      simp only [cond_true] at q2
      simp -implicitDefEqProofs only [cond_true, qt, Option.bind_some, q2]
    | false =>
      rw [h5] at q2
      simp only [cond_false] at q2
      simp -implicitDefEqProofs only [cond_false, Option.bind_some, q2]
  unfold token_cursor_note_bca noteS
  simp -implicitDefEqProofs only [Option.bind_some, w1, q1]
  cases hf1 : findB (s.drop (i + b)) e with
  | some m =>
    have t1 := tail ((s.drop (i + b)).take m) (i + b + m + e.length) f (by simp; omega)
    simp -implicitDefEqProofs only [Option.bind_some, Bool.not_true, cond_false]
    exact t1
  | none =>
    have q3 := fail_eq (Ev.upto N) 140 (i : Int) s s.length out f (by omega)
    have t1 := tail (s.drop (i + b)) s.length (f ++ [(140, (i : Int))]) (by simp; omega)
    simp -implicitDefEqProofs only [Option.bind_some, Bool.not_false, cond_true, q3]
    exact t1
end Go.En.Pl
