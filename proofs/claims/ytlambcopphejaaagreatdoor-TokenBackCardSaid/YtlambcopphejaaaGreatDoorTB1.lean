/- Text TB1 of this seat: written by a program of ours, or by hand; checked by Lean. -/
import Derived.Test.YtlambcopphejaaaGreatDoorTF2
set_option linter.unusedSimpArgs false
set_option linter.unusedVariables false
namespace Go.En.Pl
/-! ### A text, encoded -/
def enc1 (c : UInt8) : Bs := bif ((c.toNat : Int) == 38) then [38, 97, 109, 112, 59] else bif ((c.toNat : Int) == 60) then [38, 108, 116, 59] else bif ((c.toNat : Int) == 62) then [38, 103, 116, 59] else
  bif ((c.toNat : Int) == 34) then [38, 113, 117, 111, 116, 59] else bif ((c.toNat : Int) == 39) then [38, 97, 112, 111, 115, 59] else [c]
def enc (s : Bs) : Bs := s.flatMap enc1
theorem enc1_len (c : UInt8) : (enc1 c).length ≤ 6 := by
  unfold enc1
  cases ((c.toNat : Int) == 38) <;> simp only [cond_true, cond_false]
  · cases ((c.toNat : Int) == 60) <;> simp only [cond_true, cond_false]
    · cases ((c.toNat : Int) == 62) <;> simp only [cond_true, cond_false]
      · cases ((c.toNat : Int) == 34) <;> simp only [cond_true, cond_false]
        · cases ((c.toNat : Int) == 39) <;> simp
        · decide
      · decide
    · decide
  · decide
theorem enc_len (s : Bs) : (enc s).length ≤ 6 * s.length := by
  induction s with
  | nil => simp [enc]
  | cons c s ih => 
    have := enc1_len c
    simp only [enc, List.flatMap_cons, List.length_append, List.length_cons] at ih ⊢
    omega
theorem enc_take (s : Bs) (i : Nat) (h : i < s.length) : enc (s.take (i + 1)) = enc (s.take i) ++ enc1 s[i] := by
  simp only [enc]
  rw [List.take_succ_eq_append_getElem h, List.flatMap_append]
  simp
theorem WS_eq (V : Ev) (x : Bs) (l : List Int) (h : l.length + x.length ≤ 100000000) : strings_Builder_WriteString_cc3 V ((x, ()), ((), (l, ()))) = some ((((x.length : Int)), (false, ())), ((), ((l ++ ofBs x), ()))) := by
  unfold strings_Builder_WriteString_cc3 strings_Builder_copyCheck_20a
  simp only [Option.bind_some, fits_of (show (l.length + x.length) * 1 ≤ 100000000 by omega), cond_true]
theorem WB_eq (V : Ev) (n : Int) (l : List Int) (h : l.length ≤ 10000000) : strings_Builder_WriteByte_a04 V ((n, ()), ((), (l, ()))) = some ((false, ()), ((), ((l ++ [n]), ()))) := by
  unfold strings_Builder_WriteByte_a04 strings_Builder_copyCheck_20a
  simp only [Option.bind_some, fits_of (show (l.length + ([n] : List Int).length) * 1 ≤ 100000000 by simp; omega), cond_true]
theorem BS_eq (V : Ev) (l : List Int) : strings_Builder_String_20a V ((), ((), (l, ()))) = some ((toBs l, ()), ((), ())) := by
  unfold strings_Builder_String_20a
  simp only [beq_self_eq_true, cond_true]
theorem Encode_eq (N : Nat) (s : Bs) (hs : s.length ≤ 1000000) (hN : s.length < N) : entity_Encode_ (Ev.upto N) ((s, ()), ()) = some ((enc s, ()), ()) := by
  unfold entity_Encode_
  refine it_run (fun i => ((s, ((s.length : Int), ((i : Int), ()))), ((), (ofBs (enc (s.take i)), ())))) s.length ((), ((), (ofBs (enc s), ()))) rfl ?_ ?_ (by omega) (by rw [BS_eq]; simp only [toBs_ofBs]; rfl)
  · intro i hi
    have hl := enc_len (s.take i)
    have hl2 : (s.take i).length ≤ 1000000 := by simp; omega
    have hw : IntKind.wrap .i64 ((i : Int) + 1) = (i : Int) + 1 := wrap64 (by omega) (by omega)
    have h18 : ∀ x : Bs, x.length ≤ 6 → strings_Builder_WriteString_cc3 (Ev.upto N) ((x, ()), ((), (ofBs (enc (s.take i)), ()))) = some ((((x.length : Int)), (false, ())), ((), (ofBs (enc (s.take i) ++ x), ()))) := fun x hx => by
      rw [WS_eq _ _ _ (by rw [ofBs_length]; omega), ofBs_append]
    have h21 : strings_Builder_WriteByte_a04 (Ev.upto N) ((((s[i].toNat : Int)), ()), ((), (ofBs (enc (s.take i)), ()))) = some ((false, ()), ((), (ofBs (enc (s.take i) ++ [s[i]]), ()))) := by
      rw [WB_eq _ _ _ (by rw [ofBs_length]; omega), ← ofBs_append]; rfl
    have hfin : ((i + 1 : Nat) : Int) = (i : Int) + 1 := by omega
    have hsf : ∀ a b : Nat, a ≤ 10 → b ≤ 10 → strFits (a + b) = true := fun a b _ _ => strFits_of (by omega)
    have e38 := byte_eq s[i] 38 (by decide)
    have e60 := byte_eq s[i] 60 (by decide)
    have e62 := byte_eq s[i] 62 (by decide)
    have e34 := byte_eq s[i] 34 (by decide)
    have e39 := byte_eq s[i] 39 (by decide)
    simp only [idx_nat hi, Option.bind_some, hw, sl_one hi, enc_take s i hi, hfin, show decide ((i : Int) < (s.length : Int)) = true from by simpa using hi, cond_true, enc1,
      show ([s[i]] == ([38] : Bs)) = (((s[i].toNat : Int)) == 38) from e38, show ([s[i]] == ([60] : Bs)) = (((s[i].toNat : Int)) == 60) from e60, show ([s[i]] == ([62] : Bs)) = (((s[i].toNat : Int)) == 62) from e62,
      show ([s[i]] == ([34] : Bs)) = (((s[i].toNat : Int)) == 34) from e34, show ([s[i]] == ([39] : Bs)) = (((s[i].toNat : Int)) == 39) from e39,
      List.length_cons, List.length_nil, List.length_append, List.cons_append, List.nil_append, hsf _ _ (by decide : (0 + 1 ≤ 10)) (by decide : (0 + 1 + 1 + 1 ≤ 10))]
    cases ((s[i].toNat : Int) == 38) <;> simp only [cond_true, cond_false, Option.bind_some, hw, idx_nat hi, h21]
    cases ((s[i].toNat : Int) == 60) <;> simp only [cond_true, cond_false, Option.bind_some, hw, idx_nat hi, h21]
    cases ((s[i].toNat : Int) == 62) <;> simp only [cond_true, cond_false, Option.bind_some, hw, idx_nat hi, h21]
    cases ((s[i].toNat : Int) == 34) <;> simp only [cond_true, cond_false, Option.bind_some, hw, idx_nat hi, h21]
    cases ((s[i].toNat : Int) == 39) <;> simp only [cond_true, cond_false, Option.bind_some, hw, idx_nat hi, h21]
    all_goals
      simp only [strFits, maxB, Nat.reduceAdd, Nat.reduceLeDiff, decide_true, cond_true]
      rw [h18 _ (by decide)]
      simp only [Option.bind_some, hw]
  · simp [List.take_length]

theorem WS2_eq (V : Ev) (x : Bs) (l : List Int) (h : l.length + x.length ≤ 100000000) : strings_Builder_WriteString_2ec V ((x, ()), ((), (l, ()))) = some ((((x.length : Int)), (false, ())), ((), ((l ++ ofBs x), ()))) := by
  unfold strings_Builder_WriteString_2ec strings_Builder_copyCheck_20a
  simp only [Option.bind_some, fits_of (show (l.length + x.length) * 1 ≤ 100000000 by omega), cond_true]
theorem enc_cons (c : UInt8) (s : Bs) : enc (c :: s) = enc1 c ++ enc s := by simp [enc]
theorem enc1_ne (c : UInt8) (h1 : ¬ c = 38) (h2 : ¬ c = 60) (h3 : ¬ c = 62) (h4 : ¬ c = 34) (h5 : ¬ c = 39) : enc1 c = [c] := by
  have k : ∀ (n : Nat), n < 256 → ¬ c = UInt8.ofNat n → (((c.toNat : Nat) : Int) == (n : Int)) = false := fun n hn h => by
    rw [beq_eq_false_iff_ne]
    intro e
    apply h
    apply UInt8.toNat_inj.1
    rw [UInt8.toNat_ofNat']
    omega
  have a1 : (((c.toNat : Nat) : Int) == 38) = false := k 38 (by decide) h1
  have a2 : (((c.toNat : Nat) : Int) == 60) = false := k 60 (by decide) h2
  have a3 : (((c.toNat : Nat) : Int) == 62) = false := k 62 (by decide) h3
  have a4 : (((c.toNat : Nat) : Int) == 34) = false := k 34 (by decide) h4
  have a5 : (((c.toNat : Nat) : Int) == 39) = false := k 39 (by decide) h5
  simp only [enc1, a1, a2, a3, a4, a5, cond_false]
theorem dec_name (name rest : Bs) (v : Bs) (at_ : Int) (h59 : (59 : UInt8) ∉ name) (hs : sg name = (v, true, true)) : dec (38 :: (name ++ 59 :: rest)) at_ = (v ++ (dec rest (at_ + name.length + 2)).1, (dec rest (at_ + name.length + 2)).2) := by
  have h : sgAt 38 (name ++ 59 :: rest) = some (name, rest) := by
    unfold sgAt
    rw [if_pos rfl, cut59_eq name rest h59]
    simp only [hs, if_true]
  rw [dec_sign h, hs]
  rfl
theorem enc_back : ∀ (s : Bs) (at_ : Int), dec (enc s) at_ = (s, [])
  | [], at_ => rfl
  | c :: s, at_ => by
    rw [enc_cons]
    by_cases h1 : c = 38
    · subst h1
      rw [show enc1 38 ++ enc s = 38 :: (([97, 109, 112] : Bs) ++ 59 :: enc s) from rfl, dec_name _ _ [38] _ (by decide) (by decide +kernel), enc_back s]
      rfl
    by_cases h2 : c = 60
    · subst h2
      rw [show enc1 60 ++ enc s = 38 :: (([108, 116] : Bs) ++ 59 :: enc s) from rfl, dec_name _ _ [60] _ (by decide) (by decide +kernel), enc_back s]
      rfl
    by_cases h3 : c = 62
    · subst h3
      rw [show enc1 62 ++ enc s = 38 :: (([103, 116] : Bs) ++ 59 :: enc s) from rfl, dec_name _ _ [62] _ (by decide) (by decide +kernel), enc_back s]
      rfl
    by_cases h4 : c = 34
    · subst h4
      rw [show enc1 34 ++ enc s = 38 :: (([113, 117, 111, 116] : Bs) ++ 59 :: enc s) from rfl, dec_name _ _ [34] _ (by decide) (by decide +kernel), enc_back s]
      rfl
    by_cases h5 : c = 39
    · subst h5
      rw [show enc1 39 ++ enc s = 38 :: (([97, 112, 111, 115] : Bs) ++ 59 :: enc s) from rfl, dec_name _ _ [39] _ (by decide) (by decide +kernel), enc_back s]
      rfl
    rw [enc1_ne c h1 h2 h3 h4 h5, List.singleton_append, dec_plain (sgAt_ne _ h1), enc_back s]
def plainC (x : UInt8) : Bool := !(((x.toNat : Nat) : Int) == 60) && (!(((x.toNat : Nat) : Int) == 62) && (!(((x.toNat : Nat) : Int) == 34) && !(((x.toNat : Nat) : Int) == 39)))
theorem enc_plain (s : Bs) : ∀ x ∈ enc s, plainC x = true := by
  induction s with
  | nil => intro x hx; cases hx
  | cons c s ih =>
    intro x hx
    rw [enc_cons, List.mem_append] at hx
    rcases hx with hx | hx
    · unfold enc1 at hx
      cases h1 : (((c.toNat : Nat) : Int) == 38) <;> rw [h1] at hx <;> simp only [cond_true, cond_false] at hx
      · cases h2 : (((c.toNat : Nat) : Int) == 60) <;> rw [h2] at hx <;> simp only [cond_true, cond_false] at hx
        · cases h3 : (((c.toNat : Nat) : Int) == 62) <;> rw [h3] at hx <;> simp only [cond_true, cond_false] at hx
          · cases h4 : (((c.toNat : Nat) : Int) == 34) <;> rw [h4] at hx <;> simp only [cond_true, cond_false] at hx
            · cases h5 : (((c.toNat : Nat) : Int) == 39) <;> rw [h5] at hx <;> simp only [cond_true, cond_false] at hx
              · have : x = c := by simpa using hx
                subst this
                simp only [plainC, h2, h3, h4, h5]; rfl
              · revert x; decide
            · revert x; decide
          · revert x; decide
        · revert x; decide
      · revert x; decide
    · exact ih x hx
theorem enc_append (a b : Bs) : enc (a ++ b) = enc a ++ enc b := List.flatMap_append
theorem sg_two (x : Bs) (h : (sg x).2.1 = true) : 2 ≤ x.length := by
  match x, h with
  | [], h => exact absurd h (by decide +kernel)
  | [c], h =>
    have := forall_byte (P := fun c => !(sg [c]).2.1) (by kernel_rfl) c
    rw [h] at this
    cases this
  | _ :: _ :: _, _ => simp
theorem enc_dec_len : ∀ (n : Nat) (x : Bs) (a : Int), x.length ≤ n → (enc (dec x a).1).length ≤ 6 * x.length
  | 0, x, a, h => by
    have : x = [] := List.length_eq_zero_iff.1 (by omega)
    subst this
    simp [dec_nil, enc]
  | n + 1, [], a, _ => by simp [dec_nil, enc]
  | n + 1, c :: r, a, h => by
    simp only [List.length_cons] at h
    cases hs : sgAt c r with
    | none =>
      rw [dec_plain hs, enc_cons, List.length_append]
      have := enc_dec_len n r (a + 1) (by omega)
      have := enc1_len c
      simp only [List.length_cons]
      omega
    | some p =>
      obtain ⟨_, hr, _, hg⟩ := sgAt_some hs
      rw [dec_sign hs, enc_append, List.length_append]
      have hl : r.length = p.1.length + (p.2.length + 1) := by rw [hr]; simp
      have := enc_dec_len n p.2 (a + p.1.length + 2) (by omega)
      have := sg_len p.1
      have := enc_len (sg p.1).1
      have := sg_two p.1 hg
      simp only [List.length_cons]
      omega
theorem enc_dec (x : Bs) (a : Int) : (enc (dec x a).1).length ≤ 6 * x.length := enc_dec_len _ x a (Nat.le_refl _)
/-! ### The text of tokens -/
def attrP (a : Att) : Bs := [32] ++ a.1 ++ [61, 34] ++ enc a.2 ++ [34]
def attrsP (l : List Att) : Bs := l.flatMap attrP
def startP (t : Tok) : Bs := [60] ++ t.2.1 ++ attrsP t.2.2.2.1 ++ (bif t.2.2.2.2 then [47] else []) ++ [62]
def codeT (t : Tok) : Bool := t.1 == 2 && plainN t.2.1
def tokP (c : Bool) (t : Tok) : Bs :=
  bif t.1 == 1 then (bif c then t.2.2.1 else enc t.2.2.1) else bif t.1 == 2 then startP t else bif t.1 == 3 then [60, 47] ++ t.2.1 ++ [62] else bif t.1 == 4 then [60, 33, 45, 45] ++ t.2.2.1 ++ [45, 45, 62] else
  bif t.1 == 5 then [60, 33, 100, 111, 99, 116, 121, 112, 101, 32] ++ t.2.2.1 ++ [62] else []
def codeB (l : List Tok) : Nat → Bool
  | 0 => false
  | i + 1 => match l[i]? with
    | some t => codeT t
    | none => false
def pre (l : List Tok) : Nat → Bs
  | 0 => []
  | i + 1 => pre l i ++ (match l[i]? with
    | some t => tokP (codeB l i) t
    | none => [])
theorem pre_succ {l : List Tok} {i : Nat} (h : i < l.length) : pre l (i + 1) = pre l i ++ tokP (codeB l i) l[i] := by
  rw [pre, List.getElem?_eq_getElem h]
theorem codeB_succ {l : List Tok} {i : Nat} (h : i < l.length) : codeB l (i + 1) = codeT l[i] := by
  rw [codeB, List.getElem?_eq_getElem h]
def okP (t : Tok) : Prop := t.2.1.length ≤ 1000000 ∧ t.2.2.1.length ≤ 1000000 ∧ t.2.2.2.1.length ≤ 1000 ∧ ∀ a ∈ t.2.2.2.1, a.1.length ≤ 1000000 ∧ a.2.length ≤ 1000000
theorem pre_mono {l : List Tok} : ∀ (k i : Nat), (pre l i).length ≤ (pre l (i + k)).length
  | 0, i => Nat.le_refl _
  | k + 1, i => by
    rw [← Nat.add_assoc, pre, List.length_append]
    have := pre_mono (l := l) k i
    omega
theorem attrsP_mono (l : List Att) (j : Nat) : (attrsP (l.take j)).length ≤ (attrsP l).length := by
  conv => rhs; rw [← List.take_append_drop j l]
  unfold attrsP
  rw [List.flatMap_append, List.length_append]
  omega
theorem attrsP_take {l : List Att} {j : Nat} (h : j < l.length) : attrsP (l.take (j + 1)) = attrsP (l.take j) ++ attrP l[j] := by
  simp only [attrsP]
  rw [List.take_succ_eq_append_getElem h, List.flatMap_append]
  simp
theorem sf {a b : Nat} (ha : a ≤ 90000000) (hb : b ≤ 10000000) : strFits (a + b) = true := strFits_of (by omega)
/-! ### the reference's print -/
theorem WSc (V : Ev) (x b : Bs) (h : b.length + x.length ≤ 100000000) : strings_Builder_WriteString_cc3 V ((x, ()), ((), (ofBs b, ()))) = some ((((x.length : Int)), (false, ())), ((), ((ofBs (b ++ x), ())))) := by
  rw [WS_eq _ _ _ (by rw [ofBs_length]; exact h), ofBs_append]
theorem WSd (V : Ev) (x b : Bs) (h : b.length + x.length ≤ 100000000) : strings_Builder_WriteString_2ec V ((x, ()), ((), (ofBs b, ()))) = some ((((x.length : Int)), (false, ())), ((), ((ofBs (b ++ x), ())))) := by
  rw [WS2_eq _ _ _ (by rw [ofBs_length]; exact h), ofBs_append]
theorem Print_eq (N : Nat) (l : List Tok) (hl : l.length ≤ 1000000) (h : ∀ t ∈ l, okP t) (hp : (pre l l.length).length ≤ 50000000) (hN : 1000000 < N) : token_Print_ (Ev.upto N) ((l, ()), ()) = some ((pre l l.length, ()), ()) := by
  apply wp_eq
  unfold token_Print_
  refine wp_bind ?_
  refine wp_for (σ := Unit) (fun i _ => ((codeB l i, (l, ((l.length : Int), ((i : Int), ())))), ((), (ofBs (pre l i), ())))) (fun i _ => True) l.length () rfl trivial (by omega) ?_
  rintro i _ hi _
  by_cases hi' : i < l.length
  · have c0 : decide ((i : Int) < (l.length : Int)) = true := decide_eq_true (by omega)
    have w : IntKind.wrap .i64 ((i : Int) + 1) = ((i + 1 : Nat) : Int) := by rw [wrap64 (by omega) (by omega)]; omega
    have ok := h _ (List.getElem_mem hi')
    obtain ⟨h1, h2, h3, h4⟩ := ok
    have ps := pre_succ hi'
    have pm := pre_mono (l := l) (l.length - (i + 1)) (i + 1)
    rw [show i + 1 + (l.length - (i + 1)) = l.length by omega, ps, List.length_append] at pm
    have pb : (pre l i).length ≤ 50000000 := by omega
    have el := enc_len l[i].2.2.1
    have cs := codeB_succ hi'
    have tp : ∀ c, tokP c l[i] = tokP c l[i] := fun _ => rfl
    have hpl : ∀ o : Option (((Bool × Unit)) × Unit), True := fun _ => trivial
    have pq := plain_eq (Ev.upto N) l[i].2.1
    have fin : ∀ b : Bs, b = pre l i ++ tokP (codeB l i) l[i] → wp ((bif ((l[i].1 == (2 : Int)) == true) then ((token_plain_ (Ev.upto N) ((l[i].2.1, ()), ())).bind fun v24 => (some ((v24.1.1, (l, ((l.length : Int), ((i : Int), ())))), ((), (ofBs b, ()))))) else (some ((false, (l, ((l.length : Int), ((i : Int), ())))), ((), (ofBs b, ()))))) : Option ((Bool × (List Tok) × Int × Int × Unit) × (Unit × (List Int) × Unit))) (fun o => o = ((codeB l (i + 1), (l, ((l.length : Int), ((i : Int), ())))), ((), (ofBs (pre l (i + 1)), ())))) := by
      intro b hb
      rw [← ps] at hb
      subst hb
      rw [cs]
      unfold codeT
      cases (l[i].1 == 2) with
      | true =>
        simp -implicitDefEqProofs only [beq_self_eq_true, cond_true, pq, Option.bind_some, Bool.true_and]
        exact ⟨_, rfl, rfl⟩
      | false => exact ⟨_, rfl, rfl⟩
    simp -implicitDefEqProofs only [c0, cond_true, idx_nat hi', Option.bind_some]
    cases k1 : (l[i].1 == (1 : Int)) with
    | true =>
      have tp : ∀ c, tokP c l[i] = bif c then l[i].2.2.1 else enc l[i].2.2.1 := fun c => by unfold tokP; rw [k1]; rfl
      have q := Encode_eq N l[i].2.2.1 (by omega) (by omega)
      have g1 := WSc (Ev.upto N) l[i].2.2.1 (pre l i) (by omega)
      have g2 := WSc (Ev.upto N) (enc l[i].2.2.1) (pre l i) (by omega)
      cases hc : codeB l i with
      | true =>
        obtain ⟨_, e, rfl⟩ := fin (pre l i ++ l[i].2.2.1) (by rw [tp, hc]; rfl)
        simp -implicitDefEqProofs only [cond_true, g1, Option.bind_some, e, w]
        exact ⟨_, rfl, hi', (), rfl, trivial⟩
      | false =>
        obtain ⟨_, e, rfl⟩ := fin (pre l i ++ enc l[i].2.2.1) (by rw [tp, hc]; rfl)
        simp -implicitDefEqProofs only [cond_true, cond_false, q, g2, Option.bind_some, e, w]
        exact ⟨_, rfl, hi', (), rfl, trivial⟩
    | false =>
      simp -implicitDefEqProofs only [cond_false]
      cases k2 : (l[i].1 == (2 : Int)) with
      | true =>
        have tp : ∀ c, tokP c l[i] = startP l[i] := fun c => by unfold tokP; rw [k1, k2]; rfl
        rw [tp] at pm
        have al : (pre l i).length + 2 + l[i].2.1.length + (attrsP l[i].2.2.2.1).length ≤ 50000000 := by
          have e : (startP l[i]).length = 1 + l[i].2.1.length + (attrsP l[i].2.2.2.1).length + (bif l[i].2.2.2.2 then [47] else ([] : Bs)).length + 1 := by simp only [startP, List.length_append, List.length_cons, List.length_nil]
          omega
        have g0 : strFits (([60] : Bs).length + l[i].2.1.length) = true := sf (by decide) (by omega)
        have g1 := WSc (Ev.upto N) ([60] ++ l[i].2.1) (pre l i) (by simp; omega)
        simp -implicitDefEqProofs only [cond_true, g0, g1, Option.bind_some]
        have loop : ∀ (st0 : _), st0 = ((l, ((l.length : Int), ((i : Int), (l[i].2.2.2.1, ((l[i].2.2.2.1.length : Int), ((0 : Int), ())))))), ((), ((l[i], ()), (ofBs (pre l i ++ ([60] ++ l[i].2.1)), ())))) →
          wp ((Ev.upto N).it (fun s8 : (((List Tok) × Int × Int × (List Att) × Int × Int × Unit) × (Unit × (Tok × Unit) × (List Int) × Unit)) => (bif decide (s8.1.2.2.2.2.2.1 < s8.1.2.2.2.2.1) then ((idx s8.1.2.2.2.1 s8.1.2.2.2.2.2.1).bind fun v9 => (bif strFits ((([32] : Bs)).length + (v9.1).length) then (bif strFits (((([32] : Bs) ++ v9.1)).length + (([61, 34] : Bs)).length) then ((entity_Encode_ (Ev.upto N) ((v9.2, ()), ())).bind fun v10 => (bif strFits ((((([32] : Bs) ++ v9.1) ++ ([61, 34] : Bs))).length + (v10.1.1).length) then (bif strFits (((((([32] : Bs) ++ v9.1) ++ ([61, 34] : Bs)) ++ v10.1.1)).length + (([34] : Bs)).length) then ((strings_Builder_WriteString_2ec (Ev.upto N) ((((((([32] : Bs) ++ v9.1) ++ ([61, 34] : Bs)) ++ v10.1.1) ++ ([34] : Bs)), ()), ((), (s8.2.2.2.1, ())))).bind fun v11 => (some (Sum.inl ((s8.1.1, (s8.1.2.1, (s8.1.2.2.1, (s8.1.2.2.2.1, (s8.1.2.2.2.2.1, ((IntKind.wrap .i64 (s8.1.2.2.2.2.2.1 + (1 : Int))), ())))))), ((), ((s8.2.2.1.1, ()), (v11.2.2.1, ()))))))) else none) else none)) else none) else none)) else (some (Sum.inr (((s8.1.1, (s8.1.2.1, (s8.1.2.2.1, ()))), ((), ((s8.2.2.1.1, ()), (s8.2.2.2.1, ())))) : (((List Tok) × Int × Int × Unit) × (Unit × (Tok × Unit) × (List Int) × Unit))))))) st0) (fun o => o = ((l, ((l.length : Int), ((i : Int), ()))), ((), ((l[i], ()), (ofBs (pre l i ++ ([60] ++ l[i].2.1) ++ attrsP l[i].2.2.2.1), ()))))) := by
          rintro _ rfl
          refine wp_for (σ := Unit) (fun j _ => ((l, ((l.length : Int), ((i : Int), (l[i].2.2.2.1, ((l[i].2.2.2.1.length : Int), ((j : Int), ())))))), ((), ((l[i], ()), (ofBs (pre l i ++ ([60] ++ l[i].2.1) ++ attrsP (l[i].2.2.2.1.take j)), ()))))) (fun j _ => True) l[i].2.2.2.1.length () (by simp [attrsP]) trivial (by omega) ?_
          rintro j _ hj _
          have lt := attrsP_mono l[i].2.2.2.1 j
          by_cases hj' : j < l[i].2.2.2.1.length
          · have c0 : decide ((j : Int) < (l[i].2.2.2.1.length : Int)) = true := decide_eq_true (by omega)
            have w : IntKind.wrap .i64 ((j : Int) + 1) = ((j + 1 : Nat) : Int) := by rw [wrap64 (by omega) (by omega)]; omega
            obtain ⟨a1, a2⟩ := h4 _ (List.getElem_mem hj')
            have el := enc_len l[i].2.2.2.1[j].2
            have q := Encode_eq N l[i].2.2.2.1[j].2 (by omega) (by omega)
            have g2 : strFits (([32] : Bs).length + l[i].2.2.2.1[j].1.length) = true := sf (by decide) (by omega)
            have g3 : strFits (([32] ++ l[i].2.2.2.1[j].1).length + ([61, 34] : Bs).length) = true := sf (by simp; omega) (by simp)
            have g4 : strFits (([32] ++ l[i].2.2.2.1[j].1 ++ [61, 34]).length + (enc l[i].2.2.2.1[j].2).length) = true := sf (by simp; omega) (by omega)
            have g5 : strFits (([32] ++ l[i].2.2.2.1[j].1 ++ [61, 34] ++ enc l[i].2.2.2.1[j].2).length + ([34] : Bs).length) = true := sf (by simp; omega) (by simp)
            have g6 := WSd (Ev.upto N) ([32] ++ l[i].2.2.2.1[j].1 ++ [61, 34] ++ enc l[i].2.2.2.1[j].2 ++ [34]) (pre l i ++ ([60] ++ l[i].2.1) ++ attrsP (l[i].2.2.2.1.take j)) (by simp; omega)
            simp -implicitDefEqProofs only [c0, cond_true, idx_nat hj', Option.bind_some, q, g2, g3, g4, g5, g6, w]
            exact ⟨_, rfl, hj', (), by rw [attrsP_take hj']; simp only [attrP, List.append_assoc], trivial⟩
          · have c0 : decide ((j : Int) < (l[i].2.2.2.1.length : Int)) = false := decide_eq_false (by omega)
            have ht : l[i].2.2.2.1.take j = l[i].2.2.2.1 := List.take_of_length_le (by omega)
            simp -implicitDefEqProofs only [c0, cond_false, ht]
            exact ⟨_, rfl, rfl⟩
        obtain ⟨_, e, rfl⟩ := loop _ rfl
        simp -implicitDefEqProofs only [e, Option.bind_some]
        cases hc : l[i].2.2.2.2 with
        | true =>
          have g2 := WSd (Ev.upto N) [47] (pre l i ++ ([60] ++ l[i].2.1) ++ attrsP l[i].2.2.2.1) (by simp; omega)
          have g3 := WSd (Ev.upto N) [62] (pre l i ++ ([60] ++ l[i].2.1) ++ attrsP l[i].2.2.2.1 ++ [47]) (by simp; omega)
          obtain ⟨_, e, rfl⟩ := fin (pre l i ++ ([60] ++ l[i].2.1) ++ attrsP l[i].2.2.2.1 ++ [47] ++ [62]) (by rw [tp]; unfold startP; rw [hc]; simp only [cond_true, List.append_assoc])
          rw [k2] at e
          simp -implicitDefEqProofs only [cond_true, hc, g2, g3, Option.bind_some, k2, e, w]
          exact ⟨_, rfl, hi', (), rfl, trivial⟩
        | false =>
          have g3 := WSd (Ev.upto N) [62] (pre l i ++ ([60] ++ l[i].2.1) ++ attrsP l[i].2.2.2.1) (by simp; omega)
          obtain ⟨_, e, rfl⟩ := fin (pre l i ++ ([60] ++ l[i].2.1) ++ attrsP l[i].2.2.2.1 ++ [62]) (by rw [tp]; unfold startP; rw [hc]; simp only [cond_false, List.append_assoc, List.nil_append])
          rw [k2] at e
          simp -implicitDefEqProofs only [cond_false, hc, g3, Option.bind_some, k2, e, w]
          exact ⟨_, rfl, hi', (), rfl, trivial⟩
      | false =>
        simp -implicitDefEqProofs only [cond_false]
        rw [k2] at fin
        cases k3 : (l[i].1 == (3 : Int)) with
        | true =>
          have tp : ∀ c, tokP c l[i] = [60, 47] ++ l[i].2.1 ++ [62] := fun c => by unfold tokP; rw [k1, k2, k3]; rfl
          have g1 : strFits (([60, 47] : Bs).length + l[i].2.1.length) = true := sf (by decide) (by omega)
          have g2 : strFits (([60, 47] ++ l[i].2.1).length + ([62] : Bs).length) = true := sf (by simp; omega) (by simp)
          have g3 := WSc (Ev.upto N) ([60, 47] ++ l[i].2.1 ++ [62]) (pre l i) (by simp; omega)
          obtain ⟨_, e, rfl⟩ := fin (pre l i ++ ([60, 47] ++ l[i].2.1 ++ [62])) (by rw [tp])
          simp -implicitDefEqProofs only [cond_true, g1, g2, g3, Option.bind_some, k2, e, w]
          exact ⟨_, rfl, hi', (), rfl, trivial⟩
        | false =>
          simp -implicitDefEqProofs only [cond_false]
          cases k4 : (l[i].1 == (4 : Int)) with
          | true =>
            have tp : ∀ c, tokP c l[i] = [60, 33, 45, 45] ++ l[i].2.2.1 ++ [45, 45, 62] := fun c => by unfold tokP; rw [k1, k2, k3, k4]; rfl
            have g1 : strFits (([60, 33, 45, 45] : Bs).length + l[i].2.2.1.length) = true := sf (by decide) (by omega)
            have g2 : strFits (([60, 33, 45, 45] ++ l[i].2.2.1).length + ([45, 45, 62] : Bs).length) = true := sf (by simp; omega) (by simp)
            have g3 := WSc (Ev.upto N) ([60, 33, 45, 45] ++ l[i].2.2.1 ++ [45, 45, 62]) (pre l i) (by simp; omega)
            obtain ⟨_, e, rfl⟩ := fin (pre l i ++ ([60, 33, 45, 45] ++ l[i].2.2.1 ++ [45, 45, 62])) (by rw [tp])
            simp -implicitDefEqProofs only [cond_true, g1, g2, g3, Option.bind_some, k2, e, w]
            exact ⟨_, rfl, hi', (), rfl, trivial⟩
          | false =>
            simp -implicitDefEqProofs only [cond_false]
            cases k5 : (l[i].1 == (5 : Int)) with
            | true =>
              have tp : ∀ c, tokP c l[i] = [60, 33, 100, 111, 99, 116, 121, 112, 101, 32] ++ l[i].2.2.1 ++ [62] := fun c => by unfold tokP; rw [k1, k2, k3, k4, k5]; rfl
              have g1 : strFits (([60, 33, 100, 111, 99, 116, 121, 112, 101, 32] : Bs).length + l[i].2.2.1.length) = true := sf (by decide) (by omega)
              have g2 : strFits (([60, 33, 100, 111, 99, 116, 121, 112, 101, 32] ++ l[i].2.2.1).length + ([62] : Bs).length) = true := sf (by simp; omega) (by simp)
              have g3 := WSc (Ev.upto N) ([60, 33, 100, 111, 99, 116, 121, 112, 101, 32] ++ l[i].2.2.1 ++ [62]) (pre l i) (by simp; omega)
              obtain ⟨_, e, rfl⟩ := fin (pre l i ++ ([60, 33, 100, 111, 99, 116, 121, 112, 101, 32] ++ l[i].2.2.1 ++ [62])) (by rw [tp])
              simp -implicitDefEqProofs only [cond_true, g1, g2, g3, Option.bind_some, k2, e, w]
              exact ⟨_, rfl, hi', (), rfl, trivial⟩
            | false =>
              have tp : ∀ c, tokP c l[i] = [] := fun c => by unfold tokP; rw [k1, k2, k3, k4, k5]; rfl
              obtain ⟨_, e, rfl⟩ := fin (pre l i) (by rw [tp, List.append_nil])
              simp -implicitDefEqProofs only [cond_false, Option.bind_some, k2, e, w]
              exact ⟨_, rfl, hi', (), rfl, trivial⟩
  · have c0 : decide ((i : Int) < (l.length : Int)) = false := decide_eq_false (by omega)
    obtain rfl : i = l.length := by omega
    simp -implicitDefEqProofs only [c0, cond_false]
    refine ⟨_, rfl, ?_⟩
    have q := BS_eq (Ev.upto N) (ofBs (pre l l.length))
    simp -implicitDefEqProofs only [q, Option.bind_some, toBs_ofBs]
    exact ⟨_, rfl, rfl⟩
end Go.En.Pl
