/- Text TE1 of this seat: written by a program of ours, or by hand; checked by Lean. -/
import Derived.Test.YtlambcopphejaaaGreatDoorTD8
set_option linter.unusedSimpArgs false
set_option linter.unusedVariables false
namespace Go.En.Pl
theorem lget {α : Type} {l : List α} {i : Nat} (h : i < l.length) : l[i]? = some l[i] := List.getElem?_eq_getElem h
theorem pounceref13_Name_eq (V : Ev) (s : Bs) : pounceref13_Name_ V ((s, ()), ()) = some (((nm s).1, ((nm s).2, ())), ()) := by
  have q25 : pounceref01_Bytes_ V ((160, ()), ()) = some (([194, 160], ()), ()) := pounceref01_Bytes_eq V 160 (by decide)
  unfold pounceref13_Name_ nm
  simp only [names, List.find?_cons, List.find?_nil]
  rw [beqc s ([97, 109, 112] : Bs)]
  rw [beqc s ([108, 116] : Bs)]
  rw [beqc s ([103, 116] : Bs)]
  rw [beqc s ([113, 117, 111, 116] : Bs)]
  rw [beqc s ([97, 112, 111, 115] : Bs)]
  rw [beqc s ([110, 98, 115, 112] : Bs)]
  rw [beqc s ([99, 111, 108, 111, 110] : Bs)]
  rw [beqc s ([108, 112, 97, 114] : Bs)]
  rw [beqc s ([114, 112, 97, 114] : Bs)]
  rw [beqc s ([116, 97, 98] : Bs)]
  cases (([97, 109, 112] : Bs) == s) <;> try rfl
  cases (([108, 116] : Bs) == s) <;> try rfl
  cases (([103, 116] : Bs) == s) <;> try rfl
  cases (([113, 117, 111, 116] : Bs) == s) <;> try rfl
  cases (([97, 112, 111, 115] : Bs) == s) <;> try rfl
  cases (([110, 98, 115, 112] : Bs) == s) <;> try rfl
  cases (([99, 111, 108, 111, 110] : Bs) == s) <;> try rfl
  cases (([108, 112, 97, 114] : Bs) == s) <;> try rfl
  cases (([114, 112, 97, 114] : Bs) == s) <;> try rfl
  cases (([116, 97, 98] : Bs) == s) <;> try rfl
theorem pounceref13_Sign_eq (N : Nat) (hN : 8 < N) (s : Bs) : pounceref13_Sign_ (Ev.upto N) ((s, ()), ()) = some (((sg s).1, ((sg s).2.1, ((!(sg s).2.2), ()))), ()) := by
  apply wp_eq
  unfold pounceref13_Sign_
  rw [pounceref13_Name_eq]
  simp -implicitDefEqProofs only [Option.bind_some]
  unfold sg
  by_cases h1 : (nm s).2 = true
  · rw [h1, if_pos rfl]
    exact ⟨_, rfl, rfl⟩
  have h1' : (nm s).2 = false := by simpa using h1
  rw [h1', if_neg (by decide), cond_false]
  have q32 : ∀ (base most : Nat) (hb : base = 10 ∨ base = 16) (hm : most ≤ 7) (s : Bs), pounceref13_number_ (Ev.upto N) ((s, ((base : Int), ((most : Int), ()))), ()) = some ((match numOk base most s with | some n => (n : Int) | none => -1, ()), ()) := pounceref13_number_eq N hN
  cases s with
  | nil => exact ⟨_, rfl, rfl⟩
  | cons c d =>
    have c1 : decide ((((c :: d).length : Nat) : Int) < 1) = false := decide_eq_false (by simp only [List.length_cons]; omega)
    simp -implicitDefEqProofs only [c1, beq_self_eq_true, cond_true, idx_zero, Option.bind_some]
    by_cases hc : c = 35
    · subst hc
      simp -implicitDefEqProofs only [sgT, if_true, show ((((35 : UInt8).toNat : Nat) : Int) != 35) = false from rfl, cond_false, sl_tail, Option.bind_some]
      have tail : ∀ (o : Option Nat) (b : Int), b = (match o with | some n => (n : Int) | none => -1) → (∀ n, o = some n → n < 268435456) →
          wp (bif decide (b < (0 : Int)) then (some ((([] : Bs), (false, (false, ()))), ())) else ((bif ((b == (0 : Int)) == false) then ((pounceref01_Point_ (Ev.upto N) ((b, ()), ())).bind fun v12 => (some ((b, ((!v12.1.1), ())), ()))) else (some ((b, (true, ())), ()))).bind fun o13 => (bif o13.1.2.1 then ((pounceref01_Bytes_ (Ev.upto N) (((65533 : Int), ()), ())).bind fun v14 => (some ((v14.1.1, (true, (true, ()))), ()))) else ((pounceref01_Bytes_ (Ev.upto N) ((o13.1.1, ()), ())).bind fun v15 => (some ((v15.1.1, (true, (false, ()))), ())))))) (fun x => x = (((sgOf o).1, ((sgOf o).2.1, ((!(sgOf o).2.2), ()))), ())) := by
        intro o b hbo hlt
        cases o with
        | none => subst hbo; exact ⟨_, rfl, rfl⟩
        | some n =>
          simp only at hbo
          subst hbo
          rw [nneg, cond_false]
          have q25o : pounceref01_Bytes_ (Ev.upto N) (((65533 : Int), ()), ()) = some ((utf 65533, ()), ()) := pounceref01_Bytes_eq _ 65533 (by decide)
          simp only [sgOf]
          by_cases hz : n = 0
          · subst hz
            rw [if_pos (.inl rfl)]
            simp -implicitDefEqProofs only [show ((((0 : Nat) : Int) == 0) == false) = false from rfl, cond_true, cond_false, Option.bind_some]
            rw [q25o]
            exact ⟨_, rfl, rfl⟩
          · have hz' : (((n : Nat) : Int) == 0) = false := by rw [beq_eq_false_iff_ne]; omega
            have q33 : pounceref01_Point_ (Ev.upto N) (((n : Int), ()), ()) = some ((pt n, ()), ()) := by
              unfold pounceref01_Point_ pt
              have e0 : decide ((n : Int) ≥ 0) = true := decide_eq_true (by omega)
              have e1 : decide ((n : Int) < 55296) = decide (n < 55296) := decide_eq_decide.2 (by omega)
              have e2 : decide ((n : Int) > 57343) = decide (57343 < n) := decide_eq_decide.2 (by omega)
              have e3 : decide ((n : Int) ≤ 1114111) = decide (n ≤ 1114111) := decide_eq_decide.2 (by omega)
              rw [e0, e1, e2, e3]
              by_cases h0 : n ≤ 1114111
              · by_cases h1 : n < 55296
                · have a : ¬ 55296 ≤ n := by omega
                  simp [h0, h1, a]
                · by_cases h2 : n ≤ 57343
                  · have a : 55296 ≤ n := by omega
                    have b : ¬ 57343 < n := by omega
                    simp [h0, h1, h2, a, b]
                  · have a : 55296 ≤ n := by omega
                    have b : 57343 < n := by omega
                    simp [h0, h1, h2, a, b]
              · simp [h0]
            simp -implicitDefEqProofs only [hz', beq_self_eq_true, cond_true]
            rw [q33]
            simp -implicitDefEqProofs only [Option.bind_some]
            cases hp : pt n with
            | true =>
              rw [if_neg (by simp [hz])]
              have hn : n ≤ 1114111 := by simp [pt] at hp; omega
              simp -implicitDefEqProofs only [Bool.not_true, cond_false]
              rw [pounceref01_Bytes_eq _ n hn]
              exact ⟨_, rfl, rfl⟩
            | false =>
              rw [if_pos (.inr rfl)]
              simp -implicitDefEqProofs only [Bool.not_false, cond_true]
              rw [q25o]
              exact ⟨_, rfl, rfl⟩
      have q10 := q32 10 7 (.inl rfl) (by decide) d
      have q10' : pounceref13_number_ (Ev.upto N) ((d, ((10 : Int), ((7 : Int), ()))), ()) = _ := q10
      rw [q10']
      simp -implicitDefEqProofs only [Option.bind_some]
      cases d with
      | nil => exact ⟨_, rfl, rfl⟩
      | cons c' r =>
        have c2 : decide ((((35 :: c' :: r : Bs).length : Nat) : Int) ≥ 2) = true := decide_eq_true (by simp only [List.length_cons]; omega)
        have i1 : idx (35 :: c' :: r : Bs) 1 = some c' := rfl
        have s2 : sl (35 :: c' :: r : Bs) 2 (((35 :: c' :: r : Bs).length : Nat) : Int) = some r := by
          have := sl_end (l := (35 :: c' :: r : Bs)) (a := 2) (by simp)
          simpa using this
        simp -implicitDefEqProofs only [c2, i1, beq_self_eq_true, cond_true, Option.bind_some]
        by_cases hx1 : c'.toNat = 120 ∨ c'.toNat = 88
        · have e16 : sgNum (c' :: r) = numOk 16 6 r := by simp only [sgNum, if_pos hx1]
          rw [e16]
          refine wp_seq (fun o => ∃ u, o = ((35 :: c' :: r, (u, (true, ()))), ())) ?_ ?_
          · rcases hx1 with hx1 | hx1
            · rw [hx1]; exact ⟨_, rfl, _, rfl⟩
            · rw [hx1]; exact ⟨_, rfl, _, rfl⟩
          · rintro _ ⟨u, rfl⟩
            have q16 := q32 16 6 (.inr rfl) (by decide) r
            have q16' : pounceref13_number_ (Ev.upto N) ((r, ((16 : Int), ((6 : Int), ()))), ()) = _ := q16
            simp -implicitDefEqProofs only [cond_true, s2, Option.bind_some]
            rw [q16']
            simp -implicitDefEqProofs only [Option.bind_some]
            exact tail (numOk 16 6 r) _ rfl (fun m h => (numOk_lt (by decide) (by decide) h).1)
        · have e10 : sgNum (c' :: r) = numOk 10 7 (c' :: r) := by simp only [sgNum, if_neg hx1]
          have n1 : (((c'.toNat : Nat) : Int) == 120) = false := by rw [beq_eq_false_iff_ne]; omega
          have n2 : (((c'.toNat : Nat) : Int) == 88) = false := by rw [beq_eq_false_iff_ne]; omega
          rw [e10]
          simp -implicitDefEqProofs only [n1, n2, beq_self_eq_true, cond_true, cond_false, Option.bind_some]
          exact tail (numOk 10 7 (c' :: r)) _ rfl (fun m h => (numOk_lt (by decide) (by decide) h).1)
    · have hc' : ((((c.toNat : Nat) : Int)) != 35) = true := by
        rw [bne_iff_ne]; intro e; apply hc; apply UInt8.toNat_inj.1; have : (35 : UInt8).toNat = 35 := rfl; omega
      simp -implicitDefEqProofs only [sgT, if_neg hc, hc', cond_true]
      exact ⟨_, rfl, rfl⟩
theorem pounceref13_end_wp (N : Nat) (hN : 12 < N) (l : Bs) : wp (pounceref13_end_ (Ev.upto N) ((l, ()), ())) (fun x => (x = ((-1, ()), ()) ∧ (59 : UInt8) ∉ l.take 12) ∨ ∃ y z, l = y ++ 59 :: z ∧ (59 : UInt8) ∉ y ∧ y.length < 12 ∧ x = (((y.length : Int), ()), ())) := by
  unfold pounceref13_end_
  refine wp_bind ?_
  refine wp_for (σ := Unit) (fun i _ => ((l, ((i : Int), ())), ())) (fun i _ => (59 : UInt8) ∉ l.take i) (min 12 l.length) () rfl (by simp) (by omega) ?_
  rintro i _ hi hn
  by_cases hi' : i < l.length ∧ i < 12
  · have c0 : decide ((i : Int) < ((l.length : Nat) : Int)) = true := decide_eq_true (by omega)
    have c1 : decide ((i : Int) < 12) = true := decide_eq_true (by omega)
    have w : IntKind.wrap .i64 ((i : Int) + 1) = ((i + 1 : Nat) : Int) := by rw [wrap64 (by omega) (by omega)]; omega
    simp -implicitDefEqProofs only [c0, c1, beq_self_eq_true, cond_true, idx_nat hi'.1, Option.bind_some, w]
    cases hc : (((l[i].toNat : Nat) : Int) == 59) with
    | true =>
      have hc' : l[i] = 59 := by
        apply UInt8.toNat_inj.1
        have := hc
        simp only [beq_iff_eq] at this
        have e : (59 : UInt8).toNat = 59 := rfl
        omega
      refine ⟨_, rfl, ⟨_, rfl, .inr ⟨l.take i, l.drop (i + 1), ?_, hn, by simp; omega, ?_⟩⟩⟩
      · rw [← hc', ← List.drop_eq_getElem_cons hi'.1, List.take_append_drop]
      · have hle : (l.take i).length = i := by rw [List.length_take]; omega
        rw [hle]
    | false =>
      refine ⟨_, rfl, by omega, (), rfl, ?_⟩
      rw [List.take_succ_eq_append_getElem hi'.1, List.mem_append]
      rintro (h | h)
      · exact hn h
      · have : l[i] = 59 := (List.mem_singleton.1 h).symm
        rw [this] at hc
        cases hc
  · have hout : (59 : UInt8) ∉ l.take 12 := by
      by_cases h12 : i < 12
      · have : i = l.length := by omega
        subst this
        rw [List.take_of_length_le (Nat.le_refl _)] at hn
        rwa [List.take_of_length_le (by omega)]
      · have : i = 12 := by omega
        subst this; exact hn
    by_cases c0 : i < l.length
    · have c0' : decide ((i : Int) < ((l.length : Nat) : Int)) = true := decide_eq_true (by omega)
      have c1 : decide ((i : Int) < 12) = false := decide_eq_false (by omega)
      simp -implicitDefEqProofs only [c0', c1, beq_self_eq_true, cond_true, cond_false, Option.bind_some]
      exact ⟨_, rfl, ⟨_, rfl, .inl ⟨rfl, hout⟩⟩⟩
    · have c0' : decide ((i : Int) < ((l.length : Nat) : Int)) = false := decide_eq_false (by omega)
      simp -implicitDefEqProofs only [c0', show (false == true) = false from rfl, cond_false, Option.bind_some]
      exact ⟨_, rfl, ⟨_, rfl, .inl ⟨rfl, hout⟩⟩⟩
theorem pounceref13_Decode_eq (N : Nat) (s : Bs) (hs : s.length ≤ 15000) (hN : s.length < N) (h12 : 12 < N) : pounceref13_Decode_ (Ev.upto N) ((s, ()), ()) = some ((((dec s 0).1, ()), ((dec s 0).2, ()))) := by
  apply wp_eq
  unfold pounceref13_Decode_
  refine wp_bind ?_
  have hL := dec_len s.length s 0 (Nat.le_refl _)
  refine wp_it (fun a => ∃ (i : Nat) (b : Bs) (f : List (Int × Int)), a = ((s, (b, ((i : Int), ()))), (f, ())) ∧ i ≤ s.length ∧ b ++ (dec (s.drop i) i).1 = (dec s 0).1 ∧ f ++ (dec (s.drop i) i).2 = (dec s 0).2) (fun a => s.length - a.1.2.2.1.toNat) ⟨0, [], [], rfl, by omega, by simp, by simp⟩ (by simp; omega) ?_
  rintro _ ⟨i, b, f, rfl, hi, hb, hf⟩
  have hbl : b.length ≤ 60000 := by
    have := congrArg List.length hb
    rw [List.length_append] at this; omega
  have hfl : f.length ≤ 15000 := by
    have := congrArg List.length hf
    rw [List.length_append] at this; omega
  simp -implicitDefEqProofs only
  by_cases hi' : i < s.length
  · have c0 : decide ((i : Int) < ((s.length : Nat) : Int)) = true := decide_eq_true (by omega)
    have w1 : IntKind.wrap .i64 ((i : Int) + 1) = ((i + 1 : Nat) : Int) := by rw [wrap64 (by omega) (by omega)]; omega
    have e := List.drop_eq_getElem_cons hi'
    rw [e] at hb hf
    have s1 : sl s (i : Int) ((i + 1 : Nat) : Int) = some [s[i]] := by
      have := sl_one hi'
      rw [show ((i : Int) + 1) = ((i + 1 : Nat) : Int) by omega] at this
      exact this
    have fp : strFits (b.length + [s[i]].length) = true := strFits_of (by simp; omega)
    have plain : sgAt s[i] (s.drop (i + 1)) = none → (∃ r : ((Bs × Bs × Int × Unit) × (List (Int × Int) × Unit)) ⊕ ((Bs × Unit) × (List (Int × Int) × Unit)), some (Sum.inl ((s, (b ++ [s[i]], (((i + 1 : Nat) : Int), ()))), (f, ()))) = some r ∧ (match r with | .inl a' => (∃ (i : Nat) (b : Bs) (f : List (Int × Int)), a' = ((s, (b, ((i : Int), ()))), (f, ())) ∧ i ≤ s.length ∧ b ++ (dec (s.drop i) i).1 = (dec s 0).1 ∧ f ++ (dec (s.drop i) i).2 = (dec s 0).2) ∧ s.length - a'.1.2.2.1.toNat < s.length - i | .inr b => True)) := by
      intro hp
      rw [dec_plain hp] at hb hf
      refine ⟨_, rfl, ⟨i + 1, b ++ [s[i]], f, rfl, by omega, ?_, ?_⟩, by simp; omega⟩
      · rw [← hb]; simp
      · rw [← hf]; rfl
    rw [c0, cond_true, sl_end hi, Option.bind_some, e]
    refine wp_bind ?_
    refine wp_seq _ (pounceref13_end_wp N h12 (s[i] :: s.drop (i + 1))) ?_
    intro x hx
    by_cases hc : s[i] = 38
    · have hc' : (((s[i].toNat : Nat) : Int) == 38) = true := by rw [hc]; rfl
      rcases hx with ⟨rfl, hx⟩ | ⟨y, z, e1, hy, hyl, rfl⟩
      · have hp : sgAt s[i] (s.drop (i + 1)) = none := by
          unfold sgAt
          rw [if_pos hc]
          cases hcut : cut59 (s.drop (i + 1)) with
          | none => rfl
          | some p =>
            obtain ⟨ep, hp59⟩ := cut59_some _ p hcut
            have hlong : ¬ p.1.length ≤ 8 := by
              intro hl
              apply hx
              rw [ep]
              have : (s[i] :: (p.1 ++ 59 :: p.2)).take 12 = s[i] :: ((p.1 ++ [59]) ++ p.2).take 11 := by simp
              rw [this, List.take_append]
              apply List.mem_cons_of_mem
              apply List.mem_append_left
              rw [List.take_of_length_le (by simp; omega)]
              simp
            simp only
            rw [if_neg (fun h => hlong (sg_short _ h))]
        obtain ⟨r, hr, hq⟩ := plain hp
        cases hr
        simp -implicitDefEqProofs only [idx_nat hi', Option.bind_some, hc', beq_self_eq_true, cond_true, show decide ((-1 : Int) > 0) = false from rfl, cond_false, w1, s1, fp]
        exact ⟨_, rfl, _, rfl, hq⟩
      · cases y with
        | nil =>
          simp only [List.nil_append, List.cons.injEq] at e1
          rw [hc] at e1
          exact absurd e1.1 (by decide)
        | cons y0 body =>
          simp only [List.cons_append, List.cons.injEq] at e1
          obtain ⟨rfl, e2⟩ := e1
          have hb59 : (59 : UInt8) ∉ body := fun h => hy (List.mem_cons_of_mem _ h)
          have hcut : cut59 (s.drop (i + 1)) = some (body, z) := by rw [e2]; exact cut59_eq body z hb59
          have hlen : s.length - (i + 1) = body.length + z.length + 1 := by
            have := congrArg List.length e2
            simp at this; omega
          simp only [List.length_cons] at hyl
          have ck : decide ((((s[i] :: body).length : Nat) : Int) > 0) = true := decide_eq_true (by simp only [List.length_cons]; omega)
          have w2 : IntKind.wrap .i64 ((i : Int) + (((s[i] :: body).length : Nat) : Int)) = ((i + 1 + body.length : Nat) : Int) := by
            simp only [List.length_cons]
            rw [wrap64 (by omega) (by omega)]; omega
          have w3 : IntKind.wrap .i64 (((i + 1 + body.length : Nat) : Int) + 1) = ((i + 1 + body.length + 1 : Nat) : Int) := by rw [wrap64 (by omega) (by omega)]; omega
          have s2 : sl s ((i + 1 : Nat) : Int) ((i + 1 + body.length : Nat) : Int) = some body := sl_pre e2 (by omega)
          have q24 := pounceref13_Sign_eq N (by omega) body
          have hgl := sg_len body
          have ft : strFits (b.length + (sg body).1.length) = true := strFits_of (by omega)
          have e3 : s.drop (i + 1 + body.length + 1) = z := by
            have : s.drop (i + 1) = (body ++ [59]) ++ z := by rw [e2]; simp
            have := drop_more (s := s) (i := i + 1) this
            rw [← this]; congr 1; simp; omega
          simp -implicitDefEqProofs only [idx_nat hi', Option.bind_some, hc', beq_self_eq_true, cond_true, ck, w1, w2, s2, q24]
          by_cases hsg : (sg body).2.1 = true
          · have hs1 : sgAt s[i] (s.drop (i + 1)) = some (body, z) := by unfold sgAt; rw [if_pos hc, hcut]; simp only [if_pos hsg]
            rw [dec_sign hs1] at hb hf
            simp only at hb hf
            rw [hsg]
            cases hr : (sg body).2.2 with
            | true =>
              simp -implicitDefEqProofs only [Bool.not_true, cond_false, cond_true, Option.bind_some, ft, w2, w3]
              refine ⟨_, rfl, _, rfl, ⟨i + 1 + body.length + 1, b ++ (sg body).1, f, rfl, by omega, ?_, ?_⟩, by simp; omega⟩
              · rw [e3, ← hb, show ((i + 1 + body.length + 1 : Nat) : Int) = (i : Int) + body.length + 2 by omega]; simp
              · rw [e3, ← hf, hr, show ((i + 1 + body.length + 1 : Nat) : Int) = (i : Int) + body.length + 2 by omega]; simp [bad]
            | false =>
              have hfit : fits (f.length + ([((130 : Int), (i : Int))] : List (Int × Int)).length) 16 = true := fits_of (by simp; omega)
              simp -implicitDefEqProofs only [Bool.not_false, cond_false, cond_true, Option.bind_some, ft, hfit, w2, w3]
              refine ⟨_, rfl, _, rfl, ⟨i + 1 + body.length + 1, b ++ (sg body).1, f ++ [(130, (i : Int))], rfl, by omega, ?_, ?_⟩, by simp; omega⟩
              · rw [e3, ← hb, show ((i + 1 + body.length + 1 : Nat) : Int) = (i : Int) + body.length + 2 by omega]; simp
              · rw [e3, ← hf, hr, show ((i + 1 + body.length + 1 : Nat) : Int) = (i : Int) + body.length + 2 by omega]; simp [bad]
          · have hsg' : (sg body).2.1 = false := by simpa using hsg
            have hp : sgAt s[i] (s.drop (i + 1)) = none := by unfold sgAt; rw [if_pos hc, hcut]; simp only [if_neg hsg]
            obtain ⟨r, hr, hq⟩ := plain hp
            cases hr
            rw [hsg', sg_right _ hsg']
            simp -implicitDefEqProofs only [Bool.not_true, cond_false, Option.bind_some, w1, s1, fp, cond_true]
            exact ⟨_, rfl, _, rfl, hq⟩
    · have hc' : (((s[i].toNat : Nat) : Int) == 38) = false := by
        rw [beq_eq_false_iff_ne]; intro e; apply hc; apply UInt8.toNat_inj.1; have : (38 : UInt8).toNat = 38 := rfl; omega
      obtain ⟨r, hr, hq⟩ := plain (sgAt_ne _ hc)
      cases hr
      simp -implicitDefEqProofs only [idx_nat hi', Option.bind_some, hc', show (false == true) = false from rfl, cond_false, w1, s1, fp, cond_true]
      exact ⟨_, rfl, _, rfl, hq⟩
  · have c0 : decide ((i : Int) < ((s.length : Nat) : Int)) = false := decide_eq_false (by omega)
    rw [List.drop_eq_nil_of_le (by omega), dec_nil] at hb hf
    simp only [List.append_nil] at hb hf
    rw [c0, cond_false]
    exact ⟨_, rfl, ⟨_, rfl, by rw [← hb, ← hf]⟩⟩
end Go.En.Pl
