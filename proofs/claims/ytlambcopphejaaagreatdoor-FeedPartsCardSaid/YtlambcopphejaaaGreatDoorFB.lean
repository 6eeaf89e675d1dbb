/- Text FB of this seat: written by a program of ours, or by hand; checked by Lean. -/
import Derived.Test.YtlambcopphejaaaGreatDoorFC
set_option linter.unusedSimpArgs false
set_option linter.unusedVariables false
namespace Go.En.Pl
theorem pounceref13_Name_eq (V : Ev) (s : Bs) : pounceref13_Name_ V ((s, ()), ()) = some (((nm s).1, ((nm s).2, ())), ()) := by
  have q25 : pounceref01_Bytes_ V ((160, ()), ()) = some (([194, 160], ()), ()) := pounceref01_Bytes_eq V 160 (by decide)
  unfold pounceref13_Name_ nm
  simp only [names, List.find?_cons, List.find?_nil]
  rw [beqc s ([97, 109, 112] : Bs)]
  rw [beqc s ([108, 116] : Bs)]
  rw [beqc s ([103, 116] : Bs)]
  rw [beqc s ([113, 117, 111, 116] : Bs)]
  rw [beqc s ([97, 112, 111, 115] : Bs)]
  rw [beqc s ([110, 98, 115, 112] : Bs)]
  rw [beqc s ([99, 111, 108, 111, 110] : Bs)]
  rw [beqc s ([108, 112, 97, 114] : Bs)]
  rw [beqc s ([114, 112, 97, 114] : Bs)]
  rw [beqc s ([116, 97, 98] : Bs)]
  cases (([97, 109, 112] : Bs) == s) <;> try rfl
  cases (([108, 116] : Bs) == s) <;> try rfl
  cases (([103, 116] : Bs) == s) <;> try rfl
  cases (([113, 117, 111, 116] : Bs) == s) <;> try rfl
  cases (([97, 112, 111, 115] : Bs) == s) <;> try rfl
  cases (([110, 98, 115, 112] : Bs) == s) <;> try rfl
  cases (([99, 111, 108, 111, 110] : Bs) == s) <;> try rfl
  cases (([108, 112, 97, 114] : Bs) == s) <;> try rfl
  cases (([114, 112, 97, 114] : Bs) == s) <;> try rfl
  cases (([116, 97, 98] : Bs) == s) <;> try rfl
theorem pounceref13_Sign_eq (N : Nat) (hN : 8 < N) (s : Bs) : pounceref13_Sign_ (Ev.upto N) ((s, ()), ()) = some (((sg s).1, ((sg s).2.1, ((!(sg s).2.2), ()))), ()) := by
  apply wp_eq
  unfold pounceref13_Sign_
  rw [pounceref13_Name_eq]
  simp -implicitDefEqProofs only [Option.bind_some]
  unfold sg
  by_cases h1 : (nm s).2 = true
  · rw [h1, if_pos rfl]
    exact ⟨_, rfl, rfl⟩
  have h1' : (nm s).2 = false := by simpa using h1
  rw [h1', if_neg (by decide), cond_false]
  have q32 : ∀ (base most : Nat) (hb : base = 10 ∨ base = 16) (hm : most ≤ 7) (s : Bs), pounceref13_number_ (Ev.upto N) ((s, ((base : Int), ((most : Int), ()))), ()) = some ((match numOk base most s with | some n => (n : Int) | none => -1, ()), ()) := pounceref13_number_eq N hN
  cases s with
  | nil => exact ⟨_, rfl, rfl⟩
  | cons c d =>
    have c1 : decide ((((c :: d).length : Nat) : Int) < 1) = false := decide_eq_false (by simp only [List.length_cons]; omega)
    simp -implicitDefEqProofs only [c1, beq_self_eq_true, cond_true, idx_zero, Option.bind_some]
    by_cases hc : c = 35
    · subst hc
      simp -implicitDefEqProofs only [sgT, if_true, show ((((35 : UInt8).toNat : Nat) : Int) != 35) = false from rfl, cond_false, sl_tail, Option.bind_some]
      have tail : ∀ (o : Option Nat) (b : Int), b = (match o with | some n => (n : Int) | none => -1) → (∀ n, o = some n → n < 268435456) →
          wp (bif decide (b < (0 : Int)) then (some ((([] : Bs), (false, (false, ()))), ())) else ((bif ((b == (0 : Int)) == false) then ((pounceref01_Point_ (Ev.upto N) ((b, ()), ())).bind fun v12 => (some ((b, ((!v12.1.1), ())), ()))) else (some ((b, (true, ())), ()))).bind fun o13 => (bif o13.1.2.1 then ((pounceref01_Bytes_ (Ev.upto N) (((65533 : Int), ()), ())).bind fun v14 => (some ((v14.1.1, (true, (true, ()))), ()))) else ((pounceref01_Bytes_ (Ev.upto N) ((o13.1.1, ()), ())).bind fun v15 => (some ((v15.1.1, (true, (false, ()))), ())))))) (fun x => x = (((sgOf o).1, ((sgOf o).2.1, ((!(sgOf o).2.2), ()))), ())) := by
        intro o b hbo hlt
        cases o with
        | none => subst hbo; exact ⟨_, rfl, rfl⟩
        | some n =>
          simp only at hbo
          subst hbo
          rw [nneg, cond_false]
          have q25o : pounceref01_Bytes_ (Ev.upto N) (((65533 : Int), ()), ()) = some ((utf 65533, ()), ()) := pounceref01_Bytes_eq _ 65533 (by decide)
          simp only [sgOf]
          by_cases hz : n = 0
          · subst hz
            rw [if_pos (.inl rfl)]
            simp -implicitDefEqProofs only [show ((((0 : Nat) : Int) == 0) == false) = false from rfl, cond_true, cond_false, Option.bind_some]
            rw [q25o]
            exact ⟨_, rfl, rfl⟩
          · have hz' : (((n : Nat) : Int) == 0) = false := by rw [beq_eq_false_iff_ne]; omega
            have q33 : pounceref01_Point_ (Ev.upto N) (((n : Int), ()), ()) = some ((pt n, ()), ()) := by
              unfold pounceref01_Point_ pt
              have e0 : decide ((n : Int) ≥ 0) = true := decide_eq_true (by omega)
              have e1 : decide ((n : Int) < 55296) = decide (n < 55296) := decide_eq_decide.2 (by omega)
              have e2 : decide ((n : Int) > 57343) = decide (57343 < n) := decide_eq_decide.2 (by omega)
              have e3 : decide ((n : Int) ≤ 1114111) = decide (n ≤ 1114111) := decide_eq_decide.2 (by omega)
              rw [e0, e1, e2, e3]
              by_cases h0 : n ≤ 1114111
              · by_cases h1 : n < 55296
                · have a : ¬ 55296 ≤ n := by omega
                  simp [h0, h1, a]
                · by_cases h2 : n ≤ 57343
                  · have a : 55296 ≤ n := by omega
                    have b : ¬ 57343 < n := by omega
                    simp [h0, h1, h2, a, b]
                  · have a : 55296 ≤ n := by omega
                    have b : 57343 < n := by omega
                    simp [h0, h1, h2, a, b]
              · simp [h0]
            simp -implicitDefEqProofs only [hz', beq_self_eq_true, cond_true]
            rw [q33]
            simp -implicitDefEqProofs only [Option.bind_some]
            cases hp : pt n with
            | true =>
              rw [if_neg (by simp [hz])]
              have hn : n ≤ 1114111 := by simp [pt] at hp; omega
              simp -implicitDefEqProofs only [Bool.not_true, cond_false]
              rw [pounceref01_Bytes_eq _ n hn]
              exact ⟨_, rfl, rfl⟩
            | false =>
              rw [if_pos (.inr rfl)]
              simp -implicitDefEqProofs only [Bool.not_false, cond_true]
              rw [q25o]
              exact ⟨_, rfl, rfl⟩
      have q10 := q32 10 7 (.inl rfl) (by decide) d
      have q10' : pounceref13_number_ (Ev.upto N) ((d, ((10 : Int), ((7 : Int), ()))), ()) = _ := q10
      rw [q10']
      simp -implicitDefEqProofs only [Option.bind_some]
      cases d with
      | nil => exact ⟨_, rfl, rfl⟩
      | cons c' r =>
        have c2 : decide ((((35 :: c' :: r : Bs).length : Nat) : Int) ≥ 2) = true := decide_eq_true (by simp only [List.length_cons]; omega)
        have i1 : idx (35 :: c' :: r : Bs) 1 = some c' := rfl
        have s2 : sl (35 :: c' :: r : Bs) 2 (((35 :: c' :: r : Bs).length : Nat) : Int) = some r := by
          have := sl_end (l := (35 :: c' :: r : Bs)) (a := 2) (by simp)
          simpa using this
        simp -implicitDefEqProofs only [c2, i1, beq_self_eq_true, cond_true, Option.bind_some]
        by_cases hx1 : c'.toNat = 120 ∨ c'.toNat = 88
        · have e16 : sgNum (c' :: r) = numOk 16 6 r := by simp only [sgNum, if_pos hx1]
          rw [e16]
          refine wp_seq (fun o => ∃ u, o = ((35 :: c' :: r, (u, (true, ()))), ())) ?_ ?_
          · rcases hx1 with hx1 | hx1
            · rw [hx1]; exact ⟨_, rfl, _, rfl⟩
            · rw [hx1]; exact ⟨_, rfl, _, rfl⟩
          · rintro _ ⟨u, rfl⟩
            have q16 := q32 16 6 (.inr rfl) (by decide) r
            have q16' : pounceref13_number_ (Ev.upto N) ((r, ((16 : Int), ((6 : Int), ()))), ()) = _ := q16
            simp -implicitDefEqProofs only [cond_true, s2, Option.bind_some]
            rw [q16']
            simp -implicitDefEqProofs only [Option.bind_some]
            exact tail (numOk 16 6 r) _ rfl (fun m h => (numOk_lt (by decide) (by decide) h).1)
        · have e10 : sgNum (c' :: r) = numOk 10 7 (c' :: r) := by simp only [sgNum, if_neg hx1]
          have n1 : (((c'.toNat : Nat) : Int) == 120) = false := by rw [beq_eq_false_iff_ne]; omega
          have n2 : (((c'.toNat : Nat) : Int) == 88) = false := by rw [beq_eq_false_iff_ne]; omega
          rw [e10]
          simp -implicitDefEqProofs only [n1, n2, beq_self_eq_true, cond_true, cond_false, Option.bind_some]
          exact tail (numOk 10 7 (c' :: r)) _ rfl (fun m h => (numOk_lt (by decide) (by decide) h).1)
    · have hc' : ((((c.toNat : Nat) : Int)) != 35) = true := by
        rw [bne_iff_ne]; intro e; apply hc; apply UInt8.toNat_inj.1; have : (35 : UInt8).toNat = 35 := rfl; omega
      simp -implicitDefEqProofs only [sgT, if_neg hc, hc', cond_true]
      exact ⟨_, rfl, rfl⟩
theorem pounceref13_end_wp (N : Nat) (hN : 12 < N) (l : Bs) : wp (pounceref13_end_ (Ev.upto N) ((l, ()), ())) (fun x => (x = ((-1, ()), ()) ∧ (59 : UInt8) ∉ l.take 12) ∨ ∃ y z, l = y ++ 59 :: z ∧ (59 : UInt8) ∉ y ∧ y.length < 12 ∧ x = (((y.length : Int), ()), ())) := by
  unfold pounceref13_end_
  refine wp_bind ?_
  refine wp_for (σ := Unit) (fun i _ => ((l, ((i : Int), ())), ())) (fun i _ => (59 : UInt8) ∉ l.take i) (min 12 l.length) () rfl (by simp) (by omega) ?_
  rintro i _ hi hn
  by_cases hi' : i < l.length ∧ i < 12
  · have c0 : decide ((i : Int) < ((l.length : Nat) : Int)) = true := decide_eq_true (by omega)
    have c1 : decide ((i : Int) < 12) = true := decide_eq_true (by omega)
    have w : IntKind.wrap .i64 ((i : Int) + 1) = ((i + 1 : Nat) : Int) := by rw [wrap64 (by omega) (by omega)]; omega
    simp -implicitDefEqProofs only [c0, c1, beq_self_eq_true, cond_true, idx_nat hi'.1, Option.bind_some, w]
    cases hc : (((l[i].toNat : Nat) : Int) == 59) with
    | true =>
      have hc' : l[i] = 59 := by
        apply UInt8.toNat_inj.1
        have := hc
        simp only [beq_iff_eq] at this
        have e : (59 : UInt8).toNat = 59 := rfl
        omega
      refine ⟨_, rfl, ⟨_, rfl, .inr ⟨l.take i, l.drop (i + 1), ?_, hn, by simp; omega, ?_⟩⟩⟩
      · rw [← hc', ← List.drop_eq_getElem_cons hi'.1, List.take_append_drop]
      · have hle : (l.take i).length = i := by rw [List.length_take]; omega
        rw [hle]
    | false =>
      refine ⟨_, rfl, by omega, (), rfl, ?_⟩
      rw [List.take_succ_eq_append_getElem hi'.1, List.mem_append]
      rintro (h | h)
      · exact hn h
      · have : l[i] = 59 := (List.mem_singleton.1 h).symm
        rw [this] at hc
        cases hc
  · have hout : (59 : UInt8) ∉ l.take 12 := by
      by_cases h12 : i < 12
      · have : i = l.length := by omega
        subst this
        rw [List.take_of_length_le (Nat.le_refl _)] at hn
        rwa [List.take_of_length_le (by omega)]
      · have : i = 12 := by omega
        subst this; exact hn
    by_cases c0 : i < l.length
    · have c0' : decide ((i : Int) < ((l.length : Nat) : Int)) = true := decide_eq_true (by omega)
      have c1 : decide ((i : Int) < 12) = false := decide_eq_false (by omega)
      simp -implicitDefEqProofs only [c0', c1, beq_self_eq_true, cond_true, cond_false, Option.bind_some]
      exact ⟨_, rfl, ⟨_, rfl, .inl ⟨rfl, hout⟩⟩⟩
    · have c0' : decide ((i : Int) < ((l.length : Nat) : Int)) = false := decide_eq_false (by omega)
      simp -implicitDefEqProofs only [c0', show (false == true) = false from rfl, cond_false, Option.bind_some]
      exact ⟨_, rfl, ⟨_, rfl, .inl ⟨rfl, hout⟩⟩⟩
theorem pounceref13_Decode_eq (N : Nat) (s : Bs) (hs : s.length ≤ 15000) (hN : s.length < N) (h12 : 12 < N) : pounceref13_Decode_ (Ev.upto N) ((s, ()), ()) = some ((((dec s 0).1, ()), ((dec s 0).2, ()))) := by
  apply wp_eq
  unfold pounceref13_Decode_
  refine wp_bind ?_
  have hL := dec_len s.length s 0 (Nat.le_refl _)
  refine wp_it (fun a => ∃ (i : Nat) (b : Bs) (f : List (Int × Int)), a = ((s, (b, ((i : Int), ()))), (f, ())) ∧ i ≤ s.length ∧ b ++ (dec (s.drop i) i).1 = (dec s 0).1 ∧ f ++ (dec (s.drop i) i).2 = (dec s 0).2) (fun a => s.length - a.1.2.2.1.toNat) ⟨0, [], [], rfl, by omega, by simp, by simp⟩ (by simp; omega) ?_
  rintro _ ⟨i, b, f, rfl, hi, hb, hf⟩
  have hbl : b.length ≤ 60000 := by
    have := congrArg List.length hb
    rw [List.length_append] at this; omega
  have hfl : f.length ≤ 15000 := by
    have := congrArg List.length hf
    rw [List.length_append] at this; omega
  simp -implicitDefEqProofs only
  by_cases hi' : i < s.length
  · have c0 : decide ((i : Int) < ((s.length : Nat) : Int)) = true := decide_eq_true (by omega)
    have w1 : IntKind.wrap .i64 ((i : Int) + 1) = ((i + 1 : Nat) : Int) := by rw [wrap64 (by omega) (by omega)]; omega
    have e := List.drop_eq_getElem_cons hi'
    rw [e] at hb hf
    have s1 : sl s (i : Int) ((i + 1 : Nat) : Int) = some [s[i]] := by
      have := sl_one hi'
      rw [show ((i : Int) + 1) = ((i + 1 : Nat) : Int) by omega] at this
      exact this
    have fp : strFits (b.length + [s[i]].length) = true := strFits_of (by simp; omega)
    have plain : sgAt s[i] (s.drop (i + 1)) = none → (∃ r : ((Bs × Bs × Int × Unit) × (List (Int × Int) × Unit)) ⊕ ((Bs × Unit) × (List (Int × Int) × Unit)), some (Sum.inl ((s, (b ++ [s[i]], (((i + 1 : Nat) : Int), ()))), (f, ()))) = some r ∧ (match r with | .inl a' => (∃ (i : Nat) (b : Bs) (f : List (Int × Int)), a' = ((s, (b, ((i : Int), ()))), (f, ())) ∧ i ≤ s.length ∧ b ++ (dec (s.drop i) i).1 = (dec s 0).1 ∧ f ++ (dec (s.drop i) i).2 = (dec s 0).2) ∧ s.length - a'.1.2.2.1.toNat < s.length - i | .inr b => True)) := by
      intro hp
      rw [dec_plain hp] at hb hf
      refine ⟨_, rfl, ⟨i + 1, b ++ [s[i]], f, rfl, by omega, ?_, ?_⟩, by simp; omega⟩
      · rw [← hb]; simp
      · rw [← hf]; rfl
    rw [c0, cond_true, sl_end hi, Option.bind_some, e]
    refine wp_bind ?_
    refine wp_seq _ (pounceref13_end_wp N h12 (s[i] :: s.drop (i + 1))) ?_
    intro x hx
    by_cases hc : s[i] = 38
    · have hc' : (((s[i].toNat : Nat) : Int) == 38) = true := by rw [hc]; rfl
      rcases hx with ⟨rfl, hx⟩ | ⟨y, z, e1, hy, hyl, rfl⟩
      · have hp : sgAt s[i] (s.drop (i + 1)) = none := by
          unfold sgAt
          rw [if_pos hc]
          cases hcut : cut59 (s.drop (i + 1)) with
          | none => rfl
          | some p =>
            obtain ⟨ep, hp59⟩ := cut59_some _ p hcut
            have hlong : ¬ p.1.length ≤ 8 := by
              intro hl
              apply hx
              rw [ep]
              have : (s[i] :: (p.1 ++ 59 :: p.2)).take 12 = s[i] :: ((p.1 ++ [59]) ++ p.2).take 11 := by simp
              rw [this, List.take_append]
              apply List.mem_cons_of_mem
              apply List.mem_append_left
              rw [List.take_of_length_le (by simp; omega)]
              simp
            simp only
            rw [if_neg (fun h => hlong (sg_short _ h))]
        obtain ⟨r, hr, hq⟩ := plain hp
        cases hr
        simp -implicitDefEqProofs only [idx_nat hi', Option.bind_some, hc', beq_self_eq_true, cond_true, show decide ((-1 : Int) > 0) = false from rfl, cond_false, w1, s1, fp]
        exact ⟨_, rfl, _, rfl, hq⟩
      · cases y with
        | nil =>
          simp only [List.nil_append, List.cons.injEq] at e1
          rw [hc] at e1
          exact absurd e1.1 (by decide)
        | cons y0 body =>
          simp only [List.cons_append, List.cons.injEq] at e1
          obtain ⟨rfl, e2⟩ := e1
          have hb59 : (59 : UInt8) ∉ body := fun h => hy (List.mem_cons_of_mem _ h)
          have hcut : cut59 (s.drop (i + 1)) = some (body, z) := by rw [e2]; exact cut59_eq body z hb59
          have hlen : s.length - (i + 1) = body.length + z.length + 1 := by
            have := congrArg List.length e2
            simp at this; omega
          simp only [List.length_cons] at hyl
          have ck : decide ((((s[i] :: body).length : Nat) : Int) > 0) = true := decide_eq_true (by simp only [List.length_cons]; omega)
          have w2 : IntKind.wrap .i64 ((i : Int) + (((s[i] :: body).length : Nat) : Int)) = ((i + 1 + body.length : Nat) : Int) := by
            simp only [List.length_cons]
            rw [wrap64 (by omega) (by omega)]; omega
          have w3 : IntKind.wrap .i64 (((i + 1 + body.length : Nat) : Int) + 1) = ((i + 1 + body.length + 1 : Nat) : Int) := by rw [wrap64 (by omega) (by omega)]; omega
          have s2 : sl s ((i + 1 : Nat) : Int) ((i + 1 + body.length : Nat) : Int) = some body := sl_pre e2 (by omega)
          have q24 := pounceref13_Sign_eq N (by omega) body
          have hgl := sg_len body
          have ft : strFits (b.length + (sg body).1.length) = true := strFits_of (by omega)
          have e3 : s.drop (i + 1 + body.length + 1) = z := by
            have : s.drop (i + 1) = (body ++ [59]) ++ z := by rw [e2]; simp
            have := drop_more (s := s) (i := i + 1) this
            rw [← this]; congr 1; simp; omega
          simp -implicitDefEqProofs only [idx_nat hi', Option.bind_some, hc', beq_self_eq_true, cond_true, ck, w1, w2, s2, q24]
          by_cases hsg : (sg body).2.1 = true
          · have hs1 : sgAt s[i] (s.drop (i + 1)) = some (body, z) := by unfold sgAt; rw [if_pos hc, hcut]; simp only [if_pos hsg]
            rw [dec_sign hs1] at hb hf
            simp only at hb hf
            rw [hsg]
            cases hr : (sg body).2.2 with
            | true =>
              simp -implicitDefEqProofs only [Bool.not_true, cond_false, cond_true, Option.bind_some, ft, w2, w3]
              refine ⟨_, rfl, _, rfl, ⟨i + 1 + body.length + 1, b ++ (sg body).1, f, rfl, by omega, ?_, ?_⟩, by simp; omega⟩
              · rw [e3, ← hb, show ((i + 1 + body.length + 1 : Nat) : Int) = (i : Int) + body.length + 2 by omega]; simp
              · rw [e3, ← hf, hr, show ((i + 1 + body.length + 1 : Nat) : Int) = (i : Int) + body.length + 2 by omega]; simp [bad]
            | false =>
              have hfit : fits (f.length + ([((130 : Int), (i : Int))] : List (Int × Int)).length) 16 = true := fits_of (by simp; omega)
              simp -implicitDefEqProofs only [Bool.not_false, cond_false, cond_true, Option.bind_some, ft, hfit, w2, w3]
              refine ⟨_, rfl, _, rfl, ⟨i + 1 + body.length + 1, b ++ (sg body).1, f ++ [(130, (i : Int))], rfl, by omega, ?_, ?_⟩, by simp; omega⟩
              · rw [e3, ← hb, show ((i + 1 + body.length + 1 : Nat) : Int) = (i : Int) + body.length + 2 by omega]; simp
              · rw [e3, ← hf, hr, show ((i + 1 + body.length + 1 : Nat) : Int) = (i : Int) + body.length + 2 by omega]; simp [bad]
          · have hsg' : (sg body).2.1 = false := by simpa using hsg
            have hp : sgAt s[i] (s.drop (i + 1)) = none := by unfold sgAt; rw [if_pos hc, hcut]; simp only [if_neg hsg]
            obtain ⟨r, hr, hq⟩ := plain hp
            cases hr
            rw [hsg', sg_right _ hsg']
            simp -implicitDefEqProofs only [Bool.not_true, cond_false, Option.bind_some, w1, s1, fp, cond_true]
            exact ⟨_, rfl, _, rfl, hq⟩
    · have hc' : (((s[i].toNat : Nat) : Int) == 38) = false := by
        rw [beq_eq_false_iff_ne]; intro e; apply hc; apply UInt8.toNat_inj.1; have : (38 : UInt8).toNat = 38 := rfl; omega
      obtain ⟨r, hr, hq⟩ := plain (sgAt_ne _ hc)
      cases hr
      simp -implicitDefEqProofs only [idx_nat hi', Option.bind_some, hc', show (false == true) = false from rfl, cond_false, w1, s1, fp, cond_true]
      exact ⟨_, rfl, _, rfl, hq⟩
  · have c0 : decide ((i : Int) < ((s.length : Nat) : Int)) = false := decide_eq_false (by omega)
    rw [List.drop_eq_nil_of_le (by omega), dec_nil] at hb hf
    simp only [List.append_nil] at hb hf
    rw [c0, cond_false]
    exact ⟨_, rfl, ⟨_, rfl, by rw [← hb, ← hf]⟩⟩
abbrev rcur (s : Bs) (i : Nat) (rw' : Bs) (out : List Tok) (f : List Fl) : (Bs × Int × Bs × Unit) × (List Tok) × (List Fl) × Unit := ((s, ((i : Int), (rw', ()))), (out, (f, ())))
theorem rfail_eq (V : Ev) (e a : Int) (s : Bs) (i : Nat) (r : Bs) (out : List Tok) (f : List Fl) (hf : f.length ≤ 1000000000) : pounceref14_Reader_fail_d75 V ((e, (a, ())), rcur s i r out f) = some ((), rcur s i r out (f ++ [(e, a)])) := by
  unfold pounceref14_Reader_fail_d75
  have g : fits (f.length + ([(e, a)] : List Fl).length) 16 = true := fitsL (by simp; omega)
  show (bif fits (f.length + ([(e, a)] : List Fl).length) 16 then _ else _) = _
  rw [g]
  rfl
theorem span_at {p : UInt8 → Bool} {s : Bs} {i j : Nat} (hij : i ≤ j) (hj : j ≤ s.length) (ha : ∀ c ∈ (s.drop i).take (j - i), p c = true) (h : ∀ h : j < s.length, p s[j] = false) : i + spanN p s i = j := by
  have : (s.drop i).takeWhile p = (s.drop i).take (j - i) := by
    refine takeWhile_take _ _ ha (by simp; omega) ?_
    intro hh
    have hh' : j < s.length := by simp at hh; omega
    have := h hh'
    rw [List.getElem_drop]
    simpa [show i + (j - i) = j by omega] using this
  unfold spanN
  rw [this]
  simp; omega
theorem span_ext {p : UInt8 → Bool} {s : Bs} {i j : Nat} (hij : i ≤ j) (hj : j < s.length) (ha : ∀ c ∈ (s.drop i).take (j - i), p c = true) (h : p s[j] = true) : ∀ c ∈ (s.drop i).take (j + 1 - i), p c = true := by
  intro c hc
  have hd : j - i < (s.drop i).length := by simp; omega
  rw [show j + 1 - i = (j - i) + 1 by omega, List.take_succ_eq_append_getElem hd, List.mem_append, List.mem_singleton] at hc
  rcases hc with hc | rfl
  · exact ha c hc
  · rw [List.getElem_drop]
    simpa [show i + (j - i) = j by omega] using h
def noneOf (any : Bs) (c : UInt8) : Bool := !any.contains c
theorem rupto_eq (N : Nat) (any s : Bs) (at_ i : Nat) (r : Bs) (out : List Tok) (f : List Fl) (hi : at_ ≤ s.length) (hs : s.length ≤ 100000) (ha : any.length ≤ 1000) (hN : s.length < N) (hN2 : 1000 < N) :
    pounceref14_Reader_upto_07b (Ev.upto N) (((at_ : Int), (any, ())), rcur s i r out f) = some ((((at_ + spanN (noneOf any) s at_ : Nat) : Int), ()), rcur s i r out f) := by
  apply wp_eq
  unfold pounceref14_Reader_upto_07b
  refine wp_bind ?_
  refine wp_it (fun a => ∃ j : Nat, a = (((j : Int), (any, ())), rcur s i r out f) ∧ at_ ≤ j ∧ j ≤ s.length ∧ ∀ c ∈ (s.drop at_).take (j - at_), noneOf any c = true) (fun a => s.length - a.1.1.toNat) ⟨at_, rfl, Nat.le_refl _, hi, by simp⟩ (by simp; omega) ?_
  rintro _ ⟨j, rfl, hij, hj, hall⟩
  by_cases hjl : j < s.length
  · have c0 : decide ((j : Int) < (s.length : Int)) = true := decide_eq_true (by omega)
    have w : IntKind.wrap .i64 ((j : Int) + 1) = ((j + 1 : Nat) : Int) := by rw [wrap64 (by omega) (by omega)]; omega
    simp -implicitDefEqProofs only [c0, cond_true]
    refine wp_bind ?_
    refine wp_for (σ := Unit) (fun k _ => (((j : Int), (any, ((k : Int), ()))), rcur s i r out f)) (fun k _ => (any.take k).contains s[j] = false) any.length () rfl (by simp) (by omega) ?_
    rintro k _ hk hn
    by_cases hk' : k < any.length
    · have c1 : decide ((k : Int) < (any.length : Int)) = true := decide_eq_true (by omega)
      have w2 : IntKind.wrap .i64 ((k : Int) + 1) = ((k + 1 : Nat) : Int) := by rw [wrap64 (by omega) (by omega)]; omega
      simp -implicitDefEqProofs only [c1, cond_true, idx_nat hjl, idx_nat hk', Option.bind_some, w2]
      cases hc : (((s[j].toNat : Nat) : Int) == ((any[k].toNat : Nat) : Int)) with
      | true =>
        have e : s[j] = any[k] := UInt8.toNat_inj.1 (by have := beq_iff_eq.1 hc; omega)
        have : noneOf any s[j] = false := by unfold noneOf; rw [e]; simp
        exact ⟨_, rfl, _, rfl, _, rfl, by rw [span_at hij hj hall (fun _ => this)]⟩
      | false =>
        refine ⟨_, rfl, hk', (), rfl, ?_⟩
        have ne : ¬ s[j] = any[k] := fun e => by rw [e] at hc; simp at hc
        rw [List.take_succ_eq_append_getElem hk']
        simp only [List.contains_eq_mem, List.mem_append, List.mem_singleton, decide_eq_false_iff_not] at hn ⊢
        rintro (h | h)
        · exact hn h
        · exact ne h
    · have c1 : decide ((k : Int) < (any.length : Int)) = false := decide_eq_false (by omega)
      rw [List.take_of_length_le (by omega)] at hn
      simp -implicitDefEqProofs only [c1, cond_false]
      refine ⟨_, rfl, ?_⟩
      simp -implicitDefEqProofs only [w]
      exact ⟨_, rfl, ⟨j + 1, rfl, by omega, by omega, span_ext hij hjl hall (by unfold noneOf; rw [hn]; rfl)⟩, by simp; omega⟩
  · have c0 : decide ((j : Int) < (s.length : Int)) = false := decide_eq_false (by omega)
    simp -implicitDefEqProofs only [c0, cond_false]
    exact ⟨_, rfl, _, rfl, by rw [span_at hij hj hall (fun h => absurd h hjl)]⟩
theorem rblanks_eq (N : Nat) (s : Bs) (at_ i : Nat) (r : Bs) (out : List Tok) (f : List Fl) (hi : at_ ≤ s.length) (hs : s.length ≤ 100000) (hN : s.length < N) :
    pounceref14_Reader_blanks_810 (Ev.upto N) (((at_ : Int), ()), rcur s i r out f) = some ((((at_ + spanN blankB s at_ : Nat) : Int), ()), rcur s i r out f) := by
  apply wp_eq
  unfold pounceref14_Reader_blanks_810
  refine wp_bind ?_
  refine wp_it (fun a => ∃ j : Nat, a = (((j : Int), ()), rcur s i r out f) ∧ at_ ≤ j ∧ j ≤ s.length ∧ ∀ c ∈ (s.drop at_).take (j - at_), blankB c = true) (fun a => s.length - a.1.1.toNat) ⟨at_, rfl, Nat.le_refl _, hi, by simp⟩ (by simp; omega) ?_
  rintro _ ⟨j, rfl, hij, hj, hall⟩
  by_cases hjl : j < s.length
  · have c0 : (decide ((j : Int) < (s.length : Int)) == true) = true := by rw [show decide ((j : Int) < (s.length : Int)) = true from decide_eq_true (by omega)]; rfl
    have w : IntKind.wrap .i64 ((j : Int) + 1) = ((j + 1 : Nat) : Int) := by rw [wrap64 (by omega) (by omega)]; omega
    have qb := rblank_at (Ev.upto N) s[j]
    simp -implicitDefEqProofs only [c0, cond_true, idx_nat hjl, Option.bind_some, qb]
    cases hb : blanks.contains s[j] with
    | true =>
      simp -implicitDefEqProofs only [cond_true, w]
      exact ⟨_, rfl, ⟨j + 1, rfl, by omega, by omega, span_ext hij hjl hall hb⟩, by simp; omega⟩
    | false =>
      simp -implicitDefEqProofs only [cond_false]
      exact ⟨_, rfl, _, rfl, by rw [span_at hij hj hall (fun _ => hb)]⟩
  · have c0 : (decide ((j : Int) < (s.length : Int)) == true) = false := by rw [show decide ((j : Int) < (s.length : Int)) = false from decide_eq_false (by omega)]; rfl
    simp -implicitDefEqProofs only [c0, cond_false, Option.bind_some]
    exact ⟨_, rfl, _, rfl, by rw [span_at hij hj hall (fun h => absurd h hjl)]⟩
theorem rfind_eq (N : Nat) (t s : Bs) (at_ i : Nat) (r : Bs) (out : List Tok) (f : List Fl) (hi : at_ ≤ s.length) (hs : s.length ≤ 100000) (ht : 0 < t.length) (ht2 : t.length ≤ 1000) (hN : s.length < N) :
    pounceref14_Reader_find_07b (Ev.upto N) (((at_ : Int), (t, ())), rcur s i r out f) = some (((match findB (s.drop at_) t with | some k => ((at_ + k : Nat) : Int) | none => -1), ()), rcur s i r out f) := by
  apply wp_eq
  unfold pounceref14_Reader_find_07b
  refine wp_bind ?_
  refine wp_it (fun a => ∃ j : Nat, a = (((j : Int), (t, ())), rcur s i r out f) ∧ at_ ≤ j ∧ j ≤ s.length ∧ findB (s.drop at_) t = (findB (s.drop j) t).map (· + (j - at_))) (fun a => s.length - a.1.1.toNat) ⟨at_, rfl, Nat.le_refl _, hi, by simp⟩ (by simp; omega) ?_
  rintro _ ⟨j, rfl, hij, hj, hfd⟩
  have w : IntKind.wrap .i64 ((j : Int) + (t.length : Int)) = ((j + t.length : Nat) : Int) := by rw [wrap64 (by omega) (by omega)]; omega
  by_cases hjl : j + t.length ≤ s.length
  · have c0 : decide (((j + t.length : Nat) : Int) ≤ (s.length : Int)) = true := decide_eq_true (by omega)
    have w1 : IntKind.wrap .i64 ((j : Int) + 1) = ((j + 1 : Nat) : Int) := by rw [wrap64 (by omega) (by omega)]; omega
    have s1 : sl s ((j : Nat) : Int) ((j + t.length : Nat) : Int) = some ((s.take (j + t.length)).drop j) := sl_nat (by omega) hjl
    have e1 : (s.take (j + t.length)).drop j = (s.drop j).take t.length := by rw [List.drop_take, Nat.add_sub_cancel_left]
    have hst := findB_step (s := s) (e := t) (i := j) ht (by omega)
    rw [e1] at s1
    simp -implicitDefEqProofs only [w, c0, cond_true, s1, Option.bind_some]
    cases he : ((s.drop j).take t.length == t) with
    | true =>
      rw [he, if_pos rfl] at hst
      rw [hst] at hfd
      exact ⟨_, rfl, _, rfl, by rw [hfd]; simp only [Option.map_some]; congr 3; omega⟩
    | false =>
      rw [he, if_neg (by decide)] at hst
      rw [hst] at hfd
      simp -implicitDefEqProofs only [cond_false, w1]
      refine ⟨_, rfl, ⟨j + 1, rfl, by omega, by omega, ?_⟩, by simp; omega⟩
      rw [hfd, Option.map_map]
      congr 1
      funext x
      show x + 1 + (j - at_) = x + (j + 1 - at_)
      omega
  · have c0 : decide (((j + t.length : Nat) : Int) ≤ (s.length : Int)) = false := decide_eq_false (by omega)
    rw [findB_short (s.drop j) t (by simp; omega)] at hfd
    simp -implicitDefEqProofs only [w, c0, cond_false]
    exact ⟨_, rfl, _, rfl, by rw [hfd]; rfl⟩
theorem rdecode_eq (N : Nat) (s : Bs) (a b i : Nat) (r : Bs) (out : List Tok) (f : List Fl) (hab : a ≤ b) (hb : b ≤ s.length) (hs : s.length ≤ 15000) (hf : f.length ≤ 900000000) (hN : s.length < N) (h12 : 12 < N) :
    pounceref14_Reader_decode_d75 (Ev.upto N) (((a : Int), ((b : Int), ())), rcur s i r out f) = some (((dec ((s.take b).drop a) 0).1, ()), rcur s i r out (f ++ (dec ((s.take b).drop a) (a : Nat)).2)) := by
  have s1 : sl s ((a : Nat) : Int) ((b : Nat) : Int) = some ((s.take b).drop a) := sl_nat hab hb
  generalize hx : (s.take b).drop a = x at *
  have hxl : x.length ≤ s.length := by rw [← hx]; simp; omega
  have hd := pounceref13_Decode_eq N x (by omega) (by omega) h12
  have hl := (dec_len x.length x 0 (Nat.le_refl _)).2
  have hp := dec_pos x.length x 0
  rw [dec_shift x a]
  generalize hD : dec x 0 = D at *
  have hp' : ∀ p ∈ D.2, 0 ≤ p.2 ∧ p.2 ≤ x.length := fun p h => by
    have := hp p (by rw [show decB x.length x 0 = D from hD]; exact h)
    omega
  apply wp_eq
  unfold pounceref14_Reader_decode_d75
  simp -implicitDefEqProofs only [Option.bind_some, s1, hd]
  refine wp_bind ?_
  refine wp_for (σ := Unit) (fun j _ => (((a : Int), (D.1, ((j : Int), ()))), ((s, ((i : Int), (r, ()))), (D.2, (out, (f ++ (D.2.take j).map (fun p => (p.1, p.2 + (a : Int))), ())))))) (fun _ _ => True) D.2.length () (by simp) trivial (by omega) ?_
  rintro j _ hj _
  by_cases hj' : j < D.2.length
  · have c0 : decide ((j : Int) < (D.2.length : Int)) = true := decide_eq_true (by omega)
    have c1 : decide (0 ≤ (j : Int)) = true := decide_eq_true (by omega)
    have w : IntKind.wrap .i64 ((j : Int) + 1) = ((j + 1 : Nat) : Int) := by rw [wrap64 (by omega) (by omega)]; omega
    have hq := hp' D.2[j] (List.getElem_mem hj')
    have w2 : IntKind.wrap .i64 ((a : Int) + D.2[j].2) = D.2[j].2 + (a : Int) := by rw [wrap64 (by omega) (by omega)]; omega
    have q := rfail_eq (Ev.upto N) D.2[j].1 (D.2[j].2 + (a : Int)) s i r out (f ++ (D.2.take j).map (fun p => (p.1, p.2 + (a : Int)))) (by simp; omega)
    have ij : D.2[((j : Nat) : Int).toNat]? = some D.2[j] := by rw [Int.toNat_natCast]; exact List.getElem?_eq_getElem hj'
    simp -implicitDefEqProofs only [c0, c1, Bool.and_self, Bool.and_true, cond_true, ij, Option.bind_some, w2, q, w]
    refine ⟨_, rfl, hj', (), ?_, trivial⟩
    rw [List.take_succ_eq_append_getElem hj', List.map_append]
    simp only [List.map_cons, List.map_nil, List.append_assoc]
  · have c0 : decide ((j : Int) < (D.2.length : Int)) = false := decide_eq_false (by omega)
    have ht : D.2.take j = D.2 := List.take_of_length_le (by omega)
    simp -implicitDefEqProofs only [c0, cond_false, ht]
    exact ⟨_, rfl, _, rfl, rfl⟩
theorem rtextR_eq (V : Ev) (d s : Bs) (i : Nat) (r : Bs) (out : List Tok) (f : List Fl) (ho : okD out) (hd : d.length ≤ 1000000000000) : pounceref14_Reader_text_f0a V ((d, ()), rcur s i r out f) = some ((), rcur s i r (tellS out (tx d)) f) := by
  obtain ⟨h1, h2⟩ := ho
  have w : IntKind.wrap .i64 ((out.length : Int) - 1) = (out.length : Int) - 1 := wrap64 (by omega) (by omega)
  have g : fits (out.length + ([tx d] : List Tok).length) 72 = true := fitsL (by simp; omega)
  unfold pounceref14_Reader_text_f0a tellS
  rw [if_pos (show ((tx d).1 == 1) = true from rfl)]
  cases k2 : (d == ([] : Bs)) with
  | true =>
    rw [if_pos rfl]
    simp -implicitDefEqProofs only [Option.bind_some, cond_true, k2]
  | false =>
    rw [if_neg (by decide)]
    by_cases hz : out.length = 0
    · have : out = [] := List.length_eq_zero_iff.1 hz
      subst this
      have c1 : (decide ((([] : List Tok).length : Int) > 0) == true) = false := rfl
      simp -implicitDefEqProofs only [Option.bind_some, cond_true, cond_false, k2, c1]
      rw [g, cond_true]
      rfl
    · have hl : out.length - 1 < out.length := by omega
      have c1 : (decide ((out.length : Int) > 0) == true) = true := by rw [show decide ((out.length : Int) > 0) = true from decide_eq_true (by omega)]; rfl
      have c2 : (decide (0 ≤ ((out.length : Int) - 1)) && decide (((out.length : Int) - 1) < (out.length : Int))) = true := by
        rw [show decide (0 ≤ ((out.length : Int) - 1)) = true from decide_eq_true (by omega), show decide (((out.length : Int) - 1) < (out.length : Int)) = true from decide_eq_true (by omega)]; rfl
      have c3 : ((out.length : Int) - 1).toNat = out.length - 1 := by omega
      have c4 : out[out.length - 1]? = some (out[out.length - 1]) := List.getElem?_eq_getElem hl
      simp -implicitDefEqProofs only [Option.bind_some, cond_true, cond_false, w, k2, c1, c2, c3, c4, lastT, joinL]
      cases k3 : (out[out.length - 1].1 == 1) with
      | true =>
        have hb := h2 _ (List.getElem_mem hl)
        have g2 : strFits (out[out.length - 1].2.2.1.length + d.length) = true := strFitsL (by omega)
        simp -implicitDefEqProofs only [cond_true, g2, Option.bind_some, c2, c4]
        rw [if_pos trivial]
      | false =>
        simp -implicitDefEqProofs only [cond_false]
        rw [g, cond_true, if_neg (by simp)]
theorem has_eq (N : Nat) (k : Int) (n d : Bs) (l : List Att) (c : Bool) (x : Bs) (hl : l.length ≤ 1000) (hN : 1000 < N) : pounceref14_has_ (Ev.upto N) (((k, (n, (d, (l, c)))), (x, ())), ()) = some ((hasA l x, ()), ()) := by
  apply wp_eq
  unfold pounceref14_has_
  refine wp_bind ?_
  refine wp_for (σ := Unit) (fun i _ => ((x, ((i : Int), ())), (((k, (n, (d, (l, c)))), ()), ()))) (fun i _ => (l.take i).any (fun y => y.1 == x) = false) l.length () rfl (by simp) (by omega) ?_
  rintro i _ hi hn
  by_cases hi' : i < l.length
  · have c0 : decide ((i : Int) < (l.length : Int)) = true := decide_eq_true (by omega)
    have w : IntKind.wrap .i64 ((i : Int) + 1) = ((i + 1 : Nat) : Int) := by rw [wrap64 (by omega) (by omega)]; omega
    simp -implicitDefEqProofs only [c0, cond_true, idx_nat hi', Option.bind_some, w]
    cases hc : (l[i].1 == x) with
    | true =>
      have : hasA l x = true := hasA_at hi' hc
      exact ⟨_, rfl, _, rfl, by rw [this]⟩
    | false => exact ⟨_, rfl, hi', (), rfl, by rw [any_takeA hi', hn, hc]; rfl⟩
  · have c0 : decide ((i : Int) < (l.length : Int)) = false := decide_eq_false (by omega)
    rw [List.take_of_length_le (by omega)] at hn
    simp -implicitDefEqProofs only [c0, cond_false]
    exact ⟨_, rfl, _, rfl, by rw [show hasA l x = false from hn]⟩
theorem forall_byte {P : UInt8 → Bool} (h : (List.range 256).all (fun n => P (UInt8.ofNat n)) = true) (c : UInt8) : P c = true := by
  have h2 := List.all_eq_true.1 h c.toNat (List.mem_range.2 c.toNat_lt)
  rwa [UInt8.ofNat_toNat] at h2
theorem isVal_none : isVal = noneOf [9, 10, 12, 13, 32, 62] := by
  funext c
  exact beq_iff_eq.1 (forall_byte (P := fun c => isVal c == noneOf [9, 10, 12, 13, 32, 62] c) (by kernel_rfl) c)
theorem isAttr_none : isAttr = noneOf [9, 10, 12, 13, 32, 47, 62, 61] := by
  funext c
  exact beq_iff_eq.1 (forall_byte (P := fun c => isAttr c == noneOf [9, 10, 12, 13, 32, 47, 62, 61] c) (by kernel_rfl) c)
theorem isTag_none : isTag = noneOf [9, 10, 12, 13, 32, 47, 62] := by
  funext c
  exact beq_iff_eq.1 (forall_byte (P := fun c => isTag c == noneOf [9, 10, 12, 13, 32, 47, 62] c) (by kernel_rfl) c)
theorem notLt_none : notLt = noneOf [60] := by
  funext c
  exact beq_iff_eq.1 (forall_byte (P := fun c => notLt c == noneOf [60] c) (by kernel_rfl) c)
theorem isB_one {x : UInt8} (hx : (List.range 256).all (fun n => (lowerB [UInt8.ofNat n] == lowerB [x]) == (UInt8.ofNat n == x)) = true) {s : Bs} {i : Nat} (hi : i < s.length) : isB s i [x] = (s[i] == x) := by
  unfold isB
  have e : (s.drop i).take ([x] : Bs).length = [s[i]] := by rw [List.drop_eq_getElem_cons hi]; rfl
  rw [e, show decide (([x] : Bs).length ≤ s.length - i) = true from decide_eq_true (by simp; omega), Bool.true_and]
  exact beq_iff_eq.1 (forall_byte (P := fun c => (lowerB [c] == lowerB [x]) == (c == x)) hx s[i])
theorem isB_end {x : UInt8} {s : Bs} {i : Nat} (hi : s.length ≤ i) : isB s i [x] = false := by
  unfold isB
  rw [show decide (([x] : Bs).length ≤ s.length - i) = false from decide_eq_false (by simp; omega), Bool.false_and]
theorem rvalue_wp (N : Nat) (s : Bs) (a i : Nat) (r : Bs) (out : List Tok) (f : List Fl) (ha : a ≤ s.length) (hs : s.length ≤ 15000) (hf : f.length ≤ 900000000) (hN : s.length < N) (hN2 : 1000 < N) :
    wp (pounceref14_Reader_value_810 (Ev.upto N) (((a : Int), ()), rcur s i r out f)) (fun x => if (valP s a).2.1 = true then x = (((valP s a).1, (((valP s a).2.2.1 : Nat) : Int), ()), rcur s i r out (f ++ (valP s a).2.2.2)) else x = ((([] : Bs), ((-1 : Int), ())), rcur s i r out f)) := by
  unfold pounceref14_Reader_value_810
  simp -implicitDefEqProofs only [Option.bind_some]
  have hq : wp ((bif (decide ((a : Int) < (s.length : Int)) == true) then ((idx s (a : Int)).bind fun v2 => (bif ((((v2).toNat : Int) == (34 : Int)) == false) then ((idx s (a : Int)).bind fun v3 => (some (((a : Int), ((((v3).toNat : Int) == (39 : Int)), ())), rcur s i r out f))) else (some (((a : Int), (true, ())), rcur s i r out f)))) else (some (((a : Int), (false, ())), rcur s i r out f)) : Option ((Int × Bool × Unit) × ((Bs × Int × Bs × Unit) × (List Tok) × (List Fl) × Unit)))) (fun o => o = (((a : Int), ((isB s a [34] || isB s a [39]), ())), rcur s i r out f)) := by
    by_cases h : a < s.length
    · have c0 : (decide ((a : Int) < (s.length : Int)) == true) = true := by rw [show decide ((a : Int) < (s.length : Int)) = true from decide_eq_true (by omega)]; rfl
      rw [isB_one (by kernel_rfl) h, isB_one (by kernel_rfl) h]
      have e34 : (((s[a].toNat : Nat) : Int) == 34) = (s[a] == 34) := byteEq s[a] 34 (by decide)
      have e39 : (((s[a].toNat : Nat) : Int) == 39) = (s[a] == 39) := byteEq s[a] 39 (by decide)
      simp -implicitDefEqProofs only [c0, cond_true, idx_nat h, Option.bind_some, e34, e39]
      cases (s[a] == 34) with
      | true => exact ⟨_, rfl, rfl⟩
      | false => exact ⟨_, rfl, rfl⟩
    · have c0 : (decide ((a : Int) < (s.length : Int)) == true) = false := by rw [show decide ((a : Int) < (s.length : Int)) = false from decide_eq_false (by omega)]; rfl
      rw [isB_end (by omega), isB_end (by omega)]
      simp -implicitDefEqProofs only [c0, cond_false]
      exact ⟨_, rfl, rfl⟩
  obtain ⟨_, e, rfl⟩ := hq
  rw [e]
  simp -implicitDefEqProofs only [Option.bind_some]
  unfold valP
  cases h1 : (isB s a [34] || isB s a [39]) with
  | true =>
    have hlt : a < s.length := by
      rcases Bool.or_eq_true _ _ ▸ h1 with h | h
      · have := isB_lt h ha; simp at this; omega
      · have := isB_lt h ha; simp at this; omega
    have w : IntKind.wrap .i64 ((a : Int) + 1) = ((a + 1 : Nat) : Int) := by rw [wrap64 (by omega) (by omega)]; omega
    have s1 : sl s (a : Int) ((a + 1 : Nat) : Int) = some ((s.drop a).take 1) := by
      have := sl_nat (l := s) (a := a) (b := a + 1) (by omega) (by omega)
      rw [this, List.drop_take, Nat.add_sub_cancel_left]
    have q1 := rfind_eq N ((s.drop a).take 1) s (a + 1) i r out f (by omega) (by omega) (by simp; omega) (by simp; omega) hN
    have hl1 : ((s.drop a).take 1).length = 1 := by simp; omega
    rw [if_pos rfl]
    simp -implicitDefEqProofs only [cond_true, w, s1, Option.bind_some, q1]
    cases hf1 : findB (s.drop (a + 1)) ((s.drop a).take 1) with
    | none =>
      refine ⟨_, rfl, ?_⟩
      simp
    | some k =>
      have hk := (findB_some _ _ _ hf1).1
      rw [hl1] at hk
      have hk2 : k + 1 ≤ s.length - (a + 1) := by simpa using hk
      have c1 : decide (((a + 1 + k : Nat) : Int) < 0) = false := decide_eq_false (by omega)
      have w2 : IntKind.wrap .i64 (((a + 1 + k : Nat) : Int) + 1) = ((a + 1 + k + 1 : Nat) : Int) := by rw [wrap64 (by omega) (by omega)]; omega
      have q2 := rdecode_eq N s (a + 1) (a + 1 + k) i r out f (by omega) (by omega) hs hf hN (by omega)
      have e1 : (s.take (a + 1 + k)).drop (a + 1) = (s.drop (a + 1)).take k := by rw [List.drop_take, Nat.add_sub_cancel_left]
      rw [e1] at q2
      simp -implicitDefEqProofs only [c1, cond_false, q2, Option.bind_some, w2]
      refine ⟨_, rfl, ?_⟩
      simp only [if_true]
      rw [dec_fst ((s.drop (a + 1)).take k) ((a + 1 : Nat) : Int)]
  | false =>
    rw [if_neg (by decide)]
    have hsp := spanN_le isVal s a ha
    have q1 := rupto_eq N [9, 10, 12, 13, 32, 62] s a i r out f ha (by omega) (by decide) hN hN2
    rw [← isVal_none] at q1
    have q2 := rdecode_eq N s a (a + spanN isVal s a) i r out f (by omega) hsp hs hf hN (by omega)
    have e1 : (s.take (a + spanN isVal s a)).drop a = (s.drop a).take (spanN isVal s a) := by rw [List.drop_take, Nat.add_sub_cancel_left]
    rw [e1] at q2
    simp -implicitDefEqProofs only [cond_false, q1, q2, Option.bind_some]
    refine ⟨_, rfl, ?_⟩
    simp only [if_true]
    rw [dec_fst ((s.drop a).take (spanN isVal s a)) ((a : Nat) : Int)]
abbrev rcur9 (s : Bs) (i : Nat) (r : Bs) (k : Int) (n d : Bs) (c : Bool) (out : List Tok) (f : List Fl) (l : List Att) : (Bs × Int × Bs × Unit) × (Int × Bs × Bs × Bool × Unit) × (List Tok) × (List Fl) × (List Att) × Unit := ((s, ((i : Int), (r, ()))), ((k, (n, (d, (c, ())))), (out, (f, (l, ())))))
theorem rattr_wp (N : Nat) (s : Bs) (a i : Nat) (r : Bs) (k : Int) (n d : Bs) (c : Bool) (out : List Tok) (f : List Fl) (l : List Att) (ha : a < s.length) (hs : s.length ≤ 15000) (hf : f.length ≤ 800000000) (hl : l.length ≤ 30) (hN : s.length < N) (hN2 : 1000 < N) :
    wp (pounceref14_Reader_attr_260 (Ev.upto N) (((a : Int), ()), rcur9 s i r k n d c out f l)) (fun x => if (attS s a k l).1 = true then x = (((((attS s a k l).2.1 : Nat) : Int), ()), rcur9 s i r k n d c out (f ++ (attS s a k l).2.2.2) (attS s a k l).2.2.1) else ∃ g l', x = (((-1 : Int), ()), rcur9 s i r k n d c out (f ++ g) l')) := by
  have eE := attE_le ha
  have eB := attB_le ha
  have w1 : IntKind.wrap .i64 (((a : Nat) : Int) + 1) = ((a + 1 : Nat) : Int) := by rw [wrap64 (by omega) (by omega)]; omega
  have q1 := rupto_eq N [9, 10, 12, 13, 32, 47, 62, 61] s (a + 1) i r out f (by omega) (by omega) (by decide) hN hN2
  rw [← isAttr_none, show a + 1 + spanN isAttr s (a + 1) = attE s a from rfl] at q1
  have q2 : sl s ((a : Nat) : Int) ((attE s a : Nat) : Int) = some ((s.take (attE s a)).drop a) := sl_nat (by omega) eE.2
  have q3 := rlower_eq N ((s.take (attE s a)).drop a) (by simp; omega) (by simp; omega)
  rw [show lowerB ((s.take (attE s a)).drop a) = attN s a from rfl] at q3
  have q4 := has_eq N k n d l c (attN s a) (by omega) hN2
  have q5 := rfail_eq (Ev.upto N) 142 (a : Int) s i r out f (by omega)
  have q6 := rfail_eq (Ev.upto N) 2 (a : Int) s i r out f (by omega)
  have q7 := fun f' => rblanks_eq N s (attE s a) i r out f' eE.2 (by omega) hN
  rw [show attE s a + spanN blankB s (attE s a) = attB s a from rfl] at q7
  have fl : ∀ x : Att, fits (l.length + ([x] : List Att).length) 32 = true := fun x => fits_of (by simp; omega)
  unfold pounceref14_Reader_attr_260
  simp -implicitDefEqProofs only [Option.bind_some, w1, q1, q2, q3]
  have tail : ∀ (tk : Bool) (f' : List Fl), f'.length ≤ 810000000 →
      wp (((pounceref14_Reader_blanks_810 (Ev.upto N) ((((attE s a : Nat) : Int), ()), rcur s i r out f')).bind fun v12 => ((bif (decide (v12.1.1 < ((v12.2.1.1).length : Int)) == true) then ((idx v12.2.1.1 v12.1.1).bind fun v13 => (some ((tk, (v12.1.1, (((attE s a : Nat) : Int), ((((v13).toNat : Int) == (61 : Int)), ())))), ((v12.2.1.1, (v12.2.1.2.1, (v12.2.1.2.2.1, ()))), ((k, (n, (d, (c, ())))), (((attN s a, ([] : Bs)), ()), (v12.2.2.1, (v12.2.2.2.1, (l, ()))))))))) else (some ((tk, (v12.1.1, (((attE s a : Nat) : Int), (false, ())))), ((v12.2.1.1, (v12.2.1.2.1, (v12.2.1.2.2.1, ()))), ((k, (n, (d, (c, ())))), (((attN s a, ([] : Bs)), ()), (v12.2.2.1, (v12.2.2.2.1, (l, ()))))))))) : Option ((Bool × Int × Int × Bool × Unit) × ((Bs × Int × Bs × Unit) × (Int × Bs × Bs × Bool × Unit) × (Att × Unit) × (List Tok) × (List Fl) × (List Att) × Unit))).bind fun o14 => ((bif o14.1.2.2.2.1 then ((pounceref14_Reader_blanks_810 (Ev.upto N) (((IntKind.wrap .i64 (o14.1.2.1 + (1 : Int))), ()), ((o14.2.1.1, (o14.2.1.2.1, (o14.2.1.2.2.1, ()))), (o14.2.2.2.2.1, (o14.2.2.2.2.2.1, ()))))).bind fun v15 => ((pounceref14_Reader_value_810 (Ev.upto N) ((v15.1.1, ()), ((v15.2.1.1, (v15.2.1.2.1, (v15.2.1.2.2.1, ()))), (v15.2.2.1, (v15.2.2.2.1, ()))))).bind fun v16 => (some ((o14.1.1, (v16.1.2.1, ())), ((v16.2.1.1, (v16.2.1.2.1, (v16.2.1.2.2.1, ()))), ((o14.2.2.1.1, (o14.2.2.1.2.1, (o14.2.2.1.2.2.1, (o14.2.2.1.2.2.2.1, ())))), (((o14.2.2.2.1.1.1, v16.1.1), ()), (v16.2.2.1, (v16.2.2.2.1, (o14.2.2.2.2.2.2.1, ())))))))))) else (some ((o14.1.1, (o14.1.2.2.1, ())), ((o14.2.1.1, (o14.2.1.2.1, (o14.2.1.2.2.1, ()))), ((o14.2.2.1.1, (o14.2.2.1.2.1, (o14.2.2.1.2.2.1, (o14.2.2.1.2.2.2.1, ())))), ((o14.2.2.2.1.1, ()), (o14.2.2.2.2.1, (o14.2.2.2.2.2.1, (o14.2.2.2.2.2.2.1, ()))))))))).bind fun o17 => ((bif o17.1.1 then (bif fits ((o17.2.2.2.2.2.2.1).length + (([o17.2.2.2.1.1] : List Att)).length) 32 then (some ((o17.1.2.1, ()), ((o17.2.1.1, (o17.2.1.2.1, (o17.2.1.2.2.1, ()))), ((o17.2.2.1.1, (o17.2.2.1.2.1, (o17.2.2.1.2.2.1, (o17.2.2.1.2.2.2.1, ())))), (o17.2.2.2.2.1, (o17.2.2.2.2.2.1, ((o17.2.2.2.2.2.2.1 ++ ([o17.2.2.2.1.1] : List Att)), ()))))))) else none) else (some ((o17.1.2.1, ()), ((o17.2.1.1, (o17.2.1.2.1, (o17.2.1.2.2.1, ()))), ((o17.2.2.1.1, (o17.2.2.1.2.1, (o17.2.2.1.2.2.1, (o17.2.2.1.2.2.2.1, ())))), (o17.2.2.2.2.1, (o17.2.2.2.2.2.1, (o17.2.2.2.2.2.2.1, ())))))))).bind fun o18 => (some ((o18.1.1, ()), ((o18.2.1.1, (o18.2.1.2.1, (o18.2.1.2.2.1, ()))), ((o18.2.2.1.1, (o18.2.2.1.2.1, (o18.2.2.1.2.2.1, (o18.2.2.1.2.2.2.1, ())))), (o18.2.2.2.1, (o18.2.2.2.2.1, (o18.2.2.2.2.2.1, ())))))))))))
        (fun x => if isB s (attB s a) [61] = true then (if (valP s (attV s a)).2.1 = true then x = (((((valP s (attV s a)).2.2.1 : Nat) : Int), ()), rcur9 s i r k n d c out (f' ++ (valP s (attV s a)).2.2.2) (bif tk then l ++ [(attN s a, (valP s (attV s a)).1)] else l)) else ∃ l', x = (((-1 : Int), ()), rcur9 s i r k n d c out f' l'))
          else x = ((((attE s a : Nat) : Int), ()), rcur9 s i r k n d c out f' (bif tk then l ++ [(attN s a, [])] else l))) := by
    intro tk f' hf'
    simp -implicitDefEqProofs only [q7 f', Option.bind_some]
    by_cases hlt : attB s a < s.length
    · have c0 : (decide (((attB s a : Nat) : Int) < (s.length : Int)) == true) = true := by rw [show decide (((attB s a : Nat) : Int) < (s.length : Int)) = true from decide_eq_true (by omega)]; rfl
      have e61 : (((s[attB s a].toNat : Nat) : Int) == 61) = isB s (attB s a) [61] := by rw [isB_one (by kernel_rfl) hlt]; exact byteEq _ 61 (by decide)
      simp -implicitDefEqProofs only [c0, cond_true, idx_nat hlt, Option.bind_some, e61]
      cases hb : isB s (attB s a) [61] with
      | true =>
        have eV := attV_le ha hb
        have w2 : IntKind.wrap .i64 (((attB s a : Nat) : Int) + 1) = ((attB s a + 1 : Nat) : Int) := by rw [wrap64 (by omega) (by omega)]; omega
        have q9 := rblanks_eq N s (attB s a + 1) i r out f' (by omega) (by omega) hN
        rw [show attB s a + 1 + spanN blankB s (attB s a + 1) = attV s a from rfl] at q9
        obtain ⟨v, qv, hv⟩ := rvalue_wp N s (attV s a) i r out f' eV.2 hs (by omega) hN hN2
        simp only [eq_self, if_true]
        simp -implicitDefEqProofs only [cond_true, w2, q9, Option.bind_some, qv]
        cases hok : (valP s (attV s a)).2.1 with
        | true =>
          rw [hok, if_pos rfl] at hv
          subst hv
          simp only [eq_self, if_true]
          cases tk with
          | true =>
            simp -implicitDefEqProofs only [cond_true, fl, Option.bind_some]
            exact ⟨_, rfl, rfl⟩
          | false => exact ⟨_, rfl, rfl⟩
        | false =>
          rw [hok, if_neg (by decide)] at hv
          subst hv
          simp only [Bool.false_eq_true, if_false]
          cases tk with
          | true =>
            simp -implicitDefEqProofs only [cond_true, fl, Option.bind_some]
            exact ⟨_, rfl, _, rfl⟩
          | false => exact ⟨_, rfl, _, rfl⟩
      | false =>
        simp only [Bool.false_eq_true, if_false]
        simp -implicitDefEqProofs only [cond_false, Option.bind_some]
        cases tk with
        | true =>
          simp -implicitDefEqProofs only [cond_true, fl, Option.bind_some]
          exact ⟨_, rfl, rfl⟩
        | false => exact ⟨_, rfl, rfl⟩
    · have c0 : (decide (((attB s a : Nat) : Int) < (s.length : Int)) == true) = false := by rw [show decide (((attB s a : Nat) : Int) < (s.length : Int)) = false from decide_eq_false (by omega)]; rfl
      rw [isB_end (by omega)]
      simp only [Bool.false_eq_true, if_false]
      simp -implicitDefEqProofs only [c0, cond_false, Option.bind_some]
      cases tk with
      | true =>
        simp -implicitDefEqProofs only [cond_true, fl, Option.bind_some]
        exact ⟨_, rfl, rfl⟩
      | false => exact ⟨_, rfl, rfl⟩
  have join : ∀ (tk : Bool) (F : List Fl), attT s a k l = tk → attF s a k l = F → ∀ x, (if isB s (attB s a) [61] = true then (if (valP s (attV s a)).2.1 = true then x = (((((valP s (attV s a)).2.2.1 : Nat) : Int), ()), rcur9 s i r k n d c out (f ++ F ++ (valP s (attV s a)).2.2.2) (bif tk then l ++ [(attN s a, (valP s (attV s a)).1)] else l)) else ∃ l', x = (((-1 : Int), ()), rcur9 s i r k n d c out (f ++ F) l'))
          else x = ((((attE s a : Nat) : Int), ()), rcur9 s i r k n d c out (f ++ F) (bif tk then l ++ [(attN s a, [])] else l))) →
      (if (attS s a k l).1 = true then x = (((((attS s a k l).2.1 : Nat) : Int), ()), rcur9 s i r k n d c out (f ++ (attS s a k l).2.2.2) (attS s a k l).2.2.1) else ∃ g l', x = (((-1 : Int), ()), rcur9 s i r k n d c out (f ++ g) l')) := by
    rintro tk F rfl rfl x h
    unfold attS
    by_cases hb : isB s (attB s a) [61] = true
    · rw [if_pos hb] at h ⊢
      by_cases hv : (valP s (attV s a)).2.1 = true
      · rw [if_pos hv] at h ⊢
        rw [h, List.append_assoc]
      · rw [if_neg hv] at h ⊢
        obtain ⟨l', rfl⟩ := h
        exact ⟨_, l', rfl⟩
    · rw [if_neg hb] at h ⊢
      rw [if_pos rfl]
      exact h
  cases hk : (k == 2) with
  | false =>
    have hF : attF s a k l = [] := by unfold attF; rw [hk]; rfl
    have hT : attT s a k l = false := by unfold attT; rw [hk]; rfl
    have t1 := tail false (f ++ []) (by simp; omega)
    rw [List.append_nil] at t1
    simp -implicitDefEqProofs only [show (false == true) = false from rfl, cond_false, Option.bind_some]
    refine wp_mono t1 (fun x hx => join false [] hT hF x ?_)
    rw [List.append_nil]
    exact hx
  | true =>
    simp -implicitDefEqProofs only [beq_self_eq_true, cond_true, Option.bind_some, q4]
    cases hd : hasA l (attN s a) with
    | true =>
      have hF : attF s a k l = [(142, (a : Int))] := by unfold attF; rw [hk, if_pos rfl, hd, if_pos rfl]
      have hT : attT s a k l = false := by unfold attT; rw [hk, hd]; rfl
      have t1 := tail false (f ++ [(142, (a : Int))]) (by simp; omega)
      simp -implicitDefEqProofs only [q5, Option.bind_some, cond_true]
      exact wp_mono t1 (fun x hx => join false _ hT hF x hx)
    | false =>
      simp -implicitDefEqProofs only [cond_false, beq_self_eq_true, cond_true, Option.bind_some]
      by_cases h30 : 30 ≤ l.length
      · have hF : attF s a k l = [(2, (a : Int))] := by unfold attF; rw [hk, if_pos rfl, hd, if_neg (by simp), if_pos h30]
        have hT : attT s a k l = false := by unfold attT; rw [hk, hd, show decide (30 ≤ l.length) = true from decide_eq_true h30]; rfl
        have t1 := tail false (f ++ [(2, (a : Int))]) (by simp; omega)
        simp -implicitDefEqProofs only [show decide ((l.length : Int) ≥ 30) = true from decide_eq_true (by omega), q6, Option.bind_some, cond_true]
        exact wp_mono t1 (fun x hx => join false _ hT hF x hx)
      · have hF : attF s a k l = [] := by unfold attF; rw [hk, if_pos rfl, hd, if_neg (by simp), if_neg h30]
        have hT : attT s a k l = true := by unfold attT; rw [hk, hd, show decide (30 ≤ l.length) = false from decide_eq_false h30]; rfl
        have t1 := tail true (f ++ []) (by simp; omega)
        rw [List.append_nil] at t1
        simp -implicitDefEqProofs only [show decide ((l.length : Int) ≥ 30) = false from decide_eq_false (by omega), Option.bind_some, cond_false]
        refine wp_mono t1 (fun x hx => join true [] hT hF x ?_)
        rw [List.append_nil]
        exact hx
theorem rRaw_eq (V : Ev) (n : Bs) : pounceref14_Raw_ V ((n, ()), ()) = some ((rawN n, ()), ()) := by
  unfold pounceref14_Raw_ rawN
  cases (n == ([115, 99, 114, 105, 112, 116] : Bs)) <;> cases (n == ([115, 116, 121, 108, 101] : Bs)) <;> cases (n == ([116, 101, 120, 116, 97, 114, 101, 97] : Bs)) <;> rfl
abbrev RSt := Nat × Bs × List Tok × List Fl
def rtagS (s : Bs) (k : Int) (fr i : Nat) (out : List Tok) (f : List Fl) : RSt :=
  match tagL s k s.length (tagI s i) false [] [] with
  | none => (s.length, [], out, f ++ [(140, (fr : Int))])
  | some (j, sh, l, g) => (j + 1, (if (k == 2 && rawN (tagN s i)) = true then tagN s i else []), out ++ [(k, (tagN s i, ([], (l, sh && k == 2))))], f ++ g)
theorem rtag_eq (N : Nat) (s : Bs) (k : Int) (i at_ : Nat) (out : List Tok) (f : List Fl) (hk : k = 2 ∨ k = 3) (ha : at_ ≤ s.length) (hi : i ≤ s.length) (hs : s.length ≤ 15000) (ho2 : out.length ≤ 900000000) (hf : f.length ≤ 400000000) (hN : s.length + 1 < N) (hN2 : 1000 < N) :
    pounceref14_Reader_tag_d75 (Ev.upto N) ((k, ((at_ : Int), ())), rcur s i [] out f) = some ((), rcur s (rtagS s k i at_ out f).1 (rtagS s k i at_ out f).2.1 (rtagS s k i at_ out f).2.2.1 (rtagS s k i at_ out f).2.2.2) := by
  have hsp := spanN_le isTag s at_ ha
  have q1 := rupto_eq N [9, 10, 12, 13, 32, 47, 62] s at_ i [] out f ha (by omega) (by decide) (by omega) hN2
  rw [← isTag_none, show at_ + spanN isTag s at_ = tagI s at_ from rfl] at q1
  have q2 : sl s ((at_ : Nat) : Int) ((tagI s at_ : Nat) : Int) = some ((s.drop at_).take (spanN isTag s at_)) := by
    have := sl_nat (l := s) (a := at_) (b := tagI s at_) (by unfold tagI; omega) hsp
    rw [this, List.drop_take, show tagI s at_ - at_ = spanN isTag s at_ by unfold tagI; omega]
  have q3 := rlower_eq N ((s.drop at_).take (spanN isTag s at_)) (by simp; omega) (by simp; omega)
  rw [show lowerB ((s.drop at_).take (spanN isTag s at_)) = tagN s at_ from rfl] at q3
  rw [show at_ + spanN isTag s at_ = tagI s at_ from rfl] at hsp
  apply wp_eq
  unfold pounceref14_Reader_tag_d75
  simp -implicitDefEqProofs only [Option.bind_some, q1, q2, q3]
  unfold rtagS
  generalize hR : tagL s k s.length (tagI s at_) false [] [] = R
  generalize hname : tagN s at_ = name at *
  refine wp_bind ?_
  refine wp_it (fun a => (∃ (n j : Nat) (sh : Bool) (l : List Att) (g : List Fl), a = ((k, ((j : Int), ((f.length : Int), (sh, ())))), ((s, ((i : Int), (([] : Bs), ()))), ((k, (name, (([] : Bs), (false, ())))), (out, (f ++ g, (l, ())))))) ∧ tagI s at_ ≤ j ∧ j ≤ s.length ∧ s.length - j ≤ n ∧ l.length ≤ 30 ∧ g.length ≤ 20000 * j ∧ tagL s k n j sh l g = R)
      ∨ (∃ (sh : Bool) (l : List Att) (g : List Fl), a = ((k, ((-1 : Int), ((f.length : Int), (sh, ())))), ((s, ((i : Int), (([] : Bs), ()))), ((k, (name, (([] : Bs), (false, ())))), (out, (f ++ g, (l, ())))))) ∧ R = none)) (fun a => if a.1.2.1 < 0 then 0 else s.length - a.1.2.1.toNat + 1) (Or.inl ⟨s.length, tagI s at_, false, [], [], by rw [List.append_nil], Nat.le_refl _, hsp, by omega, by simp, by simp, hR⟩) (by simp only; split <;> omega) ?_
  have cut : ∀ (at' : Int) (sh : Bool) (l : List Att) (g : List Fl), (at' < 0 ∨ (s.length : Int) ≤ at') →
      wp (((bif (decide (at' < (0 : Int)) == false) then (some ((k, (at', ((f.length : Int), (sh, (decide (at' ≥ (s.length : Int)), ()))))), ((s, ((i : Int), (([] : Bs), ()))), ((k, (name, (([] : Bs), (false, ())))), (out, (f ++ g, (l, ()))))))) else (some ((k, (at', ((f.length : Int), (sh, (true, ()))))), ((s, ((i : Int), (([] : Bs), ()))), ((k, (name, (([] : Bs), (false, ())))), (out, (f ++ g, (l, ())))))))) : Option ((Int × Int × Int × Bool × Bool × Unit) × ((Bs × Int × Bs × Unit) × (Int × Bs × Bs × Bool × Unit) × (List Tok) × (List Fl) × (List Att) × Unit)))) (fun o => o = ((k, (at', ((f.length : Int), (sh, (true, ()))))), ((s, ((i : Int), (([] : Bs), ()))), ((k, (name, (([] : Bs), (false, ())))), (out, (f ++ g, (l, ()))))))) := by
    intro at' sh l g h
    by_cases h0 : at' < 0
    · rw [show decide (at' < (0 : Int)) = true from decide_eq_true h0]
      exact ⟨_, rfl, rfl⟩
    · rw [show decide (at' < (0 : Int)) = false from decide_eq_false h0, show decide (at' ≥ (s.length : Int)) = true from decide_eq_true (by omega)]
      exact ⟨_, rfl, rfl⟩
  have q6 := rfail_eq (Ev.upto N) 140 (i : Int) s i [] out f (by omega)
  rintro _ (⟨n, j, sh, l, g, rfl, hij, hj, hn, hl, hg, hT⟩ | ⟨sh, l, g, rfl, rfl⟩)
  · have cp : (decide ((j : Int) ≥ (0 : Int)) == true) = true := by rw [show decide ((j : Int) ≥ (0 : Int)) = true from decide_eq_true (by omega)]; rfl
    by_cases hjl : j < s.length
    · have c0 : (decide ((j : Int) < (s.length : Int)) == true) = true := by rw [show decide ((j : Int) < (s.length : Int)) = true from decide_eq_true (by omega)]; rfl
      have w1 : IntKind.wrap .i64 ((j : Int) + 1) = ((j + 1 : Nat) : Int) := by rw [wrap64 (by omega) (by omega)]; omega
      obtain ⟨n, rfl⟩ : ∃ m, n = m + 1 := ⟨n - 1, by omega⟩
      rw [tagL, List.getElem?_eq_getElem hjl] at hT
      simp only at hT
      have e62' : (((s[j].toNat : Nat) : Int) == 62) = (s[j] == 62) := byteEq s[j] 62 (by decide)
      have e62 : (((s[j].toNat : Nat) : Int) != 62) = !(s[j] == 62) := by rw [bne, e62']
      have e47 : (((s[j].toNat : Nat) : Int) == 47) = (s[j] == 47) := byteEq s[j] 47 (by decide)
      have qb := rblank_at (Ev.upto N) s[j]
      simp -implicitDefEqProofs only [cp, c0, cond_true, idx_nat hjl, Option.bind_some, e62]
      cases h62 : (s[j] == 62) with
      | true =>
        rw [h62, if_pos rfl] at hT
        subst hT
        simp -implicitDefEqProofs only [Bool.not_true, cond_false]
        refine ⟨_, rfl, ?_⟩
        have c1 : decide ((j : Int) < (0 : Int)) = false := decide_eq_false (by omega)
        have c2 : decide ((j : Int) ≥ (s.length : Int)) = false := decide_eq_false (by omega)
        have qr := rRaw_eq (Ev.upto N) name
        have gg : ∀ t : Tok, fits (out.length + ([t] : List Tok).length) 72 = true := fun t => fitsL (by simp; omega)
        simp -implicitDefEqProofs only [c1, c2, show (false == false) = true from rfl, cond_true, cond_false, Option.bind_some]
        cases h2 : (k == 2) with
        | false =>
          simp -implicitDefEqProofs only [cond_false, Option.bind_some, Bool.false_and, w1, Bool.and_false]
          rw [gg, cond_true]
          exact ⟨_, rfl, rfl⟩
        | true =>
          simp -implicitDefEqProofs only [cond_true, Option.bind_some, Bool.true_and, qr, Bool.and_true]
          cases hrn : rawN name with
          | true =>
            simp -implicitDefEqProofs only [cond_true, Option.bind_some, w1]
            rw [gg, cond_true]
            exact ⟨_, rfl, rfl⟩
          | false =>
            simp -implicitDefEqProofs only [cond_false, Option.bind_some, w1]
            rw [gg, cond_true]
            exact ⟨_, rfl, rfl⟩
      | false =>
        rw [h62, if_neg (by decide)] at hT
        simp -implicitDefEqProofs only [Bool.not_false, cond_true, e47]
        have hcl : wp ((bif ((s[j] == 47) == false) then ((pounceref02_Blank_ (Ev.upto N) ((((s[j]).toNat : Int), ()), ())).bind fun v9 => (some ((k, ((j : Int), ((f.length : Int), (s[j] == 47, (v9.1.1, ()))))), ((s, ((i : Int), (([] : Bs), ()))), ((k, (name, (([] : Bs), (false, ())))), (out, (f ++ g, (l, ())))))))) else (some ((k, ((j : Int), ((f.length : Int), (s[j] == 47, (true, ()))))), ((s, ((i : Int), (([] : Bs), ()))), ((k, (name, (([] : Bs), (false, ())))), (out, (f ++ g, (l, ())))))))) : Option ((Int × Int × Int × Bool × Bool × Unit) × ((Bs × Int × Bs × Unit) × (Int × Bs × Bs × Bool × Unit) × (List Tok) × (List Fl) × (List Att) × Unit))) (fun o => o = ((k, ((j : Int), ((f.length : Int), (s[j] == 47, (s[j] == 47 || blankB s[j], ()))))), ((s, ((i : Int), (([] : Bs), ()))), ((k, (name, (([] : Bs), (false, ())))), (out, (f ++ g, (l, ()))))))) := by
          cases (s[j] == 47) with
          | true => exact ⟨_, rfl, rfl⟩
          | false =>
            simp -implicitDefEqProofs only [beq_self_eq_true, cond_true, qb, Option.bind_some, Bool.false_or]
            exact ⟨_, rfl, rfl⟩
        obtain ⟨_, e, rfl⟩ := hcl
        rw [e]
        cases hsb : (s[j] == 47 || blankB s[j]) with
        | true =>
          rw [hsb, if_pos rfl] at hT
          simp -implicitDefEqProofs only [cond_true, Option.bind_some, w1]
          refine ⟨_, rfl, Or.inl ⟨n, j + 1, s[j] == 47, l, g, rfl, by omega, by omega, by omega, hl, by omega, hT⟩, ?_⟩
          simp only
          split <;> split <;> omega
        | false =>
          rw [hsb, if_neg (by decide)] at hT
          have h47 : (s[j] == 47) = false := (Bool.or_eq_false_iff.1 hsb).1
          obtain ⟨x, q5, hx⟩ := rattr_wp N s j i [] k name [] false out (f ++ g) l hjl hs (by simp; omega) hl (by omega) hN2
          have al := attS_le k l hjl
          have fl := attS_fl s j k l
          simp -implicitDefEqProofs only [cond_false, Option.bind_some, q5]
          cases hok : (attS s j k l).1 with
          | true =>
            rw [hok, if_pos rfl] at hT hx
            subst hx
            simp -implicitDefEqProofs only [Option.bind_some]
            refine ⟨_, rfl, Or.inl ⟨n, (attS s j k l).2.1, s[j] == 47, (attS s j k l).2.2.1, g ++ (attS s j k l).2.2.2, by rw [List.append_assoc], by omega, al.2, by omega, attS_al s j k l hl, by simp; omega, by rw [h47]; exact hT⟩, ?_⟩
            simp only
            split <;> split <;> omega
          | false =>
            rw [hok, if_neg (by decide)] at hT hx
            obtain ⟨g', l', rfl⟩ := hx
            simp -implicitDefEqProofs only [Option.bind_some]
            refine ⟨_, rfl, Or.inr ⟨s[j] == 47, l', g ++ g', by rw [List.append_assoc], hT.symm⟩, ?_⟩
            show (if (-1 : Int) < 0 then 0 else s.length - (-1 : Int).toNat + 1) < (if (j : Int) < 0 then 0 else s.length - (j : Int).toNat + 1)
            rw [if_pos (by decide), if_neg (by omega)]
            omega
    · have c0 : (decide ((j : Int) < (s.length : Int)) == true) = false := by rw [show decide ((j : Int) < (s.length : Int)) = false from decide_eq_false (by omega)]; rfl
      rw [tagL_end s k n j _ _ _ (by omega)] at hT
      subst hT
      have s1 := sl_pre0 f g
      simp -implicitDefEqProofs only [cp, c0, cond_true, cond_false, Option.bind_some]
      refine ⟨_, rfl, ?_⟩
      obtain ⟨_, e, rfl⟩ := cut (j : Int) sh l g (Or.inr (by omega))
      simp only
      rw [e]
      simp -implicitDefEqProofs only [Option.bind_some, cond_true, s1, q6]
      exact ⟨_, rfl, rfl⟩
  · have cp : (decide ((-1 : Int) ≥ (0 : Int)) == true) = false := rfl
    have s1 := sl_pre0 f g
    simp -implicitDefEqProofs only [cp, cond_false, Option.bind_some]
    refine ⟨_, rfl, ?_⟩
    obtain ⟨_, e, rfl⟩ := cut (-1 : Int) sh l g (Or.inl (by decide))
    simp only
    rw [e]
    simp -implicitDefEqProofs only [Option.bind_some, cond_true, s1, q6]
    exact ⟨_, rfl, rfl⟩
theorem begins_eq (N : Nat) (x low : Bs) (hl : lowerB low = low) (hx : x.length ≤ 100000) (hll : low.length ≤ 100000) (hN : x.length < N) : pounceref14_begins_ (Ev.upto N) ((x, (low, ())), ()) = some ((decide (low.length ≤ x.length) && lowerB (x.take low.length) == lowerB low, ()), ()) := by
  unfold pounceref14_begins_
  by_cases h : low.length ≤ x.length
  · have c : decide ((x.length : Int) ≥ (low.length : Int)) = true := decide_eq_true (by omega)
    have s1 : sl x (0 : Int) (low.length : Int) = some (x.take low.length) := by have := sl_nat (l := x) (a := 0) (b := low.length) (by omega) (by omega); simpa using this
    have q2 := rlower_eq N (x.take low.length) (by simp; omega) (by simp; omega)
    simp -implicitDefEqProofs only [c, beq_self_eq_true, cond_true, s1, Option.bind_some, q2, show decide (low.length ≤ x.length) = true from decide_eq_true h, Bool.true_and, hl]
  · have c : decide ((x.length : Int) ≥ (low.length : Int)) = false := decide_eq_false (by omega)
    simp -implicitDefEqProofs only [c, show (false == true) = false from rfl, cond_false, Option.bind_some, show decide (low.length ≤ x.length) = false from decide_eq_false h, Bool.false_and]
theorem begins_at (N : Nat) (s low : Bs) (i : Nat) (hl : lowerB low = low) (hs : s.length ≤ 100000) (hll : low.length ≤ 100000) (hN : s.length < N) : pounceref14_begins_ (Ev.upto N) ((s.drop i, (low, ())), ()) = some ((isB s i low, ()), ()) := by
  have := begins_eq N (s.drop i) low hl (by simp; omega) hll (by simp; omega)
  rw [List.length_drop] at this
  exact this
theorem lowerB_cons (c : UInt8) (x : Bs) : lowerB (c :: x) = low1 c :: lowerB x := by simp [lowerB_map]
theorem low_end (n : Bs) (hn : lowerB n = n) : lowerB ([60, 47] ++ n) = [60, 47] ++ n := by
  show lowerB (60 :: 47 :: n) = _
  rw [lowerB_cons, lowerB_cons, hn]
  rfl
theorem rend_eq (N : Nat) (s n : Bs) (a i : Nat) (r : Bs) (out : List Tok) (f : List Fl) (hn : lowerB n = n) (hnl : n.length ≤ 15000) (ha : a ≤ s.length) (hs : s.length ≤ 15000) (hN : s.length + 1 < N) :
    pounceref14_Reader_end_07b (Ev.upto N) (((a : Int), (n, ())), rcur s i r out f) = some ((((endP s n a : Nat) : Int), ()), rcur s i r out f) := by
  have f0 : strFits (([60, 47] : Bs).length + n.length) = true := strFitsL (by simp; omega)
  apply wp_eq
  unfold pounceref14_Reader_end_07b
  refine wp_bind ?_
  refine wp_it (fun x => ∃ j : Nat, x = ((n, ((j : Int), ())), rcur s i r out f) ∧ a ≤ j ∧ j ≤ s.length ∧ ∀ e, a ≤ e → e < j → rawE s n e = false) (fun x => s.length - x.1.2.1.toNat) ⟨a, rfl, Nat.le_refl _, ha, fun e h1 h2 => absurd h1 (by omega)⟩ (by simp; omega) ?_
  rintro _ ⟨j, rfl, hij, hj, hno⟩
  by_cases hjl : j < s.length
  · have c0 : decide ((j : Int) < (s.length : Int)) = true := decide_eq_true (by omega)
    have s1 : sl s ((j : Nat) : Int) (s.length : Int) = some (s.drop j) := sl_end hj
    have q1 := begins_at N s ([60, 47] ++ n) j (low_end n hn) (by omega) (by simp; omega) (by omega)
    have w1 : IntKind.wrap .i64 ((j : Int) + 1) = ((j + 1 : Nat) : Int) := by rw [wrap64 (by omega) (by omega)]; omega
    have w2 : IntKind.wrap .i64 ((j : Int) + 2) = ((j + 2 : Nat) : Int) := by rw [wrap64 (by omega) (by omega)]; omega
    have w3 : IntKind.wrap .i64 (((j + 2 : Nat) : Int) + (n.length : Int)) = ((j + 2 + n.length : Nat) : Int) := by rw [wrap64 (by omega) (by omega)]; omega
    have nxt : rawE s n j = false → ∀ e, a ≤ e → e < j + 1 → rawE s n e = false := fun hr e h1 h2 => by
      by_cases he : e = j
      · rw [he]; exact hr
      · exact hno e h1 (by omega)
    simp -implicitDefEqProofs only [c0, cond_true, s1, Option.bind_some, f0, q1, w2, w3]
    cases hb : isB s j ([60, 47] ++ n) with
    | false =>
      have hr : rawE s n j = false := by unfold rawE; rw [hb]; rfl
      simp -implicitDefEqProofs only [Bool.not_false, show (true == false) = false from rfl, cond_false, Option.bind_some, cond_true, w1]
      exact ⟨_, rfl, ⟨j + 1, rfl, by omega, by omega, nxt hr⟩, by simp; omega⟩
    | true =>
      by_cases hk : j + 2 + n.length < s.length
      · have c2 : decide (((j + 2 + n.length : Nat) : Int) ≥ (s.length : Int)) = false := decide_eq_false (by omega)
        have g : s[j + 2 + n.length]? = some s[j + 2 + n.length] := List.getElem?_eq_getElem hk
        have q2 := rblank_at (Ev.upto N) s[j + 2 + n.length]
        have n62 : (((s[j + 2 + n.length].toNat : Nat) : Int) == 62) = (s[j + 2 + n.length] == 62) := byteEq _ 62 (by decide)
        have n47 : (((s[j + 2 + n.length].toNat : Nat) : Int) == 47) = (s[j + 2 + n.length] == 47) := byteEq _ 47 (by decide)
        have hE : rawE s n j = (blankB s[j + 2 + n.length] || (s[j + 2 + n.length] == 47 || s[j + 2 + n.length] == 62)) := by unfold rawE; rw [hb, g]; rfl
        have hinner : wp ((bif ((((s[j + 2 + n.length]).toNat : Int) == (47 : Int)) == false) then (bif ((((s[j + 2 + n.length]).toNat : Int) == (62 : Int)) == false) then ((pounceref02_Blank_ (Ev.upto N) ((((s[j + 2 + n.length]).toNat : Int), ()), ())).bind fun v6 => (some ((n, ((j : Int), (v6.1.1, ()))), rcur s i r out f))) else (some ((n, ((j : Int), (true, ()))), rcur s i r out f))) else (some ((n, ((j : Int), (true, ()))), rcur s i r out f)) : Option ((Bs × Int × Bool × Unit) × ((Bs × Int × Bs × Unit) × (List Tok) × (List Fl) × Unit)))) (fun o => o = ((n, ((j : Int), (rawE s n j, ()))), rcur s i r out f)) := by
          rw [hE, n47, n62]
          unfold blankB
          cases (s[j + 2 + n.length] == 47) with
          | true =>
            cases blanks.contains s[j + 2 + n.length] <;> exact ⟨_, rfl, rfl⟩
          | false =>
            cases (s[j + 2 + n.length] == 62) with
            | true => cases blanks.contains s[j + 2 + n.length] <;> exact ⟨_, rfl, rfl⟩
            | false =>
              simp -implicitDefEqProofs only [beq_self_eq_true, cond_true, q2, Option.bind_some, Bool.or_false]
              exact ⟨_, rfl, rfl⟩
        obtain ⟨_, e, rfl⟩ := hinner
        simp -implicitDefEqProofs only [Bool.not_true, beq_self_eq_true, cond_true, c2, cond_false, Option.bind_some, idx_nat hk]
        rw [e]
        cases hr : rawE s n j with
        | true =>
          simp -implicitDefEqProofs only [Option.bind_some, cond_true]
          exact ⟨_, rfl, _, rfl, by rw [endP_at hij hj hno (fun _ => hr)]⟩
        | false =>
          simp -implicitDefEqProofs only [Option.bind_some, cond_false, w1]
          exact ⟨_, rfl, ⟨j + 1, rfl, by omega, by omega, nxt hr⟩, by simp; omega⟩
      · have c2 : decide (((j + 2 + n.length : Nat) : Int) ≥ (s.length : Int)) = true := decide_eq_true (by omega)
        have hr : rawE s n j = false := by unfold rawE; rw [hb, List.getElem?_eq_none (by omega)]; rfl
        simp -implicitDefEqProofs only [Bool.not_true, beq_self_eq_true, cond_true, c2, Option.bind_some, w1]
        exact ⟨_, rfl, ⟨j + 1, rfl, by omega, by omega, nxt hr⟩, by simp; omega⟩
  · have c0 : decide ((j : Int) < (s.length : Int)) = false := decide_eq_false (by omega)
    simp -implicitDefEqProofs only [c0, cond_false]
    refine ⟨_, rfl, _, rfl, ?_⟩
    rw [endP_at hij hj hno (fun h => absurd h hjl)]
    have : j = s.length := by omega
    rw [this]
theorem raw_plain {n : Bs} (h : rawN n = true) : (n == ([116, 101, 120, 116, 97, 114, 101, 97] : Bs) || n == ([116, 105, 116, 108, 101] : Bs)) = !plainN n := by
  unfold rawN at h
  unfold plainN
  cases h1 : (n == ([115, 99, 114, 105, 112, 116] : Bs)) with
  | true =>
    have : n = [115, 99, 114, 105, 112, 116] := beq_iff_eq.1 h1
    subst this
    rfl
  | false =>
    cases h2 : (n == ([115, 116, 121, 108, 101] : Bs)) with
    | true =>
      have : n = [115, 116, 121, 108, 101] := beq_iff_eq.1 h2
      subst this
      rfl
    | false =>
      rw [h1, h2] at h
      simpa using h
theorem rraw_eq (N : Nat) (s n : Bs) (i : Nat) (out : List Tok) (f : List Fl) (hr : rawN n = true) (hn : lowerB n = n) (hnl : n.length ≤ 15000) (hi : i ≤ s.length) (hs : s.length ≤ 15000) (ho : okD out) (hf : f.length ≤ 800000000) (hN : s.length + 1 < N) (hN2 : 1000 < N) :
    pounceref14_Reader_raw_61a (Ev.upto N) ((), rcur s i n out f) = some ((), rcur s (rawS s n i out f).1 [] (rawS s n i out f).2.1 (rawS s n i out f).2.2) := by
  have he := endP_le s n i hi
  have q1 := rend_eq N s n i i [] out f hn hnl hi hs hN
  have s1 : sl s ((i : Nat) : Int) ((endP s n i : Nat) : Int) = some (rawX s n i) := sl_nat he.1 he.2
  have hxl : (rawX s n i).length ≤ s.length := by unfold rawX; simp; omega
  have q2 := rdecode_eq N s i (endP s n i) i [] out f he.1 he.2 hs (by omega) (by omega) (by omega)
  rw [show (s.take (endP s n i)).drop i = rawX s n i from rfl] at q2
  have d1 := dec_fst_len (rawX s n i) 0
  have d2 := dec_snd_len (rawX s n i) (i : Nat)
  have hrp := raw_plain hr
  unfold pounceref14_Reader_raw_61a rawS
  simp -implicitDefEqProofs only [Option.bind_some, q1, s1]
  have hc : wp ((bif ((n == ([116, 101, 120, 116, 97, 114, 101, 97] : Bs)) == false) then (some ((((endP s n i : Nat) : Int), (rawX s n i, ((n == ([116, 105, 116, 108, 101] : Bs)), ()))), rcur s i [] out f)) else (some ((((endP s n i : Nat) : Int), (rawX s n i, (true, ()))), rcur s i [] out f)) : Option ((Int × Bs × Bool × Unit) × ((Bs × Int × Bs × Unit) × (List Tok) × (List Fl) × Unit)))) (fun o => o = ((((endP s n i : Nat) : Int), (rawX s n i, (!plainN n, ()))), rcur s i [] out f)) := by
    rw [← hrp]
    cases (n == ([116, 101, 120, 116, 97, 114, 101, 97] : Bs)) <;> exact ⟨_, rfl, rfl⟩
  obtain ⟨_, e, rfl⟩ := hc
  rw [e]
  have tail : ∀ (d : Bs) (f' : List Fl), d.length ≤ 1000000000 → f'.length ≤ 900000000 →
      ((pounceref14_Reader_text_f0a (Ev.upto N) ((d, ()), rcur s i [] out f')).bind fun v7 => ((bif ((((endP s n i : Nat) : Int)) == ((v7.2.1.1).length : Int)) then ((pounceref14_Reader_fail_d75 (Ev.upto N) (((140 : Int), (v7.2.1.2.1, ())), ((v7.2.1.1, (v7.2.1.2.1, (v7.2.1.2.2.1, ()))), (v7.2.2.1, (v7.2.2.2.1, ()))))).bind fun v8 => (some ((((endP s n i : Nat) : Int), ()), ((v8.2.1.1, (v8.2.1.2.1, (v8.2.1.2.2.1, ()))), (v8.2.2.1, (v8.2.2.2.1, ())))))) else (some ((((endP s n i : Nat) : Int), ()), ((v7.2.1.1, (v7.2.1.2.1, (v7.2.1.2.2.1, ()))), (v7.2.2.1, (v7.2.2.2.1, ()))))) : Option ((Int × Unit) × ((Bs × Int × Bs × Unit) × (List Tok) × (List Fl) × Unit))).bind fun o9 => (some ((), ((o9.2.1.1, (o9.1.1, (o9.2.1.2.2.1, ()))), (o9.2.2.1, (o9.2.2.2.1, ())))) : Option (Unit × ((Bs × Int × Bs × Unit) × (List Tok) × (List Fl) × Unit)))))
        = some ((), rcur s (endP s n i) [] (tellS out (tx d)) (f' ++ (if endP s n i = s.length then [(140, (i : Int))] else []))) := by
    intro d f' hd hf'
    have q3 := rtextR_eq (Ev.upto N) d s i [] out f' ho (by omega)
    have q4 := rfail_eq (Ev.upto N) 140 (i : Int) s i [] (tellS out (tx d)) f' (by omega)
    simp -implicitDefEqProofs only [q3, Option.bind_some]
    by_cases h : endP s n i = s.length
    · have c1 : (((endP s n i : Nat) : Int) == (s.length : Int)) = true := by rw [h]; exact beq_self_eq_true _
      rw [if_pos h]
      simp -implicitDefEqProofs only [c1, cond_true, q4, Option.bind_some]
    · have c1 : (((endP s n i : Nat) : Int) == (s.length : Int)) = false := by simp; omega
      rw [if_neg h, List.append_nil]
      simp -implicitDefEqProofs only [c1, cond_false, Option.bind_some]
  cases hp : plainN n with
  | true =>
    have t1 := tail (rawX s n i) f (by omega) (by omega)
    simp -implicitDefEqProofs only [Option.bind_some, Bool.not_true, cond_false, cond_true]
    rw [List.append_nil]
    exact t1
  | false =>
    have t1 := tail (dec (rawX s n i) 0).1 (f ++ (dec (rawX s n i) (i : Nat)).2) (by omega) (by simp; omega)
    simp -implicitDefEqProofs only [Option.bind_some, Bool.not_false, cond_true, cond_false, q2]
    exact t1
theorem rcomment_eq (N : Nat) (s : Bs) (k : Int) (b : Nat) (e : Bs) (i : Nat) (out : List Tok) (f : List Fl) (hi : i + b ≤ s.length) (hs : s.length ≤ 15000) (hb : b ≤ 100) (he : 0 < e.length) (he2 : e.length ≤ 1000) (ho2 : out.length ≤ 900000000) (hf : f.length ≤ 400000000) (hN : s.length + 1 < N) :
    pounceref14_Reader_comment_a10 (Ev.upto N) ((k, (((i + b : Nat) : Int), (e, ()))), rcur s i [] out f) = some ((), rcur s (noteS s k b e i out f).1 [] (noteS s k b e i out f).2.1 (noteS s k b e i out f).2.2) := by
  have q1 := rfind_eq N e s (i + b) i [] out f hi (by omega) he he2 (by omega)
  have gg : ∀ t : Tok, fits (out.length + ([t] : List Tok).length) 72 = true := fun t => fitsL (by simp; omega)
  have tail : ∀ (x : Bs) (j : Nat) (f' : List Fl), x.length ≤ s.length →
      ((bif (k == (5 : Int)) then ((pounceref02_Trim_ (Ev.upto N) ((x, ()), ())).bind fun v6 => (some ((k, (((j : Nat) : Int), (v6.1.1, ()))), rcur s i [] out f'))) else (some ((k, (((j : Nat) : Int), (x, ()))), rcur s i [] out f')) : Option ((Int × Int × Bs × Unit) × ((Bs × Int × Bs × Unit) × (List Tok) × (List Fl) × Unit))).bind fun o7 => (bif fits ((o7.2.2.1).length + (([(o7.1.1, (([] : Bs), (o7.1.2.2.1, (([] : List Att), false))))] : List Tok)).length) 72 then (some ((), ((o7.2.1.1, (o7.1.2.1, (o7.2.1.2.2.1, ()))), ((o7.2.2.1 ++ ([(o7.1.1, (([] : Bs), (o7.1.2.2.1, (([] : List Att), false))))] : List Tok)), (o7.2.2.2.1, ()))))) else none : Option (Unit × ((Bs × Int × Bs × Unit) × (List Tok) × (List Fl) × Unit))))
        = some ((), rcur s j [] (out ++ [(k, ([], ((bif k == 5 then trimB x else x), ([], false))))]) f') := by
    intro x j f' hx
    have qt := rtrim_eq N x (by omega) (by omega)
    cases (k == 5) with
    | true =>
      simp -implicitDefEqProofs only [cond_true, qt, Option.bind_some]
      rw [gg, cond_true]
    | false =>
      simp -implicitDefEqProofs only [cond_false, Option.bind_some]
      rw [gg, cond_true]
  unfold pounceref14_Reader_comment_a10 noteS
  simp -implicitDefEqProofs only [Option.bind_some, q1]
  cases hf1 : findB (s.drop (i + b)) e with
  | some m =>
    have hm := (findB_some _ _ _ hf1).1
    rw [List.length_drop] at hm
    have c1 : decide (((i + b + m : Nat) : Int) < 0) = false := decide_eq_false (by omega)
    have w : IntKind.wrap .i64 (((i + b + m : Nat) : Int) + (e.length : Int)) = ((i + b + m + e.length : Nat) : Int) := by rw [wrap64 (by omega) (by omega)]; omega
    have s1 : sl s ((i + b : Nat) : Int) ((i + b + m : Nat) : Int) = some ((s.drop (i + b)).take m) := by
      have := sl_nat (l := s) (a := i + b) (b := i + b + m) (by omega) (by omega)
      rw [this, List.drop_take, Nat.add_sub_cancel_left]
    have t1 := tail ((s.drop (i + b)).take m) (i + b + m + e.length) f (by simp; omega)
    simp -implicitDefEqProofs only [c1, cond_false, w, Option.bind_some, s1]
    exact t1
  | none =>
    have c1 : decide ((-1 : Int) < 0) = true := rfl
    have q3 := rfail_eq (Ev.upto N) 140 (i : Int) s i [] out f (by omega)
    have s1 : sl s ((i + b : Nat) : Int) ((s.length : Nat) : Int) = some (s.drop (i + b)) := sl_end hi
    have t1 := tail (s.drop (i + b)) s.length (f ++ [(140, (i : Int))]) (by simp)
    simp -implicitDefEqProofs only [c1, cond_true, q3, Option.bind_some, s1]
    exact t1
def rsignS (s : Bs) (i : Nat) (out : List Tok) (f : List Fl) : RSt :=
  if letterB (chr s (i + 1)) = true then rtagS s 2 i (i + 1) out f
  else if (chr s (i + 1) == 47 && letterB (chr s (i + 2))) = true then rtagS s 3 i (i + 2) out f
  else ((signS s i out f).1, [], (signS s i out f).2.1, (signS s i out f).2.2)
theorem rsign_eq (N : Nat) (s : Bs) (i : Nat) (out : List Tok) (f : List Fl) (hi : i < s.length) (hs : s.length ≤ 15000) (ho : okD out) (ho2 : out.length ≤ 900000000) (hf : f.length ≤ 300000000) (hN : s.length + 1 < N) (hN2 : 1000 < N) :
    pounceref14_Reader_sign_61a (Ev.upto N) ((), rcur s i [] out f) = some ((), rcur s (rsignS s i out f).1 (rsignS s i out f).2.1 (rsignS s i out f).2.2.1 (rsignS s i out f).2.2.2) := by
  have s0 : sl s ((i : Nat) : Int) (s.length : Int) = some (s.drop i) := sl_end (by omega)
  have w1 : IntKind.wrap .i64 ((i : Int) + 1) = ((i + 1 : Nat) : Int) := by rw [wrap64 (by omega) (by omega)]; omega
  have w2 : IntKind.wrap .i64 ((i : Int) + 2) = ((i + 2 : Nat) : Int) := by rw [wrap64 (by omega) (by omega)]; omega
  have w4 : IntKind.wrap .i64 ((i : Int) + 4) = ((i + 4 : Nat) : Int) := by rw [wrap64 (by omega) (by omega)]; omega
  have w9 : IntKind.wrap .i64 ((i : Int) + 9) = ((i + 9 : Nat) : Int) := by rw [wrap64 (by omega) (by omega)]; omega
  have q3 := begins_at N s [60, 33, 45, 45] i (by kernel_rfl) (by omega) (by decide) (by omega)
  have q4 := begins_at N s [60, 33, 100, 111, 99, 116, 121, 112, 101] i (by kernel_rfl) (by omega) (by decide) (by omega)
  have e47 : (((chr s (i + 1)).toNat : Int) == 47) = (chr s (i + 1) == 47) := byteEq _ 47 (by decide)
  have e33 : (((chr s (i + 1)).toNat : Int) == 33) = (chr s (i + 1) == 33) := byteEq _ 33 (by decide)
  have e63 : (((chr s (i + 1)).toNat : Int) == 63) = (chr s (i + 1) == 63) := byteEq _ 63 (by decide)
  have l1 := rletter_at (Ev.upto N) (chr s (i + 1))
  have l2 := rletter_at (Ev.upto N) (chr s (i + 2))
  have i1 : i + 1 < s.length → idx (s.drop i) (1 : Int) = some (chr s (i + 1)) := fun h => by
    have : (s.drop i)[1]? = some (chr s (i + 1)) := by rw [List.getElem?_drop, chr_eq h, List.getElem?_eq_getElem h]
    exact idx_some (n := 1) this
  have i2 : i + 2 < s.length → idx (s.drop i) (2 : Int) = some (chr s (i + 2)) := fun h => by
    have : (s.drop i)[2]? = some (chr s (i + 2)) := by rw [List.getElem?_drop, chr_eq h, List.getElem?_eq_getElem h]
    exact idx_some (n := 2) this
  have n1 : ¬ i + 1 < s.length → chr s (i + 1) = 32 := fun h => by unfold chr; rw [List.getElem?_eq_none (by omega)]; rfl
  have n2 : ¬ i + 2 < s.length → chr s (i + 2) = 32 := fun h => by unfold chr; rw [List.getElem?_eq_none (by omega)]; rfl
  unfold pounceref14_Reader_sign_61a rsignS
  simp -implicitDefEqProofs only [s0, Option.bind_some]
  have h1 : wp ((bif (decide (((s.drop i).length : Int) ≥ (2 : Int)) == true) then ((idx (s.drop i) (1 : Int)).bind fun v2 => ((pounceref14_letter_ (Ev.upto N) ((((v2).toNat : Int), ()), ())).bind fun v3 => (some ((s.drop i, (v3.1.1, ())), rcur s i [] out f)))) else (some ((s.drop i, (false, ())), rcur s i [] out f)) : Option ((Bs × Bool × Unit) × ((Bs × Int × Bs × Unit) × (List Tok) × (List Fl) × Unit)))) (fun o => o = ((s.drop i, (letterB (chr s (i + 1)), ())), rcur s i [] out f)) := by
    by_cases h : i + 1 < s.length
    · rw [show decide (((s.drop i).length : Int) ≥ (2 : Int)) = true from decide_eq_true (by simp; omega), i1 h]
      simp -implicitDefEqProofs only [beq_self_eq_true, cond_true, Option.bind_some, l1]
      exact ⟨_, rfl, rfl⟩
    · rw [show decide (((s.drop i).length : Int) ≥ (2 : Int)) = false from decide_eq_false (by simp; omega), n1 h]
      exact ⟨_, rfl, rfl⟩
  obtain ⟨_, e, rfl⟩ := h1
  rw [e]
  cases hl1 : letterB (chr s (i + 1)) with
  | true =>
    have q5 := rtag_eq N s 2 i (i + 1) out f (Or.inl rfl) (by omega) (by omega) hs ho2 (by omega) hN hN2
    rw [if_pos rfl]
    simp -implicitDefEqProofs only [Option.bind_some, cond_true, w1, q5]
  | false =>
    rw [if_neg (by decide)]
    simp -implicitDefEqProofs only [Option.bind_some, cond_false]
    have h2 : wp ((bif (decide (((s.drop i).length : Int) ≥ (3 : Int)) == true) then ((idx (s.drop i) (1 : Int)).bind fun v6 => (bif ((((v6).toNat : Int) == (47 : Int)) == true) then ((idx (s.drop i) (2 : Int)).bind fun v7 => ((pounceref14_letter_ (Ev.upto N) ((((v7).toNat : Int), ()), ())).bind fun v8 => (some ((s.drop i, (v8.1.1, ())), rcur s i [] out f)))) else (some ((s.drop i, (false, ())), rcur s i [] out f)))) else (some ((s.drop i, (false, ())), rcur s i [] out f)) : Option ((Bs × Bool × Unit) × ((Bs × Int × Bs × Unit) × (List Tok) × (List Fl) × Unit)))) (fun o => o = ((s.drop i, (chr s (i + 1) == 47 && letterB (chr s (i + 2)), ())), rcur s i [] out f)) := by
      by_cases h : i + 2 < s.length
      · rw [show decide (((s.drop i).length : Int) ≥ (3 : Int)) = true from decide_eq_true (by simp; omega), i1 (by omega), i2 h]
        simp -implicitDefEqProofs only [beq_self_eq_true, cond_true, Option.bind_some, l2, e47]
        cases (chr s (i + 1) == 47) with
        | true => exact ⟨_, rfl, rfl⟩
        | false => exact ⟨_, rfl, rfl⟩
      · rw [show decide (((s.drop i).length : Int) ≥ (3 : Int)) = false from decide_eq_false (by simp; omega), n2 h, show letterB 32 = false from by kernel_rfl, Bool.and_false]
        exact ⟨_, rfl, rfl⟩
    obtain ⟨_, e, rfl⟩ := h2
    rw [e]
    cases hl2 : (chr s (i + 1) == 47 && letterB (chr s (i + 2))) with
    | true =>
      have hlt := letter_lt (Bool.and_eq_true _ _ ▸ hl2 : _ ∧ _).2
      have q5 := rtag_eq N s 3 i (i + 2) out f (Or.inr rfl) (by omega) (by omega) hs ho2 (by omega) hN hN2
      rw [if_pos rfl]
      simp -implicitDefEqProofs only [Option.bind_some, cond_true, w2, q5]
    | false =>
      rw [if_neg (by decide)]
      have hsg : signS s i out f = if isB s i [60, 33, 45, 45] = true then noteS s 4 4 [45, 45, 62] i out f
          else if isB s i [60, 33, 100, 111, 99, 116, 121, 112, 101] = true then noteS s 5 9 [62] i out f
          else if (chr s (i + 1) == 33 || (chr s (i + 1) == 63 || chr s (i + 1) == 47)) = true then noteS s 4 2 [62] i out (f ++ [(141, (i : Int))])
          else (i + 1, tellS out (tx [60]), f ++ [(141, (i : Int))]) := by
        unfold signS
        rw [hl1, hl2, if_neg (by decide), if_neg (by decide)]
      rw [hsg]
      simp -implicitDefEqProofs only [Option.bind_some, cond_false, q3]
      cases h4 : isB s i [60, 33, 45, 45] with
      | true =>
        have hlt := isB_lt h4 (by omega)
        have q5 := rcomment_eq N s 4 4 [45, 45, 62] i out f (by simpa using hlt) hs (by decide) (by decide) (by decide) ho2 (by omega) hN
        rw [if_pos rfl]
        simp -implicitDefEqProofs only [cond_true, w4, q5, Option.bind_some]
      | false =>
        rw [if_neg (by decide)]
        simp -implicitDefEqProofs only [cond_false, Option.bind_some, q4]
        cases h5 : isB s i [60, 33, 100, 111, 99, 116, 121, 112, 101] with
        | true =>
          have hlt := isB_lt h5 (by omega)
          have q5 := rcomment_eq N s 5 9 [62] i out f (by simpa using hlt) hs (by decide) (by decide) (by decide) ho2 (by omega) hN
          rw [if_pos rfl]
          simp -implicitDefEqProofs only [cond_true, w9, q5, Option.bind_some]
        | false =>
          rw [if_neg (by decide)]
          simp -implicitDefEqProofs only [cond_false, Option.bind_some]
          have h6 : wp ((bif (decide (((s.drop i).length : Int) ≥ (2 : Int)) == true) then ((idx (s.drop i) (1 : Int)).bind fun v15 => (bif ((((v15).toNat : Int) == (33 : Int)) == false) then ((idx (s.drop i) (1 : Int)).bind fun v16 => (bif ((((v16).toNat : Int) == (63 : Int)) == false) then ((idx (s.drop i) (1 : Int)).bind fun v17 => (some (((((v17).toNat : Int) == (47 : Int)), ()), rcur s i [] out f))) else (some ((true, ()), rcur s i [] out f)))) else (some ((true, ()), rcur s i [] out f)))) else (some ((false, ()), rcur s i [] out f)) : Option ((Bool × Unit) × ((Bs × Int × Bs × Unit) × (List Tok) × (List Fl) × Unit)))) (fun o => o = (((chr s (i + 1) == 33 || (chr s (i + 1) == 63 || chr s (i + 1) == 47)), ()), rcur s i [] out f)) := by
            by_cases h : i + 1 < s.length
            · rw [show decide (((s.drop i).length : Int) ≥ (2 : Int)) = true from decide_eq_true (by simp; omega), i1 h]
              simp -implicitDefEqProofs only [beq_self_eq_true, cond_true, Option.bind_some, e33, e63, e47]
              cases (chr s (i + 1) == 33) <;> cases (chr s (i + 1) == 63) <;> exact ⟨_, rfl, rfl⟩
            · rw [show decide (((s.drop i).length : Int) ≥ (2 : Int)) = false from decide_eq_false (by simp; omega), n1 h]
              exact ⟨_, rfl, rfl⟩
          obtain ⟨_, e, rfl⟩ := h6
          rw [e]
          have q6 := rfail_eq (Ev.upto N) 141 (i : Int) s i [] out f (by omega)
          cases h7 : (chr s (i + 1) == 33 || (chr s (i + 1) == 63 || chr s (i + 1) == 47)) with
          | true =>
            have hlt : i + 1 < s.length := by
              rcases Bool.or_eq_true _ _ ▸ h7 with h | h
              · exact chr_lt (beq_iff_eq.1 h) (by decide)
              · rcases Bool.or_eq_true _ _ ▸ h with h | h
                · exact chr_lt (beq_iff_eq.1 h) (by decide)
                · exact chr_lt (beq_iff_eq.1 h) (by decide)
            have q5 := rcomment_eq N s 4 2 [62] i out (f ++ [(141, (i : Int))]) (by omega) hs (by decide) (by decide) (by decide) ho2 (by simp; omega) hN
            rw [if_pos rfl]
            simp -implicitDefEqProofs only [cond_true, Option.bind_some, q6, w2, q5]
          | false =>
            have q5 := rtextR_eq (Ev.upto N) [60] s i [] out (f ++ [(141, (i : Int))]) ho (by decide)
            rw [if_neg (by decide)]
            simp -implicitDefEqProofs only [cond_false, Option.bind_some, q6, q5, w1]
/-! ### A reference's state, and the program's -/
def flat (s : Bs) (x : RSt) : St := if x.2.1 = [] then (x.1, x.2.2.1, x.2.2.2) else rawS s x.2.1 x.1 x.2.2.1 x.2.2.2
theorem tag_flat (s : Bs) (k : Int) (fr i : Nat) (out : List Tok) (f : List Fl) : flat s (rtagS s k fr i out f) = tagS s k fr i out f := by
  unfold rtagS tagS flat
  cases tagL s k s.length (tagI s i) false [] [] with
  | none => rfl
  | some r =>
    obtain ⟨j, sh, l, g⟩ := r
    dsimp only
    cases hc : (k == 2 && rawN (tagN s i)) with
    | true =>
      have hr : rawN (tagN s i) = true := (Bool.and_eq_true _ _ ▸ hc : _ ∧ _).2
      have hne : ¬ tagN s i = [] := fun h => by rw [h] at hr; exact absurd hr (by decide)
      rw [if_pos rfl, if_pos rfl, if_neg hne]
    | false => rfl
theorem sign_flat (s : Bs) (i : Nat) (out : List Tok) (f : List Fl) : flat s (rsignS s i out f) = signS s i out f := by
  unfold rsignS
  by_cases h1 : letterB (chr s (i + 1)) = true
  · rw [if_pos h1, tag_flat]
    unfold signS
    rw [if_pos h1]
  · rw [if_neg h1]
    by_cases h2 : (chr s (i + 1) == 47 && letterB (chr s (i + 2))) = true
    · rw [if_pos h2, tag_flat]
      unfold signS
      rw [if_neg h1, if_pos h2]
    · rw [if_neg h2]
      rfl
def rgood (s : Bs) (x : RSt) : Prop := x.1 ≤ s.length ∧ okD x.2.2.1 ∧ x.2.2.2.length ≤ 300000000 ∧ (x.2.1 = [] ∨ (rawN x.2.1 = true ∧ lowerB x.2.1 = x.2.1 ∧ x.2.1.length ≤ 15000))
theorem rtag_good {s : Bs} {k : Int} {i i1 : Nat} {out : List Tok} {f : List Fl} (hs : s.length ≤ 7000) (hi : i < i1) (hi1 : i1 ≤ s.length) (h : Inv s (i, out, f)) : rgood s (rtagS s k i i1 out f) ∧ i < (rtagS s k i i1 out f).1 := by
  obtain ⟨h0, h1, h2, h3⟩ := h
  simp only at h0 h1 h2 h3
  unfold rtagS
  cases hT : tagL s k s.length (tagI s i1) false [] [] with
  | none =>
    refine ⟨⟨Nat.le_refl _, ⟨by show out.length ≤ _; omega, fun u hu => by have := h2 u hu; omega⟩, by show (f ++ _).length ≤ _; simp; omega, Or.inl rfl⟩, by show i < s.length; omega⟩
  | some r =>
    obtain ⟨j, sh, l, g⟩ := r
    obtain ⟨a1, a2, a3⟩ := tagL_le s k _ _ _ _ _ _ hT
    simp only at a1 a2 a3
    have a4 : i1 ≤ tagI s i1 := by unfold tagI; omega
    have a5 : (j - tagI s i1) * (s.length + 1) ≤ 7000 * 7001 := Nat.mul_le_mul (by omega) (by omega)
    simp only [List.length_nil, Nat.zero_add] at a3
    dsimp only
    refine ⟨⟨by show j + 1 ≤ s.length; omega, ⟨by show (out ++ _).length ≤ _; simp; omega, ?_⟩, by show (f ++ g).length ≤ _; simp; omega, ?_⟩, by show i < j + 1; omega⟩
    · intro u hu
      rcases List.mem_append.1 hu with hu | hu
      · have := h2 u hu; omega
      · rw [List.mem_singleton.1 hu]; simp
    · show (if _ then _ else _) = [] ∨ _
      cases hc : (k == 2 && rawN (tagN s i1)) with
      | true =>
        right
        rw [if_pos rfl]
        refine ⟨(Bool.and_eq_true _ _ ▸ hc : _ ∧ _).2, lowerB_low _, ?_⟩
        unfold tagN
        rw [lowerB_length]
        simp; omega
      | false => left; rfl
theorem rsign_good {s : Bs} {i : Nat} {out : List Tok} {f : List Fl} (hs : s.length ≤ 7000) (hi : i < s.length) (hc : (chr s i == 60) = true) (h : Inv s (i, out, f)) : rgood s (rsignS s i out f) ∧ i < (rsignS s i out f).1 := by
  have hst := step_inv (st := (i, out, f)) (by omega) hi h
  have hS : stepS s (i, out, f) = signS s i out f := by unfold stepS; rw [if_pos hc]
  rw [hS] at hst
  unfold rsignS
  split
  · rename_i hl
    exact rtag_good hs (by omega) (by have := letter_lt hl; omega) h
  · split
    · rename_i hl
      exact rtag_good hs (by omega) (by have := letter_lt (Bool.and_eq_true _ _ ▸ hl : _ ∧ _).2; omega) h
    · exact ⟨⟨hst.1.le, hst.1.okD (by omega), by have := hst.1.fl; have := hst.1.le; show (signS s i out f).2.2.length ≤ _; omega, Or.inl rfl⟩, hst.2⟩
theorem Read_wp (N : Nat) (s : Bs) (hs : s.length ≤ 7000) (hN : 30000 < N) : wp (pounceref14_Read_567 (Ev.upto N) ((s, ()), ())) (fun x => ∃ i r, x = ((), rcur s i r (runT s).2.1 (runT s).2.2)) := by
  unfold pounceref14_Read_567
  generalize hR : runT s = R
  refine wp_bind ?_
  refine wp_it (fun a => ∃ (n : Nat) (x : RSt), a = ((s, ()), rcur s x.1 x.2.1 x.2.2.1 x.2.2.2) ∧ rgood s x ∧ Inv s (flat s x) ∧ x.1 ≤ (flat s x).1 ∧ s.length - (flat s x).1 ≤ n ∧ runS s n (flat s x) = R) (fun a => 2 * (s.length - a.2.1.2.1.toNat) + (if a.2.1.2.2.1 = [] then 0 else 1)) ⟨s.length, (0, [], [], []), rfl, ⟨Nat.zero_le _, ⟨by simp, by simp⟩, by simp, Or.inl rfl⟩, inv0 s, Nat.le_refl _, by show s.length - 0 ≤ _; omega, hR⟩ (by show 2 * (s.length - 0) + 0 < N; omega) ?_
  rintro _ ⟨n, ⟨i, r, out, f⟩, rfl, ⟨g1, g2, g3, g4⟩, hI, hle, hn, hT⟩
  simp only at g1 g2 g3 g4 hle
  have fend : ∀ y : St, s.length ≤ y.1 → runS s n y = y := fun y hy => by
    cases n with
    | zero => rfl
    | succ n => rw [runS, if_neg (by omega)]
  by_cases hi : i < s.length
  · have c0 : decide ((i : Int) < (s.length : Int)) = true := decide_eq_true (by omega)
    simp -implicitDefEqProofs only [c0, cond_true]
    cases hr : (r == ([] : Bs)) with
    | false =>
      have hrne : ¬ r = [] := by simpa using hr
      have hfl : flat s (i, r, out, f) = rawS s r i out f := by unfold flat; rw [if_neg hrne]
      rcases g4 with h | ⟨ga, gb, gc⟩
      · exact absurd h hrne
      · have q1 := rraw_eq N s r i out f ga gb gc (by omega) (by omega) g2 (by omega) (by omega) (by omega)
        rw [hfl] at hI hle hn hT
        simp -implicitDefEqProofs only [Bool.not_false, cond_true, q1, Option.bind_some]
        refine ⟨_, rfl, ⟨n, ((rawS s r i out f).1, [], (rawS s r i out f).2.1, (rawS s r i out f).2.2), rfl, ⟨hI.le, hI.okD (by omega), by have := hI.fl; have := hI.le; show (rawS s r i out f).2.2.length ≤ _; omega, Or.inl rfl⟩, hI, Nat.le_refl _, hn, hT⟩, ?_⟩
        show 2 * (s.length - (((rawS s r i out f).1 : Nat) : Int).toNat) + (if ([] : Bs) = [] then 0 else 1) < 2 * (s.length - ((i : Nat) : Int).toNat) + (if r = [] then 0 else 1)
        rw [if_pos rfl, if_neg hrne]
        omega
    | true =>
      have hre : r = [] := beq_iff_eq.1 hr
      subst hre
      have hfl : flat s (i, [], out, f) = (i, out, f) := rfl
      rw [hfl] at hI hle hn hT
      simp only at hn
      obtain ⟨n, rfl⟩ : ∃ m, n = m + 1 := ⟨n - 1, by omega⟩
      rw [runS, if_pos hi] at hT
      have hst := step_inv (st := (i, out, f)) (by omega) hi hI
      have hlen := hI.len
      have hfln := hI.fl
      simp only at hlen hfln
      have e60 : (((s[i].toNat : Nat) : Int) == 60) = (chr s i == 60) := by rw [chr_eq hi]; exact byteEq s[i] 60 (by decide)
      simp -implicitDefEqProofs only [Bool.not_true, cond_false, idx_nat hi, Option.bind_some, e60]
      cases h60 : (chr s i == 60) with
      | true =>
        have hS : stepS s (i, out, f) = signS s i out f := by unfold stepS; rw [if_pos h60]
        have q1 := rsign_eq N s i out f hi (by omega) g2 (by omega) (by omega) (by omega) (by omega)
        have hg := rsign_good hs hi h60 hI
        have hff := sign_flat s i out f
        rw [hS, ← hff] at hT hst
        simp -implicitDefEqProofs only [cond_true, q1, Option.bind_some]
        refine ⟨_, rfl, ⟨n, rsignS s i out f, rfl, hg.1, hst.1, ?_, by have := hst.2; simp only at this; omega, hT⟩, ?_⟩
        · unfold flat
          split
          · exact Nat.le_refl _
          · exact (endP_le s _ _ hg.1.1).1
        · show 2 * (s.length - (((rsignS s i out f).1 : Nat) : Int).toNat) + (if (rsignS s i out f).2.1 = [] then 0 else 1) < 2 * (s.length - ((i : Nat) : Int).toNat) + (if ([] : Bs) = [] then 0 else 1)
          have h1 := hg.2
          have h2 := hg.1.1
          rw [if_pos (show ([] : Bs) = [] from rfl)]
          split <;> omega
      | false =>
        have hS : stepS s (i, out, f) = textS s i out f := by unfold stepS; rw [if_neg (by show ¬ (chr s i == 60) = true; rw [h60]; decide)]
        have hsp := spanN_le notLt s i (by omega)
        have q1 := rupto_eq N [60] s i i [] out f (by omega) (by omega) (by decide) (by omega) (by omega)
        rw [← notLt_none] at q1
        have q2 := rdecode_eq N s i (i + spanN notLt s i) i [] out f (by omega) hsp (by omega) (by omega) (by omega) (by omega)
        rw [show (s.take (i + spanN notLt s i)).drop i = (s.drop i).take (spanN notLt s i) by rw [List.drop_take, Nat.add_sub_cancel_left]] at q2
        have d1 := dec_fst_len ((s.drop i).take (spanN notLt s i)) 0
        have hxl : ((s.drop i).take (spanN notLt s i)).length ≤ s.length := by simp; omega
        have q3 := rtextR_eq (Ev.upto N) (dec ((s.drop i).take (spanN notLt s i)) 0).1 s i [] out (f ++ (dec ((s.drop i).take (spanN notLt s i)) (i : Nat)).2) g2 (by omega)
        simp -implicitDefEqProofs only [cond_false, q1, q2, q3, Option.bind_some]
        rw [hS] at hT hst
        have hst2 : i < i + spanN notLt s i := hst.2
        refine ⟨_, rfl, ⟨n, ((textS s i out f).1, [], (textS s i out f).2.1, (textS s i out f).2.2), rfl, ⟨hst.1.le, hst.1.okD (by omega), by have := hst.1.fl; have := hst.1.le; show (textS s i out f).2.2.length ≤ _; omega, Or.inl rfl⟩, hst.1, Nat.le_refl _, by show s.length - (i + spanN notLt s i) ≤ n; omega, hT⟩, ?_⟩
        show 2 * (s.length - (((i + spanN notLt s i : Nat)) : Int).toNat) + (if ([] : Bs) = [] then 0 else 1) < 2 * (s.length - ((i : Nat) : Int).toNat) + (if ([] : Bs) = [] then 0 else 1)
        rw [if_pos rfl]
        omega
  · have c0 : decide ((i : Int) < (s.length : Int)) = false := decide_eq_false (by omega)
    rw [fend _ (by omega)] at hT
    subst hT
    simp -implicitDefEqProofs only [c0, cond_false]
    refine ⟨_, rfl, ?_⟩
    cases hr : (r == ([] : Bs)) with
    | false =>
      have hrne : ¬ r = [] := by simpa using hr
      have hfl : flat s (i, r, out, f) = rawS s r i out f := by unfold flat; rw [if_neg hrne]
      rcases g4 with h | ⟨ga, gb, gc⟩
      · exact absurd h hrne
      · have q1 := rraw_eq N s r i out f ga gb gc (by omega) (by omega) g2 (by omega) (by omega) (by omega)
        simp -implicitDefEqProofs only [hr, Bool.not_false, cond_true, q1, Option.bind_some]
        exact ⟨_, rfl, _, _, by rw [hfl]⟩
    | true =>
      have hre : r = [] := beq_iff_eq.1 hr
      subst hre
      simp -implicitDefEqProofs only [Bool.not_true, cond_false, Option.bind_some]
      exact ⟨_, rfl, _, _, rfl⟩
theorem rTokens_wp (N : Nat) (s : Bs) (hs : s.length ≤ 7000) (hN : 30000 < N) : pounceref14_Tokens_ (Ev.upto N) ((s, ()), ()) = some ((0, ()), ((runT s).2.1, ((runT s).2.2, ()))) := by
  unfold pounceref14_Tokens_
  obtain ⟨_, e, i, r, rfl⟩ := Read_wp N s hs hN
  rw [show decide ((s.length : Int) > 20000) = false from decide_eq_false (by omega), cond_false, e]
  rfl
end Go.En.Pl
