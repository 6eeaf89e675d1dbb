/- Text PD7 of this seat: written by a program of ours, or by hand; checked by Lean. -/
import Derived.Test.YtgclokmkoningaaDoorPD6
set_option linter.unusedSimpArgs false
set_option linter.unusedVariables false
namespace Go.En.Ent
theorem F14_eq (N : Nat) (l : List (Int × Int)) (hN : l.length < N) (h : l.length ≤ 100000) : F14 (Ev.upto N) ((l, (l, ())), ()) = some ((true, ()), ()) := by
  apply wp_eq
  unfold F14
  simp -implicitDefEqProofs only [bne_self_eq_false, cond_false]
  refine wp_bind ?_
  refine wp_for (σ := Unit) (fun i _ => ((l, (l, ((i : Int), ()))), ())) (fun _ _ => True) l.length () rfl trivial hN ?_
  rintro i _ hi _
  by_cases hi' : i < l.length
  · have c0 : decide ((i : Int) < ((l.length : Nat) : Int)) = true := decide_eq_true (by omega)
    have w : IntKind.wrap .i64 ((i : Int) + 1) = ((i + 1 : Nat) : Int) := by rw [wrap64 (by omega) (by omega)]; omega
    simp -implicitDefEqProofs only [c0, cond_true, idx_nat hi', Option.bind_some, beq_self_eq_true, Bool.and_self, Bool.not_true, cond_false, w]
    exact ⟨_, rfl, hi', (), rfl, trivial⟩
  · have c0 : decide ((i : Int) < ((l.length : Nat) : Int)) = false := decide_eq_false (by omega)
    simp -implicitDefEqProofs only [c0, cond_false]
    exact ⟨_, rfl, ⟨_, rfl, rfl⟩⟩
theorem F23_wp (N : Nat) (hN : 12 < N) (l : Bs) : wp (F23 (Ev.upto N) ((l, ()), ())) (fun x => (x = ((-1, ()), ()) ∧ (59 : UInt8) ∉ l.take 12) ∨ ∃ y z, l = y ++ 59 :: z ∧ (59 : UInt8) ∉ y ∧ y.length < 12 ∧ x = (((y.length : Int), ()), ())) := by
  unfold F23
  refine wp_bind ?_
  refine wp_for (σ := Unit) (fun i _ => ((l, ((i : Int), ())), ())) (fun i _ => (59 : UInt8) ∉ l.take i) (min 12 l.length) () rfl (by simp) (by omega) ?_
  rintro i _ hi hn
  by_cases hi' : i < l.length ∧ i < 12
  · have c0 : decide ((i : Int) < ((l.length : Nat) : Int)) = true := decide_eq_true (by omega)
    have c1 : decide ((i : Int) < 12) = true := decide_eq_true (by omega)
    have w : IntKind.wrap .i64 ((i : Int) + 1) = ((i + 1 : Nat) : Int) := by rw [wrap64 (by omega) (by omega)]; omega
    simp -implicitDefEqProofs only [c0, c1, beq_self_eq_true, cond_true, idx_nat hi'.1, Option.bind_some, w]
    cases hc : (((l[i].toNat : Nat) : Int) == 59) with
    | true =>
      have hc' : l[i] = 59 := by
        apply UInt8.toNat_inj.1
        have := hc
        simp only [beq_iff_eq] at this
        have e : (59 : UInt8).toNat = 59 := rfl
        omega
      refine ⟨_, rfl, ⟨_, rfl, .inr ⟨l.take i, l.drop (i + 1), ?_, hn, by simp; omega, ?_⟩⟩⟩
      · rw [← hc', ← List.drop_eq_getElem_cons hi'.1, List.take_append_drop]
      · have hle : (l.take i).length = i := by rw [List.length_take]; omega
        rw [hle]
    | false =>
      refine ⟨_, rfl, by omega, (), rfl, ?_⟩
      rw [List.take_succ_eq_append_getElem hi'.1, List.mem_append]
      rintro (h | h)
      · exact hn h
      · have : l[i] = 59 := (List.mem_singleton.1 h).symm
        rw [this] at hc
        cases hc
  · have hout : (59 : UInt8) ∉ l.take 12 := by
      by_cases h12 : i < 12
      · have : i = l.length := by omega
        subst this
        rw [List.take_of_length_le (Nat.le_refl _)] at hn
        rwa [List.take_of_length_le (by omega)]
      · have : i = 12 := by omega
        subst this; exact hn
    by_cases c0 : i < l.length
    · have c0' : decide ((i : Int) < ((l.length : Nat) : Int)) = true := decide_eq_true (by omega)
      have c1 : decide ((i : Int) < 12) = false := decide_eq_false (by omega)
      simp -implicitDefEqProofs only [c0', c1, beq_self_eq_true, cond_true, cond_false, Option.bind_some]
      exact ⟨_, rfl, ⟨_, rfl, .inl ⟨rfl, hout⟩⟩⟩
    · have c0' : decide ((i : Int) < ((l.length : Nat) : Int)) = false := decide_eq_false (by omega)
      simp -implicitDefEqProofs only [c0', show (false == true) = false from rfl, cond_false, Option.bind_some]
      exact ⟨_, rfl, ⟨_, rfl, .inl ⟨rfl, hout⟩⟩⟩
theorem F10_eq (N : Nat) (s : Bs) (hs : s.length ≤ 15000) (hN : s.length < N) (h12 : 12 < N) : F10 (Ev.upto N) ((s, ()), ()) = some ((((dec s 0).1, ()), ((dec s 0).2, ()))) := by
  apply wp_eq
  unfold F10
  refine wp_bind ?_
  have hL := dec_len s.length s 0 (Nat.le_refl _)
  refine wp_it (fun a => ∃ (i : Nat) (b : Bs) (f : List (Int × Int)), a = ((s, (b, ((i : Int), ()))), (f, ())) ∧ i ≤ s.length ∧ b ++ (dec (s.drop i) i).1 = (dec s 0).1 ∧ f ++ (dec (s.drop i) i).2 = (dec s 0).2) (fun a => s.length - a.1.2.2.1.toNat) ⟨0, [], [], rfl, by omega, by simp, by simp⟩ (by simp; omega) ?_
  rintro _ ⟨i, b, f, rfl, hi, hb, hf⟩
  have hbl : b.length ≤ 60000 := by
    have := congrArg List.length hb
    rw [List.length_append] at this; omega
  have hfl : f.length ≤ 15000 := by
    have := congrArg List.length hf
    rw [List.length_append] at this; omega
  simp -implicitDefEqProofs only
  by_cases hi' : i < s.length
  · have c0 : decide ((i : Int) < ((s.length : Nat) : Int)) = true := decide_eq_true (by omega)
    have w1 : IntKind.wrap .i64 ((i : Int) + 1) = ((i + 1 : Nat) : Int) := by rw [wrap64 (by omega) (by omega)]; omega
    have e := List.drop_eq_getElem_cons hi'
    rw [e] at hb hf
    have s1 : sl s (i : Int) ((i + 1 : Nat) : Int) = some [s[i]] := by
      have := sl_one hi'
      rw [show ((i : Int) + 1) = ((i + 1 : Nat) : Int) by omega] at this
      exact this
    have fp : strFits (b.length + [s[i]].length) = true := strFits_of (by simp; omega)
    have plain : sgAt s[i] (s.drop (i + 1)) = none → (∃ r : ((Bs × Bs × Int × Unit) × (List (Int × Int) × Unit)) ⊕ ((Bs × Unit) × (List (Int × Int) × Unit)), some (Sum.inl ((s, (b ++ [s[i]], (((i + 1 : Nat) : Int), ()))), (f, ()))) = some r ∧ (match r with | .inl a' => (∃ (i : Nat) (b : Bs) (f : List (Int × Int)), a' = ((s, (b, ((i : Int), ()))), (f, ())) ∧ i ≤ s.length ∧ b ++ (dec (s.drop i) i).1 = (dec s 0).1 ∧ f ++ (dec (s.drop i) i).2 = (dec s 0).2) ∧ s.length - a'.1.2.2.1.toNat < s.length - i | .inr b => True)) := by
      intro hp
      rw [dec_plain hp] at hb hf
      refine ⟨_, rfl, ⟨i + 1, b ++ [s[i]], f, rfl, by omega, ?_, ?_⟩, by simp; omega⟩
      · rw [← hb]; simp
      · rw [← hf]; rfl
    rw [c0, cond_true, sl_end hi, Option.bind_some, e]
    refine wp_bind ?_
    refine wp_seq _ (F23_wp N h12 (s[i] :: s.drop (i + 1))) ?_
    intro x hx
    by_cases hc : s[i] = 38
    · have hc' : (((s[i].toNat : Nat) : Int) == 38) = true := by rw [hc]; rfl
      rcases hx with ⟨rfl, hx⟩ | ⟨y, z, e1, hy, hyl, rfl⟩
      · have hp : sgAt s[i] (s.drop (i + 1)) = none := by
          unfold sgAt
          rw [if_pos hc]
          cases hcut : cut59 (s.drop (i + 1)) with
          | none => rfl
          | some p =>
            obtain ⟨ep, hp59⟩ := cut59_some _ p hcut
            have hlong : ¬ p.1.length ≤ 8 := by
              intro hl
              apply hx
              rw [ep]
              have : (s[i] :: (p.1 ++ 59 :: p.2)).take 12 = s[i] :: ((p.1 ++ [59]) ++ p.2).take 11 := by simp
              rw [this, List.take_append]
              apply List.mem_cons_of_mem
              apply List.mem_append_left
              rw [List.take_of_length_le (by simp; omega)]
              simp
            simp only
            rw [if_neg (fun h => hlong (sg_short _ h))]
        obtain ⟨r, hr, hq⟩ := plain hp
        cases hr
        simp -implicitDefEqProofs only [idx_nat hi', Option.bind_some, hc', beq_self_eq_true, cond_true, show decide ((-1 : Int) > 0) = false from rfl, cond_false, w1, s1, fp]
        exact ⟨_, rfl, _, rfl, hq⟩
      · cases y with
        | nil =>
          simp only [List.nil_append, List.cons.injEq] at e1
          rw [hc] at e1
          exact absurd e1.1 (by decide)
        | cons y0 body =>
          simp only [List.cons_append, List.cons.injEq] at e1
          obtain ⟨rfl, e2⟩ := e1
          have hb59 : (59 : UInt8) ∉ body := fun h => hy (List.mem_cons_of_mem _ h)
          have hcut : cut59 (s.drop (i + 1)) = some (body, z) := by rw [e2]; exact cut59_eq body z hb59
          have hlen : s.length - (i + 1) = body.length + z.length + 1 := by
            have := congrArg List.length e2
            simp at this; omega
          simp only [List.length_cons] at hyl
          have ck : decide ((((s[i] :: body).length : Nat) : Int) > 0) = true := decide_eq_true (by simp only [List.length_cons]; omega)
          have w2 : IntKind.wrap .i64 ((i : Int) + (((s[i] :: body).length : Nat) : Int)) = ((i + 1 + body.length : Nat) : Int) := by
            simp only [List.length_cons]
            rw [wrap64 (by omega) (by omega)]; omega
          have w3 : IntKind.wrap .i64 (((i + 1 + body.length : Nat) : Int) + 1) = ((i + 1 + body.length + 1 : Nat) : Int) := by rw [wrap64 (by omega) (by omega)]; omega
          have s2 : sl s ((i + 1 : Nat) : Int) ((i + 1 + body.length : Nat) : Int) = some body := sl_pre e2 (by omega)
          have q24 := F24_eq N (by omega) body
          have hgl := sg_len body
          have ft : strFits (b.length + (sg body).1.length) = true := strFits_of (by omega)
          have e3 : s.drop (i + 1 + body.length + 1) = z := by
            have : s.drop (i + 1) = (body ++ [59]) ++ z := by rw [e2]; simp
            have := drop_more (s := s) (i := i + 1) this
            rw [← this]; congr 1; simp; omega
          simp -implicitDefEqProofs only [idx_nat hi', Option.bind_some, hc', beq_self_eq_true, cond_true, ck, w1, w2, s2, q24]
          by_cases hsg : (sg body).2.1 = true
          · have hs1 : sgAt s[i] (s.drop (i + 1)) = some (body, z) := by unfold sgAt; rw [if_pos hc, hcut]; simp only [if_pos hsg]
            rw [dec_sign hs1] at hb hf
            simp only at hb hf
            rw [hsg]
            cases hr : (sg body).2.2 with
            | true =>
              simp -implicitDefEqProofs only [Bool.not_true, cond_false, cond_true, Option.bind_some, ft, w2, w3]
              refine ⟨_, rfl, _, rfl, ⟨i + 1 + body.length + 1, b ++ (sg body).1, f, rfl, by omega, ?_, ?_⟩, by simp; omega⟩
              · rw [e3, ← hb, show ((i + 1 + body.length + 1 : Nat) : Int) = (i : Int) + body.length + 2 by omega]; simp
              · rw [e3, ← hf, hr, show ((i + 1 + body.length + 1 : Nat) : Int) = (i : Int) + body.length + 2 by omega]; simp [bad]
            | false =>
              have hfit : fits (f.length + ([((130 : Int), (i : Int))] : List (Int × Int)).length) 16 = true := fits_of (by simp; omega)
              simp -implicitDefEqProofs only [Bool.not_false, cond_false, cond_true, Option.bind_some, ft, hfit, w2, w3]
              refine ⟨_, rfl, _, rfl, ⟨i + 1 + body.length + 1, b ++ (sg body).1, f ++ [(130, (i : Int))], rfl, by omega, ?_, ?_⟩, by simp; omega⟩
              · rw [e3, ← hb, show ((i + 1 + body.length + 1 : Nat) : Int) = (i : Int) + body.length + 2 by omega]; simp
              · rw [e3, ← hf, hr, show ((i + 1 + body.length + 1 : Nat) : Int) = (i : Int) + body.length + 2 by omega]; simp [bad]
          · have hsg' : (sg body).2.1 = false := by simpa using hsg
            have hp : sgAt s[i] (s.drop (i + 1)) = none := by unfold sgAt; rw [if_pos hc, hcut]; simp only [if_neg hsg]
            obtain ⟨r, hr, hq⟩ := plain hp
            cases hr
            rw [hsg', sg_right _ hsg']
            simp -implicitDefEqProofs only [Bool.not_true, cond_false, Option.bind_some, w1, s1, fp, cond_true]
            exact ⟨_, rfl, _, rfl, hq⟩
    · have hc' : (((s[i].toNat : Nat) : Int) == 38) = false := by
        rw [beq_eq_false_iff_ne]; intro e; apply hc; apply UInt8.toNat_inj.1; have : (38 : UInt8).toNat = 38 := rfl; omega
      obtain ⟨r, hr, hq⟩ := plain (sgAt_ne _ hc)
      cases hr
      simp -implicitDefEqProofs only [idx_nat hi', Option.bind_some, hc', show (false == true) = false from rfl, cond_false, w1, s1, fp, cond_true]
      exact ⟨_, rfl, _, rfl, hq⟩
  · have c0 : decide ((i : Int) < ((s.length : Nat) : Int)) = false := decide_eq_false (by omega)
    rw [List.drop_eq_nil_of_le (by omega), dec_nil] at hb hf
    simp only [List.append_nil] at hb hf
    rw [c0, cond_false]
    exact ⟨_, rfl, ⟨_, rfl, by rw [← hb, ← hf]⟩⟩
theorem plain3 (a b : Bs) : F3 (Ev.upto 5000) ((a, (b, ())), ()) = some ((true, ()), ()) := by
  apply wp_eq
  unfold F3
  by_cases hs : 2000 < a.length ∨ 2000 < b.length
  · refine wp_seq (fun o => o = ((a, (b, (true, ()))), ())) ?_ ?_
    · by_cases ha : 2000 < a.length
      · rw [show decide (((a.length : Nat) : Int) > 2000) = true from decide_eq_true (by omega)]
        exact ⟨_, rfl, rfl⟩
      · rw [show decide (((a.length : Nat) : Int) > 2000) = false from decide_eq_false (by omega), show decide (((b.length : Nat) : Int) > 2000) = true from decide_eq_true (by omega)]
        exact ⟨_, rfl, rfl⟩
    · rintro _ rfl
      exact ⟨_, rfl, rfl⟩
  have ha : a.length ≤ 2000 := by omega
  have hb : b.length ≤ 2000 := by omega
  have hl := dec_len a.length a 0 (Nat.le_refl _)
  rw [show decide (((a.length : Nat) : Int) > 2000) = false from decide_eq_false (by omega)]
  simp -implicitDefEqProofs only [beq_self_eq_true, cond_true, Option.bind_some]
  rw [show decide (((b.length : Nat) : Int) > 2000) = false from decide_eq_false (by omega), cond_false]
  rw [F9_eq 5000 a (by omega) (by omega) (by decide)]
  simp -implicitDefEqProofs only [Option.bind_some]
  rw [F10_eq 5000 a (by omega) (by omega) (by decide)]
  simp -implicitDefEqProofs only [Option.bind_some]
  rw [F11_eq, F12_eq, ex5]
  simp -implicitDefEqProofs only [Option.bind_some, beq_self_eq_true, cond_true]
  rw [F14_eq 5000 _ (by omega) (by omega)]
  exact ⟨_, rfl, rfl⟩
end Go.En.Ent
