/- Text PD5 of this seat: written by a program of ours, or by hand; checked by Lean. -/
import Derived.Test.YtgclokmkoningaaDoorPD4
set_option linter.unusedSimpArgs false
set_option linter.unusedVariables false
namespace Go.En.Ent
def enc1 (c : UInt8) : Bs := bif ((c.toNat : Int) == 38) then [38, 97, 109, 112, 59] else bif ((c.toNat : Int) == 60) then [38, 108, 116, 59] else bif ((c.toNat : Int) == 62) then [38, 103, 116, 59] else
  bif ((c.toNat : Int) == 34) then [38, 113, 117, 111, 116, 59] else bif ((c.toNat : Int) == 39) then [38, 97, 112, 111, 115, 59] else [c]
def enc (s : Bs) : Bs := s.flatMap enc1
theorem enc1_len (c : UInt8) : (enc1 c).length ≤ 6 := by
  unfold enc1
  cases ((c.toNat : Int) == 38) <;> simp only [cond_true, cond_false]
  · cases ((c.toNat : Int) == 60) <;> simp only [cond_true, cond_false]
    · cases ((c.toNat : Int) == 62) <;> simp only [cond_true, cond_false]
      · cases ((c.toNat : Int) == 34) <;> simp only [cond_true, cond_false]
        · cases ((c.toNat : Int) == 39) <;> simp
        · decide
      · decide
    · decide
  · decide
theorem enc_len (s : Bs) : (enc s).length ≤ 6 * s.length := by
  induction s with
  | nil => simp [enc]
  | cons c s ih => 
    have := enc1_len c
    simp only [enc, List.flatMap_cons, List.length_append, List.length_cons] at ih ⊢
    omega
theorem enc_take (s : Bs) (i : Nat) (h : i < s.length) : enc (s.take (i + 1)) = enc (s.take i) ++ enc1 s[i] := by
  simp only [enc]
  rw [List.take_succ_eq_append_getElem h, List.flatMap_append]
  simp
theorem F21c_eq (V : Ev) (n : Int) (l : List Int) (h : l.length ≤ 10000000) : F21c V ((n, ()), ((), (l, ()))) = some ((false, ()), ((), ((l ++ [n]), ()))) := by
  unfold F21c F27b
  simp only [Option.bind_some, fits_of (show (l.length + ([n] : List Int).length) * 1 ≤ 100000000 by simp; omega), cond_true]
theorem F15_eq (N : Nat) (s : Bs) (hs : s.length ≤ 4000) (hN : 4000 < N) : F15 (Ev.upto N) ((s, ()), ()) = some ((enc s, ()), ()) := by
  unfold F15
  refine it_run (fun i => ((s, ((s.length : Int), ((i : Int), ()))), ((), (ofBs (enc (s.take i)), ())))) s.length ((), ((), (ofBs (enc s), ()))) rfl ?_ ?_ (by omega) (by rw [F22_eq]; simp only [toBs_ofBs]; rfl)
  · intro i hi
    have hl := enc_len (s.take i)
    have hl2 : (s.take i).length ≤ 4000 := by simp; omega
    have hw : IntKind.wrap .i64 ((i : Int) + 1) = (i : Int) + 1 := wrap64 (by omega) (by omega)
    have h18 : ∀ x : Bs, x.length ≤ 6 → F18c (Ev.upto N) ((x, ()), ((), (ofBs (enc (s.take i)), ()))) = some ((((x.length : Int)), (false, ())), ((), (ofBs (enc (s.take i) ++ x), ()))) := fun x hx => by
      rw [F18c_eq _ _ _ (by rw [ofBs_length]; omega), ofBs_append]
    have h21 : F21c (Ev.upto N) ((((s[i].toNat : Int)), ()), ((), (ofBs (enc (s.take i)), ()))) = some ((false, ()), ((), (ofBs (enc (s.take i) ++ [s[i]]), ()))) := by
      rw [F21c_eq _ _ _ (by rw [ofBs_length]; omega), ← ofBs_append]; rfl
    have hfin : ((i + 1 : Nat) : Int) = (i : Int) + 1 := by omega
    have hsf : ∀ a b : Nat, a ≤ 10 → b ≤ 10 → strFits (a + b) = true := fun a b _ _ => strFits_of (by omega)
    have e38 := byte_eq s[i] 38 (by decide)
    have e60 := byte_eq s[i] 60 (by decide)
    have e62 := byte_eq s[i] 62 (by decide)
    have e34 := byte_eq s[i] 34 (by decide)
    have e39 := byte_eq s[i] 39 (by decide)
    simp only [idx_nat hi, Option.bind_some, hw, sl_one hi, enc_take s i hi, hfin, show decide ((i : Int) < (s.length : Int)) = true from by simpa using hi, cond_true, enc1,
      show ([s[i]] == ([38] : Bs)) = (((s[i].toNat : Int)) == 38) from e38, show ([s[i]] == ([60] : Bs)) = (((s[i].toNat : Int)) == 60) from e60, show ([s[i]] == ([62] : Bs)) = (((s[i].toNat : Int)) == 62) from e62,
      show ([s[i]] == ([34] : Bs)) = (((s[i].toNat : Int)) == 34) from e34, show ([s[i]] == ([39] : Bs)) = (((s[i].toNat : Int)) == 39) from e39,
      List.length_cons, List.length_nil, List.length_append, List.cons_append, List.nil_append, hsf _ _ (by decide : (0 + 1 ≤ 10)) (by decide : (0 + 1 + 1 + 1 ≤ 10))]
    cases ((s[i].toNat : Int) == 38) <;> simp only [cond_true, cond_false, Option.bind_some, hw, idx_nat hi, h21]
    cases ((s[i].toNat : Int) == 60) <;> simp only [cond_true, cond_false, Option.bind_some, hw, idx_nat hi, h21]
    cases ((s[i].toNat : Int) == 62) <;> simp only [cond_true, cond_false, Option.bind_some, hw, idx_nat hi, h21]
    cases ((s[i].toNat : Int) == 34) <;> simp only [cond_true, cond_false, Option.bind_some, hw, idx_nat hi, h21]
    cases ((s[i].toNat : Int) == 39) <;> simp only [cond_true, cond_false, Option.bind_some, hw, idx_nat hi, h21]
    all_goals
      simp only [strFits, maxB, Nat.reduceAdd, Nat.reduceLeDiff, decide_true, cond_true]
      rw [h18 _ (by decide)]
      simp only [Option.bind_some, hw]
  · simp [List.take_length]
theorem enc_cons (c : UInt8) (s : Bs) : enc (c :: s) = enc1 c ++ enc s := by simp [enc]
theorem enc1_ne (c : UInt8) (h1 : ¬ c = 38) (h2 : ¬ c = 60) (h3 : ¬ c = 62) (h4 : ¬ c = 34) (h5 : ¬ c = 39) : enc1 c = [c] := by
  have k : ∀ (n : Nat), n < 256 → ¬ c = UInt8.ofNat n → (((c.toNat : Nat) : Int) == (n : Int)) = false := fun n hn h => by
    rw [beq_eq_false_iff_ne]
    intro e
    apply h
    apply UInt8.toNat_inj.1
    rw [UInt8.toNat_ofNat']
    omega
  have a1 : (((c.toNat : Nat) : Int) == 38) = false := k 38 (by decide) h1
  have a2 : (((c.toNat : Nat) : Int) == 60) = false := k 60 (by decide) h2
  have a3 : (((c.toNat : Nat) : Int) == 62) = false := k 62 (by decide) h3
  have a4 : (((c.toNat : Nat) : Int) == 34) = false := k 34 (by decide) h4
  have a5 : (((c.toNat : Nat) : Int) == 39) = false := k 39 (by decide) h5
  simp only [enc1, a1, a2, a3, a4, a5, cond_false]
theorem dec_name (name rest : Bs) (v : Bs) (at_ : Int) (h59 : (59 : UInt8) ∉ name) (hs : sg name = (v, true, true)) : dec (38 :: (name ++ 59 :: rest)) at_ = (v ++ (dec rest (at_ + name.length + 2)).1, (dec rest (at_ + name.length + 2)).2) := by
  have h : sgAt 38 (name ++ 59 :: rest) = some (name, rest) := by
    unfold sgAt
    rw [if_pos rfl, cut59_eq name rest h59]
    simp only [hs, if_true]
  rw [dec_sign h, hs]
  rfl
theorem enc_back : ∀ (s : Bs) (at_ : Int), dec (enc s) at_ = (s, [])
  | [], at_ => rfl
  | c :: s, at_ => by
    rw [enc_cons]
    by_cases h1 : c = 38
    · subst h1
      rw [show enc1 38 ++ enc s = 38 :: (([97, 109, 112] : Bs) ++ 59 :: enc s) from rfl, dec_name _ _ [38] _ (by decide) (by decide +kernel), enc_back s]
      rfl
    by_cases h2 : c = 60
    · subst h2
      rw [show enc1 60 ++ enc s = 38 :: (([108, 116] : Bs) ++ 59 :: enc s) from rfl, dec_name _ _ [60] _ (by decide) (by decide +kernel), enc_back s]
      rfl
    by_cases h3 : c = 62
    · subst h3
      rw [show enc1 62 ++ enc s = 38 :: (([103, 116] : Bs) ++ 59 :: enc s) from rfl, dec_name _ _ [62] _ (by decide) (by decide +kernel), enc_back s]
      rfl
    by_cases h4 : c = 34
    · subst h4
      rw [show enc1 34 ++ enc s = 38 :: (([113, 117, 111, 116] : Bs) ++ 59 :: enc s) from rfl, dec_name _ _ [34] _ (by decide) (by decide +kernel), enc_back s]
      rfl
    by_cases h5 : c = 39
    · subst h5
      rw [show enc1 39 ++ enc s = 38 :: (([97, 112, 111, 115] : Bs) ++ 59 :: enc s) from rfl, dec_name _ _ [39] _ (by decide) (by decide +kernel), enc_back s]
      rfl
    rw [enc1_ne c h1 h2 h3 h4 h5, List.singleton_append, dec_plain (sgAt_ne _ h1), enc_back s]
def plainC (x : UInt8) : Bool := !(((x.toNat : Nat) : Int) == 60) && (!(((x.toNat : Nat) : Int) == 62) && (!(((x.toNat : Nat) : Int) == 34) && !(((x.toNat : Nat) : Int) == 39)))
theorem enc_plain (s : Bs) : ∀ x ∈ enc s, plainC x = true := by
  induction s with
  | nil => intro x hx; cases hx
  | cons c s ih =>
    intro x hx
    rw [enc_cons, List.mem_append] at hx
    rcases hx with hx | hx
    · unfold enc1 at hx
      cases h1 : (((c.toNat : Nat) : Int) == 38) <;> rw [h1] at hx <;> simp only [cond_true, cond_false] at hx
      · cases h2 : (((c.toNat : Nat) : Int) == 60) <;> rw [h2] at hx <;> simp only [cond_true, cond_false] at hx
        · cases h3 : (((c.toNat : Nat) : Int) == 62) <;> rw [h3] at hx <;> simp only [cond_true, cond_false] at hx
          · cases h4 : (((c.toNat : Nat) : Int) == 34) <;> rw [h4] at hx <;> simp only [cond_true, cond_false] at hx
            · cases h5 : (((c.toNat : Nat) : Int) == 39) <;> rw [h5] at hx <;> simp only [cond_true, cond_false] at hx
              · have : x = c := by simpa using hx
                subst this
                simp only [plainC, h2, h3, h4, h5]; rfl
              · revert x; decide
            · revert x; decide
          · revert x; decide
        · revert x; decide
      · revert x; decide
    · exact ih x hx
theorem ex20 : F13 (Ev.upto 20000) ((), ()) = some ((true, ()), ()) := by kernel_rfl
theorem ex5 : F13 (Ev.upto 5000) ((), ()) = some ((true, ()), ()) := by kernel_rfl
theorem F15_eq' (s : Bs) (hs : s.length ≤ 4000) : F15 (Ev.upto 20000) ((s, ()), ()) = some ((enc s, ()), ()) := F15_eq 20000 s hs (by decide)
theorem plain5 (s : Bs) : F5 (Ev.upto 20000) ((s, ()), ()) = some ((true, ()), ()) := by
  apply wp_eq
  unfold F5
  by_cases hs : 2000 < (s.length : Int)
  · rw [show decide ((s.length : Int) > 2000) = true from decide_eq_true hs, cond_true]
    exact ⟨_, rfl, rfl⟩
  have hs' : s.length ≤ 2000 := by omega
  have he := enc_len s
  rw [show decide ((s.length : Int) > 2000) = false from decide_eq_false hs, cond_false, F15_eq' s (by omega), Option.bind_some, F9_eq 20000 (enc s) (by omega) (by omega) (by decide), Option.bind_some, enc_back]
  refine wp_bind ?_
  refine wp_for (σ := Unit) (fun i _ => ((s, (enc s, (s, ((i : Int), ())))), (([] : List (Int × Int)), ()))) (fun _ _ => True) (enc s).length () rfl trivial (by omega) ?_
  rintro i _ hi _
  by_cases hi' : i < (enc s).length
  · have c0 : decide ((i : Int) < (((enc s).length : Nat) : Int)) = true := decide_eq_true (by omega)
    have hp := enc_plain s (enc s)[i] (List.getElem_mem hi')
    simp only [plainC, Bool.and_eq_true, Bool.not_eq_true'] at hp
    obtain ⟨p1, p2, p3, p4⟩ := hp
    have w : IntKind.wrap .i64 ((i : Int) + 1) = ((i + 1 : Nat) : Int) := by rw [wrap64 (by omega) (by omega)]; omega
    simp -implicitDefEqProofs only [c0, cond_true, cond_false, idx_nat hi', Option.bind_some, p1, p2, p3, p4, beq_self_eq_true, w]
    exact ⟨_, rfl, hi', (), rfl, trivial⟩
  · have c0 : decide ((i : Int) < (((enc s).length : Nat) : Int)) = false := decide_eq_false (by omega)
    simp -implicitDefEqProofs only [c0, cond_false]
    refine ⟨_, rfl, ?_⟩
    simp only
    rw [ex20]
    simp -implicitDefEqProofs only [Option.bind_some, beq_self_eq_true, cond_true]
    exact ⟨_, rfl, rfl⟩
theorem plain7 (s : Bs) : F7 (Ev.upto 5000) ((s, ()), ()) = some ((true, ()), ()) := by
  apply wp_eq
  unfold F7
  by_cases hs : 2000 < (s.length : Int)
  · rw [show decide ((s.length : Int) > 2000) = true from decide_eq_true hs, cond_true]
    exact ⟨_, rfl, rfl⟩
  have hs' : s.length ≤ 2000 := by omega
  have f1 : strFits ((([38] : Bs)).length + s.length) = true := strFits_of (by simp; omega)
  have f2 : strFits ((([38] : Bs) ++ s).length + (([59] : Bs)).length) = true := strFits_of (by simp; omega)
  rw [show decide ((s.length : Int) > 2000) = false from decide_eq_false hs, cond_false, F11_eq, Option.bind_some]
  simp -implicitDefEqProofs only [f1, f2, cond_true]
  rw [F9_eq 5000 (([38] ++ s) ++ [59]) (by simp; omega) (by simp; omega) (by decide), ex5]
  simp -implicitDefEqProofs only [Option.bind_some, beq_self_eq_true, cond_true]
  cases hn : (nm s).2 with
  | true =>
    have hs : sg s = ((nm s).1, true, true) := by unfold sg; rw [if_pos hn]
    have := dec_name s [] (nm s).1 0 (nm_ok s hn).2 hs
    rw [dec_nil] at this
    simp only [List.append_nil] at this
    rw [show ([38] ++ s) ++ [59] = 38 :: (s ++ [59]) by simp, this]
    simp -implicitDefEqProofs only [Bool.not_true, beq_self_eq_true, cond_true, Option.bind_some, List.length_nil, show (((0 : Nat) : Int) == 0) = true from rfl, show (true == false) = false from rfl, cond_false]
    exact ⟨_, rfl, rfl⟩
  | false =>
    have := nm_no s hn
    rw [this]
    simp -implicitDefEqProofs only [Bool.not_false, beq_self_eq_true, cond_true, Option.bind_some, show (true == false) = false from rfl, cond_false]
    exact ⟨_, rfl, rfl⟩
theorem decB_shift : ∀ (f : Nat) (s : Bs) (a k : Int), decB f s (a + k) = ((decB f s a).1, (decB f s a).2.map fun p => (p.1, p.2 + k))
  | 0, s, a, k => rfl
  | f + 1, [], a, k => rfl
  | f + 1, c :: r, a, k => by
    simp only [decB]
    cases sgAt c r with
    | none =>
      simp only
      rw [show a + k + 1 = (a + 1) + k by omega, decB_shift f r (a + 1) k]
    | some p =>
      simp only
      rw [show a + k + p.1.length + 2 = (a + p.1.length + 2) + k by omega, decB_shift f p.2 (a + p.1.length + 2) k]
      simp only [List.map_append]
      congr 2
      unfold bad
      split <;> rfl
theorem dec_shift (s : Bs) (k : Int) : dec s k = ((dec s 0).1, (dec s 0).2.map fun p => (p.1, p.2 + k)) := by
  have := decB_shift s.length s 0 k
  rw [Int.zero_add] at this
  exact this
theorem dec_pos : ∀ (f : Nat) (s : Bs) (a : Int), ∀ p ∈ (decB f s a).2, a ≤ p.2 ∧ p.2 ≤ a + s.length
  | 0, s, a, p, h => by simp [decB] at h
  | f + 1, [], a, p, h => by simp [decB] at h
  | f + 1, c :: r, a, p, h => by
    simp only [decB] at h
    cases hs : sgAt c r with
    | none =>
      rw [hs] at h
      have := dec_pos f r (a + 1) p h
      simp only [List.length_cons]; omega
    | some q =>
      rw [hs] at h
      simp only [List.mem_append] at h
      have hl : r.length = q.1.length + q.2.length + 1 := by rw [(sgAt_some hs).2.1]; simp; omega
      rcases h with h | h
      · unfold bad at h
        split at h
        · cases h
        · have : p = (130, a) := by simpa using h
          subst this
          simp only [List.length_cons]; omega
      · have := dec_pos f q.2 _ p h
        simp only [List.length_cons]; omega
end Go.En.Ent
