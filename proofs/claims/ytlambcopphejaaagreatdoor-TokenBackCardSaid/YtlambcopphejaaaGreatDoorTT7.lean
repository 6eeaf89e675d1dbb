/- Text TT7 of this seat: written by a program of ours, or by hand; checked by Lean. -/
import Derived.Test.YtlambcopphejaaaGreatDoorTT6
set_option linter.unusedSimpArgs false
set_option linter.unusedVariables false
namespace Go.En.Pl
def chr (s : Bs) (j : Nat) : UInt8 := (s[j]?).getD 32
theorem idx_some {α : Type} {l : List α} {n : Nat} {x : α} (h : l[n]? = some x) : idx l (n : Int) = some x := by
  have hn : n < l.length := (List.getElem?_eq_some_iff.1 h).1
  rw [idx_nat hn, ← h, List.getElem?_eq_getElem hn]
theorem chr_at {s : Bs} {i k : Nat} (hi : i < s.length) (hk : k = 1 ∨ k = 2) : (s.drop i ++ [32, 32])[k]? = some (chr s (i + k)) := by
  rw [List.getElem?_append, List.getElem?_drop, List.length_drop]
  unfold chr
  by_cases h : k < s.length - i
  · rw [if_pos h, List.getElem?_eq_getElem (by omega)]
    rfl
  · rw [if_neg h, List.getElem?_eq_none (by omega : s.length ≤ i + k)]
    have : k - (s.length - i) = 0 ∨ k - (s.length - i) = 1 := by omega
    rcases this with h | h <;> rw [h] <;> rfl
def signS (s : Bs) (i : Nat) (out : List Tok) (f : List Fl) : Nat × List Tok × List Fl :=
  if letterB (chr s (i + 1)) = true then tagS s 2 i (i + 1) out f
  else if (chr s (i + 1) == 47 && letterB (chr s (i + 2))) = true then tagS s 3 i (i + 2) out f
  else if isB s i [60, 33, 45, 45] = true then noteS s 4 4 [45, 45, 62] i out f
  else if isB s i [60, 33, 100, 111, 99, 116, 121, 112, 101] = true then noteS s 5 9 [62] i out f
  else if (chr s (i + 1) == 33 || (chr s (i + 1) == 63 || chr s (i + 1) == 47)) = true then noteS s 4 2 [62] i out (f ++ [(141, (i : Int))])
  else (i + 1, tellS out (tx [60]), f ++ [(141, (i : Int))])
theorem letter_lt {s : Bs} {j : Nat} (h : letterB (chr s j) = true) : j < s.length := by
  unfold chr at h
  cases hc : s[j]? with
  | some c => exact (List.getElem?_eq_some_iff.1 hc).1
  | none => rw [hc] at h; exact absurd h (by decide)
theorem chr_lt {s : Bs} {j : Nat} {c : UInt8} (h : chr s j = c) (hc : c ≠ 32) : j < s.length := by
  unfold chr at h
  cases hg : s[j]? with
  | some d => exact (List.getElem?_eq_some_iff.1 hg).1
  | none => rw [hg] at h; exact absurd h.symm hc
theorem sign_eq (N : Nat) (s : Bs) (i : Nat) (out : List Tok) (f : List Fl) (hi : i < s.length) (hs : s.length ≤ 15000) (ho : okD out) (ho2 : out.length ≤ 900000000) (hf : f.length ≤ 480000000) (hN : s.length + 1 < N) (hN2 : 1000 < N) :
    token_cursor_sign_4fb (Ev.upto N) ((), cur s i out f) = some ((), cur s (signS s i out f).1 (signS s i out f).2.1 (signS s i out f).2.2) := by
  have q0 := left_eq (Ev.upto N) s i out f (by omega)
  have g0 : strFits ((s.drop i).length + ([32, 32] : Bs).length) = true := strFitsL (by simp; omega)
  have i1 : idx (s.drop i ++ ([32, 32] : Bs)) (1 : Int) = some (chr s (i + 1)) := idx_some (n := 1) (chr_at hi (Or.inl rfl))
  have i2 : idx (s.drop i ++ ([32, 32] : Bs)) (2 : Int) = some (chr s (i + 2)) := idx_some (n := 2) (chr_at hi (Or.inr rfl))
  have l1 := letter_at (Ev.upto N) (chr s (i + 1))
  have l2 := letter_at (Ev.upto N) (chr s (i + 2))
  have w1 : IntKind.wrap .i64 ((i : Int) + 1) = ((i + 1 : Nat) : Int) := by rw [wrap64 (by omega) (by omega)]; omega
  have w2 : IntKind.wrap .i64 ((i : Int) + 2) = ((i + 2 : Nat) : Int) := by rw [wrap64 (by omega) (by omega)]; omega
  have q3 := is_eq N [60, 33, 45, 45] s i out f (by omega) (by omega) (by decide) (by omega)
  have q4 := is_eq N [60, 33, 100, 111, 99, 116, 121, 112, 101] s i out f (by omega) (by omega) (by decide) (by omega)
  have e47 : (((chr s (i + 1)).toNat : Int) == 47) = (chr s (i + 1) == 47) := byteEq _ 47 (by decide)
  have e33 : (((chr s (i + 1)).toNat : Int) == 33) = (chr s (i + 1) == 33) := byteEq _ 33 (by decide)
  have e63 : (((chr s (i + 1)).toNat : Int) == 63) = (chr s (i + 1) == 63) := byteEq _ 63 (by decide)
  unfold token_cursor_sign_4fb signS
  simp -implicitDefEqProofs only [q0, Option.bind_some, g0, cond_true, i1, l1]
  cases hl1 : letterB (chr s (i + 1)) with
  | true =>
    have q5 := tag_eq N s 2 i (i + 1) out f (Or.inl rfl) (by omega) hs (by omega) ho ho2 (by omega) hN hN2
    rw [if_pos rfl]
    simp -implicitDefEqProofs only [cond_true, w1, q5, Option.bind_some]
  | false =>
    rw [if_neg (by decide)]
    simp -implicitDefEqProofs only [cond_false, e47]
    have hc : wp ((bif ((chr s (i + 1) == 47) == true) then ((idx (s.drop i ++ ([32, 32] : Bs)) (2 : Int)).bind fun v6 => ((token_letter_ (Ev.upto N) ((((v6).toNat : Int), ()), ())).bind fun v7 => (some (((i : Int), ((s.drop i ++ ([32, 32] : Bs)), (v7.1.1, ()))), cur s i out f)))) else (some (((i : Int), ((s.drop i ++ ([32, 32] : Bs)), (false, ()))), cur s i out f)) : Option ((Int × Bs × Bool × Unit) × ((Bs × Int × Unit) × (List Tok) × (List Fl) × Unit)))) (fun o => o = (((i : Int), ((s.drop i ++ ([32, 32] : Bs)), (chr s (i + 1) == 47 && letterB (chr s (i + 2)), ()))), cur s i out f)) := by
      cases (chr s (i + 1) == 47) with
      | true =>
        simp -implicitDefEqProofs only [beq_self_eq_true, cond_true, i2, Option.bind_some, l2, Bool.true_and]
        exact ⟨_, rfl, rfl⟩
      | false => exact ⟨_, rfl, rfl⟩
    obtain ⟨_, e, rfl⟩ := hc
    rw [e]
    cases hl2 : (chr s (i + 1) == 47 && letterB (chr s (i + 2))) with
    | true =>
      have hlt := letter_lt (Bool.and_eq_true _ _ ▸ hl2 : _ ∧ _).2
      have q5 := tag_eq N s 3 i (i + 2) out f (Or.inr rfl) (by omega) hs (by omega) ho ho2 (by omega) hN hN2
      rw [if_pos rfl]
      simp -implicitDefEqProofs only [cond_true, w2, q5, Option.bind_some]
    | false =>
      rw [if_neg (by decide)]
      simp -implicitDefEqProofs only [cond_false, Option.bind_some, q3]
      cases h4 : isB s i [60, 33, 45, 45] with
      | true =>
        have hlt := isB_lt h4 (by omega)
        have q5 := note_eq N s 4 4 [45, 45, 62] i out f (Or.inl rfl) (by simpa using hlt) hs (by decide) ho (by omega)
        rw [if_pos rfl]
        simp -implicitDefEqProofs only [cond_true, Option.bind_some]
        rw [show ((4 : Nat) : Int) = 4 from rfl] at q5
        simp -implicitDefEqProofs only [q5, Option.bind_some]
      | false =>
        rw [if_neg (by decide)]
        simp -implicitDefEqProofs only [cond_false, Option.bind_some, q4]
        cases h5 : isB s i [60, 33, 100, 111, 99, 116, 121, 112, 101] with
        | true =>
          have hlt := isB_lt h5 (by omega)
          have q5 := note_eq N s 5 9 [62] i out f (Or.inr rfl) (by simpa using hlt) hs (by decide) ho (by omega)
          rw [if_pos rfl]
          simp -implicitDefEqProofs only [cond_true, Option.bind_some]
          rw [show ((9 : Nat) : Int) = 9 from rfl] at q5
          simp -implicitDefEqProofs only [q5, Option.bind_some]
        | false =>
          rw [if_neg (by decide)]
          simp -implicitDefEqProofs only [cond_false, Option.bind_some, i1, e33, e63, e47]
          have hc : wp ((bif ((chr s (i + 1) == 33) == false) then (bif ((chr s (i + 1) == 63) == false) then (some (((i : Int), (chr s (i + 1) == 47, ())), cur s i out f)) else (some (((i : Int), (true, ())), cur s i out f))) else (some (((i : Int), (true, ())), cur s i out f)) : Option ((Int × Bool × Unit) × ((Bs × Int × Unit) × (List Tok) × (List Fl) × Unit)))) (fun o => o = (((i : Int), (chr s (i + 1) == 33 || (chr s (i + 1) == 63 || chr s (i + 1) == 47), ())), cur s i out f)) := by
            cases (chr s (i + 1) == 33) <;> cases (chr s (i + 1) == 63) <;> exact ⟨_, rfl, rfl⟩
          obtain ⟨_, e, rfl⟩ := hc
          rw [e]
          have q6 := fail_eq (Ev.upto N) 141 (i : Int) s i out f (by omega)
          cases h6 : (chr s (i + 1) == 33 || (chr s (i + 1) == 63 || chr s (i + 1) == 47)) with
          | true =>
            have hlt : i + 1 < s.length := by
              rcases Bool.or_eq_true _ _ ▸ h6 with h | h
              · exact chr_lt (beq_iff_eq.1 h) (by decide)
              · rcases Bool.or_eq_true _ _ ▸ h with h | h
                · exact chr_lt (beq_iff_eq.1 h) (by decide)
                · exact chr_lt (beq_iff_eq.1 h) (by decide)
            have q5 := note_eq N s 4 2 [62] i out (f ++ [(141, (i : Int))]) (Or.inl rfl) (by omega) hs (by decide) ho (by simp; omega)
            rw [show ((2 : Nat) : Int) = 2 from rfl] at q5
            rw [if_pos rfl]
            simp -implicitDefEqProofs only [cond_true, Option.bind_some, q6, q5]
          | false =>
            have q5 := tell_eq (Ev.upto N) (tx [60]) s i out (f ++ [(141, (i : Int))]) ho (by decide)
            rw [if_neg (by decide)]
            simp -implicitDefEqProofs only [cond_false, Option.bind_some, q6, q5, w1]
def textS (s : Bs) (i : Nat) (out : List Tok) (f : List Fl) : Nat × List Tok × List Fl :=
  (i + spanN notLt s i, tellS out (tx (dec ((s.drop i).take (spanN notLt s i)) 0).1), f ++ (dec ((s.drop i).take (spanN notLt s i)) (i : Nat)).2)
abbrev St := Nat × List Tok × List Fl
def stepS (s : Bs) (st : St) : St := if (chr s st.1 == 60) = true then signS s st.1 st.2.1 st.2.2 else textS s st.1 st.2.1 st.2.2
def runS (s : Bs) : Nat → St → St
  | 0, st => st
  | n + 1, st => if st.1 < s.length then runS s n (stepS s st) else st
/-! ### How far a step goes, and how much it tells -/
theorem tell_len (out : List Tok) (t : Tok) : (tellS out t).length ≤ out.length + 1 := by
  unfold tellS joinL
  repeat' split
  all_goals simp
theorem tell_data (out : List Tok) (t : Tok) (B : Nat) (h : ∀ u ∈ out, u.2.2.1.length ≤ B) : ∀ u ∈ tellS out t, u.2.2.1.length ≤ B + t.2.2.1.length := by
  intro u hu
  unfold tellS at hu
  have app : u ∈ out ++ [t] → u.2.2.1.length ≤ B + t.2.2.1.length := fun h1 => by
    rcases List.mem_append.1 h1 with h1 | h1
    · have := h u h1; omega
    · rw [List.mem_singleton.1 h1]; omega
  split at hu
  · split at hu
    · have := h u hu; omega
    · split at hu
      · unfold joinL at hu
        split at hu
        · rename_i v hv
          rcases List.mem_or_eq_of_mem_set hu with h1 | h1
          · have := h u h1; omega
          · have := h v (List.mem_of_getElem? hv)
            rw [h1]
            simp only [List.length_append]
            omega
        · have := h u hu; omega
      · exact app hu
  · exact app hu
theorem tagL_le (s : Bs) (k : Int) : ∀ (n i : Nat) (sl : Bool) (l : List Att) (g : List Fl) (r : Nat × Bool × List Att × List Fl), tagL s k n i sl l g = some r → i ≤ r.1 ∧ r.1 < s.length ∧ r.2.2.2.length ≤ g.length + (r.1 - i) * (s.length + 1)
  | 0, i, sl, l, g, r, h => by cases h
  | n + 1, i, sl, l, g, r, h => by
    rw [tagL] at h
    cases hc : s[i]? with
    | none => rw [hc] at h; cases h
    | some c =>
      have hi : i < s.length := (List.getElem?_eq_some_iff.1 hc).1
      rw [hc] at h
      simp only at h
      split at h
      · cases h
        exact ⟨Nat.le_refl _, hi, by simp⟩
      · split at h
        · obtain ⟨h1, h2, h3⟩ := tagL_le s k n (i + 1) _ _ _ _ h
          refine ⟨by omega, h2, Nat.le_trans h3 ?_⟩
          have : (r.1 - (i + 1)) * (s.length + 1) ≤ (r.1 - i) * (s.length + 1) := Nat.mul_le_mul_right _ (by omega)
          omega
        · split at h
          · have al := attS_le k l hi
            have fl := attS_fl s i k l
            obtain ⟨h1, h2, h3⟩ := tagL_le s k n _ _ _ _ _ h
            refine ⟨by omega, h2, Nat.le_trans h3 ?_⟩
            have e : (r.1 - i) * (s.length + 1) = (r.1 - (attS s i k l).2.1) * (s.length + 1) + ((attS s i k l).2.1 - i) * (s.length + 1) := by
              rw [← Nat.add_mul]; congr 1; omega
            have e2 : 1 * (s.length + 1) ≤ ((attS s i k l).2.1 - i) * (s.length + 1) := Nat.mul_le_mul_right _ (by omega)
            rw [List.length_append, e]
            omega
          · cases h
structure Inv (s : Bs) (st : St) : Prop where
  le : st.1 ≤ s.length
  len : st.2.1.length ≤ 2 * st.1
  data : ∀ u ∈ st.2.1, u.2.2.1.length ≤ 70000 * st.1
  fl : st.2.2.length ≤ 32000 * st.1
theorem Inv.okD {s : Bs} {st : St} (h : Inv s st) (hs : s.length ≤ 15000) : okD st.2.1 := ⟨by have := h.len; have := h.le; omega, fun u hu => by have := h.data u hu; have := h.le; omega⟩
theorem dec_fst_len (x : Bs) (a : Int) : (dec x a).1.length ≤ 4 * x.length := (dec_len x.length x a (Nat.le_refl _)).1
theorem raw_inv {s n : Bs} {i j : Nat} {out : List Tok} {f : List Fl} (hs : s.length ≤ 15000) (hj : j ≤ s.length) (hij : i + 1 ≤ j) (hl : out.length ≤ 2 * i + 1) (hd : ∀ u ∈ out, u.2.2.1.length ≤ 70000 * i) (hf : f.length ≤ 32000 * i + 15001 * (j - i)) : Inv s (rawS s n j out f) ∧ j ≤ (rawS s n j out f).1 := by
  have he := endP_le s n j hj
  have hx : (rawX s n j).length ≤ s.length := by unfold rawX; simp; omega
  have h1 := dec_fst_len (rawX s n j) 0
  have h2 := dec_snd_len (rawX s n j) (j : Nat)
  refine ⟨⟨he.2, ?_, ?_, ?_⟩, he.1⟩
  · have h5 : (rawS s n j out f).2.1.length ≤ out.length + 1 := tell_len out (tx (bif plainN n then rawX s n j else (dec (rawX s n j) 0).1))
    have h6 : (rawS s n j out f).1 = endP s n j := rfl
    omega
  · intro u hu
    have := tell_data out (tx (bif plainN n then rawX s n j else (dec (rawX s n j) 0).1)) _ hd u hu
    have hb : (bif plainN n then rawX s n j else (dec (rawX s n j) 0).1).length ≤ 60000 := by cases plainN n <;> simp only [cond_true, cond_false] <;> omega
    show u.2.2.1.length ≤ 70000 * endP s n j
    have : u.2.2.1.length ≤ 70000 * i + (bif plainN n then rawX s n j else (dec (rawX s n j) 0).1).length := this
    omega
  · have h3 : (bif plainN n then ([] : List Fl) else (dec (rawX s n j) (j : Nat)).2).length ≤ 15000 := by cases plainN n <;> simp only [cond_true, cond_false, List.length_nil] <;> omega
    have h4 : (if endP s n j = s.length then [((140 : Int), (j : Int))] else ([] : List Fl)).length ≤ 1 := by split <;> simp
    show (f ++ _ ++ _).length ≤ 32000 * endP s n j
    rw [List.length_append, List.length_append]
    omega
theorem tag_inv {s : Bs} {k : Int} {i i1 : Nat} {out : List Tok} {f : List Fl} (hs : s.length ≤ 15000) (hi : i < i1) (hi1 : i1 ≤ s.length) (h : Inv s (i, out, f)) : Inv s (tagS s k i i1 out f) ∧ i < (tagS s k i i1 out f).1 := by
  obtain ⟨h0, h1, h2, h3⟩ := h
  simp only at h0 h1 h2 h3
  unfold tagS
  have hsp := spanN_le isTag s i1 hi1
  cases hT : tagL s k s.length (tagI s i1) false [] [] with
  | none =>
    refine ⟨⟨Nat.le_refl _, ?_, ?_, ?_⟩, ?_⟩
    · show out.length ≤ 2 * s.length; omega
    · intro u hu; have := h2 u hu; show _ ≤ 70000 * s.length; omega
    · show (f ++ _).length ≤ 32000 * s.length; simp; omega
    · show i < s.length; omega
  | some r =>
    obtain ⟨j, sl, l, g⟩ := r
    obtain ⟨a1, a2, a3⟩ := tagL_le s k _ _ _ _ _ _ hT
    simp only at a1 a2 a3
    have a4 : i1 ≤ tagI s i1 := by unfold tagI; omega
    have a5 : (j - tagI s i1) * (s.length + 1) ≤ (j - i) * 15001 := Nat.mul_le_mul (by omega) (by omega)
    have hd : ∀ u ∈ out ++ [(k, (tagN s i1, (([] : Bs), (l, sl && k == 2))))], u.2.2.1.length ≤ 70000 * i := fun u hu => by
      rcases List.mem_append.1 hu with hu | hu
      · exact h2 u hu
      · rw [List.mem_singleton.1 hu]; simp
    have hg : (f ++ g).length ≤ 32000 * i + 15001 * (j - i) := by
      rw [List.length_append]
      simp only [List.length_nil, Nat.zero_add] at a3
      omega
    simp only
    split
    · have := raw_inv (n := tagN s i1) (i := i) (j := j + 1) (out := out ++ [(k, (tagN s i1, (([] : Bs), (l, sl && k == 2))))]) (f := f ++ g) hs (by omega) (by omega) (by simp; omega) hd (by omega)
      exact ⟨this.1, by omega⟩
    · refine ⟨⟨by show j + 1 ≤ s.length; omega, ?_, ?_, ?_⟩, by show i < j + 1; omega⟩
      · show (out ++ _).length ≤ 2 * (j + 1); simp; omega
      · intro u hu; have := hd u hu; show _ ≤ 70000 * (j + 1); omega
      · show (f ++ g).length ≤ 32000 * (j + 1); omega
theorem note_inv {s e : Bs} {k : Int} {b i : Nat} {out : List Tok} {f : List Fl} (hs : s.length ≤ 15000) (hb : 1 < b) (hi : i + b ≤ s.length) (h0 : i ≤ s.length) (h1 : out.length ≤ 2 * i) (h2 : ∀ u ∈ out, u.2.2.1.length ≤ 70000 * i) (h3 : f.length ≤ 32000 * i + 1) : Inv s (noteS s k b e i out f) ∧ i < (noteS s k b e i out f).1 := by
  have hd : ∀ (x : Bs) (j : Nat), x.length ≤ 15000 → i < j → ∀ u ∈ out ++ [(k, (([] : Bs), ((bif k == 5 then trimB x else x), (([] : List Att), false))))], u.2.2.1.length ≤ 70000 * j := fun x j hx hj u hu => by
    rcases List.mem_append.1 hu with hu | hu
    · have := h2 u hu; omega
    · rw [List.mem_singleton.1 hu]
      have := trim_len x
      show (bif k == 5 then trimB x else x).length ≤ _
      cases (k == 5) <;> simp only [cond_true, cond_false] <;> omega
  unfold noteS
  cases hf : findB (s.drop (i + b)) e with
  | some m =>
    have := (findB_some _ _ _ hf).1
    rw [List.length_drop] at this
    dsimp only
    refine ⟨⟨by show i + b + m + e.length ≤ s.length; omega, ?_, ?_, ?_⟩, by show i < i + b + m + e.length; omega⟩
    · show (out ++ _).length ≤ 2 * (i + b + m + e.length); simp; omega
    · exact hd _ _ (by simp; omega) (by omega)
    · show f.length ≤ 32000 * (i + b + m + e.length); omega
  | none =>
    dsimp only
    refine ⟨⟨Nat.le_refl _, ?_, ?_, ?_⟩, by show i < s.length; omega⟩
    · show (out ++ _).length ≤ 2 * s.length; simp; omega
    · exact hd _ _ (by simp; omega) (by omega)
    · show (f ++ _).length ≤ 32000 * s.length; simp; omega
theorem step_inv {s : Bs} {st : St} (hs : s.length ≤ 15000) (hi : st.1 < s.length) (h : Inv s st) : Inv s (stepS s st) ∧ st.1 < (stepS s st).1 := by
  obtain ⟨i, out, f⟩ := st
  have hI := h
  obtain ⟨h0, h1, h2, h3⟩ := h
  simp only at h0 h1 h2 h3 hi
  unfold stepS
  simp only
  split
  · unfold signS
    split
    · rename_i hl
      exact tag_inv hs (by omega) (by have := letter_lt hl; omega) hI
    · split
      · rename_i hl
        exact tag_inv hs (by omega) (by have := letter_lt (Bool.and_eq_true _ _ ▸ hl : _ ∧ _).2; omega) hI
      · split
        · rename_i hl
          exact note_inv hs (by decide) (by have := isB_lt hl h0; simpa using this) h0 h1 h2 (by omega)
        · split
          · rename_i hl
            exact note_inv hs (by decide) (by have := isB_lt hl h0; simpa using this) h0 h1 h2 (by omega)
          · split
            · rename_i h6
              have hlt : i + 1 < s.length := by
                rcases Bool.or_eq_true _ _ ▸ h6 with h | h
                · exact chr_lt (beq_iff_eq.1 h) (by decide)
                · rcases Bool.or_eq_true _ _ ▸ h with h | h
                  · exact chr_lt (beq_iff_eq.1 h) (by decide)
                  · exact chr_lt (beq_iff_eq.1 h) (by decide)
              exact note_inv hs (by decide) (by omega) h0 h1 h2 (by simp; omega)
            · refine ⟨⟨by show i + 1 ≤ s.length; omega, ?_, ?_, ?_⟩, by show i < i + 1; omega⟩
              · have := tell_len out (tx [60]); show (tellS out (tx [60])).length ≤ 2 * (i + 1); omega
              · intro u hu
                have : u.2.2.1.length ≤ 70000 * i + 1 := tell_data out (tx [60]) _ h2 u hu
                show _ ≤ 70000 * (i + 1); omega
              · show (f ++ _).length ≤ 32000 * (i + 1); simp; omega
  · rename_i hc
    have hsp := spanN_le notLt s i h0
    have hpos : 0 < spanN notLt s i := by
      unfold spanN
      rw [List.drop_eq_getElem_cons hi, List.takeWhile_cons, if_pos, List.length_cons]
      · omega
      · have hcc : chr s i = s[i] := by unfold chr; rw [List.getElem?_eq_getElem hi]; rfl
        rw [hcc] at hc
        have e60 : (((s[i].toNat : Nat) : Int) == 60) = (s[i] == 60) := byteEq s[i] 60 (by decide)
        unfold notLt
        rw [bne, e60]
        simpa using hc
    have hx : ((s.drop i).take (spanN notLt s i)).length ≤ 15000 := by simp; omega
    have d1 := dec_fst_len ((s.drop i).take (spanN notLt s i)) 0
    have d2 := dec_snd_len ((s.drop i).take (spanN notLt s i)) (i : Nat)
    refine ⟨⟨hsp, ?_, ?_, ?_⟩, by show i < i + spanN notLt s i; omega⟩
    · have h5 : (textS s i out f).2.1.length ≤ out.length + 1 := tell_len out (tx (dec ((s.drop i).take (spanN notLt s i)) 0).1)
      have h6 : (textS s i out f).1 = i + spanN notLt s i := rfl
      omega
    · intro u hu
      have := tell_data out (tx (dec ((s.drop i).take (spanN notLt s i)) 0).1) _ h2 u hu
      have : u.2.2.1.length ≤ 70000 * i + (dec ((s.drop i).take (spanN notLt s i)) 0).1.length := this
      show _ ≤ 70000 * (i + spanN notLt s i); omega
    · show (f ++ _).length ≤ 32000 * (i + spanN notLt s i); rw [List.length_append]; omega
end Go.En.Pl
