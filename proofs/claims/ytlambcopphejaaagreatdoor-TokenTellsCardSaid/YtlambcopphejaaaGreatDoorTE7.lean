/- Text TE7 of this seat: written by a program of ours, or by hand; checked by Lean. -/
import Derived.Test.YtlambcopphejaaaGreatDoorTE6
set_option linter.unusedSimpArgs false
set_option linter.unusedVariables false
namespace Go.En.Pl
theorem rtag_good {s : Bs} {k : Int} {i i1 : Nat} {out : List Tok} {f : List Fl} (hs : s.length ≤ 2500) (hi : i < i1) (hi1 : i1 ≤ s.length) (h : Inv s (i, out, f)) : rgood s (rtagS s k i i1 out f) ∧ i < (rtagS s k i i1 out f).1 := by
  obtain ⟨h0, h1, h2, h3⟩ := h
  simp only at h0 h1 h2 h3
  unfold rtagS
  cases hT : tagL s k s.length (tagI s i1) false [] [] with
  | none =>
    refine ⟨⟨Nat.le_refl _, ⟨by show out.length ≤ _; omega, fun u hu => by have := h2 u hu; omega⟩, by show (f ++ _).length ≤ _; simp; omega, Or.inl rfl⟩, by show i < s.length; omega⟩
  | some r =>
    obtain ⟨j, sh, l, g⟩ := r
    obtain ⟨a1, a2, a3⟩ := tagL_le s k _ _ _ _ _ _ hT
    simp only at a1 a2 a3
    have a4 : i1 ≤ tagI s i1 := by unfold tagI; omega
    have a5 : (j - tagI s i1) * (s.length + 1) ≤ 2500 * 2501 := Nat.mul_le_mul (by omega) (by omega)
    simp only [List.length_nil, Nat.zero_add] at a3
    dsimp only
    refine ⟨⟨by show j + 1 ≤ s.length; omega, ⟨by show (out ++ _).length ≤ _; simp; omega, ?_⟩, by show (f ++ g).length ≤ _; simp; omega, ?_⟩, by show i < j + 1; omega⟩
    · intro u hu
      rcases List.mem_append.1 hu with hu | hu
      · have := h2 u hu; omega
      · rw [List.mem_singleton.1 hu]; simp
    · show (if _ then _ else _) = [] ∨ _
      cases hc : (k == 2 && rawN (tagN s i1)) with
      | true =>
        right
        rw [if_pos rfl]
        refine ⟨(Bool.and_eq_true _ _ ▸ hc : _ ∧ _).2, lowerB_low _, ?_⟩
        unfold tagN
        rw [lowerB_length]
        simp; omega
      | false => left; rfl
theorem rsign_good {s : Bs} {i : Nat} {out : List Tok} {f : List Fl} (hs : s.length ≤ 2500) (hi : i < s.length) (hc : (chr s i == 60) = true) (h : Inv s (i, out, f)) : rgood s (rsignS s i out f) ∧ i < (rsignS s i out f).1 := by
  have hst := step_inv (st := (i, out, f)) hs hi h
  have hS : stepS s (i, out, f) = signS s i out f := by unfold stepS; rw [if_pos hc]
  rw [hS] at hst
  unfold rsignS
  split
  · rename_i hl
    exact rtag_good hs (by omega) (by have := letter_lt hl; omega) h
  · split
    · rename_i hl
      exact rtag_good hs (by omega) (by have := letter_lt (Bool.and_eq_true _ _ ▸ hl : _ ∧ _).2; omega) h
    · exact ⟨⟨hst.1.le, hst.1.okD hs, by have := hst.1.fl; have := hst.1.le; show (signS s i out f).2.2.length ≤ _; omega, Or.inl rfl⟩, hst.2⟩
theorem Read_wp (N : Nat) (s : Bs) (hs : s.length ≤ 2500) (hN : 6000 < N) : wp (pounceref14_Read_567 (Ev.upto N) ((s, ()), ())) (fun x => ∃ i r, x = ((), rcur s i r (runT s).2.1 (runT s).2.2)) := by
  unfold pounceref14_Read_567
  generalize hR : runT s = R
  refine wp_bind ?_
  refine wp_it (fun a => ∃ (n : Nat) (x : RSt), a = ((s, ()), rcur s x.1 x.2.1 x.2.2.1 x.2.2.2) ∧ rgood s x ∧ Inv s (flat s x) ∧ x.1 ≤ (flat s x).1 ∧ s.length - (flat s x).1 ≤ n ∧ runS s n (flat s x) = R) (fun a => 2 * (s.length - a.2.1.2.1.toNat) + (if a.2.1.2.2.1 = [] then 0 else 1)) ⟨s.length, (0, [], [], []), rfl, ⟨Nat.zero_le _, ⟨by simp, by simp⟩, by simp, Or.inl rfl⟩, inv0 s, Nat.le_refl _, by show s.length - 0 ≤ _; omega, hR⟩ (by show 2 * (s.length - 0) + 0 < N; omega) ?_
  rintro _ ⟨n, ⟨i, r, out, f⟩, rfl, ⟨g1, g2, g3, g4⟩, hI, hle, hn, hT⟩
  simp only at g1 g2 g3 g4 hle
  have fend : ∀ y : St, s.length ≤ y.1 → runS s n y = y := fun y hy => by
    cases n with
    | zero => rfl
    | succ n => rw [runS, if_neg (by omega)]
  by_cases hi : i < s.length
  · have c0 : decide ((i : Int) < (s.length : Int)) = true := decide_eq_true (by omega)
    simp -implicitDefEqProofs only [c0, cond_true]
    cases hr : (r == ([] : Bs)) with
    | false =>
      have hrne : ¬ r = [] := by simpa using hr
      have hfl : flat s (i, r, out, f) = rawS s r i out f := by unfold flat; rw [if_neg hrne]
      rcases g4 with h | ⟨ga, gb, gc⟩
      · exact absurd h hrne
      · have q1 := rraw_eq N s r i out f ga gb gc (by omega) (by omega) g2 (by omega) (by omega) (by omega)
        rw [hfl] at hI hle hn hT
        simp -implicitDefEqProofs only [Bool.not_false, cond_true, q1, Option.bind_some]
        refine ⟨_, rfl, ⟨n, ((rawS s r i out f).1, [], (rawS s r i out f).2.1, (rawS s r i out f).2.2), rfl, ⟨hI.le, hI.okD hs, by have := hI.fl; have := hI.le; show (rawS s r i out f).2.2.length ≤ _; omega, Or.inl rfl⟩, hI, Nat.le_refl _, hn, hT⟩, ?_⟩
        show 2 * (s.length - (((rawS s r i out f).1 : Nat) : Int).toNat) + (if ([] : Bs) = [] then 0 else 1) < 2 * (s.length - ((i : Nat) : Int).toNat) + (if r = [] then 0 else 1)
        rw [if_pos rfl, if_neg hrne]
        omega
    | true =>
      have hre : r = [] := beq_iff_eq.1 hr
      subst hre
      have hfl : flat s (i, [], out, f) = (i, out, f) := rfl
      rw [hfl] at hI hle hn hT
      simp only at hn
      obtain ⟨n, rfl⟩ : ∃ m, n = m + 1 := ⟨n - 1, by omega⟩
      rw [runS, if_pos hi] at hT
      have hst := step_inv (st := (i, out, f)) hs hi hI
      have hlen := hI.len
      have hfln := hI.fl
      simp only at hlen hfln
      have e60 : (((s[i].toNat : Nat) : Int) == 60) = (chr s i == 60) := by rw [chr_eq hi]; exact byteEq s[i] 60 (by decide)
      simp -implicitDefEqProofs only [Bool.not_true, cond_false, idx_nat hi, Option.bind_some, e60]
      cases h60 : (chr s i == 60) with
      | true =>
        have hS : stepS s (i, out, f) = signS s i out f := by unfold stepS; rw [if_pos h60]
        have q1 := rsign_eq N s i out f hi (by omega) g2 (by omega) (by omega) (by omega) (by omega)
        have hg := rsign_good hs hi h60 hI
        have hff := sign_flat s i out f
        rw [hS, ← hff] at hT hst
        simp -implicitDefEqProofs only [cond_true, q1, Option.bind_some]
        refine ⟨_, rfl, ⟨n, rsignS s i out f, rfl, hg.1, hst.1, ?_, by have := hst.2; simp only at this; omega, hT⟩, ?_⟩
        · unfold flat
          split
          · exact Nat.le_refl _
          · exact (endP_le s _ _ hg.1.1).1
        · show 2 * (s.length - (((rsignS s i out f).1 : Nat) : Int).toNat) + (if (rsignS s i out f).2.1 = [] then 0 else 1) < 2 * (s.length - ((i : Nat) : Int).toNat) + (if ([] : Bs) = [] then 0 else 1)
          have h1 := hg.2
          have h2 := hg.1.1
          rw [if_pos (show ([] : Bs) = [] from rfl)]
          split <;> omega
      | false =>
        have hS : stepS s (i, out, f) = textS s i out f := by unfold stepS; rw [if_neg (by show ¬ (chr s i == 60) = true; rw [h60]; decide)]
        have hsp := spanN_le notLt s i (by omega)
        have q1 := rupto_eq N [60] s i i [] out f (by omega) (by omega) (by decide) (by omega) (by omega)
        rw [← notLt_none] at q1
        have q2 := rdecode_eq N s i (i + spanN notLt s i) i [] out f (by omega) hsp (by omega) (by omega) (by omega) (by omega)
        rw [show (s.take (i + spanN notLt s i)).drop i = (s.drop i).take (spanN notLt s i) by rw [List.drop_take, Nat.add_sub_cancel_left]] at q2
        have d1 := dec_fst_len ((s.drop i).take (spanN notLt s i)) 0
        have hxl : ((s.drop i).take (spanN notLt s i)).length ≤ s.length := by simp; omega
        have q3 := rtextR_eq (Ev.upto N) (dec ((s.drop i).take (spanN notLt s i)) 0).1 s i [] out (f ++ (dec ((s.drop i).take (spanN notLt s i)) (i : Nat)).2) g2 (by omega)
        simp -implicitDefEqProofs only [cond_false, q1, q2, q3, Option.bind_some]
        rw [hS] at hT hst
        have hst2 : i < i + spanN notLt s i := hst.2
        refine ⟨_, rfl, ⟨n, ((textS s i out f).1, [], (textS s i out f).2.1, (textS s i out f).2.2), rfl, ⟨hst.1.le, hst.1.okD hs, by have := hst.1.fl; have := hst.1.le; show (textS s i out f).2.2.length ≤ _; omega, Or.inl rfl⟩, hst.1, Nat.le_refl _, by show s.length - (i + spanN notLt s i) ≤ n; omega, hT⟩, ?_⟩
        show 2 * (s.length - (((i + spanN notLt s i : Nat)) : Int).toNat) + (if ([] : Bs) = [] then 0 else 1) < 2 * (s.length - ((i : Nat) : Int).toNat) + (if ([] : Bs) = [] then 0 else 1)
        rw [if_pos rfl]
        omega
  · have c0 : decide ((i : Int) < (s.length : Int)) = false := decide_eq_false (by omega)
    rw [fend _ (by omega)] at hT
    subst hT
    simp -implicitDefEqProofs only [c0, cond_false]
    refine ⟨_, rfl, ?_⟩
    cases hr : (r == ([] : Bs)) with
    | false =>
      have hrne : ¬ r = [] := by simpa using hr
      have hfl : flat s (i, r, out, f) = rawS s r i out f := by unfold flat; rw [if_neg hrne]
      rcases g4 with h | ⟨ga, gb, gc⟩
      · exact absurd h hrne
      · have q1 := rraw_eq N s r i out f ga gb gc (by omega) (by omega) g2 (by omega) (by omega) (by omega)
        simp -implicitDefEqProofs only [hr, Bool.not_false, cond_true, q1, Option.bind_some]
        exact ⟨_, rfl, _, _, by rw [hfl]⟩
    | true =>
      have hre : r = [] := beq_iff_eq.1 hr
      subst hre
      simp -implicitDefEqProofs only [Bool.not_true, cond_false, Option.bind_some]
      exact ⟨_, rfl, _, _, rfl⟩
theorem rTokens_wp (N : Nat) (s : Bs) (hs : s.length ≤ 2500) (hN : 6000 < N) : pounceref14_Tokens_ (Ev.upto N) ((s, ()), ()) = some ((0, ()), ((runT s).2.1, ((runT s).2.2, ()))) := by
  unfold pounceref14_Tokens_
  obtain ⟨_, e, i, r, rfl⟩ := Read_wp N s hs hN
  rw [show decide ((s.length : Int) > 20000) = false from decide_eq_false (by omega), cond_false, e]
  rfl
theorem tagL_al (s : Bs) (k : Int) : ∀ (n i : Nat) (sl : Bool) (l : List Att) (g : List Fl) (r : Nat × Bool × List Att × List Fl), l.length ≤ 30 → tagL s k n i sl l g = some r → r.2.2.1.length ≤ 30
  | 0, i, sl, l, g, r, _, h => by cases h
  | n + 1, i, sl, l, g, r, hl, h => by
    rw [tagL] at h
    cases hc : s[i]? with
    | none => rw [hc] at h; cases h
    | some c =>
      rw [hc] at h
      simp only at h
      split at h
      · cases h; exact hl
      · split at h
        · exact tagL_al s k n _ _ _ _ _ hl h
        · split at h
          · exact tagL_al s k n _ _ _ _ _ (attS_al s i k l hl) h
          · cases h
def alOK (out : List Tok) : Prop := ∀ u ∈ out, u.2.2.2.1.length ≤ 30
theorem tell_al {out : List Tok} {t : Tok} (h : alOK out) (ht : t.2.2.2.1.length ≤ 30) : alOK (tellS out t) := by
  intro u hu
  have app : u ∈ out ++ [t] → u.2.2.2.1.length ≤ 30 := fun h1 => by
    rcases List.mem_append.1 h1 with h1 | h1
    · exact h u h1
    · rw [List.mem_singleton.1 h1]; exact ht
  unfold tellS at hu
  split at hu
  · split at hu
    · exact h u hu
    · split at hu
      · unfold joinL at hu
        split at hu
        · rename_i v hv
          rcases List.mem_or_eq_of_mem_set hu with h1 | h1
          · exact h u h1
          · rw [h1]; exact h v (List.mem_of_getElem? hv)
        · exact h u hu
      · exact app hu
  · exact app hu
theorem app_al {out : List Tok} {t : Tok} (h : alOK out) (ht : t.2.2.2.1.length ≤ 30) : alOK (out ++ [t]) := by
  intro u hu
  rcases List.mem_append.1 hu with h1 | h1
  · exact h u h1
  · rw [List.mem_singleton.1 h1]; exact ht
theorem raw_al {s n : Bs} {i : Nat} {out : List Tok} {f : List Fl} (h : alOK out) : alOK (rawS s n i out f).2.1 := tell_al (t := tx (bif plainN n then rawX s n i else (dec (rawX s n i) 0).1)) h (Nat.zero_le 30)
theorem tag_al {s : Bs} {k : Int} {i i1 : Nat} {out : List Tok} {f : List Fl} (h : alOK out) : alOK (tagS s k i i1 out f).2.1 := by
  unfold tagS
  cases hT : tagL s k s.length (tagI s i1) false [] [] with
  | none => exact h
  | some r =>
    obtain ⟨j, sh, l, g⟩ := r
    have := tagL_al s k _ _ _ _ _ _ (by simp) hT
    dsimp only
    split
    · exact raw_al (app_al h this)
    · exact app_al h this
theorem note_al {s e : Bs} {k : Int} {b i : Nat} {out : List Tok} {f : List Fl} (h : alOK out) : alOK (noteS s k b e i out f).2.1 := by
  unfold noteS
  split
  · exact app_al h (by simp)
  · exact app_al h (by simp)
theorem step_al {s : Bs} {st : St} (h : alOK st.2.1) : alOK (stepS s st).2.1 := by
  unfold stepS
  split
  · unfold signS
    split
    · exact tag_al h
    · split
      · exact tag_al h
      · split
        · exact note_al h
        · split
          · exact note_al h
          · split
            · exact note_al h
            · exact tell_al (t := tx [60]) h (Nat.zero_le 30)
  · exact tell_al (t := tx (dec ((s.drop st.1).take (spanN notLt s st.1)) 0).1) h (Nat.zero_le 30)
theorem run_al (s : Bs) : ∀ (n : Nat) (st : St), alOK st.2.1 → alOK (runS s n st).2.1
  | 0, st, h => h
  | n + 1, st, h => by
    rw [runS]
    split
    · exact run_al s n _ (step_al h)
    · exact h
theorem run_inv {s : Bs} (hs : s.length ≤ 2500) : ∀ (n : Nat) (st : St), Inv s st → Inv s (runS s n st)
  | 0, st, h => h
  | n + 1, st, h => by
    rw [runS]
    split
    · rename_i hi
      exact run_inv hs n _ (step_inv hs hi h).1
    · exact h
theorem exT : pouncelaw14_tokens_ (Ev.upto 200000000) ((), ()) = some ((true, ()), ()) := by kernel_rfl
theorem Same2_eq (N : Nat) (l : List Tok) (hl : l.length < N) (hb : l.length ≤ 1000000000) (h : ∀ t ∈ l, t.2.2.2.1.length ≤ 4000) (hN : 4000 < N) : pounceref14_Same_ (Ev.upto N) ((l, (l, ())), ()) = some ((true, ()), ()) := by
  apply wp_eq
  unfold pounceref14_Same_
  have cz : ((l.length : Int) != (l.length : Int)) = false := by simp
  simp -implicitDefEqProofs only [cz, cond_false]
  refine wp_bind ?_
  refine wp_for (σ := Unit) (fun i _ => ((l, (l, ((i : Int), ()))), ())) (fun i _ => True) l.length () rfl trivial (by omega) ?_
  rintro i _ hi _
  by_cases hi' : i < l.length
  · have c0 : decide ((i : Int) < (l.length : Int)) = true := decide_eq_true (by omega)
    have w : IntKind.wrap .i64 ((i : Int) + 1) = ((i + 1 : Nat) : Int) := by rw [wrap64 (by omega) (by omega)]; omega
    have q := One_eq N l[i] (h _ (List.getElem_mem hi')) hN
    simp -implicitDefEqProofs only [c0, cond_true, idx_nat hi', Option.bind_some, w, q, Bool.not_true, cond_false]
    exact ⟨_, rfl, hi', (), rfl, trivial⟩
  · have c0 : decide ((i : Int) < (l.length : Int)) = false := decide_eq_false (by omega)
    simp -implicitDefEqProofs only [c0, cond_false]
    exact ⟨_, rfl, _, rfl, rfl⟩
theorem Fails2_eq (N : Nat) (l : List (Int × Int)) (hN : l.length < N) (h : l.length ≤ 1000000000) : pounceref13_Fails_ (Ev.upto N) ((l, (l, ())), ()) = some ((true, ()), ()) := by
  apply wp_eq
  unfold pounceref13_Fails_
  simp -implicitDefEqProofs only [bne_self_eq_false, cond_false]
  refine wp_bind ?_
  refine wp_for (σ := Unit) (fun i _ => ((l, (l, ((i : Int), ()))), ())) (fun _ _ => True) l.length () rfl trivial hN ?_
  rintro i _ hi _
  by_cases hi' : i < l.length
  · have c0 : decide ((i : Int) < ((l.length : Nat) : Int)) = true := decide_eq_true (by omega)
    have w : IntKind.wrap .i64 ((i : Int) + 1) = ((i + 1 : Nat) : Int) := by rw [wrap64 (by omega) (by omega)]; omega
    simp -implicitDefEqProofs only [c0, cond_true, idx_nat hi', Option.bind_some, beq_self_eq_true, Bool.and_self, Bool.not_true, cond_false, w]
    exact ⟨_, rfl, hi', (), rfl, trivial⟩
  · have c0 : decide ((i : Int) < ((l.length : Nat) : Int)) = false := decide_eq_false (by omega)
    simp -implicitDefEqProofs only [c0, cond_false]
    exact ⟨_, rfl, ⟨_, rfl, rfl⟩⟩
theorem tells_body (s n : Bs) (e : Int) (l : List Tok) (f : List Fl) (h1 : token_Tokens_ (Ev.upto 200000000) ((s, ()), ()) = some ((e, ()), (l, (f, ())))) (h2 : pounceref14_Tokens_ (Ev.upto 200000000) ((s, ()), ()) = some ((e, ()), (l, (f, ())))) (hl : l.length ≤ 100000000) (ha : ∀ t ∈ l, t.2.2.2.1.length ≤ 4000) (hf : f.length ≤ 100000000) :
    ((token_Tokens_ (Ev.upto 200000000) ((s, ()), ())).bind fun v2 => ((pounceref14_Tokens_ (Ev.upto 200000000) ((s, ()), ())).bind fun v3 => (((pouncelaw14_tokens_ (Ev.upto 200000000) ((), ())).bind fun v4 => (bif (v4.1.1 == true) then ((pounceref14_Same_ (Ev.upto 200000000) ((v2.2.1, (v3.2.1, ())), ())).bind fun v5 => (bif (v5.1.1 == true) then ((pounceref13_Fails_ (Ev.upto 200000000) ((v2.2.2.1, (v3.2.2.1, ())), ())).bind fun v6 => (bif (v6.1.1 == true) then (bif ((v2.1.1 == v3.1.1) == true) then ((token_Raw_ (Ev.upto 200000000) ((n, ()), ())).bind fun v7 => ((pounceref14_Raw_ (Ev.upto 200000000) ((n, ()), ())).bind fun v8 => (some (((v7.1.1 == v8.1.1), ()), ())))) else (some ((false, ()), ()))) else (some ((false, ()), ())))) else (some ((false, ()), ())))) else (some ((false, ()), ())) : Option ((Bool × Unit) × Unit))).bind fun o9 => (some ((o9.1.1, ()), ()) : Option ((Bool × Unit) × Unit))))) = some ((true, ()), ()) := by
  have q1 := Same2_eq 200000000 l (by omega) (by omega) ha (by decide)
  have q2 := Fails2_eq 200000000 f (by omega) (by omega)
  have q3 := Raw_eq (Ev.upto 200000000) n
  have q4 := rRaw_eq (Ev.upto 200000000) n
  simp -implicitDefEqProofs only [h1, h2, Option.bind_some]
  rw [exT]
  simp -implicitDefEqProofs only [Option.bind_some, beq_self_eq_true, cond_true, q1, q2, q3, q4]
theorem plainTells (s n : Bs) : pouncelaw14_TokenTells_ (Ev.upto 200000000) ((s, (n, ())), ()) = some ((true, ()), ()) := by
  have guard : ∃ b, ((bif (decide ((s.length : Int) > (2500 : Int)) == true) then (bif (decide ((s.length : Int) ≤ (20000 : Int)) == false) then (bif (decide ((s.length : Int) > (30000 : Int)) == false) then (some ((s, (n, (decide ((n.length : Int) > (300 : Int)), ()))), ())) else (some ((s, (n, (true, ()))), ()))) else (some ((s, (n, (true, ()))), ()))) else (bif (decide ((s.length : Int) > (30000 : Int)) == false) then (some ((s, (n, (decide ((n.length : Int) > (300 : Int)), ()))), ())) else (some ((s, (n, (true, ()))), ()))) : Option ((Bs × Bs × Bool × Unit) × Unit))) = some ((s, (n, (b, ()))), ()) ∧ (b = false → s.length ≤ 2500 ∨ 20000 < s.length) := by
    by_cases h1 : 2500 < s.length
    · rw [show decide ((s.length : Int) > (2500 : Int)) = true from decide_eq_true (by omega)]
      by_cases h2 : s.length ≤ 20000
      · rw [show decide ((s.length : Int) ≤ (20000 : Int)) = true from decide_eq_true (by omega)]
        exact ⟨true, rfl, fun h => by cases h⟩
      · rw [show decide ((s.length : Int) ≤ (20000 : Int)) = false from decide_eq_false (by omega)]
        cases decide ((s.length : Int) > (30000 : Int))
        · exact ⟨_, rfl, fun _ => Or.inr (by omega)⟩
        · exact ⟨_, rfl, fun _ => Or.inr (by omega)⟩
    · rw [show decide ((s.length : Int) > (2500 : Int)) = false from decide_eq_false (by omega)]
      cases decide ((s.length : Int) > (30000 : Int))
      · exact ⟨_, rfl, fun _ => Or.inl (by omega)⟩
      · exact ⟨_, rfl, fun _ => Or.inl (by omega)⟩
  obtain ⟨b, e, hb⟩ := guard
  unfold pouncelaw14_TokenTells_
  simp -implicitDefEqProofs only [e, Option.bind_some]
  cases b with
  | true => rfl
  | false =>
    simp -implicitDefEqProofs only [cond_false]
    rcases hb rfl with h | h
    · have hI := run_inv h s.length _ (inv0 s)
      have hA := run_al s s.length (0, [], []) (fun u hu => by cases hu)
      have h1 := hI.len
      have h2 := hI.fl
      have h3 := hI.le
      exact tells_body s n 0 (runT s).2.1 (runT s).2.2 (Tokens_eq 200000000 s h (by decide)) (rTokens_wp 200000000 s h (by decide)) (by show (runS s s.length (0, [], [])).2.1.length ≤ _; omega) (fun t ht => by have := hA t ht; omega) (by show (runS s s.length (0, [], [])).2.2.length ≤ _; omega)
    · have c : decide ((s.length : Int) > (20000 : Int)) = true := decide_eq_true (by omega)
      have t1 : token_Tokens_ (Ev.upto 200000000) ((s, ()), ()) = some ((2, ()), ([], ([], ()))) := by unfold token_Tokens_; rw [c]; rfl
      have t2 : pounceref14_Tokens_ (Ev.upto 200000000) ((s, ()), ()) = some ((2, ()), ([], ([], ()))) := by unfold pounceref14_Tokens_; rw [c]; rfl
      exact tells_body s n 2 [] [] t1 t2 (by simp) (by simp) (by simp)
end Go.En.Pl
