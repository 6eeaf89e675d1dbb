/- Text TT1 of this seat: written by a program of ours, or by hand; checked by Lean. -/
import Derived.Test.YtlambcopphejaaaGreatDoorTD8
import Derived.Test.YtlambcopphejaaaGreatDoorPTa
set_option linter.unusedSimpArgs false
set_option linter.unusedVariables false
namespace Go.En.Pl
abbrev Fl := Int × Int
abbrev cur (s : Bs) (i : Nat) (out : List Tok) (f : List Fl) : (Bs × Int × Unit) × (List Tok) × (List Fl) × Unit := ((s, ((i : Int), ())), (out, (f, ())))
theorem takeWhile_take {p : UInt8 → Bool} : ∀ (l : Bs) (k : Nat), (∀ c ∈ l.take k, p c = true) → (k ≤ l.length) → (∀ h : k < l.length, p l[k] = false) → l.takeWhile p = l.take k
  | [], k, _, hk, _ => by simp
  | c :: l, 0, _, _, h => by
    have := h (by simp)
    simp only [List.getElem_cons_zero] at this
    simp [this]
  | c :: l, k + 1, ha, hk, h => by
    have h1 : p c = true := ha c (by simp)
    rw [List.takeWhile_cons, if_pos h1, List.take_succ_cons, takeWhile_take l k (fun d hd => ha d (by simp [hd])) (by simpa using hk) (fun hh => by have := h (by simpa using hh); simpa using this)]
theorem take_loop (N : Nat) (s : Bs) (i : Nat) (out : List Tok) (f : List Fl) (P : Int → Option ((Bool × Unit) × Unit)) (p : UInt8 → Bool) (hP : ∀ c : UInt8, P (c.toNat : Int) = some ((p c, ()), ())) (hi : i ≤ s.length) (hs : s.length ≤ 1000000) (hN : s.length < N) :
    ((((Ev.upto N).it (fun (s1 : (Int × Unit) × ((Bs × Int × Unit) × (List Tok) × (List Fl) × Unit)) => ((bif (decide (s1.2.1.2.1 < ((s1.2.1.1).length : Int)) == true) then ((idx s1.2.1.1 s1.2.1.2.1).bind fun v2 => ((P ((v2).toNat : Int)).bind fun v3 => (some ((s1.1.1, (v3.1.1, ())), ((s1.2.1.1, (s1.2.1.2.1, ())), (s1.2.2.1, (s1.2.2.2.1, ()))))))) else (some ((s1.1.1, (false, ())), ((s1.2.1.1, (s1.2.1.2.1, ())), (s1.2.2.1, (s1.2.2.2.1, ())))))).bind fun o4 => (bif o4.1.2.1 then (some (Sum.inl ((o4.1.1, ()), ((o4.2.1.1, ((IntKind.wrap .i64 (o4.2.1.2.1 + (1 : Int))), ())), (o4.2.2.1, (o4.2.2.2.1, ())))))) else (some (Sum.inr (((o4.1.1, ()), ((o4.2.1.1, (o4.2.1.2.1, ())), (o4.2.2.1, (o4.2.2.2.1, ())))) : (Int × Unit) × ((Bs × Int × Unit) × (List Tok) × (List Fl) × Unit))))))) ((((i : Nat) : Int), ()), cur s i out f)).bind fun o5 => ((sl o5.2.1.1 o5.1.1 o5.2.1.2.1).bind fun v6 => (some ((v6, ()), ((o5.2.1.1, (o5.2.1.2.1, ())), (o5.2.2.1, (o5.2.2.2.1, ())))))))) = some (((s.drop i).takeWhile p, ()), cur s (i + ((s.drop i).takeWhile p).length) out f) := by
  apply wp_eq
  refine wp_bind ?_
  refine wp_it (fun a => ∃ j, a = ((((i : Nat) : Int), ()), cur s j out f) ∧ i ≤ j ∧ j ≤ s.length ∧ ∀ c ∈ (s.drop i).take (j - i), p c = true) (fun a => s.length - a.2.1.2.1.toNat) ⟨i, rfl, Nat.le_refl _, hi, by simp⟩ (by simp; omega) ?_
  rintro _ ⟨j, rfl, hij, hj, ha⟩
  have done : (∀ h : j < s.length, p s[j] = false) → (s.drop i).takeWhile p = (s.drop i).take (j - i) := fun h => by
    refine takeWhile_take _ _ ha (by simp; omega) ?_
    intro hh
    have hh' : j < s.length := by simp at hh; omega
    have := h hh'
    rw [List.getElem_drop]
    simpa [show i + (j - i) = j by omega] using this
  have fin : (∀ h : j < s.length, p s[j] = false) → wp ((sl s ((i : Nat) : Int) ((j : Nat) : Int)).bind fun v6 => (some ((v6, ()), cur s j out f))) (fun x => x = (((s.drop i).takeWhile p, ()), cur s (i + ((s.drop i).takeWhile p).length) out f)) := fun h => by
    rw [sl_nat hij hj]
    refine ⟨_, rfl, ?_⟩
    rw [done h]
    have e1 : (s.take j).drop i = (s.drop i).take (j - i) := by rw [List.drop_take]
    have e2 : i + ((s.drop i).take (j - i)).length = j := by simp; omega
    rw [e2, e1]
  by_cases hjl : j < s.length
  · have c0 : (decide ((j : Int) < (s.length : Int)) == true) = true := by rw [show decide ((j : Int) < (s.length : Int)) = true from decide_eq_true (by omega)]; rfl
    have w : IntKind.wrap .i64 ((j : Int) + 1) = ((j + 1 : Nat) : Int) := by rw [wrap64 (by omega) (by omega)]; omega
    simp -implicitDefEqProofs only [c0, cond_true, idx_nat hjl, Option.bind_some, hP]
    cases hp : p s[j] with
    | true =>
      simp -implicitDefEqProofs only [cond_true, w]
      refine ⟨_, rfl, ⟨j + 1, rfl, by omega, by omega, ?_⟩, by simp; omega⟩
      intro c hc
      have hd : j - i < (s.drop i).length := by simp; omega
      rw [show j + 1 - i = (j - i) + 1 by omega, List.take_succ_eq_append_getElem hd, List.mem_append, List.mem_singleton] at hc
      rcases hc with hc | rfl
      · exact ha c hc
      · rw [List.getElem_drop]
        simpa [show i + (j - i) = j by omega] using hp
    | false =>
      simp -implicitDefEqProofs only [cond_false]
      exact ⟨_, rfl, fin (fun _ => hp)⟩
  · have c0 : (decide ((j : Int) < (s.length : Int)) == true) = false := by rw [show decide ((j : Int) < (s.length : Int)) = false from decide_eq_false (by omega)]; rfl
    simp -implicitDefEqProofs only [c0, cond_false, Option.bind_some]
    exact ⟨_, rfl, fin (fun h => absurd h hjl)⟩
def notLt (c : UInt8) : Bool := ((c.toNat : Int) != 60)
theorem takeLt_eq (N : Nat) (s : Bs) (i : Nat) (out : List Tok) (f : List Fl) (hi : i ≤ s.length) (hs : s.length ≤ 1000000) (hN : s.length < N) : token_text_take_dc0 (Ev.upto N) ((), cur s i out f) = some (((s.drop i).takeWhile notLt, ()), cur s (i + ((s.drop i).takeWhile notLt).length) out f) :=
  take_loop N s i out f (fun n => token_Tokens_1_ (Ev.upto N) ((n, ()), ())) notLt (fun c => rfl) hi hs hN
theorem fitsL {n k : Nat} (h : n * k ≤ 100000000000000) : fits n k = true := decide_eq_true (Nat.le_trans h (by decide))
theorem strFitsL {n : Nat} (h : n ≤ 100000000000000) : strFits n = true := decide_eq_true (Nat.le_trans h (by decide))
theorem fail_eq (V : Ev) (e a : Int) (s : Bs) (i : Nat) (out : List Tok) (f : List Fl) (hf : f.length ≤ 1000000000) : token_cursor_fail_deb V ((e, (a, ())), cur s i out f) = some ((), cur s i out (f ++ [(e, a)])) := by
  unfold token_cursor_fail_deb
  have g : fits (f.length + ([(e, a)] : List Fl).length) 16 = true := fitsL (by simp; omega)
  show (bif fits (f.length + ([(e, a)] : List Fl).length) 16 then _ else _) = _
  rw [g]
  rfl
theorem decoded_eq (N : Nat) (x : Bs) (a : Nat) (s : Bs) (i : Nat) (out : List Tok) (f : List Fl) (hx : x.length ≤ 15000) (ha : a ≤ 1000000) (hf : f.length + x.length ≤ 1000000000) (hN : x.length < N) (h8 : 8 < N) :
    token_cursor_decoded_f56 (Ev.upto N) ((x, ((a : Int), ())), cur s i out f) = some (((dec x 0).1, ()), cur s i out (f ++ (dec x a).2)) := by
  have hd := entity_Decode_eq N x hx hN h8
  have hl := (dec_len x.length x 0 (Nat.le_refl _)).2
  have hp := dec_pos x.length x 0
  rw [dec_shift x a]
  generalize hD : dec x 0 = D at *
  have hp' : ∀ p ∈ D.2, 0 ≤ p.2 ∧ p.2 ≤ x.length := fun p h => by
    have := hp p (by rw [show decB x.length x 0 = D from hD]; exact h)
    omega
  apply wp_eq
  unfold token_cursor_decoded_f56
  simp -implicitDefEqProofs only [Option.bind_some, hd]
  refine wp_bind ?_
  refine wp_for (σ := Unit) (fun j _ => (((a : Int), (D.1, ((D.2.length : Int), ((j : Int), ())))), ((s, ((i : Int), ())), (D.2, (out, (f ++ (D.2.take j).map (fun p => (p.1, p.2 + (a : Int))), ())))))) (fun _ _ => True) D.2.length () (by simp) trivial (by omega) ?_
  rintro j _ hj _
  by_cases hj' : j < D.2.length
  · have c0 : decide ((j : Int) < (D.2.length : Int)) = true := decide_eq_true (by omega)
    have c1 : decide (0 ≤ (j : Int)) = true := decide_eq_true (by omega)
    have w : IntKind.wrap .i64 ((j : Int) + 1) = ((j + 1 : Nat) : Int) := by rw [wrap64 (by omega) (by omega)]; omega
    have hq := hp' D.2[j] (List.getElem_mem hj')
    have w2 : IntKind.wrap .i64 ((a : Int) + D.2[j].2) = D.2[j].2 + (a : Int) := by rw [wrap64 (by omega) (by omega)]; omega
    have q := fail_eq (Ev.upto N) D.2[j].1 (D.2[j].2 + (a : Int)) s i out (f ++ (D.2.take j).map (fun p => (p.1, p.2 + (a : Int)))) (by simp; omega)
    have ij : D.2[((j : Nat) : Int).toNat]? = some D.2[j] := by rw [Int.toNat_natCast]; exact List.getElem?_eq_getElem hj'
    simp -implicitDefEqProofs only [c0, c1, Bool.and_self, Bool.and_true, cond_true, ij, Option.bind_some, w2, q, w]
    refine ⟨_, rfl, hj', (), ?_, trivial⟩
    rw [List.take_succ_eq_append_getElem hj', List.map_append]
    simp only [List.map_cons, List.map_nil, List.append_assoc]
  · have c0 : decide ((j : Int) < (D.2.length : Int)) = false := decide_eq_false (by omega)
    have ht : D.2.take j = D.2 := List.take_of_length_le (by omega)
    simp -implicitDefEqProofs only [c0, cond_false, ht]
    exact ⟨_, rfl, _, rfl, rfl⟩
abbrev tx (d : Bs) : Tok := ((1 : Int), (([] : Bs), (d, (([] : List Att), false))))
theorem tell_first (V : Ev) (d : Bs) (hd : d ≠ []) (s : Bs) (i : Nat) (f : List Fl) : token_cursor_tell_3d6 V ((tx d, ()), cur s i [] f) = some ((), cur s i [tx d] f) := by
  unfold token_cursor_tell_3d6
  have e : (d == ([] : Bs)) = false := by simp [hd]
  have w : IntKind.wrap .i64 ((([] : List Tok).length : Int) - 1) = -1 := rfl
  have g : fits (([] : List Tok).length + ([tx d] : List Tok).length) 72 = true := rfl
  have c1 : (decide ((-1 : Int) ≥ 0) == true) = false := rfl
  have c2 : (((1 : Int) == 1) == true) = true := rfl
  simp -implicitDefEqProofs only [Option.bind_some, c2, e, w, c1, cond_true, cond_false]
  rw [g, cond_true]
  rfl
theorem notLt_all {s : Bs} (h : (60 : UInt8) ∉ s) : s.takeWhile notLt = s := by
  rw [takeWhile_take s s.length ?_ (Nat.le_refl _) (fun h => absurd h (Nat.lt_irrefl _)), List.take_length]
  rw [List.take_length]
  intro c hc
  unfold notLt
  simp only [bne_iff_ne, ne_eq]
  intro e
  apply h
  have : c = 60 := UInt8.toNat_inj.1 (by show c.toNat = 60; omega)
  rwa [← this]
theorem Tokens_plain (N : Nat) (s : Bs) (hs : s.length ≤ 2500) (h : (60 : UInt8) ∉ s) (hN : 4000 < N) : token_Tokens_ (Ev.upto N) ((s, ()), ()) = some ((0, ()), ((if s = [] then [] else [tx (dec s 0).1]), ((dec s 0).2, ()))) := by
  apply wp_eq
  unfold token_Tokens_
  rw [show decide ((s.length : Int) > 20000) = false from decide_eq_false (by omega), cond_false]
  refine wp_bind ?_
  refine wp_it (fun a => (a = ((s, ()), cur s 0 [] [])) ∨ (s ≠ [] ∧ a = ((s, ()), cur s s.length [tx (dec s 0).1] (dec s 0).2))) (fun a => s.length - a.2.1.2.1.toNat) (Or.inl rfl) (by simp; omega) ?_
  rintro _ (rfl | ⟨hne, rfl⟩)
  · cases hs0 : s with
    | nil => exact ⟨_, rfl, _, rfl, rfl⟩
    | cons c r =>
      rw [← hs0]
      have hne : s ≠ [] := by rw [hs0]; simp
      have hl : 0 < s.length := List.length_pos_iff.2 hne
      have c0 : decide (((0 : Nat) : Int) < (s.length : Int)) = true := decide_eq_true (by omega)
      have q1 := takeLt_eq N s 0 [] [] (by omega) (by omega) (by omega)
      rw [List.drop_zero, notLt_all h, Nat.zero_add] at q1
      have q2 : token_cursor_decoded_f56 (Ev.upto N) ((s, (((0 : Nat) : Int), ())), cur s s.length [] []) = some (((dec s 0).1, ()), cur s s.length [] (dec s 0).2) := decoded_eq N s 0 s s.length [] [] (by omega) (by omega) (by simp; omega) (by omega) (by omega)
      have q3 := tell_first (Ev.upto N) (dec s 0).1 (dec_ne hne 0) s s.length ((dec s 0).2)
      have e0 : (((s[0].toNat : Nat) : Int) == 60) = false := by
        simp only [beq_eq_false_iff_ne, ne_eq]
        intro e
        apply h
        have : s[0] = 60 := UInt8.toNat_inj.1 (by show s[0].toNat = 60; omega)
        rw [← this]
        exact List.getElem_mem hl
      simp -implicitDefEqProofs only [c0, cond_true, idx_nat hl, Option.bind_some, e0, cond_false, q1]
      simp -implicitDefEqProofs only [q2, Option.bind_some, q3]
      exact ⟨_, rfl, Or.inr ⟨hne, rfl⟩, by simp; omega⟩
  · have c0 : decide (((s.length : Nat) : Int) < (s.length : Int)) = false := decide_eq_false (by omega)
    simp -implicitDefEqProofs only [c0, cond_false]
    exact ⟨_, rfl, _, rfl, by rw [if_neg hne]⟩
theorem plainPlain (s : Bs) : pouncelaw14_TokenPlain_ (Ev.upto 5000) ((s, ()), ()) = some ((true, ()), ()) := by
  apply wp_eq
  unfold pouncelaw14_TokenPlain_
  by_cases hs : 2500 < s.length
  · rw [show decide ((s.length : Int) > 2500) = true from decide_eq_true (by omega)]
    exact ⟨_, rfl, rfl⟩
  · rw [show decide ((s.length : Int) > 2500) = false from decide_eq_false (by omega), cond_false]
    refine wp_bind ?_
    refine wp_for (σ := Unit) (fun i _ => ((s, ((i : Int), ())), ())) (fun i _ => (60 : UInt8) ∉ s.take i) s.length () rfl (by simp) (by omega) ?_
    rintro i _ hi hn
    by_cases hi' : i < s.length
    · have c0 : decide ((i : Int) < (s.length : Int)) = true := decide_eq_true (by omega)
      have w : IntKind.wrap .i64 ((i : Int) + 1) = ((i + 1 : Nat) : Int) := by rw [wrap64 (by omega) (by omega)]; omega
      simp -implicitDefEqProofs only [c0, cond_true, idx_nat hi', Option.bind_some]
      cases e : (((s[i].toNat : Nat) : Int) == 60) with
      | true =>
        simp -implicitDefEqProofs only [cond_true]
        rw [ext]
        exact ⟨_, rfl, _, rfl, rfl⟩
      | false =>
        simp -implicitDefEqProofs only [cond_false, w]
        refine ⟨_, rfl, hi', (), rfl, ?_⟩
        rw [List.take_succ_eq_append_getElem hi', List.mem_append, List.mem_singleton]
        rintro (h | h)
        · exact hn h
        · rw [← h] at e
          exact absurd e (by decide)
    · have c0 : decide ((i : Int) < (s.length : Int)) = false := decide_eq_false (by omega)
      rw [List.take_of_length_le (by omega)] at hn
      simp -implicitDefEqProofs only [c0, cond_false]
      refine ⟨_, rfl, ?_⟩
      have q1 := Tokens_plain 5000 s (by omega) hn (by decide)
      have q2 := entity_Decode_eq 5000 s (by omega) (by omega) (by decide)
      have hl := (dec_len s.length s 0 (Nat.le_refl _)).2
      have q3 := Fails_eq 5000 (dec s 0).2 (by omega) (by omega)
      have q4 := Same_eq 5000 [tx (dec s 0).1] (by simp) (by simp) (by decide)
      simp -implicitDefEqProofs only [q1, q2, Option.bind_some]
      rw [ext]
      cases s with
      | nil => exact ⟨_, rfl, rfl⟩
      | cons c r =>
        have e : ((c :: r) == ([] : Bs)) = false := rfl
        have e2 : (if (c :: r) = [] then ([] : List Tok) else [tx (dec (c :: r) 0).1]) = [tx (dec (c :: r) 0).1] := if_neg (by simp)
        simp -implicitDefEqProofs only [e, cond_false, Option.bind_some, beq_self_eq_true, cond_true, e2, q4, q3]
        exact ⟨_, rfl, rfl⟩
end Go.En.Pl
