/- Text TE2 of this seat: written by a program of ours, or by hand; checked by Lean. -/
import Derived.Test.YtlambcopphejaaaGreatDoorTT8
import Derived.Test.YtlambcopphejaaaGreatDoorTE1
set_option linter.unusedSimpArgs false
set_option linter.unusedVariables false
namespace Go.En.Pl
abbrev rcur (s : Bs) (i : Nat) (rw' : Bs) (out : List Tok) (f : List Fl) : (Bs × Int × Bs × Unit) × (List Tok) × (List Fl) × Unit := ((s, ((i : Int), (rw', ()))), (out, (f, ())))
theorem rfail_eq (V : Ev) (e a : Int) (s : Bs) (i : Nat) (r : Bs) (out : List Tok) (f : List Fl) (hf : f.length ≤ 1000000000) : pounceref14_Reader_fail_d75 V ((e, (a, ())), rcur s i r out f) = some ((), rcur s i r out (f ++ [(e, a)])) := by
  unfold pounceref14_Reader_fail_d75
  have g : fits (f.length + ([(e, a)] : List Fl).length) 16 = true := fitsL (by simp; omega)
  show (bif fits (f.length + ([(e, a)] : List Fl).length) 16 then _ else _) = _
  rw [g]
  rfl
theorem span_at {p : UInt8 → Bool} {s : Bs} {i j : Nat} (hij : i ≤ j) (hj : j ≤ s.length) (ha : ∀ c ∈ (s.drop i).take (j - i), p c = true) (h : ∀ h : j < s.length, p s[j] = false) : i + spanN p s i = j := by
  have : (s.drop i).takeWhile p = (s.drop i).take (j - i) := by
    refine takeWhile_take _ _ ha (by simp; omega) ?_
    intro hh
    have hh' : j < s.length := by simp at hh; omega
    have := h hh'
    rw [List.getElem_drop]
    simpa [show i + (j - i) = j by omega] using this
  unfold spanN
  rw [this]
  simp; omega
theorem span_ext {p : UInt8 → Bool} {s : Bs} {i j : Nat} (hij : i ≤ j) (hj : j < s.length) (ha : ∀ c ∈ (s.drop i).take (j - i), p c = true) (h : p s[j] = true) : ∀ c ∈ (s.drop i).take (j + 1 - i), p c = true := by
  intro c hc
  have hd : j - i < (s.drop i).length := by simp; omega
  rw [show j + 1 - i = (j - i) + 1 by omega, List.take_succ_eq_append_getElem hd, List.mem_append, List.mem_singleton] at hc
  rcases hc with hc | rfl
  · exact ha c hc
  · rw [List.getElem_drop]
    simpa [show i + (j - i) = j by omega] using h
def noneOf (any : Bs) (c : UInt8) : Bool := !any.contains c
theorem rupto_eq (N : Nat) (any s : Bs) (at_ i : Nat) (r : Bs) (out : List Tok) (f : List Fl) (hi : at_ ≤ s.length) (hs : s.length ≤ 100000) (ha : any.length ≤ 1000) (hN : s.length < N) (hN2 : 1000 < N) :
    pounceref14_Reader_upto_07b (Ev.upto N) (((at_ : Int), (any, ())), rcur s i r out f) = some ((((at_ + spanN (noneOf any) s at_ : Nat) : Int), ()), rcur s i r out f) := by
  apply wp_eq
  unfold pounceref14_Reader_upto_07b
  refine wp_bind ?_
  refine wp_it (fun a => ∃ j : Nat, a = (((j : Int), (any, ())), rcur s i r out f) ∧ at_ ≤ j ∧ j ≤ s.length ∧ ∀ c ∈ (s.drop at_).take (j - at_), noneOf any c = true) (fun a => s.length - a.1.1.toNat) ⟨at_, rfl, Nat.le_refl _, hi, by simp⟩ (by simp; omega) ?_
  rintro _ ⟨j, rfl, hij, hj, hall⟩
  by_cases hjl : j < s.length
  · have c0 : decide ((j : Int) < (s.length : Int)) = true := decide_eq_true (by omega)
    have w : IntKind.wrap .i64 ((j : Int) + 1) = ((j + 1 : Nat) : Int) := by rw [wrap64 (by omega) (by omega)]; omega
    simp -implicitDefEqProofs only [c0, cond_true]
    refine wp_bind ?_
    refine wp_for (σ := Unit) (fun k _ => (((j : Int), (any, ((k : Int), ()))), rcur s i r out f)) (fun k _ => (any.take k).contains s[j] = false) any.length () rfl (by simp) (by omega) ?_
    rintro k _ hk hn
    by_cases hk' : k < any.length
    · have c1 : decide ((k : Int) < (any.length : Int)) = true := decide_eq_true (by omega)
      have w2 : IntKind.wrap .i64 ((k : Int) + 1) = ((k + 1 : Nat) : Int) := by rw [wrap64 (by omega) (by omega)]; omega
      simp -implicitDefEqProofs only [c1, cond_true, idx_nat hjl, idx_nat hk', Option.bind_some, w2]
      cases hc : (((s[j].toNat : Nat) : Int) == ((any[k].toNat : Nat) : Int)) with
      | true =>
        have e : s[j] = any[k] := UInt8.toNat_inj.1 (by have := beq_iff_eq.1 hc; omega)
        have : noneOf any s[j] = false := by unfold noneOf; rw [e]; simp
        exact ⟨_, rfl, _, rfl, _, rfl, by rw [span_at hij hj hall (fun _ => this)]⟩
      | false =>
        refine ⟨_, rfl, hk', (), rfl, ?_⟩
        have ne : ¬ s[j] = any[k] := fun e => by rw [e] at hc; simp at hc
        rw [List.take_succ_eq_append_getElem hk']
        simp only [List.contains_eq_mem, List.mem_append, List.mem_singleton, decide_eq_false_iff_not] at hn ⊢
        rintro (h | h)
        · exact hn h
        · exact ne h
    · have c1 : decide ((k : Int) < (any.length : Int)) = false := decide_eq_false (by omega)
      rw [List.take_of_length_le (by omega)] at hn
      simp -implicitDefEqProofs only [c1, cond_false]
      refine ⟨_, rfl, ?_⟩
      simp -implicitDefEqProofs only [w]
      exact ⟨_, rfl, ⟨j + 1, rfl, by omega, by omega, span_ext hij hjl hall (by unfold noneOf; rw [hn]; rfl)⟩, by simp; omega⟩
  · have c0 : decide ((j : Int) < (s.length : Int)) = false := decide_eq_false (by omega)
    simp -implicitDefEqProofs only [c0, cond_false]
    exact ⟨_, rfl, _, rfl, by rw [span_at hij hj hall (fun h => absurd h hjl)]⟩
theorem rblanks_eq (N : Nat) (s : Bs) (at_ i : Nat) (r : Bs) (out : List Tok) (f : List Fl) (hi : at_ ≤ s.length) (hs : s.length ≤ 100000) (hN : s.length < N) :
    pounceref14_Reader_blanks_810 (Ev.upto N) (((at_ : Int), ()), rcur s i r out f) = some ((((at_ + spanN blankB s at_ : Nat) : Int), ()), rcur s i r out f) := by
  apply wp_eq
  unfold pounceref14_Reader_blanks_810
  refine wp_bind ?_
  refine wp_it (fun a => ∃ j : Nat, a = (((j : Int), ()), rcur s i r out f) ∧ at_ ≤ j ∧ j ≤ s.length ∧ ∀ c ∈ (s.drop at_).take (j - at_), blankB c = true) (fun a => s.length - a.1.1.toNat) ⟨at_, rfl, Nat.le_refl _, hi, by simp⟩ (by simp; omega) ?_
  rintro _ ⟨j, rfl, hij, hj, hall⟩
  by_cases hjl : j < s.length
  · have c0 : (decide ((j : Int) < (s.length : Int)) == true) = true := by rw [show decide ((j : Int) < (s.length : Int)) = true from decide_eq_true (by omega)]; rfl
    have w : IntKind.wrap .i64 ((j : Int) + 1) = ((j + 1 : Nat) : Int) := by rw [wrap64 (by omega) (by omega)]; omega
    have qb := rblank_at (Ev.upto N) s[j]
    simp -implicitDefEqProofs only [c0, cond_true, idx_nat hjl, Option.bind_some, qb]
    cases hb : blanks.contains s[j] with
    | true =>
      simp -implicitDefEqProofs only [cond_true, w]
      exact ⟨_, rfl, ⟨j + 1, rfl, by omega, by omega, span_ext hij hjl hall hb⟩, by simp; omega⟩
    | false =>
      simp -implicitDefEqProofs only [cond_false]
      exact ⟨_, rfl, _, rfl, by rw [span_at hij hj hall (fun _ => hb)]⟩
  · have c0 : (decide ((j : Int) < (s.length : Int)) == true) = false := by rw [show decide ((j : Int) < (s.length : Int)) = false from decide_eq_false (by omega)]; rfl
    simp -implicitDefEqProofs only [c0, cond_false, Option.bind_some]
    exact ⟨_, rfl, _, rfl, by rw [span_at hij hj hall (fun h => absurd h hjl)]⟩
theorem rfind_eq (N : Nat) (t s : Bs) (at_ i : Nat) (r : Bs) (out : List Tok) (f : List Fl) (hi : at_ ≤ s.length) (hs : s.length ≤ 100000) (ht : 0 < t.length) (ht2 : t.length ≤ 1000) (hN : s.length < N) :
    pounceref14_Reader_find_07b (Ev.upto N) (((at_ : Int), (t, ())), rcur s i r out f) = some (((match findB (s.drop at_) t with | some k => ((at_ + k : Nat) : Int) | none => -1), ()), rcur s i r out f) := by
  apply wp_eq
  unfold pounceref14_Reader_find_07b
  refine wp_bind ?_
  refine wp_it (fun a => ∃ j : Nat, a = (((j : Int), (t, ())), rcur s i r out f) ∧ at_ ≤ j ∧ j ≤ s.length ∧ findB (s.drop at_) t = (findB (s.drop j) t).map (· + (j - at_))) (fun a => s.length - a.1.1.toNat) ⟨at_, rfl, Nat.le_refl _, hi, by simp⟩ (by simp; omega) ?_
  rintro _ ⟨j, rfl, hij, hj, hfd⟩
  have w : IntKind.wrap .i64 ((j : Int) + (t.length : Int)) = ((j + t.length : Nat) : Int) := by rw [wrap64 (by omega) (by omega)]; omega
  by_cases hjl : j + t.length ≤ s.length
  · have c0 : decide (((j + t.length : Nat) : Int) ≤ (s.length : Int)) = true := decide_eq_true (by omega)
    have w1 : IntKind.wrap .i64 ((j : Int) + 1) = ((j + 1 : Nat) : Int) := by rw [wrap64 (by omega) (by omega)]; omega
    have s1 : sl s ((j : Nat) : Int) ((j + t.length : Nat) : Int) = some ((s.take (j + t.length)).drop j) := sl_nat (by omega) hjl
    have e1 : (s.take (j + t.length)).drop j = (s.drop j).take t.length := by rw [List.drop_take, Nat.add_sub_cancel_left]
    have hst := findB_step (s := s) (e := t) (i := j) ht (by omega)
    rw [e1] at s1
    simp -implicitDefEqProofs only [w, c0, cond_true, s1, Option.bind_some]
    cases he : ((s.drop j).take t.length == t) with
    | true =>
      rw [he, if_pos rfl] at hst
      rw [hst] at hfd
      exact ⟨_, rfl, _, rfl, by rw [hfd]; simp only [Option.map_some]; congr 3; omega⟩
    | false =>
      rw [he, if_neg (by decide)] at hst
      rw [hst] at hfd
      simp -implicitDefEqProofs only [cond_false, w1]
      refine ⟨_, rfl, ⟨j + 1, rfl, by omega, by omega, ?_⟩, by simp; omega⟩
      rw [hfd, Option.map_map]
      congr 1
      funext x
      show x + 1 + (j - at_) = x + (j + 1 - at_)
      omega
  · have c0 : decide (((j + t.length : Nat) : Int) ≤ (s.length : Int)) = false := decide_eq_false (by omega)
    rw [findB_short (s.drop j) t (by simp; omega)] at hfd
    simp -implicitDefEqProofs only [w, c0, cond_false]
    exact ⟨_, rfl, _, rfl, by rw [hfd]; rfl⟩
theorem rdecode_eq (N : Nat) (s : Bs) (a b i : Nat) (r : Bs) (out : List Tok) (f : List Fl) (hab : a ≤ b) (hb : b ≤ s.length) (hs : s.length ≤ 15000) (hf : f.length ≤ 900000000) (hN : s.length < N) (h12 : 12 < N) :
    pounceref14_Reader_decode_d75 (Ev.upto N) (((a : Int), ((b : Int), ())), rcur s i r out f) = some (((dec ((s.take b).drop a) 0).1, ()), rcur s i r out (f ++ (dec ((s.take b).drop a) (a : Nat)).2)) := by
  have s1 : sl s ((a : Nat) : Int) ((b : Nat) : Int) = some ((s.take b).drop a) := sl_nat hab hb
  generalize hx : (s.take b).drop a = x at *
  have hxl : x.length ≤ s.length := by rw [← hx]; simp; omega
  have hd := pounceref13_Decode_eq N x (by omega) (by omega) h12
  have hl := (dec_len x.length x 0 (Nat.le_refl _)).2
  have hp := dec_pos x.length x 0
  rw [dec_shift x a]
  generalize hD : dec x 0 = D at *
  have hp' : ∀ p ∈ D.2, 0 ≤ p.2 ∧ p.2 ≤ x.length := fun p h => by
    have := hp p (by rw [show decB x.length x 0 = D from hD]; exact h)
    omega
  apply wp_eq
  unfold pounceref14_Reader_decode_d75
  simp -implicitDefEqProofs only [Option.bind_some, s1, hd]
  refine wp_bind ?_
  refine wp_for (σ := Unit) (fun j _ => (((a : Int), (D.1, ((j : Int), ()))), ((s, ((i : Int), (r, ()))), (D.2, (out, (f ++ (D.2.take j).map (fun p => (p.1, p.2 + (a : Int))), ())))))) (fun _ _ => True) D.2.length () (by simp) trivial (by omega) ?_
  rintro j _ hj _
  by_cases hj' : j < D.2.length
  · have c0 : decide ((j : Int) < (D.2.length : Int)) = true := decide_eq_true (by omega)
    have c1 : decide (0 ≤ (j : Int)) = true := decide_eq_true (by omega)
    have w : IntKind.wrap .i64 ((j : Int) + 1) = ((j + 1 : Nat) : Int) := by rw [wrap64 (by omega) (by omega)]; omega
    have hq := hp' D.2[j] (List.getElem_mem hj')
    have w2 : IntKind.wrap .i64 ((a : Int) + D.2[j].2) = D.2[j].2 + (a : Int) := by rw [wrap64 (by omega) (by omega)]; omega
    have q := rfail_eq (Ev.upto N) D.2[j].1 (D.2[j].2 + (a : Int)) s i r out (f ++ (D.2.take j).map (fun p => (p.1, p.2 + (a : Int)))) (by simp; omega)
    have ij : D.2[((j : Nat) : Int).toNat]? = some D.2[j] := by rw [Int.toNat_natCast]; exact List.getElem?_eq_getElem hj'
    simp -implicitDefEqProofs only [c0, c1, Bool.and_self, Bool.and_true, cond_true, ij, Option.bind_some, w2, q, w]
    refine ⟨_, rfl, hj', (), ?_, trivial⟩
    rw [List.take_succ_eq_append_getElem hj', List.map_append]
    simp only [List.map_cons, List.map_nil, List.append_assoc]
  · have c0 : decide ((j : Int) < (D.2.length : Int)) = false := decide_eq_false (by omega)
    have ht : D.2.take j = D.2 := List.take_of_length_le (by omega)
    simp -implicitDefEqProofs only [c0, cond_false, ht]
    exact ⟨_, rfl, _, rfl, rfl⟩
theorem rtextR_eq (V : Ev) (d s : Bs) (i : Nat) (r : Bs) (out : List Tok) (f : List Fl) (ho : okD out) (hd : d.length ≤ 1000000000000) : pounceref14_Reader_text_f0a V ((d, ()), rcur s i r out f) = some ((), rcur s i r (tellS out (tx d)) f) := by
  obtain ⟨h1, h2⟩ := ho
  have w : IntKind.wrap .i64 ((out.length : Int) - 1) = (out.length : Int) - 1 := wrap64 (by omega) (by omega)
  have g : fits (out.length + ([tx d] : List Tok).length) 72 = true := fitsL (by simp; omega)
  unfold pounceref14_Reader_text_f0a tellS
  rw [if_pos (show ((tx d).1 == 1) = true from rfl)]
  cases k2 : (d == ([] : Bs)) with
  | true =>
    rw [if_pos rfl]
    simp -implicitDefEqProofs only [Option.bind_some, cond_true, k2]
  | false =>
    rw [if_neg (by decide)]
    by_cases hz : out.length = 0
    · have : out = [] := List.length_eq_zero_iff.1 hz
      subst this
      have c1 : (decide ((([] : List Tok).length : Int) > 0) == true) = false := rfl
      simp -implicitDefEqProofs only [Option.bind_some, cond_true, cond_false, k2, c1]
      rw [g, cond_true]
      rfl
    · have hl : out.length - 1 < out.length := by omega
      have c1 : (decide ((out.length : Int) > 0) == true) = true := by rw [show decide ((out.length : Int) > 0) = true from decide_eq_true (by omega)]; rfl
      have c2 : (decide (0 ≤ ((out.length : Int) - 1)) && decide (((out.length : Int) - 1) < (out.length : Int))) = true := by
        rw [show decide (0 ≤ ((out.length : Int) - 1)) = true from decide_eq_true (by omega), show decide (((out.length : Int) - 1) < (out.length : Int)) = true from decide_eq_true (by omega)]; rfl
      have c3 : ((out.length : Int) - 1).toNat = out.length - 1 := by omega
      have c4 : out[out.length - 1]? = some (out[out.length - 1]) := List.getElem?_eq_getElem hl
      simp -implicitDefEqProofs only [Option.bind_some, cond_true, cond_false, w, k2, c1, c2, c3, c4, lastT, joinL]
      cases k3 : (out[out.length - 1].1 == 1) with
      | true =>
        have hb := h2 _ (List.getElem_mem hl)
        have g2 : strFits (out[out.length - 1].2.2.1.length + d.length) = true := strFitsL (by omega)
        simp -implicitDefEqProofs only [cond_true, g2, Option.bind_some, c2, c4]
        rw [if_pos trivial]
      | false =>
        simp -implicitDefEqProofs only [cond_false]
        rw [g, cond_true, if_neg (by simp)]
theorem has_eq (N : Nat) (k : Int) (n d : Bs) (l : List Att) (c : Bool) (x : Bs) (hl : l.length ≤ 1000) (hN : 1000 < N) : pounceref14_has_ (Ev.upto N) (((k, (n, (d, (l, c)))), (x, ())), ()) = some ((hasA l x, ()), ()) := by
  apply wp_eq
  unfold pounceref14_has_
  refine wp_bind ?_
  refine wp_for (σ := Unit) (fun i _ => ((x, ((i : Int), ())), (((k, (n, (d, (l, c)))), ()), ()))) (fun i _ => (l.take i).any (fun y => y.1 == x) = false) l.length () rfl (by simp) (by omega) ?_
  rintro i _ hi hn
  by_cases hi' : i < l.length
  · have c0 : decide ((i : Int) < (l.length : Int)) = true := decide_eq_true (by omega)
    have w : IntKind.wrap .i64 ((i : Int) + 1) = ((i + 1 : Nat) : Int) := by rw [wrap64 (by omega) (by omega)]; omega
    simp -implicitDefEqProofs only [c0, cond_true, idx_nat hi', Option.bind_some, w]
    cases hc : (l[i].1 == x) with
    | true =>
      have : hasA l x = true := hasA_at hi' hc
      exact ⟨_, rfl, _, rfl, by rw [this]⟩
    | false => exact ⟨_, rfl, hi', (), rfl, by rw [any_takeA hi', hn, hc]; rfl⟩
  · have c0 : decide ((i : Int) < (l.length : Int)) = false := decide_eq_false (by omega)
    rw [List.take_of_length_le (by omega)] at hn
    simp -implicitDefEqProofs only [c0, cond_false]
    exact ⟨_, rfl, _, rfl, by rw [show hasA l x = false from hn]⟩
end Go.En.Pl
