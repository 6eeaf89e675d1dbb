/- Text TB5 of this seat: written by a program of ours, or by hand; checked by Lean. -/
import Derived.Test.YtlambcopphejaaaGreatDoorTB4
set_option linter.unusedSimpArgs false
set_option linter.unusedVariables false
namespace Go.En.Pl
/-! ### The printed text of what was told so far -/
def P (out : List Tok) : Bs := pre out out.length
def C (out : List Tok) : Bool := codeB out out.length
theorem pre_front (a b : List Tok) : ∀ i, i ≤ a.length → pre (a ++ b) i = pre a i ∧ codeB (a ++ b) i = codeB a i
  | 0, _ => ⟨rfl, rfl⟩
  | i + 1, h => by
    obtain ⟨h1, h2⟩ := pre_front a b i (by omega)
    have e : (a ++ b)[i]? = a[i]? := List.getElem?_append_left (by omega)
    rw [pre, pre, codeB, codeB, h1, h2, e]
    exact ⟨rfl, rfl⟩
theorem P_snoc (out : List Tok) (t : Tok) : P (out ++ [t]) = P out ++ tokP (C out) t := by
  unfold P C
  rw [List.length_append, List.length_singleton, pre, (pre_front out [t] _ (Nat.le_refl _)).1, (pre_front out [t] _ (Nat.le_refl _)).2, List.getElem?_append_right (Nat.le_refl _), Nat.sub_self]
  rfl
theorem C_snoc (out : List Tok) (t : Tok) : C (out ++ [t]) = codeT t := by
  unfold C
  rw [List.length_append, List.length_singleton, codeB, List.getElem?_append_right (Nat.le_refl _), Nat.sub_self]
  rfl
theorem lastT_snoc (out : List Tok) (t : Tok) : lastT (out ++ [t]) = (t.1 == 1) := by
  unfold lastT
  rw [List.length_append, List.length_singleton, Nat.add_sub_cancel, List.getElem?_append_right (Nat.le_refl _), Nat.sub_self]
  rfl
def Re (out : List Tok) (y : Bs) : Prop := ∃ k, k ≤ (P out).length ∧ ∀ n, runS (P out ++ y) (k + n) (0, [], []) = runS (P out ++ y) n ((P out).length, out, [])
theorem Re_step {out out' : List Tok} {x y : Bs} (h : Re out (x ++ y)) (hx : x ≠ []) (hP : P out' = P out ++ x) (hs : stepS (P out ++ (x ++ y)) ((P out).length, out, []) = ((P out).length + x.length, out', [])) : Re out' y := by
  obtain ⟨k, hk, h⟩ := h
  have hx1 : 0 < x.length := List.length_pos_iff.2 hx
  refine ⟨k + 1, by rw [hP, List.length_append]; omega, fun n => ?_⟩
  rw [hP, List.append_assoc, Nat.add_assoc, h (1 + n), Nat.add_comm 1 n, runS]
  rw [if_pos (by show (P out).length < _; simp only [List.length_append]; omega), hs, List.length_append]
def Yok (out : List Tok) (pd : Option Bs) (y : Bs) : Prop := (lastT out = true → ∀ c z, y = c :: z → c = 60) ∧ ∀ n, pd = some n → ∃ z, y = [60, 47] ++ (n ++ 62 :: z)
structure BI (s : Bs) (i : Nat) (out : List Tok) (pd : Option Bs) : Prop where
  pend : ∀ n, pd = some n → rawN n = true ∧ rawE s n i = true
  code : pd = none → C out = false
  last : lastT out = true → i = s.length ∨ chr s i = 60
  re : ∀ y, Yok out pd y → Re out y
  len : (P out).length ≤ 6 * i
  ok : ∀ t ∈ out, okP t
theorem BI0 (s : Bs) : BI s 0 [] none := ⟨fun n h => by (cases h), fun _ => rfl, fun h => by (cases h), fun y _ => ⟨0, Nat.le_refl _, fun n => by rw [Nat.zero_add]; rfl⟩, Nat.zero_le _, fun t h => by (cases h)⟩
theorem Yok_cons (out : List Tok) (z : Bs) : Yok out none (60 :: z) := ⟨fun _ c w e => by (cases e; rfl), fun n hn => by (cases hn)⟩
theorem dropP (a b : Bs) : (a ++ b).drop a.length = b := List.drop_left
theorem mem_snoc {out : List Tok} {t : Tok} {Q : Tok → Prop} (h : ∀ u ∈ out, Q u) (ht : Q t) : ∀ u ∈ out ++ [t], Q u := fun u hu => by
  rcases List.mem_append.1 hu with hu | hu
  · exact h u hu
  · rw [List.mem_singleton.1 hu]; exact ht
theorem text_BI {s : Bs} {i : Nat} {out : List Tok} {pd : Option Bs} (hs : s.length ≤ 2500) (hi : i < s.length) (h : BI s i out pd) (hc : ¬ chr s i = 60) (hf : (textS s i out []).2.2 = []) : BI s (textS s i out []).1 (textS s i out []).2.1 none := by
  have hpd : pd = none := by
    cases hp : pd with
    | none => rfl
    | some n => exact absurd (rawE_60 (by omega) (h.pend n hp).1 (h.pend n hp).2) hc
  subst hpd
  have hl : lastT out = false := by
    cases ho : lastT out with
    | false => rfl
    | true =>
      rcases h.last ho with h | h
      · omega
      · exact absurd h hc
  have hsp := spanN_le notLt s i (by omega)
  have hpos : 0 < spanN notLt s i := by
    unfold spanN
    rw [List.drop_eq_getElem_cons hi, List.takeWhile_cons, if_pos, List.length_cons]
    · omega
    · rw [notLt_iff, ← chr_eq hi]
      simpa using hc
  have hx : ((s.drop i).take (spanN notLt s i)).length = spanN notLt s i := by simp; omega
  have hne : (s.drop i).take (spanN notLt s i) ≠ [] := fun e => by rw [e] at hx; simp at hx; omega
  have hd := dec_ne hne 0
  have hdl := dec_fst_len ((s.drop i).take (spanN notLt s i)) 0
  unfold textS at hf ⊢
  simp only at hf ⊢
  have hel := enc_dec ((s.drop i).take (spanN notLt s i)) 0
  generalize hdd : (dec ((s.drop i).take (spanN notLt s i)) 0).1 = d at *
  rw [tell_new hd hl]
  have hC := h.code rfl
  have hP : P (out ++ [tx d]) = P out ++ enc d := by rw [P_snoc, hC]; rfl
  refine ⟨fun n h => by (cases h), fun _ => by (rw [C_snoc]; rfl), fun _ => ?_, fun y hy => ?_, ?_, mem_snoc h.ok ⟨by simp, by show d.length ≤ _; omega, by simp, by simp⟩⟩
  · rcases Nat.lt_or_ge (i + spanN notLt s i) s.length with h2 | h2
    · right
      have := spanN_stop (p := notLt) h2
      rw [notLt_iff] at this
      simpa using this
    · left; omega
  · refine Re_step (x := enc d) (h.re _ ⟨fun e => by (rw [hl] at e; cases e), fun n h => by (cases h)⟩) (enc_ne hd) hP (T_text (dropP _ _) hd (hy.1 (by rw [lastT_snoc]; rfl)) hl)
  · rw [hP, List.length_append]
    have := h.len
    omega
/-- Where no end tag is awaited. -/
theorem pend_none {s : Bs} {i : Nat} {out : List Tok} {pd : Option Bs} (hi : i ≤ s.length) (h : BI s i out pd) (hno : ¬ (chr s (i + 1) == 47 && letterB (chr s (i + 2))) = true) : pd = none := by
  cases hp : pd with
  | none => rfl
  | some n =>
    obtain ⟨_, a, b, _⟩ := end_sign hi (h.pend n hp).1 (h.pend n hp).2
    exact absurd (by rw [a, b]; rfl) hno
theorem note_BI {s : Bs} {i : Nat} {out : List Tok} (hs : s.length ≤ 2500) (hi : i + 4 ≤ s.length) (h : BI s i out none) (hf : (noteS s 4 4 [45, 45, 62] i out []).2.2 = []) : BI s (noteS s 4 4 [45, 45, 62] i out []).1 (noteS s 4 4 [45, 45, 62] i out []).2.1 none := by
  unfold noteS at hf ⊢
  cases hg : findB (s.drop (i + 4)) [45, 45, 62] with
  | none => rw [hg] at hf; simp at hf
  | some m =>
    obtain ⟨h1, h2⟩ := findB_some _ _ _ hg
    simp only [show ((4 : Int) == 5) = false from rfl, cond_false]
    have hm : ((s.drop (i + 4)).take m).length = m := by
      simp only [List.length_cons, List.length_nil, List.length_take] at h1 ⊢
      omega
    have hd : findB ((s.drop (i + 4)).take m ++ [45, 45, 62]) [45, 45, 62] = some ((s.drop (i + 4)).take m).length := by
      rw [hm]
      refine findB_pre _ _ _ _ hg ?_
      rw [List.take_add, h2]
      exact List.prefix_refl _
    generalize (s.drop (i + 4)).take m = d at *
    have hdl : d.length ≤ 2500 := by rw [List.length_drop] at h1; omega
    have hP : P (out ++ [(4, ([], (d, ([], false))))]) = P out ++ ([60, 33, 45, 45] ++ (d ++ [45, 45, 62])) := by
      rw [P_snoc]
      simp [tokP]
    refine ⟨fun n h => by (cases h), fun _ => by (rw [C_snoc]; rfl), fun e => by (rw [lastT_snoc] at e; cases e), fun y hy => ?_, ?_, mem_snoc h.ok ⟨by simp, by show d.length ≤ _; omega, by simp, by simp⟩⟩
    · refine Re_step (h.re _ (Yok_cons _ _)) (by simp) hP ?_
      have e : [60, 33, 45, 45] ++ (d ++ [45, 45, 62]) ++ y = [60, 33, 45, 45] ++ (d ++ ([45, 45, 62] ++ y)) := by simp
      have := T_note (s := P out ++ ([60, 33, 45, 45] ++ (d ++ [45, 45, 62]) ++ y)) (i := (P out).length) (out := out) (by rw [dropP, e]) hd
      show stepS (P out ++ ([60, 33, 45, 45] ++ (d ++ [45, 45, 62]) ++ y)) _ = _
      rw [this]
      simp only [List.length_append, List.length_cons, List.length_nil, Prod.mk.injEq, and_true]
      omega
    · rw [hP]
      have := h.len
      simp only [List.length_append, List.length_cons, List.length_nil]
      omega
theorem findB_notin : ∀ (X : Bs) (c : UInt8) (m : Nat), findB X [c] = some m → c ∉ X.take m
  | [], c, m, h => by simp
  | d :: X, c, m, h => by
    unfold findB at h
    split at h
    · cases h; simp
    · rename_i hp
      cases hr : findB X [c] with
      | none => rw [hr] at h; cases h
      | some j =>
        rw [hr] at h
        cases h
        rw [List.take_succ_cons]
        intro hm
        rcases List.mem_cons.1 hm with h1 | h1
        · apply hp
          rw [h1]
          simp [List.isPrefixOf]
        · exact findB_notin X c j hr h1
theorem trim_mem {x : Bs} {c : UInt8} (h : c ∈ trimB x) : c ∈ x := by
  have h1 := (List.dropWhile_sublist _).mem h
  have h2 := List.mem_reverse.1 h1
  exact List.mem_reverse.1 ((List.dropWhile_sublist _).mem h2)
theorem doct_BI {s : Bs} {i : Nat} {out : List Tok} (hs : s.length ≤ 2500) (hi : i + 9 ≤ s.length) (h : BI s i out none) (hf : (noteS s 5 9 [62] i out []).2.2 = []) : BI s (noteS s 5 9 [62] i out []).1 (noteS s 5 9 [62] i out []).2.1 none := by
  unfold noteS at hf ⊢
  cases hg : findB (s.drop (i + 9)) [62] with
  | none => rw [hg] at hf; simp at hf
  | some m =>
    obtain ⟨h1, h2⟩ := findB_some _ _ _ hg
    simp only [show ((5 : Int) == 5) = true from rfl, cond_true]
    have hT := TR_trim ((s.drop (i + 9)).take m)
    have hd : (62 : UInt8) ∉ trimB ((s.drop (i + 9)).take m) := fun hm => findB_notin _ _ _ hg (trim_mem hm)
    have hdl : (trimB ((s.drop (i + 9)).take m)).length ≤ m := by
      have := trim_len ((s.drop (i + 9)).take m)
      simp only [List.length_take] at this
      omega
    generalize trimB ((s.drop (i + 9)).take m) = d at *
    have hml : m ≤ 2500 := by rw [List.length_drop] at h1; omega
    have hP : P (out ++ [(5, ([], (d, ([], false))))]) = P out ++ ([60, 33, 100, 111, 99, 116, 121, 112, 101] ++ (32 :: d ++ [62])) := by
      rw [P_snoc]
      simp [tokP]
    refine ⟨fun n h => by (cases h), fun _ => by (rw [C_snoc]; rfl), fun e => by (rw [lastT_snoc] at e; cases e), fun y hy => ?_, ?_, mem_snoc h.ok ⟨by simp, by show d.length ≤ _; omega, by simp, by simp⟩⟩
    · refine Re_step (h.re _ (Yok_cons _ _)) (by simp) hP ?_
      have e : [60, 33, 100, 111, 99, 116, 121, 112, 101] ++ (32 :: d ++ [62]) ++ y = [60, 33, 100, 111, 99, 116, 121, 112, 101] ++ (32 :: d ++ 62 :: y) := by simp
      have := T_doct (s := P out ++ ([60, 33, 100, 111, 99, 116, 121, 112, 101] ++ (32 :: d ++ [62]) ++ y)) (i := (P out).length) (out := out) (by rw [dropP, e]) hd hT
      show stepS (P out ++ ([60, 33, 100, 111, 99, 116, 121, 112, 101] ++ (32 :: d ++ [62]) ++ y)) _ = _
      rw [this]
      simp only [List.length_append, List.length_cons, List.length_nil, Prod.mk.injEq, and_true]
      omega
    · rw [hP]
      have := h.len
      simp only [List.length_append, List.length_cons, List.length_nil]
      omega
theorem tagN_ok {s : Bs} {i : Nat} (h : i < s.length) (hc : letterB (chr s i) = true) : okNm (tagN s i) ∧ (tagN s i).length = tagI s i - i ∧ i < tagI s i ∧ tagI s i ≤ s.length := by
  have hsp := spanN_le isTag s i (by omega)
  have ht := low_letter _ hc
  have hpos : 0 < spanN isTag s i := by
    unfold spanN
    rw [List.drop_eq_getElem_cons h, List.takeWhile_cons, if_pos (by rw [← chr_eq h]; exact ht.2), List.length_cons]
    omega
  have hx : ((s.drop i).take (spanN isTag s i)).length = spanN isTag s i := by simp; omega
  refine ⟨?_, by unfold tagN tagI; rw [lowerB_length, hx]; omega, by unfold tagI; omega, hsp⟩
  have hall := spanN_all isTag s i
  unfold tagN
  cases hd : (s.drop i).take (spanN isTag s i) with
  | nil => rw [hd] at hx; simp at hx; omega
  | cons c r =>
    have hcc : chr s i = c := by
      have : (s.drop i)[0]? = some c := by
        have : ((s.drop i).take (spanN isTag s i))[0]? = some c := by rw [hd]; rfl
        rwa [List.getElem?_take, if_pos hpos] at this
      rw [List.getElem?_drop] at this
      unfold chr
      rw [show i + 0 = i from rfl] at this
      rw [this]; rfl
    refine ⟨low1 c, lowerB r, lowerB_cons c r, ?_, fun x hx => ?_, lowerB_low _⟩
    · rw [← hcc]; exact ht.1
    · rw [lowerB_map] at hx
      obtain ⟨w, hw, rfl⟩ := List.mem_map.1 hx
      exact low_isTag _ (hall w (by rw [hd]; exact hw))
theorem tagL_no (s : Bs) : ∀ (n i : Nat) (sl : Bool) (g : List Fl) (r : Nat × Bool × List Att × List Fl), tagL s 3 n i sl [] g = some r → r.2.2.1 = [] ∧ i ≤ r.1 ∧ r.1 < s.length
  | 0, i, sl, g, r, h => by cases h
  | n + 1, i, sl, g, r, h => by
    rw [tagL] at h
    cases hc : s[i]? with
    | none => rw [hc] at h; cases h
    | some c =>
      have hi : i < s.length := (List.getElem?_eq_some_iff.1 hc).1
      rw [hc] at h
      simp only at h
      split at h
      · cases h; exact ⟨rfl, Nat.le_refl _, hi⟩
      · split at h
        · obtain ⟨a, b, c⟩ := tagL_no s n _ _ _ _ h
          exact ⟨a, by omega, c⟩
        · split at h
          · have al := attS_le 3 [] hi
            have e : (attS s i 3 []).2.2.1 = [] := by
              unfold attS attT
              split <;> rfl
            rw [e] at h
            obtain ⟨a, b, c⟩ := tagL_no s n _ _ _ _ h
            exact ⟨a, by omega, c⟩
          · cases h
theorem end_BI {s : Bs} {i : Nat} {out : List Tok} {pd : Option Bs} (hs : s.length ≤ 2500) (hi : i ≤ s.length) (h : BI s i out pd) (hc : letterB (chr s (i + 2)) = true) (hf : (tagS s 3 i (i + 2) out []).2.2 = []) : BI s (tagS s 3 i (i + 2) out []).1 (tagS s 3 i (i + 2) out []).2.1 none := by
  obtain ⟨hn, hnl, hlt, hle⟩ := tagN_ok (letter_lt hc) hc
  unfold tagS at hf ⊢
  cases hT : tagL s 3 s.length (tagI s (i + 2)) false [] [] with
  | none => rw [hT] at hf; simp at hf
  | some r =>
    obtain ⟨j, sl, l, g⟩ := r
    obtain ⟨hl, hj, hjl⟩ := tagL_no s _ _ _ _ _ hT
    simp only at hl hj hjl
    subst hl
    rw [hT] at hf
    simp only [show ((3 : Int) == 2) = false from rfl, Bool.false_and, Bool.and_false] at hf ⊢
    rw [if_neg (by decide)] at hf ⊢
    have hpd : ∀ n, pd = some n → tagN s (i + 2) = n := fun n hp => (end_sign hi (h.pend n hp).1 (h.pend n hp).2).2.2.2
    generalize tagN s (i + 2) = n at *
    simp only
    have hP : P (out ++ [(3, (n, ([], ([], false))))]) = P out ++ ([60, 47] ++ (n ++ [62])) := by
      rw [P_snoc]
      simp [tokP]
    refine ⟨fun n h => by (cases h), fun _ => by (rw [C_snoc]; rfl), fun e => by (rw [lastT_snoc] at e; cases e), fun y hy => ?_, ?_, mem_snoc h.ok ⟨by show n.length ≤ _; omega, by simp, by simp, by simp⟩⟩
    · have e : [60, 47] ++ (n ++ [62]) ++ y = 60 :: 47 :: (n ++ 62 :: y) := by simp
      refine Re_step (h.re _ ⟨fun _ c z e => by (cases e; rfl), fun m hm => ⟨y, by rw [e, hpd m hm]; rfl⟩⟩) (by simp) hP ?_
      have := T_end (s := P out ++ ([60, 47] ++ (n ++ [62]) ++ y)) (i := (P out).length) (out := out) (by rw [dropP, e]) (by simp) hn
      show stepS (P out ++ ([60, 47] ++ (n ++ [62]) ++ y)) _ = _
      rw [this]
      simp only [List.length_append, List.length_cons, List.length_nil, Prod.mk.injEq, and_true]
      omega
    · rw [hP]
      have := h.len
      simp only [List.length_append, List.length_cons, List.length_nil]
      omega
theorem start_BI {s : Bs} {i : Nat} {out : List Tok} (hs : s.length ≤ 2500) (hi : i ≤ s.length) (h : BI s i out none) (hc : letterB (chr s (i + 1)) = true) (hf : (tagS s 2 i (i + 1) out []).2.2 = []) : ∃ pd, BI s (tagS s 2 i (i + 1) out []).1 (tagS s 2 i (i + 1) out []).2.1 pd := by
  obtain ⟨hn, hnl, hlt, hle⟩ := tagN_ok (letter_lt hc) hc
  unfold tagS at hf ⊢
  cases hT : tagL s 2 s.length (tagI s (i + 1)) false [] [] with
  | none => rw [hT] at hf; simp at hf
  | some r =>
    obtain ⟨j, sl, l, g⟩ := r
    have hjl := (tagL_le s 2 _ _ _ _ _ _ hT).2.1
    simp only at hjl
    rw [hT] at hf
    simp only [beq_self_eq_true, Bool.true_and, Bool.and_true, List.nil_append] at hf ⊢
    have hg : g = [] := by
      split at hf
      · unfold rawS at hf
        exact (List.append_eq_nil_iff.1 (List.append_eq_nil_iff.1 hf).1).1
      · exact hf
    subst hg
    obtain ⟨_, hL, hj, hal⟩ := tagL_fwd hs _ _ _ _ _ _ okL_nil hT rfl
    simp only at hL hj hal
    have hal : (attrsP l).length ≤ 6 * (j - tagI s (i + 1)) := by
      have e0 : (attrsP ([] : List Att)).length = 0 := rfl
      omega
    have hst : okSt (tagN s (i + 1)) l := ⟨hn, fun a ha => (hL.1 a ha).1, hL.2.1, hL.2.2⟩
    generalize tagN s (i + 1) = n at *
    have hokt : okP (2, (n, ([], (l, sl)))) := ⟨by show n.length ≤ _; omega, by simp, by have := hL.2.2; show l.length ≤ _; omega, fun a ha => by have := hL.1 a ha; omega⟩
    have hP : P (out ++ [(2, (n, ([], (l, sl))))]) = P out ++ startP (2, (n, ([], (l, sl)))) := by
      rw [P_snoc]
      rfl
    have hsl : (startP (2, (n, ([], (l, sl))))).length ≤ 3 + n.length + (attrsP l).length := by
      rw [startP_eq]
      cases sl <;> simp <;> omega
    have hsne : startP (2, (n, ([], (l, sl)))) ≠ [] := by rw [startP_eq]; simp
    have hlast : lastT (out ++ [(2, (n, ([], (l, sl))))]) = false := by rw [lastT_snoc]; rfl
    have hh := h.len
    cases hr : rawN n with
    | false =>
      rw [if_neg (by decide)]
      have hpn : plainN n = false := by
        cases hp : plainN n with
        | false => rfl
        | true =>
          have : rawN n = true := by
            unfold plainN at hp
            unfold rawN
            rcases Bool.or_eq_true _ _ ▸ hp with hp | hp
            · rw [hp]; rfl
            · rw [hp]; simp
          rw [hr] at this; cases this
      refine ⟨none, fun n h => by (cases h), fun _ => by (rw [C_snoc]; show ((2 : Int) == 2 && plainN n) = false; rw [hpn]; rfl), fun e => by (rw [hlast] at e; cases e), fun y hy => ?_, ?_, mem_snoc h.ok hokt⟩
      · have e : ∃ z, startP (2, (n, ([], (l, sl)))) ++ y = 60 :: z := ⟨_, by rw [startP_eq]; rfl⟩
        obtain ⟨z, e⟩ := e
        refine Re_step (h.re _ (by rw [e]; exact Yok_cons _ _)) hsne hP ?_
        rw [T_start (dropP _ _) (by simp) hst, hr, if_neg (by decide)]
      · show (P (out ++ _)).length ≤ 6 * (j + 1)
        rw [hP, List.length_append]
        omega
    | true =>
      rw [hr, if_pos rfl] at hf
      rw [if_pos rfl]
      unfold rawS at hf ⊢
      simp only [List.nil_append] at hf ⊢
      obtain ⟨hf1, hf2⟩ := List.append_eq_nil_iff.1 hf
      have hep := endP_le s n (j + 1) (by omega)
      have hE : rawE s n (endP s n (j + 1)) = true := by
        rcases endP_stop s n (j + 1) (by omega) with h | h
        · rw [if_pos h] at hf2; cases hf2
        · exact h
      have h60 := rawE_60 hep.2 hr hE
      have hxl : (rawX s n (j + 1)).length = endP s n (j + 1) - (j + 1) := by unfold rawX; simp; omega
      -- the text of the raw name
      obtain ⟨d, hd, hdl, hpl, hrl⟩ : ∃ d, (bif plainN n then rawX s n (j + 1) else (dec (rawX s n (j + 1)) 0).1) = d ∧ d.length ≤ 4 * (endP s n (j + 1) - (j + 1)) ∧ (plainN n = true → d = rawX s n (j + 1)) ∧ (rawDat n d).length ≤ 6 * (endP s n (j + 1) - (j + 1)) := by
        refine ⟨_, rfl, ?_, fun hp => by rw [hp]; rfl, ?_⟩
        · have := dec_fst_len (rawX s n (j + 1)) 0
          cases plainN n <;> simp only [cond_true, cond_false] <;> omega
        · have := enc_dec (rawX s n (j + 1)) 0
          unfold rawDat
          cases plainN n <;> simp only [cond_true, cond_false] <;> omega
      rw [hd]
      have hP2 : P (if d = [] then out ++ [(2, (n, ([], (l, sl))))] else out ++ [(2, (n, ([], (l, sl))))] ++ [tx d]) = P out ++ (startP (2, (n, ([], (l, sl)))) ++ rawDat n d) := by
        split
        · rename_i h0
          rw [hP, h0]
          unfold rawDat
          cases plainN n <;> simp [enc]
        · rw [P_snoc, hP, C_snoc, List.append_assoc]
          rfl
      have htell : tellS (out ++ [(2, (n, ([], (l, sl))))]) (tx d) = if d = [] then out ++ [(2, (n, ([], (l, sl))))] else out ++ [(2, (n, ([], (l, sl))))] ++ [tx d] := by
        split
        · rename_i h0
          rw [h0]
          rfl
        · rename_i h0
          exact tell_new h0 hlast
      rw [htell]
      refine ⟨some n, fun m hm => by (cases hm; exact ⟨hr, hE⟩), fun e => by (cases e), fun _ => Or.inr h60, fun y hy => ?_, ?_, ?_⟩
      · obtain ⟨z, rfl⟩ := hy.2 n rfl
        have e : ∃ z', startP (2, (n, ([], (l, sl)))) ++ rawDat n d ++ ([60, 47] ++ (n ++ 62 :: z)) = 60 :: z' := ⟨_, by rw [startP_eq]; rfl⟩
        obtain ⟨z', e⟩ := e
        refine Re_step (h.re _ (by rw [e]; exact Yok_cons _ _)) (by rw [startP_eq]; simp) hP2 ?_
        rw [T_start (y := rawDat n d ++ ([60, 47] ++ (n ++ 62 :: z))) (by rw [dropP, List.append_assoc]) (by simp) hst, hr, if_pos rfl]
        have hdr : (P out ++ (startP (2, (n, ([], (l, sl)))) ++ rawDat n d ++ ([60, 47] ++ (n ++ 62 :: z)))).drop ((P out).length + (startP (2, (n, ([], (l, sl))))).length) = rawDat n d ++ ([60, 47] ++ (n ++ 62 :: z)) := by
          rw [← List.length_append, show P out ++ (startP (2, (n, ([], (l, sl)))) ++ rawDat n d ++ ([60, 47] ++ (n ++ 62 :: z))) = (P out ++ startP (2, (n, ([], (l, sl))))) ++ (rawDat n d ++ ([60, 47] ++ (n ++ 62 :: z))) by simp only [List.append_assoc], dropP]
        rw [T_raw (by simp only [List.length_append]; omega) hr hdr hlast (fun hp e he => ?_)]
        · simp only [List.length_append, Prod.mk.injEq, and_true]
          omega
        · cases hc : rawE (P out ++ (startP (2, (n, ([], (l, sl)))) ++ rawDat n d ++ ([60, 47] ++ (n ++ 62 :: z)))) n ((P out).length + (startP (2, (n, ([], (l, sl))))).length + e) with
          | false => rfl
          | true =>
            have hdx := hpl hp
            have hrd : rawDat n d = d := by unfold rawDat; rw [hp]; rfl
            rw [hrd] at hdr hc
            have hs0 : s.drop (j + 1) = d ++ 60 :: (s.drop (endP s n (j + 1))).tail := by
              have hlt := rawE_lt hE
              rw [hdx]
              unfold rawX
              rw [List.drop_take]
              have e1 := List.take_append_drop (endP s n (j + 1) - (j + 1)) (s.drop (j + 1))
              conv => lhs; rw [← e1]
              congr 1
              rw [List.drop_drop, show j + 1 + (endP s n (j + 1) - (j + 1)) = endP s n (j + 1) by omega, List.drop_eq_getElem_cons hlt, ← chr_eq hlt, h60]
              rfl
            have := raw_same hr hdr hs0 he hc
            rw [endP_no (i := j + 1) (by omega) (by rw [hdx, hxl] at he; omega)] at this
            cases this
      · rw [hP2, List.length_append, List.length_append]
        omega
      · have ho2 := mem_snoc h.ok hokt
        split
        · exact ho2
        · exact mem_snoc ho2 ⟨by simp, by show d.length ≤ _; omega, by simp, by simp⟩
end Go.En.Pl
