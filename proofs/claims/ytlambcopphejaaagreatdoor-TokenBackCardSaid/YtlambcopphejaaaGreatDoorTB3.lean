/- Text TB3 of this seat: written by a program of ours, or by hand; checked by Lean. -/
import Derived.Test.YtlambcopphejaaaGreatDoorTB2
set_option linter.unusedSimpArgs false
set_option linter.unusedVariables false
namespace Go.En.Pl
/-! ### A printed tag -/
def okAN (n : Bs) : Prop := ∃ c r, n = c :: r ∧ isTag c = true ∧ (∀ x ∈ r, isAttr x = true) ∧ lowerB n = n
def okNm (n : Bs) : Prop := ∃ c r, n = c :: r ∧ letterB c = true ∧ (∀ x ∈ n, isTag x = true) ∧ lowerB n = n
theorem tag_no {c : UInt8} (h : isTag c = true) : (c == 62) = false ∧ (c == 47 || blankB c) = false := by
  have := forall_byte (P := fun c => !isTag c || (!(c == 62) && !(c == 47 || blankB c))) (by kernel_rfl) c
  rw [h] at this
  simpa using this
theorem T_attS {s nm v y : Bs} {i : Nat} {l : List Att} (h : s.drop i = nm ++ (61 :: 34 :: (enc v ++ 34 :: y))) (hn : okAN nm) (hh : hasA l nm = false) (hl : l.length < 30) : attS s i 2 l = (true, i + nm.length + 2 + (enc v).length + 1, l ++ [(nm, v)], []) := by
  obtain ⟨c, r, rfl, hc, hr, hlow⟩ := hn
  have hE : attE s i = i + (c :: r).length := by
    unfold attE
    rw [spanN_drop (a := r) (y := 61 :: 34 :: (enc v ++ 34 :: y)) (drop_one h) hr (fun c z e => by cases e; decide)]
    simp only [List.length_cons]
    omega
  have hN : attN s i = c :: r := by
    unfold attN
    rw [hE, List.drop_take, h, Nat.add_sub_cancel_left, List.take_left, hlow]
  have hD : s.drop (i + (c :: r).length) = 61 :: (34 :: (enc v ++ 34 :: y)) := drop_more h
  have hB : attB s i = i + (c :: r).length := by
    unfold attB
    rw [hE, spanN_drop (a := []) hD (by simp) (fun c z e => by cases e; decide)]
    rfl
  have hi : isB s (attB s i) [61] = true := by rw [hB]; exact isB_at [61] hD
  have hD1 := drop_one hD
  have hV : attV s i = i + (c :: r).length + 1 := by
    unfold attV
    rw [hB, spanN_drop (a := []) hD1 (by simp) (fun c z e => by cases e; decide)]
    rfl
  have hD2 := drop_one hD1
  have hP : valP s (attV s i) = (v, true, i + (c :: r).length + 2 + (enc v).length + 1, []) := by
    unfold valP
    rw [hV, if_pos (by rw [isB_at [34] hD1]; rfl), hD1, hD2]
    rw [show (34 :: (enc v ++ 34 :: y)).take 1 = [34] from rfl, findB_one _ _ _ (fun hm => (enc_no v _ hm).2 rfl)]
    simp only
    rw [List.take_left, enc_back]
  unfold attS
  rw [if_pos hi, hP]
  unfold attF attT
  rw [hN, hh]
  rw [if_pos (show ((2 : Int) == 2) = true from rfl), if_neg (by decide), if_neg (by omega), decide_eq_false (by omega)]
  rfl
theorem attrP_eq (a : Att) : attrP a = 32 :: (a.1 ++ (61 :: 34 :: (enc a.2 ++ [34]))) := by simp [attrP]
theorem T_attrs (s : Bs) (cl : Bool) (y : Bs) : ∀ (al : List Att) (n i : Nat) (l : List Att), 2 * al.length + 3 ≤ n → s.drop i = attrsP al ++ ((bif cl then [47] else []) ++ 62 :: y) → (∀ a ∈ al, okAN a.1) → List.Pairwise (fun a b => ¬ a.1 = b.1) (l ++ al) → l.length + al.length ≤ 30 →
    tagL s 2 n i false l [] = some (i + (attrsP al).length + (bif cl then 1 else 0), cl, l ++ al, [])
  | [], n, i, l, hn, h, _, _, _ => by
    obtain ⟨n, rfl⟩ : ∃ m, n = m + 2 := ⟨n - 2, by simp at hn; omega⟩
    cases cl with
    | false =>
      have h : s.drop i = 62 :: y := h
      rw [tagL, get_drop h]
      simp [attrsP]
    | true =>
      have h : s.drop i = 47 :: 62 :: y := h
      rw [tagL, get_drop h]
      simp only
      rw [if_neg (by decide), if_pos (by decide), tagL, get_drop (drop_one h)]
      simp [attrsP]
  | a :: al, n, i, l, hn, h, ha, hd, hl => by
    obtain ⟨n, rfl⟩ : ∃ m, n = m + 2 := ⟨n - 2, by simp at hn; omega⟩
    have e : attrsP (a :: al) = attrP a ++ attrsP al := by simp [attrsP]
    rw [e, attrP_eq] at h
    have h0 : s.drop i = 32 :: (a.1 ++ (61 :: 34 :: (enc a.2 ++ 34 :: (attrsP al ++ ((bif cl then [47] else []) ++ 62 :: y))))) := by rw [h]; simp only [List.append_assoc, List.cons_append, List.nil_append]
    have h1 := drop_one h0
    have hok := ha a List.mem_cons_self
    have hh : hasA l a.1 = false := by
      unfold hasA
      rw [List.any_eq_false]
      intro x hx hc
      exact (List.pairwise_append.1 hd).2.2 x hx a List.mem_cons_self (by simpa using hc)
    have hS := T_attS h1 hok hh (by simp at hl; omega)
    obtain ⟨c, r, hcr, hc, _, _⟩ := hok
    have hg : s[i + 1]? = some c := by
      rw [hcr] at h1
      exact get_drop h1
    obtain ⟨c1, c2⟩ := tag_no hc
    have h2 : s.drop (i + 1 + a.1.length + 2 + (enc a.2).length + 1) = attrsP al ++ ((bif cl then [47] else []) ++ 62 :: y) := by
      have := drop_more h1
      have := drop_one (drop_one this)
      have := drop_one (drop_more this)
      exact this
    have ih := T_attrs s cl y al n (i + 1 + a.1.length + 2 + (enc a.2).length + 1) (l ++ [a]) (by simp at hn; omega) h2 (fun b hb => ha b (List.mem_cons_of_mem _ hb)) (by rw [List.append_assoc]; exact hd) (by simp at hl ⊢; omega)
    rw [tagL, get_drop h0]
    simp only
    rw [if_neg (by decide), if_pos (by decide), show ((32 : UInt8) == 47) = false from rfl, tagL, hg]
    simp only
    rw [c1, c2, if_neg (by decide), if_neg (by decide), hS]
    simp only [if_true, List.append_nil]
    rw [ih, e, attrP_eq]
    simp only [List.length_append, List.length_cons, List.length_nil, List.append_assoc, List.cons_append, List.nil_append]
    congr 2
    omega
def okSt (n : Bs) (al : List Att) : Prop := okNm n ∧ (∀ a ∈ al, okAN a.1) ∧ List.Pairwise (fun a b => ¬ a.1 = b.1) al ∧ al.length ≤ 30
theorem startP_eq (n : Bs) (al : List Att) (cl : Bool) (d : Bs) (k : Int) : startP (k, (n, (d, (al, cl)))) = 60 :: (n ++ (attrsP al ++ ((bif cl then [47] else []) ++ [62]))) := by
  simp [startP]
theorem attrsP_ge (al : List Att) : 4 * al.length ≤ (attrsP al).length := by
  induction al with
  | nil => simp [attrsP]
  | cons a al ih =>
    have : attrsP (a :: al) = attrP a ++ attrsP al := by simp [attrsP]
    rw [this, attrP_eq]
    simp only [List.length_append, List.length_cons, List.length_nil]
    omega
/-- The step over a printed start tag. -/
theorem T_start {s n y : Bs} {al : List Att} {cl : Bool} {i : Nat} {out : List Tok} (h : s.drop i = startP (2, (n, ([], (al, cl)))) ++ y) (hi : i ≤ s.length) (ho : okSt n al) :
    stepS s (i, out, []) = if rawN n = true then rawS s n (i + (startP (2, (n, ([], (al, cl))))).length) (out ++ [(2, (n, ([], (al, cl))))]) [] else (i + (startP (2, (n, ([], (al, cl))))).length, out ++ [(2, (n, ([], (al, cl))))], []) := by
  obtain ⟨⟨c, r, hcr, hc, hn, hlow⟩, ha, hd, hl⟩ := ho
  have hlen := drop_len h hi
  rw [startP_eq] at h hlen
  have h : s.drop i = 60 :: (n ++ (attrsP al ++ ((bif cl then [47] else []) ++ 62 :: y))) := by rw [h]; simp only [List.append_assoc, List.cons_append, List.nil_append]
  have h1 := drop_one h
  have hsp : spanN isTag s (i + 1) = n.length := by
    refine spanN_drop h1 hn (fun c z e => ?_)
    cases al with
    | nil =>
      cases cl with
      | false => simp [attrsP] at e; rw [← e.1]; decide
      | true => simp [attrsP] at e; rw [← e.1]; decide
    | cons a al =>
      rw [show attrsP (a :: al) = attrP a ++ attrsP al by simp [attrsP], attrP_eq] at e
      simp at e
      rw [← e.1]; decide
  have hN : tagN s (i + 1) = n := by
    unfold tagN
    rw [hsp, h1, List.take_left, hlow]
  have hI : tagI s (i + 1) = i + 1 + n.length := by unfold tagI; rw [hsp]
  have hg := attrsP_ge al
  have hL := T_attrs s cl y al s.length (i + 1 + n.length) [] (by rw [hcr] at hlen; simp at hlen; omega) (drop_more h1) ha hd (by simpa using hl)
  have c0 : chr s i = 60 := chr_drop0 h
  have c1 : chr s (i + 1) = c := by rw [chr_drop0 h1, hcr]; rfl
  unfold stepS
  simp only [c0]
  rw [if_pos (show ((60 : UInt8) == 60) = true from rfl)]
  unfold signS
  rw [c1, if_pos hc]
  unfold tagS
  rw [hN, hI, hL]
  simp only [List.nil_append, beq_self_eq_true, Bool.true_and, Bool.and_true, List.append_nil]
  have e : i + 1 + n.length + (attrsP al).length + (bif cl then 1 else 0) + 1 = i + (startP (2, (n, ([], (al, cl))))).length := by
    rw [startP_eq]
    cases cl <;> simp <;> omega
  rw [e]
theorem T_end {s n y : Bs} {i : Nat} {out : List Tok} (h : s.drop i = 60 :: 47 :: (n ++ 62 :: y)) (hi : i ≤ s.length) (hn : okNm n) :
    stepS s (i, out, []) = (i + 2 + n.length + 1, out ++ [(3, (n, ([], ([], false))))], []) := by
  obtain ⟨c, r, hcr, hc, hn, hlow⟩ := hn
  have hlen := drop_len h hi
  have h2 : s.drop (i + 2) = n ++ 62 :: y := drop_one (drop_one h)
  have hsp : spanN isTag s (i + 2) = n.length := spanN_drop h2 hn (fun c z e => by cases e; decide)
  have hN : tagN s (i + 2) = n := by
    unfold tagN
    rw [hsp, h2, List.take_left, hlow]
  have hI : tagI s (i + 2) = i + 2 + n.length := by unfold tagI; rw [hsp]
  have c0 : chr s i = 60 := chr_drop0 h
  have c1 : chr s (i + 1) = 47 := chr_drop h 1
  have c2 : chr s (i + 2) = c := by rw [chr_drop0 h2, hcr]; rfl
  have hL : tagL s 3 s.length (i + 2 + n.length) false [] [] = some (i + 2 + n.length, false, [], []) := by
    obtain ⟨m, hm⟩ : ∃ m, s.length = m + 1 := ⟨s.length - 1, by simp at hlen; omega⟩
    rw [hm, tagL, get_drop (drop_more h2)]
    rfl
  unfold stepS
  simp only [c0]
  rw [if_pos (show ((60 : UInt8) == 60) = true from rfl)]
  unfold signS
  rw [c1, c2, if_neg (by decide), if_pos (by rw [hc]; rfl)]
  unfold tagS
  rw [hN, hI, hL]
  rfl
/-! ### A raw name's printed text -/
theorem rawE_60 {s n : Bs} {i : Nat} (hi : i ≤ s.length) (hn : rawN n = true) (h : rawE s n i = true) : chr s i = 60 := (end_sign hi hn h).1
theorem raw_okNm {n : Bs} (h : rawN n = true) : okNm n := by
  obtain ⟨hne, hlow, ht⟩ := rawN_tag h
  cases n with
  | nil => exact absurd rfl hne
  | cons c r =>
    have e : ∀ x ∈ c :: r, isTag x = true ∧ letterB x = true := fun x hx => by
      have : low1 x ∈ c :: r := by
        have : low1 x ∈ (c :: r).map low1 := List.mem_map_of_mem hx
        rwa [← lowerB_map, hlow] at this
      exact ht x this
    exact ⟨c, r, rfl, (e c List.mem_cons_self).2, fun x hx => (e x hx).1, hlow⟩
theorem T_rawE {s n y : Bs} {i : Nat} (hn : rawN n = true) (h : s.drop i = [60, 47] ++ (n ++ 62 :: y)) : rawE s n i = true := by
  unfold rawE
  have h' : s.drop i = ([60, 47] ++ n) ++ 62 :: y := by rw [h, List.append_assoc]
  rw [isB_at _ h', Bool.true_and]
  have : s[i + 2 + n.length]? = some 62 := by
    have := drop_more h'
    rw [List.length_append] at this
    have := get_drop this
    rw [← this]
    congr 1
    simp; omega
  rw [this]
  rfl
def rawDat (n d : Bs) : Bs := bif plainN n then d else enc d
theorem T_raw {s n d y : Bs} {i : Nat} {out : List Tok} (hi : i ≤ s.length) (hn : rawN n = true) (h : s.drop i = rawDat n d ++ ([60, 47] ++ (n ++ 62 :: y))) (hl : lastT out = false) (hp : plainN n = true → ∀ e, e < d.length → rawE s n (i + e) = false) :
    rawS s n i out [] = (i + (rawDat n d).length, (if d = [] then out else out ++ [tx d]), []) := by
  have hlen := drop_len h hi
  have hD := drop_more h
  have hE : endP s n i = i + (rawDat n d).length := by
    refine endP_at (by omega) (by rw [List.length_append] at hlen; omega) (fun e h1 h2 => ?_) (fun _ => T_rawE hn hD)
    cases hpn : plainN n with
    | true =>
      have : (rawDat n d).length = d.length := by unfold rawDat; rw [hpn]; rfl
      have := hp hpn (e - i) (by omega)
      rwa [show i + (e - i) = e by omega] at this
    | false =>
      have er : rawDat n d = enc d := by unfold rawDat; rw [hpn]; rfl
      rw [er] at h h2 hlen
      cases hc : rawE s n e with
      | false => rfl
      | true =>
        have h60 := rawE_60 (by rw [List.length_append] at hlen; omega) hn hc
        have := chr_drop h (e - i)
        rw [show i + (e - i) = e by omega, h60] at this
        unfold chr at this
        have hlt : e - i < (enc d).length := by omega
        rw [List.getElem?_append_left hlt, List.getElem?_eq_getElem hlt] at this
        exact absurd this.symm (enc_no d _ (List.getElem_mem hlt)).1
  have hX : rawX s n i = rawDat n d := by
    unfold rawX
    rw [hE, List.drop_take, h, Nat.add_sub_cancel_left, List.take_left]
  have hne : ¬ i + (rawDat n d).length = s.length := by simp at hlen; omega
  unfold rawS
  rw [hX, hE, if_neg hne]
  have e1 : (bif plainN n then rawDat n d else (dec (rawDat n d) 0).1) = d := by
    unfold rawDat
    cases plainN n with
    | true => rfl
    | false => simp only [cond_false]; rw [enc_back]
  have e2 : (bif plainN n then ([] : List Fl) else (dec (rawDat n d) (i : Nat)).2) = [] := by
    unfold rawDat
    cases plainN n with
    | true => rfl
    | false => simp only [cond_false]; rw [enc_back]
  rw [e1, e2]
  by_cases hd : d = []
  · rw [if_pos hd, hd]
    rfl
  · rw [if_neg hd, tell_new hd hl]
    rfl
end Go.En.Pl
