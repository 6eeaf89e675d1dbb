/- Text TB2 of this seat: written by a program of ours, or by hand; checked by Lean. -/
import Derived.Test.YtlambcopphejaaaGreatDoorTB1
set_option linter.unusedSimpArgs false
set_option linter.unusedVariables false
namespace Go.En.Pl
/-! ### Places of a text -/
theorem chr_drop {s x : Bs} {i : Nat} (h : s.drop i = x) (k : Nat) : chr s (i + k) = chr x k := by
  unfold chr
  rw [← h, List.getElem?_drop]
theorem chr_drop0 {s x : Bs} {i : Nat} (h : s.drop i = x) : chr s i = chr x 0 := chr_drop h 0
theorem get_drop {s x : Bs} {i : Nat} {c : UInt8} (h : s.drop i = c :: x) : s[i]? = some c := by
  have : (s.drop i)[0]? = some c := by rw [h]; rfl
  rw [List.getElem?_drop] at this
  simpa using this
theorem drop_one {s x : Bs} {i : Nat} {c : UInt8} (h : s.drop i = c :: x) : s.drop (i + 1) = x := drop_more (x := [c]) h
theorem drop_len {s x : Bs} {i : Nat} (h : s.drop i = x) (hi : i ≤ s.length) : i + x.length = s.length := by
  rw [← h, List.length_drop]; omega
theorem spanN_drop {p : UInt8 → Bool} {s a y : Bs} {i : Nat} (h : s.drop i = a ++ y) (ha : ∀ c ∈ a, p c = true) (hy : ∀ c z, y = c :: z → p c = false) : spanN p s i = a.length := by
  unfold spanN
  rw [h, List.takeWhile_append_of_pos ha]
  cases y with
  | nil => simp
  | cons c z => rw [List.takeWhile_cons, if_neg (by rw [hy c z rfl]; decide)]; simp
theorem isB_drop {s x : Bs} {i : Nat} (low : Bs) (h : s.drop i = x) : isB s i low = (decide (low.length ≤ x.length) && lowerB (x.take low.length) == lowerB low) := by
  unfold isB
  rw [← h, List.length_drop]
theorem isB_at {s y : Bs} {i : Nat} (low : Bs) (h : s.drop i = low ++ y) : isB s i low = true := by
  rw [isB_drop low h, List.take_left', decide_eq_true (by simp)]
  · simp
  · rfl
theorem findB_pre : ∀ (X e X' : Bs) (m : Nat), findB X e = some m → X.take (m + e.length) <+: X' → findB X' e = some m
  | [], e, X', m, h, hp => by
    unfold findB at h
    split at h
    · rename_i he
      cases h
      have : e = [] := by simpa using he
      subst this
      cases X' <;> rfl
    · cases h
  | c :: r, e, X', m, h, hp => by
    unfold findB at h
    split at h
    · rename_i he
      cases h
      have he := List.isPrefixOf_iff_prefix.1 he
      rw [Nat.zero_add, ← List.prefix_iff_eq_take.1 he] at hp
      cases X' with
      | nil => rw [List.prefix_nil.1 hp]; rfl
      | cons c' r' => unfold findB; rw [if_pos (List.isPrefixOf_iff_prefix.2 hp)]
    · rename_i he
      cases hr : findB r e with
      | none => rw [hr] at h; cases h
      | some j =>
        rw [hr] at h
        cases h
        have hs := (findB_some r e j hr).1
        rw [show j + 1 + e.length = (j + e.length) + 1 by omega, List.take_succ_cons] at hp
        cases X' with
        | nil => have := hp.length_le; simp at this
        | cons c' r' =>
          obtain ⟨rfl, hp2⟩ := List.cons_prefix_cons.1 hp
          have ih := findB_pre r e r' j hr hp2
          unfold findB
          rw [if_neg, ih]
          · rfl
          · intro hc
            have hc := List.isPrefixOf_iff_prefix.1 hc
            apply he
            rw [List.isPrefixOf_iff_prefix]
            have h2 : e <+: c :: r.take (j + e.length) := List.prefix_of_prefix_length_le hc (List.cons_prefix_cons.2 ⟨rfl, hp2⟩) (by simp; omega)
            exact h2.trans (List.cons_prefix_cons.2 ⟨rfl, List.take_prefix _ _⟩)
theorem findB_one : ∀ (x y : Bs) (c : UInt8), c ∉ x → findB (x ++ c :: y) [c] = some x.length
  | [], y, c, _ => by simp [findB, List.isPrefixOf]
  | d :: x, y, c, h => by
    rw [List.cons_append, findB, if_neg, findB_one x y c (fun hm => h (List.mem_cons_of_mem _ hm))]
    · rfl
    · intro hp
      have := List.isPrefixOf_iff_prefix.1 hp
      obtain ⟨e, _⟩ := List.cons_prefix_cons.1 this
      exact h (e ▸ List.mem_cons_self)
/-! ### A doctype's text -/
def TR (d : Bs) : Prop := (∀ c z, d = c :: z → blanks.contains c = false) ∧ (∀ c z, d.reverse = c :: z → blanks.contains c = false)
theorem dropWhile_head {p : UInt8 → Bool} : ∀ (l : Bs) (c : UInt8) (z : Bs), l.dropWhile p = c :: z → p c = false
  | [], c, z, h => by cases h
  | d :: l, c, z, h => by
    rw [List.dropWhile_cons] at h
    split at h
    · exact dropWhile_head l c z h
    · rename_i hd
      cases h
      simpa using hd
theorem TR_trim (x : Bs) : TR (trimB x) := by
  refine ⟨fun c z h => dropWhile_head _ c z h, fun c z h => ?_⟩
  have h0 : (Lib.trimRightS x blanks).reverse = (trimB x).reverse ++ ((Lib.trimRightS x blanks).takeWhile (blanks.contains ·)).reverse := by
    conv => lhs; rw [← List.takeWhile_append_dropWhile (p := (blanks.contains ·)) (l := Lib.trimRightS x blanks)]
    rw [List.reverse_append]
    rfl
  rw [h] at h0
  unfold Lib.trimRightS at h0
  rw [List.reverse_reverse] at h0
  exact dropWhile_head _ c _ h0
theorem trim_sp {d : Bs} (h : TR d) : trimB (32 :: d) = d := by
  cases d with
  | nil => rfl
  | cons c z =>
    have hc := h.1 c z rfl
    unfold trimB Lib.trimS Lib.trimRightS Lib.trimLeftS
    cases hr : (c :: z).reverse with
    | nil => simp at hr
    | cons e w =>
      have he := h.2 e w hr
      have e2 : (32 :: c :: z).reverse = e :: (w ++ [32]) := by rw [List.reverse_cons, hr]; rfl
      rw [e2, List.dropWhile_cons, if_neg (by rw [he]; decide), ← e2, List.reverse_reverse, List.dropWhile_cons, if_pos (by decide), List.dropWhile_cons, if_neg (by rw [hc]; decide)]
/-! ### One step over a printed token -/
theorem byteN {c : UInt8} {n : Nat} (hn : n < 256) (h : (!(((c.toNat : Nat) : Int) == (n : Int))) = true) : ¬ c = UInt8.ofNat n := by
  intro e
  rw [e, UInt8.toNat_ofNat', Nat.mod_eq_of_lt hn] at h
  simp at h
theorem enc_no (d : Bs) : ∀ x ∈ enc d, ¬ x = 60 ∧ ¬ x = 34 := fun x hx => by
  have := enc_plain d x hx
  unfold plainC at this
  simp only [Bool.and_eq_true] at this
  exact ⟨byteN (n := 60) (by decide) this.1, byteN (n := 34) (by decide) this.2.2.1⟩
theorem notLt_iff (c : UInt8) : notLt c = !(c == 60) := by
  have := forall_byte (P := fun c => notLt c == !(c == 60)) (by kernel_rfl) c
  simpa using this
theorem enc_ne {d : Bs} (h : d ≠ []) : enc d ≠ [] := by
  intro e
  apply h
  have := enc_back d 0
  rw [e] at this
  exact (Prod.mk.inj this).1.symm
theorem tell_new {out : List Tok} {d : Bs} (hd : d ≠ []) (hl : lastT out = false) : tellS out (tx d) = out ++ [tx d] := by
  unfold tellS
  rw [if_pos (show ((tx d).1 == 1) = true from rfl), if_neg (show ¬ ((tx d).2.2.1 == ([] : Bs)) = true by simpa using hd), if_neg (by rw [hl]; decide)]
theorem T_text {s d y : Bs} {i : Nat} {out : List Tok} (h : s.drop i = enc d ++ y) (hd : d ≠ []) (hy : ∀ c z, y = c :: z → c = 60) (hl : lastT out = false) : stepS s (i, out, []) = (i + (enc d).length, out ++ [tx d], []) := by
  have hsp : spanN notLt s i = (enc d).length := spanN_drop h (fun c hc => by rw [notLt_iff]; simpa using (enc_no d c hc).1) (fun c z e => by rw [hy c z e]; rfl)
  have hc : (chr s i == 60) = false := by
    rw [chr_drop0 h]
    cases he : enc d with
    | nil => exact absurd he (enc_ne hd)
    | cons c z =>
      have := (enc_no d c (by rw [he]; exact List.mem_cons_self)).1
      show (c == 60) = false
      simpa using this
  unfold stepS
  simp only [hc]
  rw [if_neg (by decide)]
  unfold textS
  rw [hsp, h, List.take_left, enc_back, enc_back, tell_new hd hl]
  rfl
theorem T_note {s d y : Bs} {i : Nat} {out : List Tok} (h : s.drop i = [60, 33, 45, 45] ++ (d ++ ([45, 45, 62] ++ y))) (hd : findB (d ++ [45, 45, 62]) [45, 45, 62] = some d.length) : stepS s (i, out, []) = (i + 4 + d.length + 3, out ++ [(4, ([], (d, ([], false))))], []) := by
  have h0 : chr s i = 60 := chr_drop0 h
  have h1 : chr s (i + 1) = 33 := chr_drop h 1
  have hb : isB s i [60, 33, 45, 45] = true := isB_at _ h
  have hd4 : s.drop (i + 4) = d ++ ([45, 45, 62] ++ y) := drop_more (x := [60, 33, 45, 45]) h
  have hf : findB (s.drop (i + 4)) [45, 45, 62] = some d.length := by
    refine findB_pre _ _ _ _ hd ?_
    rw [hd4, ← List.append_assoc]
    exact (List.take_prefix _ _).trans (List.prefix_append _ _)
  unfold stepS
  simp only [h0]
  rw [if_pos (show ((60 : UInt8) == 60) = true from rfl)]
  unfold signS
  rw [h1, if_neg (by decide), if_neg (by simp), if_pos hb]
  unfold noteS
  rw [hf]
  simp only [show ((4 : Int) == 5) = false from rfl, cond_false]
  rw [hd4, List.take_left]
  rfl
theorem T_doct {s d y : Bs} {i : Nat} {out : List Tok} (h : s.drop i = [60, 33, 100, 111, 99, 116, 121, 112, 101] ++ (32 :: d ++ 62 :: y)) (hd : (62 : UInt8) ∉ d) (ht : TR d) : stepS s (i, out, []) = (i + 10 + d.length + 1, out ++ [(5, ([], (d, ([], false))))], []) := by
  have h0 : chr s i = 60 := chr_drop0 h
  have h1 : chr s (i + 1) = 33 := chr_drop h 1
  have hb4 : isB s i [60, 33, 45, 45] = false := by
    rw [isB_drop _ h]
    show (decide _ && lowerB [60, 33, 100, 111] == lowerB [60, 33, 45, 45]) = false
    rw [show (lowerB [60, 33, 100, 111] == lowerB [60, 33, 45, 45]) = false from by kernel_rfl, Bool.and_false]
  have hb : isB s i [60, 33, 100, 111, 99, 116, 121, 112, 101] = true := isB_at _ h
  have hd9 : s.drop (i + 9) = (32 :: d) ++ 62 :: y := drop_more (x := [60, 33, 100, 111, 99, 116, 121, 112, 101]) h
  have hf : findB (s.drop (i + 9)) [62] = some (32 :: d).length := by
    rw [hd9]
    exact findB_one _ _ _ (fun hm => (List.mem_cons.1 hm).elim (fun h => absurd h (by decide)) hd)
  unfold stepS
  simp only [h0]
  rw [if_pos (show ((60 : UInt8) == 60) = true from rfl)]
  unfold signS
  rw [h1, if_neg (by decide), if_neg (by simp), if_neg (by rw [hb4]; decide), if_pos hb]
  unfold noteS
  rw [hf]
  simp only [show ((5 : Int) == 5) = true from rfl, cond_true]
  rw [hd9, List.take_left, trim_sp ht]
  simp only [List.length_cons, List.length_nil, Prod.mk.injEq, and_true, true_and]
  omega
end Go.En.Pl
