/- Text PE2 of this seat: written by a program of ours, or by hand; checked by Lean. -/
import Derived.Test.YtgenjkaccmjfkaaGreatDoorPE1
set_option linter.unusedSimpArgs false
set_option linter.unusedVariables false
namespace Go.En.Pl
/-! ### A source's word is parsed as it -/
theorem scm_no {c : UInt8} (h : scmI (c.toNat : Int) = true) : ¬ c = 58 ∧ ¬ c = 39 ∧ ¬ c = 47 ∧ low1 c = c := by
  have := fa_byte (P := fun c => !scmI (c.toNat : Int) || (!(c == 58) && (!(c == 39) && (!(c == 47) && low1 c == c)))) (by kernel_rfl) c
  rw [h] at this
  simpa using this
theorem hst_no {c : UInt8} (h : hstI (c.toNat : Int) = true) : ¬ c = 58 ∧ ¬ c = 39 ∧ ¬ c = 47 ∧ ¬ c = 42 ∧ low1 c = c := by
  have := fa_byte (P := fun c => !hstI (c.toNat : Int) || (!(c == 58) && (!(c == 39) && (!(c == 47) && (!(c == 42) && low1 c == c))))) (by kernel_rfl) c
  rw [h] at this
  simpa using this
theorem dig_no {c : UInt8} (h : digC c = true) : ¬ c = 58 ∧ ¬ c = 39 ∧ ¬ c = 47 ∧ ¬ c = 42 ∧ low1 c = c := by
  have := fa_byte (P := fun c => !digC c || (!(c == 58) && (!(c == 39) && (!(c == 47) && (!(c == 42) && low1 c == c))))) (by kernel_rfl) c
  rw [h] at this
  simpa using this
theorem ok_no {c : UInt8} (h : (!okC (c.toNat : Int)) = true) : ¬ c = 58 := by
  have := fa_byte (P := fun c => okC (c.toNat : Int) || !(c == 58)) (by kernel_rfl) c
  rw [Bool.not_eq_true'] at h
  rw [h] at this
  simpa using this
theorem low_same {s : Bs} (h : ∀ c ∈ s, low1 c = c) : lowerB s = s := by
  rw [lowerB_map]
  conv => rhs; rw [← List.map_id s]
  exact List.map_congr_left h
theorem scheme_chars {s : Bs} (h : schemeB s = true) : s ≠ [] ∧ ∀ c ∈ s, scmI (c.toNat : Int) = true := by
  unfold schemeB at h
  simp only [Bool.and_eq_true, Bool.not_eq_true', beq_eq_false_iff_ne] at h
  exact ⟨h.1, fun c hc => List.all_eq_true.1 h.2.2.2 c hc⟩
theorem host_chars {s : Bs} (h : hostB s = true) : s ≠ [] ∧ ∀ c ∈ s, hstI (c.toNat : Int) = true := by
  unfold hostB at h
  simp only [Bool.and_eq_true, Bool.not_eq_true', beq_eq_false_iff_ne] at h
  exact ⟨h.1, fun c hc => List.all_eq_true.1 h.2.2.1 c hc⟩
theorem path_chars {s : Bs} (h : pathB s = true) : (s = [] ∨ ∃ r, s = 47 :: r) ∧ ∀ c ∈ s, ¬ c = 58 := by
  cases s with
  | nil => exact ⟨Or.inl rfl, by simp⟩
  | cons c r =>
    rw [pathB_cons] at h
    simp only [Bool.and_eq_true, beq_iff_eq] at h
    exact ⟨Or.inr ⟨r, by rw [h.1]⟩, fun x hx => ok_no (List.all_eq_true.1 h.2.2 x hx)⟩
theorem lastC_snoc (l : Bs) (c : UInt8) : lastC (l ++ [c]) = c := by unfold lastC; rw [List.getLast?_concat]; rfl
theorem lastC_mem {l : Bs} (h : l ≠ []) : lastC l ∈ l := by
  rcases snoc_cases l with h1 | ⟨x, c, rfl⟩
  · exact absurd h1 h
  · rw [lastC_snoc]; simp
theorem lastC_app (x : Bs) {y : Bs} (h : y ≠ []) : lastC (x ++ y) = lastC y := by
  rcases snoc_cases y with h1 | ⟨z, c, rfl⟩
  · exact absurd h1 h
  · rw [← List.append_assoc, lastC_snoc, lastC_snoc]
theorem firstC_mem {l : Bs} (h : l ≠ []) : firstC l ∈ l := by
  cases l with
  | nil => exact absurd rfl h
  | cons c r => exact List.mem_cons_self
theorem firstC_app {x : Bs} (y : Bs) (h : x ≠ []) : firstC (x ++ y) = firstC x := by
  cases x with
  | nil => exact absurd rfl h
  | cons c r => rfl
theorem qt_first {w : Bs} (h : ¬ firstC w = 39) : qtB w = false := by
  unfold qtB
  have : (firstC w == 39) = false := by simpa using h
  rw [this, Bool.false_and, Bool.and_false]
/-- a host's own part: the star and the name -/
theorem name_ok {wi : Bool} {ho : Bs} (h : (bif ho == ([] : Bs) then wi else hostB ho) = true) : wiP wi ho ++ ho ≠ [] ∧ (∀ c ∈ wiP wi ho ++ ho, ¬ c = 58 ∧ ¬ c = 39 ∧ ¬ c = 47) ∧ starR (wiP wi ho ++ ho) = some (wi, ho) := by
  cases hh : (ho == ([] : Bs)) with
  | true =>
    rw [hh, cond_true] at h
    have hn := beq_iff_eq.1 hh
    subst hn
    subst h
    exact ⟨by decide, by decide, by unfold starR wiP; rfl⟩
  | false =>
    rw [hh, cond_false] at h
    obtain ⟨hne, hc⟩ := host_chars h
    have hc2 : ∀ c ∈ ho, low1 c = c := fun c hm => (hst_no (hc c hm)).2.2.2.2
    have hl := low_same hc2
    cases wi with
    | true =>
      have e : wiP true ho = [42, 46] := by unfold wiP; rw [hh]; rfl
      rw [e]
      refine ⟨by simp, fun c hm => ?_, ?_⟩
      · rcases List.mem_append.1 hm with hm | hm
        · have h2 : ∀ c ∈ ([42, 46] : Bs), ¬ c = 58 ∧ ¬ c = 39 ∧ ¬ c = 47 := by decide
          exact h2 c hm
        · have := hst_no (hc c hm); exact ⟨this.1, this.2.1, this.2.2.1⟩
      · have hlow : lowerB ([42, 46] ++ ho) = [42, 46] ++ ho := by
          show lowerB (42 :: 46 :: ho) = _
          rw [lowerB_cons, lowerB_cons, hl]
          rfl
        unfold starR
        rw [hlow, if_neg (by simp), if_pos (show (([42, 46] : Bs) ++ ho).take 2 = [42, 46] from rfl), if_neg (by simpa using hne)]
        rfl
    | false =>
      have e : wiP false ho = [] := rfl
      rw [e, List.nil_append]
      refine ⟨hne, fun c hm => ⟨(hst_no (hc c hm)).1, (hst_no (hc c hm)).2.1, (hst_no (hc c hm)).2.2.1⟩, ?_⟩
      have h42 : (42 : UInt8) ∉ ho := fun hm => (hst_no (hc _ hm)).2.2.2.1 rfl
      unfold starR
      rw [hl, if_neg (fun e => h42 (by rw [e]; simp)), if_neg (fun e => h42 (List.mem_of_mem_take (i := 2) (by rw [e]; simp)))]
theorem port_ok {po : Int} (h0 : po ≥ -1) (h1 : po ≤ 65535) : (po = 0 ∧ poP po = []) ∨ ∃ n, poP po = 58 :: n ∧ n ≠ [] ∧ portS n = some po ∧ ∀ c ∈ n, ¬ c = 58 ∧ ¬ c = 39 ∧ ¬ c = 47 := by
  unfold poP
  by_cases hn : po < 0
  · right
    rw [decide_eq_true hn]
    exact ⟨[42], rfl, by simp, by unfold portS; rw [if_pos rfl]; congr 1; omega, by decide⟩
  · rw [decide_eq_false hn]
    by_cases hp : po > 0
    · right
      obtain ⟨a, b, c, d⟩ := digs_ok 20 po.toNat 5 (by omega) (by decide) (by decide)
      rw [decide_eq_true hp]
      refine ⟨digs 20 po.toNat, rfl, c, portS_digs po hp h1, fun x hx => ?_⟩
      have := dig_no (List.all_eq_true.1 a x hx)
      exact ⟨this.1, this.2.1, this.2.2.1⟩
    · left
      rw [decide_eq_false hp]
      exact ⟨by omega, rfl⟩
theorem host_back {sc ho pa : Bs} {wi : Bool} {po : Int} (hs : sc = [] ∨ schemeB sc = true) (hh : (bif ho == ([] : Bs) then wi else hostB ho) = true) (h0 : po ≥ -1) (h1 : po ≤ 65535) (hp : pathB pa = true) :
    parP (prS (12, (([] : Bs), (sc, (ho, (wi, (po, pa))))))) = some (12, (([] : Bs), (sc, (ho, (wi, (po, pa)))))) := by
  obtain ⟨n1, n2, n3⟩ := name_ok hh
  obtain ⟨p1, p2⟩ := path_chars hp
  have e : prS (12, (([] : Bs), (sc, (ho, (wi, (po, pa)))))) = hdP sc ++ ((wiP wi ho ++ ho) ++ (poP po ++ pa)) := by
    unfold prS
    simp only [List.append_assoc]
  rw [e]
  generalize wiP wi ho ++ ho = F at *
  have f58 : (58 : UInt8) ∉ F := fun hm => (n2 _ hm).1 rfl
  have pa58 : (58 : UInt8) ∉ pa := fun hm => p2 _ hm rfl
  have hpo := port_ok h0 h1
  -- what stands behind the scheme
  have hfront : (F ++ (poP po ++ pa)).takeWhile notSl = F ++ poP po ∧ (F ++ (poP po ++ pa)).dropWhile notSl = pa := by
    have ha : ∀ c ∈ F ++ poP po, notSl c = true := fun c hc => by
      have : ¬ c = 47 := by
        rcases List.mem_append.1 hc with hc | hc
        · exact (n2 c hc).2.2
        · rcases hpo with ⟨_, h⟩ | ⟨n, h, _, _, hn⟩
          · rw [h] at hc; cases hc
          · rw [h] at hc
            rcases List.mem_cons.1 hc with hc | hc
            · rw [hc]; decide
            · exact (hn c hc).2.2
      unfold notSl
      simpa using this
    rw [← List.append_assoc, List.takeWhile_append_of_pos ha, List.dropWhile_append_of_pos ha]
    rcases p1 with h | ⟨r, h⟩
    · rw [h]; simp
    · rw [h, List.takeWhile_cons, if_neg (by decide), List.dropWhile_cons, if_neg (by decide)]
      simp
  have hnum : numR (F ++ poP po) = (F, some po) := by
    unfold numR
    rcases hpo with ⟨hz, h⟩ | ⟨n, h, _, hn, hc⟩
    · rw [h, List.append_nil, findB_no F [] 58 f58, hz]
    · rw [h, findB_one F n 58 f58]
      simp only
      rw [List.take_left]
      congr 1
      have : (F ++ 58 :: n).drop (F.length + 1) = n := by
        rw [← List.drop_drop, List.drop_left]
        rfl
      rw [this, hn]
  have hR : hostR sc (F ++ (poP po ++ pa)) = some (12, (([] : Bs), (sc, (ho, (wi, (po, pa)))))) := by
    unfold hostR
    rw [hfront.1, hfront.2, hnum]
    simp only
    rw [n3]
  have hno : findB (F ++ (poP po ++ pa)) [58, 47, 47] = none := by
    rw [findB_skip F _ _ _ f58]
    rcases hpo with ⟨_, h⟩ | ⟨n, h, hne, _, hc⟩
    · rw [h, List.nil_append, findB_no pa _ _ pa58]; rfl
    · rw [h]
      have hn58 : (58 : UInt8) ∉ n ++ pa := fun hm => by
        rcases List.mem_append.1 hm with hm | hm
        · exact (hc _ hm).1 rfl
        · exact pa58 hm
      rw [List.cons_append, findB, if_neg, findB_no _ _ _ hn58]
      · rfl
      · intro hpre
        cases n with
        | nil => exact hne rfl
        | cons d n =>
          obtain ⟨_, h2⟩ := List.cons_prefix_cons.1 (List.isPrefixOf_iff_prefix.1 hpre)
          obtain ⟨h3, _⟩ := List.cons_prefix_cons.1 h2
          exact (hc d List.mem_cons_self).2.2 h3.symm
  have hlast : ¬ lastC (F ++ (poP po ++ pa)) = 58 := by
    rcases p1 with h | ⟨r, h⟩
    · rw [h, List.append_nil]
      rcases hpo with ⟨_, h2⟩ | ⟨n, h2, hne, _, hc⟩
      · rw [h2, List.append_nil]
        exact fun e => f58 (e ▸ lastC_mem n1)
      · rw [h2, lastC_app F (by simp), show (58 :: n) = [58] ++ n from rfl, lastC_app _ hne]
        exact fun e => (hc _ (lastC_mem hne)).1 e
    · have hne : pa ≠ [] := by rw [h]; simp
      rw [← List.append_assoc, lastC_app _ hne]
      exact fun e => pa58 (e ▸ lastC_mem hne)
  have hGne : F ++ (poP po ++ pa) ≠ [] := by
    intro e
    exact n1 (List.append_eq_nil_iff.1 e).1
  have hGfirst : ¬ firstC (F ++ (poP po ++ pa)) = 39 := by
    rw [firstC_app _ n1]
    exact (n2 _ (firstC_mem n1)).2.1
  generalize F ++ (poP po ++ pa) = G at *
  unfold parP
  rcases hs with hs | hs
  · subst hs
    have : hdP [] = [] := rfl
    rw [this, List.nil_append, if_neg hGne, if_neg (by rw [qt_first hGfirst]; decide), if_neg hlast]
    unfold hostP schR
    rw [hno]
    exact hR
  · obtain ⟨s1, s2⟩ := scheme_chars hs
    have hd : hdP sc = sc ++ [58, 47, 47] := by
      unfold hdP
      have : (sc == ([] : Bs)) = false := by simpa using s1
      rw [this]; rfl
    have s58 : (58 : UInt8) ∉ sc := fun hm => (scm_no (s2 _ hm)).1 rfl
    have hlow : lowerB sc = sc := low_same (fun c hm => (scm_no (s2 c hm)).2.2.2)
    rw [hd, if_neg (by simp), if_neg, if_neg (by rw [lastC_app _ hGne]; exact hlast)]
    · unfold hostP schR
      have hf : findB (sc ++ [58, 47, 47] ++ G) [58, 47, 47] = some sc.length := by
        rw [List.append_assoc, findB_skip sc _ _ _ s58]
        have : findB ([58, 47, 47] ++ G) [58, 47, 47] = some 0 := by
          show findB (58 :: 47 :: 47 :: G) [58, 47, 47] = some 0
          rw [findB, if_pos (show ([58, 47, 47] : Bs).isPrefixOf (58 :: 47 :: 47 :: G) = true from List.isPrefixOf_iff_prefix.2 ⟨G, rfl⟩)]
        rw [this]
        simp
      rw [hf]
      have hl0 : ¬ sc.length = 0 := fun e => s1 (List.length_eq_zero_iff.1 e)
      have ht : (sc ++ [58, 47, 47] ++ G).take sc.length = sc := by rw [List.append_assoc, List.take_left]
      have hdr : (sc ++ [58, 47, 47] ++ G).drop (sc.length + 3) = G := by
        have : (sc ++ [58, 47, 47]).length = sc.length + 3 := by simp
        rw [← this, List.drop_left]
      simp only
      rw [if_neg hl0, ht, hdr, hlow]
      exact hR
    · rw [List.append_assoc, qt_first (by rw [firstC_app _ s1]; exact (scm_no (s2 _ (firstC_mem s1))).2.1)]
      decide
theorem word_back {s : Src} (h : rightB s = true) : parP (wordB s) = some s ∧ (wordB s).length ≤ 1000 := by
  obtain ⟨k, tx, sc, ho, wi, po, pa⟩ := s
  unfold rightB at h
  unfold wordB
  simp only at h ⊢
  have bare : bareB (k, (tx, (sc, (ho, (wi, (po, pa)))))) = true → ho = [] ∧ wi = false ∧ po = 0 ∧ pa = [] := fun hb => by
    unfold bareB at hb
    simp only [Bool.and_eq_true, beq_iff_eq, Bool.not_eq_true'] at hb
    exact hb
  cases e9 : (k == 9) with
  | true =>
    rw [e9, cond_true] at h
    simp only [Bool.and_eq_true, beq_iff_eq, decide_eq_true_eq] at h
    obtain ⟨a, b, c, d⟩ := h
    obtain ⟨rfl, rfl, rfl, rfl⟩ := bare a
    have hk := beq_iff_eq.1 e9
    subst hk; subst b
    simp only [cond_true]
    refine ⟨?_, by simp; omega⟩
    unfold parP
    have hq : qtB ([39, 110, 111, 110, 99, 101, 45] ++ tx ++ [39]) = true := by
      unfold qtB
      rw [lastC_snoc, decide_eq_true (by simp; omega)]
      rfl
    rw [if_neg (by simp), if_pos hq]
    unfold quoS
    have h7 : (lowerB ([39, 110, 111, 110, 99, 101, 45] ++ tx ++ [39])).take 7 = [39, 110, 111, 110, 99, 101, 45] := by
      rw [low_take, List.append_assoc]
      show lowerB [39, 110, 111, 110, 99, 101, 45] = _
      kernel_rfl
    rw [if_pos h7, List.dropLast_concat]
    rfl
  | false =>
    rw [e9, cond_false] at h
    cases e10 : (k == 10) with
    | true =>
      rw [e10, cond_true] at h
      simp only [Bool.and_eq_true, beq_iff_eq] at h
      obtain ⟨a, b, c⟩ := h
      obtain ⟨rfl, rfl, rfl, rfl⟩ := bare a
      have hk := beq_iff_eq.1 e10
      subst hk; subst b
      simp only [cond_true, cond_false]
      have hl : tx.length = 16 := by omega
      have el := encW_len _ tx (Nat.le_refl _)
      refine ⟨?_, by simp; omega⟩
      unfold parP
      have hq : qtB ([39, 109, 97, 114, 107, 45] ++ encW tx ++ [39]) = true := by
        unfold qtB
        rw [lastC_snoc, decide_eq_true (by simp; omega)]
        rfl
      rw [if_neg (by simp), if_pos hq]
      unfold quoS
      have h6 : (lowerB ([39, 109, 97, 114, 107, 45] ++ encW tx ++ [39])).take 6 = [39, 109, 97, 114, 107, 45] := by
        rw [low_take, List.append_assoc]
        show lowerB [39, 109, 97, 114, 107, 45] = _
        kernel_rfl
      have h7 : ¬ (lowerB ([39, 109, 97, 114, 107, 45] ++ encW tx ++ [39])).take 7 = [39, 110, 111, 110, 99, 101, 45] := by
        intro e
        have e2 : ((lowerB ([39, 109, 97, 114, 107, 45] ++ encW tx ++ [39])).take 7).take 6 = ([39, 110, 111, 110, 99, 101, 45] : Bs).take 6 := by rw [e]
        rw [List.take_take, show min 6 7 = 6 from rfl, h6] at e2
        exact absurd e2 (by decide)
      rw [if_neg h7, if_pos h6, List.dropLast_concat]
      have : ([39, 109, 97, 114, 107, 45] ++ encW tx : Bs).drop 6 = encW tx := rfl
      rw [this, dec_enc tx (by omega)]
      rfl
    | false =>
      rw [e10, cond_false] at h
      cases e11 : (k == 11) with
      | true =>
        rw [e11, cond_true] at h
        simp only [Bool.and_eq_true, beq_iff_eq] at h
        obtain ⟨a, b, c⟩ := h
        obtain ⟨rfl, rfl, rfl, rfl⟩ := bare a
        have hk := beq_iff_eq.1 e11
        subst hk; subst b
        simp only [cond_true, cond_false]
        obtain ⟨s1, s2⟩ := scheme_chars c
        have sl := schemeB_len c
        have hlow : lowerB sc = sc := low_same (fun c hm => (scm_no (s2 c hm)).2.2.2)
        refine ⟨?_, by simp; omega⟩
        unfold parP
        rw [if_neg (by simp), if_neg (by rw [qt_first (by rw [firstC_app _ s1]; exact (scm_no (s2 _ (firstC_mem s1))).2.1)]; decide), if_pos (lastC_snoc _ _), List.dropLast_concat, hlow]
        rfl
      | false =>
        rw [e11, cond_false] at h
        cases e12 : (k == 12) with
        | true =>
          rw [e12, cond_true] at h
          unfold hostS at h
          simp only [Bool.and_eq_true, beq_iff_eq, Bool.or_eq_true, decide_eq_true_eq] at h
          obtain ⟨a, b, c, d, e, f⟩ := h
          have hk := beq_iff_eq.1 e12
          subst hk; subst a
          simp only [cond_true, cond_false]
          refine ⟨host_back b c d e f, ?_⟩
          have l1 := hdP_len sc
          have l2 := wiP_len wi ho
          have l3 := poP_len po
          have l4 : sc.length ≤ 20 := by
            rcases b with b | b
            · rw [b]; simp
            · exact schemeB_len b
          have l5 : ho.length ≤ 100 := by
            cases hh : (ho == ([] : Bs)) with
            | true => rw [beq_iff_eq.1 hh]; simp
            | false => rw [hh, cond_false] at c; exact hostB_len c
          have l6 : pa.length ≤ 200 := by
            cases pa with
            | nil => simp
            | cons x r =>
              rw [pathB_cons] at f
              simp only [Bool.and_eq_true, decide_eq_true_eq] at f
              have := f.2.1
              omega
          unfold prS
          simp only [List.length_append]
          omega
        | false =>
          rw [e12, cond_false] at h
          simp only [Bool.and_eq_true, beq_iff_eq] at h
          obtain ⟨hk, a, b, c⟩ := h
          obtain ⟨rfl, rfl, rfl, rfl⟩ := bare a
          subst b; subst c
          simp only [cond_false]
          unfold keptB at hk
          simp only [Bool.and_eq_true, decide_eq_true_eq] at hk
          have : k = 1 ∨ k = 2 ∨ k = 3 ∨ k = 4 ∨ k = 5 ∨ k = 6 ∨ k = 7 ∨ k = 8 := by omega
          clear e9 e10 e11 e12 a bare
          rcases this with rfl | rfl | rfl | rfl | rfl | rfl | rfl | rfl <;> exact ⟨by kernel_rfl, by decide⟩
end Go.En.Pl
