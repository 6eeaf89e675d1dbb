/- Text TB4 of this seat: written by a program of ours, or by hand; checked by Lean. -/
import Derived.Test.YtlambcopphejaaaGreatDoorTB3
set_option linter.unusedSimpArgs false
set_option linter.unusedVariables false
namespace Go.En.Pl
/-! ### A raw name's end depends on what stands before the next sign alone -/
def stopB (c : UInt8) : Bool := blankB c || (c == 47 || c == 62)
theorem rawE_at {s n : Bs} {e : Nat} (hlow : lowerB n = n) : rawE s n e = true ↔ (∀ k, k < 2 + n.length → ∃ c, s[e + k]? = some c ∧ some (low1 c) = ([60, 47] ++ n)[k]?) ∧ ∃ c, s[e + 2 + n.length]? = some c ∧ stopB c = true := by
  constructor
  · intro h
    unfold rawE at h
    obtain ⟨hb, hc⟩ := (Bool.and_eq_true _ _ ▸ h : _ ∧ _)
    cases hg : s[e + 2 + n.length]? with
    | none => rw [hg] at hc; cases hc
    | some c =>
      rw [hg] at hc
      have hlt := (List.getElem?_eq_some_iff.1 hg).1
      refine ⟨fun k hk => ?_, c, rfl, hc⟩
      unfold isB at hb
      have he := beq_iff_eq.1 (Bool.and_eq_true _ _ ▸ hb : _ ∧ _).2
      rw [low_end n hlow, lowerB_map] at he
      refine ⟨s[e + k]'(by omega), List.getElem?_eq_getElem _, ?_⟩
      rw [← he, List.getElem?_map, List.getElem?_take, if_pos (by simp; omega), List.getElem?_drop, List.getElem?_eq_getElem (by omega)]
      rfl
  · rintro ⟨h1, c, hc, hs⟩
    have hlt := (List.getElem?_eq_some_iff.1 hc).1
    unfold rawE
    rw [hc]
    simp only
    rw [show (blankB c || (c == 47 || c == 62)) = true from hs, Bool.and_true]
    unfold isB
    rw [decide_eq_true (by simp; omega), Bool.true_and, low_end n hlow, lowerB_map, beq_iff_eq]
    apply List.ext_getElem?
    intro k
    by_cases hk : k < 2 + n.length
    · obtain ⟨c, hc, hl⟩ := h1 k hk
      rw [List.getElem?_map, List.getElem?_take, if_pos (by simp; omega), List.getElem?_drop, hc, ← hl]
      rfl
    · rw [List.getElem?_eq_none (by simp; omega), List.getElem?_eq_none (by simp; omega)]
theorem raw_no60 {n : Bs} (h : rawN n = true) : (60 : UInt8) ∉ n := by
  rcases rawN_cases h with rfl | rfl | rfl | rfl <;> decide
theorem raw_same {s s0 n d y y0 : Bs} {i i0 e : Nat} (hn : rawN n = true) (h : s.drop i = d ++ 60 :: y) (h0 : s0.drop i0 = d ++ 60 :: y0) (he : e < d.length) (hr : rawE s n (i + e) = true) : rawE s0 n (i0 + e) = true := by
  have hlow := (rawN_tag hn).2.1
  rw [rawE_at hlow] at hr ⊢
  obtain ⟨h1, c, hc, hs⟩ := hr
  have at_ : ∀ k, s[i + k]? = (d ++ 60 :: y)[k]? := fun k => by rw [← h, List.getElem?_drop]
  have at0 : ∀ k, s0[i0 + k]? = (d ++ 60 :: y0)[k]? := fun k => by rw [← h0, List.getElem?_drop]
  have hend : s[i + d.length]? = some 60 := by rw [at_, List.getElem?_append_right (Nat.le_refl _), Nat.sub_self]; rfl
  have hlt : e + 2 + n.length < d.length := by
    rcases Nat.lt_or_ge (e + 2 + n.length) d.length with h | h
    · exact h
    · exfalso
      by_cases hq : d.length - e = 2 + n.length
      · rw [show i + e + 2 + n.length = i + d.length by omega, hend] at hc
        cases hc
        exact absurd hs (by decide)
      · obtain ⟨c', hc', hl'⟩ := h1 (d.length - e) (by omega)
        rw [show i + e + (d.length - e) = i + d.length by omega, hend] at hc'
        cases hc'
        obtain ⟨q, hq2⟩ : ∃ q, d.length - e = q + 1 := ⟨d.length - e - 1, by omega⟩
        rw [hq2] at hl'
        have : (60 : UInt8) ∈ 47 :: n := List.mem_of_getElem? (i := q) (by
          have e2 : ([60, 47] ++ n)[q + 1]? = (47 :: n)[q]? := rfl
          rw [e2] at hl'
          exact hl'.symm)
        rcases List.mem_cons.1 this with h | h
        · exact absurd h (by decide)
        · exact raw_no60 hn h
  have same : ∀ k, k < d.length → s[i + k]? = s0[i0 + k]? := fun k hk => by rw [at_, at0, List.getElem?_append_left hk, List.getElem?_append_left hk]
  refine ⟨fun k hk => ?_, c, ?_, hs⟩
  · obtain ⟨c', hc', hl'⟩ := h1 k hk
    refine ⟨c', ?_, hl'⟩
    rw [← hc', Nat.add_assoc, Nat.add_assoc, same _ (by omega)]
  · rw [← hc, show i0 + e + 2 + n.length = i0 + (e + 2 + n.length) by omega, show i + e + 2 + n.length = i + (e + 2 + n.length) by omega, same _ hlt]
theorem tw_mem {α : Type} {p : α → Bool} {x : α} : ∀ {l : List α}, x ∈ l.takeWhile p → p x = true
  | [], h => by cases h
  | a :: l, h => by
    rw [List.takeWhile_cons] at h
    split at h
    · rename_i ha
      rcases List.mem_cons.1 h with h | h
      · rw [h]; exact ha
      · exact tw_mem h
    · cases h
theorem endP_no {s n : Bs} {i e : Nat} (h1 : i ≤ e) (h2 : e < endP s n i) : rawE s n e = false := by
  unfold endP at h2
  have hm := tw_mem (p := fun d => !rawE s n (i + d)) (l := List.range (s.length - i)) (x := e - i) ?_
  · rw [show i + (e - i) = e by omega] at hm
    simpa using hm
  · have hp := List.takeWhile_prefix (fun d => !rawE s n (i + d)) (l := List.range (s.length - i))
    have hlt : e - i < ((List.range (s.length - i)).takeWhile fun d => !rawE s n (i + d)).length := by omega
    have e1 : ((List.range (s.length - i)).takeWhile fun d => !rawE s n (i + d))[e - i] = e - i := by
      have hg := hp.getElem hlt
      rw [hg, List.getElem_range]
    have := List.getElem_mem hlt
    rwa [e1] at this
/-! ### What a tag of a text without Fails has -/
theorem spanN_stop {p : UInt8 → Bool} {s : Bs} {i : Nat} (h : i + spanN p s i < s.length) : p (chr s (i + spanN p s i)) = false := by
  have hd : s.drop (i + spanN p s i) = (s.drop i).dropWhile p := by
    have e := List.takeWhile_append_dropWhile (p := p) (l := s.drop i)
    exact drop_more e.symm
  rw [chr_drop0 hd]
  cases hz : (s.drop i).dropWhile p with
  | nil =>
    rw [hz] at hd
    have := congrArg List.length hd
    simp at this
    omega
  | cons c z => exact dropWhile_head _ c z hz
theorem spanN_all (p : UInt8 → Bool) (s : Bs) (i : Nat) : ∀ c ∈ (s.drop i).take (spanN p s i), p c = true := fun c hc => by
  rw [← takeWhile_span] at hc
  exact tw_mem hc
theorem low_isTag (c : UInt8) (h : isTag c = true) : isTag (low1 c) = true := by
  have := forall_byte (P := fun c => !isTag c || isTag (low1 c)) (by kernel_rfl) c
  rw [h] at this
  simpa using this
theorem low_isAttr (c : UInt8) (h : isAttr c = true) : isAttr (low1 c) = true := by
  have := forall_byte (P := fun c => !isAttr c || isAttr (low1 c)) (by kernel_rfl) c
  rw [h] at this
  simpa using this
theorem low_letter (c : UInt8) (h : letterB c = true) : letterB (low1 c) = true ∧ isTag c = true := by
  have := forall_byte (P := fun c => !letterB c || (letterB (low1 c) && isTag c)) (by kernel_rfl) c
  rw [h] at this
  simpa using this
theorem attN_ok {s : Bs} {i : Nat} (h : i < s.length) (hc : isTag (chr s i) = true) : okAN (attN s i) ∧ (attN s i).length = attE s i - i := by
  have hE := attE_le h
  have hsp := spanN_le isAttr s (i + 1) (by omega)
  have e : (s.take (attE s i)).drop i = s[i] :: (s.drop (i + 1)).take (spanN isAttr s (i + 1)) := by
    rw [List.drop_take, List.drop_eq_getElem_cons h]
    unfold attE
    rw [show i + 1 + spanN isAttr s (i + 1) - i = spanN isAttr s (i + 1) + 1 by omega, List.take_succ_cons]
  rw [chr_eq h] at hc
  constructor
  · unfold attN
    refine ⟨low1 s[i], lowerB ((s.drop (i + 1)).take (spanN isAttr s (i + 1))), by rw [e, lowerB_cons], low_isTag _ hc, fun x hx => ?_, lowerB_low _⟩
    rw [lowerB_map] at hx
    obtain ⟨w, hw, rfl⟩ := List.mem_map.1 hx
    exact low_isAttr _ (spanN_all _ _ _ w hw)
  · unfold attN
    rw [lowerB_length]
    simp
    omega
theorem valP_len (s : Bs) (i : Nat) (h : i ≤ s.length) : (valP s i).1.length ≤ 4 * ((valP s i).2.2.1 - i) ∧ (enc (valP s i).1).length ≤ 6 * ((valP s i).2.2.1 - i) := by
  unfold valP
  split
  · rename_i hq
    have hi : i + 1 ≤ s.length := by
      rcases Bool.or_eq_true _ _ ▸ hq with hq | hq
      · simpa using isB_lt hq h
      · simpa using isB_lt hq h
    split
    · rename_i k hk
      have h1 := dec_fst_len ((s.drop (i + 1)).take k) ((i + 1 : Nat) : Int)
      have h2 := enc_dec ((s.drop (i + 1)).take k) ((i + 1 : Nat) : Int)
      simp only [List.length_take] at h1 h2 ⊢
      omega
    · have h1 := dec_fst_len (s.drop (i + 1)) ((i + 1 : Nat) : Int)
      have h2 := enc_dec (s.drop (i + 1)) ((i + 1 : Nat) : Int)
      simp only [List.length_drop] at h1 h2 ⊢
      omega
  · have h1 := dec_fst_len ((s.drop i).take (spanN isVal s i)) (i : Int)
    have h2 := enc_dec ((s.drop i).take (spanN isVal s i)) (i : Int)
    simp only [List.length_take] at h1 h2 ⊢
    omega
def okL (l : List Att) : Prop := (∀ a ∈ l, okAN a.1 ∧ a.1.length ≤ 10000 ∧ a.2.length ≤ 10000) ∧ List.Pairwise (fun a b => ¬ a.1 = b.1) l ∧ l.length ≤ 30
theorem okL_nil : okL [] := ⟨by simp, List.Pairwise.nil, by simp⟩
theorem attS_fwd {s : Bs} {i : Nat} {l : List Att} (hs : s.length ≤ 2500) (h : i < s.length) (hc : isTag (chr s i) = true) (hok : okL l) (hf : (attS s i 2 l).2.2.2 = []) : okL (attS s i 2 l).2.2.1 ∧ (attrsP (attS s i 2 l).2.2.1).length ≤ (attrsP l).length + 6 * ((attS s i 2 l).2.1 - i) := by
  obtain ⟨hn, hnl⟩ := attN_ok h hc
  have hE := attE_le h
  have hB := attB_le h
  have hF : attF s i 2 l = [] := by
    unfold attS at hf
    split at hf
    · exact (List.append_eq_nil_iff.1 hf).1
    · exact hf
  have hA : hasA l (attN s i) = false ∧ l.length < 30 := by
    unfold attF at hF
    rw [if_pos (show ((2 : Int) == 2) = true from rfl)] at hF
    split at hF
    · cases hF
    · rename_i ha
      split at hF
      · cases hF
      · exact ⟨by simpa using ha, by omega⟩
  have hT : attT s i 2 l = true := by
    unfold attT
    rw [hA.1, decide_eq_false (by omega)]
    rfl
  have key : ∀ (v : Bs), v.length ≤ 10000 → okL (l ++ [(attN s i, v)]) := fun v hv => by
    refine ⟨fun a ha => ?_, ?_, by simp; omega⟩
    · rcases List.mem_append.1 ha with ha | ha
      · exact hok.1 a ha
      · rw [List.mem_singleton.1 ha]; exact ⟨hn, by rw [hnl]; omega, hv⟩
    · refine List.pairwise_append.2 ⟨hok.2.1, List.pairwise_singleton _ _, fun a ha b hb => ?_⟩
      rw [List.mem_singleton.1 hb]
      intro e
      have := List.any_eq_false.1 hA.1 a ha
      exact this (by simp [e])
  have len : ∀ (v : Bs), (attrsP (l ++ [(attN s i, v)])).length = (attrsP l).length + (4 + (attN s i).length + (enc v).length) := fun v => by
    unfold attrsP
    rw [List.flatMap_append, List.length_append]
    simp [attrP_eq]
    omega
  unfold attS
  rw [hT]
  split
  · rename_i hb
    have hV := attV_le h hb
    have hP := valP_le hV.2
    have hL := valP_len s (attV s i) hV.2
    simp only [cond_true]
    refine ⟨key _ (by omega), ?_⟩
    rw [len]
    omega
  · simp only [cond_true]
    refine ⟨key _ (by simp), ?_⟩
    rw [len]
    have : (enc ([] : Bs)).length = 0 := rfl
    omega
theorem tagL_g (s : Bs) (k : Int) : ∀ (n i : Nat) (sl : Bool) (l : List Att) (g : List Fl) (r : Nat × Bool × List Att × List Fl), tagL s k n i sl l g = some r → g <+: r.2.2.2
  | 0, i, sl, l, g, r, h => by cases h
  | n + 1, i, sl, l, g, r, h => by
    rw [tagL] at h
    cases hc : s[i]? with
    | none => rw [hc] at h; cases h
    | some c =>
      rw [hc] at h
      simp only at h
      split at h
      · cases h; exact List.prefix_refl _
      · split at h
        · exact tagL_g s k n _ _ _ _ _ h
        · split at h
          · exact (List.prefix_append _ _).trans (tagL_g s k n _ _ _ _ _ h)
          · cases h
theorem tagL_fwd {s : Bs} (hs : s.length ≤ 2500) : ∀ (n i : Nat) (sl : Bool) (l : List Att) (g : List Fl) (r : Nat × Bool × List Att × List Fl), okL l → tagL s 2 n i sl l g = some r → r.2.2.2 = [] → g = [] ∧ okL r.2.2.1 ∧ i ≤ r.1 ∧ (attrsP r.2.2.1).length ≤ (attrsP l).length + 6 * (r.1 - i)
  | 0, i, sl, l, g, r, _, h, _ => by cases h
  | n + 1, i, sl, l, g, r, hl, h, hr => by
    rw [tagL] at h
    cases hc : s[i]? with
    | none => rw [hc] at h; cases h
    | some c =>
      have hi : i < s.length := (List.getElem?_eq_some_iff.1 hc).1
      rw [hc] at h
      simp only at h
      split at h
      · cases h
        exact ⟨hr, hl, Nat.le_refl _, by simp⟩
      · rename_i h62
        split at h
        · obtain ⟨a, b, c, d⟩ := tagL_fwd hs n _ _ _ _ _ hl h hr
          exact ⟨a, b, by omega, by omega⟩
        · rename_i h47
          split at h
          · have hch : chr s i = c := by unfold chr; rw [hc]; rfl
            have ht : isTag (chr s i) = true := by
              rw [hch]
              have := forall_byte (P := fun c => isTag c || ((c == 62) || (c == 47 || blankB c))) (by kernel_rfl) c
              rw [Bool.not_eq_true] at h62 h47
              rw [h62, h47] at this
              simpa using this
            -- the Fails that are told are those of the rest too
            have al := attS_le 2 l hi
            have hgg : g ++ (attS s i 2 l).2.2.2 = [] := by
              by_cases hfl : (attS s i 2 l).2.2.2 = []
              · have hk := attS_fwd hs hi ht hl hfl
                exact (tagL_fwd hs n _ _ _ _ _ hk.1 h hr).1
              · exfalso
                have := tagL_g s 2 n _ _ _ _ _ h
                rw [hr] at this
                have := List.prefix_nil.1 this
                exact hfl (List.append_eq_nil_iff.1 this).2
            obtain ⟨hg, hfl⟩ := List.append_eq_nil_iff.1 hgg
            have hk := attS_fwd hs hi ht hl hfl
            obtain ⟨a, b, c, d⟩ := tagL_fwd hs n _ _ _ _ _ hk.1 h hr
            have := hk.2
            exact ⟨hg, b, by omega, by omega⟩
          · cases h
end Go.En.Pl
