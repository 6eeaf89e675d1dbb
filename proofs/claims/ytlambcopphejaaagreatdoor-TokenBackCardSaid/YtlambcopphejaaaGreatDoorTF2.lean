/- Text TF2 of this seat: written by a program of ours, or by hand; checked by Lean. -/
import Derived.Test.YtlambcopphejaaaGreatDoorTF1
set_option linter.unusedSimpArgs false
set_option linter.unusedVariables false
namespace Go.En.Pl
theorem tw_stop (p : Nat → Bool) : ∀ (m a : Nat), ((List.range' a m).takeWhile p).length < m → p (a + ((List.range' a m).takeWhile p).length) = false
  | 0, a, h => absurd h (Nat.not_lt_zero _)
  | m + 1, a, h => by
    rw [List.range'_succ, List.takeWhile_cons] at h ⊢
    cases hp : p a with
    | false => simp [hp]
    | true =>
      rw [hp] at h
      simp only [if_true, List.length_cons] at h ⊢
      have := tw_stop p m (a + 1) (by omega)
      rw [show a + (((List.range' (a + 1) m).takeWhile p).length + 1) = a + 1 + ((List.range' (a + 1) m).takeWhile p).length by omega]
      exact this
theorem endP_stop (s n : Bs) (i : Nat) (hi : i ≤ s.length) : endP s n i = s.length ∨ rawE s n (endP s n i) = true := by
  have hle := endP_le s n i hi
  by_cases h : endP s n i = s.length
  · exact Or.inl h
  · right
    unfold endP at hle h ⊢
    rw [List.range_eq_range'] at hle h ⊢
    have := tw_stop (fun d => !rawE s n (i + d)) (s.length - i) 0 (by omega)
    simpa using this
theorem rawN_cases {n : Bs} (h : rawN n = true) : n = [115, 99, 114, 105, 112, 116] ∨ n = [115, 116, 121, 108, 101] ∨ n = [116, 101, 120, 116, 97, 114, 101, 97] ∨ n = [116, 105, 116, 108, 101] := by
  unfold rawN at h
  simpa using h
theorem rawN_tag {n : Bs} (h : rawN n = true) : n ≠ [] ∧ lowerB n = n ∧ ∀ c : UInt8, low1 c ∈ n → isTag c = true ∧ letterB c = true := by
  have key : ∀ m : Bs, (List.range 256).all (fun c => !m.contains (low1 (UInt8.ofNat c)) || (isTag (UInt8.ofNat c) && letterB (UInt8.ofNat c))) = true → ∀ c : UInt8, low1 c ∈ m → isTag c = true ∧ letterB c = true := fun m hm c hc => by
    have := forall_byte (P := fun c => !m.contains (low1 c) || (isTag c && letterB c)) hm c
    simp only [List.contains_eq_mem, hc, decide_true, Bool.not_true, Bool.false_or, Bool.and_eq_true] at this
    exact this
  rcases rawN_cases h with rfl | rfl | rfl | rfl
  · exact ⟨by decide, by kernel_rfl, key _ (by kernel_rfl)⟩
  · exact ⟨by decide, by kernel_rfl, key _ (by kernel_rfl)⟩
  · exact ⟨by decide, by kernel_rfl, key _ (by kernel_rfl)⟩
  · exact ⟨by decide, by kernel_rfl, key _ (by kernel_rfl)⟩
theorem low1_60 (c : UInt8) (h : low1 c = 60) : c = 60 := by
  have := forall_byte (P := fun c => !(low1 c == 60) || c == 60) (by kernel_rfl) c
  simpa [h] using this
theorem low1_47 (c : UInt8) (h : low1 c = 47) : c = 47 := by
  have := forall_byte (P := fun c => !(low1 c == 47) || c == 47) (by kernel_rfl) c
  simpa [h] using this
/-- Where a raw name's end tag stands. -/
theorem end_sign {s n : Bs} {i : Nat} (hi : i ≤ s.length) (hn : rawN n = true) (h : rawE s n i = true) : chr s i = 60 ∧ chr s (i + 1) = 47 ∧ letterB (chr s (i + 2)) = true ∧ tagN s (i + 2) = n := by
  obtain ⟨hne, hlow, htag⟩ := rawN_tag hn
  unfold rawE at h
  obtain ⟨hb, hc⟩ := (Bool.and_eq_true _ _ ▸ h : _ ∧ _)
  have hlt := isB_lt hb hi
  simp only [List.length_append, List.length_cons, List.length_nil] at hlt
  unfold isB at hb
  have he := beq_iff_eq.1 (Bool.and_eq_true _ _ ▸ hb : _ ∧ _).2
  rw [low_end n hlow, lowerB_map] at he
  have hpos : 0 < n.length := List.length_pos_iff.2 hne
  have at_ : ∀ (k : Nat) (hk : i + k < s.length), k < 2 + n.length → some (low1 s[i + k]) = ([60, 47] ++ n)[k]? := fun k hk hk2 => by
    rw [← he, List.getElem?_map, List.getElem?_take, if_pos (by simp; omega), List.getElem?_drop, List.getElem?_eq_getElem hk]
    rfl
  have a0 := at_ 0 (by omega) (by omega)
  have a1 := at_ 1 (by omega) (by omega)
  simp only [List.cons_append, List.nil_append, List.getElem?_cons_zero, List.getElem?_cons_succ, Option.some.injEq, Nat.add_zero] at a0 a1
  have tl : ∀ (k : Nat) (hk : i + 2 + k < s.length), k < n.length → some (low1 s[i + 2 + k]) = n[k]? := fun k hk hk2 => by
    have := at_ (k + 2) (by omega) (by omega)
    simp only [List.cons_append, List.nil_append, List.getElem?_cons_succ] at this
    simp only [show i + 2 + k = i + (k + 2) by omega]
    exact this
  have mem : ∀ (k : Nat) (hk : i + 2 + k < s.length), k < n.length → low1 s[i + 2 + k] ∈ n := fun k hk hk2 => List.mem_of_getElem? (tl k hk hk2).symm
  have hsp : spanN isTag s (i + 2) = n.length := by
    have := span_at (p := isTag) (s := s) (i := i + 2) (j := i + 2 + n.length) (by omega) (by omega) (fun c hc2 => by
      rw [Nat.add_sub_cancel_left] at hc2
      obtain ⟨k, hk, rfl⟩ := List.getElem_of_mem hc2
      have hk2 : k < n.length := by simp at hk; omega
      rw [List.getElem_take, List.getElem_drop]
      exact (htag _ (mem k (by omega) hk2)).1) (fun hh => by
      rw [List.getElem?_eq_getElem hh] at hc
      simp only at hc
      have := forall_byte (P := fun c => !(blankB c || (c == 47 || c == 62)) || !isTag c) (by kernel_rfl) s[i + 2 + n.length]
      rw [hc] at this
      simpa using this)
    omega
  refine ⟨?_, ?_, ?_, ?_⟩
  · rw [chr_eq (by omega)]; exact low1_60 _ a0
  · rw [chr_eq (by omega)]; exact low1_47 _ a1
  · rw [chr_eq (by omega)]; exact (htag _ (mem 0 (by omega) hpos)).2
  · unfold tagN
    rw [hsp, lowerB_map]
    apply List.ext_getElem?
    intro k
    by_cases hk : k < n.length
    · rw [List.getElem?_map, List.getElem?_take, if_pos hk, List.getElem?_drop, List.getElem?_eq_getElem (by omega), ← tl k (by omega) hk]
      rfl
    · rw [List.getElem?_eq_none (by simp; omega), List.getElem?_eq_none (by omega)]
end Go.En.Pl
