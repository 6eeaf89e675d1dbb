/- Text PE1 of this seat: written by a program of ours, or by hand; checked by Lean. -/
import Derived.Test.YtgenjkaccmjfkaaGreatDoorPL6
set_option linter.unusedSimpArgs false
set_option linter.unusedVariables false
namespace Go.En.Pl
/-! ### What is encoded is decoded -/
def encB : Bs → Bs
  | a :: b :: c :: r => enc4 (n3 a b c) ++ encB r
  | [_, _] => []
  | [a] => (enc4 (n3 a 0 0)).take 2
  | [] => []
theorem encB_eq : ∀ s : Bs, s.length % 3 = 1 → encW s = encB s ++ [61, 61] ∧ (encB s).length % 4 = 2
  | [], h => by simp at h
  | [a], _ => ⟨by rw [encW, encB], by simp [encB, enc4]⟩
  | [a, b], h => by simp at h
  | a :: b :: c :: r, h => by
    obtain ⟨h1, h2⟩ := encB_eq r (by simp at h; omega)
    rw [encW, encB, h1, List.append_assoc]
    refine ⟨rfl, ?_⟩
    rw [List.length_append]
    simp only [enc4, List.length_cons, List.length_nil]
    omega
theorem sgn_val (n : Nat) (h : n < 64) : noV (sgn n) = false ∧ valN (sgn n) = n := by
  have := List.all_eq_true.1 (show ((List.range 64).all fun n => !noV (sgn n) && valN (sgn n) == n) = true from by kernel_rfl) n (List.mem_range.2 h)
  simpa using this
theorem encB_val : ∀ s : Bs, ∀ c ∈ encB s, noV c = false
  | [], c, h => by cases h
  | [a], c, h => by
    have h : c ∈ [sgn (n3 a 0 0 / 2 ^ 18 % 64), sgn (n3 a 0 0 / 2 ^ 12 % 64)] := h
    simp only [List.mem_cons, List.not_mem_nil, or_false] at h
    rcases h with rfl | rfl
    · exact (sgn_val _ (Nat.mod_lt _ (by decide))).1
    · exact (sgn_val _ (Nat.mod_lt _ (by decide))).1
  | [a, b], c, h => by cases h
  | a :: b :: d :: r, c, h => by
    rw [encB] at h
    rcases List.mem_append.1 h with h | h
    · unfold enc4 at h
      simp only [List.mem_cons, List.not_mem_nil, or_false] at h
      rcases h with rfl | rfl | rfl | rfl <;> exact (sgn_val _ (Nat.mod_lt _ (by decide))).1
    · exact encB_val r c h
theorem ofNat_byte {n : Nat} {a : UInt8} (h : n = a.toNat) : UInt8.ofNat n = a := by rw [h]; exact UInt8.ofNat_toNat
theorem dec_three (a b c : UInt8) (r : Bs) : decF (enc4 (n3 a b c) ++ r) 0 0 = (a :: b :: c :: (decF r 0 0).1, (decF r 0 0).2) := by
  have ha := a.toNat_lt; have hb := b.toNat_lt; have hc := c.toNat_lt
  have hn : n3 a b c = (a.toNat * 256 + b.toNat) * 256 + c.toNat := rfl
  have v1 := (sgn_val (n3 a b c / 2 ^ 18 % 64) (Nat.mod_lt _ (by decide))).2
  have v2 := (sgn_val (n3 a b c / 2 ^ 12 % 64) (Nat.mod_lt _ (by decide))).2
  have v3 := (sgn_val (n3 a b c / 2 ^ 6 % 64) (Nat.mod_lt _ (by decide))).2
  have v4 := (sgn_val (n3 a b c / 2 ^ 0 % 64) (Nat.mod_lt _ (by decide))).2
  unfold enc4
  show decF (sgn _ :: sgn _ :: sgn _ :: sgn _ :: r) 0 0 = _
  rw [decF, if_neg (by decide), decF, if_pos (by decide), decF, if_pos (by decide), decF, if_pos (by decide), v1, v2, v3, v4]
  simp only [Nat.zero_add, Nat.add_sub_cancel, Nat.reduceSub, Nat.reducePow]
  generalize n3 a b c = n at *
  have e1 : (((0 * 64 + n / 262144 % 64) * 64 + n / 4096 % 64) / 16) = a.toNat := by omega
  have e2 : ((((0 * 64 + n / 262144 % 64) * 64 + n / 4096 % 64) % 16) * 64 + n / 64 % 64) / 4 = b.toNat := by omega
  have e3 : (((((0 * 64 + n / 262144 % 64) * 64 + n / 4096 % 64) % 16) * 64 + n / 64 % 64) % 4 * 64 + n / 1 % 64) / 1 = c.toNat := by omega
  have e4 : (((((0 * 64 + n / 262144 % 64) * 64 + n / 4096 % 64) % 16) * 64 + n / 64 % 64) % 4 * 64 + n / 1 % 64) % 1 = 0 := Nat.mod_one _
  simp only [Nat.zero_mul, Nat.zero_add] at e1 e2 e3 e4 ⊢
  rw [e4, ofNat_byte e1, ofNat_byte e2, ofNat_byte e3]
theorem dec_one (a : UInt8) : decF ((enc4 (n3 a 0 0)).take 2) 0 0 = ([a], 0) := by
  have ha := a.toNat_lt
  have hn : n3 a 0 0 = (a.toNat * 256 + 0) * 256 + 0 := rfl
  have v1 := (sgn_val (n3 a 0 0 / 2 ^ 18 % 64) (Nat.mod_lt _ (by decide))).2
  have v2 := (sgn_val (n3 a 0 0 / 2 ^ 12 % 64) (Nat.mod_lt _ (by decide))).2
  unfold enc4
  show decF [sgn _, sgn _] 0 0 = _
  rw [decF, if_neg (by decide), decF, if_pos (by decide), decF, v1, v2]
  simp only [Nat.zero_add, Nat.reduceSub, Nat.reducePow]
  generalize n3 a 0 0 = n at *
  have e1 : (((0 * 64 + n / 262144 % 64) * 64 + n / 4096 % 64) / 16) = a.toNat := by omega
  have e2 : (((0 * 64 + n / 262144 % 64) * 64 + n / 4096 % 64) % 16) = 0 := by omega
  simp only [Nat.zero_mul, Nat.zero_add] at e1 e2 ⊢
  rw [e2, ofNat_byte e1]
theorem dec_encB : ∀ s : Bs, s.length % 3 = 1 → decF (encB s) 0 0 = (s, 0)
  | [], h => by simp at h
  | [a], _ => by rw [encB, dec_one]
  | [a, b], h => by simp at h
  | a :: b :: c :: r, h => by
    rw [encB, dec_three, dec_encB r (by simp at h; omega)]
theorem dec_enc (s : Bs) (h : s.length % 3 = 1) : decW (encW s) = s := by
  obtain ⟨h1, h2⟩ := encB_eq s h
  have hh : headB (encW s) = encB s := by
    unfold headB
    rw [h1, show encB s ++ [61, 61] = (encB s ++ [61]) ++ [61] by simp, cutE_snoc, if_pos rfl, cutE_snoc, if_pos rfl]
  have hne : encB s ≠ [] := fun e => by rw [e] at h2; simp at h2
  have hf : formB (encW s) = true := by
    unfold formB
    rw [hh]
    have : (encB s == ([] : Bs)) = false := by simpa using hne
    rw [this, Bool.not_false, Bool.true_and, List.all_eq_true]
    intro c hc
    rw [encB_val s c hc]
    rfl
  have hno : decNo (encW s) = false := by
    unfold decNo
    rw [hf, hh]
    have a1 : ((encB s).length % 4 == 1) = false := by rw [h2]; rfl
    have a2 : ((encW s).length % 4 != 0) = false := by
      rw [h1, List.length_append]
      have : ((encB s).length + ([61, 61] : Bs).length) % 4 = 0 := by simp; omega
      rw [this]; rfl
    rw [a1, a2, Bool.and_false]
    rfl
  unfold decW
  rw [if_neg (by rw [h1]; simp), if_neg (by rw [hno]; decide), hh, dec_encB s h, if_pos rfl]
/-! ### Digits -/
theorem digs_ok : ∀ (k u m : Nat), u < 10 ^ m → 1 ≤ m → m ≤ k → allDig (digs k u) = true ∧ digV (digs k u) = u ∧ digs k u ≠ [] ∧ (digs k u).length ≤ m
  | 0, u, m, _, h1, h2 => by omega
  | k + 1, u, m, h0, h1, h2 => by
    have dg : ∀ d, d < 10 → digC (UInt8.ofNat (48 + d)) = true ∧ (UInt8.ofNat (48 + d)).toNat - 48 = d := fun d hd => by
      have := List.all_eq_true.1 (show ((List.range 10).all fun d => digC (UInt8.ofNat (48 + d)) && (UInt8.ofNat (48 + d)).toNat - 48 == d) = true from by kernel_rfl) d (List.mem_range.2 hd)
      simpa using this
    rw [digs]
    by_cases hu : u < 10
    · rw [decide_eq_true hu, cond_true]
      obtain ⟨a, b⟩ := dg u hu
      refine ⟨by unfold allDig; rw [List.all_cons, a]; rfl, ?_, by simp, by simpa using h1⟩
      show 0 * 10 + ((UInt8.ofNat (48 + u)).toNat - 48) = u
      omega
    · rw [decide_eq_false hu, cond_false]
      obtain ⟨a, b⟩ := dg (u % 10) (Nat.mod_lt _ (by decide))
      obtain ⟨m, rfl⟩ : ∃ q, m = q + 1 := ⟨m - 1, by omega⟩
      rw [Nat.pow_succ] at h0
      have hm : 1 ≤ m := by
        rcases Nat.eq_zero_or_pos m with h | h
        · subst h; simp at h0; omega
        · exact h
      obtain ⟨c, d, e, f⟩ := digs_ok k (u / 10) m (by omega) hm (by omega)
      refine ⟨?_, ?_, by simp, by simp; omega⟩
      · unfold allDig at c ⊢
        rw [List.all_append, c, List.all_cons, a]
        rfl
      · rw [digV_snoc, d, b]
        omega
theorem portS_digs (p : Int) (h0 : 0 < p) (h1 : p ≤ 65535) : portS (digs 20 p.toNat) = some p := by
  obtain ⟨a, b, c, d⟩ := digs_ok 20 p.toNat 5 (by omega) (by decide) (by decide)
  unfold portS
  rw [if_neg (fun e => by rw [e] at a; exact absurd a (by decide)), if_pos ⟨c, d, a, by omega⟩, b]
  congr 1
  omega
/-! ### The first place of a text -/
theorem findB_skip : ∀ (x y e : Bs) (c : UInt8), c ∉ x → findB (x ++ y) (c :: e) = (findB y (c :: e)).map (· + x.length)
  | [], y, e, c, _ => by
    rw [List.nil_append, List.length_nil]
    cases findB y (c :: e) <;> rfl
  | d :: x, y, e, c, h => by
    rw [List.cons_append, findB, if_neg, findB_skip x y e c (fun hm => h (List.mem_cons_of_mem _ hm))]
    · cases findB y (c :: e) with
      | none => rfl
      | some k => simp only [Option.map_some, List.length_cons]; congr 1
    · intro hp
      obtain ⟨e1, _⟩ := List.cons_prefix_cons.1 (List.isPrefixOf_iff_prefix.1 hp)
      exact h (e1 ▸ List.mem_cons_self)
theorem findB_no (x e : Bs) (c : UInt8) (h : c ∉ x) : findB x (c :: e) = none := by
  have := findB_skip x [] e c h
  rw [List.append_nil] at this
  rw [this]
  rfl
end Go.En.Pl
