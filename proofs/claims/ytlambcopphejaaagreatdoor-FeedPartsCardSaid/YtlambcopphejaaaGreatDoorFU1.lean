/- Text FU1 of this seat: written by a program of ours, or by hand; checked by Lean. -/
import Derived.Test.YtlambcopphejaaaGreatDoorW
set_option linter.unusedSimpArgs false
set_option linter.unusedVariables false
namespace Go.En.Pl
/-! What bytes are decoded as: plain. -/
def ct (c : UInt8) : Bool := decide (128 ≤ c.toNat) && decide (c.toNat ≤ 191)
def u8lo (a : Nat) : Nat := if a = 224 then 160 else if a = 240 then 144 else 128
def u8hi (a : Nat) : Nat := if a = 237 then 159 else if a = 244 then 143 else 191
def u8sz (a : Nat) : Nat := if a < 128 then 1 else if a < 194 then 0 else if a < 224 then 2 else if a < 240 then 3 else if a < 245 then 4 else 0
def ok1 (a b : UInt8) : Bool := decide (u8lo a.toNat ≤ b.toNat) && decide (b.toNat ≤ u8hi a.toNat)
def vt (a : UInt8) : Bs → Bool
  | [] => true
  | b :: r => ok1 a b && r.all ct
def cpl : Bs → Nat
  | [] => 0
  | a :: s => if u8sz a.toNat - 1 ≤ s.length ∧ vt a (s.take (u8sz a.toNat - 1)) = true then u8sz a.toNat else 0
theorem cpl_cons (a : UInt8) (s : Bs) : cpl (a :: s) = if u8sz a.toNat - 1 ≤ s.length ∧ vt a (s.take (u8sz a.toNat - 1)) = true then u8sz a.toNat else 0 := rfl
def inc : Bs → Bool
  | [] => false
  | a :: s => decide (s.length < u8sz a.toNat - 1) && vt a s
def cpw (s : Bs) : Bs := if cpl s = 0 then [239, 191, 189] else s.take (cpl s)
def cpn (s : Bs) : Nat := if cpl s = 0 then 1 else cpl s
def Uf : Nat → Bs → Bs
  | 0, _ => []
  | _ + 1, [] => []
  | n + 1, a :: s => cpw (a :: s) ++ Uf n ((a :: s).drop (cpn (a :: s)))
def U (s : Bs) : Bs := Uf s.length s
theorem u8sz_le (a : Nat) : u8sz a ≤ 4 := by unfold u8sz; (repeat' split) <;> omega
theorem cpl_le : ∀ s : Bs, cpl s ≤ s.length
  | [] => Nat.le_refl _
  | a :: s => by
    rw [cpl_cons]
    split
    · rename_i h; simp; omega
    · omega
theorem cpl_le4 : ∀ s : Bs, cpl s ≤ 4
  | [] => by simp [cpl]
  | a :: s => by
    rw [cpl_cons]
    split
    · exact u8sz_le _
    · omega
theorem cpn_pos (s : Bs) : 1 ≤ cpn s := by unfold cpn; split <;> omega
theorem cpn_le {s : Bs} (h : s ≠ []) : cpn s ≤ s.length := by
  have h1 := cpl_le s
  have h2 : 0 < s.length := List.length_pos_iff.2 h
  unfold cpn
  split <;> omega
theorem cpw_len (s : Bs) : (cpw s).length ≤ 3 * cpn s := by
  unfold cpw cpn
  split
  · simp
  · simp; omega
theorem Uf_more : ∀ (n : Nat) (s : Bs), s.length ≤ n → ∀ m, s.length ≤ m → Uf n s = Uf m s
  | 0, s, h, m, h' => by
    obtain rfl : s = [] := List.length_eq_zero_iff.1 (by omega)
    cases m <;> rfl
  | n + 1, [], h, m, h' => by cases m <;> rfl
  | n + 1, a :: s, h, m, h' => by
    obtain ⟨m, rfl⟩ : ∃ k, m = k + 1 := ⟨m - 1, by simp at h'; omega⟩
    unfold Uf
    have := cpn_pos (a :: s)
    rw [Uf_more n _ (by simp at *; omega) m (by simp at *; omega)]
theorem U_nil : U [] = [] := rfl
theorem U_cons {s : Bs} (h : s ≠ []) : U s = cpw s ++ U (s.drop (cpn s)) := by
  cases s with
  | nil => exact absurd rfl h
  | cons a s =>
    have := cpn_pos (a :: s)
    show Uf (s.length + 1) (a :: s) = _
    unfold Uf U
    rw [Uf_more s.length _ (by simp; omega) _ (Nat.le_refl _)]
theorem U_len : ∀ (n : Nat) (s : Bs), s.length ≤ n → (U s).length ≤ 3 * s.length
  | 0, s, h => by
    obtain rfl : s = [] := List.length_eq_zero_iff.1 (by omega)
    simp [U_nil]
  | n + 1, s, h => by
    by_cases hs : s = []
    · subst hs; simp [U_nil]
    · have h1 := cpn_pos s
      have h2 := cpn_le hs
      have h3 := cpw_len s
      have h4 := U_len n (s.drop (cpn s)) (by simp; omega)
      rw [U_cons hs]
      simp at *
      omega
theorem ok1_ct {a b : UInt8} (h : ok1 a b = true) : ct b = true := by
  simp only [ok1, ct, Bool.and_eq_true, decide_eq_true_eq] at *
  have h1 : 128 ≤ u8lo a.toNat := by unfold u8lo; (repeat' split) <;> omega
  have h2 : u8hi a.toNat ≤ 191 := by unfold u8hi; (repeat' split) <;> omega
  omega
theorem vt_all {a : UInt8} : ∀ {s : Bs}, vt a s = true → ∀ c ∈ s, ct c = true
  | [], _, c, hc => by cases hc
  | b :: r, h, c, hc => by
    simp only [vt, Bool.and_eq_true, List.all_eq_true] at h
    rcases List.mem_cons.1 hc with rfl | hc
    · exact ok1_ct h.1
    · exact h.2 c hc
theorem vt_pre {a : UInt8} : ∀ {s z : Bs}, vt a (s ++ z) = true → vt a s = true
  | [], _, _ => rfl
  | b :: r, z, h => by
    simp only [vt, List.cons_append, Bool.and_eq_true, List.all_eq_true, List.mem_append] at *
    exact ⟨h.1, fun c hc => h.2 c (.inl hc)⟩
theorem cpl_app {x y : Bs} (hx : x ≠ []) (h : inc x = false) : cpl (x ++ y) = cpl x := by
  cases x with
  | nil => exact absurd rfl hx
  | cons a s =>
    rw [List.cons_append, cpl_cons, cpl_cons]
    by_cases hl : u8sz a.toNat - 1 ≤ s.length
    · rw [List.take_append_of_le_length hl]
      have hl2 : u8sz a.toNat - 1 ≤ (s ++ y).length := by simp; omega
      simp only [hl, hl2, true_and]
    · have hv : ¬ vt a s = true := by
        intro hv
        simp [inc, hv] at h
        omega
      rw [if_neg (show ¬ (u8sz a.toNat - 1 ≤ s.length ∧ vt a (s.take (u8sz a.toNat - 1)) = true) from fun h => hl h.1), if_neg]
      rintro ⟨h1, h2⟩
      rw [List.take_append] at h2
      have := vt_pre h2
      rw [List.take_of_length_le (by omega)] at this
      exact hv this
theorem cpl_start {x y : Bs} {c : UInt8} (hx : x ≠ []) (h : ct c = false) : cpl (x ++ c :: y) = cpl x := by
  cases hi : inc x with
  | false => exact cpl_app hx hi
  | true =>
    cases x with
    | nil => exact absurd rfl hx
    | cons a s =>
      simp only [inc, Bool.and_eq_true, decide_eq_true_eq] at hi
      rw [List.cons_append, cpl_cons, cpl_cons]
      rw [if_neg (show ¬ (u8sz a.toNat - 1 ≤ s.length ∧ _) from fun h => by omega), if_neg]
      rintro ⟨h1, h2⟩
      have := vt_all h2 c (by
        rw [List.take_append, List.mem_append]
        refine .inr ?_
        obtain ⟨k, hk⟩ : ∃ k, u8sz a.toNat - 1 - s.length = k + 1 := ⟨u8sz a.toNat - 1 - s.length - 1, by omega⟩
        rw [hk]
        simp)
      rw [h] at this
      cases this
theorem U_split : ∀ (n : Nat) (x y : Bs), x.length ≤ n → (∀ k, k < x.length → cpl (x.drop k ++ y) = cpl (x.drop k)) → U (x ++ y) = U x ++ U y
  | 0, x, y, h, _ => by
    obtain rfl : x = [] := List.length_eq_zero_iff.1 (by omega)
    rfl
  | n + 1, x, y, h, hk => by
    by_cases hx : x = []
    · subst hx; rfl
    · have h0 : cpl (x ++ y) = cpl x := by have := hk 0 (List.length_pos_iff.2 hx); simpa using this
      have h1 : cpw (x ++ y) = cpw x := by
        unfold cpw
        rw [h0, List.take_append_of_le_length (cpl_le x)]
      have h2 : cpn (x ++ y) = cpn x := by unfold cpn; rw [h0]
      have h3 := cpn_le hx
      have h4 := cpn_pos x
      rw [U_cons (by simp [hx]), U_cons hx, h1, h2, List.drop_append_of_le_length h3, List.append_assoc]
      congr 1
      refine U_split n _ _ (by simp; omega) fun k hk' => ?_
      rw [List.drop_drop]
      exact hk _ (by simp at hk'; omega)
def keepF : Nat → Nat → Bs → Nat
  | 0, _, _ => 0
  | n + 1, k, s => if k ≤ s.length then (match s[s.length - k]? with
    | some c => if ct c then keepF n (k + 1) s else (if inc (s.drop (s.length - k)) then k else 0)
    | none => 0) else 0
def keep (s : Bs) : Nat := keepF 3 1 s
theorem inc_ct {x : Bs} (h : inc x = true) : ∀ c, x.head? = some c → ct c = false := by
  cases x with
  | nil => cases h
  | cons a s =>
    rintro c ⟨⟩
    simp only [inc, Bool.and_eq_true, decide_eq_true_eq] at h
    have h1 := h.1
    unfold u8sz at h1
    simp only [ct, Bool.and_eq_false_iff, decide_eq_false_iff_not]
    (repeat' split at h1) <;> omega
theorem inc_tail {x : Bs} (h : inc x = true) {k : Nat} {c : UInt8} (hk : x[k + 1]? = some c) : ct c = true := by
  cases x with
  | nil => cases h
  | cons a s =>
    simp only [inc, Bool.and_eq_true, decide_eq_true_eq] at h
    exact vt_all h.2 c (List.mem_of_getElem? (by simpa using hk))
theorem inc_len {x : Bs} (h : inc x = true) : x.length ≤ 3 := by
  cases x with
  | nil => cases h
  | cons a s =>
    simp only [inc, Bool.and_eq_true, decide_eq_true_eq] at h
    have := u8sz_le a.toNat
    simp; omega
theorem keepF_spec (s y : Bs) : ∀ (n k : Nat), n + k = 4 → 1 ≤ k → (∀ j, 1 ≤ j → j < k → j ≤ s.length → ∀ c, s[s.length - j]? = some c → ct c = true) →
    keepF n k s ≤ 3 ∧ keepF n k s ≤ s.length ∧ U (s ++ y) = U (s.take (s.length - keepF n k s)) ++ U (s.drop (s.length - keepF n k s) ++ y)
  | 0, k, hk, h1, h => by
    refine ⟨by simp [keepF], by simp [keepF], ?_⟩
    simp only [keepF, Nat.sub_zero, List.take_length, List.drop_length, List.nil_append]
    refine U_split s.length s y (Nat.le_refl _) fun i hi => cpl_app (by intro e; simp at e; omega) ?_
    cases hc : inc (s.drop i) with
    | false => rfl
    | true =>
      have hl := inc_len hc
      have := inc_ct hc s[i] (by rw [List.head?_drop, List.getElem?_eq_getElem hi])
      rw [h (s.length - i) (by omega) (by simp at hl; omega) (by omega) s[i] (by rw [show s.length - (s.length - i) = i by omega, List.getElem?_eq_getElem hi])] at this
      cases this
  | n + 1, k, hk, h1, h => by
    unfold keepF
    by_cases hl : k ≤ s.length
    · have hlt : s.length - k < s.length := by omega
      rw [if_pos hl, List.getElem?_eq_getElem hlt]
      dsimp only
      cases hct : ct s[s.length - k] with
      | true =>
        rw [if_pos rfl]
        refine keepF_spec s y n (k + 1) (by omega) (by omega) fun j h2 h3 h4 c hc => ?_
        by_cases e : j = k
        · subst e
          rw [List.getElem?_eq_getElem hlt] at hc
          cases hc
          exact hct
        · exact h j h2 (by omega) h4 c hc
      | false =>
        rw [if_neg (by decide)]
        cases hinc : inc (s.drop (s.length - k)) with
        | true =>
          rw [if_pos rfl]
          refine ⟨by omega, hl, ?_⟩
          have hd : s.drop (s.length - k) = s[s.length - k] :: s.drop (s.length - k + 1) := List.drop_eq_getElem_cons hlt
          have e : s ++ y = s.take (s.length - k) ++ (s.drop (s.length - k) ++ y) := by rw [← List.append_assoc, List.take_append_drop]
          rw [e]
          refine U_split s.length _ _ (by simp) fun i hi => ?_
          rw [hd]
          exact cpl_start (by intro e; simp at e hi; omega) hct
        | false =>
          rw [if_neg (by decide)]
          refine ⟨by omega, by omega, ?_⟩
          simp only [Nat.sub_zero, List.take_length, List.drop_length, List.nil_append]
          refine U_split s.length s y (Nat.le_refl _) fun i hi => cpl_app (by intro e; simp at e; omega) ?_
          cases hc : inc (s.drop i) with
          | false => rfl
          | true =>
            have hl2 := inc_len hc
            by_cases e1 : i = s.length - k
            · subst e1; rw [hinc] at hc; cases hc
            · by_cases e2 : i < s.length - k
              · have := inc_tail hc (k := s.length - k - i - 1) (c := s[s.length - k]) (by rw [List.getElem?_drop, show i + (s.length - k - i - 1 + 1) = s.length - k by omega, List.getElem?_eq_getElem hlt])
                rw [hct] at this; cases this
              · have := inc_ct hc s[i] (by rw [List.head?_drop, List.getElem?_eq_getElem hi])
                rw [h (s.length - i) (by omega) (by omega) (by omega) s[i] (by rw [show s.length - (s.length - i) = i by omega, List.getElem?_eq_getElem hi])] at this
                cases this
    · rw [if_neg hl]
      refine ⟨by omega, by omega, ?_⟩
      simp only [Nat.sub_zero, List.take_length, List.drop_length, List.nil_append]
      refine U_split s.length s y (Nat.le_refl _) fun i hi => cpl_app (by intro e; simp at e; omega) ?_
      cases hc : inc (s.drop i) with
      | false => rfl
      | true =>
        have := inc_ct hc s[i] (by rw [List.head?_drop, List.getElem?_eq_getElem hi])
        rw [h (s.length - i) (by omega) (by omega) (by omega) s[i] (by rw [show s.length - (s.length - i) = i by omega, List.getElem?_eq_getElem hi])] at this
        cases this
theorem keep_spec (s y : Bs) : keep s ≤ 3 ∧ keep s ≤ s.length ∧ U (s ++ y) = U (s.take (s.length - keep s)) ++ U (s.drop (s.length - keep s) ++ y) :=
  keepF_spec s y 3 1 rfl (Nat.le_refl _) fun j h1 h2 => by omega
end Go.En.Pl
