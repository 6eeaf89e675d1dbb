/- Text FU7 of this seat: written by a program of ours, or by hand; checked by Lean. -/
import Derived.Test.YtlambcopphejaaaGreatDoorFU2
import Derived.Test.YtlambcopphejaaaGreatDoorFA
set_option linter.unusedSimpArgs false
set_option linter.unusedVariables false
namespace Go.En.Pl
/-! The document's decoding of bytes. -/
def ldk (n : Nat) : Nat := if n < 128 then 1 else if n < 192 then 0 else if n < 224 then 2 else if n < 240 then 3 else if n < 248 then 4 else 0
def ldn (n : Nat) : Nat := if n < 128 then n else if n < 192 then 0 else if n < 224 then n - 192 else if n < 240 then n - 224 else if n < 248 then n - 240 else 0
theorem lead_all (V : Ev) : (List.range 256).all (fun n => decide (pounceref01_lead_ V (((n : Int), ()), ()) = some ((((ldk n : Nat) : Int), (((ldn n : Nat) : Int), ())), ()))) = true := by kernel_rfl
theorem lead_eq (V : Ev) (a : UInt8) : pounceref01_lead_ V ((((a.toNat : Nat) : Int), ()), ()) = some ((((ldk a.toNat : Nat) : Int), (((ldn a.toNat : Nat) : Int), ())), ()) :=
  of_decide_eq_true (List.all_eq_true.1 (lead_all V) a.toNat (List.mem_range.2 a.toNat_lt))
theorem utfI_rng {n : Nat} (h : n ≤ 3000000) : ∀ x ∈ utfI n, 0 ≤ x ∧ x ≤ 255 := by
  intro x hx
  unfold utfI at hx
  split at hx
  · simp at hx; omega
  · split at hx
    · simp at hx; omega
    · split at hx <;> simp at hx <;> omega
theorem ofBs_toBs : ∀ {l : List Int}, (∀ x ∈ l, 0 ≤ x ∧ x ≤ 255) → ofBs (toBs l) = l
  | [], _ => rfl
  | x :: l, h => by
    have h1 := h x (List.mem_cons_self ..)
    have h2 : ofBs (toBs l) = l := ofBs_toBs fun y hy => h y (List.mem_cons_of_mem _ hy)
    show (((UInt8.ofNat x.toNat).toNat : Nat) : Int) :: ofBs (toBs l) = _
    rw [h2, UInt8.toNat_ofNat']
    congr 1
    omega
theorem utf_iff {n : Nat} (h : n ≤ 3000000) (t : Bs) : (utf n == t) = decide (utfI n = ofBs t) := by
  have e := ofBs_toBs (utfI_rng h)
  rw [Bool.eq_iff_iff]
  simp only [beq_iff_eq, decide_eq_true_eq]
  constructor
  · rintro rfl; exact e.symm
  · intro h2
    have : toBs (utfI n) = toBs (ofBs t) := by rw [h2]
    rw [toBs_ofBs] at this
    exact this
theorem kk2 (A B : Nat) (h1 : 192 ≤ A) (h2 : A < 224) (hB : B < 256) : (pt (64 * (A - 192) + B % 64) = true ∧ utfI (64 * (A - 192) + B % 64) = [(A : Int), (B : Int)]) ↔ (194 ≤ A ∧ 128 ≤ B ∧ B ≤ 191) := by
  unfold utfI pt
  generalize hn : 64 * (A - 192) + B % 64 = n
  simp only [Bool.and_eq_true, decide_eq_true_eq, Bool.not_eq_true', Bool.and_eq_false_iff, decide_eq_false_iff_not]
  split
  · simp; omega
  · split
    · simp; omega
    · split <;> simp <;> omega
theorem kk3 (A B C : Nat) (h1 : 224 ≤ A) (h2 : A < 240) (hB : B < 256) (hC : C < 256) : (pt (64 * (64 * (A - 224) + B % 64) + C % 64) = true ∧ utfI (64 * (64 * (A - 224) + B % 64) + C % 64) = [(A : Int), (B : Int), (C : Int)]) ↔ (u8lo A ≤ B ∧ B ≤ u8hi A ∧ 128 ≤ C ∧ C ≤ 191) := by
  unfold utfI pt u8lo u8hi
  generalize hn : 64 * (64 * (A - 224) + B % 64) + C % 64 = n
  simp only [Bool.and_eq_true, decide_eq_true_eq, Bool.not_eq_true', Bool.and_eq_false_iff, decide_eq_false_iff_not]
  split
  · simp; (repeat' split) <;> omega
  · split
    · simp; (repeat' split) <;> omega
    · split
      · simp; (repeat' split) <;> omega
      · simp; (repeat' split) <;> omega
theorem kk4 (A B C D : Nat) (h1 : 240 ≤ A) (h2 : A < 248) (hB : B < 256) (hC : C < 256) (hD : D < 256) : (pt (64 * (64 * (64 * (A - 240) + B % 64) + C % 64) + D % 64) = true ∧ utfI (64 * (64 * (64 * (A - 240) + B % 64) + C % 64) + D % 64) = [(A : Int), (B : Int), (C : Int), (D : Int)]) ↔ (A < 245 ∧ u8lo A ≤ B ∧ B ≤ u8hi A ∧ (128 ≤ C ∧ C ≤ 191) ∧ 128 ≤ D ∧ D ≤ 191) := by
  unfold utfI pt u8lo u8hi
  generalize hn : 64 * (64 * (64 * (A - 240) + B % 64) + C % 64) + D % 64 = n
  simp only [Bool.and_eq_true, decide_eq_true_eq, Bool.not_eq_true', Bool.and_eq_false_iff, decide_eq_false_iff_not]
  split
  · simp; (repeat' split) <;> omega
  · split
    · simp; (repeat' split) <;> omega
    · split
      · simp; (repeat' split) <;> omega
      · simp; (repeat' split) <;> omega
def fv (n : Nat) : Bs → Nat
  | [] => n
  | b :: r => fv (64 * n + b.toNat % 64) r
theorem fv_snoc : ∀ (l : Bs) (n : Nat) (b : UInt8), fv n (l ++ [b]) = 64 * fv n l + b.toNat % 64
  | [], n, b => rfl
  | a :: l, n, b => fv_snoc l _ b
theorem fv_le : ∀ (l : Bs) (n : Nat), fv n l < (n + 1) * 64 ^ l.length
  | [], n => by simp [fv]
  | a :: l, n => by
    have := fv_le l (64 * n + a.toNat % 64)
    have h : (64 * n + a.toNat % 64 + 1) * 64 ^ l.length ≤ 64 * (n + 1) * 64 ^ l.length := Nat.mul_le_mul_right _ (by omega)
    show fv _ l < _
    rw [List.length_cons, Nat.pow_succ]
    calc fv (64 * n + a.toNat % 64) l < (64 * n + a.toNat % 64 + 1) * 64 ^ l.length := this
      _ ≤ 64 * (n + 1) * 64 ^ l.length := h
      _ = (n + 1) * (64 ^ l.length * 64) := by rw [Nat.mul_comm 64 (n + 1), Nat.mul_assoc, Nat.mul_comm 64]
theorem fdec (a : UInt8) (s : Bs) (hk : 1 ≤ ldk a.toNat) (hl : ldk a.toNat ≤ s.length + 1) : (pt (fv (ldn a.toNat) (s.take (ldk a.toNat - 1))) && (utf (fv (ldn a.toNat) (s.take (ldk a.toNat - 1))) == (a :: s).take (ldk a.toNat))) = decide (cpl (a :: s) ≠ 0) ∧ (cpl (a :: s) ≠ 0 → cpl (a :: s) = ldk a.toNat) := by
  have ha := a.toNat_lt
  have hcase : (a.toNat < 128 ∧ ldk a.toNat = 1 ∧ ldn a.toNat = a.toNat) ∨ (192 ≤ a.toNat ∧ a.toNat < 224 ∧ ldk a.toNat = 2 ∧ ldn a.toNat = a.toNat - 192) ∨ (224 ≤ a.toNat ∧ a.toNat < 240 ∧ ldk a.toNat = 3 ∧ ldn a.toNat = a.toNat - 224) ∨ (240 ≤ a.toNat ∧ a.toNat < 248 ∧ ldk a.toNat = 4 ∧ ldn a.toNat = a.toNat - 240) := by
    unfold ldk at hk ⊢
    unfold ldn
    (repeat' split) <;> (repeat' split at hk) <;> omega
  have hsz : u8sz a.toNat = if a.toNat < 128 then 1 else if a.toNat < 194 then 0 else if a.toNat < 224 then 2 else if a.toNat < 240 then 3 else if a.toNat < 245 then 4 else 0 := rfl
  rcases hcase with ⟨h1, h2, h3⟩ | ⟨h1, h1', h2, h3⟩ | ⟨h1, h1', h2, h3⟩ | ⟨h1, h1', h2, h3⟩
  · rw [h2, h3]
    have hc : cpl (a :: s) = 1 := by
      have : u8sz a.toNat = 1 := by rw [hsz, if_pos h1]
      rw [cpl_cons, this]; simp [vt]
    rw [hc]
    refine ⟨?_, fun _ => rfl⟩
    show (pt a.toNat && (utf a.toNat == [a])) = true
    have hu : utf a.toNat = [a] := by
      unfold utf utfI
      rw [if_pos (by omega)]
      have := toBs_ofBs [a]
      exact this
    have hp : pt a.toNat = true := by simp [pt]; omega
    rw [hu, hp]; simp
  · rw [h2] at hl ⊢
    rw [h3]
    obtain ⟨b, s, rfl⟩ : ∃ b s', s = b :: s' := by
      cases s with
      | nil => simp at hl
      | cons b s => exact ⟨b, s, rfl⟩
    have hb := b.toNat_lt
    show (pt (64 * (a.toNat - 192) + b.toNat % 64) && (utf (64 * (a.toNat - 192) + b.toNat % 64) == [a, b])) = _ ∧ _
    rw [utf_iff (by omega)]
    have q := kk2 a.toNat b.toNat h1 h1' hb
    have hc : cpl (a :: b :: s) = if 194 ≤ a.toNat ∧ 128 ≤ b.toNat ∧ b.toNat ≤ 191 then 2 else 0 := by
      by_cases h4 : 194 ≤ a.toNat
      · have h5 : u8sz a.toNat = 2 := by rw [hsz]; (repeat' split) <;> omega
        rw [cpl2 a b s h5]
        have : (ok1 a b = true) ↔ (194 ≤ a.toNat ∧ 128 ≤ b.toNat ∧ b.toNat ≤ 191) := by
          have l1 : u8lo a.toNat = 128 := by unfold u8lo; (repeat' split) <;> omega
          have l2 : u8hi a.toNat = 191 := by unfold u8hi; (repeat' split) <;> omega
          simp only [ok1, l1, l2, Bool.and_eq_true, decide_eq_true_eq]
          omega
        simp only [this]
      · have h5 : u8sz a.toNat = 0 := by rw [hsz]; (repeat' split) <;> omega
        rw [cpl_cons, h5, if_neg (show ¬ (194 ≤ a.toNat ∧ _) from fun h => h4 h.1)]
        simp
    rw [hc]
    by_cases hq : 194 ≤ a.toNat ∧ 128 ≤ b.toNat ∧ b.toNat ≤ 191
    · rw [if_pos hq]
      obtain ⟨q1, q2⟩ := q.2 hq
      refine ⟨?_, fun _ => rfl⟩
      rw [q1, decide_eq_true (show utfI _ = ofBs [a, b] from q2)]; rfl
    · rw [if_neg hq]
      refine ⟨?_, fun h => absurd rfl h⟩
      rw [show decide ((0 : Nat) ≠ 0) = false from rfl, Bool.and_eq_false_iff]
      by_cases hp : pt (64 * (a.toNat - 192) + b.toNat % 64) = true
      · right
        exact decide_eq_false fun h => hq (q.1 ⟨hp, h⟩)
      · left; simpa using hp
  · rw [h2] at hl ⊢
    rw [h3]
    obtain ⟨b, c, s, rfl⟩ : ∃ b c s', s = b :: c :: s' := by
      match s, hl with
      | [], h => simp at h
      | [b], h => simp at h
      | b :: c :: s, _ => exact ⟨b, c, s, rfl⟩
    have hb := b.toNat_lt
    have hc' := c.toNat_lt
    show (pt (64 * (64 * (a.toNat - 224) + b.toNat % 64) + c.toNat % 64) && (utf (64 * (64 * (a.toNat - 224) + b.toNat % 64) + c.toNat % 64) == [a, b, c])) = _ ∧ _
    rw [utf_iff (by omega)]
    have q := kk3 a.toNat b.toNat c.toNat h1 h1' hb hc'
    have h5 : u8sz a.toNat = 3 := by rw [hsz]; (repeat' split) <;> omega
    have hc : cpl (a :: b :: c :: s) = if u8lo a.toNat ≤ b.toNat ∧ b.toNat ≤ u8hi a.toNat ∧ 128 ≤ c.toNat ∧ c.toNat ≤ 191 then 3 else 0 := by
      rw [cpl3 a b c s h5]
      simp only [ok1, ct, Bool.and_eq_true, decide_eq_true_eq, and_assoc]
    rw [hc]
    by_cases hq : u8lo a.toNat ≤ b.toNat ∧ b.toNat ≤ u8hi a.toNat ∧ 128 ≤ c.toNat ∧ c.toNat ≤ 191
    · rw [if_pos hq]
      obtain ⟨q1, q2⟩ := q.2 hq
      refine ⟨?_, fun _ => rfl⟩
      rw [q1, decide_eq_true (show utfI _ = ofBs [a, b, c] from q2)]; rfl
    · rw [if_neg hq]
      refine ⟨?_, fun h => absurd rfl h⟩
      rw [show decide ((0 : Nat) ≠ 0) = false from rfl, Bool.and_eq_false_iff]
      by_cases hp : pt (64 * (64 * (a.toNat - 224) + b.toNat % 64) + c.toNat % 64) = true
      · right
        exact decide_eq_false fun h => hq (q.1 ⟨hp, h⟩)
      · left; simpa using hp
  · rw [h2] at hl ⊢
    rw [h3]
    obtain ⟨b, c, d, s, rfl⟩ : ∃ b c d s', s = b :: c :: d :: s' := by
      match s, hl with
      | [], h => simp at h
      | [b], h => simp at h
      | [b, c], h => simp at h
      | b :: c :: d :: s, _ => exact ⟨b, c, d, s, rfl⟩
    have hb := b.toNat_lt
    have hc' := c.toNat_lt
    have hd' := d.toNat_lt
    show (pt (64 * (64 * (64 * (a.toNat - 240) + b.toNat % 64) + c.toNat % 64) + d.toNat % 64) && (utf (64 * (64 * (64 * (a.toNat - 240) + b.toNat % 64) + c.toNat % 64) + d.toNat % 64) == [a, b, c, d])) = _ ∧ _
    rw [utf_iff (by omega)]
    have q := kk4 a.toNat b.toNat c.toNat d.toNat h1 h1' hb hc' hd'
    have hc : cpl (a :: b :: c :: d :: s) = if a.toNat < 245 ∧ u8lo a.toNat ≤ b.toNat ∧ b.toNat ≤ u8hi a.toNat ∧ (128 ≤ c.toNat ∧ c.toNat ≤ 191) ∧ 128 ≤ d.toNat ∧ d.toNat ≤ 191 then 4 else 0 := by
      by_cases h4 : a.toNat < 245
      · have h5 : u8sz a.toNat = 4 := by rw [hsz]; (repeat' split) <;> omega
        rw [cpl4 a b c d s h5]
        simp only [ok1, ct, Bool.and_eq_true, decide_eq_true_eq, and_assoc, h4, true_and]
      · have h5 : u8sz a.toNat = 0 := by rw [hsz]; (repeat' split) <;> omega
        rw [cpl_cons, h5, if_neg (show ¬ (a.toNat < 245 ∧ _) from fun h => h4 h.1)]
        simp
    rw [hc]
    by_cases hq : a.toNat < 245 ∧ u8lo a.toNat ≤ b.toNat ∧ b.toNat ≤ u8hi a.toNat ∧ (128 ≤ c.toNat ∧ c.toNat ≤ 191) ∧ 128 ≤ d.toNat ∧ d.toNat ≤ 191
    · rw [if_pos hq]
      obtain ⟨q1, q2⟩ := q.2 hq
      refine ⟨?_, fun _ => rfl⟩
      rw [q1, decide_eq_true (show utfI _ = ofBs [a, b, c, d] from q2)]; rfl
    · rw [if_neg hq]
      refine ⟨?_, fun h => absurd rfl h⟩
      rw [show decide ((0 : Nat) ≠ 0) = false from rfl, Bool.and_eq_false_iff]
      by_cases hp : pt (64 * (64 * (64 * (a.toNat - 240) + b.toNat % 64) + c.toNat % 64) + d.toNat % 64) = true
      · right
        exact decide_eq_false fun h => hq (q.1 ⟨hp, h⟩)
      · left; simpa using hp
theorem Point_eq (V : Ev) (n : Nat) : pounceref01_Point_ V (((n : Int), ()), ()) = some ((pt n, ()), ()) := by
  unfold pounceref01_Point_ pt
  have e0 : decide ((n : Int) ≥ 0) = true := decide_eq_true (by omega)
  have e1 : decide ((n : Int) < 55296) = decide (n < 55296) := decide_eq_decide.2 (by omega)
  have e2 : decide ((n : Int) > 57343) = decide (57343 < n) := decide_eq_decide.2 (by omega)
  have e3 : decide ((n : Int) ≤ 1114111) = decide (n ≤ 1114111) := decide_eq_decide.2 (by omega)
  rw [e0, e1, e2, e3]
  by_cases h0 : n ≤ 1114111
  · by_cases h1 : n < 55296
    · rw [decide_eq_true h0, decide_eq_true h1, decide_eq_false (show ¬ 55296 ≤ n by omega)]; rfl
    · by_cases h2 : 57343 < n
      · rw [decide_eq_true h0, decide_eq_false h1, decide_eq_true h2, decide_eq_true (show 55296 ≤ n by omega), decide_eq_false (show ¬ n ≤ 57343 by omega)]; rfl
      · rw [decide_eq_true h0, decide_eq_false h1, decide_eq_false h2, decide_eq_true (show 55296 ≤ n by omega), decide_eq_true (show n ≤ 57343 by omega)]; rfl
  · rw [decide_eq_false h0]; rfl
theorem First_eq (N : Nat) (hN : 8 < N) (s : Bs) (hs : s ≠ []) : ∃ n : Int, pounceref01_First_ (Ev.upto N) ((s, ()), ()) = some ((n, (((cpl s : Nat) : Int), ())), ()) ∧ (cpl s ≠ 0 → ∃ m : Nat, n = (m : Int) ∧ m ≤ 1114111 ∧ utf m = s.take (cpl s)) := by
  cases s with
  | nil => exact absurd rfl hs
  | cons a s =>
    have ha := a.toNat_lt
    have ld := lead_eq (Ev.upto N) a
    have hk4 : ldk a.toNat ≤ 4 := by unfold ldk; (repeat' split) <;> omega
    have hn0 : ldn a.toNat < 128 := by unfold ldn; (repeat' split) <;> omega
    by_cases hbad : ldk a.toNat = 0 ∨ s.length + 1 < ldk a.toNat
    · have hc : cpl (a :: s) = 0 := by
        rcases hbad with h | h
        · have : u8sz a.toNat = 0 := by
            unfold ldk at h
            unfold u8sz
            (repeat' split at h) <;> (repeat' split) <;> omega
          rw [cpl_cons, this]; split <;> rfl
        · by_cases h5 : u8sz a.toNat = 0
          · rw [cpl_cons, h5]; split <;> rfl
          · refine cpl_short a s ?_
            have : u8sz a.toNat = ldk a.toNat := by
              unfold ldk u8sz at *
              (repeat' split at h) <;> (repeat' split at h5) <;> (repeat' split) <;> omega
            omega
      refine ⟨0, ?_, fun h => absurd hc h⟩
      rw [hc]
      unfold pounceref01_First_
      dsimp only
      rw [idx_zero, Option.bind_some, ld, Option.bind_some]
      dsimp only
      have hor : ((bif ((((ldk a.toNat : Nat) : Int) == (0 : Int)) == false) then (some (((a :: s), (((ldk a.toNat : Nat) : Int), (((ldn a.toNat : Nat) : Int), (decide (((ldk a.toNat : Nat) : Int) > ((((a :: s).length : Nat)) : Int)), ())))), ())) else (some (((a :: s), (((ldk a.toNat : Nat) : Int), (((ldn a.toNat : Nat) : Int), (true, ())))), ()))) : Option ((Bs × Int × Int × Bool × Unit) × Unit)) = some (((a :: s), (((ldk a.toNat : Nat) : Int), (((ldn a.toNat : Nat) : Int), (true, ())))), ()) := by
        rcases hbad with h | h
        · rw [h]; rfl
        · rw [show (((ldk a.toNat : Nat) : Int) == 0) = false by rw [beq_eq_false_iff_ne]; omega, show decide (((ldk a.toNat : Nat) : Int) > (((a :: s).length : Nat) : Int)) = true from decide_eq_true (by simp only [List.length_cons]; omega)]
          rfl
      rw [hor]
      rfl
    · have h1 : 1 ≤ ldk a.toNat := by omega
      have h2 : ldk a.toNat ≤ s.length + 1 := by omega
      obtain ⟨f1, f2⟩ := fdec a s h1 h2
      have hlt : (s.take (ldk a.toNat - 1)).length = ldk a.toNat - 1 := by simp; omega
      have hn : fv (ldn a.toNat) (s.take (ldk a.toNat - 1)) ≤ 40000000 := by
        have := fv_le (s.take (ldk a.toNat - 1)) (ldn a.toNat)
        have h3 : (64 : Nat) ^ (s.take (ldk a.toNat - 1)).length ≤ 64 ^ 3 := Nat.pow_le_pow_right (by decide) (by omega)
        have h4 : (ldn a.toNat + 1) * 64 ^ (s.take (ldk a.toNat - 1)).length ≤ 128 * 64 ^ 3 := Nat.mul_le_mul (by omega) h3
        omega
      have main : wp (pounceref01_First_ (Ev.upto N) ((a :: s, ()), ())) (fun r => ∃ n : Int, r = ((n, (((cpl (a :: s) : Nat) : Int), ())), ()) ∧ (cpl (a :: s) ≠ 0 → ∃ m : Nat, n = (m : Int) ∧ m ≤ 1114111 ∧ utf m = (a :: s).take (cpl (a :: s)))) := by
        unfold pounceref01_First_
        dsimp only
        rw [idx_zero, Option.bind_some, ld, Option.bind_some]
        dsimp only
        rw [show (((ldk a.toNat : Nat) : Int) == 0) = false by rw [beq_eq_false_iff_ne]; omega, show decide (((ldk a.toNat : Nat) : Int) > (((a :: s).length : Nat) : Int)) = false from decide_eq_false (by simp only [List.length_cons]; omega)]
        have ff : (false == false) = true := rfl
        rw [ff, cond_true, Option.bind_some, cond_false]
        refine wp_seq (fun r => r = ((a :: s, (((ldk a.toNat : Nat) : Int), (((fv (ldn a.toNat) (s.take (ldk a.toNat - 1)) : Nat) : Int), ()))), ())) ?_ ?_
        · refine wp_for (σ := Unit) (fun i _ => ((a :: s, (((ldk a.toNat : Nat) : Int), (((fv (ldn a.toNat) (s.take i) : Nat) : Int), (((i + 1 : Nat) : Int), ())))), ())) (fun _ _ => True) (ldk a.toNat - 1) () rfl trivial (by omega) ?_
          rintro i _ hi _
          by_cases hi' : i < ldk a.toNat - 1
          · have c0 : decide (((i + 1 : Nat) : Int) < ((ldk a.toNat : Nat) : Int)) = true := decide_eq_true (by omega)
            have hil : i < s.length := by omega
            have gi : idx (a :: s) ((i + 1 : Nat) : Int) = some s[i] := by
              rw [idx_nat (by simp; omega)]
              rfl
            have hb := s[i].toNat_lt
            have w1 : IntKind.wrap .i64 ((s[i].toNat : Nat) : Int) = ((s[i].toNat : Nat) : Int) := wrap64 (by omega) (by omega)
            have t1 : Int.tmod ((s[i].toNat : Nat) : Int) (64 : Int) = ((s[i].toNat % 64 : Nat) : Int) := tmodn _ 64
            have r1 := rgm s[i].toNat
            have nz : ((64 : Int) != 0) = true := rfl
            have hfi : fv (ldn a.toNat) (s.take i) ≤ 40000000 := by
              have := fv_le (s.take i) (ldn a.toNat)
              have h3 : (64 : Nat) ^ (s.take i).length ≤ 64 ^ 3 := Nat.pow_le_pow_right (by decide) (by simp; omega)
              have h4 : (ldn a.toNat + 1) * 64 ^ (s.take i).length ≤ 128 * 64 ^ 3 := Nat.mul_le_mul (by omega) h3
              omega
            have w2 : IntKind.wrap .i64 ((64 : Int) * ((fv (ldn a.toNat) (s.take i) : Nat) : Int)) = ((64 * fv (ldn a.toNat) (s.take i) : Nat) : Int) := by rw [wrap64 (by omega) (by omega)]; omega
            have w3 : IntKind.wrap .i64 (((64 * fv (ldn a.toNat) (s.take i) : Nat) : Int) + ((s[i].toNat % 64 : Nat) : Int)) = ((fv (ldn a.toNat) (s.take (i + 1)) : Nat) : Int) := by
              rw [wrap64 (by omega) (by omega), List.take_succ_eq_append_getElem hil, fv_snoc]; omega
            have w4 : IntKind.wrap .i64 (((i + 1 : Nat) : Int) + 1) = ((i + 1 + 1 : Nat) : Int) := by rw [wrap64 (by omega) (by omega)]; omega
            simp -implicitDefEqProofs only [c0, cond_true, gi, Option.bind_some, w1, t1, nz, r1, Bool.and_self, w2, w3, w4]
            exact ⟨_, rfl, hi', (), rfl, trivial⟩
          · obtain rfl : i = ldk a.toNat - 1 := by omega
            have c0 : decide (((ldk a.toNat - 1 + 1 : Nat) : Int) < ((ldk a.toNat : Nat) : Int)) = false := decide_eq_false (by omega)
            simp -implicitDefEqProofs only [c0, cond_false]
            exact ⟨_, rfl, rfl⟩
        · rintro _ rfl
          dsimp only
          rw [Point_eq, Option.bind_some]
          cases hp : pt (fv (ldn a.toNat) (s.take (ldk a.toNat - 1))) with
          | false =>
            have hc : cpl (a :: s) = 0 := by
              rw [hp, Bool.false_and] at f1
              have := of_decide_eq_false f1.symm
              omega
            have nf : ((!false) == false) = false := rfl
            dsimp only
            rw [nf, cond_false, Option.bind_some]
            dsimp only
            rw [cond_true, hc]
            exact ⟨_, rfl, _, rfl, fun h => absurd rfl h⟩
          | true =>
            have hple : fv (ldn a.toNat) (s.take (ldk a.toNat - 1)) ≤ 1114111 := by
              simp only [pt, Bool.and_eq_true, decide_eq_true_eq] at hp
              exact hp.1
            have hsl : sl (a :: s) (0 : Int) ((ldk a.toNat : Nat) : Int) = some ((a :: s).take (ldk a.toNat)) := by
              rw [show (0 : Int) = ((0 : Nat) : Int) from rfl, sl_nat (Nat.zero_le _) (by simp; omega), List.drop_zero]
            have nf : ((!true) == false) = true := rfl
            dsimp only
            rw [nf, cond_true, hsl, Option.bind_some, pounceref01_Bytes_eq _ _ hple, Option.bind_some, Option.bind_some]
            dsimp only
            rw [hp, Bool.true_and] at f1
            cases hu : (utf (fv (ldn a.toNat) (s.take (ldk a.toNat - 1))) == (a :: s).take (ldk a.toNat)) with
            | false =>
              rw [hu] at f1
              have hc : cpl (a :: s) = 0 := by
                have := of_decide_eq_false f1.symm
                omega
              rw [Bool.not_false, cond_true, hc]
              exact ⟨_, rfl, _, rfl, fun h => absurd rfl h⟩
            | true =>
              rw [hu] at f1
              have hc : cpl (a :: s) ≠ 0 := of_decide_eq_true f1.symm
              rw [Bool.not_true, cond_false, f2 hc]
              exact ⟨_, rfl, _, rfl, fun _ => ⟨_, rfl, hple, by simpa using hu⟩⟩
      obtain ⟨r, e, n, rfl, h⟩ := main
      exact ⟨n, e, h⟩
/-- Points and their bytes. -/
def JB : List Int → Bs → Prop
  | [], w => w = []
  | n :: l, w => ∃ (m : Nat) (w' : Bs), n = (m : Int) ∧ m ≤ 1114111 ∧ w = utf m ++ w' ∧ JB l w'
theorem JB_snoc : ∀ {l : List Int} {w : Bs} {m : Nat}, m ≤ 1114111 → JB l w → JB (l ++ [(m : Int)]) (w ++ utf m)
  | [], w, m, hm, h => by
    obtain rfl : w = [] := h
    exact ⟨m, [], rfl, hm, by simp, rfl⟩
  | n :: l, w, m, hm, h => by
    obtain ⟨k, w', h1, h2, rfl, h3⟩ := h
    exact ⟨k, w' ++ utf m, h1, h2, by simp, JB_snoc hm h3⟩
theorem utf_odd : utf 65533 = [239, 191, 189] := by kernel_rfl
theorem Points_eq (N : Nat) (s : Bs) (hs : s.length ≤ 100000) (hN : 100010 < N) : ∃ l : List Int, pounceref01_Points_ (Ev.upto N) ((s, ()), ()) = some ((), (l, ())) ∧ JB l (U s) ∧ l.length ≤ s.length := by
  have main : wp (pounceref01_Points_ (Ev.upto N) ((s, ()), ())) (fun r => ∃ l : List Int, r = ((), (l, ())) ∧ JB l (U s) ∧ l.length ≤ s.length) := by
    unfold pounceref01_Points_
    refine wp_seq (fun r => ∃ l : List Int, r = ((), (l, ())) ∧ JB l (U s) ∧ l.length ≤ s.length) ?_ ?_
    · refine wp_it (fun a => ∃ (i : Nat) (l : List Int) (w : Bs), a = ((s, ((i : Int), ())), (l, ())) ∧ i ≤ s.length ∧ JB l w ∧ w ++ U (s.drop i) = U s ∧ l.length ≤ i) (fun a => s.length - a.1.2.1.toNat) ⟨0, [], [], rfl, Nat.zero_le _, rfl, rfl, Nat.le_refl _⟩ (by simp; omega) ?_
      rintro _ ⟨i, l, w, rfl, hi, hJ, hw, hl⟩
      by_cases hi' : i < s.length
      · have c0 : decide ((i : Int) < (s.length : Int)) = true := decide_eq_true (by omega)
        have hne : s.drop i ≠ [] := by intro e; simp at e; omega
        obtain ⟨n, e, hn⟩ := First_eq N (by omega) (s.drop i) hne
        have c1 := cpn_pos (s.drop i)
        have c2 := cpn_le hne
        simp only [List.length_drop] at c2
        rw [U_cons hne, List.drop_drop] at hw
        have f : fits (l.length + 1) 8 = true := fits_of (by omega)
        have w1 : IntKind.wrap .i64 ((i : Int) + ((cpn (s.drop i) : Nat) : Int)) = ((i + cpn (s.drop i) : Nat) : Int) := by rw [wrap64 (by omega) (by omega)]; omega
        by_cases hc : cpl (s.drop i) = 0
        · rw [hc] at e
          have e1 : cpn (s.drop i) = 1 := by unfold cpn; rw [if_pos hc]
          have e2 : cpw (s.drop i) = utf 65533 := by unfold cpw; rw [if_pos hc, utf_odd]
          have z : ((((0 : Nat) : Int)) == 0) = true := rfl
          rw [e1] at w1
          have w1' : IntKind.wrap .i64 ((i : Int) + 1) = ((i + 1 : Nat) : Int) := w1
          simp -implicitDefEqProofs only [c0, cond_true, sl_end hi, Option.bind_some, e, z, List.length_cons, List.length_nil, f, w1']
          refine ⟨_, rfl, ⟨i + 1, l ++ [((65533 : Nat) : Int)], w ++ utf 65533, rfl, by omega, JB_snoc (by decide) hJ, ?_, by simp; omega⟩, by simp; omega⟩
          rw [List.append_assoc, ← e2, ← e1]
          exact hw
        · obtain ⟨m, rfl, hm, hu⟩ := hn hc
          have e1 : cpn (s.drop i) = cpl (s.drop i) := by unfold cpn; rw [if_neg hc]
          have e2 : cpw (s.drop i) = utf m := by unfold cpw; rw [if_neg hc, hu]
          have z : (((cpl (s.drop i) : Nat) : Int) == 0) = false := by rw [beq_eq_false_iff_ne]; omega
          rw [e1] at w1
          simp -implicitDefEqProofs only [c0, cond_true, sl_end hi, Option.bind_some, e, z, cond_false, List.length_cons, List.length_nil, f, w1]
          refine ⟨_, rfl, ⟨i + cpl (s.drop i), l ++ [(m : Int)], w ++ utf m, rfl, by omega, JB_snoc hm hJ, ?_, by simp; omega⟩, by simp; omega⟩
          rw [List.append_assoc, ← e2, ← e1]
          exact hw
      · obtain rfl : i = s.length := by omega
        have c0 : decide ((s.length : Int) < (s.length : Int)) = false := decide_eq_false (by omega)
        rw [List.drop_length, U_nil, List.append_nil] at hw
        simp -implicitDefEqProofs only [c0, cond_false]
        exact ⟨_, rfl, l, rfl, by rw [← hw]; exact hJ, hl⟩
    · rintro _ ⟨l, rfl, h1, h2⟩
      exact ⟨_, rfl, l, rfl, h1, h2⟩
  obtain ⟨r, e, l, rfl, h1, h2⟩ := main
  exact ⟨l, e, h1, h2⟩
theorem Join_eq (N : Nat) (l : List Int) (w : Bs) (h : JB l w) (hl : l.length ≤ 100000) (hw : w.length ≤ 1000000) (hN : 100010 < N) : pounceref01_Join_ (Ev.upto N) ((l, ()), ()) = some ((w, ()), ()) := by
  apply wp_eq
  unfold pounceref01_Join_
  refine wp_seq (fun r => r = ((), (ofBs w, ()))) ?_ ?_
  · refine wp_for (σ := Bs × Bs) (fun i q => ((l, ((i : Int), ())), (ofBs q.1, ()))) (fun i q => q.1 ++ q.2 = w ∧ JB (l.drop i) q.2) l.length ([], w) rfl ⟨rfl, h⟩ (by omega) ?_
    rintro i ⟨p, q⟩ hi ⟨h1, h2⟩
    simp only at h1 h2
    by_cases hi' : i < l.length
    · have c0 : decide ((i : Int) < (l.length : Int)) = true := decide_eq_true (by omega)
      rw [List.drop_eq_getElem_cons hi'] at h2
      obtain ⟨m, q', h3, h4, rfl, h5⟩ := h2
      have hx : idx l (i : Int) = some ((m : Nat) : Int) := by rw [idx_nat hi', h3]
      have hb := pounceref01_Bytes_eq (Ev.upto N) m h4
      have w1 : IntKind.wrap .i64 ((i : Int) + 1) = ((i + 1 : Nat) : Int) := by rw [wrap64 (by omega) (by omega)]; omega
      have hlen : p.length + (utf m).length ≤ 1000000 := by rw [← h1] at hw; simp at hw; omega
      have f : fits (p.length + (utf m).length) 1 = true := fits_of (by omega)
      simp -implicitDefEqProofs only [c0, cond_true, hx, Option.bind_some, hb, ofBs_length, f, ofBs_append, w1]
      exact ⟨_, rfl, hi', (p ++ utf m, q'), rfl, by rw [← h1]; simp, h5⟩
    · obtain rfl : i = l.length := by omega
      have c0 : decide ((l.length : Int) < (l.length : Int)) = false := decide_eq_false (by omega)
      rw [List.drop_length] at h2
      obtain rfl : q = [] := h2
      rw [List.append_nil] at h1
      subst h1
      simp -implicitDefEqProofs only [c0, cond_false]
      exact ⟨_, rfl, rfl⟩
  · rintro _ rfl
    exact ⟨_, rfl, by rw [toBs_ofBs]⟩
theorem rDec_eq (N : Nat) (s : Bs) (hs : s.length ≤ 20000) (hN : 100010 < N) : pounceref01_Decode_ (Ev.upto N) ((s, ()), ()) = some ((U s, ()), ()) := by
  obtain ⟨l, e, h1, h2⟩ := Points_eq N s (by omega) hN
  have h3 := U_len s.length s (Nat.le_refl _)
  have q := Join_eq N l (U s) h1 (by omega) (by omega) hN
  unfold pounceref01_Decode_
  simp -implicitDefEqProofs only [e, Option.bind_some, q]
end Go.En.Pl
