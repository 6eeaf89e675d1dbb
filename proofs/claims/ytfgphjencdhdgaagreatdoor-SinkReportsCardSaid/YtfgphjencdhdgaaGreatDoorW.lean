/- Text W of this seat: written by a program of ours, or by hand; checked by Lean. -/
import Derived.Test.YtfgphjencdhdgaaGreatDoorE12
set_option linter.unusedSimpArgs false
set_option linter.unusedVariables false
namespace Go.En
/-! -/
def wp {α : Type} (o : Option α) (P : α → Prop) : Prop := ∃ x, o = some x ∧ P x
theorem z74 {α : Type} {x : α} {P : α → Prop} (h : P x) : wp (some x) P := ⟨x, rfl, h⟩
theorem z7q {α : Type} {o : Option α} {x : α} {P : α → Prop} (e : o = some x) (h : P x) : wp o P := ⟨x, e, h⟩
theorem zsg {α : Type} {o : Option α} {x : α} (h : wp o (· = x)) : o = some x := by
 obtain ⟨y, e, rfl⟩ := h
 exact e
theorem wp_mono {α : Type} {o : Option α} {P Q : α → Prop} (h : wp o Q) (hq : ∀ x, Q x → P x) : wp o P := by
 obtain ⟨x, e, q⟩ := h
 exact ⟨x, e, hq x q⟩
theorem kh {α β : Type} {o : Option α} {f : α → Option β} {P : β → Prop} (h : wp o (fun x => wp (f x) P)) : wp (o.bind f) P := by
 obtain ⟨x, rfl, y, e, p⟩ := h
 exact ⟨y, e, p⟩
theorem z8g {α β : Type} {o : Option α} {f : α → Option β} {P : β → Prop} (Q : α → Prop) (h : wp o Q) (hq : ∀ x, Q x → wp (f x) P) : wp (o.bind f) P :=
 kh (wp_mono h hq)
theorem z6m {α : Type} {b : Bool} {x y : Option α} {P : α → Prop} (h1 : b = true → wp x P) (h2 : b = false → wp y P) : wp (bif b then x else y) P := by
 cases b
 ·exact h2 rfl
 ·exact h1 rfl
theorem zgj {α : Type} {p : Prop} [Decidable p] {x y : Option α} {P : α → Prop} (h1 : p → wp x P) (h2 : ¬ p → wp y P) : wp (bif decide p then x else y) P :=
 z6m (fun h => h1 (of_decide_eq_true h)) (fun h => h2 (of_decide_eq_false h))
theorem z77 {α : Type} {b : Bool} {x y : Option α} {P : α → Prop} (hb : b = true) (h1 : wp x P) : wp (bif b then x else y) P := by rw [hb]; exact h1
theorem z7r {α : Type} {b : Bool} {x y : Option α} {P : α → Prop} (hb : b = false) (h1 : wp y P) : wp (bif b then x else y) P := by rw [hb]; exact h1
theorem z7s {α : Type} (b : Bool) (x y : α) : (bif b then some x else some y) = some (bif b then x else y) := by cases b <;> rfl
theorem z7t {α β : Type} (b : Bool) (x y : α × β) : (bif b then x else y).1 = bif b then x.1 else y.1 := by cases b <;> rfl
theorem z7u {α β : Type} (b : Bool) (x y : α × β) : (bif b then x else y).2 = bif b then x.2 else y.2 := by cases b <;> rfl
theorem zk {α : Type} {l : List α} {i : Nat} (h : i < l.length) : idx l (i : Int) = some l[i] := by
 unfold idx
 rw [if_pos (by omega), Int.toNat_natCast, List.getElem?_eq_getElem h]
theorem z7v {α : Type} (c : α) (l : List α) : idx (c :: l) 0 = some c := rfl
theorem z8h {α : Type} {l : List α} {i : Nat} {P : α → Prop} (h : i < l.length) (hp : P l[i]) : wp (idx l (i : Int)) P := ⟨_, zk h, hp⟩
theorem z2a {α : Type} {l : List α} {a b : Nat} (h : a ≤ b) (h2 : b ≤ l.length) : sl l (a : Int) (b : Int) = some ((l.take b).drop a) := by
 unfold sl
 rw [if_pos (by omega), Int.toNat_natCast, Int.toNat_natCast]
theorem z7h {α : Type} {l : List α} {a : Nat} (h : a ≤ l.length) : sl l (a : Int) (l.length : Int) = some (l.drop a) := by
 rw [z2a h (Nat.le_refl _), List.take_length]
theorem z78 {α : Type} {l : List α} {n : Int} (h0 : 0 ≤ n) (h : n ≤ l.length) : sl l n (l.length : Int) = some (l.drop n.toNat) := by
 obtain ⟨a, rfl⟩ := Int.eq_ofNat_of_zero_le h0
 exact z7h (by omega)
theorem z8i {α : Type} {l : List α} {a b : Int} (h0 : 0 ≤ a) (h : a ≤ b) (h2 : b ≤ l.length) : sl l a b = some ((l.take b.toNat).drop a.toNat) := by
 unfold sl
 rw [if_pos ⟨h0, h, h2⟩]
theorem z8j {α : Type} {l : List α} {i : Nat} (h : i < l.length) : sl l (i : Int) ((i : Int) + 1) = some [l[i]] := by
 unfold sl
 rw [if_pos (by omega)]
 congr 1
 have : ((i : Int) + 1).toNat = i + 1 := by omega
 rw [this, Int.toNat_natCast, List.take_succ_eq_append_getElem h, List.drop_append_of_le_length (by simp; omega)]
 simp
theorem z79 {α β : Type} (n : Nat) (f : α → Option (α ⊕ β)) (a : α) : (Ev.upto n).it f a = jd f n a := rfl
theorem nneg (n : Nat) : decide ((n : Int) < 0) = false := decide_eq_false (by omega)
theorem z8m {α β : Type} {f : α → Option (α ⊕ β)} {a0 : α} {n : Nat} {P : β → Prop} (I : α → Prop) (m : α → Nat) (h0 : I a0) (hm : m a0 < n)
  (hs : ∀ a, I a → wp (f a) (fun r => match r with | .inl a' => I a' ∧ m a' < m a | .inr b => P b)) : wp ((Ev.upto n).it f a0) P := by
 show wp (jd f n a0) P
 induction n generalizing a0 with
 | zero => exact absurd hm (Nat.not_lt_zero _)
 | succ n ih =>
  obtain ⟨r, e, h⟩ := hs a0 h0
  unfold jd
  rw [e]
  cases r with
  | inl a' => exact ih h.1 (by have := h.2; omega)
  | inr b => exact ⟨b, rfl, h⟩
theorem zab {α β σ : Type} {f : α → Option (α ⊕ β)} {a0 : α} {n : Nat} {P : β → Prop} (st : Nat → σ → α) (I : Nat → σ → Prop) (k : Nat) (s0 : σ) (h0 : a0 = st 0 s0) (hi : I 0 s0) (hn : k < n)
  (hs : ∀ i s, i ≤ k → I i s → wp (f (st i s)) (fun r => match r with | .inl a' => i < k ∧ ∃ s', a' = st (i + 1) s' ∧ I (i + 1) s' | .inr b => P b)) : wp ((Ev.upto n).it f a0) P := by
 subst h0
 show wp (jd f n (st 0 s0)) P
 have key : ∀ d n i s, i + d = k → d < n → I i s → wp (jd f n (st i s)) P := by
  intro d
  induction d with
  | zero =>
   intro n i s e hn hi
   obtain ⟨r, er, h⟩ := hs i s (by omega) hi
   cases n with
   | zero => omega
   | succ n =>
    unfold jd
    rw [er]
    cases r with
    | inl a' => exact absurd h.1 (by omega)
    | inr b => exact ⟨b, rfl, h⟩
  | succ d ih =>
   intro n i s e hn hi
   obtain ⟨r, er, h⟩ := hs i s (by omega) hi
   cases n with
   | zero => omega
   | succ n =>
    unfold jd
    rw [er]
    cases r with
    | inl a' =>
     obtain ⟨_, s', rfl, hi'⟩ := h
     exact ih n (i + 1) s' (by omega) (by omega) hi'
    | inr b => exact ⟨b, rfl, h⟩
 exact key k n 0 s0 (by omega) hn hi
theorem z0n {α β : Type} {f : α → Option (α ⊕ β)} (step : Nat → α) : ∀ (k : Nat) (b : β), (∀ i, i < k → f (step i) = some (.inl (step (i + 1)))) → f (step k) = some (.inr b) → ∀ n, k < n → jd f n (step 0) = some b
 | 0, b, _, he, n + 1, _ => by simp [jd, he]
 | k + 1, b, h, he, n + 1, hn => by
  have h0 := h 0 (Nat.succ_pos k)
  simp only [jd, h0, Option.bind_some]
  exact z0n (fun i => step (i + 1)) k b (fun i hi => h (i + 1) (by omega)) he n (by omega)
theorem z7i {α β γ : Type} {f : α → Option (α ⊕ β)} {g : β → Option γ} {a0 : α} {c : γ} {n : Nat} (step : Nat → α) (k : Nat) (b : β) (h0 : a0 = step 0) (h : ∀ i, i < k → f (step i) = some (.inl (step (i + 1)))) (he : f (step k) = some (.inr b)) (hn : k < n) (hb : g b = some c) :
  ((Ev.upto n).it f a0).bind g = some c := by
 have := z0n step k b h he n hn
 rw [h0]
 show (jd f n (step 0)).bind g = some c
 rw [this]
 exact hb
theorem wj {n : Int} (h0 : -9223372036854775808 ≤ n) (h1 : n ≤ 9223372036854775807) : IntKind.wrap .i64 n = n := by rw [IntKind.wrap_i64]; omega
theorem z8k {n : Int} (h0 : -2147483648 ≤ n) (h1 : n ≤ 2147483647) : IntKind.wrap .i32 n = n := by rw [IntKind.wrap_i32]; omega
theorem zlf {n : Int} (h0 : 0 ≤ n) (h1 : n ≤ 255) : IntKind.wrap .u8 n = n := by rw [IntKind.wrap_u8]; omega
theorem z8a {n : Int} (h0 : 0 ≤ n) (h1 : n ≤ 4294967295) : IntKind.wrap .u32 n = n := by rw [IntKind.wrap_u32]; omega
theorem z8b {n : Int} (h0 : 0 ≤ n) (h1 : n ≤ 18446744073709551615) : IntKind.wrap .u64 n = n := by simp only [IntKind.wrap, IntKind.signed, IntKind.bits]; simp; omega
theorem z7j (s : Bs) : toBs (ofBs s) = s := by
 simp [toBs, ofBs, Function.comp_def]
theorem z1f (a b : Bs) : ofBs a ++ ofBs b = ofBs (a ++ b) := by simp [ofBs]
theorem jc (a : Bs) : (ofBs a).length = a.length := by simp [ofBs]
theorem z6y {n : Nat} (h : n ≤ 100000000) : zg5 n = true := decide_eq_true (Nat.le_trans h (by decide))
theorem zfj {n k : Nat} (h : n * k ≤ 100000000) : fits n k = true := decide_eq_true (Nat.le_trans h (by decide))
theorem z8c (c : UInt8) (k : Nat) (hk : k < 256) : ([c] == [UInt8.ofNat k]) = (((c.toNat : Nat) : Int) == (k : Int)) := by
 rw [Bool.eq_iff_iff]
 simp only [beq_iff_eq, List.cons.injEq, and_true]
 constructor
 ·rintro rfl
  rw [UInt8.toNat_ofNat']
  omega
 ·intro h
  apply UInt8.toNat_inj.1
  rw [UInt8.toNat_ofNat']
  omega
theorem z4n (c : UInt8) : c.toNat < 256 := c.toNat_lt
theorem z5j (l : Bs) (c : UInt8) : Lib.indexByte l c < 0 ↔ c ∉ l := by
 induction l with
 | nil => simp [Lib.indexByte]
 | cons b l ih =>
  have hg := Lib.indexByte_ge l c
  unfold Lib.indexByte
  by_cases hb : b == c
  ·rw [if_pos hb]
   simp only [beq_iff_eq] at hb
   simp [hb]
  ·rw [if_neg hb]
   simp only [beq_iff_eq] at hb
   have hb' : ¬ c = b := fun h => hb h.symm
   by_cases h : Lib.indexByte l c == -1
   ·rw [if_pos h]
    simp only [beq_iff_eq] at h
    have := ih.1 (by omega)
    simp [hb', this]
   ·rw [if_neg h]
    simp only [beq_iff_eq] at h
    have h2 : ¬ Lib.indexByte l c < 0 := by omega
    rw [ih] at h2
    simp only [List.mem_cons, hb', false_or]
    constructor
    ·intro h3; omega
    ·intro h3; exact absurd h3 h2
theorem z4o (l : Bs) (c : UInt8) (h : c ∈ l) : ∃ x r, l = x ++ c :: r ∧ c ∉ x ∧ Lib.indexByte l c = (x.length : Int) := by
 induction l with
 | nil => simp at h
 | cons b l ih =>
  unfold Lib.indexByte
  by_cases hb : b == c
  ·rw [if_pos hb]
   simp only [beq_iff_eq] at hb
   subst hb
   exact ⟨[], l, rfl, by simp, rfl⟩
  ·rw [if_neg hb]
   simp only [beq_iff_eq] at hb
   have hb' : ¬ c = b := fun h => hb h.symm
   have hm : c ∈ l := by simpa [hb'] using h
   obtain ⟨x, r, e, hx, hi⟩ := ih hm
   rw [hi]
   rw [if_neg (by simp only [beq_iff_eq]; omega)]
   exact ⟨b :: x, r, by rw [e]; rfl, by simp [hb', hx], by simp⟩
end Go.En
