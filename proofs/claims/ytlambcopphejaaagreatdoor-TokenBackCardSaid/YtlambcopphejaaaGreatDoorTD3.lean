/- Text TD3 of this seat: written by a program of ours, or by hand; checked by Lean. -/
import Derived.Test.YtlambcopphejaaaGreatDoorTD2
set_option linter.unusedSimpArgs false
set_option linter.unusedVariables false
namespace Go.En.Pl
def okOf (o : Option Nat) (x : Int) (b : Bool) : Prop := match o with | some n => x = n ∧ b = false | none => b = true
theorem istrconv_ParseInt_wp (N : Nat) (hN : 8 < N) (base : Nat) (hb : base = 10 ∨ base = 16) (c : UInt8) (r : Bs) (h7 : (c :: r).length ≤ 7) (hp : (((c.toNat : Nat) : Int) == 43) = false) (hm : (((c.toNat : Nat) : Int) == 45) = false) :
    wp (istrconv_ParseInt_ (Ev.upto N) ((c :: r, ((base : Int), ((64 : Int), ()))), ())) (fun x => match nums base (c :: r) 0 with | some n => x = (((n : Int), (none, ())), ()) | none => ∃ y, x = ((y, (some (2 : Int), ())), ())) := by
  unfold istrconv_ParseInt_
  have e0 : ((c :: r) == ([] : Bs)) = false := rfl
  simp -implicitDefEqProofs only [e0, cond_false, idx_zero, Option.bind_some, hp, hm]
  refine wp_seq _ (istrconv_ParseUint_wp N hN base hb (c :: r) (by simp) h7) ?_
  intro x hx
  cases hn : nums base (c :: r) 0 with
  | none =>
    rw [hn] at hx
    obtain ⟨y, rfl⟩ := hx
    have k : ((some (2 : Int)) == (some (1 : Int))) = false := rfl
    simp -implicitDefEqProofs only [Option.isSome_some, beq_self_eq_true, cond_true, k, Bool.not_false, Option.bind_some]
    exact ⟨_, rfl, _, rfl⟩
  | some n =>
    rw [hn] at hx
    subst hx
    have hlt : n < 16 ^ 7 := by
      have key : ∀ (s : Bs) (m k : Nat), m < 16 ^ k → nums base s m = some n → n < 16 ^ (k + s.length) := by
        intro s
        induction s with
        | nil => intro m k hm h; simp only [nums, Option.some.injEq] at h; subst h; simpa using hm
        | cons a t ih =>
          intro m k hm h
          rw [nums] at h
          split at h
          · have := ih (m * base + dv a.toNat) (k + 1) (by
              have : (m + 1) * base ≤ 16 ^ k * 16 := Nat.mul_le_mul (by omega) (by omega)
              rw [Nat.succ_mul] at this
              rw [Nat.pow_succ]; omega) h
            rw [List.length_cons]; rw [show k + (t.length + 1) = k + 1 + t.length by omega]; exact this
          · cases h
      have := key (c :: r) 0 0 (by decide) hn
      have h2 : 16 ^ (0 + (c :: r).length) ≤ 16 ^ 7 := Nat.pow_le_pow_right (by decide) (by omega)
      omega
    have w63 : IntKind.wrap .u64 (IntKind.wrap .i64 ((64 : Int) - 1)) = 63 := by decide +kernel
    have w2 : IntKind.wrap .u64 ((1 : Int) * 2 ^ (min (Int.toNat (63 : Int)) 64)) = 9223372036854775808 := by decide +kernel
    have c1 : decide ((n : Int) ≥ 9223372036854775808) = false := decide_eq_false (by omega)
    have c3 : IntKind.wrap .i64 (n : Int) = (n : Int) := wrap64 (by omega) (by omega)
    simp -implicitDefEqProofs only [Option.isSome_none, show (false == true) = false from rfl, cond_false, cond_true, Option.bind_some, show ((64 : Int) == 0) = false from rfl, w63, w2, c1, c3, Bool.not_false, beq_self_eq_true, show decide ((0 : Int) ≤ 63) = true from rfl]
    exact ⟨_, rfl, rfl⟩
theorem istringslite_Clone_wp (V : Ev) (s : Bs) (h : s.length ≤ 100) : wp (istringslite_Clone_ V ((s, ()), ())) (fun _ => True) := by
  unfold istringslite_Clone_
  by_cases h0 : s.length = 0
  · rw [show (((s.length : Nat) : Int) == 0) = true from by rw [h0]; rfl, cond_true]
    exact ⟨_, rfl, trivial⟩
  · rw [show (((s.length : Nat) : Int) == 0) = false from by rw [beq_eq_false_iff_ne]; omega, cond_false]
    have a1 : decide ((0 : Int) ≤ ((s.length : Nat) : Int)) = true := decide_eq_true (by omega)
    have a2 : fits s.length 1 = true := fits_of (by omega)
    have a3 : decide (s.length ≤ (List.replicate s.length (0 : Int)).length) = true := by simp
    have a4 : (ofBs s ++ List.drop s.length (List.replicate s.length (0 : Int))).length = s.length := by simp [ofBs]
    have a5 : decide ((0 : Int) < ((s.length : Nat) : Int)) = true := decide_eq_true (by omega)
    have a6 : decide ((0 : Int) ≤ (0 : Int)) = true := rfl
    simp -implicitDefEqProofs only [Int.toNat_natCast]
    rw [a1, a2, a3, a4, a5, a6]
    simp -implicitDefEqProofs only [beq_self_eq_true, Bool.and_self, Bool.and_true, cond_true]
    exact ⟨_, rfl, trivial⟩
theorem strconv_ParseInt_wp (N : Nat) (hN : 8 < N) (base : Nat) (hb : base = 10 ∨ base = 16) (c : UInt8) (r : Bs) (h7 : (c :: r).length ≤ 7) (hp : (((c.toNat : Nat) : Int) == 43) = false) (hm : (((c.toNat : Nat) : Int) == 45) = false) :
    wp (strconv_ParseInt_ (Ev.upto N) ((c :: r, ((base : Int), ((64 : Int), ()))), ())) (fun x => match nums base (c :: r) 0 with | some n => x = (((n : Int), (false, ())), ()) | none => ∃ y, x = ((y, (true, ())), ())) := by
  unfold strconv_ParseInt_
  refine wp_seq _ (istrconv_ParseInt_wp N hN base hb c r h7 hp hm) ?_
  intro x hx
  cases hn : nums base (c :: r) 0 with
  | none =>
    rw [hn] at hx
    obtain ⟨y, rfl⟩ := hx
    simp -implicitDefEqProofs only [Option.isSome_some, cond_true]
    refine wp_seq (fun r => r = ((true, ()), ())) ?_ ?_
    · unfold strconv_toError_666 strconv_syntaxError_d9f
      simp -implicitDefEqProofs only [beq_self_eq_true, cond_true]
      refine wp_seq (fun _ => True) ?_ (fun _ _ => ⟨_, rfl, rfl⟩)
      exact wp_seq (fun _ => True) (istringslite_Clone_wp _ _ (by omega)) (fun _ _ => ⟨_, rfl, trivial⟩)
    · rintro _ rfl
      exact ⟨_, rfl, _, rfl⟩
  | some n =>
    rw [hn] at hx
    subst hx
    simp -implicitDefEqProofs only [Option.isSome_none, cond_false]
    exact ⟨_, rfl, rfl⟩
theorem istringslite_IndexByte_eq (V : Ev) (s : Bs) (c : Int) : istringslite_IndexByte_ V ((s, (c, ())), ()) = some ((Lib.indexByte s (Nat.toUInt8 (Int.toNat c)), ()), ()) := rfl
theorem index_one : ∀ (s : Bs) (c : UInt8), Lib.index s [c] = Lib.indexByte s c
  | [], c => rfl
  | b :: s, c => by
    have h : ([c] : Bs).isPrefixOf (b :: s) = (b == c) := by
      show (c == b && List.isPrefixOf [] s) = (b == c)
      rw [show List.isPrefixOf ([] : Bs) s = true from by cases s <;> rfl, Bool.and_true]
      exact Bool.beq_comm
    rw [Lib.index, Lib.indexByte, h, index_one s c]
theorem istringslite_Index_one (V : Ev) (s : Bs) (c : UInt8) (h : s.length ≤ 1000000) : istringslite_Index_ V ((s, ([c], ())), ()) = some ((Lib.indexByte s c, ()), ()) := by
  unfold istringslite_Index_ gIndex
  simp -implicitDefEqProofs only [show decide (s.length < 4294967281) = true from decide_eq_true (by omega), cond_true, index_one]
theorem strings_Contains_eq (V : Ev) (s : Bs) (c : UInt8) (h : s.length ≤ 1000000) : strings_Contains_ V ((s, ([c], ())), ()) = some ((decide (Lib.indexByte s c ≥ 0), ()), ()) := by
  unfold strings_Contains_ strings_Index_ istringslite_Index_ gIndex
  simp -implicitDefEqProofs only [show decide (s.length < 4294967281) = true from decide_eq_true (by omega), cond_true, Option.bind_some, index_one]
theorem nums_95 (base : Nat) (hb : base ≤ 16) : ∀ (s : Bs) (n : Nat), (95 : UInt8) ∈ s → nums base s n = none
  | c :: r, n, h => by
    rw [nums]
    split
    · rename_i hd
      rcases List.mem_cons.1 h with rfl | h
      · have : dv (95 : UInt8).toNat = 99 := by decide
        omega
      · exact nums_95 base hb r _ h
    · rfl
theorem entity_number_wp (N : Nat) (hN : 8 < N) (base most : Nat) (hb : base = 10 ∨ base = 16) (hm : most ≤ 7) (s : Bs) :
    wp (entity_number_ (Ev.upto N) ((s, ((base : Int), ((most : Int), ()))), ())) (fun x => match numOk base most s with | some n => x = (((n : Int), (true, ())), ()) | none => ∃ y, x = ((y, (false, ())), ())) := by
  unfold entity_number_
  by_cases hs : s.length < 1 ∨ most < s.length
  · have e : numOk base most s = none := by unfold numOk; rw [if_pos hs]
    rw [e]
    refine wp_seq (fun o => o = ((s, ((base : Int), (true, ()))), ())) ?_ ?_
    · cases s with
      | nil => exact ⟨_, rfl, rfl⟩
      | cons c r =>
        have e0 : ((c :: r) == ([] : Bs)) = false := rfl
        have : decide ((((c :: r).length : Nat) : Int) > (most : Int)) = true := decide_eq_true (by
          rcases hs with hs | hs
          · simp at hs
          · omega)
        simp -implicitDefEqProofs only [e0, this, beq_self_eq_true, cond_true, show (true == false) = false from rfl, cond_false]
        exact ⟨_, rfl, rfl⟩
    · rintro _ rfl
      exact ⟨_, rfl, _, rfl⟩
  · have e : numOk base most s = nums base s 0 := by unfold numOk; rw [if_neg hs]
    rw [e]
    cases s with
    | nil => simp at hs
    | cons c r =>
      have e0 : ((c :: r) == ([] : Bs)) = false := rfl
      have e1 : decide ((((c :: r).length : Nat) : Int) > (most : Int)) = false := decide_eq_false (by omega)
      have h7 : (c :: r).length ≤ 7 := by omega
      have q38 := strings_Contains_eq (Ev.upto N) (c :: r) 95 (by omega)
      simp -implicitDefEqProofs only [e0, e1, beq_self_eq_true, cond_true, idx_zero, Option.bind_some]
      have bad : ∀ k : Nat, c.toNat = k → (k = 43 ∨ k = 45) → nums base (c :: r) 0 = none := fun k hk h => by
        rw [nums, if_neg]
        rw [hk]
        rcases h with rfl | rfl
        · have : dv 43 = 99 := by decide
          omega
        · have : dv 45 = 99 := by decide
          omega
      cases hp : (((c.toNat : Nat) : Int) == 43) with
      | true =>
        have hc : c.toNat = 43 := by have := hp; simp only [beq_iff_eq] at this; omega
        rw [bad 43 hc (.inl rfl)]
        exact ⟨_, rfl, _, rfl⟩
      | false =>
        cases hm' : (((c.toNat : Nat) : Int) == 45) with
        | true =>
          have hc : c.toNat = 45 := by have := hm'; simp only [beq_iff_eq] at this; omega
          rw [bad 45 hc (.inr rfl)]
          exact ⟨_, rfl, _, rfl⟩
        | false =>
          simp -implicitDefEqProofs only [beq_self_eq_true, cond_true]
          rw [q38]
          simp -implicitDefEqProofs only [Option.bind_some]
          by_cases h95 : (95 : UInt8) ∈ c :: r
          · have : decide (Lib.indexByte (c :: r) 95 ≥ 0) = true := by
              have := (not_congr (indexByte_neg (c :: r) 95)).2 (fun h => h h95)
              exact decide_eq_true (by omega)
            rw [this, nums_95 base (by omega) _ _ h95]
            exact ⟨_, rfl, _, rfl⟩
          · have : decide (Lib.indexByte (c :: r) 95 ≥ 0) = false := by
              have := (indexByte_neg (c :: r) 95).2 h95
              exact decide_eq_false (by omega)
            rw [this]
            simp -implicitDefEqProofs only [cond_false]
            refine wp_seq _ (strconv_ParseInt_wp N hN base hb c r h7 hp hm') ?_
            intro x hx
            cases hn : nums base (c :: r) 0 with
            | none =>
              rw [hn] at hx
              obtain ⟨y, rfl⟩ := hx
              exact ⟨_, rfl, _, rfl⟩
            | some n =>
              rw [hn] at hx
              subst hx
              exact ⟨_, rfl, rfl⟩
/-! ### Signs -/
def sgNum : Bs → Option Nat
  | [] => none
  | c :: r => if c.toNat = 120 ∨ c.toNat = 88 then numOk 16 6 r else numOk 10 7 (c :: r)
def sgOf : Option Nat → Bs × Bool × Bool
  | none => ([], false, true)
  | some n => if n = 0 ∨ pt n = false then (utf 65533, true, false) else (utf n, true, true)
def sgT : Bs → Bs × Bool × Bool
  | [] => ([], false, true)
  | c :: d => if c = 35 then sgOf (sgNum d) else ([], false, true)
def sg (s : Bs) : Bs × Bool × Bool := if (nm s).2 = true then ((nm s).1, true, true) else sgT s
theorem numOk_lt {base most : Nat} (hb : base ≤ 16) (hm : most ≤ 7) {s : Bs} {n : Nat} (h : numOk base most s = some n) : n < 268435456 ∧ s.length ≤ most := by
  unfold numOk at h
  split at h
  · cases h
  · rename_i hs
    have key : ∀ (s : Bs) (m k : Nat), m < 16 ^ k → nums base s m = some n → n < 16 ^ (k + s.length) := by
      intro s
      induction s with
      | nil => intro m k hm h; simp only [nums, Option.some.injEq] at h; subst h; simpa using hm
      | cons a t ih =>
        intro m k hm h
        rw [nums] at h
        split at h
        · have := ih (m * base + dv a.toNat) (k + 1) (by
            have : (m + 1) * base ≤ 16 ^ k * 16 := Nat.mul_le_mul (by omega) (by omega)
            rw [Nat.succ_mul] at this
            rw [Nat.pow_succ]; omega) h
          rw [List.length_cons]; rw [show k + (t.length + 1) = k + 1 + t.length by omega]; exact this
        · cases h
    have := key s 0 0 (by decide) h
    have h2 : 16 ^ (0 + s.length) ≤ 16 ^ 7 := Nat.pow_le_pow_right (by decide) (by omega)
    omega
theorem sgNum_lt {d : Bs} {n : Nat} (h : sgNum d = some n) : n < 268435456 ∧ d.length ≤ 7 := by
  cases d with
  | nil => cases h
  | cons c r =>
    simp only [sgNum] at h
    split at h
    · have := numOk_lt (base := 16) (most := 6) (by decide) (by decide) h
      simp only [List.length_cons]; omega
    · exact numOk_lt (base := 10) (most := 7) (by decide) (by decide) h
theorem sgOf_len (o : Option Nat) : (sgOf o).1.length ≤ 4 := by
  cases o with
  | none => simp [sgOf]
  | some n => simp only [sgOf]; split <;> exact utf_len _
theorem sg_len (s : Bs) : (sg s).1.length ≤ 4 := by
  unfold sg
  split
  · exact Nat.le_trans (nm_len s) (by decide)
  · cases s with
    | nil => simp [sgT]
    | cons c d => 
      simp only [sgT]
      split
      · exact sgOf_len _
      · simp
theorem sg_short (s : Bs) (h : (sg s).2.1 = true) : s.length ≤ 8 := by
  unfold sg at h
  split at h
  · rename_i h1
    have := (nm_ok s h1).1
    omega
  · cases s with
    | nil => simp
    | cons c d =>
      simp only [sgT] at h
      split at h
      · cases hn : sgNum d with
        | none => rw [hn] at h; cases h
        | some n =>
          have := (sgNum_lt hn).2
          simp only [List.length_cons]; omega
      · cases h
theorem sg_right (s : Bs) (h : (sg s).2.1 = false) : (sg s).2.2 = true := by
  unfold sg at h ⊢
  split at h
  · cases h
  · rename_i h1
    rw [if_neg h1]
    cases s with
    | nil => rfl
    | cons c d =>
      simp only [sgT] at h ⊢
      split at h
      · rename_i h2
        rw [if_pos h2]
        cases hn : sgNum d with
        | none => rfl
        | some n =>
          rw [hn] at h
          simp only [sgOf] at h
          split at h <;> cases h
      · rename_i h2
        rw [if_neg h2]
theorem strings_CutPrefix_eq (V : Ev) (s : Bs) : strings_CutPrefix_ V ((s, (([35] : Bs), ())), ()) = some ((match s with | [] => ((s, (false, ())) : Bs × Bool × Unit) | c :: d => if c = 35 then (d, (true, ())) else (s, (false, ()))), ()) := by
  unfold strings_CutPrefix_ istringslite_CutPrefix_ istringslite_HasPrefix_
  cases s with
  | nil => rfl
  | cons c d =>
    have l : decide ((((c :: d).length : Nat) : Int) ≥ ((([35] : Bs).length : Nat) : Int)) = true := decide_eq_true (by simp only [List.length_cons, List.length_nil]; omega)
    have s1 : sl (c :: d) 0 ((([35] : Bs).length : Nat) : Int) = some [c] := by
      have := sl_nat (l := c :: d) (a := 0) (b := 1) (by decide) (by simp)
      simpa using this
    have s2 : sl (c :: d) ((([35] : Bs).length : Nat) : Int) (((c :: d).length : Nat) : Int) = some d := by
      have := sl_end (l := c :: d) (a := 1) (by simp)
      simpa using this
    simp -implicitDefEqProofs only [l, s1, s2, beq_self_eq_true, cond_true, Option.bind_some]
    by_cases h : c = 35
    · subst h
      simp -implicitDefEqProofs only [beq_self_eq_true, Bool.not_true, cond_false, if_true, Option.bind_some]
    · have : (([c] : Bs) == [35]) = false := by rw [beq_eq_false_iff_ne]; intro h2; exact h (by simpa using h2)
      simp -implicitDefEqProofs only [this, Bool.not_false, cond_true, if_neg h, Option.bind_some, Bool.not_true]
theorem sl_tail {α : Type} (c : α) (r : List α) : sl (c :: r) 1 (((c :: r).length : Nat) : Int) = some r := by
  have := sl_end (l := c :: r) (a := 1) (by simp)
  simpa using this
theorem entity_sign_eq (N : Nat) (hN : 8 < N) (s : Bs) : entity_sign_ (Ev.upto N) ((s, ()), ()) = some (((sg s).1, ((sg s).2.1, ((sg s).2.2, ()))), ()) := by
  apply wp_eq
  unfold entity_sign_
  have q11 := entity_Name_eq (Ev.upto N) s
  have q29 := strings_CutPrefix_eq (Ev.upto N) s
  rw [q11]
  simp -implicitDefEqProofs only [Option.bind_some]
  unfold sg
  by_cases h1 : (nm s).2 = true
  · rw [h1, if_pos rfl]
    exact ⟨_, rfl, rfl⟩
  have h1' : (nm s).2 = false := by simpa using h1
  rw [h1', if_neg (by decide), cond_false, q29]
  cases s with
  | nil => exact ⟨_, rfl, rfl⟩
  | cons c d =>
    by_cases hc : c = 35
    · simp -implicitDefEqProofs only [sgT, if_pos hc, Option.bind_some, Bool.not_true, cond_false]
      refine wp_seq _ (entity_number_wp N hN 10 7 (.inl rfl) (by decide) d) ?_
      intro x hx
      have tail : ∀ (o : Option Nat) (b : Int) (ok : Bool), (match o with | some n => b = (n : Int) ∧ ok = true | none => ok = false) → (∀ n, o = some n → n < 268435456) →
          wp ((bif (!ok) then (some ((([] : Bs), (false, (true, ()))), ())) else ((utf_Text_ (Ev.upto N) ((([b] : List Int), ()), ())).bind fun v10 => ((bif ((b == (0 : Int)) == false) then (some ((v10.1.1, ((v10.1.2.1 != (0 : Int)), ())), ())) else (some ((v10.1.1, (true, ())), ()))).bind fun o11 => (bif o11.1.2.1 then ((utf_Text_ (Ev.upto N) ((([(65533 : Int)] : List Int), ()), ())).bind fun v12 => (some ((v12.1.1, (true, (false, ()))), ()))) else (some ((o11.1.1, (true, (true, ()))), ()))))))) (fun x => x = (((sgOf o).1, ((sgOf o).2.1, ((sgOf o).2.2, ()))), ())) := by
        intro o b ok h hlt
        cases o with
        | none =>
          simp only at h
          subst h
          exact ⟨_, rfl, rfl⟩
        | some n =>
          obtain ⟨rfl, rfl⟩ := h
          have q31 := utf_Text_eq N (by omega) n (by have := hlt n rfl; omega)
          have q31o := utf_Text_eq N (by omega) 65533 (by decide)
          rw [Bool.not_true, cond_false, q31]
          have hpo : pt 65533 = true := by decide
          have q31o' : utf_Text_ (Ev.upto N) ((([(65533 : Int)] : List Int), ()), ()) = some ((utf 65533, ((0 : Int), ())), ()) := by
            have := q31o
            rw [hpo] at this
            exact this
          simp only [sgOf]
          by_cases hz : n = 0
          · subst hz
            rw [if_pos (.inl rfl)]
            have hp0 : pt 0 = true := by decide
            rw [hp0]
            simp -implicitDefEqProofs only [cond_true, Option.bind_some, show ((((0 : Nat) : Int) == 0) == false) = false from rfl, cond_false, q31o']
            exact ⟨_, rfl, rfl⟩
          · have hz' : (((n : Nat) : Int) == 0) = false := by rw [beq_eq_false_iff_ne]; omega
            cases hp : pt n with
            | true =>
              rw [if_neg (by simp [hz])]
              simp -implicitDefEqProofs only [cond_true, cond_false, Option.bind_some, hz', beq_self_eq_true, show ((0 : Int) != 0) = false from rfl]
              exact ⟨_, rfl, rfl⟩
            | false =>
              rw [if_pos (.inr rfl)]
              simp -implicitDefEqProofs only [cond_true, cond_false, Option.bind_some, hz', beq_self_eq_true, show ((1 : Int) != 0) = true from rfl, q31o']
              exact ⟨_, rfl, rfl⟩
      cases d with
      | nil =>
        have e : numOk 10 7 [] = none := rfl
        rw [e] at hx
        obtain ⟨y, rfl⟩ := hx
        exact ⟨_, rfl, rfl⟩
      | cons c' r =>
        have e0 : ((c' :: r) == ([] : Bs)) = false := rfl
        simp -implicitDefEqProofs only [e0, Bool.not_false, beq_self_eq_true, cond_true, idx_zero, Option.bind_some]
        by_cases hx1 : c'.toNat = 120 ∨ c'.toNat = 88
        · have hcond : ∀ A B C : Option ((Bs × Bool × Int × Bool × Unit) × Unit), True := fun _ _ _ => trivial
          have e16 : sgNum (c' :: r) = numOk 16 6 r := by simp only [sgNum, if_pos hx1]
          rw [e16]
          refine wp_seq (fun o => ∃ u v, o = ((c' :: r, (u, (v, (true, ())))), ())) ?_ ?_
          · rcases hx1 with hx1 | hx1
            · rw [hx1]; exact ⟨_, rfl, _, _, rfl⟩
            · rw [hx1]; exact ⟨_, rfl, _, _, rfl⟩
          · rintro _ ⟨u, v, rfl⟩
            simp -implicitDefEqProofs only [cond_true, sl_tail, Option.bind_some]
            refine wp_bind ?_
            refine wp_seq _ (entity_number_wp N hN 16 6 (.inr rfl) (by decide) r) ?_
            intro x hx
            cases hn : numOk 16 6 r with
            | none =>
              rw [hn] at hx
              obtain ⟨y, rfl⟩ := hx
              exact ⟨_, rfl, tail none y false rfl (fun _ h => by cases h)⟩
            | some n =>
              rw [hn] at hx
              subst hx
              exact ⟨_, rfl, tail (some n) n true ⟨rfl, rfl⟩ (fun m h => by cases h; exact (numOk_lt (by decide) (by decide) hn).1)⟩
        · have e10 : sgNum (c' :: r) = numOk 10 7 (c' :: r) := by simp only [sgNum, if_neg hx1]
          have n1 : (((c'.toNat : Nat) : Int) == 120) = false := by rw [beq_eq_false_iff_ne]; omega
          have n2 : (((c'.toNat : Nat) : Int) == 88) = false := by rw [beq_eq_false_iff_ne]; omega
          rw [e10]
          simp -implicitDefEqProofs only [n1, n2, beq_self_eq_true, cond_true, cond_false, Option.bind_some]
          cases hn : numOk 10 7 (c' :: r) with
          | none =>
            rw [hn] at hx
            obtain ⟨y, rfl⟩ := hx
            exact tail none y false rfl (fun _ h => by cases h)
          | some n =>
            rw [hn] at hx
            subst hx
            exact tail (some n) n true ⟨rfl, rfl⟩ (fun m h => by cases h; exact (numOk_lt (by decide) (by decide) hn).1)
    · simp -implicitDefEqProofs only [sgT, if_neg hc, Option.bind_some, Bool.not_false, cond_true]
      exact ⟨_, rfl, rfl⟩
end Go.En.Pl
