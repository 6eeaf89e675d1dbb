/- Text TD1 of this seat: written by a program of ours, or by hand; checked by Lean. -/
import Derived.Test.YtlambcopphejaaaGreatDoorW
import Derived.Test.YtlambcopphejaaaGreatDoorG
set_option linter.unusedSimpArgs false
set_option linter.unusedVariables false
namespace Go.En.Pl
def names : List (Bs × Bs) := [([97, 109, 112], [38]), ([108, 116], [60]), ([103, 116], [62]), ([113, 117, 111, 116], [34]), ([97, 112, 111, 115], [39]), ([110, 98, 115, 112], [194, 160]), ([99, 111, 108, 111, 110], [58]), ([108, 112, 97, 114], [40]), ([114, 112, 97, 114], [41]), ([116, 97, 98], [9])]
def nm (s : Bs) : Bs × Bool := match names.find? (fun p => p.1 == s) with
  | some p => (p.2, true)
  | none => ([], false)
theorem nm_ok (s : Bs) (h : (nm s).2 = true) : s.length ≤ 5 ∧ (59 : UInt8) ∉ s := by
  unfold nm at h
  cases hf : names.find? (fun p => p.1 == s) with
  | none => rw [hf] at h; cases h
  | some p =>
    have hm := List.mem_of_find?_eq_some hf
    have hp := List.find?_some hf
    simp only [beq_iff_eq] at hp
    have key : ∀ p ∈ names, p.1.length ≤ 5 ∧ (59 : UInt8) ∉ p.1 := by decide
    rw [← hp]
    exact key p hm
theorem nm_len (s : Bs) : (nm s).1.length ≤ 2 := by
  unfold nm
  cases hf : names.find? (fun p => p.1 == s) with
  | none => simp
  | some p =>
    have hm := List.mem_of_find?_eq_some hf
    have key : ∀ p ∈ names, p.2.length ≤ 2 := by decide
    exact key p hm
theorem nm_no (s : Bs) (h : (nm s).2 = false) : (nm s).1 = [] := by
  unfold nm at h ⊢
  cases hf : names.find? (fun p => p.1 == s) with
  | none => rfl
  | some p => rw [hf] at h; cases h
theorem entity_Name_eq (V : Ev) (s : Bs) : entity_Name_ V ((s, ()), ()) = some (((nm s).1, ((nm s).2, ())), ()) := by
  unfold entity_Name_ nm
  simp only [names, List.find?_cons, List.find?_nil]
  cases (([97, 109, 112] : Bs) == s) <;> try rfl
  cases (([108, 116] : Bs) == s) <;> try rfl
  cases (([103, 116] : Bs) == s) <;> try rfl
  cases (([113, 117, 111, 116] : Bs) == s) <;> try rfl
  cases (([97, 112, 111, 115] : Bs) == s) <;> try rfl
  cases (([110, 98, 115, 112] : Bs) == s) <;> try rfl
  cases (([99, 111, 108, 111, 110] : Bs) == s) <;> try rfl
  cases (([108, 112, 97, 114] : Bs) == s) <;> try rfl
  cases (([114, 112, 97, 114] : Bs) == s) <;> try rfl
  cases (([116, 97, 98] : Bs) == s) <;> rfl
theorem beqc (a b : Bs) : (a == b) = (b == a) := by
  rw [Bool.eq_iff_iff]; simp only [beq_iff_eq]; exact ⟨Eq.symm, Eq.symm⟩
/-! ### Runes -/
def pt (n : Nat) : Bool := decide (n ≤ 1114111) && !(decide (55296 ≤ n) && decide (n ≤ 57343))
def utfI (n : Nat) : List Int := if n ≤ 127 then [(n : Int)] else if n ≤ 2047 then [((192 + n / 64 : Nat) : Int), ((128 + n % 64 : Nat) : Int)]
  else if n ≤ 65535 then [((224 + n / 4096 : Nat) : Int), ((128 + n / 64 % 64 : Nat) : Int), ((128 + n % 64 : Nat) : Int)]
  else [((240 + n / 262144 : Nat) : Int), ((128 + n / 4096 % 64 : Nat) : Int), ((128 + n / 64 % 64 : Nat) : Int), ((128 + n % 64 : Nat) : Int)]
def utf (n : Nat) : Bs := toBs (utfI n)
theorem utfI_len (n : Nat) : (utfI n).length ≤ 4 := by
  unfold utfI
  split
  · simp
  · split
    · simp
    · split <;> simp
theorem utf_len (n : Nat) : (utf n).length ≤ 4 := by
  unfold utf toBs; rw [List.length_map]; exact utfI_len n
theorem tdivn (n k : Nat) : Int.tdiv (n : Int) (k : Int) = ((n / k : Nat) : Int) := rfl
theorem tmodn (n k : Nat) : Int.tmod (n : Int) (k : Int) = ((n % k : Nat) : Int) := rfl
theorem rgm (k : Nat) : rngB .i64 ((k % 64 : Nat) : Int) = true := by
  have : k % 64 < 64 := Nat.mod_lt _ (by decide)
  simp [rngB, IntKind.min, IntKind.max, IntKind.signed, IntKind.bits]; omega
theorem pounceref01_Bytes_eq (V : Ev) (n : Nat) (h : n ≤ 1114111) : pounceref01_Bytes_ V (((n : Int), ()), ()) = some ((utf n, ()), ()) := by
  unfold pounceref01_Bytes_ utf utfI
  have e64 : Int.tdiv (n : Int) 64 = ((n / 64 : Nat) : Int) := tdivn n 64
  have e4096 : Int.tdiv (n : Int) 4096 = ((n / 4096 : Nat) : Int) := tdivn n 4096
  have e18 : Int.tdiv (n : Int) 262144 = ((n / 262144 : Nat) : Int) := tdivn n 262144
  have m64 : Int.tmod (n : Int) 64 = ((n % 64 : Nat) : Int) := tmodn n 64
  have r1 : Int.tmod ((n / 64 : Nat) : Int) 64 = ((n / 64 % 64 : Nat) : Int) := tmodn (n / 64) 64
  have r2 : Int.tmod ((n / 4096 : Nat) : Int) 64 = ((n / 4096 % 64 : Nat) : Int) := tmodn (n / 4096) 64
  have w64 : IntKind.wrap .i64 ((n / 64 : Nat) : Int) = ((n / 64 : Nat) : Int) := wrap64 (by omega) (by omega)
  have w4096 : IntKind.wrap .i64 ((n / 4096 : Nat) : Int) = ((n / 4096 : Nat) : Int) := wrap64 (by omega) (by omega)
  have w18 : IntKind.wrap .i64 ((n / 262144 : Nat) : Int) = ((n / 262144 : Nat) : Int) := wrap64 (by omega) (by omega)
  have nz : ((64 : Int) != 0) = true := rfl
  have a6 : ∀ k : Nat, IntKind.wrap .u8 (IntKind.wrap .i64 (128 + ((k % 64 : Nat) : Int))) = ((128 + k % 64 : Nat) : Int) := fun k => by
    have : k % 64 < 64 := Nat.mod_lt _ (by decide)
    rw [wrap64 (by omega) (by omega), wrapu8 (by omega) (by omega)]; omega
  by_cases h1 : n ≤ 127
  · simp only [show decide ((n : Int) ≤ 127) = true from by simp; omega, cond_true, if_pos h1]
    rw [wrapu8 (by omega) (by omega)]
  by_cases h2 : n ≤ 2047
  · simp only [show decide ((n : Int) ≤ 127) = false from by simp; omega, show decide ((n : Int) ≤ 2047) = true from by simp; omega, cond_true, cond_false, if_neg h1, if_pos h2, e64, m64, w64, nz, rgm, Bool.true_and, a6]
    rw [wrap64 (n := 192 + _) (by omega) (by omega), wrapu8 (by omega) (by omega)]
    rfl
  by_cases h3 : n ≤ 65535
  · simp only [show decide ((n : Int) ≤ 127) = false from by simp; omega, show decide ((n : Int) ≤ 2047) = false from by simp; omega, show decide ((n : Int) ≤ 65535) = true from by simp; omega, cond_true, cond_false, if_neg h1, if_neg h2, if_pos h3, e64, e4096, m64, w64, w4096, nz, rgm, Bool.true_and, r1, a6]
    rw [wrap64 (n := 224 + _) (by omega) (by omega), wrapu8 (by omega) (by omega)]
    rfl
  · simp only [show decide ((n : Int) ≤ 127) = false from by simp; omega, show decide ((n : Int) ≤ 2047) = false from by simp; omega, show decide ((n : Int) ≤ 65535) = false from by simp; omega, cond_true, cond_false, if_neg h1, if_neg h2, if_neg h3, e64, e4096, e18, m64, w64, w4096, w18, nz, rgm, Bool.true_and, r1, r2, a6]
    rw [wrap64 (n := 240 + _) (by omega) (by omega), wrapu8 (by omega) (by omega)]
    rfl
theorem or192 : ∀ k : Fin 64, IntKind.wrap .u8 ((BitVec.toNat (BitVec.ofInt 8 (192 : Int) ||| BitVec.ofInt 8 (IntKind.wrap .u8 ((k.val : Nat) : Int))) : Nat) : Int) = ((192 + k.val : Nat) : Int) := by decide +kernel
theorem or224 : ∀ k : Fin 16, IntKind.wrap .u8 ((BitVec.toNat (BitVec.ofInt 8 (224 : Int) ||| BitVec.ofInt 8 (IntKind.wrap .u8 ((k.val : Nat) : Int))) : Nat) : Int) = ((224 + k.val : Nat) : Int) := by decide +kernel
theorem or240 : ∀ k : Fin 8, IntKind.wrap .u8 ((BitVec.toNat (BitVec.ofInt 8 (240 : Int) ||| BitVec.ofInt 8 (IntKind.wrap .u8 ((k.val : Nat) : Int))) : Nat) : Int) = ((240 + k.val : Nat) : Int) := by decide +kernel
theorem or128' : ∀ k : Fin 256, IntKind.wrap .u8 ((BitVec.toNat (BitVec.ofInt 8 (128 : Int) ||| BitVec.ofInt 8 (IntKind.wrap .u8 ((BitVec.toNat (BitVec.ofInt 8 ((k.val : Nat) : Int) &&& BitVec.ofInt 8 (63 : Int)) : Nat) : Int))) : Nat) : Int) = ((128 + k.val % 64 : Nat) : Int) := by decide +kernel
theorem or128 (k : Nat) : IntKind.wrap .u8 ((BitVec.toNat (BitVec.ofInt 8 (128 : Int) ||| BitVec.ofInt 8 (IntKind.wrap .u8 ((BitVec.toNat (BitVec.ofInt 8 (IntKind.wrap .u8 (k : Int)) &&& BitVec.ofInt 8 (63 : Int)) : Nat) : Int))) : Nat) : Int) = ((128 + k % 64 : Nat) : Int) := by
  have hk : k % 256 < 256 := Nat.mod_lt _ (by decide)
  have e : IntKind.wrap .u8 (k : Int) = ((k % 256 : Nat) : Int) := by rw [IntKind.wrap_u8]; omega
  have := or128' ⟨k % 256, hk⟩
  rw [e]
  simp only at this
  rw [this]
  omega
theorem utf8_ValidRune_eq (V : Ev) (n : Nat) : utf8_ValidRune_ V (((n : Int), ()), ()) = some ((pt n, ()), ()) := by
  unfold utf8_ValidRune_ pt
  simp only [condSome, Option.bind_some, cond_fst, cond_snd, beq_true, Bool.cond_self]
  have e0 : decide ((0 : Int) ≤ (n : Int)) = true := decide_eq_true (by omega)
  have e1 : decide ((n : Int) < 55296) = decide (n < 55296) := decide_eq_decide.2 (by omega)
  have e2 : decide ((57343 : Int) < (n : Int)) = decide (57343 < n) := decide_eq_decide.2 (by omega)
  have e3 : decide ((n : Int) ≤ 1114111) = decide (n ≤ 1114111) := decide_eq_decide.2 (by omega)
  rw [e0, e1, e2, e3]
  by_cases h1 : n < 55296
  · have a : ¬ 55296 ≤ n := by omega
    have b : n ≤ 1114111 := by omega
    simp [h1, a, b]
  · by_cases h2 : n ≤ 57343
    · have a : 55296 ≤ n := by omega
      have b : ¬ 57343 < n := by omega
      simp [h1, h2, a, b]
    · have a : 55296 ≤ n := by omega
      have b : 57343 < n := by omega
      simp only [h1, h2, a, b, decide_true, decide_false, cond_true, cond_false, Bool.and_false, Bool.not_false, Bool.and_true]
      cases decide (n ≤ 1114111) <;> rfl
theorem utf8_appendRuneNonASCII_40a_eq (V : Ev) (n : Nat) (h0 : 127 < n) (h : n ≤ 1114111) (hp : pt n = true) : utf8_appendRuneNonASCII_40a V (((n : Int), ()), ([], ())) = some ((), (utfI n, ())) := by
  unfold utf8_appendRuneNonASCII_40a utfI
  have hu : IntKind.wrap .u32 (n : Int) = (n : Int) := wrapu32 (by omega) (by omega)
  have f6 : Int.fdiv (n : Int) (2 ^ (min (Int.toNat (6 : Int)) 32)) = ((n / 64 : Nat) : Int) := by
    rw [Int.fdiv_eq_ediv_of_nonneg _ (by decide)]; simp
  have f12 : Int.fdiv (n : Int) (2 ^ (min (Int.toNat (12 : Int)) 32)) = ((n / 4096 : Nat) : Int) := by
    rw [Int.fdiv_eq_ediv_of_nonneg _ (by decide)]; simp
  have f18 : Int.fdiv (n : Int) (2 ^ (min (Int.toNat (18 : Int)) 32)) = ((n / 262144 : Nat) : Int) := by
    rw [Int.fdiv_eq_ediv_of_nonneg _ (by decide)]; simp
  have rg : ∀ k : Nat, k ≤ 1114111 → rngB .i32 (k : Int) = true := fun k hk => by
    simp [rngB, IntKind.min, IntKind.max, IntKind.signed, IntKind.bits]; omega
  have hf : ∀ l : List Int, l.length ≤ 4 → fits l.length 1 = true := fun l hl => fits_of (by omega)
  have hn : ([] : List Int).length = 0 := rfl
  have d0 : decide ((0 : Int) ≤ 6) = true := rfl
  have d1 : decide ((0 : Int) ≤ 12) = true := rfl
  have d2 : decide ((0 : Int) ≤ 18) = true := rfl
  by_cases h2 : n ≤ 2047
  · have o := or192 ⟨n / 64, by omega⟩
    simp only at o
    rw [show decide ((IntKind.wrap .u32 (n : Int)) ≤ 2047) = true from by rw [hu]; simp; omega, cond_true]
    simp only [hu, show decide ((n : Int) ≤ 2047) = true from by simp; omega, cond_true, f6, f12, f18, rg _ (show n / 64 ≤ 1114111 by omega), d0, Bool.true_and, o, or128, if_neg (show ¬ n ≤ 127 by omega), if_pos h2, List.nil_append, hn, Nat.zero_add]
    rw [hf _ (by simp)]
    rfl
  by_cases h3 : n ≤ 65535
  · have o := or224 ⟨n / 4096, by omega⟩
    simp only at o
    have hs : n < 55296 ∨ 57343 < n := by
      simp [pt] at hp; omega
    rw [show decide ((IntKind.wrap .u32 (n : Int)) ≤ 2047) = false from by rw [hu]; simp; omega, cond_false]
    have hb : (bif decide ((IntKind.wrap .u32 (n : Int)) < 55296) then some (((n : Int), ((IntKind.wrap .u32 (n : Int)), (decide ((IntKind.wrap .u32 (n : Int)) < (55296 : Int)), ()))), (([] : List Int), ())) else ((bif (decide ((57343 : Int) < (IntKind.wrap .u32 (n : Int))) == true) then (some (((n : Int), ((IntKind.wrap .u32 (n : Int)), (decide ((IntKind.wrap .u32 (n : Int)) ≤ (65535 : Int)), ()))), (([] : List Int), ()))) else (some (((n : Int), ((IntKind.wrap .u32 (n : Int)), (false, ()))), (([] : List Int), ())))).bind fun o1 => (some ((o1.1.1, (o1.1.2.1, (o1.1.2.2.1, ()))), (o1.2.1, ()))))) = some (((n : Int), ((n : Int), (true, ()))), (([] : List Int), ())) := by
      rw [hu]
      rcases hs with hs | hs
      · rw [show decide ((n : Int) < 55296) = true from by simp; omega]; rfl
      · rw [show decide ((n : Int) < 55296) = false from by simp; omega, show decide ((57343 : Int) < (n : Int)) = true from by simp; omega, show decide ((n : Int) ≤ 65535) = true from by simp; omega]; rfl
    rw [hb, Option.bind_some]
    simp only [cond_true, f6, f12, rg _ (show n / 64 ≤ 1114111 by omega), rg _ (show n / 4096 ≤ 1114111 by omega), d0, d1, Bool.true_and, o, or128, if_neg (show ¬ n ≤ 127 by omega), if_neg h2, if_pos h3, List.nil_append, hn, Nat.zero_add]
    rw [hf _ (by simp)]
    rfl
  · have o := or240 ⟨n / 262144, by omega⟩
    simp only at o
    simp only [condSome, Option.bind_some, cond_fst, cond_snd, beq_true, Bool.cond_self, hu, show decide ((n : Int) ≤ 2047) = false from by simp; omega, cond_false, f6, f12, f18, rg _ (show n / 64 ≤ 1114111 by omega), rg _ (show n / 4096 ≤ 1114111 by omega), rg _ (show n / 262144 ≤ 1114111 by omega), d0, d1, d2, Bool.true_and, o, or128, if_neg (show ¬ n ≤ 127 by omega), if_neg h2, if_neg h3, List.nil_append,
      show decide ((n : Int) < 55296) = false from by simp; omega, show decide ((57343 : Int) < (n : Int)) = true from by simp; omega, show decide ((n : Int) ≤ 65535) = false from by simp; omega, show decide ((n : Int) > 65535) = true from by simp; omega, show decide ((n : Int) ≤ 1114111) = true from by simp; omega, cond_true, hn, Nat.zero_add]
    rw [hf _ (by simp)]
    rfl
theorem strings_Builder_WriteRune_38c_eq (V : Ev) (n : Nat) (h : n ≤ 1114111) (hp : pt n = true) : ∃ r, strings_Builder_WriteRune_38c V (((n : Int), ()), ((), ([], ()))) = some (r, ((), (utfI n, ()))) := by
  unfold strings_Builder_WriteRune_38c utf8_AppendRune_40a strings_Builder_copyCheck_20a
  have hu : IntKind.wrap .u32 (n : Int) = (n : Int) := wrapu32 (by omega) (by omega)
  by_cases h1 : n ≤ 127
  · simp only [Option.bind_some, hu, show decide ((n : Int) ≤ 127) = true from by simp; omega, cond_true, wrapu8 (show (0 : Int) ≤ n by omega) (by omega : (n : Int) ≤ 255), utfI, if_pos h1, List.length_nil, List.length_cons, Nat.zero_add, fits_of (show 1 * 1 ≤ 100000000 by decide), List.nil_append]
    exact ⟨_, rfl⟩
  · simp only [Option.bind_some, hu, show decide ((n : Int) ≤ 127) = false from by simp; omega, cond_false, utf8_appendRuneNonASCII_40a_eq V n (by omega) h hp]
    exact ⟨_, rfl⟩
theorem strings_Builder_String_20a_eq (V : Ev) (l : List Int) : strings_Builder_String_20a V ((), ((), (l, ()))) = some ((toBs l, ()), ((), ())) := by
  unfold strings_Builder_String_20a
  simp only [beq_self_eq_true, cond_true]
theorem utf_Text_eq (N : Nat) (hN : 2 < N) (n : Nat) (h : n ≤ 300000000) : utf_Text_ (Ev.upto N) ((([(n : Int)] : List Int), ()), ()) = some (bif pt n then ((utf n, ((0 : Int), ())), ()) else (([], ((1 : Int), ())), ())) := by
  obtain ⟨M, rfl⟩ : ∃ M, N = M + 1 + 1 + 1 := ⟨N - 3, by omega⟩
  unfold utf_Text_
  have i0 : idx ([(n : Int)] : List Int) 0 = some (n : Int) := rfl
  have w32 : IntKind.wrap .i32 (n : Int) = (n : Int) := wrap32 (by omega) (by omega)
  have z : decide ((n : Int) < 0) = false := nneg n
  have l1 : decide ((0 : Int) < ((([(n : Int)] : List Int).length : Nat) : Int)) = true := rfl
  have l2 : decide ((IntKind.wrap .i64 ((0 : Int) + 1)) < ((([(n : Int)] : List Int).length : Nat) : Int)) = false := rfl
  rw [upto_it]
  have q40 := utf8_ValidRune_eq (Ev.upto (M + 1 + 1 + 1)) n
  by_cases hp : pt n = true
  · have hn : n ≤ 1114111 := by simp [pt] at hp; omega
    have g : decide ((n : Int) > 1114111) = false := by simp; omega
    obtain ⟨r, hr⟩ := strings_Builder_WriteRune_38c_eq (Ev.upto (M + 1 + 1 + 1)) n hn hp
    simp -implicitDefEqProofs only [iterN, i0, z, g, l1, l2, cond_true, cond_false, beq_self_eq_true, Option.bind_some, w32]
    simp -implicitDefEqProofs only [q40, hp, Bool.not_true, cond_true, cond_false, Option.bind_some, w32]
    simp -implicitDefEqProofs only [hr, l2, Option.bind_some, cond_false]
    rw [strings_Builder_String_20a_eq]
    rfl
  · have hp' : pt n = false := by simpa using hp
    by_cases hn : n ≤ 1114111
    · have g : decide ((n : Int) > 1114111) = false := by simp; omega
      simp -implicitDefEqProofs only [iterN, i0, z, g, l1, l2, cond_true, cond_false, beq_self_eq_true, Option.bind_some, w32]
      simp -implicitDefEqProofs only [q40, hp', Bool.not_false, cond_true, cond_false, Option.bind_some]
    · have g : decide ((n : Int) > 1114111) = true := by simp; omega
      simp -implicitDefEqProofs only [iterN, i0, z, g, l1, l2, cond_true, cond_false, beq_self_eq_true, Option.bind_some, w32, hp', show (true == false) = false from rfl]
/-! ### Digits -/
def dv (c : Nat) : Nat := if 48 ≤ c ∧ c ≤ 57 then c - 48 else if 97 ≤ c ∧ c ≤ 102 then c - 87 else if 65 ≤ c ∧ c ≤ 70 then c - 55 else 99
def nums (base : Nat) : Bs → Nat → Option Nat
  | [], n => some n
  | c :: r, n => if dv c.toNat < base then nums base r (n * base + dv c.toNat) else none
def numOk (base most : Nat) (s : Bs) : Option Nat := if s.length < 1 ∨ most < s.length then none else nums base s 0
theorem pounceref13_digit_10 : ∀ c : Fin 256, (pounceref13_digit_ (Ev.upto 0) (((c.val : Int), ((10 : Int), ())), ()) : Option ((Int × Unit) × Unit)) = some ((if dv c.val < 10 then (dv c.val : Int) else -1, ()), ()) := by decide +kernel
theorem pounceref13_digit_16 : ∀ c : Fin 256, (pounceref13_digit_ (Ev.upto 0) (((c.val : Int), ((16 : Int), ())), ()) : Option ((Int × Unit) × Unit)) = some ((if dv c.val < 16 then (dv c.val : Int) else -1, ()), ()) := by decide +kernel
theorem pounceref13_digit_eq (V : Ev) (c base : Nat) (hc : c < 256) (hb : base = 10 ∨ base = 16) : pounceref13_digit_ V (((c : Int), ((base : Int), ())), ()) = some ((if dv c < base then (dv c : Int) else -1, ()), ()) := by
  rcases hb with rfl | rfl
  · exact pounceref13_digit_10 ⟨c, hc⟩
  · exact pounceref13_digit_16 ⟨c, hc⟩
theorem pounceref13_number_eq (N : Nat) (hN : 8 < N) (base most : Nat) (hb : base = 10 ∨ base = 16) (hm : most ≤ 7) (s : Bs) : pounceref13_number_ (Ev.upto N) ((s, ((base : Int), ((most : Int), ()))), ()) = some ((match numOk base most s with | some n => (n : Int) | none => -1, ()), ()) := by
  have hb16 : base ≤ 16 := by omega
  by_cases hs : s.length < 1 ∨ most < s.length
  · unfold pounceref13_number_
    have e : numOk base most s = none := by unfold numOk; rw [if_pos hs]
    simp only [e, condSome, Option.bind_some, cond_fst, cond_snd, Bool.cond_self]
    rw [show (bif (decide ((s.length : Int) < 1) == false) then decide ((s.length : Int) > (most : Int)) else true) = true from by
      rcases hs with hs | hs
      · have : decide ((s.length : Int) < 1) = true := by simp; omega
        rw [this]; rfl
      · have : decide ((s.length : Int) > (most : Int)) = true := by simp; omega
        rw [this]; simp]
    rfl
  · have e : numOk base most s = nums base s 0 := by unfold numOk; rw [if_neg hs]
    rw [e]
    apply wp_eq
    unfold pounceref13_number_
    have c1 : decide ((s.length : Int) < 1) = false := by simp; omega
    have c2 : decide ((s.length : Int) > (most : Int)) = false := by simp; omega
    simp only [c1, c2, beq_self_eq_true, cond_true, cond_false, Option.bind_some]
    refine wp_bind ?_
    refine wp_for (σ := Nat) (fun i n => ((s, ((base : Int), ((n : Int), ((i : Int), ())))), ())) (fun i n => n < 16 ^ i ∧ nums base (s.drop i) n = nums base s 0) s.length 0 rfl ⟨by decide, by simp⟩ (by omega) ?_
    rintro i n hi ⟨hn, hv⟩
    have hp7 : 16 ^ i ≤ 16 ^ 7 := Nat.pow_le_pow_right (by decide) (by omega)
    by_cases hi' : i < s.length
    · have c3 : decide ((i : Int) < (s.length : Int)) = true := by simpa using hi'
      simp only [c3, cond_true, idx_nat hi', Option.bind_some, pounceref13_digit_eq _ _ base (byte_lt s[i]) hb]
      rw [List.drop_eq_getElem_cons hi', nums] at hv
      by_cases hd : dv s[i].toNat < base
      · rw [if_pos hd] at hv
        have c4 : decide ((if dv s[i].toNat < base then (dv s[i].toNat : Int) else -1) < 0) = false := by rw [if_pos hd]; exact nneg _
        have hmul : base * n + dv s[i].toNat < 16 ^ (i + 1) := by
          have : base * (n + 1) ≤ 16 * 16 ^ i := Nat.mul_le_mul hb16 (by omega)
          rw [Nat.mul_succ] at this
          rw [Nat.pow_succ]; omega
        have hp8 : 16 ^ (i + 1) ≤ 16 ^ 8 := Nat.pow_le_pow_right (by decide) (by omega)
        have hm0 : ((base : Int) * (n : Int)) = ((base * n : Nat) : Int) := by simp
        rw [c4]
        simp only [cond_false, if_pos hd, hm0]
        refine ⟨_, rfl, hi', base * n + dv s[i].toNat, ?_, hmul, by rw [Nat.mul_comm base n]; exact hv⟩
        rw [wrap64 (n := ((base * n : Nat) : Int)) (by omega) (by omega), wrap64 (by omega) (by omega), wrap64 (by omega) (by omega)]
        rfl
      · rw [if_neg hd] at hv
        have c4 : decide ((if dv s[i].toNat < base then (dv s[i].toNat : Int) else -1) < 0) = true := by rw [if_neg hd]; rfl
        rw [c4]
        simp only [cond_true]
        refine ⟨_, rfl, ?_⟩
        rw [← hv]
        exact ⟨_, rfl, rfl⟩
    · have c3 : decide ((i : Int) < (s.length : Int)) = false := by simpa using hi'
      simp only [c3, cond_false]
      refine ⟨_, rfl, ?_⟩
      rw [List.drop_eq_nil_of_le (by omega), nums] at hv
      rw [← hv]
      exact ⟨_, rfl, rfl⟩
end Go.En.Pl
