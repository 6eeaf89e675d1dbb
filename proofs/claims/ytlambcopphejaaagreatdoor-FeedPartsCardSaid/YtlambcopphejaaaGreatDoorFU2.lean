/- Text FU2 of this seat: written by a program of ours, or by hand; checked by Lean. -/
import Derived.Test.YtlambcopphejaaaGreatDoorW
import Derived.Test.YtlambcopphejaaaGreatDoorG
import Derived.Test.YtlambcopphejaaaGreatDoorFU1
set_option linter.unusedSimpArgs false
set_option linter.unusedVariables false
namespace Go.En.Pl
/-! The program's decoding of bytes. -/
def f1 (n : Nat) : Nat := if n < 128 then 240 else if n < 194 then 241 else if n < 224 then 2 else if n = 224 then 19 else if n < 237 then 3 else if n = 237 then 35 else if n < 240 then 3 else if n = 240 then 52 else if n < 244 then 4 else if n = 244 then 68 else 241
theorem tab1_all : (List.range 256).all (fun n => decide (idx tabl1 (n : Int) = some ((f1 n : Nat) : Int))) = true := by kernel_rfl
theorem tab1 (a : UInt8) : idx tabl1 ((a.toNat : Nat) : Int) = some ((f1 a.toNat : Nat) : Int) :=
  of_decide_eq_true (List.all_eq_true.1 tab1_all a.toNat (List.mem_range.2 a.toNat_lt))
def msk (x : Int) : Int := Int.fdiv (IntKind.wrap .i32 ((IntKind.wrap .i32 x) * 2 ^ (min (Int.toNat (31 : Int)) 32))) (2 ^ (min (Int.toNat (31 : Int)) 32))
def szx (x : Int) : Int := IntKind.wrap .i64 (IntKind.wrap .u8 ((BitVec.toNat (BitVec.ofInt 8 x &&& BitVec.ofInt 8 (7 : Int)) : Nat) : Int))
def hix (x : Int) : Int := Int.fdiv x (2 ^ (min (Int.toNat (4 : Int)) 8))
def rx (v3 m : Int) : Int := IntKind.wrap .i32 ((BitVec.toNat (BitVec.ofInt 32 (IntKind.wrap .i32 ((BitVec.toNat (BitVec.ofInt 32 (IntKind.wrap .i32 v3) &&& ~~~(BitVec.ofInt 32 m)) : Nat) : Int)) ||| BitVec.ofInt 32 (IntKind.wrap .i32 ((BitVec.toNat (BitVec.ofInt 32 (65533 : Int) &&& BitVec.ofInt 32 m) : Nat) : Int))) : Nat) : Int)
theorem rx_all : (List.range 256).all (fun n => decide (rx (n : Int) (msk 241) = 65533)) = true := by kernel_rfl
theorem rx_241 (a : UInt8) : rx ((a.toNat : Nat) : Int) (msk 241) = 65533 :=
  of_decide_eq_true (List.all_eq_true.1 rx_all a.toNat (List.mem_range.2 a.toNat_lt))
theorem ofBs_cons (a : UInt8) (s : Bs) : ofBs (a :: s) = ((a.toNat : Nat) : Int) :: ofBs s := rfl
theorem idx0' (x : Int) (l : List Int) : idx (x :: l) 0 = some x := rfl
theorem idx1' (x y : Int) (l : List Int) : idx (x :: y :: l) 1 = some y := rfl
theorem idx2' (x y z : Int) (l : List Int) : idx (x :: y :: z :: l) 2 = some z := rfl
theorem idx3' (x y z u : Int) (l : List Int) : idx (x :: y :: z :: u :: l) 3 = some u := rfl
/-- What a first byte tells. -/
theorem first_cases (a : UInt8) : (u8sz a.toNat ≤ 1 ∧ (u8sz a.toNat = 1 → f1 a.toNat = 240) ∧ (u8sz a.toNat = 0 → f1 a.toNat = 241)) ∨
    (2 ≤ u8sz a.toNat ∧ decide (((f1 a.toNat : Nat) : Int) ≥ 240) = false ∧ (decide ((0 : Int) ≤ (4 : Int)) && rngB .u8 (hix ((f1 a.toNat : Nat) : Int))) = true ∧
      idx tabl2 (hix ((f1 a.toNat : Nat) : Int)) = some (((u8lo a.toNat : Nat) : Int), ((u8hi a.toNat : Nat) : Int)) ∧ szx ((f1 a.toNat : Nat) : Int) = ((u8sz a.toNat : Nat) : Int)) := by
  have h : (List.range 256).all (fun n => decide ((u8sz n ≤ 1 ∧ (u8sz n = 1 → f1 n = 240) ∧ (u8sz n = 0 → f1 n = 241)) ∨
    (2 ≤ u8sz n ∧ decide (((f1 n : Nat) : Int) ≥ 240) = false ∧ (decide ((0 : Int) ≤ (4 : Int)) && rngB .u8 (hix ((f1 n : Nat) : Int))) = true ∧
      idx tabl2 (hix ((f1 n : Nat) : Int)) = some (((u8lo n : Nat) : Int), ((u8hi n : Nat) : Int)) ∧ szx ((f1 n : Nat) : Int) = ((u8sz n : Nat) : Int)))) = true := by kernel_rfl
  exact of_decide_eq_true (List.all_eq_true.1 h a.toNat (List.mem_range.2 a.toNat_lt))
theorem bad1 (a b : UInt8) (X Y : Option (List Int × Unit)) : True := trivial
theorem ok1_dec (a b : UInt8) : ok1 a b = (!decide (((b.toNat : Nat) : Int) < ((u8lo a.toNat : Nat) : Int)) && !decide (((u8hi a.toNat : Nat) : Int) < ((b.toNat : Nat) : Int))) := by
  unfold ok1
  rw [Bool.eq_iff_iff]
  simp only [Bool.and_eq_true, decide_eq_true_eq, Bool.not_eq_true', decide_eq_false_iff_not]
  omega
theorem ct_dec (b : UInt8) : ct b = (!decide (((b.toNat : Nat) : Int) < 128) && !decide ((191 : Int) < ((b.toNat : Nat) : Int))) := by
  unfold ct
  rw [Bool.eq_iff_iff]
  simp only [Bool.and_eq_true, decide_eq_true_eq, Bool.not_eq_true', decide_eq_false_iff_not]
  omega
theorem bifok {α : Type} (c d : Bool) (F : Bool → α) : (bif (c == false) then F d else F true) = F (!(!c && !d)) := by cases c <;> cases d <;> rfl
theorem cpl2 (a b : UInt8) (s : Bs) (h : u8sz a.toNat = 2) : cpl (a :: b :: s) = if ok1 a b = true then 2 else 0 := by
  rw [cpl_cons, h]
  simp [vt]
theorem cpl3 (a b c : UInt8) (s : Bs) (h : u8sz a.toNat = 3) : cpl (a :: b :: c :: s) = if ok1 a b = true ∧ ct c = true then 3 else 0 := by
  rw [cpl_cons, h]
  simp [vt]
theorem cpl4 (a b c d : UInt8) (s : Bs) (h : u8sz a.toNat = 4) : cpl (a :: b :: c :: d :: s) = if ok1 a b = true ∧ ct c = true ∧ ct d = true then 4 else 0 := by
  rw [cpl_cons, h]
  simp [vt]
theorem cpl_short (a : UInt8) (s : Bs) (h : s.length + 1 < u8sz a.toNat) : cpl (a :: s) = 0 := by
  rw [cpl_cons, if_neg]
  rintro ⟨h1, _⟩
  omega
theorem cpl_bad1 (a b : UInt8) (s : Bs) (h0 : 2 ≤ u8sz a.toNat) (h : ok1 a b = false) : cpl (a :: b :: s) = 0 := by
  rw [cpl_cons, if_neg]
  rintro ⟨_, h2⟩
  obtain ⟨k, hk⟩ : ∃ k, u8sz a.toNat - 1 = k + 1 := ⟨u8sz a.toNat - 2, by omega⟩
  rw [hk] at h2
  simp [vt, h] at h2
theorem cpl_bad2 (a b c : UInt8) (s : Bs) (h0 : 3 ≤ u8sz a.toNat) (h : ct c = false) : cpl (a :: b :: c :: s) = 0 := by
  rw [cpl_cons, if_neg]
  rintro ⟨_, h2⟩
  obtain ⟨k, hk⟩ : ∃ k, u8sz a.toNat - 1 = k + 1 + 1 := ⟨u8sz a.toNat - 3, by omega⟩
  rw [hk] at h2
  simp [vt, h] at h2
theorem Slow_eq (V : Ev) (a : UInt8) (s : Bs) (h128 : 128 ≤ a.toNat) : ∃ r : Int, utf8_decodeRuneSlow_ V ((ofBs (a :: s), ()), ()) = some ((r, ((((cpn (a :: s)) : Nat) : Int), ())), ()) ∧ (cpl (a :: s) = 0 → r = 65533) ∧ cpl (a :: s) ≠ 1 := by
  have hsz1 : u8sz a.toNat ≠ 1 := by unfold u8sz; (repeat' split) <;> omega
  have hne1 : cpl (a :: s) ≠ 1 := by
    rw [cpl_cons]
    split
    · exact hsz1
    · omega
  unfold utf8_decodeRuneSlow_
  have t1 := tab1 a
  rw [ofBs_cons]
  dsimp only
  have l0' : decide (((((a.toNat : Nat) : Int) :: ofBs s).length : Int) < (1 : Int)) = false := decide_eq_false (by simp only [List.length_cons]; omega)
  rw [l0', cond_false, idx0', Option.bind_some, t1, Option.bind_some]
  rcases first_cases a with ⟨h1, h2, h3⟩ | ⟨h1, h2, h3, h4, h5⟩
  · have h0 : u8sz a.toNat = 0 := by omega
    have hc : cpl (a :: s) = 0 := by rw [cpl_cons, h0]; split <;> rfl
    rw [h3 h0]
    have g1 : decide (((241 : Nat) : Int) ≥ (240 : Int)) = true := rfl
    have g2 : (decide ((0 : Int) ≤ (31 : Int)) && rngB .i32 (Int.fdiv (IntKind.wrap .i32 ((IntKind.wrap .i32 ((241 : Nat) : Int)) * 2 ^ (min (Int.toNat (31 : Int)) 32))) (2 ^ (min (Int.toNat (31 : Int)) 32)))) = true := by kernel_rfl
    have hr := rx_241 a
    rw [g1, cond_true, g2, cond_true]
    rw [show cpn (a :: s) = 1 by unfold cpn; rw [if_pos hc]]
    exact ⟨_, rfl, fun _ => hr, hne1⟩
  · rw [h2, cond_false]
    unfold hix at h3 h4
    unfold szx at h5
    rw [h3, cond_true, h4, Option.bind_some, h5]
    have hlen : ((((a.toNat : Nat) : Int) :: ofBs s).length : Int) = ((s.length + 1 : Nat) : Int) := by simp [ofBs_length]
    rw [hlen]
    by_cases hs : s.length + 1 < u8sz a.toNat
    · rw [show decide (((s.length + 1 : Nat) : Int) < ((u8sz a.toNat : Nat) : Int)) = true from decide_eq_true (by omega), cond_true]
      have hc := cpl_short a s hs
      rw [show cpn (a :: s) = 1 by unfold cpn; rw [if_pos hc]]
      exact ⟨_, rfl, fun _ => rfl, hne1⟩
    · rw [show decide (((s.length + 1 : Nat) : Int) < ((u8sz a.toNat : Nat) : Int)) = false from decide_eq_false (by omega), cond_false]
      obtain ⟨b, s, rfl⟩ : ∃ b s', s = b :: s' := by
        cases s with
        | nil => simp at hs; omega
        | cons b s => exact ⟨b, s, rfl⟩
      have hu := u8sz_le a.toNat
      rw [ofBs_cons, idx1', Option.bind_some]
      dsimp only
      rw [bifok (decide (((b.toNat : Nat) : Int) < ((u8lo a.toNat : Nat) : Int))) (decide (((u8hi a.toNat : Nat) : Int) < ((b.toNat : Nat) : Int))) (fun z => some ((((a.toNat : Nat) : Int) :: ((b.toNat : Nat) : Int) :: ofBs s, (((a.toNat : Nat) : Int), (((u8sz a.toNat : Nat) : Int), (((b.toNat : Nat) : Int), (z, ()))))), ())), ← ok1_dec, Option.bind_some]
      dsimp only
      cases ho : ok1 a b with
      | false =>
        rw [Bool.not_false, cond_true]
        have hc := cpl_bad1 a b s h1 ho
        rw [show cpn (a :: b :: s) = 1 by unfold cpn; rw [if_pos hc]]
        exact ⟨_, rfl, fun _ => rfl, hne1⟩
      | true =>
        rw [Bool.not_true, cond_false]
        by_cases hk2 : u8sz a.toNat = 2
        · rw [show decide (((u8sz a.toNat : Nat) : Int) ≤ 2) = true from decide_eq_true (by omega), cond_true]
          have hc := cpl2 a b s hk2
          rw [if_pos ho] at hc
          rw [show cpn (a :: b :: s) = 2 by unfold cpn; rw [hc]; rfl]
          exact ⟨_, rfl, fun h => (by rw [hc] at h; cases h), hne1⟩
        · rw [show decide (((u8sz a.toNat : Nat) : Int) ≤ 2) = false from decide_eq_false (by omega), cond_false]
          obtain ⟨c, s, rfl⟩ : ∃ c s', s = c :: s' := by
            cases s with
            | nil => simp at hs; omega
            | cons b s => exact ⟨b, s, rfl⟩
          rw [ofBs_cons, idx2', Option.bind_some]
          rw [bifok (decide (((c.toNat : Nat) : Int) < 128)) (decide ((191 : Int) < ((c.toNat : Nat) : Int))) (fun z => some ((((a.toNat : Nat) : Int) :: ((b.toNat : Nat) : Int) :: ((c.toNat : Nat) : Int) :: ofBs s, (((a.toNat : Nat) : Int), (((u8sz a.toNat : Nat) : Int), (((b.toNat : Nat) : Int), (((c.toNat : Nat) : Int), (z, ())))))), ())), ← ct_dec, Option.bind_some]
          dsimp only
          cases ho2 : ct c with
          | false =>
            rw [Bool.not_false, cond_true]
            have hc := cpl_bad2 a b c s (by omega) ho2
            rw [show cpn (a :: b :: c :: s) = 1 by unfold cpn; rw [if_pos hc]]
            exact ⟨_, rfl, fun _ => rfl, hne1⟩
          | true =>
            rw [Bool.not_true, cond_false]
            by_cases hk3 : u8sz a.toNat = 3
            · rw [show decide (((u8sz a.toNat : Nat) : Int) ≤ 3) = true from decide_eq_true (by omega), cond_true]
              have hc := cpl3 a b c s hk3
              rw [if_pos ⟨ho, ho2⟩] at hc
              rw [show cpn (a :: b :: c :: s) = 3 by unfold cpn; rw [hc]; rfl]
              exact ⟨_, rfl, fun h => (by rw [hc] at h; cases h), hne1⟩
            · rw [show decide (((u8sz a.toNat : Nat) : Int) ≤ 3) = false from decide_eq_false (by omega), cond_false]
              have hk4 : u8sz a.toNat = 4 := by omega
              obtain ⟨d, s, rfl⟩ : ∃ d s', s = d :: s' := by
                cases s with
                | nil => simp at hs; omega
                | cons b s => exact ⟨b, s, rfl⟩
              rw [ofBs_cons, idx3', Option.bind_some]
              rw [bifok (decide (((d.toNat : Nat) : Int) < 128)) (decide ((191 : Int) < ((d.toNat : Nat) : Int))) (fun z => some ((((a.toNat : Nat) : Int), (((b.toNat : Nat) : Int), (((c.toNat : Nat) : Int), (((d.toNat : Nat) : Int), (z, ()))))), ())), ← ct_dec, Option.bind_some]
              have hc := cpl4 a b c d s hk4
              cases ho3 : ct d with
              | false =>
                rw [Bool.not_false, cond_true]
                rw [if_neg (by rw [ho3]; simp)] at hc
                rw [show cpn (a :: b :: c :: d :: s) = 1 by unfold cpn; rw [if_pos hc]]
                exact ⟨_, rfl, fun _ => rfl, hne1⟩
              | true =>
                rw [Bool.not_true, cond_false]
                rw [if_pos ⟨ho, ho2, ho3⟩] at hc
                rw [show cpn (a :: b :: c :: d :: s) = 4 by unfold cpn; rw [hc]; rfl]
                exact ⟨_, rfl, fun h => (by rw [hc] at h; cases h), hne1⟩
theorem DecodeRune_eq (N : Nat) (hN : 1 < N) (s : Bs) (hs : s ≠ []) : ∃ r : Int, utf8_DecodeRune_ (Ev.upto N) ((ofBs s, ()), ()) = some ((r, ((((cpn s) : Nat) : Int), ())), ()) ∧ ((r == 65533) = true → ((((cpn s) : Nat) : Int) == 1) = true → cpl s = 0) ∧ (cpl s = 0 → r = 65533) := by
  cases s with
  | nil => exact absurd rfl hs
  | cons a s =>
    have l0 : decide ((0 : Int) < ((ofBs (a :: s)).length : Int)) = true := decide_eq_true (by rw [ofBs_length, List.length_cons]; omega)
    obtain ⟨n, rfl⟩ : ∃ n, N = n + 1 := ⟨N - 1, by omega⟩
    unfold utf8_DecodeRune_
    simp -implicitDefEqProofs only [upto_it, iterN, l0, cond_true]
    rw [ofBs_cons, idx0']
    simp -implicitDefEqProofs only [Option.bind_some]
    by_cases ha : a.toNat < 128
    · have d0 : decide (((a.toNat : Nat) : Int) < 128) = true := decide_eq_true (by omega)
      have hc : cpl (a :: s) = 1 := by
        have : u8sz a.toNat = 1 := by unfold u8sz; rw [if_pos ha]
        rw [cpl_cons, this]
        simp [vt]
      simp -implicitDefEqProofs only [d0, cond_true, Option.bind_some, wrap32 (n := ((a.toNat : Nat) : Int)) (by omega) (by omega)]
      rw [show cpn (a :: s) = 1 by unfold cpn; rw [hc]; rfl]
      refine ⟨_, rfl, fun h => ?_, fun h => by rw [hc] at h; cases h⟩
      simp at h
      omega
    · have d0 : decide (((a.toNat : Nat) : Int) < 128) = false := decide_eq_false (by omega)
      obtain ⟨r, e, h1, h2⟩ := Slow_eq (Ev.upto (n + 1)) a s (by omega)
      rw [ofBs_cons] at e
      simp -implicitDefEqProofs only [d0, cond_false, Option.bind_some, e]
      refine ⟨_, rfl, fun _ h => ?_, h1⟩
      unfold cpn at h
      split at h
      · assumption
      · simp at h; omega
theorem FullRune_eq (V : Ev) (s : Bs) (hs : s ≠ []) : utf8_FullRune_ V ((ofBs s, ()), ()) = some ((!inc s, ()), ()) := by
  cases s with
  | nil => exact absurd rfl hs
  | cons a s =>
    unfold utf8_FullRune_
    have t1 := tab1 a
    rw [ofBs_cons]
    dsimp only
    have hlen : ((((a.toNat : Nat) : Int) :: ofBs s).length : Int) = ((s.length + 1 : Nat) : Int) := by simp [ofBs_length]
    rw [hlen]
    have l0 : (((s.length + 1 : Nat) : Int) == 0) = false := by simp; omega
    rw [l0, cond_false, idx0', Option.bind_some, t1, Option.bind_some]
    rcases first_cases a with ⟨h1, h2, h3⟩ | ⟨h1, h2, h3, h4, h5⟩
    · have hi : inc (a :: s) = false := by
        simp only [inc, show u8sz a.toNat - 1 = 0 by omega]
        simp
      rw [hi]
      by_cases h0 : u8sz a.toNat = 0
      · rw [h3 h0]
        have g : (IntKind.wrap .i64 (IntKind.wrap .u8 ((BitVec.toNat (BitVec.ofInt 8 ((241 : Nat) : Int) &&& BitVec.ofInt 8 (7 : Int)) : Nat) : Int))) = 1 := by kernel_rfl
        rw [g, show decide (((s.length + 1 : Nat) : Int) ≥ 1) = true from decide_eq_true (by omega)]
        rfl
      · rw [h2 (by omega)]
        have g : (IntKind.wrap .i64 (IntKind.wrap .u8 ((BitVec.toNat (BitVec.ofInt 8 ((240 : Nat) : Int) &&& BitVec.ofInt 8 (7 : Int)) : Nat) : Int))) = 0 := by kernel_rfl
        rw [g, show decide (((s.length + 1 : Nat) : Int) ≥ 0) = true from decide_eq_true (by omega)]
        rfl
    · unfold hix at h3 h4
      unfold szx at h5
      have hu := u8sz_le a.toNat
      rw [h5]
      by_cases hl : u8sz a.toNat ≤ s.length + 1
      · rw [show decide (((s.length + 1 : Nat) : Int) ≥ ((u8sz a.toNat : Nat) : Int)) = true from decide_eq_true (by omega)]
        have hi : inc (a :: s) = false := by
          simp only [inc, Bool.and_eq_false_iff, decide_eq_false_iff_not]
          left; omega
        rw [hi]
        rfl
      · rw [show decide (((s.length + 1 : Nat) : Int) ≥ ((u8sz a.toNat : Nat) : Int)) = false from decide_eq_false (by omega), cond_false, h3, cond_true, h4, Option.bind_some]
        dsimp only
        have hi : inc (a :: s) = vt a s := by
          simp only [inc, show s.length < u8sz a.toNat - 1 by omega, decide_true, Bool.true_and]
        rw [hi]
        cases s with
        | nil => rfl
        | cons b s =>
          rw [show decide (((((b :: s).length + 1 : Nat)) : Int) > 1) = true from decide_eq_true (by simp only [List.length_cons]; omega), ofBs_cons]
          simp only [idx1', Option.bind_some, beq_self_eq_true, cond_true]
          rw [bifok (decide (((b.toNat : Nat) : Int) < ((u8lo a.toNat : Nat) : Int))) (decide (((u8hi a.toNat : Nat) : Int) < ((b.toNat : Nat) : Int))) (fun z => some ((((a.toNat : Nat) : Int) :: ((b.toNat : Nat) : Int) :: ofBs s, ((((b :: s).length + 1 : Nat) : Int), (z, ()))), ())), ← ok1_dec, Option.bind_some]
          dsimp only
          cases ho : ok1 a b with
          | false => simp [vt, ho]
          | true =>
            rw [Bool.not_true, cond_false]
            cases s with
            | nil => simp [vt, ho]
            | cons c s =>
              rw [show decide (((((b :: c :: s).length + 1 : Nat)) : Int) > 2) = true from decide_eq_true (by simp; omega), ofBs_cons]
              simp only [idx2', Option.bind_some, beq_self_eq_true, cond_true]
              rw [bifok (decide (((c.toNat : Nat) : Int) < 128)) (decide ((191 : Int) < ((c.toNat : Nat) : Int))) (fun z => some ((z, ()), ())), ← ct_dec, Option.bind_some]
              have hs0 : s = [] := by
                cases s with
                | nil => rfl
                | cons d s => simp at hl; omega
              subst hs0
              cases hc : ct c with
              | false => simp [vt, ho, hc]
              | true => simp [vt, ho, hc]
theorem rs_all : (List.range 256).all (fun n => decide (((IntKind.wrap .u8 ((BitVec.toNat (BitVec.ofInt 8 (n : Int) &&& BitVec.ofInt 8 (192 : Int)) : Nat) : Int)) != (128 : Int)) = !(decide (128 ≤ n) && decide (n ≤ 191)))) = true := by kernel_rfl
theorem RuneStart_eq (V : Ev) (a : UInt8) : utf8_RuneStart_ V ((((a.toNat : Nat) : Int), ()), ()) = some ((!ct a, ()), ()) := by
  unfold utf8_RuneStart_
  dsimp only
  rw [of_decide_eq_true (List.all_eq_true.1 rs_all a.toNat (List.mem_range.2 a.toNat_lt))]
  rfl
theorem WSc_eq (V : Ev) (x : Bs) (w : Bs) (h : w.length + x.length ≤ 100000000) : strings_Builder_WriteString_cc3 V ((x, ()), ((), (ofBs w, ()))) = some ((((x.length : Int), (false, ()))), ((), ((ofBs (w ++ x), ())))) := by
  unfold strings_Builder_WriteString_cc3 strings_Builder_copyCheck_20a
  simp -implicitDefEqProofs only [Option.bind_some, ofBs_length, fits_of (n := w.length + x.length) (k := 1) (by omega), cond_true, ofBs_append]
theorem Wr_eq (V : Ev) (x : Bs) (w : Bs) (h : w.length + x.length ≤ 100000000) : strings_Builder_Write_4c3 V ((ofBs x, ()), ((), (ofBs w, ()))) = some ((((x.length : Int), (false, ()))), ((), ((ofBs (w ++ x), ())))) := by
  unfold strings_Builder_Write_4c3 strings_Builder_copyCheck_20a
  simp -implicitDefEqProofs only [Option.bind_some, ofBs_length, fits_of (n := w.length + x.length) (k := 1) (by omega), cond_true, ofBs_append]
theorem ofBs_drop (s : Bs) (n : Nat) : (ofBs s).drop n = ofBs (s.drop n) := by simp [ofBs]
theorem ofBs_take (s : Bs) (n : Nat) : (ofBs s).take n = ofBs (s.take n) := by simp [ofBs]
/-- The program's decoding. -/
theorem uDecode_eq (N : Nat) (s : Bs) (hs : s.length ≤ 1000000) (hN : s.length + 1 < N) : utf_Decode_ (Ev.upto N) ((ofBs s, ()), ()) = some ((U s, ()), ()) := by
  apply wp_eq
  unfold utf_Decode_
  generalize hR : U s = R
  have hRl : R.length ≤ 3000000 := by rw [← hR]; have := U_len s.length s (Nat.le_refl _); omega
  refine wp_seq (fun x => x = ((), ((), (ofBs R, ())))) ?_ ?_
  · refine wp_it (fun a => ∃ (r w : Bs), a = ((ofBs r, ()), ((), (ofBs w, ()))) ∧ w ++ U r = R ∧ r.length ≤ s.length) (fun a => a.1.1.length) ⟨s, [], rfl, by simpa using hR, Nat.le_refl _⟩ (by simp [ofBs_length]; omega) ?_
    rintro _ ⟨r, w, rfl, hw, hl⟩
    have hwl : w.length ≤ R.length := by rw [← hw]; simp
    simp only [ofBs_length]
    by_cases hr : r = []
    · subst hr
      have d0 : decide (((([] : Bs).length : Nat) : Int) > 0) = false := rfl
      rw [d0, cond_false]
      rw [U_nil, List.append_nil] at hw
      subst hw
      exact ⟨_, rfl, rfl⟩
    · have h0 : 0 < r.length := List.length_pos_iff.2 hr
      have d0 : decide (((r.length : Nat) : Int) > 0) = true := decide_eq_true (by omega)
      obtain ⟨q, e, h1, h2⟩ := DecodeRune_eq N (by omega) r hr
      have c1 := cpn_pos r
      have c2 := cpn_le hr
      rw [U_cons hr] at hw
      simp -implicitDefEqProofs only [d0, cond_true, e, Option.bind_some]
      have fin : ∀ b : Bool, (b = true ↔ cpl r = 0) → wp (α := (List Int × Unit) × (Unit × (List Int × Unit))) (bif b then ((strings_Builder_WriteString_cc3 (Ev.upto N) ((([239, 191, 189] : Bs), ()), ((), (ofBs w, ())))).bind fun v4 => ((sl (ofBs r) (1 : Int) ((ofBs r).length : Int)).bind fun v5 => (some ((v5, ()), ((), (v4.2.2.1, ())))))) else ((sl (ofBs r) (0 : Int) ((cpn r : Nat) : Int)).bind fun v6 => ((strings_Builder_Write_4c3 (Ev.upto N) ((v6, ()), ((), (ofBs w, ())))).bind fun v7 => ((sl (ofBs r) ((cpn r : Nat) : Int) ((ofBs r).length : Int)).bind fun v8 => (some ((v8, ()), ((), (v7.2.2.1, ())))))))) (fun x => x = ((ofBs (r.drop (cpn r)), ()), ((), (ofBs (w ++ cpw r), ())))) := by
        intro b hb
        cases b with
        | true =>
          have hc := hb.1 rfl
          have e1 : cpn r = 1 := by unfold cpn; rw [if_pos hc]
          have e2 : cpw r = [239, 191, 189] := by unfold cpw; rw [if_pos hc]
          rw [cond_true, WSc_eq _ _ _ (by simp; omega), Option.bind_some, show (1 : Int) = ((1 : Nat) : Int) from rfl, sl_end (by rw [ofBs_length]; omega), Option.bind_some, e1, e2, ofBs_drop]
          exact ⟨_, rfl, rfl⟩
        | false =>
          have hc : cpl r ≠ 0 := fun h => by have := hb.2 h; cases this
          have e1 : cpn r = cpl r := by unfold cpn; rw [if_neg hc]
          have e2 : cpw r = r.take (cpl r) := by unfold cpw; rw [if_neg hc]
          rw [cond_false, show (0 : Int) = ((0 : Nat) : Int) from rfl, sl_nat (Nat.zero_le _) (by rw [ofBs_length]; omega), Option.bind_some, List.drop_zero, ofBs_take, Wr_eq _ _ _ (by simp; omega), Option.bind_some, sl_end (by rw [ofBs_length]; omega), Option.bind_some, e2, e1, ofBs_drop]
          exact ⟨_, rfl, rfl⟩
      have nxt : w ++ cpw r ++ U (r.drop (cpn r)) = R := by rw [List.append_assoc]; exact hw
      have l1 : (r.drop (cpn r)).length < r.length := by simp; omega
      cases hq : (q == 65533) with
      | true =>
        obtain ⟨x, e3, rfl⟩ := fin (((cpn r : Nat) : Int) == 1) ⟨fun h => h1 hq h, fun h => by unfold cpn; rw [if_pos h]; rfl⟩
        simp -implicitDefEqProofs only [beq_self_eq_true, cond_true, Option.bind_some, e3]
        exact ⟨_, rfl, ⟨_, _, rfl, nxt, by omega⟩, by simp only [ofBs_length]; exact l1⟩
      | false =>
        obtain ⟨x, e3, rfl⟩ := fin false ⟨fun h => by (cases h), fun h => by (rw [h2 h] at hq; cases hq)⟩
        have bb : (false == true) = false := rfl
        simp -implicitDefEqProofs only [bb, cond_false, Option.bind_some, e3]
        exact ⟨_, rfl, ⟨_, _, rfl, nxt, by omega⟩, by simp only [ofBs_length]; exact l1⟩
  · rintro _ rfl
    unfold strings_Builder_String_20a
    simp -implicitDefEqProofs only [beq_self_eq_true, cond_true, Option.bind_some, toBs_ofBs]
    exact ⟨_, rfl, rfl⟩
end Go.En.Pl
