/- Text PL1 of this seat: written by a program of ours, or by hand; checked by Lean. -/
import Derived.Test.YtgenjkaccmjfkaaGreatDoorPSb
set_option linter.unusedSimpArgs false
set_option linter.unusedVariables false
namespace Go.En.Pl
/-! ### Small letters, places of a text -/
theorem forall_byte {P : UInt8 → Bool} (h : (List.range 256).all (fun n => P (UInt8.ofNat n)) = true) (c : UInt8) : P c = true := by
  have h2 := List.all_eq_true.1 h c.toNat (List.mem_range.2 c.toNat_lt)
  rwa [UInt8.ofNat_toNat] at h2
theorem ofBs_gel {s : Bs} {i : Nat} (h : i < s.length) : (ofBs s)[i]'(by rw [ofBs_length]; exact h) = (s[i].toNat : Int) := by simp [ofBs]
def lowI (n : Int) : Int := bif decide (n ≥ 65) && decide (n ≤ 90) then n + 32 else n
def lowerB (s : Bs) : Bs := toBs ((ofBs s).map lowI)
theorem lowerB_length (s : Bs) : (lowerB s).length = s.length := by simp [lowerB, toBs, ofBs]
theorem low_wrap (c : UInt8) (h0 : decide ((c.toNat : Int) ≥ 65) = true) (h1 : decide ((c.toNat : Int) ≤ 90) = true) : IntKind.wrap .u8 ((IntKind.wrap .u8 ((c.toNat : Int) + 97)) - 65) = (c.toNat : Int) + 32 := by
  have h0 := of_decide_eq_true h0
  have h1 := of_decide_eq_true h1
  rw [wrapu8 (n := (c.toNat : Int) + 97) (by omega) (by omega), wrapu8 (by omega) (by omega)]
  omega
theorem lower_eq (N : Nat) (s : Bs) (hs : s.length < N) (hb : s.length ≤ 1000000) : fold_Lower_ (Ev.upto N) ((s, ()), ()) = some ((lowerB s, ()), ()) := by
  apply wp_eq
  unfold fold_Lower_
  refine wp_bind ?_
  refine wp_for (σ := Unit) (fun i _ => ((((ofBs s).length : Int), ((i : Int), ())), (((ofBs s).take i).map lowI ++ (ofBs s).drop i, ()))) (fun i _ => True) s.length () (by simp) trivial hs ?_
  rintro i _ hi _
  have hol := ofBs_length s
  have hll : (((ofBs s).take i).map lowI ++ (ofBs s).drop i).length = s.length := by simp [hol]; omega
  by_cases hi' : i < s.length
  · have c0 : decide ((i : Int) < ((ofBs s).length : Int)) = true := decide_eq_true (by omega)
    have c1 : decide ((i : Int) < ((((ofBs s).take i).map lowI ++ (ofBs s).drop i).length : Int)) = true := decide_eq_true (by omega)
    have c2 : decide ((0 : Int) ≤ (i : Int)) = true := decide_eq_true (by omega)
    have w : IntKind.wrap .i64 ((i : Int) + 1) = ((i + 1 : Nat) : Int) := by rw [wrap64 (by omega) (by omega)]; omega
    have hd : (ofBs s).drop i = (s[i].toNat : Int) :: (ofBs s).drop (i + 1) := by rw [List.drop_eq_getElem_cons (by omega), ofBs_gel hi']
    have hlen : (((ofBs s).take i).map lowI).length = i := by simp [hol]; omega
    have g : (((ofBs s).take i).map lowI ++ (ofBs s).drop i)[((i : Int)).toNat]? = some (s[i].toNat : Int) := by
      rw [Int.toNat_natCast, List.getElem?_append_right (by omega), hlen, Nat.sub_self, hd]; rfl
    have st : ∀ v, (((ofBs s).take i).map lowI ++ (ofBs s).drop i).set ((i : Int)).toNat v = ((ofBs s).take i).map lowI ++ v :: (ofBs s).drop (i + 1) := by
      intro v
      rw [Int.toNat_natCast, List.set_append_right _ _ (by omega), hlen, Nat.sub_self, hd]; rfl
    have nx : ((ofBs s).take (i + 1)).map lowI ++ (ofBs s).drop (i + 1) = ((ofBs s).take i).map lowI ++ lowI (s[i].toNat : Int) :: (ofBs s).drop (i + 1) := by
      rw [List.take_succ_eq_append_getElem (by omega), List.map_append, ofBs_gel hi']; simp
    simp -implicitDefEqProofs only [c0, c1, c2, Bool.and_self, cond_true, g, Option.bind_some]
    cases h1 : decide ((s[i].toNat : Int) ≥ 65) with
    | false =>
      have hx : lowI (s[i].toNat : Int) = (s[i].toNat : Int) := by unfold lowI; rw [h1]; rfl
      rw [hx] at nx
      exact ⟨_, rfl, hi', (), by simp only [w, nx, ← hd], trivial⟩
    | true =>
      cases h2 : decide ((s[i].toNat : Int) ≤ 90) with
      | false =>
        have hx : lowI (s[i].toNat : Int) = (s[i].toNat : Int) := by unfold lowI; rw [h1, h2]; rfl
        rw [hx] at nx
        exact ⟨_, rfl, hi', (), by simp only [w, nx, ← hd], trivial⟩
      | true =>
        have hx : lowI (s[i].toNat : Int) = (s[i].toNat : Int) + 32 := by unfold lowI; rw [h1, h2]; rfl
        rw [hx] at nx
        have lw := low_wrap s[i] h1 h2
        simp -implicitDefEqProofs only [beq_self_eq_true, cond_true, Option.bind_some, c1, c2, Bool.and_self, g, st, lw]
        exact ⟨_, rfl, hi', (), by simp only [w, nx], trivial⟩
  · have c0 : decide ((i : Int) < ((ofBs s).length : Int)) = false := decide_eq_false (by omega)
    simp -implicitDefEqProofs only [c0, cond_false]
    refine ⟨_, rfl, _, rfl, ?_⟩
    rw [List.take_of_length_le (by omega), List.drop_eq_nil_of_le (by omega), List.append_nil]
    rfl
theorem lowI_low (n : Int) : lowI (lowI n) = lowI n := by
  unfold lowI
  by_cases h0 : n ≥ 65
  · by_cases h1 : n ≤ 90
    · rw [show decide (n ≥ 65) = true from decide_eq_true h0, show decide (n ≤ 90) = true from decide_eq_true h1]
      simp only [Bool.and_self, cond_true]
      rw [show decide (n + 32 ≤ 90) = false from decide_eq_false (by omega), Bool.and_false, cond_false]
    · rw [show decide (n ≤ 90) = false from decide_eq_false h1, Bool.and_false, cond_false, show decide (n ≤ 90) = false from decide_eq_false h1, Bool.and_false, cond_false]
  · rw [show decide (n ≥ 65) = false from decide_eq_false h0, Bool.false_and, cond_false, show decide (n ≥ 65) = false from decide_eq_false h0, Bool.false_and, cond_false]
def low1 (c : UInt8) : UInt8 := UInt8.ofNat (lowI (c.toNat : Int)).toNat
theorem low1_toNat (c : UInt8) : ((low1 c).toNat : Int) = lowI (c.toNat : Int) := by
  have := c.toNat_lt
  unfold low1 lowI
  rw [UInt8.toNat_ofNat']
  by_cases h0 : (c.toNat : Int) ≥ 65
  · by_cases h1 : (c.toNat : Int) ≤ 90
    · rw [show decide ((c.toNat : Int) ≥ 65) = true from decide_eq_true h0, show decide ((c.toNat : Int) ≤ 90) = true from decide_eq_true h1]
      simp only [Bool.and_self, cond_true]
      omega
    · rw [show decide ((c.toNat : Int) ≤ 90) = false from decide_eq_false h1, Bool.and_false, cond_false]
      omega
  · rw [show decide ((c.toNat : Int) ≥ 65) = false from decide_eq_false h0, Bool.false_and, cond_false]
    omega
theorem lowerB_map (s : Bs) : lowerB s = s.map low1 := by simp [lowerB, toBs, ofBs, low1, Function.comp_def]
theorem low1_low (c : UInt8) : low1 (low1 c) = low1 c := by
  apply UInt8.toNat_inj.1
  have h1 := low1_toNat (low1 c)
  rw [low1_toNat c, lowI_low] at h1
  have h2 := low1_toNat c
  omega
theorem lowerB_low (s : Bs) : lowerB (lowerB s) = lowerB s := by
  rw [lowerB_map, lowerB_map, List.map_map]
  congr 1
  funext c
  exact low1_low c
theorem lowerB_cons (c : UInt8) (x : Bs) : lowerB (c :: x) = low1 c :: lowerB x := by simp [lowerB_map]
def findB : Bs → Bs → Option Nat
  | [], e => if e.isEmpty then some 0 else none
  | c :: r, e => if e.isPrefixOf (c :: r) then some 0 else (findB r e).map (· + 1)
theorem findB_index : ∀ (l e : Bs), Lib.index l e = match findB l e with | some k => (k : Int) | none => -1
  | [], e => by unfold Lib.index findB; split <;> rfl
  | c :: r, e => by
    unfold Lib.index findB
    split
    · rfl
    · rw [findB_index r e]
      cases findB r e with
      | none => rfl
      | some k =>
        have : ((k : Int) == -1) = false := by simp
        simp only [this, Option.map_some]
        simp
theorem findB_some : ∀ (l e : Bs) (k : Nat), findB l e = some k → k + e.length ≤ l.length ∧ (l.drop k).take e.length = e
  | [], e, k, h => by
    unfold findB at h
    split at h
    · rename_i he
      cases h
      have : e = [] := by simpa using he
      subst this
      simp
    · cases h
  | c :: r, e, k, h => by
    unfold findB at h
    split at h
    · rename_i hp
      cases h
      have := List.isPrefixOf_iff_prefix.1 hp
      refine ⟨by simpa using this.length_le, ?_⟩
      rw [List.drop_zero]
      exact (List.prefix_iff_eq_take.1 this).symm
    · cases hr : findB r e with
      | none => rw [hr] at h; cases h
      | some j =>
        rw [hr] at h
        cases h
        have := findB_some r e j hr
        simp only [List.length_cons, List.drop_succ_cons]
        exact ⟨by omega, this.2⟩
theorem findB_short : ∀ (l e : Bs), l.length < e.length → findB l e = none
  | [], e, h => by
    unfold findB
    rw [if_neg]
    intro he
    have : e = [] := by simpa using he
    subst this
    simp at h
  | c :: r, e, h => by
    unfold findB
    rw [if_neg, findB_short r e (by simp at h; omega)]
    · rfl
    · intro hp
      have := (List.isPrefixOf_iff_prefix.1 hp).length_le
      omega
theorem Cut_eq (V : Ev) (l e : Bs) (hl : l.length ≤ 100000) : strings_Cut_ V ((l, (e, ())), ()) = some ((match findB l e with | some k => (l.take k, (l.drop (k + e.length), (true, ()))) | none => (l, (([] : Bs), (false, ())))), ()) := by
  unfold strings_Cut_ istringslite_Cut_ istringslite_Index_ gIndex
  simp -implicitDefEqProofs only [show decide (l.length < 4294967281) = true from decide_eq_true (by omega), cond_true, Option.bind_some, findB_index l e]
  cases hf : findB l e with
  | none =>
    simp -implicitDefEqProofs only [show decide ((-1 : Int) ≥ 0) = false from rfl, cond_false, Option.bind_some]
  | some k =>
    obtain ⟨h1, h2⟩ := findB_some l e k hf
    have w : IntKind.wrap .i64 ((k : Int) + (e.length : Int)) = ((k + e.length : Nat) : Int) := by rw [wrap64 (by omega) (by omega)]; omega
    have s1 : sl l (0 : Int) (k : Int) = some (l.take k) := by have := sl_nat (l := l) (a := 0) (b := k) (by omega) (by omega); simpa using this
    have s2 : sl l ((k + e.length : Nat) : Int) (l.length : Int) = some (l.drop (k + e.length)) := sl_end h1
    simp -implicitDefEqProofs only [show decide ((k : Int) ≥ 0) = true from decide_eq_true (by omega), cond_true, w, s1, s2, Option.bind_some]
theorem findB_pre : ∀ (X e X' : Bs) (m : Nat), findB X e = some m → X.take (m + e.length) <+: X' → findB X' e = some m
  | [], e, X', m, h, hp => by
    unfold findB at h
    split at h
    · rename_i he
      cases h
      have : e = [] := by simpa using he
      subst this
      cases X' <;> rfl
    · cases h
  | c :: r, e, X', m, h, hp => by
    unfold findB at h
    split at h
    · rename_i he
      cases h
      have he := List.isPrefixOf_iff_prefix.1 he
      rw [Nat.zero_add, ← List.prefix_iff_eq_take.1 he] at hp
      cases X' with
      | nil => rw [List.prefix_nil.1 hp]; rfl
      | cons c' r' => unfold findB; rw [if_pos (List.isPrefixOf_iff_prefix.2 hp)]
    · rename_i he
      cases hr : findB r e with
      | none => rw [hr] at h; cases h
      | some j =>
        rw [hr] at h
        cases h
        have hs := (findB_some r e j hr).1
        rw [show j + 1 + e.length = (j + e.length) + 1 by omega, List.take_succ_cons] at hp
        cases X' with
        | nil => have := hp.length_le; simp at this
        | cons c' r' =>
          obtain ⟨rfl, hp2⟩ := List.cons_prefix_cons.1 hp
          have ih := findB_pre r e r' j hr hp2
          unfold findB
          rw [if_neg, ih]
          · rfl
          · intro hc
            have hc := List.isPrefixOf_iff_prefix.1 hc
            apply he
            rw [List.isPrefixOf_iff_prefix]
            have h2 : e <+: c :: r.take (j + e.length) := List.prefix_of_prefix_length_le hc (List.cons_prefix_cons.2 ⟨rfl, hp2⟩) (by simp; omega)
            exact h2.trans (List.cons_prefix_cons.2 ⟨rfl, List.take_prefix _ _⟩)
theorem findB_one : ∀ (x y : Bs) (c : UInt8), c ∉ x → findB (x ++ c :: y) [c] = some x.length
  | [], y, c, _ => by simp [findB, List.isPrefixOf]
  | d :: x, y, c, h => by
    rw [List.cons_append, findB, if_neg, findB_one x y c (fun hm => h (List.mem_cons_of_mem _ hm))]
    · rfl
    · intro hp
      have := List.isPrefixOf_iff_prefix.1 hp
      obtain ⟨e, _⟩ := List.cons_prefix_cons.1 this
      exact h (e ▸ List.mem_cons_self)
theorem findB_notin : ∀ (X : Bs) (c : UInt8) (m : Nat), findB X [c] = some m → c ∉ X.take m
  | [], c, m, h => by simp
  | d :: X, c, m, h => by
    unfold findB at h
    split at h
    · cases h; simp
    · rename_i hp
      cases hr : findB X [c] with
      | none => rw [hr] at h; cases h
      | some j =>
        rw [hr] at h
        cases h
        rw [List.take_succ_cons]
        intro hm
        rcases List.mem_cons.1 hm with h1 | h1
        · apply hp
          rw [h1]
          simp [List.isPrefixOf]
        · exact findB_notin X c j hr h1
theorem tw_mem {α : Type} {p : α → Bool} {x : α} : ∀ {l : List α}, x ∈ l.takeWhile p → p x = true
  | [], h => by cases h
  | a :: l, h => by
    rw [List.takeWhile_cons] at h
    split at h
    · rename_i ha
      rcases List.mem_cons.1 h with h | h
      · rw [h]; exact ha
      · exact tw_mem h
    · cases h
theorem dropWhile_head {p : UInt8 → Bool} : ∀ (l : Bs) (c : UInt8) (z : Bs), l.dropWhile p = c :: z → p c = false
  | [], c, z, h => by cases h
  | d :: l, c, z, h => by
    rw [List.dropWhile_cons] at h
    split at h
    · exact dropWhile_head l c z h
    · rename_i hd
      cases h
      simpa using hd
theorem HP_eq (V : Ev) (s p : Bs) (hs : s.length ≤ 1000000) (hp : p.length ≤ 1000) : strings_HasPrefix_ V ((s, (p, ())), ()) = some ((s.take p.length == p, ()), ()) := by
  unfold strings_HasPrefix_ istringslite_HasPrefix_
  by_cases h : p.length ≤ s.length
  · have c0 : (decide ((s.length : Int) ≥ (p.length : Int)) == true) = true := by rw [decide_eq_true (by omega)]; rfl
    have := sl_nat (l := s) (a := 0) (b := p.length) (by omega) h
    rw [List.drop_zero] at this
    simp -implicitDefEqProofs only [c0, cond_true, show (0 : Int) = ((0 : Nat) : Int) from rfl, this, Option.bind_some]
  · have c0 : (decide ((s.length : Int) ≥ (p.length : Int)) == true) = false := by rw [decide_eq_false (by omega)]; rfl
    have hne : (s.take p.length == p) = false := by
      rw [beq_eq_false_iff_ne]
      intro e
      have := congrArg List.length e
      simp at this
      omega
    simp -implicitDefEqProofs only [c0, cond_false, Option.bind_some, hne]
theorem CP_eq (V : Ev) (s p : Bs) (hs : s.length ≤ 1000000) (hp : p.length ≤ 1000) : strings_CutPrefix_ V ((s, (p, ())), ()) = some ((bif s.take p.length == p then (s.drop p.length, (true, ())) else (s, (false, ())), ()) : (Bs × Bool × Unit) × Unit) := by
  have q := HP_eq V s p hs hp
  unfold strings_HasPrefix_ at q
  unfold strings_CutPrefix_ istringslite_CutPrefix_
  cases hq : istringslite_HasPrefix_ V ((s, (p, ())), ()) with
  | none => simp only [hq] at q; cases q
  | some r =>
    simp only [hq, Option.bind_some, Option.some.injEq, Prod.mk.injEq, and_true] at q
    simp -implicitDefEqProofs only [Option.bind_some, q]
    cases hc : (s.take p.length == p) with
    | false => rfl
    | true =>
      have hl : p.length ≤ s.length := by
        have := congrArg List.length (beq_iff_eq.1 hc)
        simp at this
        omega
      have := sl_end (l := s) (a := p.length) hl
      simp -implicitDefEqProofs only [Bool.not_true, cond_false, cond_true, this, Option.bind_some]
end Go.En.Pl
