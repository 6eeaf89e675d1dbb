/- Text TE6 of this seat: written by a program of ours, or by hand; checked by Lean. -/
import Derived.Test.YtlambcopphejaaaGreatDoorTE5
set_option linter.unusedSimpArgs false
set_option linter.unusedVariables false
namespace Go.En.Pl
def rsignS (s : Bs) (i : Nat) (out : List Tok) (f : List Fl) : RSt :=
  if letterB (chr s (i + 1)) = true then rtagS s 2 i (i + 1) out f
  else if (chr s (i + 1) == 47 && letterB (chr s (i + 2))) = true then rtagS s 3 i (i + 2) out f
  else ((signS s i out f).1, [], (signS s i out f).2.1, (signS s i out f).2.2)
theorem rsign_eq (N : Nat) (s : Bs) (i : Nat) (out : List Tok) (f : List Fl) (hi : i < s.length) (hs : s.length ≤ 15000) (ho : okD out) (ho2 : out.length ≤ 900000000) (hf : f.length ≤ 300000000) (hN : s.length + 1 < N) (hN2 : 1000 < N) :
    pounceref14_Reader_sign_61a (Ev.upto N) ((), rcur s i [] out f) = some ((), rcur s (rsignS s i out f).1 (rsignS s i out f).2.1 (rsignS s i out f).2.2.1 (rsignS s i out f).2.2.2) := by
  have s0 : sl s ((i : Nat) : Int) (s.length : Int) = some (s.drop i) := sl_end (by omega)
  have w1 : IntKind.wrap .i64 ((i : Int) + 1) = ((i + 1 : Nat) : Int) := by rw [wrap64 (by omega) (by omega)]; omega
  have w2 : IntKind.wrap .i64 ((i : Int) + 2) = ((i + 2 : Nat) : Int) := by rw [wrap64 (by omega) (by omega)]; omega
  have w4 : IntKind.wrap .i64 ((i : Int) + 4) = ((i + 4 : Nat) : Int) := by rw [wrap64 (by omega) (by omega)]; omega
  have w9 : IntKind.wrap .i64 ((i : Int) + 9) = ((i + 9 : Nat) : Int) := by rw [wrap64 (by omega) (by omega)]; omega
  have q3 := begins_at N s [60, 33, 45, 45] i (by kernel_rfl) (by omega) (by decide) (by omega)
  have q4 := begins_at N s [60, 33, 100, 111, 99, 116, 121, 112, 101] i (by kernel_rfl) (by omega) (by decide) (by omega)
  have e47 : (((chr s (i + 1)).toNat : Int) == 47) = (chr s (i + 1) == 47) := byteEq _ 47 (by decide)
  have e33 : (((chr s (i + 1)).toNat : Int) == 33) = (chr s (i + 1) == 33) := byteEq _ 33 (by decide)
  have e63 : (((chr s (i + 1)).toNat : Int) == 63) = (chr s (i + 1) == 63) := byteEq _ 63 (by decide)
  have l1 := rletter_at (Ev.upto N) (chr s (i + 1))
  have l2 := rletter_at (Ev.upto N) (chr s (i + 2))
  have i1 : i + 1 < s.length → idx (s.drop i) (1 : Int) = some (chr s (i + 1)) := fun h => by
    have : (s.drop i)[1]? = some (chr s (i + 1)) := by rw [List.getElem?_drop, chr_eq h, List.getElem?_eq_getElem h]
    exact idx_some (n := 1) this
  have i2 : i + 2 < s.length → idx (s.drop i) (2 : Int) = some (chr s (i + 2)) := fun h => by
    have : (s.drop i)[2]? = some (chr s (i + 2)) := by rw [List.getElem?_drop, chr_eq h, List.getElem?_eq_getElem h]
    exact idx_some (n := 2) this
  have n1 : ¬ i + 1 < s.length → chr s (i + 1) = 32 := fun h => by unfold chr; rw [List.getElem?_eq_none (by omega)]; rfl
  have n2 : ¬ i + 2 < s.length → chr s (i + 2) = 32 := fun h => by unfold chr; rw [List.getElem?_eq_none (by omega)]; rfl
  unfold pounceref14_Reader_sign_61a rsignS
  simp -implicitDefEqProofs only [s0, Option.bind_some]
  have h1 : wp ((bif (decide (((s.drop i).length : Int) ≥ (2 : Int)) == true) then ((idx (s.drop i) (1 : Int)).bind fun v2 => ((pounceref14_letter_ (Ev.upto N) ((((v2).toNat : Int), ()), ())).bind fun v3 => (some ((s.drop i, (v3.1.1, ())), rcur s i [] out f)))) else (some ((s.drop i, (false, ())), rcur s i [] out f)) : Option ((Bs × Bool × Unit) × ((Bs × Int × Bs × Unit) × (List Tok) × (List Fl) × Unit)))) (fun o => o = ((s.drop i, (letterB (chr s (i + 1)), ())), rcur s i [] out f)) := by
    by_cases h : i + 1 < s.length
    · rw [show decide (((s.drop i).length : Int) ≥ (2 : Int)) = true from decide_eq_true (by simp; omega), i1 h]
      simp -implicitDefEqProofs only [beq_self_eq_true, cond_true, Option.bind_some, l1]
      exact ⟨_, rfl, rfl⟩
    · rw [show decide (((s.drop i).length : Int) ≥ (2 : Int)) = false from decide_eq_false (by simp; omega), n1 h]
      exact ⟨_, rfl, rfl⟩
  obtain ⟨_, e, rfl⟩ := h1
  rw [e]
  cases hl1 : letterB (chr s (i + 1)) with
  | true =>
    have q5 := rtag_eq N s 2 i (i + 1) out f (Or.inl rfl) (by omega) (by omega) hs ho2 (by omega) hN hN2
    rw [if_pos rfl]
    simp -implicitDefEqProofs only [Option.bind_some, cond_true, w1, q5]
  | false =>
    rw [if_neg (by decide)]
    simp -implicitDefEqProofs only [Option.bind_some, cond_false]
    have h2 : wp ((bif (decide (((s.drop i).length : Int) ≥ (3 : Int)) == true) then ((idx (s.drop i) (1 : Int)).bind fun v6 => (bif ((((v6).toNat : Int) == (47 : Int)) == true) then ((idx (s.drop i) (2 : Int)).bind fun v7 => ((pounceref14_letter_ (Ev.upto N) ((((v7).toNat : Int), ()), ())).bind fun v8 => (some ((s.drop i, (v8.1.1, ())), rcur s i [] out f)))) else (some ((s.drop i, (false, ())), rcur s i [] out f)))) else (some ((s.drop i, (false, ())), rcur s i [] out f)) : Option ((Bs × Bool × Unit) × ((Bs × Int × Bs × Unit) × (List Tok) × (List Fl) × Unit)))) (fun o => o = ((s.drop i, (chr s (i + 1) == 47 && letterB (chr s (i + 2)), ())), rcur s i [] out f)) := by
      by_cases h : i + 2 < s.length
      · rw [show decide (((s.drop i).length : Int) ≥ (3 : Int)) = true from decide_eq_true (by simp; omega), i1 (by omega), i2 h]
        simp -implicitDefEqProofs only [beq_self_eq_true, cond_true, Option.bind_some, l2, e47]
        cases (chr s (i + 1) == 47) with
        | true => exact ⟨_, rfl, rfl⟩
        | false => exact ⟨_, rfl, rfl⟩
      · rw [show decide (((s.drop i).length : Int) ≥ (3 : Int)) = false from decide_eq_false (by simp; omega), n2 h, show letterB 32 = false from by kernel_rfl, Bool.and_false]
        exact ⟨_, rfl, rfl⟩
    obtain ⟨_, e, rfl⟩ := h2
    rw [e]
    cases hl2 : (chr s (i + 1) == 47 && letterB (chr s (i + 2))) with
    | true =>
      have hlt := letter_lt (Bool.and_eq_true _ _ ▸ hl2 : _ ∧ _).2
      have q5 := rtag_eq N s 3 i (i + 2) out f (Or.inr rfl) (by omega) (by omega) hs ho2 (by omega) hN hN2
      rw [if_pos rfl]
      simp -implicitDefEqProofs only [Option.bind_some, cond_true, w2, q5]
    | false =>
      rw [if_neg (by decide)]
      have hsg : signS s i out f = if isB s i [60, 33, 45, 45] = true then noteS s 4 4 [45, 45, 62] i out f
          else if isB s i [60, 33, 100, 111, 99, 116, 121, 112, 101] = true then noteS s 5 9 [62] i out f
          else if (chr s (i + 1) == 33 || (chr s (i + 1) == 63 || chr s (i + 1) == 47)) = true then noteS s 4 2 [62] i out (f ++ [(141, (i : Int))])
          else (i + 1, tellS out (tx [60]), f ++ [(141, (i : Int))]) := by
        unfold signS
        rw [hl1, hl2, if_neg (by decide), if_neg (by decide)]
      rw [hsg]
      simp -implicitDefEqProofs only [Option.bind_some, cond_false, q3]
      cases h4 : isB s i [60, 33, 45, 45] with
      | true =>
        have hlt := isB_lt h4 (by omega)
        have q5 := rcomment_eq N s 4 4 [45, 45, 62] i out f (by simpa using hlt) hs (by decide) (by decide) (by decide) ho2 (by omega) hN
        rw [if_pos rfl]
        simp -implicitDefEqProofs only [cond_true, w4, q5, Option.bind_some]
      | false =>
        rw [if_neg (by decide)]
        simp -implicitDefEqProofs only [cond_false, Option.bind_some, q4]
        cases h5 : isB s i [60, 33, 100, 111, 99, 116, 121, 112, 101] with
        | true =>
          have hlt := isB_lt h5 (by omega)
          have q5 := rcomment_eq N s 5 9 [62] i out f (by simpa using hlt) hs (by decide) (by decide) (by decide) ho2 (by omega) hN
          rw [if_pos rfl]
          simp -implicitDefEqProofs only [cond_true, w9, q5, Option.bind_some]
        | false =>
          rw [if_neg (by decide)]
          simp -implicitDefEqProofs only [cond_false, Option.bind_some]
          have h6 : wp ((bif (decide (((s.drop i).length : Int) ≥ (2 : Int)) == true) then ((idx (s.drop i) (1 : Int)).bind fun v15 => (bif ((((v15).toNat : Int) == (33 : Int)) == false) then ((idx (s.drop i) (1 : Int)).bind fun v16 => (bif ((((v16).toNat : Int) == (63 : Int)) == false) then ((idx (s.drop i) (1 : Int)).bind fun v17 => (some (((((v17).toNat : Int) == (47 : Int)), ()), rcur s i [] out f))) else (some ((true, ()), rcur s i [] out f)))) else (some ((true, ()), rcur s i [] out f)))) else (some ((false, ()), rcur s i [] out f)) : Option ((Bool × Unit) × ((Bs × Int × Bs × Unit) × (List Tok) × (List Fl) × Unit)))) (fun o => o = (((chr s (i + 1) == 33 || (chr s (i + 1) == 63 || chr s (i + 1) == 47)), ()), rcur s i [] out f)) := by
            by_cases h : i + 1 < s.length
            · rw [show decide (((s.drop i).length : Int) ≥ (2 : Int)) = true from decide_eq_true (by simp; omega), i1 h]
              simp -implicitDefEqProofs only [beq_self_eq_true, cond_true, Option.bind_some, e33, e63, e47]
              cases (chr s (i + 1) == 33) <;> cases (chr s (i + 1) == 63) <;> exact ⟨_, rfl, rfl⟩
            · rw [show decide (((s.drop i).length : Int) ≥ (2 : Int)) = false from decide_eq_false (by simp; omega), n1 h]
              exact ⟨_, rfl, rfl⟩
          obtain ⟨_, e, rfl⟩ := h6
          rw [e]
          have q6 := rfail_eq (Ev.upto N) 141 (i : Int) s i [] out f (by omega)
          cases h7 : (chr s (i + 1) == 33 || (chr s (i + 1) == 63 || chr s (i + 1) == 47)) with
          | true =>
            have hlt : i + 1 < s.length := by
              rcases Bool.or_eq_true _ _ ▸ h7 with h | h
              · exact chr_lt (beq_iff_eq.1 h) (by decide)
              · rcases Bool.or_eq_true _ _ ▸ h with h | h
                · exact chr_lt (beq_iff_eq.1 h) (by decide)
                · exact chr_lt (beq_iff_eq.1 h) (by decide)
            have q5 := rcomment_eq N s 4 2 [62] i out (f ++ [(141, (i : Int))]) (by omega) hs (by decide) (by decide) (by decide) ho2 (by simp; omega) hN
            rw [if_pos rfl]
            simp -implicitDefEqProofs only [cond_true, Option.bind_some, q6, w2, q5]
          | false =>
            have q5 := rtextR_eq (Ev.upto N) [60] s i [] out (f ++ [(141, (i : Int))]) ho (by decide)
            rw [if_neg (by decide)]
            simp -implicitDefEqProofs only [cond_false, Option.bind_some, q6, q5, w1]
/-! ### A reference's state, and the program's -/
def flat (s : Bs) (x : RSt) : St := if x.2.1 = [] then (x.1, x.2.2.1, x.2.2.2) else rawS s x.2.1 x.1 x.2.2.1 x.2.2.2
theorem tag_flat (s : Bs) (k : Int) (fr i : Nat) (out : List Tok) (f : List Fl) : flat s (rtagS s k fr i out f) = tagS s k fr i out f := by
  unfold rtagS tagS flat
  cases tagL s k s.length (tagI s i) false [] [] with
  | none => rfl
  | some r =>
    obtain ⟨j, sh, l, g⟩ := r
    dsimp only
    cases hc : (k == 2 && rawN (tagN s i)) with
    | true =>
      have hr : rawN (tagN s i) = true := (Bool.and_eq_true _ _ ▸ hc : _ ∧ _).2
      have hne : ¬ tagN s i = [] := fun h => by rw [h] at hr; exact absurd hr (by decide)
      rw [if_pos rfl, if_pos rfl, if_neg hne]
    | false => rfl
theorem sign_flat (s : Bs) (i : Nat) (out : List Tok) (f : List Fl) : flat s (rsignS s i out f) = signS s i out f := by
  unfold rsignS
  by_cases h1 : letterB (chr s (i + 1)) = true
  · rw [if_pos h1, tag_flat]
    unfold signS
    rw [if_pos h1]
  · rw [if_neg h1]
    by_cases h2 : (chr s (i + 1) == 47 && letterB (chr s (i + 2))) = true
    · rw [if_pos h2, tag_flat]
      unfold signS
      rw [if_neg h1, if_pos h2]
    · rw [if_neg h2]
      rfl
def rgood (s : Bs) (x : RSt) : Prop := x.1 ≤ s.length ∧ okD x.2.2.1 ∧ x.2.2.2.length ≤ 300000000 ∧ (x.2.1 = [] ∨ (rawN x.2.1 = true ∧ lowerB x.2.1 = x.2.1 ∧ x.2.1.length ≤ 15000))
end Go.En.Pl
