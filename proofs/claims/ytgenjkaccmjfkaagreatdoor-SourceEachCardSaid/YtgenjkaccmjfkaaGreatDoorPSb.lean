/- Text PSb of this seat: written by a program of ours, or by hand; checked by Lean. -/
import Derived.Test.YtgenjkaccmjfkaaGreatDoorPSa
set_option linter.unusedSimpArgs false
set_option linter.unusedVariables false
namespace Go.En.Pl
theorem exw2 : pouncelaw09_words_ (Ev.upto 200000) ((), ()) = some ((true, ()), ()) := by kernel_rfl
def wordB (s : Src) : Bs :=
  bif s.1 == 9 then [39, 110, 111, 110, 99, 101, 45] ++ s.2.1 ++ [39] else bif s.1 == 10 then [39, 109, 97, 114, 107, 45] ++ encW s.2.1 ++ [39]
  else bif s.1 == 11 then s.2.2.1 ++ [58] else bif s.1 == 12 then prS s else keptO s.1
theorem encW_len : ∀ (n : Nat) (s : Bs), s.length ≤ n → (encW s).length ≤ 4 * s.length
  | 0, s, h => by
    have : s = [] := List.length_eq_zero_iff.1 (by omega)
    subst this; simp [encW]
  | n + 1, s, h => by
    match s, h with
    | [], _ => simp [encW]
    | [a], _ => simp [encW, enc4]
    | [a, b], _ => simp [encW, enc4]
    | a :: b :: c :: r, h =>
      have := encW_len n r (by simp at h; omega)
      simp [encW, enc4]
      omega
theorem Print_eq (s : Src) (h : smallS s) : source_Print_ (Ev.upto 200000) ((s, ()), ()) = some (((bif rightB s then wordB s else []), (rightB s, ())), ()) := by
  have q := right_eq s h
  have q12 := printed_eq s h (Ev.upto 200000)
  unfold source_Print_
  simp -implicitDefEqProofs only [q, Option.bind_some]
  cases hr : rightB s with
  | false => rfl
  | true =>
    simp -implicitDefEqProofs only [Bool.not_true, cond_false, cond_true]
    unfold wordB
    obtain ⟨k, tx, sc, ho, wi, po, pa⟩ := s
    obtain ⟨h1, h2, h3, h4⟩ := h
    simp only at h1 h2 h3 h4 ⊢
    cases e9 : (k == 9) with
    | true =>
      have g1 := strFits_of (show ([39, 110, 111, 110, 99, 101, 45] : Bs).length + tx.length ≤ 100000000 by simp; omega)
      have g2 := strFits_of (show (([39, 110, 111, 110, 99, 101, 45] : Bs) ++ tx).length + ([39] : Bs).length ≤ 100000000 by simp; omega)
      simp -implicitDefEqProofs only [cond_true, g1, g2]
    | false =>
      cases e10 : (k == 10) with
      | true =>
        have hl : tx.length = 16 := by
          unfold rightB at hr
          simp only [e9, e10, cond_false, cond_true, Bool.and_eq_true, beq_iff_eq] at hr
          omega
        have qe := Encode_eq 200000 tx (by omega) (by omega) (by decide)
        have el := encW_len _ tx (Nat.le_refl _)
        have g1 := strFits_of (show ([39, 109, 97, 114, 107, 45] : Bs).length + (encW tx).length ≤ 100000000 by simp; omega)
        have g2 := strFits_of (show (([39, 109, 97, 114, 107, 45] : Bs) ++ encW tx).length + ([39] : Bs).length ≤ 100000000 by simp; omega)
        simp -implicitDefEqProofs only [cond_false, cond_true, qe, Option.bind_some, g1, g2]
      | false =>
        cases e11 : (k == 11) with
        | true =>
          have g1 := strFits_of (show sc.length + ([58] : Bs).length ≤ 100000000 by simp; omega)
          simp -implicitDefEqProofs only [cond_false, cond_true, g1]
        | false =>
          cases e12 : (k == 12) with
          | true => simp -implicitDefEqProofs only [cond_false, cond_true, q12, Option.bind_some]
          | false =>
            have hk : keptB k = true := by
              unfold rightB at hr
              simp only [e9, e10, e11, e12, cond_false, Bool.and_eq_true] at hr
              exact hr.1
            have hk2 := hk
            unfold keptB at hk
            simp only [Bool.and_eq_true, decide_eq_true_eq] at hk
            have qi : idx tabl0 k = some (keptO k) := by
              have : k = 1 ∨ k = 2 ∨ k = 3 ∨ k = 4 ∨ k = 5 ∨ k = 6 ∨ k = 7 ∨ k = 8 := by omega
              rcases this with rfl | rfl | rfl | rfl | rfl | rfl | rfl | rfl <;> (show _ = _; kernel_rfl)
            simp -implicitDefEqProofs only [cond_false, qi, Option.bind_some]
theorem rWord_eq (s : Src) (h : smallS s) (hr : rightB s = true) : pounceref09_Word_ (Ev.upto 200000) ((s, ()), ()) = some ((wordB s, ()), ()) := by
  unfold pounceref09_Word_ wordB
  obtain ⟨k, tx, sc, ho, wi, po, pa⟩ := s
  obtain ⟨h1, h2, h3, h4⟩ := h
  simp only at h1 h2 h3 h4 ⊢
  cases e9 : (k == 9) with
  | true =>
    have g1 := strFits_of (show ([39, 110, 111, 110, 99, 101, 45] : Bs).length + tx.length ≤ 100000000 by simp; omega)
    have g2 := strFits_of (show (([39, 110, 111, 110, 99, 101, 45] : Bs) ++ tx).length + ([39] : Bs).length ≤ 100000000 by simp; omega)
    simp -implicitDefEqProofs only [cond_true, g1, g2]
  | false =>
    cases e10 : (k == 10) with
    | true =>
      have hl : tx.length = 16 := by
        unfold rightB at hr
        simp only [e9, e10, cond_false, cond_true, Bool.and_eq_true, beq_iff_eq] at hr
        omega
      have qe := rEncode_eq tx hl
      have el := encW_len _ tx (Nat.le_refl _)
      have g1 := strFits_of (show ([39, 109, 97, 114, 107, 45] : Bs).length + (encW tx).length ≤ 100000000 by simp; omega)
      have g2 := strFits_of (show (([39, 109, 97, 114, 107, 45] : Bs) ++ encW tx).length + ([39] : Bs).length ≤ 100000000 by simp; omega)
      simp -implicitDefEqProofs only [cond_false, cond_true, qe, Option.bind_some, g1, g2]
    | false =>
      cases e11 : (k == 11) with
      | true =>
        have g1 := strFits_of (show sc.length + ([58] : Bs).length ≤ 100000000 by simp; omega)
        simp -implicitDefEqProofs only [cond_false, cond_true, g1]
      | false =>
        cases e12 : (k == 12) with
        | false =>
          have q := rkept_eq (Ev.upto 200000) k
          simp -implicitDefEqProofs only [cond_false, q, Option.bind_some]
        | true =>
          have hpo : po ≤ 65535 := by
            unfold rightB at hr
            simp only [e9, e10, e11, e12, cond_false, cond_true] at hr
            unfold hostS at hr
            simp only [Bool.and_eq_true, decide_eq_true_eq] at hr
            exact hr.2.2.2.2.1
          have l1 := hdP_len sc
          have l2 := wiP_len wi ho
          have l3 := poP_len po
          apply wp_eq
          simp -implicitDefEqProofs only [cond_false, cond_true]
          unfold prS
          simp only
          have a1 : wp ((bif (!(sc == ([] : Bs))) then (bif strFits ((sc).length + (([58, 47, 47] : Bs)).length) then (some (((sc ++ ([58, 47, 47] : Bs)), ()), (((k, (tx, (sc, (ho, (wi, (po, pa)))))), ()), ()))) else none) else (some ((([] : Bs), ()), (((k, (tx, (sc, (ho, (wi, (po, pa)))))), ()), ()))) : Option ((Bs × Unit) × (Src × Unit) × Unit))) (fun o => o = ((hdP sc, ()), (((k, (tx, (sc, (ho, (wi, (po, pa)))))), ()), ()))) := by
            have g := strFits_of (show sc.length + ([58, 47, 47] : Bs).length ≤ 100000000 by simp; omega)
            rw [g]
            unfold hdP
            cases (sc == ([] : Bs)) <;> exact ⟨_, rfl, rfl⟩
          obtain ⟨_, e1, rfl⟩ := a1
          rw [e1]
          have g1 := strFits_of (show (hdP sc).length + ([42] : Bs).length ≤ 100000000 by simp; omega)
          have g2 := strFits_of (show (hdP sc ++ [42]).length + ([46] : Bs).length ≤ 100000000 by simp; omega)
          have bb : ∀ {α β γ : Type} (x : Option α) (f : α → Option β) (g : β → Option γ), (x.bind fun y => (f y).bind g) = (x.bind f).bind g := fun x f g => by cases x <;> rfl
          have hgo : ∀ (R : ((Bs × Unit) × (Src × Unit) × Unit) → Option ((Bs × Unit) × Unit)) (Q : ((Bs × Unit) × Unit) → Prop), wp (R ((hdP sc ++ wiP wi ho, ()), (((k, (tx, (sc, (ho, (wi, (po, pa)))))), ()), ()))) Q →
              wp ((bif wi then (bif strFits ((hdP sc).length + (([42] : Bs)).length) then (some (((hdP sc ++ ([42] : Bs)), ()), (((k, (tx, (sc, (ho, (wi, (po, pa)))))), ()), ()))) else none) else (some ((hdP sc, ()), (((k, (tx, (sc, (ho, (wi, (po, pa)))))), ()), ()))) : Option ((Bs × Unit) × (Src × Unit) × Unit)).bind fun o3 => ((bif (o3.2.1.1.2.2.2.2.1 == true) then (some ((o3.1.1, ((!(o3.2.1.1.2.2.2.1 == ([] : Bs))), ())), ((o3.2.1.1, ()), ()))) else (some ((o3.1.1, (false, ())), ((o3.2.1.1, ()), ()))) : Option ((Bs × Bool × Unit) × (Src × Unit) × Unit)).bind fun o4 => ((bif o4.1.2.1 then (bif strFits ((o4.1.1).length + (([46] : Bs)).length) then (some (((o4.1.1 ++ ([46] : Bs)), ()), ((o4.2.1.1, ()), ()))) else none) else (some ((o4.1.1, ()), ((o4.2.1.1, ()), ()))) : Option ((Bs × Unit) × (Src × Unit) × Unit)).bind R))) Q := by
            intro R Q hR
            unfold wiP at hR
            cases wi with
            | false => simpa using hR
            | true =>
              simp only [cond_true] at hR
              simp -implicitDefEqProofs only [cond_true, g1, Option.bind_some, beq_self_eq_true]
              cases hh : (ho == ([] : Bs)) with
              | true =>
                rw [hh] at hR
                simpa using hR
              | false =>
                rw [hh] at hR
                simp -implicitDefEqProofs only [Bool.not_false, cond_true, g2, Option.bind_some]
                rw [List.append_assoc]
                exact hR
          refine hgo _ _ ?_
          have g3 := strFits_of (show (hdP sc ++ wiP wi ho).length + ho.length ≤ 100000000 by simp; omega)
          simp -implicitDefEqProofs only [g3, cond_true]
          unfold poP
          by_cases hp : po < 0
          · have g4 := strFits_of (show (hdP sc ++ wiP wi ho ++ ho).length + ([58, 42] : Bs).length ≤ 100000000 by simp; omega)
            have g5 := strFits_of (show (hdP sc ++ wiP wi ho ++ ho ++ [58, 42]).length + pa.length ≤ 100000000 by simp; omega)
            have d1 : decide (po < 0) = true := decide_eq_true hp
            have d2 : decide (po > 0) = false := decide_eq_false (by omega)
            simp -implicitDefEqProofs only [d1, d2, cond_true, cond_false, g4, Option.bind_some, g5]
            exact ⟨_, rfl, rfl⟩
          · have d1 : decide (po < 0) = false := decide_eq_false hp
            by_cases hp0 : po > 0
            · have hd := digs_len 20 po.toNat
              have qd := rdigits_eq 200000 po (by omega) hpo (by decide)
              have g4 := strFits_of (show (hdP sc ++ wiP wi ho ++ ho).length + ([58] : Bs).length ≤ 100000000 by simp; omega)
              have g5 := strFits_of (show (hdP sc ++ wiP wi ho ++ ho ++ [58]).length + (digs 20 po.toNat).length ≤ 100000000 by simp; omega)
              have g6 := strFits_of (show (hdP sc ++ wiP wi ho ++ ho ++ [58] ++ digs 20 po.toNat).length + pa.length ≤ 100000000 by simp; omega)
              have d2 : decide (po > 0) = true := decide_eq_true hp0
              simp -implicitDefEqProofs only [d1, d2, cond_true, cond_false, g4, qd, Option.bind_some, g5, g6]
              exact ⟨_, rfl, by simp⟩
            · have g4 := strFits_of (show (hdP sc ++ wiP wi ho ++ ho).length + pa.length ≤ 100000000 by simp; omega)
              have d2 : decide (po > 0) = false := decide_eq_false hp0
              simp -implicitDefEqProofs only [d1, d2, cond_false, Option.bind_some, g4, cond_true]
              exact ⟨_, rfl, by simp⟩
theorem Big_ok (s : Src) : wp (pounceref09_Big_ (Ev.upto 200000) ((([s] : List Src), ()), ())) (fun o => ∃ b, o = ((b, ()), ()) ∧ (b = false → smallS s)) := by
  unfold pounceref09_Big_
  rw [show decide (((([s] : List Src).length : Nat) : Int) > 50) = false from rfl, cond_false]
  refine wp_bind ?_
  refine wp_for (σ := Unit) (fun i _ => ((([s] : List Src), ((i : Int), ())), ())) (fun i _ => 0 < i → smallS s) 1 () rfl (by simp) (by decide) ?_
  rintro i _ hi hn
  by_cases hi' : i < 1
  · have hi0 : i = 0 := by omega
    subst hi0
    have c0 : decide (((0 : Nat) : Int) < ((([s] : List Src).length : Nat) : Int)) = true := rfl
    have i0 : idx ([s] : List Src) ((0 : Nat) : Int) = some s := rfl
    have w : IntKind.wrap .i64 (((0 : Nat) : Int) + 1) = ((0 + 1 : Nat) : Int) := by decide
    simp -implicitDefEqProofs only [c0, cond_true, i0, Option.bind_some]
    by_cases b1 : ((s.2.1.length : Nat) : Int) > 500
    · rw [decide_eq_true b1]; exact ⟨_, rfl, _, rfl, true, rfl, fun h => by cases h⟩
    · rw [decide_eq_false b1]
      by_cases b2 : ((s.2.2.1.length : Nat) : Int) > 500
      · rw [decide_eq_true b2]; exact ⟨_, rfl, _, rfl, true, rfl, fun h => by cases h⟩
      · rw [decide_eq_false b2]
        by_cases b3 : ((s.2.2.2.1.length : Nat) : Int) > 500
        · rw [decide_eq_true b3]; exact ⟨_, rfl, _, rfl, true, rfl, fun h => by cases h⟩
        · rw [decide_eq_false b3]
          by_cases b4 : ((s.2.2.2.2.2.2.length : Nat) : Int) > 500
          · rw [decide_eq_true b4]; exact ⟨_, rfl, _, rfl, true, rfl, fun h => by cases h⟩
          · rw [decide_eq_false b4]
            simp -implicitDefEqProofs only [beq_self_eq_true, cond_true, cond_false, Option.bind_some, w]
            exact ⟨_, rfl, hi', (), rfl, fun _ => ⟨by omega, by omega, by omega, by omega⟩⟩
  · have hi1 : i = 1 := by omega
    subst hi1
    have c0 : decide (((1 : Nat) : Int) < ((([s] : List Src).length : Nat) : Int)) = false := rfl
    simp -implicitDefEqProofs only [c0, cond_false]
    exact ⟨_, rfl, _, rfl, false, rfl, fun _ => hn (by decide)⟩
theorem plainPrints (s : Src) : pouncelaw09_SourcePrints_ (Ev.upto 200000) ((s, ()), ()) = some ((true, ()), ()) := by
  apply wp_eq
  unfold pouncelaw09_SourcePrints_
  obtain ⟨_, e, b, rfl, hb⟩ := Big_ok s
  simp -implicitDefEqProofs only []
  rw [e]
  cases b with
  | true => exact ⟨_, rfl, rfl⟩
  | false =>
    have h := hb rfl
    have q1 := Print_eq s h
    have q2 := rright_eq s h
    have q3 := exw2
    have q4 : pounceref09_Print_ (Ev.upto 200000) ((s, ()), ()) = some (((bif rightB s then wordB s else []), (rightB s, ())), ()) := by
      unfold pounceref09_Print_
      simp -implicitDefEqProofs only [q2, Option.bind_some]
      cases hr : rightB s with
      | false => rfl
      | true =>
        have q5 := rWord_eq s h hr
        simp -implicitDefEqProofs only [Bool.not_true, cond_false, cond_true, q5, Option.bind_some]
    simp -implicitDefEqProofs only [Option.bind_some, cond_false, q1, q4]
    rw [q3]
    simp -implicitDefEqProofs only [Option.bind_some, beq_self_eq_true, cond_true]
    exact ⟨_, rfl, rfl⟩
end Go.En.Pl
