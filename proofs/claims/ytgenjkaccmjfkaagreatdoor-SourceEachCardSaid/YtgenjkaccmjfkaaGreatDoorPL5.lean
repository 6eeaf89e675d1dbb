/- Text PL5 of this seat: written by a program of ours, or by hand; checked by Lean. -/
import Derived.Test.YtgenjkaccmjfkaaGreatDoorPL4
set_option linter.unusedSimpArgs false
set_option linter.unusedVariables false
namespace Go.En.Pl
/-! ### A word is parsed -/
def T9 : List Bs := [[], [39, 110, 111, 110, 101, 39], [39, 115, 101, 108, 102, 39], [39, 117, 110, 115, 97, 102, 101, 45, 105, 110, 108, 105, 110, 101, 39], [39, 117, 110, 115, 97, 102, 101, 45, 101, 118, 97, 108, 39], [39, 119, 97, 115, 109, 45, 117, 110, 115, 97, 102, 101, 45, 101, 118, 97, 108, 39], [39, 115, 116, 114, 105, 99, 116, 45, 100, 121, 110, 97, 109, 105, 99, 39], [39, 117, 110, 115, 97, 102, 101, 45, 104, 97, 115, 104, 101, 115, 39], [39, 114, 101, 112, 111, 114, 116, 45, 115, 97, 109, 112, 108, 101, 39]]
def kfold (low : Bs) : Nat → Int
  | 0 => 0
  | i + 1 => if ((T9[i]?).getD [] == low) = true then (i : Int) else kfold low i
noncomputable def quoS (w : Bs) : Src :=
  if (lowerB w).take 7 = [39, 110, 111, 110, 99, 101, 45] then (9, (w.dropLast.drop 7, zS.2.2)) else
  if (lowerB w).take 6 = [39, 109, 97, 114, 107, 45] then (10, (decW (w.dropLast.drop 6), zS.2.2)) else (kfold (lowerB w) 9, zS.2)
theorem decW_len (s : Bs) : (decW s).length ≤ s.length := by
  unfold decW
  have := decF_len (headB s) 0 0
  have := headB_len s
  split
  · simp
  · split
    · simp
    · split
      · omega
      · simp
theorem dropLast_sl {w : Bs} (h : w ≠ []) (hl : w.length ≤ 1000000) : sl w (0 : Int) (IntKind.wrap .i64 ((w.length : Int) - (1 : Int))) = some w.dropLast := by
  have hp : 0 < w.length := List.length_pos_iff.2 h
  rw [wrap64 (by omega) (by omega), show ((w.length : Int) - 1) = ((w.length - 1 : Nat) : Int) by omega]
  have := sl_nat (l := w) (a := 0) (b := w.length - 1) (by omega) (by omega)
  rw [List.drop_zero] at this
  rw [show (0 : Int) = ((0 : Nat) : Int) from rfl, this, List.dropLast_eq_take]
theorem quoted_eq (N : Nat) (w : Bs) (hw : w.length ≤ 1000) (h2 : w ≠ []) (hq : w.getLast? = some 39) (hN : 2000 < N) : source_cutter_quoted_2b7 (Ev.upto N) ((), (((zS, w), ()), ())) = some ((true, ()), (((quoS w, w), ()), ())) := by
  have hp : 0 < w.length := List.length_pos_iff.2 h2
  have ql := lower_eq N w (by omega) (by omega)
  have qs := dropLast_sl h2 (by omega)
  have q1 := HP_eq (Ev.upto N) (lowerB w) [39, 110, 111, 110, 99, 101, 45] (by rw [lowerB_length]; omega) (by simp)
  have q2 := HP_eq (Ev.upto N) (lowerB w) [39, 109, 97, 114, 107, 45] (by rw [lowerB_length]; omega) (by simp)
  -- a text that ends with a quote and begins with p is longer than p
  have long : ∀ p : Bs, (lowerB w).take p.length = p → p.getLast? ≠ some 39 → p ≠ [] → p.length ≤ w.dropLast.length := fun p hp2 hp3 hp4 => by
    have hl : p.length ≤ w.length := by
      have := congrArg List.length hp2
      rw [List.length_take, lowerB_length] at this
      omega
    rw [List.length_dropLast]
    rcases Nat.lt_or_ge p.length w.length with h | h
    · omega
    · exfalso
      apply hp3
      rw [← hp2, List.take_of_length_le (by rw [lowerB_length]; omega), lowerB_map, List.getLast?_map, hq]
      rfl
  apply wp_eq
  unfold source_cutter_quoted_2b7 quoS
  simp -implicitDefEqProofs only [ql, qs, q1, Option.bind_some]
  rw [show ([39, 110, 111, 110, 99, 101, 45] : Bs).length = 7 from rfl]
  by_cases h7 : (lowerB w).take 7 = [39, 110, 111, 110, 99, 101, 45]
  · have hl := long [39, 110, 111, 110, 99, 101, 45] h7 (by decide) (by simp)
    have s7 : sl w.dropLast (7 : Int) ((w.dropLast).length : Int) = some (w.dropLast.drop 7) := sl_end (l := w.dropLast) (a := 7) (by simpa using hl)
    rw [if_pos h7, show ((lowerB w).take 7 == ([39, 110, 111, 110, 99, 101, 45] : Bs)) = true from by simpa using h7]
    simp -implicitDefEqProofs only [cond_true, s7, Option.bind_some]
    exact ⟨_, rfl, rfl⟩
  · rw [if_neg h7, show ((lowerB w).take 7 == ([39, 110, 111, 110, 99, 101, 45] : Bs)) = false from by simpa using h7]
    simp -implicitDefEqProofs only [cond_false, q2, Option.bind_some]
    rw [show ([39, 109, 97, 114, 107, 45] : Bs).length = 6 from rfl]
    by_cases h6 : (lowerB w).take 6 = [39, 109, 97, 114, 107, 45]
    · have hl := long [39, 109, 97, 114, 107, 45] h6 (by decide) (by simp)
      have s6 : sl w.dropLast (6 : Int) ((w.dropLast).length : Int) = some (w.dropLast.drop 6) := sl_end (l := w.dropLast) (a := 6) (by simpa using hl)
      obtain ⟨_, qd, b, rfl⟩ := Decode_eq N (w.dropLast.drop 6) (by simp; omega) hN
      rw [if_pos h6, show ((lowerB w).take 6 == ([39, 109, 97, 114, 107, 45] : Bs)) = true from by simpa using h6]
      simp -implicitDefEqProofs only [cond_true, s6, Option.bind_some, qd]
      exact ⟨_, rfl, rfl⟩
    · rw [if_neg h6, show ((lowerB w).take 6 == ([39, 109, 97, 114, 107, 45] : Bs)) = false from by simpa using h6]
      simp -implicitDefEqProofs only [cond_false]
      generalize lowerB w = low
      refine wp_bind (wp_bind (wp_bind ?_))
      refine wp_for (σ := Unit) (fun i _ => ((low, ((([] : Bs), (([39, 110, 111, 110, 101, 39] : Bs), (([39, 115, 101, 108, 102, 39] : Bs), (([39, 117, 110, 115, 97, 102, 101, 45, 105, 110, 108, 105, 110, 101, 39] : Bs), (([39, 117, 110, 115, 97, 102, 101, 45, 101, 118, 97, 108, 39] : Bs), (([39, 119, 97, 115, 109, 45, 117, 110, 115, 97, 102, 101, 45, 101, 118, 97, 108, 39] : Bs), (([39, 115, 116, 114, 105, 99, 116, 45, 100, 121, 110, 97, 109, 105, 99, 39] : Bs), (([39, 117, 110, 115, 97, 102, 101, 45, 104, 97, 115, 104, 101, 115, 39] : Bs), ([39, 114, 101, 112, 111, 114, 116, 45, 115, 97, 109, 112, 108, 101, 39] : Bs))))))))), ((i : Int), ()))), ((((kfold low i, zS.2), w), ()), ()))) (fun _ _ => True) 9 () rfl trivial (by omega) ?_
      rintro i _ hi _
      by_cases hi' : i < 9
      · have c0 : decide ((i : Int) < (9 : Int)) = true := decide_eq_true (by omega)
        have w1 : IntKind.wrap .i64 ((i : Int) + 1) = ((i + 1 : Nat) : Int) := by rw [wrap64 (by omega) (by omega)]; omega
        have it : idx T9 (i : Int) = some ((T9[i]?).getD []) := by
          have hl : i < T9.length := hi'
          rw [idx_nat hl, List.getElem?_eq_getElem hl]
          rfl
        have hk : kfold low (i + 1) = if ((T9[i]?).getD [] == low) = true then (i : Int) else kfold low i := rfl
        generalize (T9[i]?).getD [] = v at it hk
        unfold T9 at it
        simp -implicitDefEqProofs only [c0, cond_true, it, Option.bind_some, w1]
        cases hc : (v == low) with
        | true =>
          rw [hc, if_pos rfl] at hk
          exact ⟨_, rfl, hi', (), by dsimp only; rw [hk, w1], trivial⟩
        | false =>
          rw [hc, if_neg (by decide)] at hk
          exact ⟨_, rfl, hi', (), by dsimp only; rw [hk, w1], trivial⟩
      · have c0 : decide ((i : Int) < (9 : Int)) = false := decide_eq_false (by omega)
        have : i = 9 := by omega
        subst this
        simp -implicitDefEqProofs only [c0, cond_false]
        exact ⟨_, rfl, _, rfl, _, rfl, _, rfl, rfl⟩
def firstC (w : Bs) : UInt8 := (w.head?).getD 0
def lastC (w : Bs) : UInt8 := (w.getLast?).getD 0
def qtB (w : Bs) : Bool := decide ((w.length : Int) > 1) && (firstC w == 39 && lastC w == 39)
noncomputable def parP (w : Bs) : Option Src :=
  if w = [] then none else if qtB w = true then some (quoS w) else if lastC w = 58 then some (11, (([] : Bs), (lowerB w.dropLast, zS.2.2.2))) else hostP w
noncomputable def parR (w : Bs) : Src × Bool := match parP w with
  | some s => if rightB s = true then (s, true) else (zS, false)
  | none => (zS, false)
theorem hostP_small {w : Bs} {s : Src} (hw : w.length ≤ 1000) (h : hostP w = some s) : smallS s := by
  unfold hostP schR at h
  have key : ∀ (sc r : Bs), sc.length ≤ 1000 → r.length ≤ 1000 → hostR sc r = some s → smallS s := fun sc r h1 h2 h3 => by
    unfold hostR at h3
    have hf : (r.takeWhile notSl).length ≤ r.length := (List.takeWhile_prefix _).length_le
    have hd : (r.dropWhile notSl).length ≤ r.length := (List.dropWhile_suffix _).length_le
    have hn : (numR (r.takeWhile notSl)).1.length ≤ 1000 := by
      unfold numR
      split
      · simp; omega
      · exact Nat.le_trans hf h2
    split at h3
    · cases h3
    · split at h3
      · cases h3
      · rename_i x hx
        cases h3
        refine ⟨by simp, h1, ?_, by show (r.dropWhile notSl).length ≤ 1000; omega⟩
        have hl := lowerB_length (numR (r.takeWhile notSl)).1
        show x.2.length ≤ 1000
        unfold starR at hx
        split at hx
        · cases hx; simp
        · split at hx
          · split at hx
            · cases hx
            · cases hx; simp; omega
          · cases hx; show (lowerB _).length ≤ 1000; omega
  cases hf : findB w [58, 47, 47] with
  | none =>
    rw [hf] at h
    exact key [] w (by simp) hw h
  | some k =>
    rw [hf] at h
    simp only at h
    by_cases h0 : k = 0
    · rw [if_pos h0] at h; cases h
    · rw [if_neg h0] at h
      exact key _ _ (by rw [lowerB_length]; simp; omega) (by simp; omega) h
theorem parP_small {w : Bs} {s : Src} (hw : w.length ≤ 1000) (h : parP w = some s) : smallS s := by
  unfold parP at h
  split at h
  · cases h
  · split at h
    · cases h
      unfold quoS
      split
      · exact ⟨by simp; omega, by simp [zS], by simp [zS], by simp [zS]⟩
      · split
        · refine ⟨?_, by simp [zS], by simp [zS], by simp [zS]⟩
          have := decW_len (w.dropLast.drop 6)
          simp only [List.length_drop, List.length_dropLast] at this
          show (decW (w.dropLast.drop 6)).length ≤ 1000
          omega
        · exact ⟨by simp [zS], by simp [zS], by simp [zS], by simp [zS]⟩
    · split at h
      · cases h
        exact ⟨by simp, by show (lowerB w.dropLast).length ≤ 1000; rw [lowerB_length]; simp; omega, by simp [zS], by simp [zS]⟩
      · exact hostP_small hw h
theorem Parse_eq (w : Bs) (hw : w.length ≤ 1000) : source_Parse_ (Ev.upto 200000) ((w, ()), ()) = some (((parR w).1, ((parR w).2, ())), ()) := by
  apply wp_eq
  have hsm : ∀ s, parP w = some s → smallS s := fun s h => parP_small hw h
  unfold source_Parse_ parR
  by_cases h0 : w = []
  · subst h0
    have : parP [] = none := by unfold parP; rw [if_pos rfl]
    rw [this]
    exact ⟨_, rfl, rfl⟩
  have c0 : (w == ([] : Bs)) = false := by simpa using h0
  have hp : 0 < w.length := List.length_pos_iff.2 h0
  have w1 : IntKind.wrap .i64 ((w.length : Int) - 1) = ((w.length - 1 : Nat) : Int) := by rw [wrap64 (by omega) (by omega)]; omega
  have iF : idx w (0 : Int) = some (firstC w) := by
    cases w with
    | nil => exact absurd rfl h0
    | cons c r => rfl
  have iL : idx w ((w.length - 1 : Nat) : Int) = some (lastC w) := by
    rw [idx_nat (by omega)]
    unfold lastC
    rw [List.getLast?_eq_getElem?, List.getElem?_eq_getElem (by omega)]
    rfl
  have eF : (((firstC w).toNat : Int) == 39) = (firstC w == 39) := byteZ _ 39 (by decide)
  have eL : (((lastC w).toNat : Int) == 39) = (lastC w == 39) := byteZ _ 39 (by decide)
  have e58 : (((lastC w).toNat : Int) == 58) = (lastC w == 58) := byteZ _ 58 (by decide)
  -- the end: what was cut is right, or not
  have fin : ∀ (ok : Bool) (c : Cut), (match parP w with | some s => ok = true ∧ c.1 = s | none => ok = false) →
      wp ((bif ((!ok) == false) then ((source_right_ (Ev.upto 200000) ((c.1, ()), ())).bind fun v12 => (some (((!v12.1.1), ()), ((zS, ()), ((c, ()), ()))))) else (some ((true, ()), ((zS, ()), ((c, ()), ())))) : Option ((Bool × Unit) × ((Src × Unit) × ((Cut × Unit) × Unit)))).bind fun o13 => (bif o13.1.1 then (some ((((0 : Int), (([] : Bs), (([] : Bs), (([] : Bs), (false, ((0 : Int), ([] : Bs))))))), (false, ())), ())) else (some ((o13.2.2.1.1.1, (true, ())), ())) : Option ((Src × Bool × Unit) × Unit)))
        (fun x => x = (((match parP w with | some s => if rightB s = true then (s, true) else (zS, false) | none => (zS, false)).1, ((match parP w with | some s => if rightB s = true then (s, true) else (zS, false) | none => (zS, false)).2, ())), ())) := by
    intro ok c h
    cases hpp : parP w with
    | none =>
      rw [hpp] at h
      have h : ok = false := h
      subst h
      exact ⟨_, rfl, rfl⟩
    | some s =>
      rw [hpp] at h
      obtain ⟨rfl, rfl⟩ := h
      have qr := right_eq c.1 (hsm _ hpp)
      simp -implicitDefEqProofs only [Bool.not_true, beq_self_eq_true, cond_true, qr, Option.bind_some]
      cases hr : rightB c.1 with
      | true => exact ⟨_, rfl, by rw [if_pos rfl]⟩
      | false => exact ⟨_, rfl, by rw [if_neg (by decide)]; rfl⟩
  simp -implicitDefEqProofs only [c0, Bool.not_false, Bool.not_true, cond_false, w1, iF, Option.bind_some, eF]
  have q : wp ((bif (decide (((w).length : Int) > (1 : Int)) == true) then (bif ((firstC w == 39) == true) then ((idx w ((w.length - 1 : Nat) : Int)).bind fun v2 => (some ((w, (true, ((((v2).toNat : Int) == (39 : Int)), ()))), ((zS, ()), (((zS, w), ()), ()))))) else (some ((w, (true, (false, ()))), ((zS, ()), (((zS, w), ()), ()))))) else (some ((w, (true, (false, ()))), ((zS, ()), (((zS, w), ()), ())))) : Option ((Bs × Bool × Bool × Unit) × ((Src × Unit) × ((Cut × Unit) × Unit))))) (fun o => o = ((w, (true, (qtB w, ()))), ((zS, ()), (((zS, w), ()), ())))) := by
    unfold qtB
    simp -implicitDefEqProofs only [iL, Option.bind_some, eL]
    cases decide (((w).length : Int) > (1 : Int)) <;> cases (firstC w == 39) <;> exact ⟨_, rfl, rfl⟩
  obtain ⟨_, e, e'⟩ := q
  unfold zS at e e'
  rw [e, e']
  simp -implicitDefEqProofs only [Option.bind_some]
  cases hq : qtB w with
  | true =>
    have hl : w.getLast? = some 39 := by
      unfold qtB at hq
      simp only [Bool.and_eq_true, beq_iff_eq] at hq
      have h3 := hq.2.2
      unfold lastC at h3
      cases hg : w.getLast? with
      | none => rw [hg] at h3; cases h3
      | some c => rw [hg] at h3; simp at h3; rw [h3]
    have qq := quoted_eq 200000 w hw h0 hl (by decide)
    have hpp : parP w = some (quoS w) := by unfold parP; rw [if_neg h0, if_pos hq]
    unfold zS at qq
    simp -implicitDefEqProofs only [cond_true, qq, Option.bind_some]
    exact fin true (quoS w, w) (by rw [hpp]; exact ⟨rfl, rfl⟩)
  | false =>
    simp -implicitDefEqProofs only [cond_false, w1, iL, Option.bind_some, e58]
    cases h58 : (lastC w == 58) with
    | true =>
      have hpp : parP w = some (11, (([] : Bs), (lowerB w.dropLast, zS.2.2.2))) := by unfold parP; rw [if_neg h0, if_neg (by rw [hq]; decide), if_pos (by simpa using h58)]
      have qs := dropLast_sl h0 (by omega)
      rw [w1] at qs
      have ql := lower_eq 200000 w.dropLast (by simp; omega) (by simp; omega)
      simp -implicitDefEqProofs only [cond_true, qs, Option.bind_some, ql]
      exact fin true ((11, (([] : Bs), (lowerB w.dropLast, zS.2.2.2))), w) (by rw [hpp]; exact ⟨rfl, rfl⟩)
    | false =>
      have hpp : parP w = hostP w := by unfold parP; rw [if_neg h0, if_neg (by rw [hq]; decide), if_neg (by simpa using h58)]
      obtain ⟨o, qo, b, c, rfl, hb⟩ := host_word 200000 w hw (by decide)
      unfold zS at qo
      simp -implicitDefEqProofs only [cond_false]
      rw [qo]
      simp -implicitDefEqProofs only [Option.bind_some]
      exact fin b c (by rw [hpp]; exact hb)
end Go.En.Pl
