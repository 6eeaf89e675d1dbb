/- Text OB of this seat: written by a program of ours, or by hand; checked by Lean. -/
import Derived.Test.YtadpiodjbcjlcaaOA
set_option linter.unusedVariables false
set_option linter.unusedSimpArgs false
namespace Go.En.Pl
/-! -/
abbrev TN : Ty := .pair (.int .i64) (.pair .str (.pair .str (.pair (.slice 61 (.pair .str .str)) (.pair (.int .i64) (.pair (.slice 3 (.int .i64)) (.pair .bool .bool))))))
theorem cloneA (l : List At) (h : l.length ≤ 4000) : slices_Clone__api_Attr_api_Attr_ (Ev.upto 5000) ((l, ()), ()) = some ((), (l, ())) := by
  cases l with
  | nil => rfl
  | cons a l =>
    unfold slices_Clone__api_Attr_api_Attr_
    simp only [List.isEmpty_cons, Bool.not_false, cond_true, List.length_nil, Nat.zero_add, fitsS (show (a :: l).length ≤ 10000 by omega) (show 32 ≤ 1000 by omega), List.nil_append]
theorem cloneI (l : List Int) (h : l.length ≤ 4000) : slices_Clone__int_int_ (Ev.upto 5000) ((l, ()), ()) = some ((), (l, ())) := by
  cases l with
  | nil => rfl
  | cons a l =>
    unfold slices_Clone__int_int_
    simp only [List.isEmpty_cons, Bool.not_false, cond_true, List.length_nil, Nat.zero_add, fitsS (show (a :: l).length ≤ 10000 by omega) (show 8 ≤ 1000 by omega), List.nil_append]
theorem cloneN (l : List Nd) (h : l.length ≤ 4000) : slices_Clone__api_Node_api_Node_ (Ev.upto 5000) ((l, ()), ()) = some ((), (l, ())) := by
  cases l with
  | nil => rfl
  | cons a l =>
    unfold slices_Clone__api_Node_api_Node_
    simp only [List.isEmpty_cons, Bool.not_false, cond_true, List.length_nil, Nat.zero_add, fitsS (show (a :: l).length ≤ 10000 by omega) (show 104 ≤ 1000 by omega), List.nil_append]
theorem lnum0 (i : Nat) : lnum TN i 0 = 2 * i := by show i * 2 + 0 = 2 * i; omega
theorem lnum3 (i : Nat) : lnum TN i 3 = 2 * i := by show i * 2 + 0 = 2 * i; omega
theorem lnum5 (i : Nat) : lnum TN i 5 = 2 * i + 1 := by show i * 2 + 1 = 2 * i + 1; omega
theorem nslTN : Ty.nsl TN = 2 := rfl
theorem setSelf {α : Type} {l : List α} {i : Nat} (h : i < l.length) : l.set i l[i] = l := by
  apply List.ext_getElem?
  intro j
  rw [List.getElem?_set]
  by_cases e : i = j
  · subst e
    rw [if_pos rfl, if_pos h, List.getElem?_eq_getElem h]
  · rw [if_neg e]
theorem getN {l : List Nd} {i : Nat} (hi : i < l.length) : l[((i : Nat) : Int).toNat]? = some l[i] := by
  rw [Int.toNat_natCast]
  exact List.getElem?_eq_getElem hi
theorem copied (d : List Nd) (h : Sm d) : dom_copied_ (Ev.upto 5000) ((d, ()), ()) = some ((), (d, ())) := by
  unfold dom_copied_
  simp only [cloneN d h.1, Option.bind_some]
  refine it_listB (l := d) (σ := Unit) (fun i _ => (((d.length : Int), ((i : Int), ())), ((), ((), ((2 * i, d), ()))))) (fun _ _ _ => .inl ()) (fun _ => ((), ((), ((), ((2 * d.length, d), ()))))) (fun _ _ => True) () rfl trivial (by have := h.1; omega) (fun i s hi _ => ⟨?_, fun _ _ => trivial⟩) (fun s _ => ?_) (by rw [foldL_all _ _ _ _ (fun _ _ => rfl)]; simp only [nslTN, beq_self_eq_true, cond_true])
  · have hm := h.2 _ (List.getElem_mem hi)
    have := h.1
    have e1 : d.set ((i : Nat) : Int).toNat (d[i].1, (d[i].2.1, (d[i].2.2.1, (d[i].2.2.2.1, d[i].2.2.2.2)))) = d := setSelf hi
    have e2 : d.set ((i : Nat) : Int).toNat (d[i].1, (d[i].2.1, (d[i].2.2.1, (d[i].2.2.2.1, (d[i].2.2.2.2.1, (d[i].2.2.2.2.2.1, d[i].2.2.2.2.2.2)))))) = d := setSelf hi
    simp only [lenLt, decide_eq_true hi, cond_true, decide_eq_true (show (0 : Int) ≤ (i : Int) by omega), Bool.and_self, getN hi, Option.bind_some, lnum0, lnum3, lnum5, Nat.le_refl, decide_true, beq_self_eq_true, cloneA _ hm.1, cloneI _ hm.2, e1, e2, wrapS (show i < 1000000 by omega)]
    simp only [Int.toNat_natCast, Nat.le_refl, decide_true, beq_self_eq_true, cond_true]
    rfl
  · simp only [lenLt, Nat.lt_irrefl, decide_false, cond_false]
def mkN (n : Nd) : Nd := (n.1, (n.2.1, (n.2.2.1, (n.2.2.2.1, ((-1 : Int), (([] : List Int), n.2.2.2.2.2.2))))))
noncomputable def mk (d : List Nd) (n : Nd) : Int × Int × List Nd := if chk d = 0 then (if (!mayB n || n.1 == 1) = true then (0, 1, []) else if 300 ≤ d.length then (0, 2, []) else ((d.length : Int), 0, d ++ [mkN n])) else (0, chk d, [])
theorem geLen (n k : Nat) : decide ((n : Int) ≥ (k : Int)) = decide (k ≤ n) := by
  by_cases h : k ≤ n
  · rw [decide_eq_true h, decide_eq_true (by omega)]
  · rw [decide_eq_false h, decide_eq_false (by omega)]
theorem ge300 (n : Nat) : decide ((n : Int) ≥ 300) = decide (300 ≤ n) := geLen n 300
theorem domMake (d : List Nd) (n : Nd) (h : Sm d) (h1 : n.2.2.2.1.length ≤ 4000) : dom_Make_ (Ev.upto 5000) ((d, (n, ())), ()) = some (((mk d n).1, ((mk d n).2.1, ())), ((mk d n).2.2, ())) := by
  unfold dom_Make_ mk
  simp only [domCheck d h, domMay n h1, Option.bind_some]
  by_cases hc : chk d = 0
  · simp only [hc, bne_self_eq_false, cond_false, if_true]
    cases hm : mayB n with
    | false => rfl
    | true =>
      simp only [Bool.not_true, beq_self_eq_true, cond_true, Option.bind_some, Bool.false_or]
      cases hk : (n.1 == (1 : Int)) with
      | true => rfl
      | false =>
        simp only [cond_false, ge300, Bool.false_eq_true, if_false]
        by_cases hl : 300 ≤ d.length
        · simp only [decide_eq_true hl, cond_true, if_pos hl]
          rfl
        · simp only [decide_eq_false hl, cond_false, if_neg hl, Option.bind_some, hc, bne_self_eq_false, cloneA _ h1, copied d h, fitsS (show d.length + ([mkN n] : List Nd).length ≤ 10000 by simp; omega) (show 104 ≤ 1000 by omega)]
          have e := fitsS (show d.length + ([mkN n] : List Nd).length ≤ 10000 by simp; omega) (show 104 ≤ 1000 by omega)
          unfold mkN at e ⊢
          simp only [e, cond_true]
          rw [wrap64 (by simp <;> omega) (by simp <;> omega)]
          simp
  · rw [if_neg hc]
    simp only [bne_iff_ne.2 hc, cond_true, Option.bind_some]
theorem refMake (d : List Nd) (n : Nd) (h : Sm d) (h1 : n.2.2.2.1.length ≤ 4000) (h2 : n.2.2.2.2.2.1.length ≤ 4000) : pounceref16_Make_ (Ev.upto 5000) ((d, (n, ())), ()) = some (((mk d n).1, ((mk d n).2.1, ())), ((mk d n).2.2, ())) := by
  unfold pounceref16_Make_ mk
  simp only [refCheck d h, refMay n h1, Option.bind_some]
  by_cases hc : chk d = 0
  · simp only [hc, bne_self_eq_false, cond_false, if_true]
    cases hm : mayB n with
    | false => rfl
    | true =>
      simp only [Bool.not_true, beq_self_eq_true, cond_true, Option.bind_some, Bool.false_or]
      cases hk : (n.1 == (1 : Int)) with
      | true => rfl
      | false =>
        simp only [cond_false, ge300, Bool.false_eq_true, if_false]
        by_cases hl : 300 ≤ d.length
        · simp only [decide_eq_true hl, cond_true, if_pos hl]
        · simp only [decide_eq_false hl, cond_false, if_neg hl, Option.bind_some, ownNode n h1 h2, own d h]
          have e := fitsS (show d.length + ([mkN n] : List Nd).length ≤ 10000 by simp; omega) (show 104 ≤ 1000 by omega)
          unfold mkN at e ⊢
          simp only [e, cond_true]
  · rw [if_neg hc]
    simp only [bne_iff_ne.2 hc, cond_true, Option.bind_some]
end Go.En.Pl
