/- Text OD of this seat: written by a program of ours, or by hand; checked by Lean. -/
import Derived.Test.YtadpiodjbcjlcaaOC
set_option linter.unusedVariables false
set_option linter.unusedSimpArgs false
namespace Go.En.Pl
/-! -/
theorem firstE (a b : Int) : dom_first_api_Errno_ (Ev.upto 5000) ((([a, b] : List Int), ()), ()) = some ((if a = 0 then b else a, ()), ()) := by
  unfold dom_first_api_Errno_
  refine it_listB (l := ([a, b] : List Int)) (σ := Unit) (fun i _ => (((0 : Int), (([a, b] : List Int), (((([a, b] : List Int).length : Nat) : Int), ((i : Int), ())))), ())) (fun _ x _ => if (x != 0) = true then .inr (.inr ((x, ()), ())) else .inl ()) (fun _ => .inl (((0 : Int), ()), ())) (fun _ _ => True) () rfl trivial (by simp) (fun i s hi _ => ⟨?_, fun _ _ => trivial⟩) (fun s _ => ?_) ?_
  · have hi2 : i < 2 := by simpa using hi
    simp only [lenLt, decide_eq_true hi, cond_true, idx_nat hi, Option.bind_some, wrapS (show i < 1000000 by omega)]
    cases h : (([a, b] : List Int)[i] != 0) <;> rfl
  · simp only [lenLt, Nat.lt_irrefl, decide_false, cond_false]
  · unfold foldL foldL foldL
    by_cases ha : a = 0
    · subst ha
      by_cases hb : b = 0
      · subst hb; rfl
      · simp only [bne_self_eq_false, Bool.false_eq_true, if_false, bne_iff_ne.2 hb, if_true]
    · simp only [bne_iff_ne.2 ha, if_true, if_neg ha]
def setA (l : List At) (nm v : Bs) : List At := match l[(fnd l nm).toNat]? with
  | some a => if fnd l nm = -1 then l ++ [(nm, v)] else l.set (fnd l nm).toNat (a.1, v)
  | none => l ++ [(nm, v)]
def setN (n : Nd) (nm v : Bs) : Nd := (n.1, (n.2.1, (n.2.2.1, (setA n.2.2.2.1 nm v, n.2.2.2.2))))
noncomputable def sets (d : List Nd) (x : Int) (nm v : Bs) : Int × List Nd := if chk d = 0 then (match idx d x with
  | some n => if n.1 = 2 then (if fnd n.2.2.2.1 nm = -1 ∧ 30 ≤ n.2.2.2.1.length then (2, []) else (0, d.set x.toNat (setN n nm v))) else (170, [])
  | none => (170, [])) else (chk d, [])
theorem neg1 : decide ((-1 : Int) < 0) = true := rfl
theorem neg1' : decide ((-1 : Int) ≥ 0) = false := rfl
theorem nge (n : Nat) : decide ((n : Int) ≥ 0) = true := decide_eq_true (by omega)
theorem ge30 (n : Nat) : decide ((n : Int) ≥ 30) = decide (30 ≤ n) := geLen n 30
theorem setA_neg {l : List At} {nm v : Bs} (h : fnd l nm = -1) : setA l nm v = l ++ [(nm, v)] := by
  unfold setA
  cases l[(fnd l nm).toNat]? with
  | none => rfl
  | some a => exact if_pos h
theorem setA_pos {l : List At} {nm v : Bs} {j : Nat} (hj : j < l.length) (h : fnd l nm = (j : Int)) : setA l nm v = l.set j (l[j].1, v) := by
  unfold setA
  simp only [h, Int.toNat_natCast, List.getElem?_eq_getElem hj]
  exact if_neg (by omega)
theorem thr_false {d : List Nd} {x : Int} (h : ¬ In' d x) : thr d x = false := by
  cases ht : thr d x with
  | false => rfl
  | true => exact absurd (thr_iff.1 ht).2 h
theorem thr_false' {d : List Nd} {x : Int} (h : chk d ≠ 0) : thr d x = false := by
  cases ht : thr d x with
  | false => rfl
  | true => exact absurd (chk0.2 (thr_iff.1 ht).1) h
theorem idx_none {α : Type} {l : List α} {x : Int} (h : ¬ (0 ≤ x ∧ x < l.length)) : idx l x = none := by
  cases hx : idx l x with
  | none => rfl
  | some n => exact absurd ⟨(idx_some hx).1, (idx_some hx).2.1⟩ h
theorem domSet (d : List Nd) (x : Int) (nm v : Bs) (h : Sm d) : dom_Set_ (Ev.upto 5000) ((d, (x, (nm, (v, ())))), ()) = some (((sets d x nm v).1, ()), ((sets d x nm v).2, ())) := by
  unfold dom_Set_ sets
  simp only [domCheck d h, there d x h, Option.bind_some]
  by_cases hc : chk d = 0
  · rw [if_pos hc]
    by_cases hx : In' d x
    · obtain ⟨n, hn, hg⟩ := idx_ge hx.1 hx.2
      have hm := h.2 n (List.mem_of_getElem? hg)
      have hp : dom_place_ (Ev.upto 5000) (((n.1, (n.2.1, (n.2.2.1, (n.2.2.2.1, (n.2.2.2.2.1, (n.2.2.2.2.2.1, n.2.2.2.2.2.2)))))), (nm, ())), ()) = some ((fnd n.2.2.2.1 nm, ()), ()) := place n nm hm.1
      have hlt : x.toNat < d.length := (List.getElem?_eq_some_iff.1 hg).1
      simp only [thr_iff.2 ⟨chk0.1 hc, hx⟩, beq_self_eq_true, cond_true, hn, Option.bind_some, dom_node_, hc]
      by_cases h2 : n.1 = 2
      · simp only [h2, beq_self_eq_true, cond_true, Option.bind_some, firstE, if_true, bne_self_eq_false, cond_false, copied d h, decide_eq_true hx.1, decide_eq_true hx.2, Bool.and_self, hg, Option.elim_some]
        rw [h2] at hp
        simp only [hp, Option.bind_some]
        rcases fnd_cases n.2.2.2.1 nm with ⟨e, _⟩ | ⟨j, hj, e, _⟩
        · simp only [e, neg1, beq_self_eq_true, cond_true, ge30, true_and]
          by_cases h30 : 30 ≤ n.2.2.2.1.length
          · simp only [decide_eq_true h30, cond_true, if_pos h30]
            rw [firstE 0 0]
            rfl
          · have hl : n.2.2.2.1.length < (n.2.2.2.1 ++ [((nm, ([] : Bs)) : At)]).length := by simp
            have hl' : decide (((n.2.2.2.1.length : Nat) : Int) < ((n.2.2.2.1 ++ [((nm, ([] : Bs)) : At)]).length : Int)) = true := decide_eq_true (by omega)
            have hgl : (n.2.2.2.1 ++ [((nm, ([] : Bs)) : At)])[n.2.2.2.1.length]? = some (nm, []) := by simp
            have hst : (n.2.2.2.1 ++ [((nm, ([] : Bs)) : At)]).set n.2.2.2.1.length (nm, v) = n.2.2.2.1 ++ [(nm, v)] := by simp
            simp only [decide_eq_false h30, cond_false, if_neg h30, fitsS (show n.2.2.2.1.length + [((nm, ([] : Bs)) : At)].length ≤ 10000 by simp; omega) (show 32 ≤ 1000 by omega), cond_true, beq_self_eq_true, getSet _ hlt, Option.bind_some, Option.elim_some, decide_eq_true (show (0 : Int) ≤ ((n.2.2.2.1.length : Nat) : Int) by omega), hl', Bool.and_self, Int.toNat_natCast, hgl, hst, List.set_set]
            unfold setN
            rw [setA_neg e, h2, firstE 0 0]
            rfl
        · rw [if_neg (by rintro ⟨e', _⟩; omega)]
          simp only [e, nneg, Bool.false_beq, cond_false, Bool.not_true, decide_eq_true (show (0 : Int) ≤ (j : Int) by omega), decide_eq_true (show ((j : Nat) : Int) < (n.2.2.2.1.length : Int) by omega), Bool.and_self, cond_true, Int.toNat_natCast, List.getElem?_eq_getElem hj, Option.bind_some]
          unfold setN
          rw [setA_pos hj e, h2, firstE 0 0]
          rfl
      · simp only [beq_eq_false_iff_ne.2 h2, cond_false, Option.bind_some, if_neg h2]
        rw [firstE 0 170]
        rfl
    · simp only [thr_false hx, Bool.false_beq, Bool.not_true, cond_false, dom_node_, Option.bind_some, hc, idx_none hx]
      rw [firstE 0 170]
      rfl
  · rw [if_neg hc]
    simp only [thr_false' hc, Bool.false_beq, Bool.not_true, cond_false, dom_node_, Option.bind_some]
    rw [firstE (chk d) 170]
    simp only [if_neg hc, bne_iff_ne.2 hc, Option.bind_some, cond_true]
theorem refSet (d : List Nd) (x : Int) (nm v : Bs) (h : Sm d) : pounceref16_Set_ (Ev.upto 5000) ((d, (x, (nm, (v, ())))), ()) = some (((sets d x nm v).1, ()), ((sets d x nm v).2, ())) := by
  unfold pounceref16_Set_ sets
  simp only [refCheck d h, Option.bind_some]
  by_cases hc : chk d = 0
  · rw [if_pos hc]
    simp only [hc, bne_self_eq_false, cond_false]
    by_cases hx : In' d x
    · obtain ⟨n, hn, hg⟩ := idx_ge hx.1 hx.2
      have hm := h.2 n (List.mem_of_getElem? hg)
      have hp : pounceref16_find_ (Ev.upto 5000) (((n.1, (n.2.1, (n.2.2.1, (n.2.2.2.1, (n.2.2.2.2.1, (n.2.2.2.2.2.1, n.2.2.2.2.2.2)))))), (nm, ())), ()) = some ((fnd n.2.2.2.1 nm, ()), ()) := find n nm hm.1
      have hlt : x.toNat < d.length := (List.getElem?_eq_some_iff.1 hg).1
      simp only [decide_eq_false (show ¬ x < 0 by have := hx.1; omega), decide_eq_false (show ¬ x ≥ (d.length : Int) by have := hx.2; omega), beq_self_eq_true, cond_true, hn, Option.bind_some]
      by_cases h2 : n.1 = 2
      · simp only [h2, bne_self_eq_false, cond_false, own d h, Option.bind_some, if_true, decide_eq_true hx.1, decide_eq_true hx.2, Bool.and_self, cond_true, hg, Option.elim_some]
        rw [h2] at hp
        simp only [hp, Option.bind_some]
        rcases fnd_cases n.2.2.2.1 nm with ⟨e, _⟩ | ⟨j, hj, e, _⟩
        · simp only [e, neg1', cond_false, ge30, true_and]
          by_cases h30 : 30 ≤ n.2.2.2.1.length
          · simp only [decide_eq_true h30, cond_true, if_pos h30]
          · simp only [decide_eq_false h30, cond_false, if_neg h30, fitsS (show n.2.2.2.1.length + [((nm, v) : At)].length ≤ 10000 by simp; omega) (show 32 ≤ 1000 by omega), cond_true, beq_self_eq_true]
            unfold setN
            rw [setA_neg e, h2]
        · rw [if_neg (by rintro ⟨e', _⟩; omega)]
          simp only [e, nge, cond_true, decide_eq_true (show (0 : Int) ≤ (j : Int) by omega), decide_eq_true (show ((j : Nat) : Int) < (n.2.2.2.1.length : Int) by omega), Bool.and_self, cond_true, Int.toNat_natCast, List.getElem?_eq_getElem hj, Option.bind_some]
          unfold setN
          rw [setA_pos hj e, h2]
      · simp only [bne_iff_ne.2 h2, cond_true, if_neg h2]
    · rw [idx_none hx]
      by_cases h0 : x < 0
      · simp only [decide_eq_true h0, Bool.true_beq, cond_false, Option.bind_some, cond_true]
      · have h1 : x ≥ (d.length : Int) := by unfold In' at hx; omega
        simp only [decide_eq_false h0, decide_eq_true h1, beq_self_eq_true, Bool.true_beq, cond_false, Option.bind_some, cond_true]
  · rw [if_neg hc]
    simp only [bne_iff_ne.2 hc, cond_true]
end Go.En.Pl
