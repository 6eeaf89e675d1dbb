/- Text PE3 of this seat: written by a program of ours, or by hand; checked by Lean. -/
import Derived.Test.YtgenjkaccmjfkaaGreatDoorPE2
set_option linter.unusedSimpArgs false
set_option linter.unusedVariables false
namespace Go.En.Pl
/-! ### The law SourceEach -/
noncomputable def parO (w : Bs) : Option Src := if (parR w).2 = true then some (parR w).1 else none
noncomputable def parL (l : List Bs) : List Src := l.filterMap parO
theorem parO_some {w : Bs} {s : Src} (h : parO w = some s) : rightB s = true ∧ parP w = some s := by
  unfold parO parR at h
  cases hp : parP w with
  | none => rw [hp] at h; simp at h
  | some x =>
    rw [hp] at h
    simp only at h
    cases hr : rightB x with
    | false => rw [hr] at h; simp at h
    | true =>
      rw [hr, if_pos rfl] at h
      simp only [if_true, Option.some.injEq] at h
      subst h
      exact ⟨hr, rfl⟩
theorem parL_len (l : List Bs) : (parL l).length ≤ l.length := List.length_filterMap_le _ _
theorem List_eq (l : List Bs) (hl : l.length ≤ 100) (hw : ∀ w ∈ l, w.length ≤ 1000) : source_List_ (Ev.upto 200000) ((l, ()), ()) = some ((), (parL l, ())) := by
  apply wp_eq
  unfold source_List_
  refine wp_bind ?_
  refine wp_for (σ := Unit) (fun i _ => ((l, ((l.length : Int), ((i : Int), ()))), (parL (l.take i), ()))) (fun _ _ => True) l.length () rfl trivial (by omega) ?_
  rintro i _ hi _
  by_cases hi' : i < l.length
  · have c0 : decide ((i : Int) < (l.length : Int)) = true := decide_eq_true (by omega)
    have w : IntKind.wrap .i64 ((i : Int) + 1) = ((i + 1 : Nat) : Int) := by rw [wrap64 (by omega) (by omega)]; omega
    have q := Parse_eq l[i] (hw _ (List.getElem_mem hi'))
    have pl := parL_len (l.take i)
    have pl2 : (parL (l.take i)).length ≤ 100 := by simp at pl; omega
    have e : parL (l.take (i + 1)) = parL (l.take i) ++ (match parO l[i] with | some s => [s] | none => []) := by
      unfold parL
      rw [List.take_succ_eq_append_getElem hi', List.filterMap_append]
      congr 1
      rw [List.filterMap_cons]
      cases parO l[i] <;> rfl
    have hf : fits ((parL (l.take i)).length + ([(parR l[i]).1] : List Src).length) 88 = true := fits_of (by simp; omega)
    unfold parO at e
    simp -implicitDefEqProofs only [c0, cond_true, idx_nat hi', Option.bind_some, q]
    cases hr : (parR l[i]).2 with
    | true =>
      rw [hr, if_pos rfl] at e
      simp -implicitDefEqProofs only [cond_true, hf, Option.bind_some, w]
      exact ⟨_, rfl, hi', (), by rw [e], trivial⟩
    | false =>
      rw [hr, if_neg (by decide)] at e
      simp -implicitDefEqProofs only [cond_false, Option.bind_some, w]
      exact ⟨_, rfl, hi', (), by rw [e]; simp, trivial⟩
  · have c0 : decide ((i : Int) < (l.length : Int)) = false := decide_eq_false (by omega)
    have ht : l.take i = l := List.take_of_length_le (by omega)
    simp -implicitDefEqProofs only [c0, cond_false]
    refine ⟨_, rfl, ?_⟩
    simp only [ht]
    exact ⟨_, rfl, rfl⟩
theorem Big2_ok (l : List Bs) : wp (pounceref02_Big_ (Ev.upto 200000) ((l, ((20 : Int), ((800 : Int), ()))), ())) (fun o => ∃ b, o = ((b, ()), ()) ∧ (b = false → l.length ≤ 20 ∧ ∀ w ∈ l, w.length ≤ 800)) := by
  unfold pounceref02_Big_
  by_cases hl : (l.length : Int) > 20
  · rw [decide_eq_true hl]; exact ⟨_, rfl, true, rfl, fun h => by cases h⟩
  · rw [decide_eq_false hl, cond_false]
    refine wp_bind ?_
    refine wp_for (σ := Unit) (fun i _ => ((l, ((800 : Int), ((i : Int), ()))), ())) (fun i _ => ∀ w ∈ l.take i, w.length ≤ 800) l.length () rfl (by simp) (by omega) ?_
    rintro i _ hi hn
    by_cases hi' : i < l.length
    · have c0 : decide ((i : Int) < (l.length : Int)) = true := decide_eq_true (by omega)
      have w : IntKind.wrap .i64 ((i : Int) + 1) = ((i + 1 : Nat) : Int) := by rw [wrap64 (by omega) (by omega)]; omega
      simp -implicitDefEqProofs only [c0, cond_true, idx_nat hi', Option.bind_some]
      by_cases hb : ((l[i].length : Nat) : Int) > 800
      · rw [decide_eq_true hb]; exact ⟨_, rfl, _, rfl, true, rfl, fun h => by cases h⟩
      · rw [decide_eq_false hb]
        simp -implicitDefEqProofs only [cond_false, w]
        refine ⟨_, rfl, hi', (), rfl, fun x hx => ?_⟩
        rw [List.take_succ_eq_append_getElem hi'] at hx
        rcases List.mem_append.1 hx with hx | hx
        · exact hn x hx
        · rw [List.mem_singleton.1 hx]; omega
    · have c0 : decide ((i : Int) < (l.length : Int)) = false := decide_eq_false (by omega)
      rw [List.take_of_length_le (by omega)] at hn
      simp -implicitDefEqProofs only [c0, cond_false]
      exact ⟨_, rfl, _, rfl, false, rfl, fun _ => ⟨by omega, hn⟩⟩
theorem Same_eq (l : List Src) (hl : l.length ≤ 1000) : pounceref09_Same_ (Ev.upto 200000) ((l, (l, ())), ()) = some ((true, ()), ()) := by
  apply wp_eq
  unfold pounceref09_Same_
  rw [bne_self_eq_false, cond_false]
  refine wp_bind ?_
  refine wp_for (σ := Unit) (fun i _ => ((l, (l, ((i : Int), ()))), ())) (fun _ _ => True) l.length () rfl trivial (by omega) ?_
  rintro i _ hi _
  by_cases hi' : i < l.length
  · have c0 : decide ((i : Int) < (l.length : Int)) = true := decide_eq_true (by omega)
    have w : IntKind.wrap .i64 ((i : Int) + 1) = ((i + 1 : Nat) : Int) := by rw [wrap64 (by omega) (by omega)]; omega
    simp -implicitDefEqProofs only [c0, cond_true, idx_nat hi', Option.bind_some, beq_self_eq_true, Bool.and_self, Bool.not_true, cond_false, w]
    exact ⟨_, rfl, hi', (), rfl, trivial⟩
  · have c0 : decide ((i : Int) < (l.length : Int)) = false := decide_eq_false (by omega)
    simp -implicitDefEqProofs only [c0, cond_false]
    exact ⟨_, rfl, _, rfl, rfl⟩
theorem plainEach (a b : List Bs) : pouncelaw09_SourceEach_ (Ev.upto 200000) ((a, (b, ())), ()) = some ((true, ()), ()) := by
  apply wp_eq
  unfold pouncelaw09_SourceEach_
  obtain ⟨_, ea, ba, rfl, hba⟩ := Big2_ok a
  obtain ⟨_, eb, bb, rfl, hbb⟩ := Big2_ok b
  simp -implicitDefEqProofs only []
  rw [ea, eb]
  simp -implicitDefEqProofs only [Option.bind_some]
  cases ba with
  | true => exact ⟨_, rfl, rfl⟩
  | false =>
    cases bb with
    | true => exact ⟨_, rfl, rfl⟩
    | false =>
      obtain ⟨la, wa⟩ := hba rfl
      obtain ⟨lb, wb⟩ := hbb rfl
      have qa := List_eq a (by omega) (fun w hw => by have := wa w hw; omega)
      have qb := List_eq b (by omega) (fun w hw => by have := wb w hw; omega)
      have qab := List_eq (a ++ b) (by simp; omega) (fun w hw => by
        rcases List.mem_append.1 hw with hw | hw
        · have := wa w hw; omega
        · have := wb w hw; omega)
      have pa := parL_len a
      have pb := parL_len b
      have eab : parL (a ++ b) = parL a ++ parL b := List.filterMap_append
      have hall : ∀ s ∈ parL a, rightB s = true ∧ smallS s := fun s hs => by
        obtain ⟨w, hw, hp⟩ := List.mem_filterMap.1 hs
        obtain ⟨h1, h2⟩ := parO_some hp
        exact ⟨h1, parP_small (by have := wa w hw; omega) h2⟩
      rw [eab] at qab
      simp -implicitDefEqProofs only [beq_self_eq_true, cond_true, cond_false, Option.bind_some, qa]
      generalize parL a = l at *
      refine wp_bind ?_
      refine wp_for (σ := Unit) (fun i _ => ((a, (b, ((i : Int), ()))), (l, ()))) (fun _ _ => True) l.length () rfl trivial (by omega) ?_
      rintro i _ hi _
      by_cases hi' : i < l.length
      · have c0 : decide ((i : Int) < (l.length : Int)) = true := decide_eq_true (by omega)
        have c1 : (decide (0 ≤ (i : Int)) && decide ((i : Int) < (l.length : Int))) = true := by rw [c0, decide_eq_true (by omega)]; rfl
        have ii : l[((i : Nat) : Int).toNat]? = some l[i] := by rw [Int.toNat_natCast]; exact List.getElem?_eq_getElem hi'
        have w : IntKind.wrap .i64 ((i : Int) + 1) = ((i + 1 : Nat) : Int) := by rw [wrap64 (by omega) (by omega)]; omega
        obtain ⟨hr, hs⟩ := hall _ (List.getElem_mem hi')
        obtain ⟨hb, hbl⟩ := word_back hr
        have q1 := Print_eq l[i] hs
        rw [hr, cond_true] at q1
        have q2 := Parse_eq (wordB l[i]) hbl
        have hR : parR (wordB l[i]) = (l[i], true) := by
          unfold parR
          rw [hb]
          simp only
          rw [hr, if_pos rfl]
        rw [hR] at q2
        simp -implicitDefEqProofs only [c0, c1, cond_true, ii, Option.bind_some, q1, q2, Bool.not_true, beq_self_eq_true, Bool.and_self, cond_false, w]
        exact ⟨_, rfl, hi', (), by dsimp only; rw [w], trivial⟩
      · have c0 : decide ((i : Int) < (l.length : Int)) = false := decide_eq_false (by omega)
        have f1 : fits a.length 16 = true := fits_of (by omega)
        have f2 : fits (a.length + b.length) 16 = true := fits_of (by omega)
        have f3 : fits (l.length + (parL b).length) 88 = true := fits_of (by omega)
        have cl : decide ((l.length : Int) ≤ (a.length : Int)) = true := decide_eq_true (by omega)
        have qs := Same_eq (l ++ parL b) (by simp; omega)
        simp -implicitDefEqProofs only [c0, cond_false]
        refine ⟨_, rfl, ?_⟩
        simp -implicitDefEqProofs only [f1, f2, f3, cond_true, qb, Option.bind_some]
        rw [exw2]
        simp -implicitDefEqProofs only [Option.bind_some, beq_self_eq_true, cond_true, qa, cl, qab, qs]
        exact ⟨_, rfl, rfl⟩
end Go.En.Pl
