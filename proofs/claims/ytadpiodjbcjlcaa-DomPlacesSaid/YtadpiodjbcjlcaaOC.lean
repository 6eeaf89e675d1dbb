/- Text OC of this seat: written by a program of ours, or by hand; checked by Lean. -/
import Derived.Test.YtadpiodjbcjlcaaOB
set_option linter.unusedVariables false
set_option linter.unusedSimpArgs false
namespace Go.En.Pl
/-! -/
theorem smSet {l : List Nd} (h : Sm l) (i : Nat) {n : Nd} (h1 : n.2.2.2.1.length ≤ 4000) (h2 : n.2.2.2.2.2.1.length ≤ 4000) : Sm (l.set i n) := by
  refine ⟨by simpa using h.1, fun m hm => ?_⟩
  rcases List.mem_or_eq_of_mem_set hm with hm | rfl
  · exact h.2 m hm
  · exact ⟨h1, h2⟩
theorem getSet {α : Type} {l : List α} {i : Nat} (x : α) (h : i < l.length) : (l.set i x)[i]? = some x := by
  rw [List.getElem?_set, if_pos rfl, if_pos h]
theorem smudge (l : List Nd) (h : Sm l) : wp (pouncelaw16_smudge_af3 (Ev.upto 5000) ((), (l, ()))) (fun _ => True) := by
  unfold pouncelaw16_smudge_af3
  refine wp_seq (fun _ => True) ?_ (fun x _ => wp_some trivial)
  refine wp_for (fun i (l' : List Nd) => ((((i : Int), ()), (l', ((), ()))))) (fun _ l' => Sm l' ∧ l'.length = l.length) l.length l rfl ⟨h, rfl⟩ (by have := h.1; omega) (fun i l1 hi hI => ?_)
  obtain ⟨h1, hl1⟩ := hI
  have h40 := h.1
  simp only [hl1, lenLt]
  refine wp_dec (fun hlt => ?_) (fun _ => wp_some trivial)
  refine wp_seq (fun o => ∃ l2, o = ((((i : Int), ()), (l2, ((), ())))) ∧ Sm l2 ∧ l2.length = l.length) ?_ ?_
  · refine wp_for (fun k (l' : List Nd) => ((((i : Int), ((k : Int), ())), (l', ((), ()))))) (fun _ l' => Sm l' ∧ l'.length = l.length ∧ ∃ n : Nd, l'[i]? = some n ∧ n.2.2.2.1.length = (l1[i]'(by omega)).2.2.2.1.length) (l1[i]'(by omega)).2.2.2.1.length l1 rfl ⟨h1, hl1, _, List.getElem?_eq_getElem (by omega), rfl⟩ (by have := (h1.2 _ (List.getElem_mem (show i < l1.length by omega))).1; omega) (fun k l2 hk hI => ?_)
    obtain ⟨h2, hl2, n, hn, hnl⟩ := hI
    have hm := h2.2 n (List.mem_of_getElem? hn)
    simp only [hl2, lenLt, decide_eq_true hlt, decide_eq_true (show (0 : Int) ≤ (i : Int) by omega), Bool.and_self, cond_true, Int.toNat_natCast, hn, Option.bind_some, Option.elim_some]
    refine wp_dec (fun hk2 => ?_) (fun _ => wp_some ⟨l2, rfl, h2, hl2⟩)
    simp only [decide_eq_true hk2, decide_eq_true (show (0 : Int) ≤ (k : Int) by omega), Bool.and_self, cond_true, List.getElem?_eq_getElem hk2, Option.bind_some, wrapS (show k < 1000000 by omega)]
    refine wp_some ⟨by omega, _, rfl, smSet h2 i (by simpa using hm.1) hm.2, by simpa using hl2, _, getSet _ (by omega), by simpa using hnl⟩
  · rintro _ ⟨l2, rfl, h2, hl2⟩
    refine wp_seq (fun o => ∃ l3, o = ((((i : Int), ()), (l3, ((), ())))) ∧ Sm l3 ∧ l3.length = l.length) ?_ ?_
    · refine wp_for (fun k (l' : List Nd) => ((((i : Int), ((k : Int), ())), (l', ((), ()))))) (fun _ l' => Sm l' ∧ l'.length = l.length ∧ ∃ n : Nd, l'[i]? = some n ∧ n.2.2.2.2.2.1.length = (l2[i]'(by omega)).2.2.2.2.2.1.length) (l2[i]'(by omega)).2.2.2.2.2.1.length l2 rfl ⟨h2, hl2, _, List.getElem?_eq_getElem (by omega), rfl⟩ (by have := (h2.2 _ (List.getElem_mem (show i < l2.length by omega))).2; omega) (fun k l3 hk hI => ?_)
      obtain ⟨h3, hl3, n, hn, hnl⟩ := hI
      have hm := h3.2 n (List.mem_of_getElem? hn)
      simp only [hl3, lenLt, decide_eq_true hlt, decide_eq_true (show (0 : Int) ≤ (i : Int) by omega), Bool.and_self, cond_true, Int.toNat_natCast, hn, Option.bind_some, Option.elim_some]
      refine wp_dec (fun hk2 => ?_) (fun _ => wp_some ⟨l3, rfl, h3, hl3⟩)
      simp only [decide_eq_true hk2, decide_eq_true (show (0 : Int) ≤ (k : Int) by omega), Bool.and_self, cond_true, List.getElem?_eq_getElem hk2, Option.bind_some, wrapS (show k < 1000000 by omega)]
      refine wp_some ⟨by omega, _, rfl, smSet h3 i hm.1 (by simpa using hm.2), by simpa using hl3, _, getSet _ (by omega), by simpa using hnl⟩
    · rintro _ ⟨l3, rfl, h3, hl3⟩
      have hi3 : i < l3.length := by omega
      have hm := h3.2 _ (List.getElem_mem hi3)
      simp only [hl3, lenLt, decide_eq_true hlt, decide_eq_true (show (0 : Int) ≤ (i : Int) by omega), Bool.and_self, cond_true, Int.toNat_natCast, List.getElem?_eq_getElem hi3, Option.bind_some, wrapS (show i < 1000000 by omega)]
      exact wp_some ⟨hlt, _, rfl, smSet h3 i hm.1 hm.2, by simpa using hl3⟩
theorem smMk {d : List Nd} {n : Nd} (h : Sm d) (h1 : n.2.2.2.1.length ≤ 40) : Sm (mk d n).2.2 := by
  unfold mk
  have h0 : Sm [] := ⟨by simp, by simp⟩
  by_cases hc : chk d = 0
  · rw [if_pos hc]
    cases (!mayB n || n.1 == 1) with
    | true => exact h0
    | false =>
      rw [if_neg (by simp)]
      by_cases hl : 300 ≤ d.length
      · rw [if_pos hl]; exact h0
      · rw [if_neg hl]
        refine ⟨by simp; omega, fun m hm => ?_⟩
        rcases List.mem_append.1 hm with hm | hm
        · exact h.2 m hm
        · obtain rfl := List.mem_singleton.1 hm
          exact ⟨by show n.2.2.2.1.length ≤ 4000; omega, by show ([] : List Int).length ≤ 4000; simp⟩
  · rw [if_neg hc]; exact h0
theorem plainDomMakes (d : List Nd) (n : Nd) : pouncelaw16_DomMakes_ (Ev.upto 5000) ((d, (n, ())), ()) = some ((true, ()), ()) := by
  unfold pouncelaw16_DomMakes_
  obtain ⟨b, hb, hk⟩ := big d
  obtain ⟨c, hc, hkc⟩ := bigNode n
  simp only [hb, hc, Option.bind_some]
  cases b with
  | true => rfl
  | false =>
    simp only [beq_self_eq_true, cond_true, Option.bind_some]
    cases c with
    | true => rfl
    | false =>
      have hs := (hk rfl).sm
      have hn := hkc rfl
      unfold NdOk at hn
      have h1 : n.2.2.2.1.length ≤ 4000 := by omega
      have h2 : n.2.2.2.2.2.1.length ≤ 4000 := by omega
      obtain ⟨o, ho, -⟩ := smudge (mk d n).2.2 (smMk hs hn.2.2.1)
      simp only [cond_false, own d hs, ownNode n h1 h2, Option.bind_some, domMake d n hs h1]
      rw [refMake d n hs h1 h2]
      simp only [Option.bind_some, beq_self_eq_true, cond_true, sameRefl _ (smMk hs hn.2.2.1), ho, sameRefl d hs]
      rw [laysOk]
      simp only [Option.bind_some, beq_self_eq_true, cond_true]
      rw [oneRefl n h1 h2]
      rfl
end Go.En.Pl
