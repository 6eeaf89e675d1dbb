/- Text TB7 of this seat: written by a program of ours, or by hand; checked by Lean. -/
import Derived.Test.YtlambcopphejaaaGreatDoorTB6
set_option linter.unusedSimpArgs false
set_option linter.unusedVariables false
namespace Go.En.Pl
theorem Same2_eq (N : Nat) (l : List Tok) (hl : l.length < N) (hb : l.length ≤ 1000000000) (h : ∀ t ∈ l, t.2.2.2.1.length ≤ 4000) (hN : 4000 < N) : pounceref14_Same_ (Ev.upto N) ((l, (l, ())), ()) = some ((true, ()), ()) := by
  apply wp_eq
  unfold pounceref14_Same_
  have cz : ((l.length : Int) != (l.length : Int)) = false := by simp
  simp -implicitDefEqProofs only [cz, cond_false]
  refine wp_bind ?_
  refine wp_for (σ := Unit) (fun i _ => ((l, (l, ((i : Int), ()))), ())) (fun i _ => True) l.length () rfl trivial (by omega) ?_
  rintro i _ hi _
  by_cases hi' : i < l.length
  · have c0 : decide ((i : Int) < (l.length : Int)) = true := decide_eq_true (by omega)
    have w : IntKind.wrap .i64 ((i : Int) + 1) = ((i + 1 : Nat) : Int) := by rw [wrap64 (by omega) (by omega)]; omega
    have q := One_eq N l[i] (h _ (List.getElem_mem hi')) hN
    simp -implicitDefEqProofs only [c0, cond_true, idx_nat hi', Option.bind_some, w, q, Bool.not_true, cond_false]
    exact ⟨_, rfl, hi', (), rfl, trivial⟩
  · have c0 : decide ((i : Int) < (l.length : Int)) = false := decide_eq_false (by omega)
    simp -implicitDefEqProofs only [c0, cond_false]
    exact ⟨_, rfl, _, rfl, rfl⟩
theorem run_full {s : Bs} (hs : s.length ≤ 2500) : ∀ (n : Nat) (st : St), Inv s st → s.length - st.1 ≤ n → (runS s n st).1 = s.length
  | 0, st, h, hn => by
    have := h.le
    show st.1 = s.length
    omega
  | n + 1, st, h, hn => by
    rw [runS]
    split
    · rename_i hi
      have := step_inv (by omega) hi h
      exact run_full hs n _ this.1 (by omega)
    · have := h.le
      omega
theorem plainBack (s : Bs) : pouncelaw14_TokenBack_ (Ev.upto 200000000) ((s, ()), ()) = some ((true, ()), ()) := by
  apply wp_eq
  unfold pouncelaw14_TokenBack_
  by_cases hs : 2500 < s.length
  · rw [show decide ((s.length : Int) > 2500) = true from decide_eq_true (by omega)]
    exact ⟨_, rfl, rfl⟩
  · rw [show decide ((s.length : Int) > 2500) = false from decide_eq_false (by omega), cond_false]
    have hs' : s.length ≤ 2500 := by omega
    have q0 := Tokens_eq 200000000 s (by omega) (by decide)
    have hI := run_inv hs' s.length _ (inv0 s)
    have hlen : (runT s).2.1.length ≤ 100000 := by have h1 := hI.len; have h2 := hI.le; show (runS s s.length (0, [], [])).2.1.length ≤ _; omega
    simp -implicitDefEqProofs only [q0, Option.bind_some, bne_self_eq_false, beq_self_eq_true, cond_true]
    cases hf : (runT s).2.2 with
    | cons a r =>
      have c0 : decide ((((a :: r).length : Nat) : Int) > 0) = true := decide_eq_true (by simp)
      simp -implicitDefEqProofs only [c0, cond_true]
      rw [exT]
      exact ⟨_, rfl, rfl⟩
    | nil =>
      have c0 : decide (((([] : List Fl).length : Nat) : Int) > 0) = false := rfl
      obtain ⟨hok, hP, hb⟩ := back hs' (run_full hs' _ _ (inv0 s) (by simp)) hf
      generalize (runT s).2.1 = l at *
      have q1 := Print_eq 200000000 l (by omega) hok (by show (P l).length ≤ _; omega) (by decide)
      have q2 := Tokens_eq 200000000 (P l) (by omega) (by decide)
      rw [hb] at q2
      rw [show pre l l.length = P l from rfl] at q1
      have q3 := Same2_eq 200000000 l (by omega) (by omega) (fun t ht => by have := (hok t ht).2.2.1; omega) (by decide)
      have c1 : decide (((P l).length : Int) > 20000) = false := decide_eq_false (by omega)
      simp -implicitDefEqProofs only [c0, cond_false, q1, q2, c1, Option.bind_some]
      rw [exT]
      simp -implicitDefEqProofs only [Option.bind_some, beq_self_eq_true, cond_true, q3, List.length_nil]
      exact ⟨_, rfl, rfl⟩
end Go.En.Pl
