/- Text TT8 of this seat: written by a program of ours, or by hand; checked by Lean. -/
import Derived.Test.YtlambcopphejaaaGreatDoorTT7
set_option linter.unusedSimpArgs false
set_option linter.unusedVariables false
namespace Go.En.Pl
theorem chr_eq {s : Bs} {i : Nat} (h : i < s.length) : chr s i = s[i] := by unfold chr; rw [List.getElem?_eq_getElem h]; rfl
def runT (s : Bs) : St := runS s s.length (0, [], [])
theorem inv0 (s : Bs) : Inv s (0, [], []) := ⟨Nat.zero_le _, by simp, by simp, by simp⟩
theorem Tokens_eq (N : Nat) (s : Bs) (hs : s.length ≤ 15000) (hN : 16000 < N) : token_Tokens_ (Ev.upto N) ((s, ()), ()) = some ((0, ()), ((runT s).2.1, ((runT s).2.2, ()))) := by
  apply wp_eq
  unfold token_Tokens_
  rw [show decide ((s.length : Int) > 20000) = false from decide_eq_false (by omega), cond_false]
  generalize hR : runT s = R
  refine wp_bind ?_
  refine wp_it (fun a => ∃ (n : Nat) (st : St), a = ((s, ()), cur s st.1 st.2.1 st.2.2) ∧ Inv s st ∧ s.length - st.1 ≤ n ∧ runS s n st = R) (fun a => s.length - a.2.1.2.1.toNat) ⟨s.length, (0, [], []), rfl, inv0 s, by omega, hR⟩ (by simp; omega) ?_
  rintro _ ⟨n, ⟨i, out, f⟩, rfl, hI, hn, hT⟩
  have hOk := hI.okD hs
  have hle := hI.le
  have hlen := hI.len
  have hfl := hI.fl
  simp only at hOk hle hlen hfl hn
  by_cases hi : i < s.length
  · have c0 : decide ((i : Int) < (s.length : Int)) = true := decide_eq_true (by omega)
    obtain ⟨n, rfl⟩ : ∃ m, n = m + 1 := ⟨n - 1, by omega⟩
    rw [runS, if_pos hi] at hT
    have hst := step_inv (st := (i, out, f)) hs hi hI
    have e60 : (((s[i].toNat : Nat) : Int) == 60) = (chr s i == 60) := by rw [chr_eq hi]; exact byteEq s[i] 60 (by decide)
    simp -implicitDefEqProofs only [c0, cond_true, idx_nat hi, Option.bind_some, e60]
    cases h60 : (chr s i == 60) with
    | true =>
      have hS : stepS s (i, out, f) = signS s i out f := by unfold stepS; rw [if_pos h60]
      have q1 := sign_eq N s i out f hi (by omega) hOk (by omega) (by omega) (by omega) (by omega)
      rw [← hS] at q1
      simp -implicitDefEqProofs only [cond_true, q1, Option.bind_some]
      exact ⟨_, rfl, ⟨n, stepS s (i, out, f), rfl, hst.1, by have := hst.2; simp only at this; omega, hT⟩, by have := hst.2; have := hst.1.le; simp only at *; simp; omega⟩
    | false =>
      have hS : stepS s (i, out, f) = textS s i out f := by unfold stepS; rw [if_neg (by show ¬ (chr s i == 60) = true; rw [h60]; decide)]
      have hsp := spanN_le notLt s i hle
      have q1 := takeLt_eq N s i out f hle (by omega) (by omega)
      rw [takeWhile_span] at q1
      have ht : ((s.drop i).take (spanN notLt s i)).length = spanN notLt s i := by simp; omega
      rw [ht] at q1
      have q2 := decoded_eq N ((s.drop i).take (spanN notLt s i)) i s (i + spanN notLt s i) out f (by omega) (by omega) (by omega) (by omega) (by omega)
      have d1 := dec_fst_len ((s.drop i).take (spanN notLt s i)) 0
      have q3 := tell_eq (Ev.upto N) (tx (dec ((s.drop i).take (spanN notLt s i)) 0).1) s (i + spanN notLt s i) out (f ++ (dec ((s.drop i).take (spanN notLt s i)) (i : Nat)).2) hOk (by show (dec _ 0).1.length ≤ _; omega)
      simp -implicitDefEqProofs only [cond_false, q1, q2, q3, Option.bind_some]
      refine ⟨_, rfl, ⟨n, stepS s (i, out, f), by rw [hS]; rfl, hst.1, by have := hst.2; simp only at this; omega, hT⟩, ?_⟩
      have h2 := hst.2
      rw [hS] at h2
      have : i < i + spanN notLt s i := h2
      simp; omega
  · have c0 : decide ((i : Int) < (s.length : Int)) = false := decide_eq_false (by omega)
    have : runS s n (i, out, f) = (i, out, f) := by
      cases n with
      | zero => rfl
      | succ n => rw [runS, if_neg hi]
    rw [this] at hT
    subst hT
    simp -implicitDefEqProofs only [c0, cond_false]
    exact ⟨_, rfl, _, rfl, rfl⟩
end Go.En.Pl
