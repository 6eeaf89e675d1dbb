/- Text TFb of this seat: written by a program of ours, or by hand; checked by Lean. -/
import Derived.Test.YtlambcopphejaaaGreatDoorTT8
set_option linter.unusedSimpArgs false
set_option linter.unusedVariables false
namespace Go.En.Pl
theorem span_at {p : UInt8 → Bool} {s : Bs} {i j : Nat} (hij : i ≤ j) (hj : j ≤ s.length) (ha : ∀ c ∈ (s.drop i).take (j - i), p c = true) (h : ∀ h : j < s.length, p s[j] = false) : i + spanN p s i = j := by
  have : (s.drop i).takeWhile p = (s.drop i).take (j - i) := by
    refine takeWhile_take _ _ ha (by simp; omega) ?_
    intro hh
    have hh' : j < s.length := by simp at hh; omega
    have := h hh'
    rw [List.getElem_drop]
    simpa [show i + (j - i) = j by omega] using this
  unfold spanN
  rw [this]
  simp; omega
theorem forall_byte {P : UInt8 → Bool} (h : (List.range 256).all (fun n => P (UInt8.ofNat n)) = true) (c : UInt8) : P c = true := by
  have h2 := List.all_eq_true.1 h c.toNat (List.mem_range.2 c.toNat_lt)
  rwa [UInt8.ofNat_toNat] at h2
theorem lowerB_cons (c : UInt8) (x : Bs) : lowerB (c :: x) = low1 c :: lowerB x := by simp [lowerB_map]
theorem low_end (n : Bs) (hn : lowerB n = n) : lowerB ([60, 47] ++ n) = [60, 47] ++ n := by
  show lowerB (60 :: 47 :: n) = _
  rw [lowerB_cons, lowerB_cons, hn]
  rfl
theorem tagL_al (s : Bs) (k : Int) : ∀ (n i : Nat) (sl : Bool) (l : List Att) (g : List Fl) (r : Nat × Bool × List Att × List Fl), l.length ≤ 30 → tagL s k n i sl l g = some r → r.2.2.1.length ≤ 30
  | 0, i, sl, l, g, r, _, h => by cases h
  | n + 1, i, sl, l, g, r, hl, h => by
    rw [tagL] at h
    cases hc : s[i]? with
    | none => rw [hc] at h; cases h
    | some c =>
      rw [hc] at h
      simp only at h
      split at h
      · cases h; exact hl
      · split at h
        · exact tagL_al s k n _ _ _ _ _ hl h
        · split at h
          · exact tagL_al s k n _ _ _ _ _ (attS_al s i k l hl) h
          · cases h
theorem run_inv {s : Bs} (hs : s.length ≤ 2500) : ∀ (n : Nat) (st : St), Inv s st → Inv s (runS s n st)
  | 0, st, h => h
  | n + 1, st, h => by
    rw [runS]
    split
    · rename_i hi
      exact run_inv hs n _ (step_inv (by omega) hi h).1
    · exact h
theorem exT : pouncelaw14_tokens_ (Ev.upto 200000000) ((), ()) = some ((true, ()), ()) := by kernel_rfl
end Go.En.Pl
