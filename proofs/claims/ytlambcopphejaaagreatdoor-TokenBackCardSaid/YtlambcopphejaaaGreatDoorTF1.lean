/- Text TF1 of this seat: written by a program of ours, or by hand; checked by Lean. -/
import Derived.Test.YtlambcopphejaaaGreatDoorTFb
set_option linter.unusedSimpArgs false
set_option linter.unusedVariables false
namespace Go.En.Pl
/-! ### The law TokenForms: names -/
def gr (c : UInt8) : Bool := decide ((c.toNat : Int) ≥ 65) && decide ((c.toNat : Int) ≤ 90)
def greatB (s : Bs) : Bool := s.any gr
theorem great_eq (N : Nat) (s : Bs) (hs : s.length ≤ 100000) (hN : s.length < N) : pouncelaw14_great_ (Ev.upto N) ((s, ()), ()) = some ((greatB s, ()), ()) := by
  apply wp_eq
  unfold pouncelaw14_great_
  refine wp_bind ?_
  refine wp_for (σ := Unit) (fun i _ => ((s, ((i : Int), ())), ())) (fun i _ => (s.take i).any gr = false) s.length () rfl (by simp) hN ?_
  rintro i _ hi hn
  by_cases hi' : i < s.length
  · have c0 : decide ((i : Int) < (s.length : Int)) = true := decide_eq_true (by omega)
    have w : IntKind.wrap .i64 ((i : Int) + 1) = ((i + 1 : Nat) : Int) := by rw [wrap64 (by omega) (by omega)]; omega
    have hin : wp ((bif (decide (((s[i]).toNat : Int) ≥ (65 : Int)) == true) then (some ((s, ((i : Int), (decide (((s[i]).toNat : Int) ≤ (90 : Int)), ()))), ())) else (some ((s, ((i : Int), (false, ()))), ())) : Option ((Bs × Int × Bool × Unit) × Unit))) (fun o => o = ((s, ((i : Int), (gr s[i], ()))), ())) := by
      unfold gr
      cases decide (((s[i]).toNat : Int) ≥ (65 : Int)) with
      | true => exact ⟨_, rfl, rfl⟩
      | false => exact ⟨_, rfl, rfl⟩
    obtain ⟨_, e, rfl⟩ := hin
    simp -implicitDefEqProofs only [c0, cond_true, idx_nat hi', Option.bind_some]
    rw [e]
    cases hc : gr s[i] with
    | true =>
      have : greatB s = true := List.any_eq_true.2 ⟨_, List.getElem_mem hi', hc⟩
      exact ⟨_, rfl, _, rfl, by rw [this]⟩
    | false =>
      simp -implicitDefEqProofs only [Option.bind_some, cond_false, w]
      exact ⟨_, rfl, hi', (), rfl, by rw [any_takeA hi', hn, hc]; rfl⟩
  · have c0 : decide ((i : Int) < (s.length : Int)) = false := decide_eq_false (by omega)
    rw [List.take_of_length_le (by omega)] at hn
    simp -implicitDefEqProofs only [c0, cond_false]
    exact ⟨_, rfl, _, rfl, by rw [show greatB s = false from hn]⟩
theorem gr_low (c : UInt8) : gr (low1 c) = false := by
  have h := forall_byte (P := fun c => !gr (low1 c)) (by kernel_rfl) c
  simpa using h
theorem great_low (s : Bs) : greatB (lowerB s) = false := by
  rw [lowerB_map]
  unfold greatB
  rw [List.any_map, List.any_eq_false]
  intro c _
  show ¬ gr (low1 c) = true
  rw [gr_low]
  decide
/-- A tag's attributes: small letters, none twice. -/
def okAs (l : List Att) : Prop := (∀ a ∈ l, greatB a.1 = false ∧ a.1.length ≤ 100000) ∧ ∀ (i k : Nat) (a b : Att), k < i → l[i]? = some a → l[k]? = some b → ¬ a.1 = b.1
theorem okAs_nil : okAs [] := ⟨by simp, fun i k a b _ h => by simp at h⟩
theorem okAs_add {l : List Att} {n v : Bs} (h : okAs l) (hn : greatB n = false) (hl : n.length ≤ 100000) (hh : hasA l n = false) : okAs (l ++ [(n, v)]) := by
  have nin : ∀ a ∈ l, ¬ a.1 = n := fun a ha e => by
    have := List.any_eq_false.1 hh a ha
    apply this
    simp [e]
  refine ⟨fun a ha => ?_, fun i k a b hki hi hk => ?_⟩
  · rcases List.mem_append.1 ha with ha | ha
    · exact h.1 a ha
    · rw [List.mem_singleton.1 ha]; exact ⟨hn, hl⟩
  · have hil : i < (l ++ [(n, v)]).length := (List.getElem?_eq_some_iff.1 hi).1
    simp only [List.length_append, List.length_cons, List.length_nil] at hil
    by_cases h1 : i < l.length
    · rw [List.getElem?_append_left h1] at hi
      rw [List.getElem?_append_left (by omega)] at hk
      exact h.2 i k a b hki hi hk
    · have : i = l.length := by omega
      subst this
      rw [List.getElem?_append_left hki] at hk
      rw [List.getElem?_append_right (Nat.le_refl _), Nat.sub_self] at hi
      simp only [List.getElem?_cons_zero, Option.some.injEq] at hi
      rw [← hi]
      intro e
      exact nin b (List.mem_of_getElem? hk) e.symm
theorem twice_eq (N : Nat) (l : List Att) (h : okAs l) (hl : l.length ≤ 1000) (hN : 100000 < N) : pouncelaw14_twice_ (Ev.upto N) ((l, ()), ()) = some ((false, ()), ()) := by
  apply wp_eq
  unfold pouncelaw14_twice_
  refine wp_bind ?_
  refine wp_for (σ := Unit) (fun i _ => ((l, ((i : Int), ())), ())) (fun i _ => True) l.length () rfl trivial (by omega) ?_
  rintro i _ hi _
  by_cases hi' : i < l.length
  · have c0 : decide ((i : Int) < (l.length : Int)) = true := decide_eq_true (by omega)
    have w : IntKind.wrap .i64 ((i : Int) + 1) = ((i + 1 : Nat) : Int) := by rw [wrap64 (by omega) (by omega)]; omega
    obtain ⟨ha, hb⟩ := h.1 _ (List.getElem_mem hi')
    have q := great_eq N l[i].1 hb (by omega)
    rw [ha] at q
    simp -implicitDefEqProofs only [c0, cond_true, idx_nat hi', Option.bind_some, q, cond_false]
    refine wp_bind ?_
    refine wp_for (σ := Unit) (fun k _ => ((l, ((i : Int), ((k : Int), ()))), ())) (fun k _ => True) i () rfl trivial (by omega) ?_
    rintro k _ hk _
    by_cases hk' : k < i
    · have c1 : decide ((k : Int) < (i : Int)) = true := decide_eq_true (by omega)
      have w2 : IntKind.wrap .i64 ((k : Int) + 1) = ((k + 1 : Nat) : Int) := by rw [wrap64 (by omega) (by omega)]; omega
      have hkl : k < l.length := by omega
      have ne : (l[i].1 == l[k].1) = false := by
        have := h.2 i k l[i] l[k] hk' (List.getElem?_eq_getElem hi') (List.getElem?_eq_getElem hkl)
        simpa using this
      simp -implicitDefEqProofs only [c1, cond_true, idx_nat hi', idx_nat hkl, Option.bind_some, ne, cond_false, w2]
      exact ⟨_, rfl, hk', (), rfl, trivial⟩
    · have c1 : decide ((k : Int) < (i : Int)) = false := decide_eq_false (by omega)
      simp -implicitDefEqProofs only [c1, cond_false]
      refine ⟨_, rfl, ?_⟩
      simp -implicitDefEqProofs only [w]
      exact ⟨_, rfl, hi', (), rfl, trivial⟩
  · have c0 : decide ((i : Int) < (l.length : Int)) = false := decide_eq_false (by omega)
    simp -implicitDefEqProofs only [c0, cond_false]
    exact ⟨_, rfl, _, rfl, rfl⟩
theorem attS_ok {s : Bs} {i : Nat} {k : Int} {l : List Att} (hs : s.length ≤ 15000) (h : okAs l) : okAs (attS s i k l).2.2.1 := by
  have hn : greatB (attN s i) = false := great_low _
  have hl : (attN s i).length ≤ 100000 := by unfold attN; rw [lowerB_length]; simp; omega
  have key : ∀ v : Bs, okAs (bif attT s i k l then l ++ [(attN s i, v)] else l) := fun v => by
    cases ht : attT s i k l with
    | false => exact h
    | true =>
      have hh : hasA l (attN s i) = false := by
        unfold attT at ht
        cases hc : hasA l (attN s i) with
        | false => rfl
        | true => rw [hc] at ht; simp at ht
      exact okAs_add h hn hl hh
  unfold attS
  split
  · exact key _
  · exact key _
theorem tagL_ok (s : Bs) (k : Int) (hs : s.length ≤ 15000) : ∀ (n i : Nat) (sl : Bool) (l : List Att) (g : List Fl) (r : Nat × Bool × List Att × List Fl), okAs l → tagL s k n i sl l g = some r → okAs r.2.2.1
  | 0, i, sl, l, g, r, _, h => by cases h
  | n + 1, i, sl, l, g, r, hl, h => by
    rw [tagL] at h
    cases hc : s[i]? with
    | none => rw [hc] at h; cases h
    | some c =>
      rw [hc] at h
      simp only at h
      split at h
      · cases h; exact hl
      · split at h
        · exact tagL_ok s k hs n _ _ _ _ _ hl h
        · split at h
          · exact tagL_ok s k hs n _ _ _ _ _ (attS_ok hs hl) h
          · cases h
end Go.En.Pl
