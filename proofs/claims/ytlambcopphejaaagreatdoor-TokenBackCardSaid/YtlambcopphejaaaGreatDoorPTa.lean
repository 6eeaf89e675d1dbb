/- Text PTa of this seat: written by a program of ours, or by hand; checked by Lean. -/
import Derived.Test.YtlambcopphejaaaGreatDoorW
import Derived.Test.YtlambcopphejaaaGreatDoorG
set_option linter.unusedSimpArgs false
set_option linter.unusedVariables false
namespace Go.En.Pl
abbrev Att := Bs × Bs
abbrev Tok := Int × (Bs × (Bs × (List Att × Bool)))
def plainN (n : Bs) : Bool := n == ([115, 99, 114, 105, 112, 116] : Bs) || n == ([115, 116, 121, 108, 101] : Bs)
theorem plain_eq (V : Ev) (n : Bs) : token_plain_ V ((n, ()), ()) = some ((plainN n, ()), ()) := by
  unfold token_plain_ plainN
  cases (n == ([115, 99, 114, 105, 112, 116] : Bs)) <;> rfl
theorem ext : pouncelaw14_tokens_ (Ev.upto 5000) ((), ()) = some ((true, ()), ()) := by kernel_rfl
theorem Attrs_eq (N : Nat) (l : List Att) (hl : l.length < N) (hb : l.length ≤ 1000000) : pounceref14_Attrs_ (Ev.upto N) ((l, (l, ())), ()) = some ((true, ()), ()) := by
  apply wp_eq
  unfold pounceref14_Attrs_
  have cz : ((l.length : Int) != (l.length : Int)) = false := by simp
  simp -implicitDefEqProofs only [cz, cond_false]
  refine wp_bind ?_
  refine wp_for (σ := Unit) (fun i _ => ((l, (l, ((i : Int), ()))), ())) (fun i _ => True) l.length () rfl trivial hl ?_
  rintro i _ hi _
  by_cases hi' : i < l.length
  · have c0 : decide ((i : Int) < (l.length : Int)) = true := decide_eq_true (by omega)
    have w : IntKind.wrap .i64 ((i : Int) + 1) = ((i + 1 : Nat) : Int) := by rw [wrap64 (by omega) (by omega)]; omega
    simp -implicitDefEqProofs only [c0, cond_true, idx_nat hi', Option.bind_some, w, beq_self_eq_true, Bool.and_self, Bool.not_true, cond_false]
    exact ⟨_, rfl, hi', (), rfl, trivial⟩
  · have c0 : decide ((i : Int) < (l.length : Int)) = false := decide_eq_false (by omega)
    simp -implicitDefEqProofs only [c0, cond_false]
    exact ⟨_, rfl, _, rfl, rfl⟩
theorem One_eq (N : Nat) (t : Tok) (h : t.2.2.2.1.length ≤ 4000) (hN : 4000 < N) : pounceref14_One_ (Ev.upto N) ((t, (t, ())), ()) = some ((true, ()), ()) := by
  unfold pounceref14_One_
  have q := Attrs_eq N t.2.2.2.1 (by omega) (by omega)
  simp -implicitDefEqProofs only [beq_self_eq_true, cond_true, q, Option.bind_some]
theorem Same_eq (N : Nat) (l : List Tok) (hl : l.length ≤ 4000) (h : ∀ t ∈ l, t.2.2.2.1.length ≤ 4000) (hN : 4000 < N) : pounceref14_Same_ (Ev.upto N) ((l, (l, ())), ()) = some ((true, ()), ()) := by
  apply wp_eq
  unfold pounceref14_Same_
  have cz : ((l.length : Int) != (l.length : Int)) = false := by simp
  simp -implicitDefEqProofs only [cz, cond_false]
  refine wp_bind ?_
  refine wp_for (σ := Unit) (fun i _ => ((l, (l, ((i : Int), ()))), ())) (fun i _ => True) l.length () rfl trivial (by omega) ?_
  rintro i _ hi _
  by_cases hi' : i < l.length
  · have c0 : decide ((i : Int) < (l.length : Int)) = true := decide_eq_true (by omega)
    have w : IntKind.wrap .i64 ((i : Int) + 1) = ((i + 1 : Nat) : Int) := by rw [wrap64 (by omega) (by omega)]; omega
    have q := One_eq N l[i] (h _ (List.getElem_mem hi')) hN
    simp -implicitDefEqProofs only [c0, cond_true, idx_nat hi', Option.bind_some, w, q, Bool.not_true, cond_false]
    exact ⟨_, rfl, hi', (), rfl, trivial⟩
  · have c0 : decide ((i : Int) < (l.length : Int)) = false := decide_eq_false (by omega)
    simp -implicitDefEqProofs only [c0, cond_false]
    exact ⟨_, rfl, _, rfl, rfl⟩
end Go.En.Pl
