/- Text OI of this seat: written by a program of ours, or by hand; checked by Lean. -/
import Derived.Test.YtadpiodjbcjlcaaOH
set_option linter.unusedVariables false
set_option linter.unusedSimpArgs false
namespace Go.En.Pl
/-! -/
def cutK (x : Int) (p : Nd) : Nd := (p.1, (p.2.1, (p.2.2.1, (p.2.2.2.1, (p.2.2.2.2.1, ((kidsOf p).filter (· != x), p.2.2.2.2.2.2))))))
def reP (q : Int) (n : Nd) : Nd := (n.1, (n.2.1, (n.2.2.1, (n.2.2.2.1, (q, n.2.2.2.2.2)))))
def addK (x : Int) (p : Nd) : Nd := (p.1, (p.2.1, (p.2.2.1, (p.2.2.2.1, (p.2.2.2.2.1, (kidsOf p ++ [x], p.2.2.2.2.2.2))))))
def unK (d : List Nd) (x : Int) : List Nd := match idx d (pr d x) with
  | some p => d.set (pr d x).toNat (cutK x p)
  | none => d
def outD (d : List Nd) (x : Int) : List Nd := match idx d x with
  | some n => (unK d x).set x.toNat (reP (-1) n)
  | none => d
theorem getX {α : Type} {l : List α} {x : Int} {a : α} (h : idx l x = some a) : (decide (0 ≤ x) && decide (x < (l.length : Int))) = true ∧ l[x.toNat]? = some a ∧ x.toNat < l.length := by
  obtain ⟨h0, h1, h2⟩ := idx_some h
  exact ⟨by rw [decide_eq_true h0, decide_eq_true h1]; rfl, h2, (List.getElem?_eq_some_iff.1 h2).1⟩
theorem Right.pr_ne {d : List Nd} (R : Right d) {x : Int} (hx : In' d x) : pr d x ≠ x := fun h => R.acyc hx 0 h
theorem unK_len (d : List Nd) (x : Int) : (unK d x).length = d.length := by
  unfold unK
  cases idx d (pr d x) <;> simp
theorem outD_len (d : List Nd) (x : Int) : (outD d x).length = d.length := by
  unfold outD
  cases idx d x with
  | none => rfl
  | some n => simp [unK_len]
theorem unK_get {d : List Nd} (R : Right d) {x : Int} (hx : In' d x) {n : Nd} (hn : idx d x = some n) : idx (unK d x) x = some n := by
  unfold unK
  cases hp : idx d (pr d x) with
  | none => exact hn
  | some p => simp only; rw [idx_set_ne (idx_some hp).1 (R.pr_ne hx).symm]; exact hn
theorem foldL_filt {β : Type} (x : Int) (fin : List Int → β) : ∀ (l : List Int) (i : Nat) (s : List Int), foldL (fun (_ : Nat) (k : Int) (s : List Int) => (.inl (if (k != x) = true then s ++ [k] else s) : List Int ⊕ β)) fin i l s = fin (s ++ l.filter (· != x))
  | [], i, s => by simp [foldL]
  | a :: l, i, s => by
    unfold foldL
    simp only
    rw [foldL_filt x fin l (i + 1)]
    cases h : (a != x) with
    | true => simp [h]
    | false => simp [h]
theorem domOut (d : List Nd) (x : Int) (h : Sm d) (R : Right d) (hx : In' d x) : dom_out_ac4 (Ev.upto 5000) ((x, ()), (d, ())) = some ((), (outD d x, ())) := by
  unfold dom_out_ac4 outD
  obtain ⟨n, hn, hp⟩ := idx_in hx
  obtain ⟨g1, g2, g3⟩ := getX hn
  simp only [g1, cond_true, g2, Option.bind_some, hp, hn]
  have hu := unK_get R hx hn
  obtain ⟨k1, k2, k3⟩ := getX hu
  by_cases hq : pr d x = -1
  · have e : unK d x = d := by unfold unK; rw [hq]; rfl
    rw [e] at k1 k2 k3 ⊢
    simp only [hq, neg1', cond_false, Option.bind_some, k1, cond_true, k2]
    rfl
  · obtain ⟨hin, _⟩ := R.par hx hq
    obtain ⟨p, hpi, _⟩ := idx_ge hin.1 hin.2
    obtain ⟨m1, m2, m3⟩ := getX hpi
    have e : unK d x = d.set (pr d x).toNat (cutK x p) := by unfold unK; rw [hpi]
    rw [e] at k1 k2 k3 ⊢
    have hm := (h.2 p (List.mem_of_getElem? m2)).2
    unfold cutK at k2
    simp only [decide_eq_true (show pr d x ≥ 0 from hin.1), decide_eq_true hin.2, Bool.and_self, cond_true, m2, Option.bind_some]
    rw [deleteF _ x hm]
    simp only [Option.bind_some, beq_self_eq_true, cond_true, List.length_set, decide_eq_true hx.1, decide_eq_true hx.2, Bool.and_self]
    have k2' := k2
    simp only [k2, Option.bind_some]
    rfl
theorem refOut (d : List Nd) (x : Int) (h : Sm d) (R : Right d) (hx : In' d x) : pounceref16_Out_ (Ev.upto 5000) ((d, (x, ())), ()) = some ((), (outD d x, ())) := by
  unfold pounceref16_Out_ outD
  obtain ⟨n, hn, hp⟩ := idx_in hx
  obtain ⟨g1, g2, g3⟩ := getX hn
  simp only [own d h, Option.bind_some, g1, cond_true, g2, hp, hn]
  have hu := unK_get R hx hn
  obtain ⟨k1, k2, k3⟩ := getX hu
  by_cases hq : pr d x = -1
  · have e : unK d x = d := by unfold unK; rw [hq]; rfl
    rw [e] at k1 k2 k3 ⊢
    simp only [hq, neg1', cond_false, Option.bind_some, k1, cond_true, k2]
    rfl
  · obtain ⟨hin, _⟩ := R.par hx hq
    obtain ⟨p, hpi, _⟩ := idx_ge hin.1 hin.2
    obtain ⟨m1, m2, m3⟩ := getX hpi
    have e : unK d x = d.set (pr d x).toNat (cutK x p) := by unfold unK; rw [hpi]
    rw [e] at k1 k2 k3 ⊢
    have hm : (kidsOf p).length ≤ 4000 := (h.2 p (List.mem_of_getElem? m2)).2
    simp only [decide_eq_true (show pr d x ≥ 0 from hin.1), cond_true]
    rw [Option.bind_assoc]
    refine it_listB (l := kidsOf p) (σ := List Int) (fun i s => ((x, (pr d x, ((i : Int), ()))), ((), ((), (s, (d, ())))))) (fun _ k s => .inl (if (k != x) = true then s ++ [k] else s)) (fun s => ((x, (pr d x, ())), ((), ((), (s, (d, ())))))) (fun i s => s.length ≤ i) [] rfl (by simp) (by omega) (fun i s hi hs => ⟨?_, fun s' e => ?_⟩) (fun s _ => ?_) ?_
    · have hgi : (kidsOf p)[((i : Nat) : Int).toNat]? = some (kidsOf p)[i] := getB hi
      simp only [decide_eq_true hin.1, decide_eq_true hin.2, Bool.and_self, m2, cond_true, Option.bind_some, Option.elim_some, lenLt, decide_eq_true hi, decide_eq_true (show (0 : Int) ≤ (i : Int) by omega), Bool.and_self, hgi, wrapS (show i < 1000000 by omega)]
      by_cases hk : (kidsOf p)[i] = x
      · simp only [hk, bne_self_eq_false, cond_false, Option.bind_some, Bool.false_eq_true, if_false, wrapS (show i < 1000000 by omega)]
      · simp only [bne_iff_ne.2 hk, cond_true, fitsS (show s.length + ([(kidsOf p)[i]] : List Int).length ≤ 10000 by simp; omega) (show 8 ≤ 1000 by omega), Option.bind_some, if_true, wrapS (show i < 1000000 by omega)]
    · simp only [Sum.inl.injEq] at e
      rw [← e]
      split
      · simp; omega
      · omega
    · simp only [decide_eq_true hin.1, decide_eq_true hin.2, Bool.and_self, m2, cond_true, Option.bind_some, Option.elim_some, lenLt, Nat.lt_irrefl, decide_false, cond_false]
    · rw [foldL_filt]
      unfold cutK at k2
      simp only [List.nil_append, decide_eq_true hin.1, decide_eq_true hin.2, Bool.and_self, m2, cond_true, Option.bind_some, List.length_set, decide_eq_true hx.1, decide_eq_true hx.2, k2]
      rfl
end Go.En.Pl
