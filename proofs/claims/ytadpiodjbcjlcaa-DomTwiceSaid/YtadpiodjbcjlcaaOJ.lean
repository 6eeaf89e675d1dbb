/- Text OJ of this seat: written by a program of ours, or by hand; checked by Lean. -/
import Derived.Test.YtadpiodjbcjlcaaOI
set_option linter.unusedVariables false
set_option linter.unusedSimpArgs false
namespace Go.En.Pl
/-! -/
noncomputable def cuts (d : List Nd) (x : Int) : Int × List Nd := if chk d = 0 then (if 1 ≤ x ∧ x < d.length then (0, outD d x) else (170, [])) else (chk d, [])
theorem domCut (d : List Nd) (x : Int) (h : Sm d) : dom_Cut_ (Ev.upto 5000) ((d, (x, ())), ()) = some (((cuts d x).1, ()), ((cuts d x).2, ())) := by
  unfold dom_Cut_ cuts
  simp only [domCheck d h, there d x h, Option.bind_some]
  by_cases hc : chk d = 0
  · rw [if_pos hc]
    by_cases hx : In' d x
    · simp only [thr_iff.2 ⟨chk0.1 hc, hx⟩, beq_self_eq_true, cond_true, dom_node_, hc]
      by_cases h1 : 1 ≤ x
      · simp only [decide_eq_true (show x > 0 by omega), cond_true, Option.bind_some]
        rw [firstE 0 0]
        simp only [if_true, Option.bind_some, bne_self_eq_false, cond_false, copied d h, domOut d x h (chk0.1 hc) hx]
        rw [if_pos ⟨h1, hx.2⟩]
      · simp only [decide_eq_false (show ¬ x > 0 by omega), cond_false, Option.bind_some]
        rw [firstE 0 170, if_neg (show ¬ (1 ≤ x ∧ x < (d.length : Int)) from fun hh => h1 hh.1)]
        rfl
    · simp only [thr_false hx, Bool.false_beq, Bool.not_true, cond_false, dom_node_, Option.bind_some, hc]
      rw [firstE 0 170, if_neg (show ¬ (1 ≤ x ∧ x < (d.length : Int)) from fun hh => hx ⟨by omega, hh.2⟩)]
      rfl
  · rw [if_neg hc]
    simp only [thr_false' hc, Bool.false_beq, Bool.not_true, cond_false, dom_node_, Option.bind_some]
    rw [firstE (chk d) 170]
    simp only [if_neg hc, bne_iff_ne.2 hc, Option.bind_some, cond_true]
theorem refCut (d : List Nd) (x : Int) (h : Sm d) : pounceref16_Cut_ (Ev.upto 5000) ((d, (x, ())), ()) = some (((cuts d x).1, ()), ((cuts d x).2, ())) := by
  unfold pounceref16_Cut_ cuts
  simp only [refCheck d h, Option.bind_some]
  by_cases hc : chk d = 0
  · rw [if_pos hc]
    simp only [hc, bne_self_eq_false, cond_false]
    by_cases h1 : 1 ≤ x
    · simp only [decide_eq_false (show ¬ x < 1 by omega), beq_self_eq_true, cond_true, Option.bind_some]
      by_cases h2 : x < d.length
      · have hx : In' d x := ⟨by omega, h2⟩
        simp only [decide_eq_false (show ¬ x ≥ (d.length : Int) by omega), cond_false, Option.bind_some, refOut d x h (chk0.1 hc) hx]
        rw [if_pos ⟨h1, h2⟩]
      · simp only [decide_eq_true (show x ≥ (d.length : Int) by omega), cond_true]
        rw [if_neg (fun hh => h2 hh.2)]
    · simp only [decide_eq_true (show x < 1 by omega), Bool.true_beq, cond_false, Option.bind_some, cond_true]
      rw [if_neg (fun hh => h1 hh.1)]
  · rw [if_neg hc]
    simp only [bne_iff_ne.2 hc, cond_true]
theorem foldL_mark {β : Type} (q : Int) (D : Int → List Int) (fin : Int → β) : ∀ (l : List Int) (i : Nat) (s : Int), foldL (fun (_ : Nat) (k : Int) (s : Int) => (.inl (if q ∈ D k then 172 else s) : Int ⊕ β)) fin i l s = fin (if q ∈ l.flatMap D then 172 else s)
  | [], i, s => by simp [foldL]
  | a :: l, i, s => by
    unfold foldL
    simp only
    rw [foldL_mark q D fin l (i + 1), List.flatMap_cons]
    congr 1
    by_cases h1 : q ∈ D a
    · rw [if_pos h1, if_pos (List.mem_append_left _ h1)]
      split <;> rfl
    · rw [if_neg h1]
      by_cases h2 : q ∈ l.flatMap D
      · rw [if_pos h2, if_pos (List.mem_append_right _ h2)]
      · rw [if_neg h2, if_neg (fun h => (List.mem_append.1 h).elim h1 h2)]
theorem putR (k q e : Int) : dom_Put_r (Ev.upto 5000) ((k, ()), ((q, ()), ((e, ()), ()))) = some ((true, ()), ((q, ()), ((if k = q then 172 else e, ()), ()))) := by
  unfold dom_Put_r
  by_cases h : k = q
  · subst h; simp
  · simp [beq_eq_false_iff_ne.2 h, h]
theorem stepP (d : List Nd) (R : Right d) (hd : Sm d) (q : Int) : ∀ (f m : Nat) (x : Int) (e : Int), f ≤ m → okD d f x → In' d x → dom_step_839N (Ev.upto 5000) (dom_Put_r (Ev.upto 5000)) m ((d, (x, ())), ((q, ()), ((e, ()), ()))) = some ((true, ()), ((q, ()), ((if q ∈ dn d f x then 172 else e, ()), ()))) := by
  intro f
  induction f with
  | zero => intro m x e _ h; exact h.elim
  | succ f ih =>
    intro m x e hm ho hx
    obtain ⟨m, rfl⟩ : ∃ k, m = k + 1 := ⟨m - 1, by omega⟩
    obtain ⟨n, hn, hg⟩ := idx_ge hx.1 hx.2
    have hks : ks d x = kidsOf n := by unfold ks; rw [hn]
    have hm2 : (kidsOf n).length ≤ 4000 := (hd.2 n (List.mem_of_getElem? hg)).2
    unfold dn
    rw [hks]
    have ho' : ∀ k, k ∈ kidsOf n → okD d f k := fun k hk => ho k (hks ▸ hk)
    have hin' : ∀ k, k ∈ kidsOf n → In' d k := fun k hk => (R.kid (x := x) (hks.symm ▸ hk)).2.1
    unfold dom_step_839N dom_step_839B
    simp only [putR x q e, Option.bind_some, Bool.not_true, cond_false, hn]
    refine it_listB (l := kidsOf n) (σ := Int) (fun i s => ((kidsOf n, ((kidsOf n).length, ((i : Int), ()))), ((q, ()), ((s, ()), ((d, ()), ()))))) (fun _ k s => .inl (if q ∈ dn d f k then 172 else s)) (fun s => .inl ((), ((q, ()), ((s, ()), ())))) (fun i s => True) (if x = q then 172 else e) rfl trivial (by omega) (fun i s hi hs => ⟨?_, fun s' e => trivial⟩) (fun s _ => ?_) ?_
    · have hk : (kidsOf n)[i] ∈ kidsOf n := List.getElem_mem hi
      simp only [lenLt, decide_eq_true hi, cond_true, idx_nat hi, Option.bind_some, wrapS (show i < 1000000 by omega)]
      rw [ih m _ s (by omega) (ho' _ hk) (hin' _ hk)]
      rfl
    · simp only [lenLt, Nat.lt_irrefl, decide_false, cond_false]
    · rw [foldL_mark]
      simp only [List.mem_cons]
      by_cases h1 : q ∈ (kidsOf n).flatMap (dn d f)
      · rw [if_pos h1, if_pos (Or.inr h1)]
      · rw [if_neg h1]
        by_cases h2 : x = q
        · rw [if_pos h2, if_pos (Or.inl h2.symm)]
        · rw [if_neg h2, if_neg (fun h => h.elim (fun h => h2 h.symm) h1)]
theorem pr_lt {d : List Nd} {x : Int} (h : x < 0) : pr d x = -1 := pr_ge (by omega)
theorem stp_up (d : List Nd) (P : Int → Bool) : ∀ (m : Nat) (x : Int), ∃ j, stp d P m x = up d j x
  | 0, x => ⟨0, rfl⟩
  | m + 1, x => by
    unfold stp
    cases P x with
    | true => exact ⟨0, rfl⟩
    | false =>
      obtain ⟨j, hj⟩ := stp_up d P m (pr d x)
      exact ⟨j + 1, hj⟩
theorem stp_hit (d : List Nd) (top : Int) (h0 : 0 ≤ top) : ∀ (m j : Nat) (x : Int), j ≤ m → up d j x = top → stp d (topP top) m x = top
  | 0, j, x, hj, h => by
    obtain rfl : j = 0 := by omega
    exact h
  | m + 1, j, x, hj, h => by
    unfold stp
    cases hp : topP top x with
    | true =>
      simp only [if_true]
      simp only [topP, Bool.or_eq_true, decide_eq_true_eq, beq_iff_eq] at hp
      rcases hp with hp | hp
      · exfalso
        cases j with
        | zero => simp only [up] at h; omega
        | succ j =>
          have : up d (j + 1) x = up d j (pr d x) := rfl
          rw [this, pr_lt hp, up_neg] at h
          omega
      · exact hp
    | false =>
      simp only [Bool.false_eq_true, if_false]
      simp only [topP, Bool.or_eq_false_iff, beq_eq_false_iff_ne] at hp
      cases j with
      | zero => exact absurd h hp.2
      | succ j => exact stp_hit d top h0 m j (pr d x) (by omega) h
theorem undB_iff {d : List Nd} (R : Right d) {q x : Int} (hq : In' d q) (hx : In' d x) : undB d q x = true ↔ q ∈ below d x := by
  rw [R.mem_below hx]
  unfold undB
  rw [beq_iff_eq]
  constructor
  · intro h
    obtain ⟨j, hj⟩ := stp_up d (topP x) 400 q
    exact ⟨hq, j, by rw [← hj]; exact h⟩
  · rintro ⟨_, j, hj⟩
    refine stp_hit d x hx.1 400 j q ?_ hj
    refine Nat.le_of_not_lt fun hlt => ?_
    have : j = 400 + (j - 400) := by omega
    rw [this, up_add, R.up400 hq, up_neg] at hj
    have := hx.1
    omega
def putD (d : List Nd) (q x : Int) : List Nd := match idx (outD d x) x with
  | some n => (match idx ((outD d x).set x.toNat (reP q n)) q with
    | some p => ((outD d x).set x.toNat (reP q n)).set q.toNat (addK x p)
    | none => d)
  | none => d
noncomputable def puts (d : List Nd) (q x : Int) : Int × List Nd := if chk d = 0 then (match (if (0 ≤ q ∧ q < d.length) ∧ 1 ≤ x ∧ x < d.length then idx d q else none) with
  | some p => if holdsB p = true then (if undB d q x = true then (172, []) else (0, putD d q x)) else (170, [])
  | none => (170, [])) else (chk d, [])
end Go.En.Pl
