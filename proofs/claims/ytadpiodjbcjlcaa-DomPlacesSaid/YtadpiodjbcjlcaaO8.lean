/- Text O8 of this seat: written by a program of ours, or by hand; checked by Lean. -/
import Derived.Test.YtadpiodjbcjlcaaO7
set_option linter.unusedVariables false
set_option linter.unusedSimpArgs false
namespace Go.En.Pl
/-! -/
noncomputable def thr (d : List Nd) (x : Int) : Bool := (chk d == 0) && (decide (x ≥ 0) && decide (x < d.length))
theorem thr_iff {d : List Nd} {x : Int} : thr d x = true ↔ Right d ∧ In' d x := by
  unfold thr In' chk
  simp only [Bool.and_eq_true, beq_iff_eq, decide_eq_true_eq]
  constructor
  · rintro ⟨h1, h2, h3⟩
    refine ⟨?_, h2, h3⟩
    by_cases h : d.length > 300
    · rw [if_pos h] at h1; omega
    · rw [if_neg h] at h1
      by_cases hR : Right d
      · exact hR
      · rw [if_neg hR] at h1; omega
  · rintro ⟨h1, h2, h3⟩
    refine ⟨?_, h2, h3⟩
    rw [if_neg (by have := h1.len; omega), if_pos h1]
theorem chk0 {d : List Nd} : chk d = 0 ↔ Right d := by
  unfold chk
  constructor
  · intro h1
    by_cases h : d.length > 300
    · rw [if_pos h] at h1; omega
    · rw [if_neg h] at h1
      by_cases hR : Right d
      · exact hR
      · rw [if_neg hR] at h1; omega
  · intro h1
    rw [if_neg (by have := h1.len; omega), if_pos h1]
theorem there (d : List Nd) (x : Int) (h : Sm d) : dom_there_ (Ev.upto 5000) ((d, (x, ())), ()) = some ((thr d x, ()), ()) := by
  unfold dom_there_ thr
  simp only [domCheck d h, Option.bind_some]
  cases (chk d == 0) <;> cases decide (x ≥ 0) <;> rfl
theorem There (d : List Nd) (x : Int) (h : Sm d) : pounceref16_There_ (Ev.upto 5000) ((d, (x, ())), ()) = some ((thr d x, ()), ()) := by
  unfold pounceref16_There_ thr
  simp only [refCheck d h, Option.bind_some]
  cases (chk d == 0) <;> cases decide (x ≥ 0) <;> cases decide (x < (d.length : Int)) <;> rfl
def fndG (nm : Bs) (i : Nat) (a : At) (_ : Unit) : Unit ⊕ Int := if a.1 == nm then .inr (i : Int) else .inl ()
def fnd (l : List At) (nm : Bs) : Int := foldL (fndG nm) (fun _ => -1) 0 l ()
theorem fnd_go (nm : Bs) : ∀ (l : List At) (i : Nat), foldL (fndG nm) (fun _ => -1) i l () = -1 ∧ (∀ a, a ∈ l → (a.1 == nm) = false) ∨ ∃ j, ∃ h : j < l.length, foldL (fndG nm) (fun _ => -1) i l () = ((i + j : Nat) : Int) ∧ (l[j].1 == nm) = true ∧ ∀ k (hk : k < j), (l[k].1 == nm) = false
  | [], i => .inl ⟨rfl, by simp⟩
  | a :: l, i => by
    unfold foldL
    cases ha : (a.1 == nm) with
    | true =>
      refine .inr ⟨0, by simp, ?_, ha, fun k hk => by omega⟩
      simp only [fndG, ha, if_true]
      rfl
    | false =>
      simp only [fndG, ha, Bool.false_eq_true, if_false]
      rcases fnd_go nm l (i + 1) with ⟨h1, h2⟩ | ⟨j, hj, h1, h2, h3⟩
      · refine .inl ⟨h1, fun b hb => ?_⟩
        rcases List.mem_cons.1 hb with rfl | hb
        · exact ha
        · exact h2 b hb
      · refine .inr ⟨j + 1, by simpa using hj, h1.trans (by omega), by simpa using h2, fun k hk => ?_⟩
        cases k with
        | zero => exact ha
        | succ k => simpa using h3 k (by omega)
theorem fnd_cases (l : List At) (nm : Bs) : fnd l nm = -1 ∧ (∀ a, a ∈ l → (a.1 == nm) = false) ∨ ∃ j, ∃ h : j < l.length, fnd l nm = (j : Int) ∧ (l[j].1 == nm) = true ∧ ∀ k (hk : k < j), (l[k].1 == nm) = false := by
  rcases fnd_go nm l 0 with h | ⟨j, h0, h1, h2⟩
  · exact .inl h
  · exact .inr ⟨j, h0, by rw [fnd, h1, Nat.zero_add], h2⟩
theorem foldL_map {ε β γ σ : Type} (φ : β → γ) (g : Nat → ε → σ → σ ⊕ β) (fin : σ → β) : ∀ (l : List ε) (i : Nat) (s : σ), foldL (fun i x s => match g i x s with | .inl s' => .inl s' | .inr b => .inr (φ b)) (fun s => φ (fin s)) i l s = φ (foldL g fin i l s)
  | [], _, _ => rfl
  | x :: l, i, s => by
    unfold foldL
    cases g i x s with
    | inl s' => exact foldL_map φ g fin l (i + 1) s'
    | inr b => rfl
theorem foldL_fnd {β : Type} (nm : Bs) (φ : Int → β) (ψ : β) : ∀ (l : List At) (i : Nat), foldL (fun i (a : At) (_ : Unit) => if a.1 == nm then (.inr (φ i) : Unit ⊕ β) else .inl ()) (fun _ => ψ) i l () = if foldL (fndG nm) (fun _ => -1) i l () = -1 then ψ else φ (foldL (fndG nm) (fun _ => -1) i l ())
  | [], i => rfl
  | a :: l, i => by
    unfold foldL
    cases ha : (a.1 == nm) with
    | true =>
      simp only [fndG, ha, if_true]
      rw [if_neg (by omega)]
    | false =>
      simp only [fndG, ha, Bool.false_eq_true, if_false]
      exact foldL_fnd nm φ ψ l (i + 1)
theorem find (n : Nd) (nm : Bs) (h : n.2.2.2.1.length ≤ 4000) : pounceref16_find_ (Ev.upto 5000) ((n, (nm, ())), ()) = some ((fnd n.2.2.2.1 nm, ()), ()) := by
  unfold pounceref16_find_
  refine it_listB (l := n.2.2.2.1) (σ := Unit) (fun i _ => ((nm, ((i : Int), ())), ((n, ()), ()))) (fun i a _ => if a.1 == nm then .inr (.inr (((i : Int), ()), ())) else .inl ()) (fun _ => .inl ((), ())) (fun _ _ => True) () rfl trivial (by omega) (fun i s hi _ => ⟨?_, fun _ _ => trivial⟩) (fun s _ => ?_) ?_
  · simp only [lenLt, decide_eq_true hi, cond_true, idx_nat hi, Option.bind_some, wrapS (show i < 1000000 by omega)]
    cases (n.2.2.2.1[i].1 == nm) <;> rfl
  · simp only [lenLt, Nat.lt_irrefl, decide_false, cond_false]
  · rw [foldL_fnd nm (fun i => Sum.inr ((i, ()), ()))]
    show (match (if fnd n.2.2.2.1 nm = -1 then _ else _ : (Unit × Unit) ⊕ ((Int × Unit) × Unit)) with | Sum.inl o4 => _ | Sum.inr o5 => _) = _
    by_cases e : fnd n.2.2.2.1 nm = -1
    · rw [if_pos e, e]
    · rw [if_neg e]; rfl
theorem place (n : Nd) (nm : Bs) (h : n.2.2.2.1.length ≤ 4000) : dom_place_ (Ev.upto 5000) ((n, (nm, ())), ()) = some ((fnd n.2.2.2.1 nm, ()), ()) := by
  unfold dom_place_
  have : slices_IndexFunc__api_Attr_api_Attr_fe9 (Ev.upto 5000) ((n.2.2.2.1, ()), ((nm, ()), ())) = some ((fnd n.2.2.2.1 nm, ()), ((nm, ()), ())) := by
    unfold slices_IndexFunc__api_Attr_api_Attr_fe9 dom_place_1_e8e
    refine it_listB (l := n.2.2.2.1) (σ := Unit) (fun i _ => ((n.2.2.2.1, ((n.2.2.2.1.length : Int), ((i : Int), ()))), ((nm, ()), ()))) (fun i a _ => if a.1 == nm then .inr (.inr (((i : Int), ()), ((nm, ()), ()))) else .inl ()) (fun _ => .inl ((), ((nm, ()), ()))) (fun _ _ => True) () rfl trivial (by omega) (fun i s hi _ => ⟨?_, fun _ _ => trivial⟩) (fun s _ => ?_) ?_
    · simp only [lenLt, decide_eq_true hi, cond_true, idx_nat hi, Option.bind_some, wrapS (show i < 1000000 by omega)]
      cases (n.2.2.2.1[i].1 == nm) <;> rfl
    · simp only [lenLt, Nat.lt_irrefl, decide_false, cond_false]
    · rw [foldL_fnd nm (fun i => Sum.inr ((i, ()), ((nm, ()), ())))]
      show (match (if fnd n.2.2.2.1 nm = -1 then _ else _ : (Unit × ((Bs × Unit) × Unit)) ⊕ ((Int × Unit) × ((Bs × Unit) × Unit))) with | Sum.inl o4 => _ | Sum.inr o5 => _) = _
      by_cases e : fnd n.2.2.2.1 nm = -1
      · rw [if_pos e, e]
      · rw [if_neg e]; rfl
  show Option.bind _ _ = _
  rw [this]
  rfl
noncomputable def atr (d : List Nd) (x : Int) (nm : Bs) : Bs × Bool := if thr d x = true then (match idx d x with
  | some n => (match idx n.2.2.2.1 (fnd n.2.2.2.1 nm) with
    | some a => (a.2, true)
    | none => ([], false))
  | none => ([], false)) else ([], false)
theorem attrBoth (d : List Nd) (x : Int) (nm : Bs) (h : Sm d) : dom_Attr_ (Ev.upto 5000) ((d, (x, (nm, ()))), ()) = some (((atr d x nm).1, ((atr d x nm).2, ())), ()) ∧ pounceref16_Attr_ (Ev.upto 5000) ((d, (x, (nm, ()))), ()) = some (((atr d x nm).1, ((atr d x nm).2, ())), ()) := by
  unfold dom_Attr_ pounceref16_Attr_ atr
  simp only [there d x h, There d x h, Option.bind_some]
  cases ht : thr d x with
  | false => exact ⟨rfl, rfl⟩
  | true =>
    obtain ⟨R, hi⟩ := thr_iff.1 ht
    obtain ⟨n, hn, hg⟩ := idx_ge hi.1 hi.2
    have hm := (h.2 n (List.mem_of_getElem? hg)).1
    simp only [Bool.not_true, cond_false, hn, Option.bind_some, place n nm hm, find n nm hm, if_true]
    rcases fnd_cases n.2.2.2.1 nm with ⟨e, _⟩ | ⟨j, hj, e, _⟩
    · rw [e]; exact ⟨rfl, rfl⟩
    · rw [e]
      simp only [nneg, cond_false, idx_nat hj, Option.bind_some, and_self]
def stp (d : List Nd) (P : Int → Bool) : Nat → Int → Int
  | 0, x => x
  | m + 1, x => if P x then x else stp d P m (pr d x)
theorem it_up {α β : Type} {f : α → Option (α ⊕ β)} (d : List Nd) (R : Right d) (P : Int → Bool) (st : Int → α) (fin : Int → β) (hP : P (-1) = true) (h1 : ∀ x, P x = true → f (st x) = some (.inr (fin x))) (h2 : ∀ x, In' d x → P x = false → f (st x) = some (.inl (st (pr d x)))) : ∀ (m : Nat) (x : Int) (N : Nat), m < N → (x = -1 ∨ In' d x) → up d m x = -1 → iterN f N (st x) = some (fin (stp d P m x)) := by
  intro m
  induction m with
  | zero =>
    intro x N hN hx hu
    obtain ⟨N, rfl⟩ : ∃ M, N = M + 1 := ⟨N - 1, by omega⟩
    obtain rfl : x = -1 := hu
    unfold iterN
    rw [h1 _ hP]
    rfl
  | succ m ih =>
    intro x N hN hx hu
    obtain ⟨N, rfl⟩ : ∃ M, N = M + 1 := ⟨N - 1, by omega⟩
    unfold iterN stp
    cases hp : P x with
    | true => rw [h1 _ hp]; rfl
    | false =>
      rcases hx with rfl | hx
      · rw [hP] at hp; cases hp
      · rw [h2 x hx hp]
        exact ih _ N (by omega) (R.cl x hx.1 hx.2) hu
theorem Right.up400 {d : List Nd} (R : Right d) {x : Int} (hx : In' d x) : up d 400 x = -1 := by
  obtain ⟨j, hj, hu⟩ := R.ends' hx
  have := R.len
  rw [show 400 = j + (400 - j) by omega, up_add, hu, up_neg]
theorem it_upB {α β γ : Type} {f : α → Option (α ⊕ β)} {a0 : α} {k : β → Option γ} {r : Option γ} (d : List Nd) (R : Right d) (P : Int → Bool) (st : Int → α) (fin : Int → β) (x : Int) (hx : In' d x) (ha : a0 = st x) (hP : P (-1) = true) (h1 : ∀ x, P x = true → f (st x) = some (.inr (fin x))) (h2 : ∀ x, In' d x → P x = false → f (st x) = some (.inl (st (pr d x)))) (hr : k (fin (stp d P 400 x)) = r) : ((Ev.upto 5000).it f a0).bind k = r := by
  rw [ha]
  show (iterN f 5000 (st x)).bind k = r
  rw [it_up d R P st fin hP h1 h2 400 x 5000 (by omega) (.inr hx) (R.up400 hx)]
  exact hr
def topP (top x : Int) : Bool := decide (x < 0) || x == top
def undB (d : List Nd) (x top : Int) : Bool := stp d (topP top) 400 x == top
theorem idx_in {d : List Nd} {x : Int} (h : In' d x) : ∃ n : Nd, idx d x = some n ∧ n.2.2.2.2.1 = pr d x := by
  obtain ⟨n, hn, _⟩ := idx_ge h.1 h.2
  exact ⟨n, hn, by unfold pr; rw [hn]⟩
theorem under (d : List Nd) (R : Right d) (x top : Int) (hx : In' d x) : pounceref16_under_ (Ev.upto 5000) ((d, (x, (top, ()))), ()) = some ((undB d x top, ()), ()) := by
  unfold pounceref16_under_
  refine it_upB d R (topP top) (fun x => ((x, (top, ())), ((d, ()), ()))) (fun x => ((x, (top, ())), ())) x hx rfl rfl (fun y hy => ?_) (fun y hy hp => ?_) rfl
  · simp only [topP, Bool.or_eq_true, decide_eq_true_eq, beq_iff_eq] at hy
    by_cases h0 : y < 0
    · simp only [decide_eq_false (show ¬ y ≥ 0 by omega), Bool.false_beq, Bool.not_true, cond_false, Option.bind_some]
    · have : y = top := by omega
      subst this
      simp only [decide_eq_true (show y ≥ 0 by omega), beq_self_eq_true, cond_true, Option.bind_some, bne_self_eq_false, cond_false]
  · obtain ⟨n, hn, hp'⟩ := idx_in hy
    simp only [topP, Bool.or_eq_false_iff, beq_eq_false_iff_ne] at hp
    simp only [decide_eq_true hy.1, beq_self_eq_true, cond_true, Option.bind_some, bne_iff_ne.2 hp.2, hn, hp']
noncomputable def inB (d : List Nd) (x : Int) : Bool := thr d x && undB d x 0
theorem inBoth (d : List Nd) (x : Int) (h : Sm d) : dom_In_ (Ev.upto 5000) ((d, (x, ())), ()) = some ((inB d x, ()), ()) ∧ pounceref16_In_ (Ev.upto 5000) ((d, (x, ())), ()) = some ((inB d x, ()), ()) := by
  unfold dom_In_ pounceref16_In_ inB
  simp only [there d x h, There d x h, Option.bind_some]
  cases ht : thr d x with
  | false => exact ⟨rfl, rfl⟩
  | true =>
    obtain ⟨R, hx⟩ := thr_iff.1 ht
    refine ⟨?_, ?_⟩
    · simp only [Bool.not_true, cond_false]
      show Option.bind _ _ = _
      refine it_upB d R (topP 0) (fun x => ((x, ()), ((d, ()), ()))) (fun x => ((x, ()), ())) x hx rfl rfl (fun y hy => ?_) (fun y hy hp => ?_) (by rw [Bool.true_and]; rfl)
      · simp only [topP, Bool.or_eq_true, decide_eq_true_eq, beq_iff_eq] at hy
        simp only [decide_eq_false (show ¬ y > 0 by omega), cond_false]
      · obtain ⟨n, hn, hp'⟩ := idx_in hy
        simp only [topP, Bool.or_eq_false_iff, beq_eq_false_iff_ne, decide_eq_false_iff_not] at hp
        simp only [decide_eq_true (show y > 0 by omega), cond_true, Option.bind_some, hn, hp']
    · simp only [beq_self_eq_true, cond_true, under d R x 0 hx, Option.bind_some, Bool.true_and]
end Go.En.Pl
