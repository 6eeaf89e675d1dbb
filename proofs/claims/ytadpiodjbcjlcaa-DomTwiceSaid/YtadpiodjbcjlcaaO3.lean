/- Text O3 of this seat: written by a program of ours, or by hand; checked by Lean. -/
import Derived.Test.YtadpiodjbcjlcaaO2
set_option linter.unusedVariables false
set_option linter.unusedSimpArgs false
namespace Go.En.Pl
/-! -/
abbrev kidsOf (n : Nd) : List Int := n.2.2.2.2.2.1
abbrev parOf (n : Nd) : Int := n.2.2.2.2.1
def pr (d : List Nd) (i : Int) : Int := match idx d i with
  | some n => parOf n
  | none => -1
def allKids (d : List Nd) : List Int := d.flatMap kidsOf
def up (d : List Nd) : Nat → Int → Int
  | 0, x => x
  | j + 1, x => up d j (pr d x)
structure Right (d : List Nd) : Prop where
  len : d.length ≤ 300
  pos : 0 < d.length
  may : ∀ n, n ∈ d → mayB n = true
  root : ∀ (i : Nat) (n : Nd), d[i]? = some n → (n.1 = 1 ↔ i = 0)
  par0 : pr d 0 = -1
  holds : ∀ n, n ∈ d → kidsOf n ≠ [] → holdsB n = true
  rng : ∀ n, n ∈ d → ∀ k, k ∈ kidsOf n → 1 ≤ k ∧ k < d.length
  nodup : (allKids d).Nodup
  back : ∀ (i : Nat) (n : Nd), d[i]? = some n → ∀ k, k ∈ kidsOf n → pr d k = (i : Int)
  laid : ∀ (i : Nat) (n : Nd), d[i]? = some n → parOf n ≠ -1 → (i : Int) ∈ allKids d
  ends : ∀ (i : Nat) (n : Nd), d[i]? = some n → ∃ j, j ≤ d.length ∧ up d j (parOf n) = -1
theorem idx_some {α : Type} {l : List α} {i : Int} {x : α} (h : idx l i = some x) : 0 ≤ i ∧ i < l.length ∧ l[i.toNat]? = some x := by
  unfold idx at h
  split at h
  · rename_i h0
    have := (List.getElem?_eq_some_iff.1 h).1
    exact ⟨h0, by omega, h⟩
  · cases h
theorem idx_ge {α : Type} {l : List α} {i : Int} (h0 : 0 ≤ i) (h : i < l.length) : ∃ x, idx l i = some x ∧ l[i.toNat]? = some x := by
  have hi : i.toNat < l.length := by omega
  exact ⟨l[i.toNat], by unfold idx; rw [if_pos h0, List.getElem?_eq_getElem hi], List.getElem?_eq_getElem hi⟩
theorem pr_nat {d : List Nd} {i : Nat} {n : Nd} (h : d[i]? = some n) : pr d (i : Int) = parOf n := by
  unfold pr idx
  rw [if_pos (by omega), Int.toNat_natCast, h]
theorem pr_neg {d : List Nd} : pr d (-1) = -1 := rfl
theorem up_neg {d : List Nd} : ∀ j, up d j (-1) = -1
  | 0 => rfl
  | j + 1 => up_neg j
def lay (n : Nat) (K : List Int) : List Bool := (List.range n).map fun j : Nat => decide ((j : Int) ∈ K)
theorem lay_len (n : Nat) (K : List Int) : (lay n K).length = n := by simp [lay]
theorem lay_get {n : Nat} {K : List Int} {i : Nat} (h : i < n) : (lay n K)[i]? = some (decide ((i : Int) ∈ K)) := by simp [lay, h]
theorem lay_nil (n : Nat) : lay n [] = List.replicate n false := by
  apply List.ext_getElem?
  intro i
  by_cases h : i < n
  · rw [lay_get h]; simp [h]
  · rw [List.getElem?_eq_none (by rw [lay_len]; omega), List.getElem?_eq_none (by simp; omega)]
theorem lay_set {n : Nat} {K : List Int} {i : Nat} (h : i < n) : (lay n K).set i true = lay n (K ++ [(i : Int)]) := by
  apply List.ext_getElem?
  intro j
  rw [List.getElem?_set, lay_len]
  by_cases e : i = j
  · subst e
    rw [if_pos rfl, if_pos h, lay_get h]
    simp
  · rw [if_neg e]
    by_cases hj : j < n
    · rw [lay_get hj, lay_get hj]
      have : ((j : Int) ∈ K ++ [(i : Int)]) ↔ (j : Int) ∈ K := by
        simp only [List.mem_append, List.mem_singleton]
        constructor
        · rintro (h | h)
          · exact h
          · omega
        · exact .inl
      simp only [this]
    · rw [List.getElem?_eq_none (by rw [lay_len]; omega), List.getElem?_eq_none (by rw [lay_len]; omega)]
def okKids (d : List Nd) (i : Int) : List Int → List Int → Bool
  | _, [] => true
  | K, k :: r => (decide (1 ≤ k) && decide (k < (d.length : Int)) && !decide (k ∈ K) && (pr d k == i)) && okKids d i (K ++ [k]) r
def okNode (d : List Nd) (i : Nat) (n : Nd) (K : List Int) : Bool := mayB n && !(decide (i > 0) && n.1 == 1) && (kidsOf n == [] || holdsB n) && okKids d i K (kidsOf n)
def okAll (d : List Nd) : Nat → List Int → List Nd → Bool
  | _, _, [] => true
  | i, K, n :: r => okNode d i n K && okAll d (i + 1) (K ++ kidsOf n) r
theorem okKids_iff (d : List Nd) (i : Int) : ∀ (l K : List Int), K.Nodup → (okKids d i K l = true ↔ (∀ k, k ∈ l → 1 ≤ k ∧ k < d.length ∧ pr d k = i) ∧ (K ++ l).Nodup)
  | [], K, hK => by simp [okKids, hK]
  | k :: l, K, hK => by
    simp only [okKids, Bool.and_eq_true, decide_eq_true_eq, Bool.not_eq_true', decide_eq_false_iff_not, beq_iff_eq]
    have e : K ++ k :: l = (K ++ [k]) ++ l := by simp
    rw [e]
    constructor
    · rintro ⟨⟨⟨⟨h1, h2⟩, h3⟩, h4⟩, h5⟩
      have hK' : (K ++ [k]).Nodup := by
        rw [List.nodup_append]
        exact ⟨hK, by simp, fun a ha b hb => by simp at hb; rintro rfl; exact h3 (hb ▸ ha)⟩
      obtain ⟨h6, h7⟩ := (okKids_iff d i l (K ++ [k]) hK').1 h5
      refine ⟨fun x hx => ?_, h7⟩
      rcases List.mem_cons.1 hx with rfl | hx
      · exact ⟨h1, h2, h4⟩
      · exact h6 x hx
    · rintro ⟨h1, h2⟩
      have hK' : (K ++ [k]).Nodup := (List.nodup_append.1 h2).1
      have h3 : k ∉ K := fun hx => (List.nodup_append.1 hK').2.2 k hx k (by simp) rfl
      obtain ⟨h4, h5, h6⟩ := h1 k (List.mem_cons_self ..)
      exact ⟨⟨⟨⟨h4, h5⟩, h3⟩, h6⟩, (okKids_iff d i l (K ++ [k]) hK').2 ⟨fun x hx => h1 x (List.mem_cons_of_mem _ hx), h2⟩⟩
theorem okAll_iff (d : List Nd) : ∀ (l : List Nd) (i : Nat) (K : List Int), K.Nodup → (okAll d i K l = true ↔
    (∀ j n, l[j]? = some n → mayB n = true ∧ (i + j > 0 → n.1 ≠ 1) ∧ (kidsOf n ≠ [] → holdsB n = true) ∧ ∀ k, k ∈ kidsOf n → 1 ≤ k ∧ k < d.length ∧ pr d k = ((i + j : Nat) : Int)) ∧ (K ++ l.flatMap kidsOf).Nodup)
  | [], i, K, hK => by simp [okAll, hK]
  | n :: l, i, K, hK => by
    simp only [okAll, okNode, Bool.and_eq_true]
    rw [okKids_iff d i (kidsOf n) K hK]
    have e : K ++ (n :: l).flatMap kidsOf = (K ++ kidsOf n) ++ l.flatMap kidsOf := by simp
    rw [e]
    constructor
    · rintro ⟨⟨⟨⟨h1, h2⟩, h3⟩, h4, h5⟩, h6⟩
      obtain ⟨h7, h8⟩ := (okAll_iff d l (i + 1) (K ++ kidsOf n) h5).1 h6
      refine ⟨fun j m hj => ?_, h8⟩
      cases j with
      | zero =>
        simp only [List.getElem?_cons_zero, Option.some.injEq] at hj
        subst hj
        refine ⟨h1, fun hi hk => ?_, fun hne => ?_, fun k hk => ?_⟩
        · simp only [Nat.add_zero] at hi
          simp [hk, hi] at h2
        · cases hh : kidsOf n with
          | nil => exact absurd hh hne
          | cons a b => simpa [hh] using h3
        · exact h4 k hk
      | succ j =>
        have := h7 j m (by simpa using hj)
        rw [show i + (j + 1) = i + 1 + j by omega]
        exact this
    · rintro ⟨h1, h2⟩
      obtain ⟨g1, g2, g3, g4⟩ := h1 0 n rfl
      have h5 : (K ++ kidsOf n).Nodup := (List.nodup_append.1 h2).1
      refine ⟨⟨⟨⟨g1, ?_⟩, ?_⟩, g4, h5⟩, (okAll_iff d l (i + 1) (K ++ kidsOf n) h5).2 ⟨fun j m hj => ?_, h2⟩⟩
      · by_cases hi : i > 0
        · have := g2 (by omega); simp [hi, this]
        · simp [hi]
      · cases hh : kidsOf n with
        | nil => simp
        | cons a b => simp [g3 (by rw [hh]; simp)]
      · have := h1 (j + 1) m (by simpa using hj)
        rw [show i + 1 + j = i + (j + 1) by omega]
        exact this
theorem foldL_ok {ε σ β : Type} (ok : Nat → ε → σ → Bool) (nx : Nat → ε → σ → σ) (bad : β) (fin : σ → β) : ∀ (l : List ε) (i : Nat) (s : σ),
    foldL (fun i x s => if ok i x s then (.inl (nx i x s) : σ ⊕ β) else .inr bad) fin i l s = match l with
      | [] => fin s
      | x :: r => if ok i x s then foldL (fun i x s => if ok i x s then (.inl (nx i x s) : σ ⊕ β) else .inr bad) fin (i + 1) r (nx i x s) else bad
  | [], _, _ => rfl
  | x :: l, i, s => by
    show (match (if ok i x s then (.inl (nx i x s) : σ ⊕ β) else .inr bad) with | .inl s' => _ | .inr b => b) = _
    simp only
    cases ok i x s <;> rfl
theorem foldKids {β : Type} (d : List Nd) (i : Int) (bad : β) (fin : List Int → β) : ∀ (l : List Int) (j : Nat) (K : List Int),
    foldL (fun (_ : Nat) (k : Int) (K : List Int) => if (decide (1 ≤ k) && decide (k < (d.length : Int)) && !decide (k ∈ K) && (pr d k == i)) then (.inl (K ++ [k]) : List Int ⊕ β) else .inr bad) fin j l K = if okKids d i K l then fin (K ++ l) else bad
  | [], j, K => by simp [foldL, okKids]
  | k :: l, j, K => by
    rw [foldL_ok (fun _ k K => (decide (1 ≤ k) && decide (k < (d.length : Int)) && !decide (k ∈ K) && (pr d k == i))) (fun _ k K => K ++ [k])]
    by_cases hc : (decide (1 ≤ k) && decide (k < (d.length : Int)) && !decide (k ∈ K) && (pr d k == i)) = true
    · have e2 : okKids d i K (k :: l) = okKids d i (K ++ [k]) l := by show (_ && _) = _; rw [hc, Bool.true_and]
      simp only [if_pos hc, e2, foldKids d i bad fin l (j + 1) (K ++ [k])]
      simp
    · have e2 : okKids d i K (k :: l) = false := by show (_ && _) = _; rw [Bool.eq_false_iff.2 hc, Bool.false_and]
      simp only [if_neg hc, e2]
      simp
theorem foldNodes {β : Type} (d : List Nd) (bad : β) (fin : List Int → β) : ∀ (l : List Nd) (i : Nat) (K : List Int),
    foldL (fun (i : Nat) (n : Nd) (K : List Int) => if okNode d i n K then (.inl (K ++ kidsOf n) : List Int ⊕ β) else .inr bad) fin i l K = if okAll d i K l then fin (K ++ l.flatMap kidsOf) else bad
  | [], i, K => by simp [foldL, okAll]
  | n :: l, i, K => by
    rw [foldL_ok (fun i n K => okNode d i n K) (fun i n K => K ++ kidsOf n)]
    by_cases hc : okNode d i n K = true
    · have e2 : okAll d i K (n :: l) = okAll d (i + 1) (K ++ kidsOf n) l := by show (_ && _) = _; rw [hc, Bool.true_and]
      simp only [if_pos hc, e2, foldNodes d bad fin l (i + 1) (K ++ kidsOf n)]
      simp
    · have e2 : okAll d i K (n :: l) = false := by show (_ && _) = _; rw [Bool.eq_false_iff.2 hc, Bool.false_and]
      simp only [if_neg hc, e2]
      simp
theorem foldL_scanI {ε β : Type} (p : Nat → ε → Bool) (b e : β) : ∀ (l : List ε) (i : Nat), (∃ j x, l[j]? = some x ∧ p (i + j) x = true) ∧ foldL (fun (i : Nat) (x : ε) (_ : Unit) => if p i x then (.inr b : Unit ⊕ β) else .inl ()) (fun _ => e) i l () = b ∨
    (∀ j x, l[j]? = some x → p (i + j) x = false) ∧ foldL (fun (i : Nat) (x : ε) (_ : Unit) => if p i x then (.inr b : Unit ⊕ β) else .inl ()) (fun _ => e) i l () = e
  | [], i => .inr ⟨fun j x h => by simp at h, rfl⟩
  | y :: l, i => by
    cases hp : p i y with
    | true => exact .inl ⟨⟨0, y, rfl, hp⟩, by unfold foldL; simp [hp]⟩
    | false =>
      rcases foldL_scanI p b e l (i + 1) with ⟨⟨j, x, h1, h2⟩, h3⟩ | ⟨h1, h3⟩
      · refine .inl ⟨⟨j + 1, x, by simpa using h1, by rw [show i + (j + 1) = i + 1 + j by omega]; exact h2⟩, ?_⟩
        unfold foldL
        simp only [hp, Bool.false_eq_true, if_false]
        exact h3
      · refine .inr ⟨fun j x hj => ?_, ?_⟩
        · cases j with
          | zero => simp only [List.getElem?_cons_zero, Option.some.injEq] at hj; subst hj; exact hp
          | succ j => rw [show i + (j + 1) = i + 1 + j by omega]; exact h1 j x (by simpa using hj)
        · unfold foldL
          simp only [hp, Bool.false_eq_true, if_false]
          exact h3
end Go.En.Pl
