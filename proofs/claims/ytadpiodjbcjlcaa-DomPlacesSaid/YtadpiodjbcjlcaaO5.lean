/- Text O5 of this seat: written by a program of ours, or by hand; checked by Lean. -/
import Derived.Test.YtadpiodjbcjlcaaO4
set_option linter.unusedVariables false
set_option linter.unusedSimpArgs false
namespace Go.En.Pl
/-! -/
theorem flat_at {α β : Type} (f : α → List β) : ∀ {l : List α}, (l.flatMap f).Nodup → ∀ {i j : Nat} {x y : α} {b : β}, l[i]? = some x → l[j]? = some y → b ∈ f x → b ∈ f y → i = j
  | [], _, i, j, x, y, b, hi, _, _, _ => by simp at hi
  | a :: l, h, i, j, x, y, b, hi, hj, hx, hy => by
    rw [List.flatMap_cons, List.nodup_append] at h
    obtain ⟨h1, h2, h3⟩ := h
    cases i with
    | zero =>
      cases j with
      | zero => rfl
      | succ j =>
        simp only [List.getElem?_cons_zero, Option.some.injEq] at hi
        subst hi
        exact absurd rfl (h3 b hx b (List.mem_flatMap.2 ⟨y, List.mem_of_getElem? (by simpa using hj), hy⟩))
    | succ i =>
      cases j with
      | zero =>
        simp only [List.getElem?_cons_zero, Option.some.injEq] at hj
        subst hj
        exact absurd rfl (h3 b hy b (List.mem_flatMap.2 ⟨x, List.mem_of_getElem? (by simpa using hi), hx⟩))
      | succ j => exact congrArg (· + 1) (flat_at f h2 (by simpa using hi) (by simpa using hj) hx hy)
def kidsB (d : List Nd) (n : Nd) : Bool := !((!(kidsOf n == []) && !holdsB n) || decide ((kidsOf n).length > d.length)) && (kidsOf n).all fun k => decide (1 ≤ k) && decide (k < (d.length : Int))
theorem refKids (d : List Nd) (h : Sm d) (i : Nat) (hi : i < d.length) : pounceref16_kids_ (Ev.upto 5000) ((d, ((i : Int), ())), ()) = some ((kidsB d d[i], ()), ()) := by
  unfold pounceref16_kids_
  have hm2 : (kidsOf d[i]).length ≤ 4000 := (h.2 _ (List.getElem_mem hi)).2
  have hgt : decide (((kidsOf d[i]).length : Int) > 0) = !(kidsOf d[i] == []) := (lenGt (kidsOf d[i]).length 0).trans (kids0 _)
  have flag : ∀ (X : (List Int × Bool × Unit) × ((List Nd × Unit) × Unit) → Option ((Bool × Unit) × Unit)), (((bif (!(kidsOf d[i] == [])) == true then (bif (!holdsB d[i]) == false then some ((kidsOf d[i], (decide ((kidsOf d[i]).length > d.length), ())), ((d, ()), ())) else some ((kidsOf d[i], (true, ())), ((d, ()), ()))) else some ((kidsOf d[i], (decide ((kidsOf d[i]).length > d.length), ())), ((d, ()), ()))) : Option _).bind X)
      = X ((kidsOf d[i], ((!(kidsOf d[i] == []) && !holdsB d[i]) || decide ((kidsOf d[i]).length > d.length), ())), ((d, ()), ())) := by
    intro X
    cases (kidsOf d[i] == []) <;> cases holdsB d[i] <;> simp
  simp only [idx_nat hi, Option.bind_some, refHolds d[i], hgt, lenGt]
  refine (flag _).trans ?_
  unfold kidsB
  cases hfl : ((!(kidsOf d[i] == []) && !holdsB d[i]) || decide ((kidsOf d[i]).length > d.length)) with
  | true => simp
  | false =>
    simp only [cond_false, Bool.not_false, Bool.true_and]
    refine it_listB (l := kidsOf d[i]) (σ := Unit) (fun j _ => ((kidsOf d[i], ((j : Int), ())), ((d, ()), ()))) (fun _ k _ => if !(decide (1 ≤ k) && decide (k < (d.length : Int))) then .inr (.inr ((false, ()), ())) else .inl ()) (fun _ => .inl ((), ())) (fun _ _ => True) () rfl trivial (by omega) (fun j s hj _ => ⟨?_, fun _ _ => trivial⟩) (fun s _ => ?_) ?_
    · simp only [lenLt, decide_eq_true hj, cond_true, idx_nat hj, Option.bind_some, lt_one, ge_len]
      generalize (kidsOf d[i])[j] = k
      by_cases k1 : 1 ≤ k
      case neg => simp [k1]
      by_cases k2 : k < (d.length : Int)
      case neg => simp [k1, k2]
      simp only [decide_eq_true k1, decide_eq_true k2, Bool.not_true, beq_self_eq_true, cond_true, Option.bind_some, cond_false, Bool.and_self, Bool.false_eq_true, if_false, wrapS (show j < 1000000 by omega)]
    · simp only [lenLt, Nat.lt_irrefl, decide_false, cond_false]
    · rw [foldL_scan]
      have : ((kidsOf d[i]).any fun k => !(decide (1 ≤ k) && decide (k < (d.length : Int)))) = !((kidsOf d[i]).all fun k => decide (1 ≤ k) && decide (k < (d.length : Int))) := by rw [List.not_all_eq_any_not]
      rw [this]
      cases ((kidsOf d[i]).all fun k => decide (1 ≤ k) && decide (k < (d.length : Int))) <;> rfl
theorem wrapC {i : Nat} (h : i < 100000000) : IntKind.wrap .i64 ((i : Int) + 1) = ((i + 1 : Nat) : Int) := by
  rw [wrap64 (by omega) (by omega)]; rfl
theorem foldL_acc {ε σ β : Type} (nx : Nat → ε → σ → σ) (fin : σ → β) : ∀ (l : List ε) (i : Nat) (s : σ), foldL (fun i x s => (.inl (nx i x s) : σ ⊕ β)) fin i l s = fin ((l.foldl (fun (p : Nat × σ) x => (p.1 + 1, nx p.1 x p.2)) (i, s)).2)
  | [], _, _ => rfl
  | x :: l, i, s => by
    unfold foldL
    simp only
    rw [foldL_acc nx fin l (i + 1) (nx i x s)]
    rfl
theorem fold2 {ε σ : Type} (nx : ε → σ → σ) : ∀ (l : List ε) (i : Nat) (s : σ), (l.foldl (fun (p : Nat × σ) x => (p.1 + 1, nx x p.2)) (i, s)).2 = l.foldl (fun s x => nx x s) s
  | [], _, _ => rfl
  | x :: l, i, s => by rw [List.foldl_cons, List.foldl_cons]; exact fold2 nx l (i + 1) (nx x s)
theorem foldCount (x : Int) : ∀ (l : List Int) (c : Nat), l.foldl (fun (s : Nat) k => if k = x then s + 1 else s) c = c + l.count x
  | [], c => by simp
  | k :: l, c => by
    rw [List.foldl_cons, foldCount x l]
    by_cases h : k = x
    · subst h; simp [List.count_cons]; omega
    · rw [if_neg h, List.count_cons, if_neg (by simpa using h)]
      rfl
theorem foldCounts (x : Int) : ∀ (l : List Nd) (c : Nat), l.foldl (fun (s : Nat) n => s + (kidsOf n).count x) c = c + (l.flatMap kidsOf).count x
  | [], c => by simp
  | n :: l, c => by
    rw [List.foldl_cons, foldCounts x l, List.flatMap_cons, List.count_append]
    omega
theorem countLe (l : List Nd) (h : ∀ n, n ∈ l → (kidsOf n).length ≤ 4000) (x : Int) : (l.flatMap kidsOf).count x ≤ l.length * 4000 := by
  induction l with
  | nil => simp
  | cons n l ih =>
    rw [List.flatMap_cons, List.count_append]
    have h1 := h n (List.mem_cons_self ..)
    have h2 : (kidsOf n).count x ≤ (kidsOf n).length := List.count_le_length
    have h3 := ih fun m hm => h m (List.mem_cons_of_mem _ hm)
    simp only [List.length_cons, Nat.add_mul]
    omega
theorem foldCounts' (x : Int) (d : List Nd) : ∀ (i : Nat), i ≤ d.length → (d.take i).foldl (fun (s : Nat) n => s + (kidsOf n).count x) 0 = ((d.take i).flatMap kidsOf).count x := fun i _ => by rw [foldCounts]; omega
theorem refTimes (d : List Nd) (h : Sm d) (hl : d.length ≤ 300) (x : Int) : pounceref16_times_ (Ev.upto 5000) ((d, (x, ())), ()) = some (((((allKids d).count x : Nat) : Int), ()), ()) := by
  unfold pounceref16_times_
  refine it_listB (l := d) (σ := Nat) (fun i c => (((x, ((c : Int), ((i : Int), ())))), ((d, ()), ()))) (fun _ n c => .inl (c + (kidsOf n).count x)) (fun c => (((c : Int), ()), ())) (fun i c => c ≤ i * 4000) 0 rfl (by simp) (by omega) (fun i c hi hc => ⟨?_, fun c' e => ?_⟩) (fun s _ => ?_) ?_
  · have hm2 : (kidsOf d[i]).length ≤ 4000 := (h.2 _ (List.getElem_mem hi)).2
    simp only [lenLt, decide_eq_true hi, cond_true]
    refine it_listB (l := kidsOf d[i]) (σ := Nat) (fun j c => (((x, ((c : Int), ((i : Int), ((j : Int), ()))))), ((d, ()), ()))) (fun _ k c => .inl (if k = x then c + 1 else c)) (fun c => ((x, ((c : Int), ((i : Int), ()))), ((d, ()), ()))) (fun j c' => c' ≤ i * 4000 + j) c rfl (Nat.le_trans hc (Nat.le_add_right _ _)) (by omega) (fun j c hj hc => ⟨?_, fun c' e => ?_⟩) (fun s _ => ?_) ?_
    · simp only [idx_nat hi, Option.bind_some, lenLt, decide_eq_true hj, cond_true, idx_nat hj]
      have hil : i ≤ 300 := by omega
      have hjl : j ≤ 4000 := by omega
      by_cases hk : (kidsOf d[i])[j] = x
      · have hb : ((kidsOf d[i])[j] == x) = true := by simpa using hk
        simp only [hb, cond_true, Option.bind_some, if_pos hk, wrapC (show c < 100000000 by omega), wrapS (show j < 1000000 by omega)]
      · have hb : ((kidsOf d[i])[j] == x) = false := by simpa using hk
        simp only [hb, cond_false, Option.bind_some, if_neg hk, wrapS (show j < 1000000 by omega)]
    · simp only [Sum.inl.injEq] at e
      subst e
      split <;> omega
    · simp only [idx_nat hi, Option.bind_some, lenLt, Nat.lt_irrefl, decide_false, cond_false]
    · rw [foldL_acc (fun _ k c => if k = x then c + 1 else c), fold2 (fun k c => if k = x then c + 1 else c), foldCount]
      simp only [wrapS (show i < 1000000 by omega)]
  · simp only [Sum.inl.injEq] at e
    subst e
    have h2 : (kidsOf d[i]).count x ≤ (kidsOf d[i]).length := List.count_le_length
    have hm2 : (kidsOf d[i]).length ≤ 4000 := (h.2 _ (List.getElem_mem hi)).2
    omega
  · simp only [lenLt, Nat.lt_irrefl, decide_false, cond_false]
  · rw [foldL_acc (fun _ n c => c + (kidsOf n).count x), fold2 (fun n c => c + (kidsOf n).count x), foldCounts]
    simp [allKids]
theorem refHas (d : List Nd) (h : Sm d) (p : Nat) (hp : p < d.length) (x : Int) : pounceref16_has_ (Ev.upto 5000) ((d, ((p : Int), (x, ()))), ()) = some ((decide (x ∈ kidsOf d[p]), ()), ()) := by
  unfold pounceref16_has_
  have hm2 : (kidsOf d[p]).length ≤ 4000 := (h.2 _ (List.getElem_mem hp)).2
  refine it_listB (l := kidsOf d[p]) (σ := Unit) (fun j _ => ((((p : Int), (x, ((j : Int), ())))), ((d, ()), ()))) (fun _ k _ => if k == x then .inr (.inr ((true, ()), ())) else .inl ()) (fun _ => .inl ((), ())) (fun _ _ => True) () rfl trivial (by omega) (fun j s hj _ => ⟨?_, fun _ _ => trivial⟩) (fun s _ => ?_) ?_
  · simp only [idx_nat hp, Option.bind_some, lenLt, decide_eq_true hj, cond_true, idx_nat hj]
    cases ((kidsOf d[p])[j] == x)
    · simp only [cond_false, Bool.false_eq_true, if_false, wrapS (show j < 1000000 by omega)]
    · simp
  · simp only [idx_nat hp, Option.bind_some, lenLt, Nat.lt_irrefl, decide_false, cond_false]
  · rw [foldL_scan]
    have : ((kidsOf d[p]).any fun k => k == x) = decide (x ∈ kidsOf d[p]) := by
      rw [Bool.eq_iff_iff, List.any_eq_true, decide_eq_true_eq]
      constructor
      · rintro ⟨k, h1, h2⟩; rw [← (by simpa using h2 : k = x)]; exact h1
      · exact fun h => ⟨x, h, by simp⟩
    rw [this]
    by_cases hx : x ∈ kidsOf d[p] <;> simp [hx]
def placedB (d : List Nd) (i : Nat) : Bool :=
  if pr d i = -1 then (allKids d).count (i : Int) == 0
  else decide (0 < i) && decide (0 ≤ pr d i) && decide (pr d i < (d.length : Int)) && (match idx d (pr d i) with | some m => holdsB m && decide ((i : Int) ∈ kidsOf m) | none => false) && ((allKids d).count (i : Int) == 1)
theorem refPlaced (d : List Nd) (h : Sm d) (hl : d.length ≤ 300) (i : Nat) (hi : i < d.length) : pounceref16_placed_ (Ev.upto 5000) ((d, ((i : Int), ())), ()) = some ((placedB d i, ()), ()) := by
  unfold pounceref16_placed_ placedB
  have hpr : pr d (i : Int) = parOf d[i] := pr_nat (List.getElem?_eq_getElem hi)
  simp only [idx_nat hi, Option.bind_some, refTimes d h hl, hpr]
  by_cases h1 : parOf d[i] = -1
  · have b1 : (d[i].2.2.2.2.1 == -1) = true := by simpa using h1
    simp only [b1, cond_true, if_pos h1]
    have : ∀ c : Nat, ((c : Int) == 0) = (c == 0) := fun c => by rw [Bool.eq_iff_iff]; simp
    simp only [this]
  · have b1 : (d[i].2.2.2.2.1 == -1) = false := by simpa using h1
    simp only [b1, cond_false, if_neg h1, natGt0]
    by_cases h2 : i > 0
    case neg => simp [h2]
    by_cases h3 : 0 ≤ parOf d[i]
    case neg =>
      have : ¬ d[i].2.2.2.2.1 ≥ 0 := h3
      simp [h2, h3, this]
    by_cases h4 : parOf d[i] < (d.length : Int)
    case neg =>
      have : d[i].2.2.2.2.1 ≥ 0 := h3
      have h4' : ¬ d[i].2.2.2.2.1 < (d.length : Int) := h4
      simp [h2, h3, this, h4, h4']
    have e3 : decide (d[i].2.2.2.2.1 ≥ 0) = true := decide_eq_true h3
    have e4 : decide (d[i].2.2.2.2.1 < (d.length : Int)) = true := decide_eq_true h4
    obtain ⟨p, hp⟩ := Int.eq_ofNat_of_zero_le h3
    have hpl : p < d.length := by omega
    have hp' : d[i].2.2.2.2.1 = (p : Int) := hp
    simp only [decide_eq_true h2, beq_self_eq_true, cond_true, e3, e4, hp', hp, idx_nat hpl, Option.bind_some, refHolds d[p], refHas d h p hpl, show decide (0 ≤ (p : Int)) = true from decide_eq_true (by omega), show decide ((p : Int) < (d.length : Int)) = true from decide_eq_true (by omega), show decide (0 < i) = true from decide_eq_true h2, Bool.true_and]
    have : ∀ c : Nat, ((c : Int) == 1) = (c == 1) := fun c => by rw [Bool.eq_iff_iff]; simp; omega
    simp only [this]
    cases holdsB d[p] <;> by_cases hx : (i : Int) ∈ kidsOf d[p] <;> simp [hx]
end Go.En.Pl
