/- Text O2 of this seat: written by a program of ours, or by hand; checked by Lean. -/
import Derived.Test.YtadpiodjbcjlcaaO1
set_option linter.unusedVariables false
set_option linter.unusedSimpArgs false
namespace Go.En.Pl
/-! -/
def mayB (n : Nd) : Bool :=
  if n.1 = 2 then !(n.2.1 == []) && (n.2.2.1 == []) && decide (n.2.2.2.1.length ≤ 30) && decide ((n.2.2.2.1.map (·.1)).Nodup)
  else decide (1 ≤ n.1) && decide (n.1 ≤ 4) && (n.2.1 == []) && (n.2.2.2.1.length == 0) && !n.2.2.2.2.2.2.1 && !n.2.2.2.2.2.2.2 && (n.1 != 1 || n.2.2.1 == [])
def mputs (acc : List (Bs × Bool)) (l : List At) : List (Bs × Bool) := l.foldl (fun s x => mput (fun (a b : Bs) => a == b) x.1 true s) acc
theorem mput_keys (k : Bs) : ∀ (l : List (Bs × Bool)), (k ∈ l.map (·.1) → (mput (fun (a b : Bs) => a == b) k true l).map (·.1) = l.map (·.1)) ∧ (k ∉ l.map (·.1) → (mput (fun (a b : Bs) => a == b) k true l).map (·.1) = l.map (·.1) ++ [k])
  | [] => ⟨fun h => by simp at h, fun _ => rfl⟩
  | p :: l => by
    have ih := mput_keys k l
    cases hk : k == p.1 with
    | true =>
      have e : k = p.1 := by simpa using hk
      simp only [mput, hk, cond_true]
      refine ⟨fun _ => by simp [e], fun h => absurd (by simp [e]) h⟩
    | false =>
      have e : ¬ k = p.1 := by simpa using hk
      simp only [mput, hk, cond_false]
      refine ⟨fun h => ?_, fun h => ?_⟩
      · have : k ∈ l.map (·.1) := by simpa [e] using h
        simp only [List.map_cons, ih.1 this]
      · have : k ∉ l.map (·.1) := fun hx => h (by simp only [List.map_cons, List.mem_cons]; exact .inr hx)
        simp only [List.map_cons, ih.2 this, List.cons_append]
theorem mputs_len : ∀ (l : List At) (acc : List (Bs × Bool)), (mputs acc l).length ≤ acc.length + l.length ∧ ((mputs acc l).length = acc.length + l.length ↔ (l.map (·.1)).Nodup ∧ ∀ x, x ∈ l.map (·.1) → x ∉ acc.map (·.1))
  | [], acc => by simp [mputs]
  | a :: l, acc => by
    have hk := mput_keys a.1 acc
    have ih := mputs_len l (mput (fun (a b : Bs) => a == b) a.1 true acc)
    have e1 : mputs acc (a :: l) = mputs (mput (fun (a b : Bs) => a == b) a.1 true acc) l := rfl
    rw [e1]
    by_cases hm : a.1 ∈ acc.map (·.1)
    · have hl : (mput (fun (a b : Bs) => a == b) a.1 true acc).length = acc.length := by have := congrArg List.length (hk.1 hm); simpa using this
      rw [hl] at ih
      refine ⟨by simp only [List.length_cons]; omega, ⟨fun h => ?_, fun h => ?_⟩⟩
      · simp only [List.length_cons] at h; have := ih.1; omega
      · exact absurd hm (h.2 _ (by simp))
    · have hl : (mput (fun (a b : Bs) => a == b) a.1 true acc).length = acc.length + 1 := by have := congrArg List.length (hk.2 hm); simpa using this
      rw [hl, hk.2 hm] at ih
      refine ⟨by simp only [List.length_cons]; omega, ?_⟩
      rw [List.length_cons, show acc.length + (l.length + 1) = acc.length + 1 + l.length by omega, ih.2]
      simp only [List.map_cons, List.map_nil, List.nodup_cons, List.mem_append, List.mem_singleton, not_or, List.mem_cons, List.not_mem_nil, or_false]
      constructor
      · rintro ⟨h1, h2⟩
        refine ⟨⟨fun hx => (h2 _ hx).2 rfl, h1⟩, fun x hx => ?_⟩
        rcases hx with rfl | hx
        · exact hm
        · exact (h2 x hx).1
      · rintro ⟨⟨h1, h2⟩, h3⟩
        exact ⟨h2, fun x hx => ⟨h3 x (.inr hx), fun e => h1 (e ▸ hx)⟩⟩
theorem mputs_nodup (l : List At) : ((((mputs [] l).length : Nat) : Int) == (l.length : Int)) = decide ((l.map (·.1)).Nodup) := by
  have := (mputs_len l []).2
  simp only [List.length_nil, Nat.zero_add, List.map_nil, List.not_mem_nil, not_false_eq_true, implies_true, and_true] at this
  rw [Bool.eq_iff_iff, beq_iff_eq, decide_eq_true_eq, ← this]
  omega
theorem foldL_mputs {β : Type} (fin : List (Bs × Bool) → β) : ∀ (l : List At) (s : List (Bs × Bool)) (i : Nat), foldL (fun (_ : Nat) (x : At) (s : List (Bs × Bool)) => (.inl (mput (fun (a b : Bs) => a == b) x.1 true s) : List (Bs × Bool) ⊕ β)) fin i l s = fin (mputs s l)
  | [], s, _ => rfl
  | x :: l, s, i => by
    unfold foldL
    simp only
    rw [foldL_mputs fin l _ (i + 1)]
    rfl
theorem mputLen (k : Bs) (s : List (Bs × Bool)) : (mput (fun (a b : Bs) => a == b) k true s).length ≤ s.length + 1 := by
  have := mput_keys k s
  by_cases h : k ∈ s.map (·.1)
  · have := congrArg List.length (this.1 h); simp at this; omega
  · have := congrArg List.length (this.2 h); simp at this; omega
theorem domMay (n : Nd) (h : n.2.2.2.1.length ≤ 4000) : dom_may_ (Ev.upto 5000) ((n, ()), ()) = some ((mayB n, ()), ()) := by
  unfold dom_may_ mayB
  by_cases hk : n.1 = 2
  · simp only [hk, bne_self_eq_false, cond_false, if_true]
    refine it_listB (l := n.2.2.2.1) (σ := List (Bs × Bool)) (fun i s => (((n.2.2.2.1, ((n.2.2.2.1.length : Int), ((i : Int), ())))), ((n, ()), (s, ())))) (fun _ x s => .inl (mput (fun (a b : Bs) => a == b) x.1 true s)) (fun s => ((), ((n, ()), (s, ())))) (fun i s => s.length ≤ i) [] rfl (Nat.le_refl _) (by omega) (fun i s hi hl => ⟨?_, fun s' e => ?_⟩) (fun s _ => ?_) ?_
    · have hm : s.length < maxB := by simp only [maxB]; omega
      simp only [lenLt, decide_eq_true hi, cond_true, idx_nat hi, Option.bind_some, decide_eq_true hm, wrapS (show i < 1000000 by omega)]
    · simp only [Sum.inl.injEq] at e
      subst e
      have := mputLen n.2.2.2.1[i].1 s
      omega
    · simp only [lenLt, Nat.lt_irrefl, decide_false, cond_false]
    · rw [foldL_mputs]
      simp only [mputs_nodup, show (30 : Int) = ((30 : Nat) : Int) from rfl, Int.ofNat_le]
      cases (n.2.1 == []) <;> cases (n.2.2.1 == []) <;> by_cases h3 : n.2.2.2.1.length ≤ 30 <;> simp [h3]
  · have h1 : (n.1 != 2) = true := by simpa using hk
    simp only [h1, cond_true, if_neg hk]
    have h0 : ((n.2.2.2.1.length : Int) == 0) = (n.2.2.2.1.length == 0) := by rw [Bool.eq_iff_iff]; simp
    simp only [h0, ge_iff_le]
    by_cases h2 : 1 ≤ n.1 <;> by_cases h3 : n.1 ≤ 4 <;> cases (n.2.1 == []) <;> cases (n.2.2.2.1.length == 0) <;> cases n.2.2.2.2.2.2.1 <;> cases n.2.2.2.2.2.2.2 <;> cases (n.1 != 1) <;> simp [h2, h3]
def inner (l : List At) (a : Bs) : Nat → Bool
  | 0 => false
  | i + 1 => inner l a i || (match l[i]? with | some x => a == x.1 | none => false)
theorem refMay (n : Nd) (h : n.2.2.2.1.length ≤ 4000) : pounceref16_May_ (Ev.upto 5000) ((n, ()), ()) = some ((mayB n, ()), ()) := by
  unfold pounceref16_May_
  have h0 : ((n.2.2.2.1.length : Int) == 0) = (n.2.2.2.1.length == 0) := by rw [Bool.eq_iff_iff]; simp
  have hb : ∀ (K : ((Bool × Unit) × ((Nd × Unit) × Unit)) → Option ((Bool × Unit) × Unit)), ((bif ((n.2.2.2.1.length : Int) == 0) == true then bif (!n.2.2.2.2.2.2.1) == true then bif (!n.2.2.2.2.2.2.2) == true then some ((n.2.1 == [], ()), ((n, ()), ())) else some ((false, ()), ((n, ()), ())) else some ((false, ()), ((n, ()), ())) else some ((false, ()), ((n, ()), ()))) : Option ((Bool × Unit) × ((Nd × Unit) × Unit))).bind K
      = K (((n.2.2.2.1.length == 0) && !n.2.2.2.2.2.2.1 && !n.2.2.2.2.2.2.2 && (n.2.1 == []), ()), ((n, ()), ())) := by
    intro K
    rw [h0]
    cases (n.2.2.2.1.length == 0) <;> cases n.2.2.2.2.2.2.1 <;> cases n.2.2.2.2.2.2.2 <;> simp
  refine (hb _).trans ?_
  unfold mayB
  by_cases hk1 : n.1 = 1
  · simp only [hk1, beq_self_eq_true, cond_true]
    cases (n.2.2.2.1.length == 0) <;> cases n.2.2.2.2.2.2.1 <;> cases n.2.2.2.2.2.2.2 <;> cases (n.2.1 == []) <;> simp
  have e1 : (n.1 == 1) = false := by simpa using hk1
  by_cases hk3 : n.1 = 3
  · simp only [hk3, beq_self_eq_true, cond_true]
    cases (n.2.2.2.1.length == 0) <;> cases n.2.2.2.2.2.2.1 <;> cases n.2.2.2.2.2.2.2 <;> cases (n.2.1 == []) <;> simp
  have e3 : (n.1 == 3) = false := by simpa using hk3
  by_cases hk4 : n.1 = 4
  · simp only [hk4, beq_self_eq_true, cond_true]
    cases (n.2.2.2.1.length == 0) <;> cases n.2.2.2.2.2.2.1 <;> cases n.2.2.2.2.2.2.2 <;> cases (n.2.1 == []) <;> simp
  have e4 : (n.1 == 4) = false := by simpa using hk4
  by_cases hk2 : n.1 = 2
  · simp only [e1, e3, e4, cond_false, Option.bind_some, hk2, beq_self_eq_true, cond_true, if_true]
    refine it_listB (l := n.2.2.2.1) (σ := Unit) (fun i _ => ((((i : Int), ()), ((n, ()), ())))) (fun i x _ => if inner n.2.2.2.1 x.1 i then .inr (.inr ((false, ()), ())) else .inl ()) (fun _ => .inl ((), ((n, ()), ()))) (fun _ _ => True) () rfl trivial (by omega) (fun i s hi _ => ⟨?_, fun _ _ => trivial⟩) (fun s _ => ?_) ?_
    · simp only [lenLt, decide_eq_true hi, cond_true]
      refine it_listB (l := n.2.2.2.1.take i) (σ := Unit) (fun k _ => ((((i : Int), ((k : Int), ())), ((n, ()), ())))) (fun _ y _ => if n.2.2.2.1[i].1 == y.1 then .inr (.inr ((false, ()), ())) else .inl ()) (fun _ => .inl (((i : Int), ()), ((n, ()), ()))) (fun _ _ => True) () rfl trivial (by simp; omega) (fun k s hk _ => ⟨?_, fun _ _ => trivial⟩) (fun s _ => ?_) ?_
      · have hk' : k < i := by simp at hk; omega
        have hkl : k < n.2.2.2.1.length := by omega
        simp only [lenLt, decide_eq_true hk', cond_true, idx_nat hi, idx_nat hkl, Option.bind_some, List.getElem_take]
        cases hx : (n.2.2.2.1[i].1 == n.2.2.2.1[k].1)
        · simp only [cond_false, wrapS (show k < 1000000 by omega)]; rfl
        · rfl
      · have : (n.2.2.2.1.take i).length = i := by simp; omega
        rw [this]
        simp only [lenLt, Nat.lt_irrefl, decide_false, cond_false]
      · rw [foldL_scan]
        have hin : ∀ j, j ≤ n.2.2.2.1.length → ((n.2.2.2.1.take j).any fun y => n.2.2.2.1[i].1 == y.1) = inner n.2.2.2.1 n.2.2.2.1[i].1 j := by
          intro j
          induction j with
          | zero => intro _; rfl
          | succ j ih =>
            intro hj
            rw [List.take_succ_eq_append_getElem (by omega), List.any_append, ih (by omega)]
            simp only [List.any_cons, List.any_nil, Bool.or_false, inner, List.getElem?_eq_getElem (show j < n.2.2.2.1.length by omega)]
        rw [hin i (by omega)]
        cases inner n.2.2.2.1 n.2.2.2.1[i].1 i
        · simp only [Bool.false_eq_true, if_false, wrapS (show i < 1000000 by omega)]
        · simp
    · simp only [lenLt, Nat.lt_irrefl, decide_false, cond_false]
    ·
      have hall : ∀ (l : List At) (m : List At) (i : Nat), i = l.length → n.2.2.2.1 = l ++ m → (l.map (·.1)).Nodup → foldL (fun i (x : At) (_ : Unit) => if inner n.2.2.2.1 x.1 i then (.inr (.inr ((false, ()), ())) : Unit ⊕ ((Unit × ((Nd × Unit) × Unit)) ⊕ ((Bool × Unit) × Unit))) else .inl ()) (fun _ => .inl ((), ((n, ()), ()))) i m () = if (n.2.2.2.1.map (·.1)).Nodup then .inl ((), ((n, ()), ())) else .inr ((false, ()), ()) := by
        intro l m
        induction m generalizing l with
        | nil => intro i hi e hn; rw [e, List.append_nil, if_pos hn]; rfl
        | cons x m ih =>
          intro i hi e hn
          have hin : inner n.2.2.2.1 x.1 i = decide (x.1 ∈ l.map (·.1)) := by
            have : ∀ j, j ≤ l.length → inner n.2.2.2.1 x.1 j = decide (x.1 ∈ (l.take j).map (·.1)) := by
              intro j
              induction j with
              | zero => intro _; simp [inner]
              | succ j ihj =>
                intro hj
                have hg : n.2.2.2.1[j]? = some l[j] := by rw [e, List.getElem?_append_left (by omega), List.getElem?_eq_getElem]
                simp only [inner, ihj (by omega), hg]
                rw [List.take_succ_eq_append_getElem (by omega)]
                rw [Bool.eq_iff_iff]
                simp only [Bool.or_eq_true, decide_eq_true_eq, beq_iff_eq, List.map_append, List.mem_append, List.map_cons, List.map_nil, List.mem_singleton]
            rw [this i (by omega), hi, List.take_length]
          unfold foldL
          rw [hin]
          by_cases hx : x.1 ∈ l.map (·.1)
          · rw [decide_eq_true hx]
            have : ¬ (n.2.2.2.1.map (·.1)).Nodup := by
              rw [e, List.map_append, List.map_cons, List.nodup_append]
              rintro ⟨_, _, h3⟩
              exact h3 _ hx _ (List.mem_cons_self ..) rfl
            rw [if_neg this]
            rfl
          · rw [decide_eq_false hx]
            simp only [Bool.false_eq_true, if_false]
            refine ih (l ++ [x]) (i + 1) (by simp [hi]) (by rw [e]; simp) ?_
            rw [List.map_append, List.nodup_append]
            refine ⟨hn, by simp, fun a ha b hb => ?_⟩
            simp only [List.map_cons, List.map_nil, List.mem_singleton] at hb
            rintro rfl
            exact hx (hb ▸ ha)
      rw [hall [] n.2.2.2.1 0 rfl rfl (by simp)]
      have h30 : decide ((n.2.2.2.1.length : Int) ≤ 30) = decide (n.2.2.2.1.length ≤ 30) := by
        by_cases h : n.2.2.2.1.length ≤ 30
        · rw [decide_eq_true h, decide_eq_true (by omega)]
        · rw [decide_eq_false h, decide_eq_false (by omega)]
      by_cases hn : (n.2.2.2.1.map (·.1)).Nodup
      · rw [if_pos hn]
        simp only [h30]
        cases (n.2.1 == []) <;> cases (n.2.2.1 == []) <;> simp [hn]
      · rw [if_neg hn]
        simp [hn]
  have e2 : (n.1 == 2) = false := by simpa using hk2
  simp only [e1, e3, e4, e2, cond_false, Option.bind_some, if_neg hk2]
  have : ¬ (1 ≤ n.1 ∧ n.1 ≤ 4) := by omega
  by_cases h1 : 1 ≤ n.1
  · have : ¬ n.1 ≤ 4 := fun h => this ⟨h1, h⟩
    simp [this]
  · simp [h1]
def holdsB (n : Nd) : Bool := n.1 == 1 || n.1 == 2
theorem domHolds (n : Nd) : dom_holds_ (Ev.upto 5000) ((n, ()), ()) = some ((holdsB n, ()), ()) := by
  unfold dom_holds_ holdsB
  cases (n.1 == 1) <;> simp
theorem refHolds (n : Nd) : pounceref16_holds_ (Ev.upto 5000) ((n, ()), ()) = some ((holdsB n, ()), ()) := by
  unfold pounceref16_holds_ holdsB
  cases (n.1 == 1) <;> simp
end Go.En.Pl
