/- Text BO of this seat: written by a program of ours, or by hand; checked by Lean. -/
import Derived.Test.YtljnjjnjdanajaaGreatDoorG
import Derived.Test.YtljnjjnjdanajaaGreatDoorW
set_option linter.unusedSimpArgs false
set_option linter.unusedVariables false
namespace Go.En.Pl
/-! -/
abbrev At := Bs × Bs
abbrev Nd := Int × (Bs × (Bs × ((List At) × (Int × ((List Int) × (Bool × Bool))))))
def foldL {ε σ β : Type} (g : Nat → ε → σ → σ ⊕ β) (fin : σ → β) : Nat → List ε → σ → β
  | _, [], s => fin s
  | i, x :: l, s => match g i x s with
    | .inl s' => foldL g fin (i + 1) l s'
    | .inr b => b
theorem it_list {α β σ ε : Type} {f : α → Option (α ⊕ β)} {l : List ε} {N : Nat} (st : Nat → σ → α) (g : Nat → ε → σ → σ ⊕ β) (fin : σ → β) (I : Nat → σ → Prop) (s0 : σ) (h0 : I 0 s0) (hN : l.length < N)
    (hs : ∀ i s (hi : i < l.length), I i s → f (st i s) = some (match g i l[i] s with | .inl s' => .inl (st (i + 1) s') | .inr b => .inr b) ∧ ∀ s', g i l[i] s = .inl s' → I (i + 1) s')
    (he : ∀ s, I l.length s → f (st l.length s) = some (.inr (fin s))) : (Ev.upto N).it f (st 0 s0) = some (foldL g fin 0 l s0) := by
  show iterN f N (st 0 s0) = _
  have key : ∀ (d i : Nat) (s : σ) (N : Nat), i + d = l.length → d < N → I i s → iterN f N (st i s) = some (foldL g fin i (l.drop i) s) := by
    intro d
    induction d with
    | zero =>
      intro i s N e hN hi
      have : i = l.length := by omega
      subst this
      cases N with
      | zero => omega
      | succ N =>
        unfold iterN
        rw [he s hi, List.drop_length]
        rfl
    | succ d ih =>
      intro i s N e hN hi
      have hlt : i < l.length := by omega
      obtain ⟨h1, h2⟩ := hs i s hlt hi
      cases N with
      | zero => omega
      | succ N =>
        unfold iterN
        rw [h1, List.drop_eq_getElem_cons hlt]
        unfold foldL
        cases hg : g i l[i] s with
        | inr b => rfl
        | inl s' => exact ih (i + 1) s' N (by omega) (by omega) (h2 s' hg)
  have := key l.length 0 s0 N (by omega) hN h0
  simpa using this
theorem it_listB {α β σ ε γ : Type} {f : α → Option (α ⊕ β)} {a0 : α} {k : β → Option γ} {r : Option γ} {l : List ε} {N : Nat} (st : Nat → σ → α) (g : Nat → ε → σ → σ ⊕ β) (fin : σ → β) (I : Nat → σ → Prop) (s0 : σ) (ha : a0 = st 0 s0) (h0 : I 0 s0) (hN : l.length < N)
    (hs : ∀ i s (hi : i < l.length), I i s → f (st i s) = some (match g i l[i] s with | .inl s' => .inl (st (i + 1) s') | .inr b => .inr b) ∧ ∀ s', g i l[i] s = .inl s' → I (i + 1) s')
    (he : ∀ s, I l.length s → f (st l.length s) = some (.inr (fin s))) (hr : k (foldL g fin 0 l s0) = r) : ((Ev.upto N).it f a0).bind k = r := by
  rw [ha, it_list st g fin I s0 h0 hN hs he]
  exact hr
theorem wrapS {i : Nat} (h : i < 1000000) : IntKind.wrap .i64 ((i : Int) + 1) = ((i + 1 : Nat) : Int) := by
  rw [wrap64 (by omega) (by omega)]; rfl
theorem lenLt (i n : Nat) : decide ((i : Int) < (n : Int)) = decide (i < n) := by
  by_cases h : i < n
  · rw [decide_eq_true h, decide_eq_true (by omega)]
  · rw [decide_eq_false h, decide_eq_false (by omega)]
theorem foldL_all {ε β : Type} (g : Nat → ε → Unit → Unit ⊕ β) (fin : Unit → β) : ∀ (l : List ε) (i : Nat), (∀ j (hj : j < l.length), g (i + j) l[j] () = .inl ()) → foldL g fin i l () = fin ()
  | [], _, _ => rfl
  | x :: l, i, h => by
    unfold foldL
    have h0 := h 0 (by simp)
    simp only [Nat.add_zero, List.getElem_cons_zero] at h0
    rw [h0]
    exact foldL_all g fin l (i + 1) fun j hj => by
      have := h (j + 1) (by simpa using hj)
      rw [show i + 1 + j = i + (j + 1) by omega]
      simpa using this
theorem intsRefl (l : List Int) (h : l.length ≤ 4000) : pounceref01_Ints_ (Ev.upto 5000) ((l, (l, ())), ()) = some ((true, ()), ()) := by
  unfold pounceref01_Ints_
  simp only [bne_self_eq_false, cond_false]
  refine it_listB (l := l) (σ := Unit) (fun i _ => ((l, (l, ((i : Int), ()))), ())) (fun _ _ _ => .inl ()) (fun _ => .inl ((), ())) (fun _ _ => True) () rfl trivial (by omega) (fun i s hi _ => ⟨?_, fun _ _ => trivial⟩) (fun s _ => ?_) (by rw [foldL_all _ _ _ _ (fun _ _ => rfl)])
  · simp only [lenLt, decide_eq_true hi, cond_true, idx_nat hi, Option.bind_some, bne_self_eq_false, cond_false, wrapS (show i < 1000000 by omega)]
  · simp only [lenLt, Nat.lt_irrefl, decide_false, cond_false]
theorem attrsRefl (l : List At) (h : l.length ≤ 4000) : pounceref14_Attrs_ (Ev.upto 5000) ((l, (l, ())), ()) = some ((true, ()), ()) := by
  unfold pounceref14_Attrs_
  simp only [bne_self_eq_false, cond_false]
  refine it_listB (l := l) (σ := Unit) (fun i _ => ((l, (l, ((i : Int), ()))), ())) (fun _ _ _ => .inl ()) (fun _ => .inl ((), ())) (fun _ _ => True) () rfl trivial (by omega) (fun i s hi _ => ⟨?_, fun _ _ => trivial⟩) (fun s _ => ?_) (by rw [foldL_all _ _ _ _ (fun _ _ => rfl)])
  · simp only [lenLt, decide_eq_true hi, cond_true, idx_nat hi, Option.bind_some, beq_self_eq_true, Bool.and_self, Bool.not_true, cond_false, wrapS (show i < 1000000 by omega)]
  · simp only [lenLt, Nat.lt_irrefl, decide_false, cond_false]
theorem oneRefl (n : Nd) (h1 : n.2.2.2.1.length ≤ 4000) (h2 : n.2.2.2.2.2.1.length ≤ 4000) : pounceref16_One_ (Ev.upto 5000) ((n, (n, ())), ()) = some ((true, ()), ()) := by
  unfold pounceref16_One_
  simp only [beq_self_eq_true, cond_true, attrsRefl _ h1, intsRefl _ h2, Option.bind_some]
def Sm (d : List Nd) : Prop := d.length ≤ 4000 ∧ ∀ n, n ∈ d → n.2.2.2.1.length ≤ 4000 ∧ n.2.2.2.2.2.1.length ≤ 4000
theorem sameRefl (d : List Nd) (h : Sm d) : pounceref16_Same_ (Ev.upto 5000) ((d, (d, ())), ()) = some ((true, ()), ()) := by
  unfold pounceref16_Same_
  simp only [bne_self_eq_false, cond_false]
  refine it_listB (l := d) (σ := Unit) (fun i _ => ((((i : Int), ()), ((d, ()), ((d, ()), ()))))) (fun _ _ _ => .inl ()) (fun _ => .inl ((), ())) (fun _ _ => True) () rfl trivial (by have := h.1; omega) (fun i s hi _ => ⟨?_, fun _ _ => trivial⟩) (fun s _ => ?_) (by rw [foldL_all _ _ _ _ (fun _ _ => rfl)])
  · have hm := h.2 _ (List.getElem_mem hi)
    have := h.1
    simp only [lenLt, decide_eq_true hi, cond_true, idx_nat hi, Option.bind_some, oneRefl _ hm.1 hm.2, Bool.not_true, cond_false, wrapS (show i < 1000000 by omega)]
  · simp only [lenLt, Nat.lt_irrefl, decide_false, cond_false]
def NdOk (n : Nd) : Prop := n.2.1.length ≤ 300 ∧ n.2.2.1.length ≤ 3000 ∧ n.2.2.2.1.length ≤ 40 ∧ n.2.2.2.2.2.1.length ≤ 400 ∧ ∀ a, a ∈ n.2.2.2.1 → a.1.length ≤ 300 ∧ a.2.length ≤ 2000
theorem lenGt (n : Nat) (k : Nat) : decide ((n : Int) > (k : Int)) = decide (n > k) := by
  by_cases h : n > k
  · rw [decide_eq_true h, decide_eq_true (by omega)]
  · rw [decide_eq_false h, decide_eq_false (by omega)]
theorem foldL_scan {ε β : Type} (p : ε → Bool) (b e : β) : ∀ (l : List ε) (i : Nat), foldL (fun (_ : Nat) (x : ε) (_ : Unit) => if p x then (.inr b : Unit ⊕ β) else .inl ()) (fun _ => e) i l () = if l.any p then b else e
  | [], _ => rfl
  | x :: l, i => by
    unfold foldL
    cases hp : p x with
    | true => simp [hp]
    | false => simp only [List.any_cons, hp, Bool.false_or]; exact foldL_scan p b e l (i + 1)
theorem bigNode (n : Nd) : ∃ b, pounceref16_BigNode_ (Ev.upto 5000) ((n, ()), ()) = some ((b, ()), ()) ∧ (b = false → NdOk n) := by
  unfold pounceref16_BigNode_
  simp only [show (300 : Int) = ((300 : Nat) : Int) from rfl, show (3000 : Int) = ((3000 : Nat) : Int) from rfl, show (40 : Int) = ((40 : Nat) : Int) from rfl, show (400 : Int) = ((400 : Nat) : Int) from rfl, show (2000 : Int) = ((2000 : Nat) : Int) from rfl, lenGt]
  by_cases h1 : n.2.1.length > 300
  · exact ⟨true, by simp [h1], by simp⟩
  by_cases h2 : n.2.2.1.length > 3000
  · exact ⟨true, by simp [h1, h2], by simp⟩
  by_cases h3 : n.2.2.2.1.length > 40
  · exact ⟨true, by simp [h1, h2, h3], by simp⟩
  by_cases h4 : n.2.2.2.2.2.1.length > 400
  · exact ⟨true, by simp [h1, h2, h3, h4], by simp⟩
  simp only [decide_eq_false h1, decide_eq_false h2, decide_eq_false h3, decide_eq_false h4, beq_self_eq_true, cond_true, Option.bind_some, cond_false]
  refine ⟨n.2.2.2.1.any fun x => decide (x.1.length > 300) || decide (x.2.length > 2000), it_listB (l := n.2.2.2.1) (σ := Unit) (fun i _ => ((((i : Int), ()), ((n, ()), ())))) (fun _ x _ => if (decide (x.1.length > 300) || decide (x.2.length > 2000)) then .inr (.inr ((true, ()), ())) else .inl ()) (fun _ => .inl ((), ())) (fun _ _ => True) () rfl trivial (by omega) (fun i s hi _ => ⟨?_, fun _ _ => trivial⟩) (fun s _ => ?_) ?_, fun ha => ⟨by omega, by omega, by omega, by omega, fun a hm => ?_⟩⟩
  · simp only [lenLt, decide_eq_true hi, cond_true, idx_nat hi, Option.bind_some, wrapS (show i < 1000000 by omega)]
    by_cases h5 : n.2.2.2.1[i].1.length > 300
    · simp [h5]
    · by_cases h6 : n.2.2.2.1[i].2.length > 2000
      · simp [h5, h6]
      · simp [h5, h6]
        exact wrap64 (by omega) (by omega)
  · simp only [lenLt, Nat.lt_irrefl, decide_false, cond_false]
  · rw [foldL_scan]
    cases (n.2.2.2.1.any fun x => decide (x.1.length > 300) || decide (x.2.length > 2000)) <;> rfl
  · simp only [List.any_eq_false, Bool.or_eq_true, decide_eq_true_eq, not_or] at ha
    have := ha a hm
    omega
def DocOk (d : List Nd) : Prop := d.length ≤ 310 ∧ ∀ n, n ∈ d → NdOk n
theorem DocOk.sm {d : List Nd} (h : DocOk d) : Sm d := ⟨by have := h.1; omega, fun n hn => by have := h.2 n hn; unfold NdOk at this; omega⟩
theorem big (d : List Nd) : ∃ b, pounceref16_Big_ (Ev.upto 5000) ((d, ()), ()) = some ((b, ()), ()) ∧ (b = false → DocOk d) := by
  unfold pounceref16_Big_
  simp only [show (310 : Int) = ((310 : Nat) : Int) from rfl, lenGt]
  by_cases h1 : d.length > 310
  · exact ⟨true, by simp [h1], by simp⟩
  simp only [decide_eq_false h1, cond_false]
  have hb : ∀ n : Nd, ∃ b, pounceref16_BigNode_ (Ev.upto 5000) ((n, ()), ()) = some ((b, ()), ()) ∧ (b = false → NdOk n) := bigNode
  let B : Nd → Bool := fun n => Classical.choose (hb n)
  have hB : ∀ n, pounceref16_BigNode_ (Ev.upto 5000) ((n, ()), ()) = some ((B n, ()), ()) ∧ (B n = false → NdOk n) := fun n => Classical.choose_spec (hb n)
  refine ⟨d.any B, it_listB (l := d) (σ := Unit) (fun i _ => ((((i : Int), ()), ((d, ()), ())))) (fun _ x _ => if B x then .inr (.inr ((true, ()), ())) else .inl ()) (fun _ => .inl ((), ())) (fun _ _ => True) () rfl trivial (by omega) (fun i s hi _ => ⟨?_, fun _ _ => trivial⟩) (fun s _ => ?_) (by rw [foldL_scan]; cases d.any B <;> rfl), fun ha => ⟨by omega, fun n hm => (hB n).2 (by simpa using List.any_eq_false.1 ha n hm)⟩⟩
  · simp only [lenLt, decide_eq_true hi, cond_true, idx_nat hi, Option.bind_some, (hB _).1, wrapS (show i < 1000000 by omega)]
    cases B d[i] <;> simp
  · simp only [lenLt, Nat.lt_irrefl, decide_false, cond_false]
theorem fitsS {n k : Nat} (h : n ≤ 10000) (hk : k ≤ 1000) : fits n k = true := fits_of (by have := Nat.mul_le_mul h hk; omega)
theorem ownNode (n : Nd) (h1 : n.2.2.2.1.length ≤ 4000) (h2 : n.2.2.2.2.2.1.length ≤ 4000) : pounceref16_OwnNode_ (Ev.upto 5000) ((n, ()), ()) = some ((n.1, (n.2.1, (n.2.2.1, (n.2.2.2.2.1, (n.2.2.2.2.2.2.1, (n.2.2.2.2.2.2.2, ())))))), (n.2.2.2.1, (n.2.2.2.2.2.1, ()))) := by
  unfold pounceref16_OwnNode_
  simp only [fitsS (show n.2.2.2.1.length ≤ 10000 by omega) (show 32 ≤ 1000 by omega), fitsS (show n.2.2.2.2.2.1.length ≤ 10000 by omega) (show 8 ≤ 1000 by omega), cond_true]
theorem foldL_build {ε β : Type} (fin : List ε → β) : ∀ (l s : List ε) (i : Nat), foldL (fun (_ : Nat) (x : ε) (s : List ε) => (.inl (s ++ [x]) : List ε ⊕ β)) fin i l s = fin (s ++ l)
  | [], s, _ => by simp [foldL]
  | x :: l, s, i => by
    unfold foldL
    simp only
    rw [foldL_build fin l (s ++ [x]) (i + 1)]
    simp
theorem own (d : List Nd) (h : Sm d) : pounceref16_Own_ (Ev.upto 5000) ((d, ()), ()) = some ((), (d, ())) := by
  unfold pounceref16_Own_
  refine it_listB (l := d) (σ := List Nd) (fun i s => ((((i : Int), ()), ((d, ()), ((), (s, ())))))) (fun _ x s => .inl (s ++ [x])) (fun s => ((), ((), (s, ())))) (fun i s => s.length = i) [] rfl rfl (by have := h.1; omega) (fun i s hi hl => ⟨?_, fun s' e => ?_⟩) (fun s _ => ?_) (by rw [foldL_build]; rfl)
  · have hm := h.2 _ (List.getElem_mem hi)
    have := h.1
    simp only [lenLt, decide_eq_true hi, cond_true, idx_nat hi, Option.bind_some, ownNode _ hm.1 hm.2, fitsS (show s.length + [d[i]].length ≤ 10000 by simp; omega) (show 104 ≤ 1000 by omega), wrapS (show i < 1000000 by omega)]
  · simp only [Sum.inl.injEq] at e
    subst e
    simp [hl]
  · simp only [lenLt, Nat.lt_irrefl, decide_false, cond_false]
/-! -/
def mayB (n : Nd) : Bool :=
  if n.1 = 2 then !(n.2.1 == []) && (n.2.2.1 == []) && decide (n.2.2.2.1.length ≤ 30) && decide ((n.2.2.2.1.map (·.1)).Nodup)
  else decide (1 ≤ n.1) && decide (n.1 ≤ 4) && (n.2.1 == []) && (n.2.2.2.1.length == 0) && !n.2.2.2.2.2.2.1 && !n.2.2.2.2.2.2.2 && (n.1 != 1 || n.2.2.1 == [])
def mputs (acc : List (Bs × Bool)) (l : List At) : List (Bs × Bool) := l.foldl (fun s x => mput (fun (a b : Bs) => a == b) x.1 true s) acc
theorem mput_keys (k : Bs) : ∀ (l : List (Bs × Bool)), (k ∈ l.map (·.1) → (mput (fun (a b : Bs) => a == b) k true l).map (·.1) = l.map (·.1)) ∧ (k ∉ l.map (·.1) → (mput (fun (a b : Bs) => a == b) k true l).map (·.1) = l.map (·.1) ++ [k])
  | [] => ⟨fun h => by simp at h, fun _ => rfl⟩
  | p :: l => by
    have ih := mput_keys k l
    cases hk : k == p.1 with
    | true =>
      have e : k = p.1 := by simpa using hk
      simp only [mput, hk, cond_true]
      refine ⟨fun _ => by simp [e], fun h => absurd (by simp [e]) h⟩
    | false =>
      have e : ¬ k = p.1 := by simpa using hk
      simp only [mput, hk, cond_false]
      refine ⟨fun h => ?_, fun h => ?_⟩
      · have : k ∈ l.map (·.1) := by simpa [e] using h
        simp only [List.map_cons, ih.1 this]
      · have : k ∉ l.map (·.1) := fun hx => h (by simp only [List.map_cons, List.mem_cons]; exact .inr hx)
        simp only [List.map_cons, ih.2 this, List.cons_append]
theorem mputs_len : ∀ (l : List At) (acc : List (Bs × Bool)), (mputs acc l).length ≤ acc.length + l.length ∧ ((mputs acc l).length = acc.length + l.length ↔ (l.map (·.1)).Nodup ∧ ∀ x, x ∈ l.map (·.1) → x ∉ acc.map (·.1))
  | [], acc => by simp [mputs]
  | a :: l, acc => by
    have hk := mput_keys a.1 acc
    have ih := mputs_len l (mput (fun (a b : Bs) => a == b) a.1 true acc)
    have e1 : mputs acc (a :: l) = mputs (mput (fun (a b : Bs) => a == b) a.1 true acc) l := rfl
    rw [e1]
    by_cases hm : a.1 ∈ acc.map (·.1)
    · have hl : (mput (fun (a b : Bs) => a == b) a.1 true acc).length = acc.length := by have := congrArg List.length (hk.1 hm); simpa using this
      rw [hl] at ih
      refine ⟨by simp only [List.length_cons]; omega, ⟨fun h => ?_, fun h => ?_⟩⟩
      · simp only [List.length_cons] at h; have := ih.1; omega
      · exact absurd hm (h.2 _ (by simp))
    · have hl : (mput (fun (a b : Bs) => a == b) a.1 true acc).length = acc.length + 1 := by have := congrArg List.length (hk.2 hm); simpa using this
      rw [hl, hk.2 hm] at ih
      refine ⟨by simp only [List.length_cons]; omega, ?_⟩
      rw [List.length_cons, show acc.length + (l.length + 1) = acc.length + 1 + l.length by omega, ih.2]
      simp only [List.map_cons, List.map_nil, List.nodup_cons, List.mem_append, List.mem_singleton, not_or, List.mem_cons, List.not_mem_nil, or_false]
      constructor
      · rintro ⟨h1, h2⟩
        refine ⟨⟨fun hx => (h2 _ hx).2 rfl, h1⟩, fun x hx => ?_⟩
        rcases hx with rfl | hx
        · exact hm
        · exact (h2 x hx).1
      · rintro ⟨⟨h1, h2⟩, h3⟩
        exact ⟨h2, fun x hx => ⟨h3 x (.inr hx), fun e => h1 (e ▸ hx)⟩⟩
theorem mputs_nodup (l : List At) : ((((mputs [] l).length : Nat) : Int) == (l.length : Int)) = decide ((l.map (·.1)).Nodup) := by
  have := (mputs_len l []).2
  simp only [List.length_nil, Nat.zero_add, List.map_nil, List.not_mem_nil, not_false_eq_true, implies_true, and_true] at this
  rw [Bool.eq_iff_iff, beq_iff_eq, decide_eq_true_eq, ← this]
  omega
theorem foldL_mputs {β : Type} (fin : List (Bs × Bool) → β) : ∀ (l : List At) (s : List (Bs × Bool)) (i : Nat), foldL (fun (_ : Nat) (x : At) (s : List (Bs × Bool)) => (.inl (mput (fun (a b : Bs) => a == b) x.1 true s) : List (Bs × Bool) ⊕ β)) fin i l s = fin (mputs s l)
  | [], s, _ => rfl
  | x :: l, s, i => by
    unfold foldL
    simp only
    rw [foldL_mputs fin l _ (i + 1)]
    rfl
theorem mputLen (k : Bs) (s : List (Bs × Bool)) : (mput (fun (a b : Bs) => a == b) k true s).length ≤ s.length + 1 := by
  have := mput_keys k s
  by_cases h : k ∈ s.map (·.1)
  · have := congrArg List.length (this.1 h); simp at this; omega
  · have := congrArg List.length (this.2 h); simp at this; omega
theorem domMay (n : Nd) (h : n.2.2.2.1.length ≤ 4000) : dom_may_ (Ev.upto 5000) ((n, ()), ()) = some ((mayB n, ()), ()) := by
  unfold dom_may_ mayB
  by_cases hk : n.1 = 2
  · simp only [hk, bne_self_eq_false, cond_false, if_true]
    refine it_listB (l := n.2.2.2.1) (σ := List (Bs × Bool)) (fun i s => (((n.2.2.2.1, ((n.2.2.2.1.length : Int), ((i : Int), ())))), ((n, ()), (s, ())))) (fun _ x s => .inl (mput (fun (a b : Bs) => a == b) x.1 true s)) (fun s => ((), ((n, ()), (s, ())))) (fun i s => s.length ≤ i) [] rfl (Nat.le_refl _) (by omega) (fun i s hi hl => ⟨?_, fun s' e => ?_⟩) (fun s _ => ?_) ?_
    · have hm : s.length < maxB := by simp only [maxB]; omega
      simp only [lenLt, decide_eq_true hi, cond_true, idx_nat hi, Option.bind_some, decide_eq_true hm, wrapS (show i < 1000000 by omega)]
    · simp only [Sum.inl.injEq] at e
      subst e
      have := mputLen n.2.2.2.1[i].1 s
      omega
    · simp only [lenLt, Nat.lt_irrefl, decide_false, cond_false]
    · rw [foldL_mputs]
      simp only [mputs_nodup, show (30 : Int) = ((30 : Nat) : Int) from rfl, Int.ofNat_le]
      cases (n.2.1 == []) <;> cases (n.2.2.1 == []) <;> by_cases h3 : n.2.2.2.1.length ≤ 30 <;> simp [h3]
  · have h1 : (n.1 != 2) = true := by simpa using hk
    simp only [h1, cond_true, if_neg hk]
    have h0 : ((n.2.2.2.1.length : Int) == 0) = (n.2.2.2.1.length == 0) := by rw [Bool.eq_iff_iff]; simp
    simp only [h0, ge_iff_le]
    by_cases h2 : 1 ≤ n.1 <;> by_cases h3 : n.1 ≤ 4 <;> cases (n.2.1 == []) <;> cases (n.2.2.2.1.length == 0) <;> cases n.2.2.2.2.2.2.1 <;> cases n.2.2.2.2.2.2.2 <;> cases (n.1 != 1) <;> simp [h2, h3]
def inner (l : List At) (a : Bs) : Nat → Bool
  | 0 => false
  | i + 1 => inner l a i || (match l[i]? with | some x => a == x.1 | none => false)
theorem refMay (n : Nd) (h : n.2.2.2.1.length ≤ 4000) : pounceref16_May_ (Ev.upto 5000) ((n, ()), ()) = some ((mayB n, ()), ()) := by
  unfold pounceref16_May_
  have h0 : ((n.2.2.2.1.length : Int) == 0) = (n.2.2.2.1.length == 0) := by rw [Bool.eq_iff_iff]; simp
  have hb : ∀ (K : ((Bool × Unit) × ((Nd × Unit) × Unit)) → Option ((Bool × Unit) × Unit)), ((bif ((n.2.2.2.1.length : Int) == 0) == true then bif (!n.2.2.2.2.2.2.1) == true then bif (!n.2.2.2.2.2.2.2) == true then some ((n.2.1 == [], ()), ((n, ()), ())) else some ((false, ()), ((n, ()), ())) else some ((false, ()), ((n, ()), ())) else some ((false, ()), ((n, ()), ()))) : Option ((Bool × Unit) × ((Nd × Unit) × Unit))).bind K
      = K (((n.2.2.2.1.length == 0) && !n.2.2.2.2.2.2.1 && !n.2.2.2.2.2.2.2 && (n.2.1 == []), ()), ((n, ()), ())) := by
    intro K
    rw [h0]
    cases (n.2.2.2.1.length == 0) <;> cases n.2.2.2.2.2.2.1 <;> cases n.2.2.2.2.2.2.2 <;> simp
  refine (hb _).trans ?_
  unfold mayB
  by_cases hk1 : n.1 = 1
  · simp only [hk1, beq_self_eq_true, cond_true]
    cases (n.2.2.2.1.length == 0) <;> cases n.2.2.2.2.2.2.1 <;> cases n.2.2.2.2.2.2.2 <;> cases (n.2.1 == []) <;> simp
  have e1 : (n.1 == 1) = false := by simpa using hk1
  by_cases hk3 : n.1 = 3
  · simp only [hk3, beq_self_eq_true, cond_true]
    cases (n.2.2.2.1.length == 0) <;> cases n.2.2.2.2.2.2.1 <;> cases n.2.2.2.2.2.2.2 <;> cases (n.2.1 == []) <;> simp
  have e3 : (n.1 == 3) = false := by simpa using hk3
  by_cases hk4 : n.1 = 4
  · simp only [hk4, beq_self_eq_true, cond_true]
    cases (n.2.2.2.1.length == 0) <;> cases n.2.2.2.2.2.2.1 <;> cases n.2.2.2.2.2.2.2 <;> cases (n.2.1 == []) <;> simp
  have e4 : (n.1 == 4) = false := by simpa using hk4
  by_cases hk2 : n.1 = 2
  · simp only [e1, e3, e4, cond_false, Option.bind_some, hk2, beq_self_eq_true, cond_true, if_true]
    refine it_listB (l := n.2.2.2.1) (σ := Unit) (fun i _ => ((((i : Int), ()), ((n, ()), ())))) (fun i x _ => if inner n.2.2.2.1 x.1 i then .inr (.inr ((false, ()), ())) else .inl ()) (fun _ => .inl ((), ((n, ()), ()))) (fun _ _ => True) () rfl trivial (by omega) (fun i s hi _ => ⟨?_, fun _ _ => trivial⟩) (fun s _ => ?_) ?_
    · simp only [lenLt, decide_eq_true hi, cond_true]
      refine it_listB (l := n.2.2.2.1.take i) (σ := Unit) (fun k _ => ((((i : Int), ((k : Int), ())), ((n, ()), ())))) (fun _ y _ => if n.2.2.2.1[i].1 == y.1 then .inr (.inr ((false, ()), ())) else .inl ()) (fun _ => .inl (((i : Int), ()), ((n, ()), ()))) (fun _ _ => True) () rfl trivial (by simp; omega) (fun k s hk _ => ⟨?_, fun _ _ => trivial⟩) (fun s _ => ?_) ?_
      · have hk' : k < i := by simp at hk; omega
        have hkl : k < n.2.2.2.1.length := by omega
        simp only [lenLt, decide_eq_true hk', cond_true, idx_nat hi, idx_nat hkl, Option.bind_some, List.getElem_take]
        cases hx : (n.2.2.2.1[i].1 == n.2.2.2.1[k].1)
        · simp only [cond_false, wrapS (show k < 1000000 by omega)]; rfl
        · rfl
      · have : (n.2.2.2.1.take i).length = i := by simp; omega
        rw [this]
        simp only [lenLt, Nat.lt_irrefl, decide_false, cond_false]
      · rw [foldL_scan]
        have hin : ∀ j, j ≤ n.2.2.2.1.length → ((n.2.2.2.1.take j).any fun y => n.2.2.2.1[i].1 == y.1) = inner n.2.2.2.1 n.2.2.2.1[i].1 j := by
          intro j
          induction j with
          | zero => intro _; rfl
          | succ j ih =>
            intro hj
            rw [List.take_succ_eq_append_getElem (by omega), List.any_append, ih (by omega)]
            simp only [List.any_cons, List.any_nil, Bool.or_false, inner, List.getElem?_eq_getElem (show j < n.2.2.2.1.length by omega)]
        rw [hin i (by omega)]
        cases inner n.2.2.2.1 n.2.2.2.1[i].1 i
        · simp only [Bool.false_eq_true, if_false, wrapS (show i < 1000000 by omega)]
        · simp
    · simp only [lenLt, Nat.lt_irrefl, decide_false, cond_false]
    ·
      have hall : ∀ (l : List At) (m : List At) (i : Nat), i = l.length → n.2.2.2.1 = l ++ m → (l.map (·.1)).Nodup → foldL (fun i (x : At) (_ : Unit) => if inner n.2.2.2.1 x.1 i then (.inr (.inr ((false, ()), ())) : Unit ⊕ ((Unit × ((Nd × Unit) × Unit)) ⊕ ((Bool × Unit) × Unit))) else .inl ()) (fun _ => .inl ((), ((n, ()), ()))) i m () = if (n.2.2.2.1.map (·.1)).Nodup then .inl ((), ((n, ()), ())) else .inr ((false, ()), ()) := by
        intro l m
        induction m generalizing l with
        | nil => intro i hi e hn; rw [e, List.append_nil, if_pos hn]; rfl
        | cons x m ih =>
          intro i hi e hn
          have hin : inner n.2.2.2.1 x.1 i = decide (x.1 ∈ l.map (·.1)) := by
            have : ∀ j, j ≤ l.length → inner n.2.2.2.1 x.1 j = decide (x.1 ∈ (l.take j).map (·.1)) := by
              intro j
              induction j with
              | zero => intro _; simp [inner]
              | succ j ihj =>
                intro hj
                have hg : n.2.2.2.1[j]? = some l[j] := by rw [e, List.getElem?_append_left (by omega), List.getElem?_eq_getElem]
                simp only [inner, ihj (by omega), hg]
                rw [List.take_succ_eq_append_getElem (by omega)]
                rw [Bool.eq_iff_iff]
                simp only [Bool.or_eq_true, decide_eq_true_eq, beq_iff_eq, List.map_append, List.mem_append, List.map_cons, List.map_nil, List.mem_singleton]
            rw [this i (by omega), hi, List.take_length]
          unfold foldL
          rw [hin]
          by_cases hx : x.1 ∈ l.map (·.1)
          · rw [decide_eq_true hx]
            have : ¬ (n.2.2.2.1.map (·.1)).Nodup := by
              rw [e, List.map_append, List.map_cons, List.nodup_append]
              rintro ⟨_, _, h3⟩
              exact h3 _ hx _ (List.mem_cons_self ..) rfl
            rw [if_neg this]
            rfl
          · rw [decide_eq_false hx]
            simp only [Bool.false_eq_true, if_false]
            refine ih (l ++ [x]) (i + 1) (by simp [hi]) (by rw [e]; simp) ?_
            rw [List.map_append, List.nodup_append]
            refine ⟨hn, by simp, fun a ha b hb => ?_⟩
            simp only [List.map_cons, List.map_nil, List.mem_singleton] at hb
            rintro rfl
            exact hx (hb ▸ ha)
      rw [hall [] n.2.2.2.1 0 rfl rfl (by simp)]
      have h30 : decide ((n.2.2.2.1.length : Int) ≤ 30) = decide (n.2.2.2.1.length ≤ 30) := by
        by_cases h : n.2.2.2.1.length ≤ 30
        · rw [decide_eq_true h, decide_eq_true (by omega)]
        · rw [decide_eq_false h, decide_eq_false (by omega)]
      by_cases hn : (n.2.2.2.1.map (·.1)).Nodup
      · rw [if_pos hn]
        simp only [h30]
        cases (n.2.1 == []) <;> cases (n.2.2.1 == []) <;> simp [hn]
      · rw [if_neg hn]
        simp [hn]
  have e2 : (n.1 == 2) = false := by simpa using hk2
  simp only [e1, e3, e4, e2, cond_false, Option.bind_some, if_neg hk2]
  have : ¬ (1 ≤ n.1 ∧ n.1 ≤ 4) := by omega
  by_cases h1 : 1 ≤ n.1
  · have : ¬ n.1 ≤ 4 := fun h => this ⟨h1, h⟩
    simp [this]
  · simp [h1]
def holdsB (n : Nd) : Bool := n.1 == 1 || n.1 == 2
theorem domHolds (n : Nd) : dom_holds_ (Ev.upto 5000) ((n, ()), ()) = some ((holdsB n, ()), ()) := by
  unfold dom_holds_ holdsB
  cases (n.1 == 1) <;> simp
theorem refHolds (n : Nd) : pounceref16_holds_ (Ev.upto 5000) ((n, ()), ()) = some ((holdsB n, ()), ()) := by
  unfold pounceref16_holds_ holdsB
  cases (n.1 == 1) <;> simp
/-! -/
abbrev kidsOf (n : Nd) : List Int := n.2.2.2.2.2.1
abbrev parOf (n : Nd) : Int := n.2.2.2.2.1
def pr (d : List Nd) (i : Int) : Int := match idx d i with
  | some n => parOf n
  | none => -1
def allKids (d : List Nd) : List Int := d.flatMap kidsOf
def up (d : List Nd) : Nat → Int → Int
  | 0, x => x
  | j + 1, x => up d j (pr d x)
structure Right (d : List Nd) : Prop where
  len : d.length ≤ 300
  pos : 0 < d.length
  may : ∀ n, n ∈ d → mayB n = true
  root : ∀ (i : Nat) (n : Nd), d[i]? = some n → (n.1 = 1 ↔ i = 0)
  par0 : pr d 0 = -1
  holds : ∀ n, n ∈ d → kidsOf n ≠ [] → holdsB n = true
  rng : ∀ n, n ∈ d → ∀ k, k ∈ kidsOf n → 1 ≤ k ∧ k < d.length
  nodup : (allKids d).Nodup
  back : ∀ (i : Nat) (n : Nd), d[i]? = some n → ∀ k, k ∈ kidsOf n → pr d k = (i : Int)
  laid : ∀ (i : Nat) (n : Nd), d[i]? = some n → parOf n ≠ -1 → (i : Int) ∈ allKids d
  ends : ∀ (i : Nat) (n : Nd), d[i]? = some n → ∃ j, j ≤ d.length ∧ up d j (parOf n) = -1
theorem idx_some {α : Type} {l : List α} {i : Int} {x : α} (h : idx l i = some x) : 0 ≤ i ∧ i < l.length ∧ l[i.toNat]? = some x := by
  unfold idx at h
  split at h
  · rename_i h0
    have := (List.getElem?_eq_some_iff.1 h).1
    exact ⟨h0, by omega, h⟩
  · cases h
theorem idx_ge {α : Type} {l : List α} {i : Int} (h0 : 0 ≤ i) (h : i < l.length) : ∃ x, idx l i = some x ∧ l[i.toNat]? = some x := by
  have hi : i.toNat < l.length := by omega
  exact ⟨l[i.toNat], by unfold idx; rw [if_pos h0, List.getElem?_eq_getElem hi], List.getElem?_eq_getElem hi⟩
theorem pr_nat {d : List Nd} {i : Nat} {n : Nd} (h : d[i]? = some n) : pr d (i : Int) = parOf n := by
  unfold pr idx
  rw [if_pos (by omega), Int.toNat_natCast, h]
theorem pr_neg {d : List Nd} : pr d (-1) = -1 := rfl
theorem up_neg {d : List Nd} : ∀ j, up d j (-1) = -1
  | 0 => rfl
  | j + 1 => up_neg j
def lay (n : Nat) (K : List Int) : List Bool := (List.range n).map fun j : Nat => decide ((j : Int) ∈ K)
theorem lay_len (n : Nat) (K : List Int) : (lay n K).length = n := by simp [lay]
theorem lay_get {n : Nat} {K : List Int} {i : Nat} (h : i < n) : (lay n K)[i]? = some (decide ((i : Int) ∈ K)) := by simp [lay, h]
theorem lay_nil (n : Nat) : lay n [] = List.replicate n false := by
  apply List.ext_getElem?
  intro i
  by_cases h : i < n
  · rw [lay_get h]; simp [h]
  · rw [List.getElem?_eq_none (by rw [lay_len]; omega), List.getElem?_eq_none (by simp; omega)]
theorem lay_set {n : Nat} {K : List Int} {i : Nat} (h : i < n) : (lay n K).set i true = lay n (K ++ [(i : Int)]) := by
  apply List.ext_getElem?
  intro j
  rw [List.getElem?_set, lay_len]
  by_cases e : i = j
  · subst e
    rw [if_pos rfl, if_pos h, lay_get h]
    simp
  · rw [if_neg e]
    by_cases hj : j < n
    · rw [lay_get hj, lay_get hj]
      have : ((j : Int) ∈ K ++ [(i : Int)]) ↔ (j : Int) ∈ K := by
        simp only [List.mem_append, List.mem_singleton]
        constructor
        · rintro (h | h)
          · exact h
          · omega
        · exact .inl
      simp only [this]
    · rw [List.getElem?_eq_none (by rw [lay_len]; omega), List.getElem?_eq_none (by rw [lay_len]; omega)]
def okKids (d : List Nd) (i : Int) : List Int → List Int → Bool
  | _, [] => true
  | K, k :: r => (decide (1 ≤ k) && decide (k < (d.length : Int)) && !decide (k ∈ K) && (pr d k == i)) && okKids d i (K ++ [k]) r
def okNode (d : List Nd) (i : Nat) (n : Nd) (K : List Int) : Bool := mayB n && !(decide (i > 0) && n.1 == 1) && (kidsOf n == [] || holdsB n) && okKids d i K (kidsOf n)
def okAll (d : List Nd) : Nat → List Int → List Nd → Bool
  | _, _, [] => true
  | i, K, n :: r => okNode d i n K && okAll d (i + 1) (K ++ kidsOf n) r
theorem okKids_iff (d : List Nd) (i : Int) : ∀ (l K : List Int), K.Nodup → (okKids d i K l = true ↔ (∀ k, k ∈ l → 1 ≤ k ∧ k < d.length ∧ pr d k = i) ∧ (K ++ l).Nodup)
  | [], K, hK => by simp [okKids, hK]
  | k :: l, K, hK => by
    simp only [okKids, Bool.and_eq_true, decide_eq_true_eq, Bool.not_eq_true', decide_eq_false_iff_not, beq_iff_eq]
    have e : K ++ k :: l = (K ++ [k]) ++ l := by simp
    rw [e]
    constructor
    · rintro ⟨⟨⟨⟨h1, h2⟩, h3⟩, h4⟩, h5⟩
      have hK' : (K ++ [k]).Nodup := by
        rw [List.nodup_append]
        exact ⟨hK, by simp, fun a ha b hb => by simp at hb; rintro rfl; exact h3 (hb ▸ ha)⟩
      obtain ⟨h6, h7⟩ := (okKids_iff d i l (K ++ [k]) hK').1 h5
      refine ⟨fun x hx => ?_, h7⟩
      rcases List.mem_cons.1 hx with rfl | hx
      · exact ⟨h1, h2, h4⟩
      · exact h6 x hx
    · rintro ⟨h1, h2⟩
      have hK' : (K ++ [k]).Nodup := (List.nodup_append.1 h2).1
      have h3 : k ∉ K := fun hx => (List.nodup_append.1 hK').2.2 k hx k (by simp) rfl
      obtain ⟨h4, h5, h6⟩ := h1 k (List.mem_cons_self ..)
      exact ⟨⟨⟨⟨h4, h5⟩, h3⟩, h6⟩, (okKids_iff d i l (K ++ [k]) hK').2 ⟨fun x hx => h1 x (List.mem_cons_of_mem _ hx), h2⟩⟩
theorem okAll_iff (d : List Nd) : ∀ (l : List Nd) (i : Nat) (K : List Int), K.Nodup → (okAll d i K l = true ↔
    (∀ j n, l[j]? = some n → mayB n = true ∧ (i + j > 0 → n.1 ≠ 1) ∧ (kidsOf n ≠ [] → holdsB n = true) ∧ ∀ k, k ∈ kidsOf n → 1 ≤ k ∧ k < d.length ∧ pr d k = ((i + j : Nat) : Int)) ∧ (K ++ l.flatMap kidsOf).Nodup)
  | [], i, K, hK => by simp [okAll, hK]
  | n :: l, i, K, hK => by
    simp only [okAll, okNode, Bool.and_eq_true]
    rw [okKids_iff d i (kidsOf n) K hK]
    have e : K ++ (n :: l).flatMap kidsOf = (K ++ kidsOf n) ++ l.flatMap kidsOf := by simp
    rw [e]
    constructor
    · rintro ⟨⟨⟨⟨h1, h2⟩, h3⟩, h4, h5⟩, h6⟩
      obtain ⟨h7, h8⟩ := (okAll_iff d l (i + 1) (K ++ kidsOf n) h5).1 h6
      refine ⟨fun j m hj => ?_, h8⟩
      cases j with
      | zero =>
        simp only [List.getElem?_cons_zero, Option.some.injEq] at hj
        subst hj
        refine ⟨h1, fun hi hk => ?_, fun hne => ?_, fun k hk => ?_⟩
        · simp only [Nat.add_zero] at hi
          simp [hk, hi] at h2
        · cases hh : kidsOf n with
          | nil => exact absurd hh hne
          | cons a b => simpa [hh] using h3
        · exact h4 k hk
      | succ j =>
        have := h7 j m (by simpa using hj)
        rw [show i + (j + 1) = i + 1 + j by omega]
        exact this
    · rintro ⟨h1, h2⟩
      obtain ⟨g1, g2, g3, g4⟩ := h1 0 n rfl
      have h5 : (K ++ kidsOf n).Nodup := (List.nodup_append.1 h2).1
      refine ⟨⟨⟨⟨g1, ?_⟩, ?_⟩, g4, h5⟩, (okAll_iff d l (i + 1) (K ++ kidsOf n) h5).2 ⟨fun j m hj => ?_, h2⟩⟩
      · by_cases hi : i > 0
        · have := g2 (by omega); simp [hi, this]
        · simp [hi]
      · cases hh : kidsOf n with
        | nil => simp
        | cons a b => simp [g3 (by rw [hh]; simp)]
      · have := h1 (j + 1) m (by simpa using hj)
        rw [show i + 1 + j = i + (j + 1) by omega]
        exact this
theorem foldL_ok {ε σ β : Type} (ok : Nat → ε → σ → Bool) (nx : Nat → ε → σ → σ) (bad : β) (fin : σ → β) : ∀ (l : List ε) (i : Nat) (s : σ),
    foldL (fun i x s => if ok i x s then (.inl (nx i x s) : σ ⊕ β) else .inr bad) fin i l s = match l with
      | [] => fin s
      | x :: r => if ok i x s then foldL (fun i x s => if ok i x s then (.inl (nx i x s) : σ ⊕ β) else .inr bad) fin (i + 1) r (nx i x s) else bad
  | [], _, _ => rfl
  | x :: l, i, s => by
    show (match (if ok i x s then (.inl (nx i x s) : σ ⊕ β) else .inr bad) with | .inl s' => _ | .inr b => b) = _
    simp only
    cases ok i x s <;> rfl
theorem foldKids {β : Type} (d : List Nd) (i : Int) (bad : β) (fin : List Int → β) : ∀ (l : List Int) (j : Nat) (K : List Int),
    foldL (fun (_ : Nat) (k : Int) (K : List Int) => if (decide (1 ≤ k) && decide (k < (d.length : Int)) && !decide (k ∈ K) && (pr d k == i)) then (.inl (K ++ [k]) : List Int ⊕ β) else .inr bad) fin j l K = if okKids d i K l then fin (K ++ l) else bad
  | [], j, K => by simp [foldL, okKids]
  | k :: l, j, K => by
    rw [foldL_ok (fun _ k K => (decide (1 ≤ k) && decide (k < (d.length : Int)) && !decide (k ∈ K) && (pr d k == i))) (fun _ k K => K ++ [k])]
    by_cases hc : (decide (1 ≤ k) && decide (k < (d.length : Int)) && !decide (k ∈ K) && (pr d k == i)) = true
    · have e2 : okKids d i K (k :: l) = okKids d i (K ++ [k]) l := by show (_ && _) = _; rw [hc, Bool.true_and]
      simp only [if_pos hc, e2, foldKids d i bad fin l (j + 1) (K ++ [k])]
      simp
    · have e2 : okKids d i K (k :: l) = false := by show (_ && _) = _; rw [Bool.eq_false_iff.2 hc, Bool.false_and]
      simp only [if_neg hc, e2]
      simp
theorem foldNodes {β : Type} (d : List Nd) (bad : β) (fin : List Int → β) : ∀ (l : List Nd) (i : Nat) (K : List Int),
    foldL (fun (i : Nat) (n : Nd) (K : List Int) => if okNode d i n K then (.inl (K ++ kidsOf n) : List Int ⊕ β) else .inr bad) fin i l K = if okAll d i K l then fin (K ++ l.flatMap kidsOf) else bad
  | [], i, K => by simp [foldL, okAll]
  | n :: l, i, K => by
    rw [foldL_ok (fun i n K => okNode d i n K) (fun i n K => K ++ kidsOf n)]
    by_cases hc : okNode d i n K = true
    · have e2 : okAll d i K (n :: l) = okAll d (i + 1) (K ++ kidsOf n) l := by show (_ && _) = _; rw [hc, Bool.true_and]
      simp only [if_pos hc, e2, foldNodes d bad fin l (i + 1) (K ++ kidsOf n)]
      simp
    · have e2 : okAll d i K (n :: l) = false := by show (_ && _) = _; rw [Bool.eq_false_iff.2 hc, Bool.false_and]
      simp only [if_neg hc, e2]
      simp
theorem foldL_scanI {ε β : Type} (p : Nat → ε → Bool) (b e : β) : ∀ (l : List ε) (i : Nat), (∃ j x, l[j]? = some x ∧ p (i + j) x = true) ∧ foldL (fun (i : Nat) (x : ε) (_ : Unit) => if p i x then (.inr b : Unit ⊕ β) else .inl ()) (fun _ => e) i l () = b ∨
    (∀ j x, l[j]? = some x → p (i + j) x = false) ∧ foldL (fun (i : Nat) (x : ε) (_ : Unit) => if p i x then (.inr b : Unit ⊕ β) else .inl ()) (fun _ => e) i l () = e
  | [], i => .inr ⟨fun j x h => by simp at h, rfl⟩
  | y :: l, i => by
    cases hp : p i y with
    | true => exact .inl ⟨⟨0, y, rfl, hp⟩, by unfold foldL; simp [hp]⟩
    | false =>
      rcases foldL_scanI p b e l (i + 1) with ⟨⟨j, x, h1, h2⟩, h3⟩ | ⟨h1, h3⟩
      · refine .inl ⟨⟨j + 1, x, by simpa using h1, by rw [show i + (j + 1) = i + 1 + j by omega]; exact h2⟩, ?_⟩
        unfold foldL
        simp only [hp, Bool.false_eq_true, if_false]
        exact h3
      · refine .inr ⟨fun j x hj => ?_, ?_⟩
        · cases j with
          | zero => simp only [List.getElem?_cons_zero, Option.some.injEq] at hj; subst hj; exact hp
          | succ j => rw [show i + (j + 1) = i + 1 + j by omega]; exact h1 j x (by simpa using hj)
        · unfold foldL
          simp only [hp, Bool.false_eq_true, if_false]
          exact h3
open Classical in
noncomputable def chk (d : List Nd) : Int := if d.length > 300 then 2 else if Right d then 0 else 171
theorem walkUp {α β : Type} {f : α → Option (α ⊕ β)} (d : List Nd) (st : Nat → Int → α) (ok bad : β) (cl : ∀ x : Int, 0 ≤ x → x < d.length → pr d x = -1 ∨ (0 ≤ pr d x ∧ pr d x < d.length))
    (h0 : ∀ s, f (st s (-1)) = some (.inr ok)) (h1 : ∀ (s : Nat) (x : Int), 0 ≤ x → x < d.length → s + 1 > d.length → s ≤ d.length → f (st s x) = some (.inr bad)) (h2 : ∀ (s : Nat) (x : Int), 0 ≤ x → x < d.length → s + 1 ≤ d.length → f (st s x) = some (.inl (st (s + 1) (pr d x)))) :
    ∀ (m s : Nat) (x : Int) (N : Nat), s + m = d.length → m + 1 < N → (x = -1 ∨ (0 ≤ x ∧ x < d.length)) → ((∃ j, j ≤ m ∧ up d j x = -1) ∧ iterN f N (st s x) = some ok) ∨ ((¬ ∃ j, j ≤ m ∧ up d j x = -1) ∧ iterN f N (st s x) = some bad) := by
  intro m
  induction m with
  | zero =>
    intro s x N hs hN hx
    obtain ⟨N, rfl⟩ : ∃ M, N = M + 1 := ⟨N - 1, by omega⟩
    unfold iterN
    rcases hx with rfl | ⟨hx0, hx1⟩
    · exact .inl ⟨⟨0, Nat.le_refl _, rfl⟩, by rw [h0]; rfl⟩
    · refine .inr ⟨?_, by rw [h1 s x hx0 hx1 (by omega) (by omega)]; rfl⟩
      rintro ⟨j, hj, hu⟩
      obtain rfl : j = 0 := by omega
      simp only [up] at hu
      omega
  | succ m ih =>
    intro s x N hs hN hx
    obtain ⟨N, rfl⟩ : ∃ M, N = M + 1 := ⟨N - 1, by omega⟩
    unfold iterN
    rcases hx with rfl | ⟨hx0, hx1⟩
    · exact .inl ⟨⟨0, Nat.zero_le _, rfl⟩, by rw [h0]; rfl⟩
    · rw [h2 s x hx0 hx1 (by omega)]
      simp only [Option.bind_some]
      rcases ih (s + 1) (pr d x) N (by omega) (by omega) (cl x hx0 hx1) with ⟨⟨j, h3, h4⟩, h5⟩ | ⟨h3, h5⟩
      · exact .inl ⟨⟨j + 1, by omega, h4⟩, h5⟩
      · refine .inr ⟨?_, h5⟩
        rintro ⟨j, hj, hu⟩
        cases j with
        | zero => simp only [up] at hu; omega
        | succ j => exact h3 ⟨j, by omega, hu⟩
theorem ge_len (d : List Nd) (k : Int) : decide (k ≥ (d.length : Int)) = !decide (k < (d.length : Int)) := by
  by_cases h : k < (d.length : Int)
  · rw [decide_eq_true h, decide_eq_false (by omega)]; rfl
  · rw [decide_eq_false h, decide_eq_true (by omega)]; rfl
theorem lt_one (k : Int) : decide (k < 1) = !decide (1 ≤ k) := by
  by_cases h : 1 ≤ k
  · rw [decide_eq_true h, decide_eq_false (by omega)]; rfl
  · rw [decide_eq_false h, decide_eq_true (by omega)]; rfl
theorem natGt0 (i : Nat) : decide ((i : Int) > 0) = decide (i > 0) := by
  by_cases h : i > 0
  · rw [decide_eq_true h, decide_eq_true (by omega)]
  · rw [decide_eq_false h, decide_eq_false (by omega)]
theorem kids0 (l : List Int) : decide (l.length > 0) = !(l == []) := by
  cases l with
  | nil => rfl
  | cons a l => simp
theorem right_iff (d : List Nd) (h3 : d.length ≤ 300) (n0 : Nd) (hn0 : d[0]? = some n0) : Right d ↔ (n0.1 = 1 ∧ parOf n0 = -1) ∧ okAll d 0 [] d = true ∧ (∀ (j : Nat) (n : Nd), d[j]? = some n → decide ((j : Int) ∈ allKids d) = (parOf n != -1)) ∧ (∀ (j : Nat) n, d[j]? = some n → ∃ m, m ≤ d.length ∧ up d m (parOf n) = -1) := by
  rw [okAll_iff d d 0 [] (by simp)]
  simp only [Nat.zero_add, List.nil_append]
  have hmem : ∀ k : Int, k ∈ allKids d ↔ ∃ (i : Nat) (n : Nd), d[i]? = some n ∧ k ∈ kidsOf n := by
    intro k
    unfold allKids
    rw [List.mem_flatMap]
    constructor
    · rintro ⟨n, hn, hk⟩
      obtain ⟨i, hi⟩ := List.getElem?_of_mem hn
      exact ⟨i, n, hi, hk⟩
    · rintro ⟨i, n, hi, hk⟩
      exact ⟨n, List.mem_of_getElem? hi, hk⟩
  constructor
  · intro R
    refine ⟨⟨(R.root 0 n0 hn0).2 rfl, by have := R.par0; rw [show (0 : Int) = ((0 : Nat) : Int) from rfl, pr_nat hn0] at this; exact this⟩, ⟨fun j n hj => ⟨R.may n (List.mem_of_getElem? hj), fun hj0 hk => by have := (R.root j n hj).1 hk; omega, R.holds n (List.mem_of_getElem? hj), fun k hk => ⟨(R.rng n (List.mem_of_getElem? hj) k hk).1, (R.rng n (List.mem_of_getElem? hj) k hk).2, R.back j n hj k hk⟩⟩, R.nodup⟩, fun j n hj => ?_, R.ends⟩
    rw [Bool.eq_iff_iff]
    simp only [decide_eq_true_eq, bne_iff_ne, ne_eq]
    constructor
    · intro hk
      obtain ⟨i, m, hi, hk⟩ := (hmem _).1 hk
      have := R.back i m hi _ hk
      rw [pr_nat hj] at this
      omega
    · exact R.laid j n hj
  · rintro ⟨⟨h1, h2⟩, ⟨h4, h5⟩, h6, h7⟩
    refine ⟨h3, by have := (List.getElem?_eq_some_iff.1 hn0).1; omega, fun n hn => ?_, fun i n hi => ⟨fun hk => ?_, fun hi0 => ?_⟩, by rw [show (0 : Int) = ((0 : Nat) : Int) from rfl, pr_nat hn0]; exact h2, fun n hn => ?_, fun n hn k hk => ?_, h5, fun i n hi k hk => ((h4 i n hi).2.2.2 k hk).2.2, fun i n hi hp => ?_, h7⟩
    · obtain ⟨i, hi⟩ := List.getElem?_of_mem hn; exact (h4 i n hi).1
    · rcases Nat.eq_zero_or_pos i with h | h
      · exact h
      · exact absurd hk ((h4 i n hi).2.1 h)
    · subst hi0; rw [hn0] at hi; cases hi; exact h1
    · obtain ⟨i, hi⟩ := List.getElem?_of_mem hn; exact (h4 i n hi).2.2.1
    · obtain ⟨i, hi⟩ := List.getElem?_of_mem hn
      have := (h4 i n hi).2.2.2 k hk
      exact ⟨this.1, this.2.1⟩
    · have := h6 i n hi
      rw [show (parOf n != -1) = true by simpa using hp] at this
      simpa using this
theorem domCheck (d : List Nd) (h : Sm d) : dom_Check_ (Ev.upto 5000) ((d, ()), ()) = some ((chk d, ()), ()) := by
  unfold dom_Check_
  simp only [show (300 : Int) = ((300 : Nat) : Int) from rfl, lenGt]
  unfold chk
  by_cases h3 : d.length > 300
  · rw [if_pos h3]; simp [h3]
  rw [if_neg h3]
  simp only [decide_eq_false h3, cond_false]
  cases hd : d[0]? with
  | none =>
    have hd0 : d = [] := by
      cases d with
      | nil => rfl
      | cons a d => simp at hd
    subst hd0
    rw [if_neg (fun R => by have := R.pos; simp at this)]
    rfl
  | some n0 =>
    have hpos : 0 < d.length := (List.getElem?_eq_some_iff.1 hd).1
    have hl0 : ((d.length : Int) == 0) = false := by rw [beq_eq_false_iff_ne]; omega
    have hi0 : idx d 0 = some n0 := by unfold idx; simpa using hd
    simp only [hl0, beq_self_eq_true, cond_true, hi0, Option.bind_some]
    by_cases hr1 : n0.1 = 1
    case neg =>
      rw [if_neg (fun R => hr1 ((R.root 0 n0 hd).2 rfl))]
      have : (n0.1 != 1) = true := by simpa using hr1
      simp [this]
    have e1 : (n0.1 != 1) = false := by simpa using hr1
    simp only [e1, beq_self_eq_true, cond_true, Option.bind_some]
    by_cases hr2 : parOf n0 = -1
    case neg =>
      rw [if_neg (fun R => hr2 (by have := R.par0; rw [show (0 : Int) = ((0 : Nat) : Int) from rfl, pr_nat hd] at this; exact this))]
      have : (n0.2.2.2.2.1 != -1) = true := by simpa using hr2
      simp [this]
    have e2 : (n0.2.2.2.2.1 != -1) = false := by simpa using hr2
    simp only [e2, cond_false]
    simp only [Int.toNat_natCast, fitsS (show d.length ≤ 10000 by omega) (show 1 ≤ 1000 by omega), show decide ((0 : Int) ≤ (d.length : Int)) = true from decide_eq_true (by omega), beq_self_eq_true, Bool.and_self, cond_true]
    have hRI := right_iff d (by omega) n0 hd
    simp only [hr1, hr2, and_self, true_and] at hRI

    refine it_listB (l := d) (σ := List Int) (fun i K => (((d, ((d.length : Int), ((i : Int), ())))), ((d, ()), (lay d.length K, ())))) (fun i n K => if okNode d i n K then .inl (K ++ kidsOf n) else .inr (.inr ((171, ()), ()))) (fun K => .inl ((), ((d, ()), (lay d.length K, ())))) (fun _ _ => True) [] (by rw [lay_nil]; rfl) trivial (by omega) (fun i K hi _ => ⟨?_, fun _ _ => trivial⟩) (fun K _ => ?_) ?_
    · have hm := h.2 _ (List.getElem_mem hi)
      have hm2 : (kidsOf d[i]).length ≤ 4000 := hm.2
      simp only [lenLt, decide_eq_true hi, cond_true, idx_nat hi, Option.bind_some, domMay _ hm.1, domHolds d[i], natGt0, kids0]
      have flag : ∀ (X : ((Int × (List Nd) × Int × Int × Bool × Unit) × ((List Nd × Unit) × (List Bool) × (Nd × Unit) × Unit)) → Option (((List Nd × Int × Int × Unit) × ((List Nd × Unit) × (List Bool) × Unit)) ⊕ ((Unit × ((List Nd × Unit) × (List Bool) × Unit)) ⊕ ((Int × Unit) × Unit)))),
          (((bif (!mayB d[i]) == false then bif decide (i > 0) == true then bif (d[i].1 == 1) == false then bif (!(kidsOf d[i] == [])) == true then some (((i : Int), (d, ((d.length : Int), ((i : Int), ((!holdsB d[i]), ()))))), ((d, ()), (lay d.length K, ((d[i], ()), ())))) else some (((i : Int), (d, ((d.length : Int), ((i : Int), (false, ()))))), ((d, ()), (lay d.length K, ((d[i], ()), ())))) else some (((i : Int), (d, ((d.length : Int), ((i : Int), (true, ()))))), ((d, ()), (lay d.length K, ((d[i], ()), ())))) else bif (!(kidsOf d[i] == [])) == true then some (((i : Int), (d, ((d.length : Int), ((i : Int), ((!holdsB d[i]), ()))))), ((d, ()), (lay d.length K, ((d[i], ()), ())))) else some (((i : Int), (d, ((d.length : Int), ((i : Int), (false, ()))))), ((d, ()), (lay d.length K, ((d[i], ()), ())))) else some (((i : Int), (d, ((d.length : Int), ((i : Int), (true, ()))))), ((d, ()), (lay d.length K, ((d[i], ()), ()))))) : Option _).bind X)
          = X (((i : Int), (d, ((d.length : Int), ((i : Int), (!(mayB d[i] && !(decide (i > 0) && d[i].1 == 1) && (kidsOf d[i] == [] || holdsB d[i])), ()))))), ((d, ()), (lay d.length K, ((d[i], ()), ())))) := by
        intro X
        cases mayB d[i] <;> cases decide (i > 0) <;> cases (d[i].1 == 1) <;> cases (kidsOf d[i] == []) <;> cases holdsB d[i] <;> rfl
      refine (flag _).trans ?_
      unfold okNode
      cases hfl : (mayB d[i] && !(decide (i > 0) && d[i].1 == 1) && (kidsOf d[i] == [] || holdsB d[i])) with
      | false => simp
      | true =>
        simp only [Bool.not_true, cond_false, Bool.true_and]
        refine it_listB (l := kidsOf d[i]) (σ := List Int) (fun j K => (((i : Int), (d, ((d.length : Int), ((i : Int), (kidsOf d[i], (((kidsOf d[i]).length : Int), ((j : Int), ()))))))), ((d, ()), (lay d.length K, ())))) (fun _ k K => if (decide (1 ≤ k) && decide (k < (d.length : Int)) && !decide (k ∈ K) && (pr d k == (i : Int))) then .inl (K ++ [k]) else .inr (.inr ((171, ()), ()))) (fun K => .inl ((d, ((d.length : Int), ((i : Int), ()))), ((d, ()), (lay d.length K, ())))) (fun _ _ => True) K rfl trivial (by omega) (fun j K hj _ => ⟨?_, fun _ _ => trivial⟩) (fun K _ => ?_) ?_
        · simp only [lenLt, decide_eq_true hj, cond_true, idx_nat hj, Option.bind_some, lt_one, ge_len, lay_len]
          generalize (kidsOf d[i])[j] = k
          by_cases k1 : 1 ≤ k
          case neg => simp [k1]
          by_cases k2 : k < (d.length : Int)
          case neg => simp [k1, k2]
          obtain ⟨a, rfl⟩ := Int.eq_ofNat_of_zero_le (show 0 ≤ k by omega)
          have ha : a < d.length := by omega
          have hnd : d[a]? = some d[a] := List.getElem?_eq_getElem ha
          simp only [decide_eq_true k1, decide_eq_true k2, show decide (0 ≤ (a : Int)) = true from decide_eq_true (by omega), Bool.not_true, beq_self_eq_true, Bool.and_self, cond_true, Int.toNat_natCast, lay_get ha, Option.bind_some, idx_nat ha, Bool.true_and]
          by_cases k3 : (a : Int) ∈ K
          · simp [k3]
          · rw [pr_nat hnd]
            simp only [decide_eq_false k3, beq_self_eq_true, cond_true, Option.bind_some, Bool.not_false, Bool.true_and]
            by_cases k4 : parOf d[a] = (i : Int)
            · have b1 : (d[a].2.2.2.2.1 != (i : Int)) = false := by simpa using k4
              have b2 : (parOf d[a] == (i : Int)) = true := by simpa using k4
              simp only [b1, b2, cond_false, if_true, lay_len, decide_eq_true k2, show decide (0 ≤ (a : Int)) = true from decide_eq_true (by omega), Bool.and_self, cond_true, Int.toNat_natCast, lay_get ha, Option.bind_some, lay_set ha, wrapS (show j < 1000000 by omega)]
            · have b1 : (d[a].2.2.2.2.1 != (i : Int)) = true := by simpa using k4
              have b2 : (parOf d[a] == (i : Int)) = false := by simpa using k4
              simp only [b1, b2, cond_true, Bool.false_eq_true, if_false]
        · simp only [lenLt, Nat.lt_irrefl, decide_false, cond_false]
        · rw [foldKids]
          cases okKids d (i : Int) K (kidsOf d[i])
          · rfl
          · simp only [if_true, wrapS (show i < 1000000 by omega)]
    · simp only [lenLt, Nat.lt_irrefl, decide_false, cond_false]
    · rw [foldNodes]
      cases hok : okAll d 0 [] d with
      | false =>
        rw [if_neg (show ¬ Right d from fun R => by have := (hRI.1 R).1; rw [hok] at this; cases this)]
        rfl
      | true =>
        simp only [if_true, List.nil_append]

        have hK := ((okAll_iff d d 0 [] (by simp)).1 hok)
        show Option.bind _ _ = _
        refine it_listB (l := d) (σ := Unit) (fun i _ => (((d, ((d.length : Int), ((i : Int), ())))), ((d, ()), (lay d.length (allKids d), ())))) (fun i n _ => if !(decide ((i : Int) ∈ allKids d) == (parOf n != -1)) then .inr (.inr ((171, ()), ())) else .inl ()) (fun _ => .inl ((), ((d, ()), ()))) (fun _ _ => True) () rfl trivial (by omega) (fun i s hi _ => ⟨?_, fun _ _ => trivial⟩) (fun s _ => ?_) ?_
        · simp only [lenLt, decide_eq_true hi, cond_true, idx_nat hi, Option.bind_some, lay_len, show decide (0 ≤ (i : Int)) = true from decide_eq_true (by omega), Bool.and_self, Int.toNat_natCast, lay_get hi]
          cases hx : (decide ((i : Int) ∈ allKids d) == (parOf d[i] != -1))
          · simp
          · simp only [Bool.not_true, cond_false, Bool.false_eq_true, if_false, wrapS (show i < 1000000 by omega)]
        · simp only [lenLt, Nat.lt_irrefl, decide_false, cond_false]
        · rcases foldL_scanI (fun (i : Nat) (n : Nd) => !(decide ((i : Int) ∈ allKids d) == (parOf n != -1))) ((.inr ((171, ()), ())) : (Unit × ((List Nd × Unit) × Unit)) ⊕ ((Int × Unit) × Unit)) (.inl ((), ((d, ()), ()))) d 0 with ⟨⟨j, n, hj, hp⟩, hf⟩ | ⟨hall, hf⟩
          · rw [hf]
            rw [if_neg (fun R => by
              have := (hRI.1 R).2.1 j n hj
              simp [this] at hp)]
          · rw [hf]
            have hl : ∀ (j : Nat) (n : Nd), d[j]? = some n → decide ((j : Int) ∈ allKids d) = (parOf n != -1) := fun j n hj => by
              have := hall j n hj
              simpa using this
            have cl : ∀ x : Int, 0 ≤ x → x < d.length → pr d x = -1 ∨ (0 ≤ pr d x ∧ pr d x < d.length) := by
              intro x hx0 hx1
              obtain ⟨a, rfl⟩ := Int.eq_ofNat_of_zero_le hx0
              have ha : a < d.length := by omega
              have hnd : d[a]? = some d[a] := List.getElem?_eq_getElem ha
              by_cases hp : pr d (a : Int) = -1
              · exact .inl hp
              · have h9 := hl a _ hnd
                rw [pr_nat hnd] at hp
                rw [show (parOf d[a] != -1) = true by simpa using hp] at h9
                have h10 : (a : Int) ∈ allKids d := by simpa using h9
                obtain ⟨m, hm1, hm2⟩ := List.mem_flatMap.1 h10
                obtain ⟨i, hi⟩ := List.getElem?_of_mem hm1
                have h11 := ((hK.1 i m hi).2.2.2 _ hm2).2.2
                have := (List.getElem?_eq_some_iff.1 hi).1
                rw [h11]
                right
                omega

            show Option.bind _ _ = _
            have inner : ∀ (i : Nat) (hi : i < d.length), (∃ m, m ≤ d.length ∧ up d m (parOf d[i]) = -1) ∨ ¬ ∃ m, m ≤ d.length ∧ up d m (parOf d[i]) = -1 := fun i hi => Classical.em _
            classical
            refine it_listB (l := d) (σ := Unit) (fun i _ => (((d, ((d.length : Int), ((i : Int), ())))), ((d, ()), ()))) (fun i n _ => if !decide (∃ m, m ≤ d.length ∧ up d m (parOf n) = -1) then .inr (.inr ((171, ()), ())) else .inl ()) (fun _ => .inl ((), ())) (fun _ _ => True) () rfl trivial (by omega) (fun i s hi _ => ⟨?_, fun _ _ => trivial⟩) (fun s _ => ?_) ?_
            · have hnd : d[i]? = some d[i] := List.getElem?_eq_getElem hi
              have hrng : parOf d[i] = -1 ∨ (0 ≤ parOf d[i] ∧ parOf d[i] < d.length) := by have := cl i (by omega) (by omega); rwa [pr_nat hnd] at this
              simp only [lenLt, decide_eq_true hi, cond_true, idx_nat hi, Option.bind_some]
              generalize hf0 : (fun (s30 : (Int × Int × List Nd × Int × Int × Unit) × ((List Nd × Unit) × Unit)) => (bif s30.1.2.1 != -1 then _ else _ : Option (((Int × Int × List Nd × Int × Int × Unit) × ((List Nd × Unit) × Unit)) ⊕ (((List Nd × Int × Int × Unit) × ((List Nd × Unit) × Unit)) ⊕ ((Int × Unit) × Unit))))) = f0
              have hw := walkUp (f := f0) d (fun s x => (((s : Int), (x, (d, ((d.length : Int), ((i : Int), ()))))), ((d, ()), ()))) (.inl ((d, ((d.length : Int), ((i : Int), ()))), ((d, ()), ()))) (.inr ((171, ()), ())) cl (fun s => by rw [← hf0]; rfl) (fun s x hx0 hx1 hs1 hs2 => ?_) (fun s x hx0 hx1 hs1 => ?_) d.length 0 (parOf d[i]) 5000 (by omega) (by omega) hrng
              · rcases hw with ⟨he, hv⟩ | ⟨he, hv⟩
                · rw [decide_eq_true he]
                  show ((iterN f0 5000 _).bind _) = _
                  have hv' : iterN f0 5000 (((0 : Int), (d[i].2.2.2.2.1, (d, ((d.length : Int), ((i : Int), ()))))), ((d, ()), ())) = _ := hv
                  rw [hv']
                  simp only [Option.bind_some, Bool.not_true, Bool.false_eq_true, if_false, wrapS (show i < 1000000 by omega)]
                · rw [decide_eq_false he]
                  show ((iterN f0 5000 _).bind _) = _
                  have hv' : iterN f0 5000 (((0 : Int), (d[i].2.2.2.2.1, (d, ((d.length : Int), ((i : Int), ()))))), ((d, ()), ())) = _ := hv
                  rw [hv']
                  rfl
              · rw [← hf0]
                have b1 : (x != -1) = true := by simp; omega
                simp only [b1, cond_true, wrapS (show s < 1000000 by omega), lenGt, decide_eq_true hs1]
              · rw [← hf0]
                have b1 : (x != -1) = true := by simp; omega
                obtain ⟨a, rfl⟩ := Int.eq_ofNat_of_zero_le hx0
                have ha : a < d.length := by omega
                simp only [b1, cond_true, wrapS (show s < 1000000 by omega), lenGt, decide_eq_false (show ¬ s + 1 > d.length by omega), cond_false, idx_nat ha, Option.bind_some, pr_nat (List.getElem?_eq_getElem ha)]
            · simp only [lenLt, Nat.lt_irrefl, decide_false, cond_false]
            · rcases foldL_scanI (fun (i : Nat) (n : Nd) => !decide (∃ m, m ≤ d.length ∧ up d m (parOf n) = -1)) ((.inr ((171, ()), ())) : (Unit × Unit) ⊕ ((Int × Unit) × Unit)) (.inl ((), ())) d 0 with ⟨⟨j, n, hj, hp⟩, hf⟩ | ⟨hall2, hf⟩
              · rw [hf]
                rw [if_neg (fun R => by
                  have := (hRI.1 R).2.2 j n hj
                  simp [this] at hp)]
              · rw [hf]
                rw [if_pos (hRI.2 ⟨hok, hl, fun j n hj => by simpa using hall2 j n hj⟩)]
/-! -/
theorem flat_at {α β : Type} (f : α → List β) : ∀ {l : List α}, (l.flatMap f).Nodup → ∀ {i j : Nat} {x y : α} {b : β}, l[i]? = some x → l[j]? = some y → b ∈ f x → b ∈ f y → i = j
  | [], _, i, j, x, y, b, hi, _, _, _ => by simp at hi
  | a :: l, h, i, j, x, y, b, hi, hj, hx, hy => by
    rw [List.flatMap_cons, List.nodup_append] at h
    obtain ⟨h1, h2, h3⟩ := h
    cases i with
    | zero =>
      cases j with
      | zero => rfl
      | succ j =>
        simp only [List.getElem?_cons_zero, Option.some.injEq] at hi
        subst hi
        exact absurd rfl (h3 b hx b (List.mem_flatMap.2 ⟨y, List.mem_of_getElem? (by simpa using hj), hy⟩))
    | succ i =>
      cases j with
      | zero =>
        simp only [List.getElem?_cons_zero, Option.some.injEq] at hj
        subst hj
        exact absurd rfl (h3 b hy b (List.mem_flatMap.2 ⟨x, List.mem_of_getElem? (by simpa using hi), hx⟩))
      | succ j => exact congrArg (· + 1) (flat_at f h2 (by simpa using hi) (by simpa using hj) hx hy)
def kidsB (d : List Nd) (n : Nd) : Bool := !((!(kidsOf n == []) && !holdsB n) || decide ((kidsOf n).length > d.length)) && (kidsOf n).all fun k => decide (1 ≤ k) && decide (k < (d.length : Int))
theorem refKids (d : List Nd) (h : Sm d) (i : Nat) (hi : i < d.length) : pounceref16_kids_ (Ev.upto 5000) ((d, ((i : Int), ())), ()) = some ((kidsB d d[i], ()), ()) := by
  unfold pounceref16_kids_
  have hm2 : (kidsOf d[i]).length ≤ 4000 := (h.2 _ (List.getElem_mem hi)).2
  have hgt : decide (((kidsOf d[i]).length : Int) > 0) = !(kidsOf d[i] == []) := (lenGt (kidsOf d[i]).length 0).trans (kids0 _)
  have flag : ∀ (X : (List Int × Bool × Unit) × ((List Nd × Unit) × Unit) → Option ((Bool × Unit) × Unit)), (((bif (!(kidsOf d[i] == [])) == true then (bif (!holdsB d[i]) == false then some ((kidsOf d[i], (decide ((kidsOf d[i]).length > d.length), ())), ((d, ()), ())) else some ((kidsOf d[i], (true, ())), ((d, ()), ()))) else some ((kidsOf d[i], (decide ((kidsOf d[i]).length > d.length), ())), ((d, ()), ()))) : Option _).bind X)
      = X ((kidsOf d[i], ((!(kidsOf d[i] == []) && !holdsB d[i]) || decide ((kidsOf d[i]).length > d.length), ())), ((d, ()), ())) := by
    intro X
    cases (kidsOf d[i] == []) <;> cases holdsB d[i] <;> simp
  simp only [idx_nat hi, Option.bind_some, refHolds d[i], hgt, lenGt]
  refine (flag _).trans ?_
  unfold kidsB
  cases hfl : ((!(kidsOf d[i] == []) && !holdsB d[i]) || decide ((kidsOf d[i]).length > d.length)) with
  | true => simp
  | false =>
    simp only [cond_false, Bool.not_false, Bool.true_and]
    refine it_listB (l := kidsOf d[i]) (σ := Unit) (fun j _ => ((kidsOf d[i], ((j : Int), ())), ((d, ()), ()))) (fun _ k _ => if !(decide (1 ≤ k) && decide (k < (d.length : Int))) then .inr (.inr ((false, ()), ())) else .inl ()) (fun _ => .inl ((), ())) (fun _ _ => True) () rfl trivial (by omega) (fun j s hj _ => ⟨?_, fun _ _ => trivial⟩) (fun s _ => ?_) ?_
    · simp only [lenLt, decide_eq_true hj, cond_true, idx_nat hj, Option.bind_some, lt_one, ge_len]
      generalize (kidsOf d[i])[j] = k
      by_cases k1 : 1 ≤ k
      case neg => simp [k1]
      by_cases k2 : k < (d.length : Int)
      case neg => simp [k1, k2]
      simp only [decide_eq_true k1, decide_eq_true k2, Bool.not_true, beq_self_eq_true, cond_true, Option.bind_some, cond_false, Bool.and_self, Bool.false_eq_true, if_false, wrapS (show j < 1000000 by omega)]
    · simp only [lenLt, Nat.lt_irrefl, decide_false, cond_false]
    · rw [foldL_scan]
      have : ((kidsOf d[i]).any fun k => !(decide (1 ≤ k) && decide (k < (d.length : Int)))) = !((kidsOf d[i]).all fun k => decide (1 ≤ k) && decide (k < (d.length : Int))) := by rw [List.not_all_eq_any_not]
      rw [this]
      cases ((kidsOf d[i]).all fun k => decide (1 ≤ k) && decide (k < (d.length : Int))) <;> rfl
theorem wrapC {i : Nat} (h : i < 100000000) : IntKind.wrap .i64 ((i : Int) + 1) = ((i + 1 : Nat) : Int) := by
  rw [wrap64 (by omega) (by omega)]; rfl
theorem foldL_acc {ε σ β : Type} (nx : Nat → ε → σ → σ) (fin : σ → β) : ∀ (l : List ε) (i : Nat) (s : σ), foldL (fun i x s => (.inl (nx i x s) : σ ⊕ β)) fin i l s = fin ((l.foldl (fun (p : Nat × σ) x => (p.1 + 1, nx p.1 x p.2)) (i, s)).2)
  | [], _, _ => rfl
  | x :: l, i, s => by
    unfold foldL
    simp only
    rw [foldL_acc nx fin l (i + 1) (nx i x s)]
    rfl
theorem fold2 {ε σ : Type} (nx : ε → σ → σ) : ∀ (l : List ε) (i : Nat) (s : σ), (l.foldl (fun (p : Nat × σ) x => (p.1 + 1, nx x p.2)) (i, s)).2 = l.foldl (fun s x => nx x s) s
  | [], _, _ => rfl
  | x :: l, i, s => by rw [List.foldl_cons, List.foldl_cons]; exact fold2 nx l (i + 1) (nx x s)
theorem foldCount (x : Int) : ∀ (l : List Int) (c : Nat), l.foldl (fun (s : Nat) k => if k = x then s + 1 else s) c = c + l.count x
  | [], c => by simp
  | k :: l, c => by
    rw [List.foldl_cons, foldCount x l]
    by_cases h : k = x
    · subst h; simp [List.count_cons]; omega
    · rw [if_neg h, List.count_cons, if_neg (by simpa using h)]
      rfl
theorem foldCounts (x : Int) : ∀ (l : List Nd) (c : Nat), l.foldl (fun (s : Nat) n => s + (kidsOf n).count x) c = c + (l.flatMap kidsOf).count x
  | [], c => by simp
  | n :: l, c => by
    rw [List.foldl_cons, foldCounts x l, List.flatMap_cons, List.count_append]
    omega
theorem countLe (l : List Nd) (h : ∀ n, n ∈ l → (kidsOf n).length ≤ 4000) (x : Int) : (l.flatMap kidsOf).count x ≤ l.length * 4000 := by
  induction l with
  | nil => simp
  | cons n l ih =>
    rw [List.flatMap_cons, List.count_append]
    have h1 := h n (List.mem_cons_self ..)
    have h2 : (kidsOf n).count x ≤ (kidsOf n).length := List.count_le_length
    have h3 := ih fun m hm => h m (List.mem_cons_of_mem _ hm)
    simp only [List.length_cons, Nat.add_mul]
    omega
theorem foldCounts' (x : Int) (d : List Nd) : ∀ (i : Nat), i ≤ d.length → (d.take i).foldl (fun (s : Nat) n => s + (kidsOf n).count x) 0 = ((d.take i).flatMap kidsOf).count x := fun i _ => by rw [foldCounts]; omega
theorem refTimes (d : List Nd) (h : Sm d) (hl : d.length ≤ 300) (x : Int) : pounceref16_times_ (Ev.upto 5000) ((d, (x, ())), ()) = some (((((allKids d).count x : Nat) : Int), ()), ()) := by
  unfold pounceref16_times_
  refine it_listB (l := d) (σ := Nat) (fun i c => (((x, ((c : Int), ((i : Int), ())))), ((d, ()), ()))) (fun _ n c => .inl (c + (kidsOf n).count x)) (fun c => (((c : Int), ()), ())) (fun i c => c ≤ i * 4000) 0 rfl (by simp) (by omega) (fun i c hi hc => ⟨?_, fun c' e => ?_⟩) (fun s _ => ?_) ?_
  · have hm2 : (kidsOf d[i]).length ≤ 4000 := (h.2 _ (List.getElem_mem hi)).2
    simp only [lenLt, decide_eq_true hi, cond_true]
    refine it_listB (l := kidsOf d[i]) (σ := Nat) (fun j c => (((x, ((c : Int), ((i : Int), ((j : Int), ()))))), ((d, ()), ()))) (fun _ k c => .inl (if k = x then c + 1 else c)) (fun c => ((x, ((c : Int), ((i : Int), ()))), ((d, ()), ()))) (fun j c' => c' ≤ i * 4000 + j) c rfl (Nat.le_trans hc (Nat.le_add_right _ _)) (by omega) (fun j c hj hc => ⟨?_, fun c' e => ?_⟩) (fun s _ => ?_) ?_
    · simp only [idx_nat hi, Option.bind_some, lenLt, decide_eq_true hj, cond_true, idx_nat hj]
      have hil : i ≤ 300 := by omega
      have hjl : j ≤ 4000 := by omega
      by_cases hk : (kidsOf d[i])[j] = x
      · have hb : ((kidsOf d[i])[j] == x) = true := by simpa using hk
        simp only [hb, cond_true, Option.bind_some, if_pos hk, wrapC (show c < 100000000 by omega), wrapS (show j < 1000000 by omega)]
      · have hb : ((kidsOf d[i])[j] == x) = false := by simpa using hk
        simp only [hb, cond_false, Option.bind_some, if_neg hk, wrapS (show j < 1000000 by omega)]
    · simp only [Sum.inl.injEq] at e
      subst e
      split <;> omega
    · simp only [idx_nat hi, Option.bind_some, lenLt, Nat.lt_irrefl, decide_false, cond_false]
    · rw [foldL_acc (fun _ k c => if k = x then c + 1 else c), fold2 (fun k c => if k = x then c + 1 else c), foldCount]
      simp only [wrapS (show i < 1000000 by omega)]
  · simp only [Sum.inl.injEq] at e
    subst e
    have h2 : (kidsOf d[i]).count x ≤ (kidsOf d[i]).length := List.count_le_length
    have hm2 : (kidsOf d[i]).length ≤ 4000 := (h.2 _ (List.getElem_mem hi)).2
    omega
  · simp only [lenLt, Nat.lt_irrefl, decide_false, cond_false]
  · rw [foldL_acc (fun _ n c => c + (kidsOf n).count x), fold2 (fun n c => c + (kidsOf n).count x), foldCounts]
    simp [allKids]
theorem refHas (d : List Nd) (h : Sm d) (p : Nat) (hp : p < d.length) (x : Int) : pounceref16_has_ (Ev.upto 5000) ((d, ((p : Int), (x, ()))), ()) = some ((decide (x ∈ kidsOf d[p]), ()), ()) := by
  unfold pounceref16_has_
  have hm2 : (kidsOf d[p]).length ≤ 4000 := (h.2 _ (List.getElem_mem hp)).2
  refine it_listB (l := kidsOf d[p]) (σ := Unit) (fun j _ => ((((p : Int), (x, ((j : Int), ())))), ((d, ()), ()))) (fun _ k _ => if k == x then .inr (.inr ((true, ()), ())) else .inl ()) (fun _ => .inl ((), ())) (fun _ _ => True) () rfl trivial (by omega) (fun j s hj _ => ⟨?_, fun _ _ => trivial⟩) (fun s _ => ?_) ?_
  · simp only [idx_nat hp, Option.bind_some, lenLt, decide_eq_true hj, cond_true, idx_nat hj]
    cases ((kidsOf d[p])[j] == x)
    · simp only [cond_false, Bool.false_eq_true, if_false, wrapS (show j < 1000000 by omega)]
    · simp
  · simp only [idx_nat hp, Option.bind_some, lenLt, Nat.lt_irrefl, decide_false, cond_false]
  · rw [foldL_scan]
    have : ((kidsOf d[p]).any fun k => k == x) = decide (x ∈ kidsOf d[p]) := by
      rw [Bool.eq_iff_iff, List.any_eq_true, decide_eq_true_eq]
      constructor
      · rintro ⟨k, h1, h2⟩; rw [← (by simpa using h2 : k = x)]; exact h1
      · exact fun h => ⟨x, h, by simp⟩
    rw [this]
    by_cases hx : x ∈ kidsOf d[p] <;> simp [hx]
def placedB (d : List Nd) (i : Nat) : Bool :=
  if pr d i = -1 then (allKids d).count (i : Int) == 0
  else decide (0 < i) && decide (0 ≤ pr d i) && decide (pr d i < (d.length : Int)) && (match idx d (pr d i) with | some m => holdsB m && decide ((i : Int) ∈ kidsOf m) | none => false) && ((allKids d).count (i : Int) == 1)
theorem refPlaced (d : List Nd) (h : Sm d) (hl : d.length ≤ 300) (i : Nat) (hi : i < d.length) : pounceref16_placed_ (Ev.upto 5000) ((d, ((i : Int), ())), ()) = some ((placedB d i, ()), ()) := by
  unfold pounceref16_placed_ placedB
  have hpr : pr d (i : Int) = parOf d[i] := pr_nat (List.getElem?_eq_getElem hi)
  simp only [idx_nat hi, Option.bind_some, refTimes d h hl, hpr]
  by_cases h1 : parOf d[i] = -1
  · have b1 : (d[i].2.2.2.2.1 == -1) = true := by simpa using h1
    simp only [b1, cond_true, if_pos h1]
    have : ∀ c : Nat, ((c : Int) == 0) = (c == 0) := fun c => by rw [Bool.eq_iff_iff]; simp
    simp only [this]
  · have b1 : (d[i].2.2.2.2.1 == -1) = false := by simpa using h1
    simp only [b1, cond_false, if_neg h1, natGt0]
    by_cases h2 : i > 0
    case neg => simp [h2]
    by_cases h3 : 0 ≤ parOf d[i]
    case neg =>
      have : ¬ d[i].2.2.2.2.1 ≥ 0 := h3
      simp [h2, h3, this]
    by_cases h4 : parOf d[i] < (d.length : Int)
    case neg =>
      have : d[i].2.2.2.2.1 ≥ 0 := h3
      have h4' : ¬ d[i].2.2.2.2.1 < (d.length : Int) := h4
      simp [h2, h3, this, h4, h4']
    have e3 : decide (d[i].2.2.2.2.1 ≥ 0) = true := decide_eq_true h3
    have e4 : decide (d[i].2.2.2.2.1 < (d.length : Int)) = true := decide_eq_true h4
    obtain ⟨p, hp⟩ := Int.eq_ofNat_of_zero_le h3
    have hpl : p < d.length := by omega
    have hp' : d[i].2.2.2.2.1 = (p : Int) := hp
    simp only [decide_eq_true h2, beq_self_eq_true, cond_true, e3, e4, hp', hp, idx_nat hpl, Option.bind_some, refHolds d[p], refHas d h p hpl, show decide (0 ≤ (p : Int)) = true from decide_eq_true (by omega), show decide ((p : Int) < (d.length : Int)) = true from decide_eq_true (by omega), show decide (0 < i) = true from decide_eq_true h2, Bool.true_and]
    have : ∀ c : Nat, ((c : Int) == 1) = (c == 1) := fun c => by rw [Bool.eq_iff_iff]; simp; omega
    simp only [this]
    cases holdsB d[p] <;> by_cases hx : (i : Int) ∈ kidsOf d[p] <;> simp [hx]
theorem nodupCount {l : List Int} : l.Nodup ↔ ∀ a, l.count a ≤ 1 := by
  induction l with
  | nil => simp
  | cons x l ih =>
    rw [List.nodup_cons, ih]
    constructor
    · rintro ⟨h1, h2⟩ a
      rw [List.count_cons]
      split
      · rename_i h
        have e : x = a := by simpa using h
        subst e
        rw [List.count_eq_zero.2 h1]
        omega
      · have := h2 a; omega
    · intro h
      refine ⟨fun hx => ?_, fun a => ?_⟩
      · have := h x
        rw [List.count_cons, if_pos (by simp)] at this
        have := List.count_pos_iff.2 hx
        omega
      · have := h a
        rw [List.count_cons] at this
        omega
theorem nodupLen : ∀ (n : Nat) (l : List Int), l.Nodup → (∀ k, k ∈ l → 0 ≤ k ∧ k < n) → l.length ≤ n
  | 0, l, _, h => by
    cases l with
    | nil => simp
    | cons a l => have := h a (by simp); omega
  | n + 1, l, hn, h => by
    have h1 := nodupLen n (l.filter fun k => k != (n : Int)) (hn.filter _) (fun k hk => by
      obtain ⟨a, b⟩ := List.mem_filter.1 hk
      have := h k a
      have : k ≠ (n : Int) := by simpa using b
      omega)
    have h2 := List.length_eq_countP_add_countP (fun k => k != (n : Int)) (l := l)
    rw [List.countP_eq_length_filter] at h2
    have h3 : l.countP (fun k => decide ¬((k != (n : Int)) = true)) = l.count (n : Int) := by
      unfold List.count
      congr 1
      funext k
      by_cases hk : k = (n : Int) <;> simp [hk]
    rw [h3] at h2
    have := nodupCount.1 hn (n : Int)
    omega
theorem leLen (i n : Nat) : decide ((i : Int) ≤ (n : Int)) = decide (i ≤ n) := by
  by_cases h : i ≤ n
  · rw [decide_eq_true h, decide_eq_true (by omega)]
  · rw [decide_eq_false h, decide_eq_false (by omega)]
theorem refEnds (d : List Nd) (hl : d.length ≤ 300) (cl : ∀ x : Int, 0 ≤ x → x < d.length → pr d x = -1 ∨ (0 ≤ pr d x ∧ pr d x < d.length)) (i : Nat) (hi : i < d.length) :
    ∃ b, pounceref16_ends_ (Ev.upto 5000) ((d, ((i : Int), ())), ()) = some ((b, ()), ()) ∧ (b = true ↔ ∃ m, m ≤ d.length ∧ up d m (pr d i) = -1) := by
  have key : ∀ {f : ((Int × Int × Unit) × ((List Nd × Unit) × Unit)) → Option (((Int × Int × Unit) × ((List Nd × Unit) × Unit)) ⊕ ((Unit × Unit) ⊕ ((Bool × Unit) × Unit)))},
      (∀ (s : Nat) (x : Nat), x < d.length → s ≤ d.length → f ((((x : Int), ((s : Int), ())), ((d, ()), ()))) = if pr d x = -1 then some (.inr (.inr ((true, ()), ()))) else some (.inl (((pr d x, (((s + 1 : Nat) : Int), ())), ((d, ()), ()))))) →
      (∀ (s : Nat) (x : Int), s > d.length → f (((x, ((s : Int), ())), ((d, ()), ()))) = some (.inr (.inl ((), ())))) →
      ∀ (m s : Nat) (x : Nat) (N : Nat), s + m = d.length → m + 1 < N → x < d.length →
        ((∃ j, j ≤ m ∧ up d j (pr d x) = -1) ∧ iterN f N ((((x : Int), ((s : Int), ())), ((d, ()), ()))) = some (.inr ((true, ()), ()))) ∨ ((¬ ∃ j, j ≤ m ∧ up d j (pr d x) = -1) ∧ iterN f N ((((x : Int), ((s : Int), ())), ((d, ()), ()))) = some (.inl ((), ()))) := by
    intro f h1 h2 m
    induction m with
    | zero =>
      intro s x N hs hN hx
      obtain ⟨N, rfl⟩ : ∃ M, N = M + 2 := ⟨N - 2, by omega⟩
      unfold iterN
      rw [h1 s x hx (by omega)]
      by_cases hp : pr d x = -1
      · rw [if_pos hp]; exact .inl ⟨⟨0, Nat.le_refl _, hp⟩, rfl⟩
      · rw [if_neg hp]
        refine .inr ⟨?_, ?_⟩
        · rintro ⟨j, hj, hu⟩
          obtain rfl : j = 0 := by omega
          exact hp hu
        · simp only [Option.bind_some]
          unfold iterN
          rw [h2 (s + 1) _ (by omega)]
          rfl
    | succ m ih =>
      intro s x N hs hN hx
      obtain ⟨N, rfl⟩ : ∃ M, N = M + 1 := ⟨N - 1, by omega⟩
      unfold iterN
      rw [h1 s x hx (by omega)]
      by_cases hp : pr d x = -1
      · rw [if_pos hp]; exact .inl ⟨⟨0, Nat.zero_le _, hp⟩, rfl⟩
      · rw [if_neg hp]
        simp only [Option.bind_some]
        obtain ⟨hp0, hp1⟩ := (cl x (by omega) (by omega)).resolve_left hp
        obtain ⟨y, hy⟩ := Int.eq_ofNat_of_zero_le hp0
        rw [hy]
        rcases ih (s + 1) y N (by omega) (by omega) (by omega) with ⟨⟨j, h3, h4⟩, h5⟩ | ⟨h3, h5⟩
        · exact .inl ⟨⟨j + 1, by omega, h4⟩, h5⟩
        · refine .inr ⟨?_, h5⟩
          rintro ⟨j, hj, hu⟩
          cases j with
          | zero =>
            have hu : pr d x = -1 := by rw [hy]; exact hu
            exact hp hu
          | succ j => exact h3 ⟨j, by omega, hu⟩
  unfold pounceref16_ends_
  generalize hf0 : (fun (s1 : (Int × Int × Unit) × ((List Nd × Unit) × Unit)) => (bif decide (s1.1.2.1 ≤ ((s1.2.1.1).length : Int)) then _ else _ : Option (((Int × Int × Unit) × ((List Nd × Unit) × Unit)) ⊕ ((Unit × Unit) ⊕ ((Bool × Unit) × Unit))))) = f0
  have h1 : ∀ (s : Nat) (x : Nat), x < d.length → s ≤ d.length → f0 ((((x : Int), ((s : Int), ())), ((d, ()), ()))) = if pr d x = -1 then some (.inr (.inr ((true, ()), ()))) else some (.inl (((pr d x, (((s + 1 : Nat) : Int), ())), ((d, ()), ())))) := by
    intro s x hx hs
    rw [← hf0, pr_nat (List.getElem?_eq_getElem hx)]
    simp only [leLen, decide_eq_true hs, cond_true, idx_nat hx, Option.bind_some, wrapS (show s < 1000000 by omega)]
    by_cases hp : parOf d[x] = -1
    · have b1 : (d[x].2.2.2.2.1 == -1) = true := by simpa using hp
      simp only [b1, cond_true, if_pos hp]
    · have b1 : (d[x].2.2.2.2.1 == -1) = false := by simpa using hp
      simp only [b1, cond_false, if_neg hp]
  have h2 : ∀ (s : Nat) (x : Int), s > d.length → f0 (((x, ((s : Int), ())), ((d, ()), ()))) = some (.inr (.inl ((), ()))) := by
    intro s x hs
    rw [← hf0]
    simp only [leLen, decide_eq_false (show ¬ s ≤ d.length by omega), cond_false]
  rcases key h1 h2 d.length 0 i 5000 (by omega) (by omega) hi with ⟨h3, h4⟩ | ⟨h3, h4⟩
  · refine ⟨true, ?_, by simp only [true_iff]; exact h3⟩
    show ((iterN f0 5000 _).bind _) = _
    have h4' : iterN f0 5000 ((((i : Int), ((0 : Int), ())), ((d, ()), ()))) = _ := h4
    rw [h4']
    rfl
  · refine ⟨false, ?_, by simp only [Bool.false_eq_true, false_iff]; exact h3⟩
    show ((iterN f0 5000 _).bind _) = _
    have h4' : iterN f0 5000 ((((i : Int), ((0 : Int), ())), ((d, ()), ()))) = _ := h4
    rw [h4']
    rfl
theorem right_ref (d : List Nd) (h3 : d.length ≤ 300) (n0 : Nd) (hn0 : d[0]? = some n0) : Right d ↔ parOf n0 = -1 ∧ (∀ (j : Nat) (n : Nd), d[j]? = some n → mayB n = true ∧ (n.1 == 1) = ((j : Int) == 0) ∧ kidsB d n = true) ∧ (∀ (j : Nat), j < d.length → placedB d j = true) ∧ (∀ (j : Nat) (n : Nd), d[j]? = some n → ∃ m, m ≤ d.length ∧ up d m (parOf n) = -1) := by
  have hpr : ∀ (j : Nat) (n : Nd), d[j]? = some n → pr d j = parOf n := fun j n hj => pr_nat hj
  have hmem : ∀ k : Int, k ∈ allKids d ↔ ∃ (i : Nat) (n : Nd), d[i]? = some n ∧ k ∈ kidsOf n := by
    intro k
    unfold allKids
    rw [List.mem_flatMap]
    constructor
    · rintro ⟨n, hn, hk⟩
      obtain ⟨i, hi⟩ := List.getElem?_of_mem hn
      exact ⟨i, n, hi, hk⟩
    · rintro ⟨i, n, hi, hk⟩
      exact ⟨n, List.mem_of_getElem? hi, hk⟩
  have hkb : ∀ n, kidsB d n = true ↔ (kidsOf n ≠ [] → holdsB n = true) ∧ (kidsOf n).length ≤ d.length ∧ ∀ k, k ∈ kidsOf n → 1 ≤ k ∧ k < d.length := by
    intro n
    unfold kidsB
    simp only [Bool.and_eq_true, Bool.not_eq_true', Bool.or_eq_false_iff, decide_eq_false_iff_not, List.all_eq_true, decide_eq_true_eq]
    have : ((!(kidsOf n == []) && !holdsB n) = false) ↔ (kidsOf n ≠ [] → holdsB n = true) := by
      cases hh : kidsOf n with
      | nil => simp
      | cons a l => cases holdsB n <;> simp
    rw [this]
    constructor
    · rintro ⟨⟨a, b⟩, c⟩; exact ⟨a, by omega, c⟩
    · rintro ⟨a, b, c⟩; exact ⟨⟨a, by omega⟩, c⟩
  constructor
  · intro R
    have klen : ∀ n, n ∈ d → (kidsOf n).length ≤ d.length := by
      intro n hn
      have hnd : (kidsOf n).Nodup := List.Nodup.sublist (by
        obtain ⟨l1, l2, rfl⟩ := List.append_of_mem hn
        simp only [allKids, List.flatMap_append, List.flatMap_cons]
        exact (List.sublist_append_left _ _).trans (List.sublist_append_right _ _)) R.nodup
      exact nodupLen _ _ hnd fun k hk => by have := R.rng n hn k hk; omega
    refine ⟨?_, fun j n hj => ⟨R.may n (List.mem_of_getElem? hj), ?_, (hkb n).2 ⟨R.holds n (List.mem_of_getElem? hj), klen n (List.mem_of_getElem? hj), R.rng n (List.mem_of_getElem? hj)⟩⟩, fun j hj => ?_, R.ends⟩
    · have := R.par0; rw [show (0 : Int) = ((0 : Nat) : Int) from rfl, pr_nat hn0] at this; exact this
    · rw [Bool.eq_iff_iff, beq_iff_eq, beq_iff_eq, R.root j n hj]; omega
    · have hnd : d[j]? = some d[j] := List.getElem?_eq_getElem hj
      have hc : (allKids d).count (j : Int) ≤ 1 := nodupCount.1 R.nodup _
      unfold placedB
      rw [hpr j _ hnd]
      by_cases hp : parOf d[j] = -1
      · rw [if_pos hp, beq_iff_eq, List.count_eq_zero]
        intro hk
        obtain ⟨i, n, hi, hk⟩ := (hmem _).1 hk
        have := R.back i n hi _ hk
        rw [hpr j _ hnd] at this
        omega
      · rw [if_neg hp]
        have hk := R.laid j _ hnd hp
        obtain ⟨i, n, hi, hk2⟩ := (hmem _).1 hk
        have hb := R.back i n hi _ hk2
        rw [hpr j _ hnd] at hb
        have hil := (List.getElem?_eq_some_iff.1 hi).1
        have hr := R.rng n (List.mem_of_getElem? hi) _ hk2
        have hidx : idx d (i : Int) = some n := by unfold idx; rw [if_pos (by omega), Int.toNat_natCast]; exact hi
        have hcp : 0 < (allKids d).count (j : Int) := List.count_pos_iff.2 hk
        rw [hb, hidx]
        simp only [Bool.and_eq_true, decide_eq_true_eq, beq_iff_eq]
        exact ⟨⟨⟨⟨by omega, by omega⟩, by omega⟩, R.holds n (List.mem_of_getElem? hi) (List.ne_nil_of_mem hk2), hk2⟩, by omega⟩
  · rintro ⟨h1, h2, h4, h5⟩
    have kr : ∀ k, k ∈ allKids d → ∃ a : Nat, k = (a : Int) ∧ a < d.length := by
      intro k hk
      obtain ⟨i, n, hi, hk⟩ := (hmem k).1 hk
      obtain ⟨a, b⟩ := ((hkb n).1 (h2 i n hi).2.2).2.2 k hk
      exact ⟨k.toNat, by omega, by omega⟩
    have cnt : ∀ (a : Nat) (ha : a < d.length), (allKids d).count (a : Int) ≤ 1 ∧ ((a : Int) ∈ allKids d → parOf d[a] ≠ -1) ∧ (parOf d[a] ≠ -1 → ∃ (p : Nat) (m : Nd), parOf d[a] = (p : Int) ∧ d[p]? = some m ∧ (a : Int) ∈ kidsOf m) := by
      intro a ha
      have hnd : d[a]? = some d[a] := List.getElem?_eq_getElem ha
      have := h4 a ha
      unfold placedB at this
      rw [hpr a _ hnd] at this
      by_cases hp : parOf d[a] = -1
      · rw [if_pos hp, beq_iff_eq] at this
        refine ⟨by omega, fun hk => ?_, fun h => absurd hp h⟩
        rw [List.count_eq_zero] at this
        exact absurd hk this
      · rw [if_neg hp] at this
        simp only [Bool.and_eq_true, decide_eq_true_eq, beq_iff_eq] at this
        obtain ⟨⟨⟨⟨_, g1⟩, g2⟩, g3⟩, g4⟩ := this
        refine ⟨by omega, fun _ => hp, fun _ => ?_⟩
        obtain ⟨p, hp2⟩ := Int.eq_ofNat_of_zero_le g1
        rw [hp2] at g3 g2
        have hpl : p < d.length := by omega
        rw [idx_nat hpl] at g3
        simp only [Bool.and_eq_true, decide_eq_true_eq] at g3
        exact ⟨p, d[p], hp2, List.getElem?_eq_getElem hpl, g3.2⟩
    have hnodup : (allKids d).Nodup := by
      rw [nodupCount]
      intro k
      by_cases hk : k ∈ allKids d
      · obtain ⟨a, rfl, ha⟩ := kr k hk
        exact (cnt a ha).1
      · rw [List.count_eq_zero.2 hk]; omega
    refine ⟨h3, by have := (List.getElem?_eq_some_iff.1 hn0).1; omega, fun n hn => ?_, fun i n hi => ?_, by rw [show (0 : Int) = ((0 : Nat) : Int) from rfl, pr_nat hn0]; exact h1, fun n hn => ?_, fun n hn k hk => ?_, hnodup, fun i n hi k hk => ?_, fun i n hi hp => ?_, h5⟩
    · obtain ⟨i, hi⟩ := List.getElem?_of_mem hn; exact (h2 i n hi).1
    · have := (h2 i n hi).2.1
      rw [Bool.eq_iff_iff, beq_iff_eq, beq_iff_eq] at this
      omega
    · obtain ⟨i, hi⟩ := List.getElem?_of_mem hn; exact ((hkb n).1 (h2 i n hi).2.2).1
    · obtain ⟨i, hi⟩ := List.getElem?_of_mem hn
      exact ((hkb n).1 (h2 i n hi).2.2).2.2 k hk
    · have hka : k ∈ allKids d := (hmem k).2 ⟨i, n, hi, hk⟩
      obtain ⟨a, rfl, ha⟩ := kr k hka
      obtain ⟨p, m, g1, g2, g3⟩ := (cnt a ha).2.2 ((cnt a ha).2.1 hka)
      rw [hpr a _ (List.getElem?_eq_getElem ha), g1]
      rw [flat_at kidsOf hnodup g2 hi g3 hk]
    · have ha := (List.getElem?_eq_some_iff.1 hi).1
      have he : d[i] = n := (List.getElem?_eq_some_iff.1 hi).2
      obtain ⟨p, m, g1, g2, g3⟩ := (cnt i ha).2.2 (by rw [he]; exact hp)
      exact (hmem _).2 ⟨p, m, g2, g3⟩
theorem refCheck (d : List Nd) (h : Sm d) : pounceref16_Check_ (Ev.upto 5000) ((d, ()), ()) = some ((chk d, ()), ()) := by
  unfold pounceref16_Check_
  simp only [show (300 : Int) = ((300 : Nat) : Int) from rfl, lenGt]
  unfold chk
  by_cases h3 : d.length > 300
  · rw [if_pos h3]; simp [h3]
  rw [if_neg h3]
  simp only [decide_eq_false h3, cond_false]
  cases hd : d[0]? with
  | none =>
    have hd0 : d = [] := by
      cases d with
      | nil => rfl
      | cons a d => simp at hd
    subst hd0
    rw [if_neg (fun R => by have := R.pos; simp at this)]
    rfl
  | some n0 =>
    have hpos : 0 < d.length := (List.getElem?_eq_some_iff.1 hd).1
    have hl0 : ((d.length : Int) == 0) = false := by rw [beq_eq_false_iff_ne]; omega
    have hi0 : idx d 0 = some n0 := by unfold idx; simpa using hd
    simp only [hl0, beq_self_eq_true, cond_true, hi0, Option.bind_some]
    have hRI := right_ref d (by omega) n0 hd
    by_cases hr2 : parOf n0 = -1
    case neg =>
      rw [if_neg (fun R => hr2 (hRI.1 R).1)]
      have : (n0.2.2.2.2.1 != -1) = true := by simpa using hr2
      simp [this]
    have e2 : (n0.2.2.2.2.1 != -1) = false := by simpa using hr2
    simp only [e2, cond_false]
    refine it_listB (l := d) (σ := Unit) (fun i _ => ((((i : Int), ()), ((d, ()), ())))) (fun i n _ => if !(mayB n && ((n.1 == 1) == ((i : Int) == 0)) && kidsB d n) then .inr (.inr ((171, ()), ())) else .inl ()) (fun _ => .inl ((), ((d, ()), ()))) (fun _ _ => True) () rfl trivial (by omega) (fun i s hi _ => ⟨?_, fun _ _ => trivial⟩) (fun s _ => ?_) ?_
    · have hm := h.2 _ (List.getElem_mem hi)
      simp only [lenLt, decide_eq_true hi, cond_true, idx_nat hi, Option.bind_some, refMay _ hm.1, refKids d h i hi]
      cases mayB d[i]
      · simp
      · cases hh : ((d[i].1 == 1) == ((i : Int) == 0))
        · simp [hh]
        · cases hk : kidsB d d[i]
          · simp [hh, hk]
          · simp only [hh, hk, Bool.not_true, beq_self_eq_true, cond_true, Option.bind_some, cond_false, Bool.and_self, Bool.false_eq_true, if_false, wrapS (show i < 1000000 by omega)]
    · simp only [lenLt, Nat.lt_irrefl, decide_false, cond_false]
    · rcases foldL_scanI (fun (i : Nat) (n : Nd) => !(mayB n && ((n.1 == 1) == ((i : Int) == 0)) && kidsB d n)) ((.inr ((171, ()), ())) : (Unit × ((List Nd × Unit) × Unit)) ⊕ ((Int × Unit) × Unit)) (.inl ((), ((d, ()), ()))) d 0 with ⟨⟨j, n, hj, hp⟩, hf⟩ | ⟨hall, hf⟩
      · rw [hf]
        rw [if_neg (show ¬ Right d from fun R => by
          obtain ⟨a, b, c⟩ := (hRI.1 R).2.1 j n hj
          simp [a, b, c] at hp)]
      · rw [hf]
        have hA : ∀ (j : Nat) (n : Nd), d[j]? = some n → mayB n = true ∧ (n.1 == 1) = ((j : Int) == 0) ∧ kidsB d n = true := fun j n hj => by
          have := hall j n hj
          simp only [Nat.zero_add, Bool.not_eq_false', Bool.and_eq_true] at this
          exact ⟨this.1.1, eq_of_beq this.1.2, this.2⟩
        show Option.bind _ _ = _
        refine it_listB (l := d) (σ := Unit) (fun i _ => ((((i : Int), ()), ((d, ()), ())))) (fun i n _ => if !(placedB d i) then .inr (.inr ((171, ()), ())) else .inl ()) (fun _ => .inl ((), ((d, ()), ()))) (fun _ _ => True) () rfl trivial (by omega) (fun i s hi _ => ⟨?_, fun _ _ => trivial⟩) (fun s _ => ?_) ?_
        · simp only [lenLt, decide_eq_true hi, cond_true, refPlaced d h (by omega) i hi, Option.bind_some]
          cases placedB d i
          · simp
          · simp only [Bool.not_true, cond_false, Bool.false_eq_true, if_false, wrapS (show i < 1000000 by omega)]
        · simp only [lenLt, Nat.lt_irrefl, decide_false, cond_false]
        · rcases foldL_scanI (fun (i : Nat) (n : Nd) => !(placedB d i)) ((.inr ((171, ()), ())) : (Unit × ((List Nd × Unit) × Unit)) ⊕ ((Int × Unit) × Unit)) (.inl ((), ((d, ()), ()))) d 0 with ⟨⟨j, n, hj, hp⟩, hf⟩ | ⟨hall2, hf⟩
          · rw [hf]
            rw [if_neg (show ¬ Right d from fun R => by
              have := (hRI.1 R).2.2.1 j (List.getElem?_eq_some_iff.1 hj).1
              simp [this] at hp)]
          · rw [hf]
            have hB : ∀ (j : Nat), j < d.length → placedB d j = true := fun j hj => by
              have := hall2 j _ (List.getElem?_eq_getElem hj)
              simpa using this
            have cl : ∀ x : Int, 0 ≤ x → x < d.length → pr d x = -1 ∨ (0 ≤ pr d x ∧ pr d x < d.length) := by
              intro x hx0 hx1
              obtain ⟨a, rfl⟩ := Int.eq_ofNat_of_zero_le hx0
              have := hB a (by omega)
              unfold placedB at this
              by_cases hp : pr d (a : Int) = -1
              · exact .inl hp
              · rw [if_neg hp] at this
                simp only [Bool.and_eq_true, decide_eq_true_eq] at this
                exact .inr ⟨this.1.1.1.2, this.1.1.2⟩
            show Option.bind _ _ = _
            classical
            refine it_listB (l := d) (σ := Unit) (fun i _ => ((((i : Int), ()), ((d, ()), ())))) (fun i n _ => if !decide (∃ m, m ≤ d.length ∧ up d m (parOf n) = -1) then .inr (.inr ((171, ()), ())) else .inl ()) (fun _ => .inl ((), ())) (fun _ _ => True) () rfl trivial (by omega) (fun i s hi _ => ⟨?_, fun _ _ => trivial⟩) (fun s _ => ?_) ?_
            · obtain ⟨b, hb1, hb2⟩ := refEnds d (by omega) cl i hi
              rw [pr_nat (List.getElem?_eq_getElem hi)] at hb2
              simp only [lenLt, decide_eq_true hi, cond_true, hb1, Option.bind_some]
              cases b with
              | true =>
                rw [decide_eq_true (hb2.1 rfl)]
                simp only [Bool.not_true, cond_false, Bool.false_eq_true, if_false, wrapS (show i < 1000000 by omega)]
              | false =>
                rw [decide_eq_false (fun hx => by have := hb2.2 hx; cases this)]
                simp
            · simp only [lenLt, Nat.lt_irrefl, decide_false, cond_false]
            · rcases foldL_scanI (fun (i : Nat) (n : Nd) => !decide (∃ m, m ≤ d.length ∧ up d m (parOf n) = -1)) ((.inr ((171, ()), ())) : (Unit × Unit) ⊕ ((Int × Unit) × Unit)) (.inl ((), ())) d 0 with ⟨⟨j, n, hj, hp⟩, hf⟩ | ⟨hall3, hf⟩
              · rw [hf]
                rw [if_neg (show ¬ Right d from fun R => by
                  have := (hRI.1 R).2.2.2 j n hj
                  simp [this] at hp)]
              · rw [hf]
                rw [if_pos (hRI.2 ⟨hr2, hA, hB, fun j n hj => by simpa using hall3 j n hj⟩)]
/-! -/
theorem up_succ (d : List Nd) : ∀ (j : Nat) (x : Int), up d (j + 1) x = pr d (up d j x)
  | 0, x => rfl
  | j + 1, x => up_succ d j (pr d x)
theorem up_add (d : List Nd) : ∀ (i j : Nat) (x : Int), up d (i + j) x = up d j (up d i x)
  | 0, j, x => by rw [Nat.zero_add]; rfl
  | i + 1, j, x => by
    rw [show i + 1 + j = (i + j) + 1 by omega]
    exact up_add d i j (pr d x)
theorem pr_ge {d : List Nd} {x : Int} (h : ¬ (0 ≤ x ∧ x < d.length)) : pr d x = -1 := by
  unfold pr
  cases hx : idx d x with
  | none => rfl
  | some n => exact absurd ⟨(idx_some hx).1, (idx_some hx).2.1⟩ h
def ks (d : List Nd) (x : Int) : List Int := match idx d x with
  | some n => kidsOf n
  | none => []
theorem ks_nat {d : List Nd} {i : Nat} {n : Nd} (h : d[i]? = some n) : ks d (i : Int) = kidsOf n := by
  unfold ks idx
  rw [if_pos (by omega), Int.toNat_natCast, h]
def dn (d : List Nd) : Nat → Int → List Int
  | 0, _ => []
  | f + 1, x => x :: (ks d x).flatMap (dn d f)
def okD (d : List Nd) : Nat → Int → Prop
  | 0, _ => False
  | f + 1, x => ∀ k, k ∈ ks d x → okD d f k
theorem okD_mono {d : List Nd} : ∀ {f f' : Nat} {x : Int}, f ≤ f' → okD d f x → okD d f' x
  | 0, _, _, _, h => h.elim
  | f + 1, 0, _, hf, _ => by omega
  | f + 1, f' + 1, x, hf, h => fun k hk => okD_mono (by omega) (h k hk)
theorem dn_okD {d : List Nd} : ∀ {f f' : Nat} {x : Int}, f ≤ f' → okD d f x → dn d f' x = dn d f x
  | 0, _, _, _, h => h.elim
  | f + 1, 0, _, hf, _ => by omega
  | f + 1, f' + 1, x, hf, h => by
    unfold dn
    congr 1
    have : ∀ l : List Int, (∀ k, k ∈ l → okD d f k) → l.flatMap (dn d f') = l.flatMap (dn d f) := by
      intro l
      induction l with
      | nil => intro _; rfl
      | cons a l ih =>
        intro hl
        rw [List.flatMap_cons, List.flatMap_cons, dn_okD (by omega) (hl a (List.mem_cons_self ..)), ih fun k hk => hl k (List.mem_cons_of_mem _ hk)]
    exact this _ h
def In' (d : List Nd) (x : Int) : Prop := 0 ≤ x ∧ x < d.length
theorem In'.nat {d : List Nd} {x : Int} (h : In' d x) : ∃ (i : Nat) (n : Nd), x = (i : Int) ∧ d[i]? = some n := by
  obtain ⟨i, hi⟩ := Int.eq_ofNat_of_zero_le h.1
  have : i < d.length := by have := h.2; omega
  exact ⟨i, d[i], hi, List.getElem?_eq_getElem this⟩
theorem Right.mem_all {d : List Nd} (R : Right d) {k : Int} : k ∈ allKids d ↔ ∃ (i : Nat) (n : Nd), d[i]? = some n ∧ k ∈ kidsOf n := by
  unfold allKids
  rw [List.mem_flatMap]
  constructor
  · rintro ⟨n, hn, hk⟩
    obtain ⟨i, hi⟩ := List.getElem?_of_mem hn
    exact ⟨i, n, hi, hk⟩
  · rintro ⟨i, n, hi, hk⟩
    exact ⟨n, List.mem_of_getElem? hi, hk⟩
theorem Right.kid {d : List Nd} (R : Right d) {x k : Int} (h : k ∈ ks d x) : In' d x ∧ In' d k ∧ 1 ≤ k ∧ pr d k = x := by
  unfold ks at h
  cases hx : idx d x with
  | none => rw [hx] at h; simp at h
  | some n =>
    rw [hx] at h
    obtain ⟨h0, h1, h2⟩ := idx_some hx
    have hr := R.rng n (List.mem_of_getElem? h2) k h
    have hb := R.back _ n h2 k h
    exact ⟨⟨h0, h1⟩, ⟨by omega, hr.2⟩, hr.1, by rw [hb]; omega⟩
theorem Right.par {d : List Nd} (R : Right d) {k : Int} (hk : In' d k) (h : pr d k ≠ -1) : In' d (pr d k) ∧ k ∈ ks d (pr d k) := by
  obtain ⟨i, n, rfl, hi⟩ := hk.nat
  rw [pr_nat hi] at h ⊢
  obtain ⟨j, m, hj, hm⟩ := R.mem_all.1 (R.laid i n hi h)
  have := R.back j m hj _ hm
  rw [pr_nat hi] at this
  rw [this]
  have hl := (List.getElem?_eq_some_iff.1 hj).1
  exact ⟨⟨by omega, by omega⟩, by rw [ks_nat hj]; exact hm⟩
theorem Right.cl {d : List Nd} (R : Right d) (x : Int) (h0 : 0 ≤ x) (h1 : x < d.length) : pr d x = -1 ∨ (0 ≤ pr d x ∧ pr d x < d.length) := by
  by_cases h : pr d x = -1
  · exact .inl h
  · exact .inr (R.par ⟨h0, h1⟩ h).1
theorem Right.up_in {d : List Nd} (R : Right d) {x : Int} (hx : In' d x) : ∀ j, up d j x = -1 ∨ In' d (up d j x)
  | 0 => .inr hx
  | j + 1 => by
    rw [up_succ]
    rcases R.up_in hx j with h | h
    · rw [h]; exact .inl rfl
    · exact R.cl _ h.1 h.2
theorem Right.ends' {d : List Nd} (R : Right d) {x : Int} (hx : In' d x) : ∃ j, j ≤ d.length + 1 ∧ up d j x = -1 := by
  obtain ⟨i, n, rfl, hi⟩ := hx.nat
  obtain ⟨j, hj, hu⟩ := R.ends i n hi
  exact ⟨j + 1, by omega, by show up d j (pr d i) = -1; rw [pr_nat hi]; exact hu⟩
theorem Right.acyc {d : List Nd} (R : Right d) {x : Int} (hx : In' d x) (j : Nat) (h : up d (j + 1) x = x) : False := by
  obtain ⟨m, _, hm⟩ := R.ends' hx
  have hn : ∀ n, up d (n * (j + 1)) x = x := by
    intro n
    induction n with
    | zero => rw [Nat.zero_mul]; rfl
    | succ n ih => rw [Nat.add_mul, Nat.one_mul, up_add, ih]; exact h
  have h1 := hn m
  have : m * (j + 1) = m + m * j := by rw [Nat.mul_add, Nat.mul_one]; omega
  rw [this, up_add, hm, up_neg] at h1
  have := hx.1
  omega
theorem least {P : Nat → Prop} : ∀ n, P n → ∃ m, m ≤ n ∧ P m ∧ ∀ j, j < m → ¬ P j := by
  intro n
  induction n using Nat.strongRecOn with
  | ind n ih =>
    intro hn
    by_cases h : ∃ j, j < n ∧ P j
    · obtain ⟨j, hj, hp⟩ := h
      obtain ⟨m, h1, h2, h3⟩ := ih j hj hp
      exact ⟨m, by omega, h2, h3⟩
    · exact ⟨n, Nat.le_refl _, hn, fun j hj hp => h ⟨j, hj, hp⟩⟩
theorem Right.okDr {d : List Nd} (R : Right d) {x : Int} (hx : In' d x) : okD d (d.length + 2) x := by
  have key : ∀ (f m : Nat) (x : Int), In' d x → up d m x = -1 → (∀ j, j < m → up d j x ≠ -1) → d.length + 1 < m + f → okD d f x := by
    intro f
    induction f with
    | zero =>
      intro m x hx h1 h2 h3
      obtain ⟨j, hj, hu⟩ := R.ends' hx
      exact absurd hu (h2 j (by omega))
    | succ f ih =>
      intro m x hx h1 h2 h3 k hk
      obtain ⟨_, g1, g2, g3⟩ := R.kid hk
      refine ih (m + 1) k g1 (by show up d m (pr d k) = -1; rw [g3]; exact h1) (fun j hj => ?_) (by omega)
      cases j with
      | zero => have := g1.1; show k ≠ -1; omega
      | succ j => show up d j (pr d k) ≠ -1; rw [g3]; exact h2 j (by omega)
  obtain ⟨j, hj, hu⟩ := R.ends' hx
  obtain ⟨m, h1, h2, h3⟩ := least (P := fun m => up d m x = -1) j hu
  have hm0 : 0 < m := by
    rcases Nat.eq_zero_or_pos m with h | h
    · subst h; have := hx.1; simp only [up] at h2; omega
    · exact h
  exact key _ m x hx h2 h3 (by omega)
theorem Right.mem_dn {d : List Nd} (R : Right d) {y : Int} : ∀ {f : Nat} {x : Int}, y ∈ dn d f x → (∃ j, up d j y = x) ∧ (y = x ∨ In' d y)
  | 0, x, h => by simp [dn] at h
  | f + 1, x, h => by
    unfold dn at h
    rcases List.mem_cons.1 h with rfl | h
    · exact ⟨⟨0, rfl⟩, .inl rfl⟩
    · obtain ⟨k, hk, hy⟩ := List.mem_flatMap.1 h
      obtain ⟨⟨j, hj⟩, hin⟩ := R.mem_dn hy
      obtain ⟨_, g1, _, g3⟩ := R.kid hk
      refine ⟨⟨j + 1, by rw [up_succ, hj]; exact g3⟩, ?_⟩
      rcases hin with rfl | h
      · exact .inr g1
      · exact .inr h
theorem Right.dn_mem {d : List Nd} (R : Right d) {y : Int} (hy : In' d y) : ∀ (j : Nat) {f : Nat} {x : Int}, okD d f x → In' d x → up d j y = x → y ∈ dn d f x
  | 0, 0, x, h, _, _ => h.elim
  | 0, f + 1, x, _, _, h => by
    obtain rfl : y = x := h
    exact List.mem_cons_self ..
  | j + 1, 0, x, h, _, _ => h.elim
  | j + 1, f + 1, x, h, hx, hu => by
    rw [up_succ] at hu
    have hz : In' d (up d j y) := by
      rcases R.up_in hy j with h1 | h1
      · rw [h1, pr_neg] at hu; have := hx.1; omega
      · exact h1
    have hk := (R.par hz (by rw [hu]; have := hx.1; omega)).2
    rw [hu] at hk
    unfold dn
    exact List.mem_cons_of_mem _ (List.mem_flatMap.2 ⟨_, hk, R.dn_mem hy j (h _ hk) hz rfl⟩)
theorem flat_nodup {α β : Type} (f : α → List β) : ∀ {l : List α}, l.Nodup → (∀ a, a ∈ l → (f a).Nodup) → (∀ a b, a ∈ l → b ∈ l → a ≠ b → ∀ x, x ∈ f a → x ∈ f b → False) → (l.flatMap f).Nodup
  | [], _, _, _ => by simp
  | a :: l, h, h1, h2 => by
    obtain ⟨h3, h4⟩ := List.nodup_cons.1 h
    rw [List.flatMap_cons, List.nodup_append]
    refine ⟨h1 a (List.mem_cons_self ..), flat_nodup f h4 (fun b hb => h1 b (List.mem_cons_of_mem _ hb)) (fun b c hb hc => h2 b c (List.mem_cons_of_mem _ hb) (List.mem_cons_of_mem _ hc)), fun x hx y hy e => ?_⟩
    subst e
    obtain ⟨b, hb, hxb⟩ := List.mem_flatMap.1 hy
    exact h2 a b (List.mem_cons_self ..) (List.mem_cons_of_mem _ hb) (fun e => h3 (e ▸ hb)) x hx hxb
theorem Right.ks_nodup {d : List Nd} (R : Right d) (x : Int) : (ks d x).Nodup := by
  unfold ks
  cases hx : idx d x with
  | none => simp
  | some n =>
    have hn := List.mem_of_getElem? (idx_some hx).2.2
    refine List.Nodup.sublist ?_ R.nodup
    obtain ⟨l1, l2, e⟩ := List.append_of_mem hn
    show (kidsOf n).Sublist (allKids d)
    rw [e]
    simp only [allKids, List.flatMap_append, List.flatMap_cons]
    exact (List.sublist_append_left _ _).trans (List.sublist_append_right _ _)
theorem Right.dn_nodup {d : List Nd} (R : Right d) : ∀ (f : Nat) {x : Int}, In' d x → (dn d f x).Nodup
  | 0, x, _ => by simp [dn]
  | f + 1, x, hx => by
    unfold dn
    rw [List.nodup_cons]
    refine ⟨fun h => ?_, flat_nodup _ (R.ks_nodup x) (fun k hk => R.dn_nodup f (R.kid hk).2.1) (fun k1 k2 h1 h2 hne y hy1 hy2 => ?_)⟩
    · obtain ⟨k, hk, hxk⟩ := List.mem_flatMap.1 h
      obtain ⟨⟨j, hj⟩, _⟩ := R.mem_dn hxk
      exact R.acyc hx j (by rw [up_succ, hj]; exact (R.kid hk).2.2.2)
    · obtain ⟨⟨a, ha⟩, _⟩ := R.mem_dn hy1
      obtain ⟨⟨b, hb⟩, _⟩ := R.mem_dn hy2
      have p1 := (R.kid h1).2.2.2
      have p2 := (R.kid h2).2.2.2
      have main : ∀ (a b : Nat) (k1 k2 : Int), up d a y = k1 → up d b y = k2 → pr d k1 = x → pr d k2 = x → a < b → False := by
        intro a b k1 k2 ha hb p1 p2 hab
        obtain ⟨c, rfl⟩ : ∃ c, b = a + (c + 1) := ⟨b - a - 1, by omega⟩
        rw [up_add, ha] at hb
        have h3 : up d c x = k2 := by rw [← p1]; exact hb
        exact R.acyc hx c (by rw [up_succ, h3]; exact p2)
      rcases Nat.lt_trichotomy a b with h | h | h
      · exact main a b k1 k2 ha hb p1 p2 h
      · subst h; exact hne (ha.symm.trans hb)
      · exact main b a k2 k1 hb ha p2 p1 h
theorem Right.dn_in {d : List Nd} (R : Right d) (f : Nat) {x y : Int} (hx : In' d x) (h : y ∈ dn d f x) : In' d y := by
  rcases (R.mem_dn h).2 with rfl | h
  · exact hx
  · exact h
theorem Right.dn_len {d : List Nd} (R : Right d) (f : Nat) {x : Int} (hx : In' d x) : (dn d f x).length ≤ d.length :=
  nodupLen _ _ (R.dn_nodup f hx) fun k hk => R.dn_in f hx hk
def below (d : List Nd) (x : Int) : List Int := dn d 400 x
theorem Right.okD4 {d : List Nd} (R : Right d) {x : Int} (hx : In' d x) : okD d 400 x := okD_mono (by have := R.len; omega) (R.okDr hx)
theorem Right.mem_below {d : List Nd} (R : Right d) {x y : Int} (hx : In' d x) : y ∈ below d x ↔ In' d y ∧ ∃ j, up d j y = x :=
  ⟨fun h => ⟨R.dn_in _ hx h, (R.mem_dn h).1⟩, fun ⟨h1, j, h2⟩ => R.dn_mem h1 j (R.okD4 hx) hx h2⟩
/-! -/
noncomputable def thr (d : List Nd) (x : Int) : Bool := (chk d == 0) && (decide (x ≥ 0) && decide (x < d.length))
theorem thr_iff {d : List Nd} {x : Int} : thr d x = true ↔ Right d ∧ In' d x := by
  unfold thr In' chk
  simp only [Bool.and_eq_true, beq_iff_eq, decide_eq_true_eq]
  constructor
  · rintro ⟨h1, h2, h3⟩
    refine ⟨?_, h2, h3⟩
    by_cases h : d.length > 300
    · rw [if_pos h] at h1; omega
    · rw [if_neg h] at h1
      by_cases hR : Right d
      · exact hR
      · rw [if_neg hR] at h1; omega
  · rintro ⟨h1, h2, h3⟩
    refine ⟨?_, h2, h3⟩
    rw [if_neg (by have := h1.len; omega), if_pos h1]
theorem chk0 {d : List Nd} : chk d = 0 ↔ Right d := by
  unfold chk
  constructor
  · intro h1
    by_cases h : d.length > 300
    · rw [if_pos h] at h1; omega
    · rw [if_neg h] at h1
      by_cases hR : Right d
      · exact hR
      · rw [if_neg hR] at h1; omega
  · intro h1
    rw [if_neg (by have := h1.len; omega), if_pos h1]
theorem there (d : List Nd) (x : Int) (h : Sm d) : dom_there_ (Ev.upto 5000) ((d, (x, ())), ()) = some ((thr d x, ()), ()) := by
  unfold dom_there_ thr
  simp only [domCheck d h, Option.bind_some]
  cases (chk d == 0) <;> cases decide (x ≥ 0) <;> rfl
theorem There (d : List Nd) (x : Int) (h : Sm d) : pounceref16_There_ (Ev.upto 5000) ((d, (x, ())), ()) = some ((thr d x, ()), ()) := by
  unfold pounceref16_There_ thr
  simp only [refCheck d h, Option.bind_some]
  cases (chk d == 0) <;> cases decide (x ≥ 0) <;> cases decide (x < (d.length : Int)) <;> rfl
def fndG (nm : Bs) (i : Nat) (a : At) (_ : Unit) : Unit ⊕ Int := if a.1 == nm then .inr (i : Int) else .inl ()
def fnd (l : List At) (nm : Bs) : Int := foldL (fndG nm) (fun _ => -1) 0 l ()
theorem fnd_go (nm : Bs) : ∀ (l : List At) (i : Nat), foldL (fndG nm) (fun _ => -1) i l () = -1 ∧ (∀ a, a ∈ l → (a.1 == nm) = false) ∨ ∃ j, ∃ h : j < l.length, foldL (fndG nm) (fun _ => -1) i l () = ((i + j : Nat) : Int) ∧ (l[j].1 == nm) = true ∧ ∀ k (hk : k < j), (l[k].1 == nm) = false
  | [], i => .inl ⟨rfl, by simp⟩
  | a :: l, i => by
    unfold foldL
    cases ha : (a.1 == nm) with
    | true =>
      refine .inr ⟨0, by simp, ?_, ha, fun k hk => by omega⟩
      simp only [fndG, ha, if_true]
      rfl
    | false =>
      simp only [fndG, ha, Bool.false_eq_true, if_false]
      rcases fnd_go nm l (i + 1) with ⟨h1, h2⟩ | ⟨j, hj, h1, h2, h3⟩
      · refine .inl ⟨h1, fun b hb => ?_⟩
        rcases List.mem_cons.1 hb with rfl | hb
        · exact ha
        · exact h2 b hb
      · refine .inr ⟨j + 1, by simpa using hj, h1.trans (by omega), by simpa using h2, fun k hk => ?_⟩
        cases k with
        | zero => exact ha
        | succ k => simpa using h3 k (by omega)
theorem fnd_cases (l : List At) (nm : Bs) : fnd l nm = -1 ∧ (∀ a, a ∈ l → (a.1 == nm) = false) ∨ ∃ j, ∃ h : j < l.length, fnd l nm = (j : Int) ∧ (l[j].1 == nm) = true ∧ ∀ k (hk : k < j), (l[k].1 == nm) = false := by
  rcases fnd_go nm l 0 with h | ⟨j, h0, h1, h2⟩
  · exact .inl h
  · exact .inr ⟨j, h0, by rw [fnd, h1, Nat.zero_add], h2⟩
theorem foldL_map {ε β γ σ : Type} (φ : β → γ) (g : Nat → ε → σ → σ ⊕ β) (fin : σ → β) : ∀ (l : List ε) (i : Nat) (s : σ), foldL (fun i x s => match g i x s with | .inl s' => .inl s' | .inr b => .inr (φ b)) (fun s => φ (fin s)) i l s = φ (foldL g fin i l s)
  | [], _, _ => rfl
  | x :: l, i, s => by
    unfold foldL
    cases g i x s with
    | inl s' => exact foldL_map φ g fin l (i + 1) s'
    | inr b => rfl
theorem foldL_fnd {β : Type} (nm : Bs) (φ : Int → β) (ψ : β) : ∀ (l : List At) (i : Nat), foldL (fun i (a : At) (_ : Unit) => if a.1 == nm then (.inr (φ i) : Unit ⊕ β) else .inl ()) (fun _ => ψ) i l () = if foldL (fndG nm) (fun _ => -1) i l () = -1 then ψ else φ (foldL (fndG nm) (fun _ => -1) i l ())
  | [], i => rfl
  | a :: l, i => by
    unfold foldL
    cases ha : (a.1 == nm) with
    | true =>
      simp only [fndG, ha, if_true]
      rw [if_neg (by omega)]
    | false =>
      simp only [fndG, ha, Bool.false_eq_true, if_false]
      exact foldL_fnd nm φ ψ l (i + 1)
noncomputable def atr (d : List Nd) (x : Int) (nm : Bs) : Bs × Bool := if thr d x = true then (match idx d x with
  | some n => (match idx n.2.2.2.1 (fnd n.2.2.2.1 nm) with
    | some a => (a.2, true)
    | none => ([], false))
  | none => ([], false)) else ([], false)
def stp (d : List Nd) (P : Int → Bool) : Nat → Int → Int
  | 0, x => x
  | m + 1, x => if P x then x else stp d P m (pr d x)
theorem it_up {α β : Type} {f : α → Option (α ⊕ β)} (d : List Nd) (R : Right d) (P : Int → Bool) (st : Int → α) (fin : Int → β) (hP : P (-1) = true) (h1 : ∀ x, P x = true → f (st x) = some (.inr (fin x))) (h2 : ∀ x, In' d x → P x = false → f (st x) = some (.inl (st (pr d x)))) : ∀ (m : Nat) (x : Int) (N : Nat), m < N → (x = -1 ∨ In' d x) → up d m x = -1 → iterN f N (st x) = some (fin (stp d P m x)) := by
  intro m
  induction m with
  | zero =>
    intro x N hN hx hu
    obtain ⟨N, rfl⟩ : ∃ M, N = M + 1 := ⟨N - 1, by omega⟩
    obtain rfl : x = -1 := hu
    unfold iterN
    rw [h1 _ hP]
    rfl
  | succ m ih =>
    intro x N hN hx hu
    obtain ⟨N, rfl⟩ : ∃ M, N = M + 1 := ⟨N - 1, by omega⟩
    unfold iterN stp
    cases hp : P x with
    | true => rw [h1 _ hp]; rfl
    | false =>
      rcases hx with rfl | hx
      · rw [hP] at hp; cases hp
      · rw [h2 x hx hp]
        exact ih _ N (by omega) (R.cl x hx.1 hx.2) hu
theorem Right.up400 {d : List Nd} (R : Right d) {x : Int} (hx : In' d x) : up d 400 x = -1 := by
  obtain ⟨j, hj, hu⟩ := R.ends' hx
  have := R.len
  rw [show 400 = j + (400 - j) by omega, up_add, hu, up_neg]
theorem it_upB {α β γ : Type} {f : α → Option (α ⊕ β)} {a0 : α} {k : β → Option γ} {r : Option γ} (d : List Nd) (R : Right d) (P : Int → Bool) (st : Int → α) (fin : Int → β) (x : Int) (hx : In' d x) (ha : a0 = st x) (hP : P (-1) = true) (h1 : ∀ x, P x = true → f (st x) = some (.inr (fin x))) (h2 : ∀ x, In' d x → P x = false → f (st x) = some (.inl (st (pr d x)))) (hr : k (fin (stp d P 400 x)) = r) : ((Ev.upto 5000).it f a0).bind k = r := by
  rw [ha]
  show (iterN f 5000 (st x)).bind k = r
  rw [it_up d R P st fin hP h1 h2 400 x 5000 (by omega) (.inr hx) (R.up400 hx)]
  exact hr
def topP (top x : Int) : Bool := decide (x < 0) || x == top
def undB (d : List Nd) (x top : Int) : Bool := stp d (topP top) 400 x == top
theorem idx_in {d : List Nd} {x : Int} (h : In' d x) : ∃ n : Nd, idx d x = some n ∧ n.2.2.2.2.1 = pr d x := by
  obtain ⟨n, hn, _⟩ := idx_ge h.1 h.2
  exact ⟨n, hn, by unfold pr; rw [hn]⟩
noncomputable def inB (d : List Nd) (x : Int) : Bool := thr d x && undB d x 0
end Go.En.Pl
