/- Text O1 of this seat: written by a program of ours, or by hand; checked by Lean. -/
import Derived.Test.YtadpiodjbcjlcaaG
import Derived.Test.YtadpiodjbcjlcaaW
set_option linter.unusedVariables false
set_option linter.unusedSimpArgs false
namespace Go.En.Pl
/-! -/
abbrev At := Bs × Bs
abbrev Nd := Int × (Bs × (Bs × ((List At) × (Int × ((List Int) × (Bool × Bool))))))
def foldL {ε σ β : Type} (g : Nat → ε → σ → σ ⊕ β) (fin : σ → β) : Nat → List ε → σ → β
  | _, [], s => fin s
  | i, x :: l, s => match g i x s with
    | .inl s' => foldL g fin (i + 1) l s'
    | .inr b => b
theorem it_list {α β σ ε : Type} {f : α → Option (α ⊕ β)} {l : List ε} {N : Nat} (st : Nat → σ → α) (g : Nat → ε → σ → σ ⊕ β) (fin : σ → β) (I : Nat → σ → Prop) (s0 : σ) (h0 : I 0 s0) (hN : l.length < N)
    (hs : ∀ i s (hi : i < l.length), I i s → f (st i s) = some (match g i l[i] s with | .inl s' => .inl (st (i + 1) s') | .inr b => .inr b) ∧ ∀ s', g i l[i] s = .inl s' → I (i + 1) s')
    (he : ∀ s, I l.length s → f (st l.length s) = some (.inr (fin s))) : (Ev.upto N).it f (st 0 s0) = some (foldL g fin 0 l s0) := by
  show iterN f N (st 0 s0) = _
  have key : ∀ (d i : Nat) (s : σ) (N : Nat), i + d = l.length → d < N → I i s → iterN f N (st i s) = some (foldL g fin i (l.drop i) s) := by
    intro d
    induction d with
    | zero =>
      intro i s N e hN hi
      have : i = l.length := by omega
      subst this
      cases N with
      | zero => omega
      | succ N =>
        unfold iterN
        rw [he s hi, List.drop_length]
        rfl
    | succ d ih =>
      intro i s N e hN hi
      have hlt : i < l.length := by omega
      obtain ⟨h1, h2⟩ := hs i s hlt hi
      cases N with
      | zero => omega
      | succ N =>
        unfold iterN
        rw [h1, List.drop_eq_getElem_cons hlt]
        unfold foldL
        cases hg : g i l[i] s with
        | inr b => rfl
        | inl s' => exact ih (i + 1) s' N (by omega) (by omega) (h2 s' hg)
  have := key l.length 0 s0 N (by omega) hN h0
  simpa using this
theorem it_listB {α β σ ε γ : Type} {f : α → Option (α ⊕ β)} {a0 : α} {k : β → Option γ} {r : Option γ} {l : List ε} {N : Nat} (st : Nat → σ → α) (g : Nat → ε → σ → σ ⊕ β) (fin : σ → β) (I : Nat → σ → Prop) (s0 : σ) (ha : a0 = st 0 s0) (h0 : I 0 s0) (hN : l.length < N)
    (hs : ∀ i s (hi : i < l.length), I i s → f (st i s) = some (match g i l[i] s with | .inl s' => .inl (st (i + 1) s') | .inr b => .inr b) ∧ ∀ s', g i l[i] s = .inl s' → I (i + 1) s')
    (he : ∀ s, I l.length s → f (st l.length s) = some (.inr (fin s))) (hr : k (foldL g fin 0 l s0) = r) : ((Ev.upto N).it f a0).bind k = r := by
  rw [ha, it_list st g fin I s0 h0 hN hs he]
  exact hr
theorem wrapS {i : Nat} (h : i < 1000000) : IntKind.wrap .i64 ((i : Int) + 1) = ((i + 1 : Nat) : Int) := by
  rw [wrap64 (by omega) (by omega)]; rfl
theorem lenLt (i n : Nat) : decide ((i : Int) < (n : Int)) = decide (i < n) := by
  by_cases h : i < n
  · rw [decide_eq_true h, decide_eq_true (by omega)]
  · rw [decide_eq_false h, decide_eq_false (by omega)]
theorem foldL_all {ε β : Type} (g : Nat → ε → Unit → Unit ⊕ β) (fin : Unit → β) : ∀ (l : List ε) (i : Nat), (∀ j (hj : j < l.length), g (i + j) l[j] () = .inl ()) → foldL g fin i l () = fin ()
  | [], _, _ => rfl
  | x :: l, i, h => by
    unfold foldL
    have h0 := h 0 (by simp)
    simp only [Nat.add_zero, List.getElem_cons_zero] at h0
    rw [h0]
    exact foldL_all g fin l (i + 1) fun j hj => by
      have := h (j + 1) (by simpa using hj)
      rw [show i + 1 + j = i + (j + 1) by omega]
      simpa using this
theorem intsRefl (l : List Int) (h : l.length ≤ 4000) : pounceref01_Ints_ (Ev.upto 5000) ((l, (l, ())), ()) = some ((true, ()), ()) := by
  unfold pounceref01_Ints_
  simp only [bne_self_eq_false, cond_false]
  refine it_listB (l := l) (σ := Unit) (fun i _ => ((l, (l, ((i : Int), ()))), ())) (fun _ _ _ => .inl ()) (fun _ => .inl ((), ())) (fun _ _ => True) () rfl trivial (by omega) (fun i s hi _ => ⟨?_, fun _ _ => trivial⟩) (fun s _ => ?_) (by rw [foldL_all _ _ _ _ (fun _ _ => rfl)])
  · simp only [lenLt, decide_eq_true hi, cond_true, idx_nat hi, Option.bind_some, bne_self_eq_false, cond_false, wrapS (show i < 1000000 by omega)]
  · simp only [lenLt, Nat.lt_irrefl, decide_false, cond_false]
theorem attrsRefl (l : List At) (h : l.length ≤ 4000) : pounceref14_Attrs_ (Ev.upto 5000) ((l, (l, ())), ()) = some ((true, ()), ()) := by
  unfold pounceref14_Attrs_
  simp only [bne_self_eq_false, cond_false]
  refine it_listB (l := l) (σ := Unit) (fun i _ => ((l, (l, ((i : Int), ()))), ())) (fun _ _ _ => .inl ()) (fun _ => .inl ((), ())) (fun _ _ => True) () rfl trivial (by omega) (fun i s hi _ => ⟨?_, fun _ _ => trivial⟩) (fun s _ => ?_) (by rw [foldL_all _ _ _ _ (fun _ _ => rfl)])
  · simp only [lenLt, decide_eq_true hi, cond_true, idx_nat hi, Option.bind_some, beq_self_eq_true, Bool.and_self, Bool.not_true, cond_false, wrapS (show i < 1000000 by omega)]
  · simp only [lenLt, Nat.lt_irrefl, decide_false, cond_false]
theorem oneRefl (n : Nd) (h1 : n.2.2.2.1.length ≤ 4000) (h2 : n.2.2.2.2.2.1.length ≤ 4000) : pounceref16_One_ (Ev.upto 5000) ((n, (n, ())), ()) = some ((true, ()), ()) := by
  unfold pounceref16_One_
  simp only [beq_self_eq_true, cond_true, attrsRefl _ h1, intsRefl _ h2, Option.bind_some]
def Sm (d : List Nd) : Prop := d.length ≤ 4000 ∧ ∀ n, n ∈ d → n.2.2.2.1.length ≤ 4000 ∧ n.2.2.2.2.2.1.length ≤ 4000
theorem sameRefl (d : List Nd) (h : Sm d) : pounceref16_Same_ (Ev.upto 5000) ((d, (d, ())), ()) = some ((true, ()), ()) := by
  unfold pounceref16_Same_
  simp only [bne_self_eq_false, cond_false]
  refine it_listB (l := d) (σ := Unit) (fun i _ => ((((i : Int), ()), ((d, ()), ((d, ()), ()))))) (fun _ _ _ => .inl ()) (fun _ => .inl ((), ())) (fun _ _ => True) () rfl trivial (by have := h.1; omega) (fun i s hi _ => ⟨?_, fun _ _ => trivial⟩) (fun s _ => ?_) (by rw [foldL_all _ _ _ _ (fun _ _ => rfl)])
  · have hm := h.2 _ (List.getElem_mem hi)
    have := h.1
    simp only [lenLt, decide_eq_true hi, cond_true, idx_nat hi, Option.bind_some, oneRefl _ hm.1 hm.2, Bool.not_true, cond_false, wrapS (show i < 1000000 by omega)]
  · simp only [lenLt, Nat.lt_irrefl, decide_false, cond_false]
def NdOk (n : Nd) : Prop := n.2.1.length ≤ 300 ∧ n.2.2.1.length ≤ 3000 ∧ n.2.2.2.1.length ≤ 40 ∧ n.2.2.2.2.2.1.length ≤ 400 ∧ ∀ a, a ∈ n.2.2.2.1 → a.1.length ≤ 300 ∧ a.2.length ≤ 2000
theorem lenGt (n : Nat) (k : Nat) : decide ((n : Int) > (k : Int)) = decide (n > k) := by
  by_cases h : n > k
  · rw [decide_eq_true h, decide_eq_true (by omega)]
  · rw [decide_eq_false h, decide_eq_false (by omega)]
theorem foldL_scan {ε β : Type} (p : ε → Bool) (b e : β) : ∀ (l : List ε) (i : Nat), foldL (fun (_ : Nat) (x : ε) (_ : Unit) => if p x then (.inr b : Unit ⊕ β) else .inl ()) (fun _ => e) i l () = if l.any p then b else e
  | [], _ => rfl
  | x :: l, i => by
    unfold foldL
    cases hp : p x with
    | true => simp [hp]
    | false => simp only [List.any_cons, hp, Bool.false_or]; exact foldL_scan p b e l (i + 1)
theorem bigNode (n : Nd) : ∃ b, pounceref16_BigNode_ (Ev.upto 5000) ((n, ()), ()) = some ((b, ()), ()) ∧ (b = false → NdOk n) := by
  unfold pounceref16_BigNode_
  simp only [show (300 : Int) = ((300 : Nat) : Int) from rfl, show (3000 : Int) = ((3000 : Nat) : Int) from rfl, show (40 : Int) = ((40 : Nat) : Int) from rfl, show (400 : Int) = ((400 : Nat) : Int) from rfl, show (2000 : Int) = ((2000 : Nat) : Int) from rfl, lenGt]
  by_cases h1 : n.2.1.length > 300
  · exact ⟨true, by simp [h1], by simp⟩
  by_cases h2 : n.2.2.1.length > 3000
  · exact ⟨true, by simp [h1, h2], by simp⟩
  by_cases h3 : n.2.2.2.1.length > 40
  · exact ⟨true, by simp [h1, h2, h3], by simp⟩
  by_cases h4 : n.2.2.2.2.2.1.length > 400
  · exact ⟨true, by simp [h1, h2, h3, h4], by simp⟩
  simp only [decide_eq_false h1, decide_eq_false h2, decide_eq_false h3, decide_eq_false h4, beq_self_eq_true, cond_true, Option.bind_some, cond_false]
  refine ⟨n.2.2.2.1.any fun x => decide (x.1.length > 300) || decide (x.2.length > 2000), it_listB (l := n.2.2.2.1) (σ := Unit) (fun i _ => ((((i : Int), ()), ((n, ()), ())))) (fun _ x _ => if (decide (x.1.length > 300) || decide (x.2.length > 2000)) then .inr (.inr ((true, ()), ())) else .inl ()) (fun _ => .inl ((), ())) (fun _ _ => True) () rfl trivial (by omega) (fun i s hi _ => ⟨?_, fun _ _ => trivial⟩) (fun s _ => ?_) ?_, fun ha => ⟨by omega, by omega, by omega, by omega, fun a hm => ?_⟩⟩
  · simp only [lenLt, decide_eq_true hi, cond_true, idx_nat hi, Option.bind_some, wrapS (show i < 1000000 by omega)]
    by_cases h5 : n.2.2.2.1[i].1.length > 300
    · simp [h5]
    · by_cases h6 : n.2.2.2.1[i].2.length > 2000
      · simp [h5, h6]
      · simp [h5, h6]
        exact wrap64 (by omega) (by omega)
  · simp only [lenLt, Nat.lt_irrefl, decide_false, cond_false]
  · rw [foldL_scan]
    cases (n.2.2.2.1.any fun x => decide (x.1.length > 300) || decide (x.2.length > 2000)) <;> rfl
  · simp only [List.any_eq_false, Bool.or_eq_true, decide_eq_true_eq, not_or] at ha
    have := ha a hm
    omega
def DocOk (d : List Nd) : Prop := d.length ≤ 310 ∧ ∀ n, n ∈ d → NdOk n
theorem DocOk.sm {d : List Nd} (h : DocOk d) : Sm d := ⟨by have := h.1; omega, fun n hn => by have := h.2 n hn; unfold NdOk at this; omega⟩
theorem big (d : List Nd) : ∃ b, pounceref16_Big_ (Ev.upto 5000) ((d, ()), ()) = some ((b, ()), ()) ∧ (b = false → DocOk d) := by
  unfold pounceref16_Big_
  simp only [show (310 : Int) = ((310 : Nat) : Int) from rfl, lenGt]
  by_cases h1 : d.length > 310
  · exact ⟨true, by simp [h1], by simp⟩
  simp only [decide_eq_false h1, cond_false]
  have hb : ∀ n : Nd, ∃ b, pounceref16_BigNode_ (Ev.upto 5000) ((n, ()), ()) = some ((b, ()), ()) ∧ (b = false → NdOk n) := bigNode
  let B : Nd → Bool := fun n => Classical.choose (hb n)
  have hB : ∀ n, pounceref16_BigNode_ (Ev.upto 5000) ((n, ()), ()) = some ((B n, ()), ()) ∧ (B n = false → NdOk n) := fun n => Classical.choose_spec (hb n)
  refine ⟨d.any B, it_listB (l := d) (σ := Unit) (fun i _ => ((((i : Int), ()), ((d, ()), ())))) (fun _ x _ => if B x then .inr (.inr ((true, ()), ())) else .inl ()) (fun _ => .inl ((), ())) (fun _ _ => True) () rfl trivial (by omega) (fun i s hi _ => ⟨?_, fun _ _ => trivial⟩) (fun s _ => ?_) (by rw [foldL_scan]; cases d.any B <;> rfl), fun ha => ⟨by omega, fun n hm => (hB n).2 (by simpa using List.any_eq_false.1 ha n hm)⟩⟩
  · simp only [lenLt, decide_eq_true hi, cond_true, idx_nat hi, Option.bind_some, (hB _).1, wrapS (show i < 1000000 by omega)]
    cases B d[i] <;> simp
  · simp only [lenLt, Nat.lt_irrefl, decide_false, cond_false]
theorem fitsS {n k : Nat} (h : n ≤ 10000) (hk : k ≤ 1000) : fits n k = true := fits_of (by have := Nat.mul_le_mul h hk; omega)
theorem ownNode (n : Nd) (h1 : n.2.2.2.1.length ≤ 4000) (h2 : n.2.2.2.2.2.1.length ≤ 4000) : pounceref16_OwnNode_ (Ev.upto 5000) ((n, ()), ()) = some ((n.1, (n.2.1, (n.2.2.1, (n.2.2.2.2.1, (n.2.2.2.2.2.2.1, (n.2.2.2.2.2.2.2, ())))))), (n.2.2.2.1, (n.2.2.2.2.2.1, ()))) := by
  unfold pounceref16_OwnNode_
  simp only [fitsS (show n.2.2.2.1.length ≤ 10000 by omega) (show 32 ≤ 1000 by omega), fitsS (show n.2.2.2.2.2.1.length ≤ 10000 by omega) (show 8 ≤ 1000 by omega), cond_true]
theorem foldL_build {ε β : Type} (fin : List ε → β) : ∀ (l s : List ε) (i : Nat), foldL (fun (_ : Nat) (x : ε) (s : List ε) => (.inl (s ++ [x]) : List ε ⊕ β)) fin i l s = fin (s ++ l)
  | [], s, _ => by simp [foldL]
  | x :: l, s, i => by
    unfold foldL
    simp only
    rw [foldL_build fin l (s ++ [x]) (i + 1)]
    simp
theorem own (d : List Nd) (h : Sm d) : pounceref16_Own_ (Ev.upto 5000) ((d, ()), ()) = some ((), (d, ())) := by
  unfold pounceref16_Own_
  refine it_listB (l := d) (σ := List Nd) (fun i s => ((((i : Int), ()), ((d, ()), ((), (s, ())))))) (fun _ x s => .inl (s ++ [x])) (fun s => ((), ((), (s, ())))) (fun i s => s.length = i) [] rfl rfl (by have := h.1; omega) (fun i s hi hl => ⟨?_, fun s' e => ?_⟩) (fun s _ => ?_) (by rw [foldL_build]; rfl)
  · have hm := h.2 _ (List.getElem_mem hi)
    have := h.1
    simp only [lenLt, decide_eq_true hi, cond_true, idx_nat hi, Option.bind_some, ownNode _ hm.1 hm.2, fitsS (show s.length + [d[i]].length ≤ 10000 by simp; omega) (show 104 ≤ 1000 by omega), wrapS (show i < 1000000 by omega)]
  · simp only [Sum.inl.injEq] at e
    subst e
    simp [hl]
  · simp only [lenLt, Nat.lt_irrefl, decide_false, cond_false]
end Go.En.Pl
