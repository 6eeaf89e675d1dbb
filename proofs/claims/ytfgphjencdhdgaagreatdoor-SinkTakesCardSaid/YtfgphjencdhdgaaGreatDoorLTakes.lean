/- Text LTakes of this seat: written by a program of ours, or by hand; checked by Lean. -/
import Derived.Test.YtfgphjencdhdgaaGreatDoorG
import Derived.Test.YtfgphjencdhdgaaGreatDoorW
set_option linter.unusedSimpArgs false
set_option linter.unusedVariables false
namespace Go.En.Pl
abbrev At := Bs × Bs
abbrev Nd := Int × (Bs × (Bs × ((List At) × (Int × ((List Int) × (Bool × Bool))))))
def yn {ε σ β : Type} (g : Nat → ε → σ → σ ⊕ β) (fin : σ → β) : Nat → List ε → σ → β
 | _, [], s => fin s
 | i, x :: l, s => match g i x s with
  | .inl s' => yn g fin (i + 1) l s'
  | .inr b => b
theorem zmq {α β σ ε : Type} {f : α → Option (α ⊕ β)} {l : List ε} {N : Nat} (st : Nat → σ → α) (g : Nat → ε → σ → σ ⊕ β) (fin : σ → β) (I : Nat → σ → Prop) (s0 : σ) (h0 : I 0 s0) (hN : l.length < N)
  (hs : ∀ i s (hi : i < l.length), I i s → f (st i s) = some (match g i l[i] s with | .inl s' => .inl (st (i + 1) s') | .inr b => .inr b) ∧ ∀ s', g i l[i] s = .inl s' → I (i + 1) s')
  (he : ∀ s, I l.length s → f (st l.length s) = some (.inr (fin s))) : (Ev.upto N).it f (st 0 s0) = some (yn g fin 0 l s0) := by
 show jd f N (st 0 s0) = _
 have key : ∀ (d i : Nat) (s : σ) (N : Nat), i + d = l.length → d < N → I i s → jd f N (st i s) = some (yn g fin i (l.drop i) s) := by
  intro d
  induction d with
  | zero =>
   intro i s N e hN hi
   have : i = l.length := by omega
   subst this
   cases N with
   | zero => omega
   | succ N =>
    unfold jd
    rw [he s hi, List.drop_length]
    rfl
  | succ d ih =>
   intro i s N e hN hi
   have hlt : i < l.length := by omega
   obtain ⟨h1, h2⟩ := hs i s hlt hi
   cases N with
   | zero => omega
   | succ N =>
    unfold jd
    rw [h1, List.drop_eq_getElem_cons hlt]
    unfold yn
    cases hg : g i l[i] s with
    | inr b => rfl
    | inl s' => exact ih (i + 1) s' N (by omega) (by omega) (h2 s' hg)
 have := key l.length 0 s0 N (by omega) hN h0
 simpa using this
theorem zu {α β σ ε γ : Type} {f : α → Option (α ⊕ β)} {a0 : α} {k : β → Option γ} {r : Option γ} {l : List ε} {N : Nat} (st : Nat → σ → α) (g : Nat → ε → σ → σ ⊕ β) (fin : σ → β) (I : Nat → σ → Prop) (s0 : σ) (ha : a0 = st 0 s0) (h0 : I 0 s0) (hN : l.length < N)
  (hs : ∀ i s (hi : i < l.length), I i s → f (st i s) = some (match g i l[i] s with | .inl s' => .inl (st (i + 1) s') | .inr b => .inr b) ∧ ∀ s', g i l[i] s = .inl s' → I (i + 1) s')
  (he : ∀ s, I l.length s → f (st l.length s) = some (.inr (fin s))) (hr : k (yn g fin 0 l s0) = r) : ((Ev.upto N).it f a0).bind k = r := by
 rw [ha, zmq st g fin I s0 h0 hN hs he]
 exact hr
theorem x5 {i : Nat} (h : i < 1000000) : IntKind.wrap .i64 ((i : Int) + 1) = ((i + 1 : Nat) : Int) := by
 rw [wj (by omega) (by omega)]; rfl
theorem yz (i n : Nat) : decide ((i : Int) < (n : Int)) = decide (i < n) := by
 by_cases h : i < n
 ·rw [decide_eq_true h, decide_eq_true (by omega)]
 ·rw [decide_eq_false h, decide_eq_false (by omega)]
theorem zh5 {ε β : Type} (g : Nat → ε → Unit → Unit ⊕ β) (fin : Unit → β) : ∀ (l : List ε) (i : Nat), (∀ j (hj : j < l.length), g (i + j) l[j] () = .inl ()) → yn g fin i l () = fin ()
 | [], _, _ => rfl
 | x :: l, i, h => by
  unfold yn
  have h0 := h 0 (by simp)
  simp only [Nat.add_zero, List.getElem_cons_zero] at h0
  rw [h0]
  exact zh5 g fin l (i + 1) fun j hj => by
   have := h (j + 1) (by simpa using hj)
   rw [show i + 1 + j = i + (j + 1) by omega]
   simpa using this
theorem z5k (l : List Int) (h : l.length ≤ 4000) : bw (Ev.upto 5000) ((l, (l, ())), ()) = some ((true, ()), ()) := by
 unfold bw
 simp only [bne_self_eq_false, cond_false]
 refine zu (l := l) (σ := Unit) (fun i _ => ((l, (l, ((i : Int), ()))), ())) (fun _ _ _ => .inl ()) (fun _ => .inl ((), ())) (fun _ _ => True) () rfl trivial (by omega) (fun i s hi _ => ⟨?_, fun _ _ => trivial⟩) (fun s _ => ?_) (by rw [zh5 _ _ _ _ (fun _ _ => rfl)])
 ·simp only [yz, decide_eq_true hi, cond_true, zk hi, Option.bind_some, bne_self_eq_false, cond_false, x5 (show i < 1000000 by omega)]
 ·simp only [yz, Nat.lt_irrefl, decide_false, cond_false]
theorem z4p (l : List At) (h : l.length ≤ 4000) : gg (Ev.upto 5000) ((l, (l, ())), ()) = some ((true, ()), ()) := by
 unfold gg
 simp only [bne_self_eq_false, cond_false]
 refine zu (l := l) (σ := Unit) (fun i _ => ((l, (l, ((i : Int), ()))), ())) (fun _ _ _ => .inl ()) (fun _ => .inl ((), ())) (fun _ _ => True) () rfl trivial (by omega) (fun i s hi _ => ⟨?_, fun _ _ => trivial⟩) (fun s _ => ?_) (by rw [zh5 _ _ _ _ (fun _ _ => rfl)])
 ·simp only [yz, decide_eq_true hi, cond_true, zk hi, Option.bind_some, beq_self_eq_true, Bool.and_self, Bool.not_true, cond_false, x5 (show i < 1000000 by omega)]
 ·simp only [yz, Nat.lt_irrefl, decide_false, cond_false]
theorem z6n (n : Nd) (h1 : n.2.2.2.1.length ≤ 4000) (h2 : n.2.2.2.2.2.1.length ≤ 4000) : za3 (Ev.upto 5000) ((n, (n, ())), ()) = some ((true, ()), ()) := by
 unfold za3
 simp only [beq_self_eq_true, cond_true, z4p _ h1, z5k _ h2, Option.bind_some]
def Sm (d : List Nd) : Prop := d.length ≤ 4000 ∧ ∀ n, n ∈ d → n.2.2.2.1.length ≤ 4000 ∧ n.2.2.2.2.2.1.length ≤ 4000
theorem z5l (d : List Nd) (h : Sm d) : bx (Ev.upto 5000) ((d, (d, ())), ()) = some ((true, ()), ()) := by
 unfold bx
 simp only [bne_self_eq_false, cond_false]
 refine zu (l := d) (σ := Unit) (fun i _ => ((((i : Int), ()), ((d, ()), ((d, ()), ()))))) (fun _ _ _ => .inl ()) (fun _ => .inl ((), ())) (fun _ _ => True) () rfl trivial (by have := h.1; omega) (fun i s hi _ => ⟨?_, fun _ _ => trivial⟩) (fun s _ => ?_) (by rw [zh5 _ _ _ _ (fun _ _ => rfl)])
 ·have hm := h.2 _ (List.getElem_mem hi)
  have := h.1
  simp only [yz, decide_eq_true hi, cond_true, zk hi, Option.bind_some, z6n _ hm.1 hm.2, Bool.not_true, cond_false, x5 (show i < 1000000 by omega)]
 ·simp only [yz, Nat.lt_irrefl, decide_false, cond_false]
def NdOk (n : Nd) : Prop := n.2.1.length ≤ 300 ∧ n.2.2.1.length ≤ 3000 ∧ n.2.2.2.1.length ≤ 40 ∧ n.2.2.2.2.2.1.length ≤ 400 ∧ ∀ a, a ∈ n.2.2.2.1 → a.1.length ≤ 300 ∧ a.2.length ≤ 2000
theorem zsh (n : Nat) (k : Nat) : decide ((n : Int) > (k : Int)) = decide (n > k) := by
 by_cases h : n > k
 ·rw [decide_eq_true h, decide_eq_true (by omega)]
 ·rw [decide_eq_false h, decide_eq_false (by omega)]
theorem wl {ε β : Type} (p : ε → Bool) (b e : β) : ∀ (l : List ε) (i : Nat), yn (fun (_ : Nat) (x : ε) (_ : Unit) => if p x then (.inr b : Unit ⊕ β) else .inl ()) (fun _ => e) i l () = if l.any p then b else e
 | [], _ => rfl
 | x :: l, i => by
  unfold yn
  cases hp : p x with
  | true => simp [hp]
  | false => simp only [List.any_cons, hp, Bool.false_or]; exact wl p b e l (i + 1)
theorem z1g (n : Nd) : ∃ b, yo (Ev.upto 5000) ((n, ()), ()) = some ((b, ()), ()) ∧ (b = false → NdOk n) := by
 unfold yo
 simp only [show (300 : Int) = ((300 : Nat) : Int) from rfl, show (3000 : Int) = ((3000 : Nat) : Int) from rfl, show (40 : Int) = ((40 : Nat) : Int) from rfl, show (400 : Int) = ((400 : Nat) : Int) from rfl, show (2000 : Int) = ((2000 : Nat) : Int) from rfl, zsh]
 by_cases h1 : n.2.1.length > 300
 ·exact ⟨true, by simp [h1], by simp⟩
 by_cases h2 : n.2.2.1.length > 3000
 ·exact ⟨true, by simp [h1, h2], by simp⟩
 by_cases h3 : n.2.2.2.1.length > 40
 ·exact ⟨true, by simp [h1, h2, h3], by simp⟩
 by_cases h4 : n.2.2.2.2.2.1.length > 400
 ·exact ⟨true, by simp [h1, h2, h3, h4], by simp⟩
 simp only [decide_eq_false h1, decide_eq_false h2, decide_eq_false h3, decide_eq_false h4, beq_self_eq_true, cond_true, Option.bind_some, cond_false]
 refine ⟨n.2.2.2.1.any fun x => decide (x.1.length > 300) || decide (x.2.length > 2000), zu (l := n.2.2.2.1) (σ := Unit) (fun i _ => ((((i : Int), ()), ((n, ()), ())))) (fun _ x _ => if (decide (x.1.length > 300) || decide (x.2.length > 2000)) then .inr (.inr ((true, ()), ())) else .inl ()) (fun _ => .inl ((), ())) (fun _ _ => True) () rfl trivial (by omega) (fun i s hi _ => ⟨?_, fun _ _ => trivial⟩) (fun s _ => ?_) ?_, fun ha => ⟨by omega, by omega, by omega, by omega, fun a hm => ?_⟩⟩
 ·simp only [yz, decide_eq_true hi, cond_true, zk hi, Option.bind_some, x5 (show i < 1000000 by omega)]
  by_cases h5 : n.2.2.2.1[i].1.length > 300
  ·simp [h5]
  ·by_cases h6 : n.2.2.2.1[i].2.length > 2000
   ·simp [h5, h6]
   ·simp [h5, h6]
    exact wj (by omega) (by omega)
 ·simp only [yz, Nat.lt_irrefl, decide_false, cond_false]
 ·rw [wl]
  cases (n.2.2.2.1.any fun x => decide (x.1.length > 300) || decide (x.2.length > 2000)) <;> rfl
 ·simp only [List.any_eq_false, Bool.or_eq_true, decide_eq_true_eq, not_or] at ha
  have := ha a hm
  omega
def z1h (d : List Nd) : Prop := d.length ≤ 310 ∧ ∀ n, n ∈ d → NdOk n
theorem z1h.sm {d : List Nd} (h : z1h d) : Sm d := ⟨by have := h.1; omega, fun n hn => by have := h.2 n hn; unfold NdOk at this; omega⟩
theorem big (d : List Nd) : ∃ b, ja (Ev.upto 5000) ((d, ()), ()) = some ((b, ()), ()) ∧ (b = false → z1h d) := by
 unfold ja
 simp only [show (310 : Int) = ((310 : Nat) : Int) from rfl, zsh]
 by_cases h1 : d.length > 310
 ·exact ⟨true, by simp [h1], by simp⟩
 simp only [decide_eq_false h1, cond_false]
 have hb : ∀ n : Nd, ∃ b, yo (Ev.upto 5000) ((n, ()), ()) = some ((b, ()), ()) ∧ (b = false → NdOk n) := z1g
 let B : Nd → Bool := fun n => Classical.choose (hb n)
 have hB : ∀ n, yo (Ev.upto 5000) ((n, ()), ()) = some ((B n, ()), ()) ∧ (B n = false → NdOk n) := fun n => Classical.choose_spec (hb n)
 refine ⟨d.any B, zu (l := d) (σ := Unit) (fun i _ => ((((i : Int), ()), ((d, ()), ())))) (fun _ x _ => if B x then .inr (.inr ((true, ()), ())) else .inl ()) (fun _ => .inl ((), ())) (fun _ _ => True) () rfl trivial (by omega) (fun i s hi _ => ⟨?_, fun _ _ => trivial⟩) (fun s _ => ?_) (by rw [wl]; cases d.any B <;> rfl), fun ha => ⟨by omega, fun n hm => (hB n).2 (by simpa using List.any_eq_false.1 ha n hm)⟩⟩
 ·simp only [yz, decide_eq_true hi, cond_true, zk hi, Option.bind_some, (hB _).1, x5 (show i < 1000000 by omega)]
  cases B d[i] <;> simp
 ·simp only [yz, Nat.lt_irrefl, decide_false, cond_false]
theorem zsi {n k : Nat} (h : n ≤ 10000) (hk : k ≤ 1000) : fits n k = true := zfj (by have := Nat.mul_le_mul h hk; omega)
theorem z6o (n : Nd) (h1 : n.2.2.2.1.length ≤ 4000) (h2 : n.2.2.2.2.2.1.length ≤ 4000) : ww (Ev.upto 5000) ((n, ()), ()) = some ((n.1, (n.2.1, (n.2.2.1, (n.2.2.2.2.1, (n.2.2.2.2.2.2.1, (n.2.2.2.2.2.2.2, ())))))), (n.2.2.2.1, (n.2.2.2.2.2.1, ()))) := by
 unfold ww
 simp only [zsi (show n.2.2.2.1.length ≤ 10000 by omega) (show 32 ≤ 1000 by omega), zsi (show n.2.2.2.2.2.1.length ≤ 10000 by omega) (show 8 ≤ 1000 by omega), cond_true]
theorem zww {ε β : Type} (fin : List ε → β) : ∀ (l s : List ε) (i : Nat), yn (fun (_ : Nat) (x : ε) (s : List ε) => (.inl (s ++ [x]) : List ε ⊕ β)) fin i l s = fin (s ++ l)
 | [], s, _ => by simp [yn]
 | x :: l, s, i => by
  unfold yn
  simp only
  rw [zww fin l (s ++ [x]) (i + 1)]
  simp
theorem own (d : List Nd) (h : Sm d) : za0 (Ev.upto 5000) ((d, ()), ()) = some ((), (d, ())) := by
 unfold za0
 refine zu (l := d) (σ := List Nd) (fun i s => ((((i : Int), ()), ((d, ()), ((), (s, ())))))) (fun _ x s => .inl (s ++ [x])) (fun s => ((), ((), (s, ())))) (fun i s => s.length = i) [] rfl rfl (by have := h.1; omega) (fun i s hi hl => ⟨?_, fun s' e => ?_⟩) (fun s _ => ?_) (by rw [zww]; rfl)
 ·have hm := h.2 _ (List.getElem_mem hi)
  have := h.1
  simp only [yz, decide_eq_true hi, cond_true, zk hi, Option.bind_some, z6o _ hm.1 hm.2, zsi (show s.length + [d[i]].length ≤ 10000 by simp; omega) (show 104 ≤ 1000 by omega), x5 (show i < 1000000 by omega)]
 ·simp only [Sum.inl.injEq] at e
  subst e
  simp [hl]
 ·simp only [yz, Nat.lt_irrefl, decide_false, cond_false]
def mayB (n : Nd) : Bool :=
 if n.1 = 2 then !(n.2.1 == []) && (n.2.2.1 == []) && decide (n.2.2.2.1.length ≤ 30) && decide ((n.2.2.2.1.map (·.1)).Nodup)
 else decide (1 ≤ n.1) && decide (n.1 ≤ 4) && (n.2.1 == []) && (n.2.2.2.1.length == 0) && !n.2.2.2.2.2.2.1 && !n.2.2.2.2.2.2.2 && (n.1 != 1 || n.2.2.1 == [])
def zq3 (acc : List (Bs × Bool)) (l : List At) : List (Bs × Bool) := l.foldl (fun s x => mput (fun (a b : Bs) => a == b) x.1 true s) acc
theorem zh6 (k : Bs) : ∀ (l : List (Bs × Bool)), (k ∈ l.map (·.1) → (mput (fun (a b : Bs) => a == b) k true l).map (·.1) = l.map (·.1)) ∧ (k ∉ l.map (·.1) → (mput (fun (a b : Bs) => a == b) k true l).map (·.1) = l.map (·.1) ++ [k])
 | [] => ⟨fun h => by simp at h, fun _ => rfl⟩
 | p :: l => by
  have ih := zh6 k l
  cases hk : k == p.1 with
  | true =>
   have e : k = p.1 := by simpa using hk
   simp only [mput, hk, cond_true]
   refine ⟨fun _ => by simp [e], fun h => absurd (by simp [e]) h⟩
  | false =>
   have e : ¬ k = p.1 := by simpa using hk
   simp only [mput, hk, cond_false]
   refine ⟨fun h => ?_, fun h => ?_⟩
   ·have : k ∈ l.map (·.1) := by simpa [e] using h
    simp only [List.map_cons, ih.1 this]
   ·have : k ∉ l.map (·.1) := fun hx => h (by simp only [List.map_cons, List.mem_cons]; exact .inr hx)
    simp only [List.map_cons, ih.2 this, List.cons_append]
theorem zo5 : ∀ (l : List At) (acc : List (Bs × Bool)), (zq3 acc l).length ≤ acc.length + l.length ∧ ((zq3 acc l).length = acc.length + l.length ↔ (l.map (·.1)).Nodup ∧ ∀ x, x ∈ l.map (·.1) → x ∉ acc.map (·.1))
 | [], acc => by simp [zq3]
 | a :: l, acc => by
  have hk := zh6 a.1 acc
  have ih := zo5 l (mput (fun (a b : Bs) => a == b) a.1 true acc)
  have e1 : zq3 acc (a :: l) = zq3 (mput (fun (a b : Bs) => a == b) a.1 true acc) l := rfl
  rw [e1]
  by_cases hm : a.1 ∈ acc.map (·.1)
  ·have hl : (mput (fun (a b : Bs) => a == b) a.1 true acc).length = acc.length := by have := congrArg List.length (hk.1 hm); simpa using this
   rw [hl] at ih
   refine ⟨by simp only [List.length_cons]; omega, ⟨fun h => ?_, fun h => ?_⟩⟩
   ·simp only [List.length_cons] at h; have := ih.1; omega
   ·exact absurd hm (h.2 _ (by simp))
  ·have hl : (mput (fun (a b : Bs) => a == b) a.1 true acc).length = acc.length + 1 := by have := congrArg List.length (hk.2 hm); simpa using this
   rw [hl, hk.2 hm] at ih
   refine ⟨by simp only [List.length_cons]; omega, ?_⟩
   rw [List.length_cons, show acc.length + (l.length + 1) = acc.length + 1 + l.length by omega, ih.2]
   simp only [List.map_cons, List.map_nil, List.nodup_cons, List.mem_append, List.mem_singleton, not_or, List.mem_cons, List.not_mem_nil, or_false]
   constructor
   ·rintro ⟨h1, h2⟩
    refine ⟨⟨fun hx => (h2 _ hx).2 rfl, h1⟩, fun x hx => ?_⟩
    rcases hx with rfl | hx
    ·exact hm
    ·exact (h2 x hx).1
   ·rintro ⟨⟨h1, h2⟩, h3⟩
    exact ⟨h2, fun x hx => ⟨h3 x (.inr hx), fun e => h1 (e ▸ hx)⟩⟩
theorem zq4 (l : List At) : ((((zq3 [] l).length : Nat) : Int) == (l.length : Int)) = decide ((l.map (·.1)).Nodup) := by
 have := (zo5 l []).2
 simp only [List.length_nil, Nat.zero_add, List.map_nil, List.not_mem_nil, not_false_eq_true, implies_true, and_true] at this
 rw [Bool.eq_iff_iff, beq_iff_eq, decide_eq_true_eq, ← this]
 omega
theorem zh7 {β : Type} (fin : List (Bs × Bool) → β) : ∀ (l : List At) (s : List (Bs × Bool)) (i : Nat), yn (fun (_ : Nat) (x : At) (s : List (Bs × Bool)) => (.inl (mput (fun (a b : Bs) => a == b) x.1 true s) : List (Bs × Bool) ⊕ β)) fin i l s = fin (zq3 s l)
 | [], s, _ => rfl
 | x :: l, s, i => by
  unfold yn
  simp only
  rw [zh7 fin l _ (i + 1)]
  rfl
theorem z1i (k : Bs) (s : List (Bs × Bool)) : (mput (fun (a b : Bs) => a == b) k true s).length ≤ s.length + 1 := by
 have := zh6 k s
 by_cases h : k ∈ s.map (·.1)
 ·have := congrArg List.length (this.1 h); simp at this; omega
 ·have := congrArg List.length (this.2 h); simp at this; omega
theorem z4q (n : Nd) (h : n.2.2.2.1.length ≤ 4000) : zgq (Ev.upto 5000) ((n, ()), ()) = some ((mayB n, ()), ()) := by
 unfold zgq mayB
 by_cases hk : n.1 = 2
 ·simp only [hk, bne_self_eq_false, cond_false, if_true]
  refine zu (l := n.2.2.2.1) (σ := List (Bs × Bool)) (fun i s => (((n.2.2.2.1, ((n.2.2.2.1.length : Int), ((i : Int), ())))), ((n, ()), (s, ())))) (fun _ x s => .inl (mput (fun (a b : Bs) => a == b) x.1 true s)) (fun s => ((), ((n, ()), (s, ())))) (fun i s => s.length ≤ i) [] rfl (Nat.le_refl _) (by omega) (fun i s hi hl => ⟨?_, fun s' e => ?_⟩) (fun s _ => ?_) ?_
  ·have hm : s.length < maxB := by simp only [maxB]; omega
   simp only [yz, decide_eq_true hi, cond_true, zk hi, Option.bind_some, decide_eq_true hm, x5 (show i < 1000000 by omega)]
  ·simp only [Sum.inl.injEq] at e
   subst e
   have := z1i n.2.2.2.1[i].1 s
   omega
  ·simp only [yz, Nat.lt_irrefl, decide_false, cond_false]
  ·rw [zh7]
   simp only [zq4, show (30 : Int) = ((30 : Nat) : Int) from rfl, Int.ofNat_le]
   cases (n.2.1 == []) <;> cases (n.2.2.1 == []) <;> by_cases h3 : n.2.2.2.1.length ≤ 30 <;> simp [h3]
 ·have h1 : (n.1 != 2) = true := by simpa using hk
  simp only [h1, cond_true, if_neg hk]
  have h0 : ((n.2.2.2.1.length : Int) == 0) = (n.2.2.2.1.length == 0) := by rw [Bool.eq_iff_iff]; simp
  simp only [h0, ge_iff_le]
  by_cases h2 : 1 ≤ n.1 <;> by_cases h3 : n.1 ≤ 4 <;> cases (n.2.1 == []) <;> cases (n.2.2.2.1.length == 0) <;> cases n.2.2.2.2.2.2.1 <;> cases n.2.2.2.2.2.2.2 <;> cases (n.1 != 1) <;> simp [h2, h3]
def zsj (l : List At) (a : Bs) : Nat → Bool
 | 0 => false
 | i + 1 => zsj l a i || (match l[i]? with | some x => a == x.1 | none => false)
theorem z7k (n : Nd) (h : n.2.2.2.1.length ≤ 4000) : za1 (Ev.upto 5000) ((n, ()), ()) = some ((mayB n, ()), ()) := by
 unfold za1
 have h0 : ((n.2.2.2.1.length : Int) == 0) = (n.2.2.2.1.length == 0) := by rw [Bool.eq_iff_iff]; simp
 have hb : ∀ (K : ((Bool × Unit) × ((Nd × Unit) × Unit)) → Option ((Bool × Unit) × Unit)), ((bif ((n.2.2.2.1.length : Int) == 0) == true then bif (!n.2.2.2.2.2.2.1) == true then bif (!n.2.2.2.2.2.2.2) == true then some ((n.2.1 == [], ()), ((n, ()), ())) else some ((false, ()), ((n, ()), ())) else some ((false, ()), ((n, ()), ())) else some ((false, ()), ((n, ()), ()))) : Option ((Bool × Unit) × ((Nd × Unit) × Unit))).bind K
   = K (((n.2.2.2.1.length == 0) && !n.2.2.2.2.2.2.1 && !n.2.2.2.2.2.2.2 && (n.2.1 == []), ()), ((n, ()), ())) := by
  intro K
  rw [h0]
  cases (n.2.2.2.1.length == 0) <;> cases n.2.2.2.2.2.2.1 <;> cases n.2.2.2.2.2.2.2 <;> simp
 refine (hb _).trans ?_
 unfold mayB
 by_cases hk1 : n.1 = 1
 ·simp only [hk1, beq_self_eq_true, cond_true]
  cases (n.2.2.2.1.length == 0) <;> cases n.2.2.2.2.2.2.1 <;> cases n.2.2.2.2.2.2.2 <;> cases (n.2.1 == []) <;> simp
 have e1 : (n.1 == 1) = false := by simpa using hk1
 by_cases hk3 : n.1 = 3
 ·simp only [hk3, beq_self_eq_true, cond_true]
  cases (n.2.2.2.1.length == 0) <;> cases n.2.2.2.2.2.2.1 <;> cases n.2.2.2.2.2.2.2 <;> cases (n.2.1 == []) <;> simp
 have e3 : (n.1 == 3) = false := by simpa using hk3
 by_cases hk4 : n.1 = 4
 ·simp only [hk4, beq_self_eq_true, cond_true]
  cases (n.2.2.2.1.length == 0) <;> cases n.2.2.2.2.2.2.1 <;> cases n.2.2.2.2.2.2.2 <;> cases (n.2.1 == []) <;> simp
 have e4 : (n.1 == 4) = false := by simpa using hk4
 by_cases hk2 : n.1 = 2
 ·simp only [e1, e3, e4, cond_false, Option.bind_some, hk2, beq_self_eq_true, cond_true, if_true]
  refine zu (l := n.2.2.2.1) (σ := Unit) (fun i _ => ((((i : Int), ()), ((n, ()), ())))) (fun i x _ => if zsj n.2.2.2.1 x.1 i then .inr (.inr ((false, ()), ())) else .inl ()) (fun _ => .inl ((), ((n, ()), ()))) (fun _ _ => True) () rfl trivial (by omega) (fun i s hi _ => ⟨?_, fun _ _ => trivial⟩) (fun s _ => ?_) ?_
  ·simp only [yz, decide_eq_true hi, cond_true]
   refine zu (l := n.2.2.2.1.take i) (σ := Unit) (fun k _ => ((((i : Int), ((k : Int), ())), ((n, ()), ())))) (fun _ y _ => if n.2.2.2.1[i].1 == y.1 then .inr (.inr ((false, ()), ())) else .inl ()) (fun _ => .inl (((i : Int), ()), ((n, ()), ()))) (fun _ _ => True) () rfl trivial (by simp; omega) (fun k s hk _ => ⟨?_, fun _ _ => trivial⟩) (fun s _ => ?_) ?_
   ·have hk' : k < i := by simp at hk; omega
    have hkl : k < n.2.2.2.1.length := by omega
    simp only [yz, decide_eq_true hk', cond_true, zk hi, zk hkl, Option.bind_some, List.getElem_take]
    cases hx : (n.2.2.2.1[i].1 == n.2.2.2.1[k].1)
    ·simp only [cond_false, x5 (show k < 1000000 by omega)]; rfl
    ·rfl
   ·have : (n.2.2.2.1.take i).length = i := by simp; omega
    rw [this]
    simp only [yz, Nat.lt_irrefl, decide_false, cond_false]
   ·rw [wl]
    have hin : ∀ j, j ≤ n.2.2.2.1.length → ((n.2.2.2.1.take j).any fun y => n.2.2.2.1[i].1 == y.1) = zsj n.2.2.2.1 n.2.2.2.1[i].1 j := by
     intro j
     induction j with
     | zero => intro _; rfl
     | succ j ih =>
      intro hj
      rw [List.take_succ_eq_append_getElem (by omega), List.any_append, ih (by omega)]
      simp only [List.any_cons, List.any_nil, Bool.or_false, zsj, List.getElem?_eq_getElem (show j < n.2.2.2.1.length by omega)]
    rw [hin i (by omega)]
    cases zsj n.2.2.2.1 n.2.2.2.1[i].1 i
    ·simp only [Bool.false_eq_true, if_false, x5 (show i < 1000000 by omega)]
    ·simp
  ·simp only [yz, Nat.lt_irrefl, decide_false, cond_false]
  ·
   have hall : ∀ (l : List At) (m : List At) (i : Nat), i = l.length → n.2.2.2.1 = l ++ m → (l.map (·.1)).Nodup → yn (fun i (x : At) (_ : Unit) => if zsj n.2.2.2.1 x.1 i then (.inr (.inr ((false, ()), ())) : Unit ⊕ ((Unit × ((Nd × Unit) × Unit)) ⊕ ((Bool × Unit) × Unit))) else .inl ()) (fun _ => .inl ((), ((n, ()), ()))) i m () = if (n.2.2.2.1.map (·.1)).Nodup then .inl ((), ((n, ()), ())) else .inr ((false, ()), ()) := by
    intro l m
    induction m generalizing l with
    | nil => intro i hi e hn; rw [e, List.append_nil, if_pos hn]; rfl
    | cons x m ih =>
     intro i hi e hn
     have hin : zsj n.2.2.2.1 x.1 i = decide (x.1 ∈ l.map (·.1)) := by
      have : ∀ j, j ≤ l.length → zsj n.2.2.2.1 x.1 j = decide (x.1 ∈ (l.take j).map (·.1)) := by
       intro j
       induction j with
       | zero => intro _; simp [zsj]
       | succ j ihj =>
        intro hj
        have hg : n.2.2.2.1[j]? = some l[j] := by rw [e, List.getElem?_append_left (by omega), List.getElem?_eq_getElem]
        simp only [zsj, ihj (by omega), hg]
        rw [List.take_succ_eq_append_getElem (by omega)]
        rw [Bool.eq_iff_iff]
        simp only [Bool.or_eq_true, decide_eq_true_eq, beq_iff_eq, List.map_append, List.mem_append, List.map_cons, List.map_nil, List.mem_singleton]
      rw [this i (by omega), hi, List.take_length]
     unfold yn
     rw [hin]
     by_cases hx : x.1 ∈ l.map (·.1)
     ·rw [decide_eq_true hx]
      have : ¬ (n.2.2.2.1.map (·.1)).Nodup := by
       rw [e, List.map_append, List.map_cons, List.nodup_append]
       rintro ⟨_, _, h3⟩
       exact h3 _ hx _ (List.mem_cons_self ..) rfl
      rw [if_neg this]
      rfl
     ·rw [decide_eq_false hx]
      simp only [Bool.false_eq_true, if_false]
      refine ih (l ++ [x]) (i + 1) (by simp [hi]) (by rw [e]; simp) ?_
      rw [List.map_append, List.nodup_append]
      refine ⟨hn, by simp, fun a ha b hb => ?_⟩
      simp only [List.map_cons, List.map_nil, List.mem_singleton] at hb
      rintro rfl
      exact hx (hb ▸ ha)
   rw [hall [] n.2.2.2.1 0 rfl rfl (by simp)]
   have h30 : decide ((n.2.2.2.1.length : Int) ≤ 30) = decide (n.2.2.2.1.length ≤ 30) := by
    by_cases h : n.2.2.2.1.length ≤ 30
    ·rw [decide_eq_true h, decide_eq_true (by omega)]
    ·rw [decide_eq_false h, decide_eq_false (by omega)]
   by_cases hn : (n.2.2.2.1.map (·.1)).Nodup
   ·rw [if_pos hn]
    simp only [h30]
    cases (n.2.1 == []) <;> cases (n.2.2.1 == []) <;> simp [hn]
   ·rw [if_neg hn]
    simp [hn]
 have e2 : (n.1 == 2) = false := by simpa using hk2
 simp only [e1, e3, e4, e2, cond_false, Option.bind_some, if_neg hk2]
 have : ¬ (1 ≤ n.1 ∧ n.1 ≤ 4) := by omega
 by_cases h1 : 1 ≤ n.1
 ·have : ¬ n.1 ≤ 4 := fun h => this ⟨h1, h⟩
  simp [this]
 ·simp [h1]
def wm (n : Nd) : Bool := n.1 == 1 || n.1 == 2
theorem zzj (n : Nd) : za8 (Ev.upto 5000) ((n, ()), ()) = some ((wm n, ()), ()) := by
 unfold za8 wm
 cases (n.1 == 1) <;> simp
theorem z2b (n : Nd) : jm (Ev.upto 5000) ((n, ()), ()) = some ((wm n, ()), ()) := by
 unfold jm wm
 cases (n.1 == 1) <;> simp
abbrev zf (n : Nd) : List Int := n.2.2.2.2.2.1
abbrev qx (n : Nd) : Int := n.2.2.2.2.1
def pr (d : List Nd) (i : Int) : Int := match idx d i with
 | some n => qx n
 | none => -1
def y9 (d : List Nd) : List Int := d.flatMap zf
def up (d : List Nd) : Nat → Int → Int
 | 0, x => x
 | j + 1, x => up d j (pr d x)
structure zge (d : List Nd) : Prop where
 len : d.length ≤ 300
 pos : 0 < d.length
 may : ∀ n, n ∈ d → mayB n = true
 root : ∀ (i : Nat) (n : Nd), d[i]? = some n → (n.1 = 1 ↔ i = 0)
 par0 : pr d 0 = -1
 holds : ∀ n, n ∈ d → zf n ≠ [] → wm n = true
 rng : ∀ n, n ∈ d → ∀ k, k ∈ zf n → 1 ≤ k ∧ k < d.length
 nodup : (y9 d).Nodup
 back : ∀ (i : Nat) (n : Nd), d[i]? = some n → ∀ k, k ∈ zf n → pr d k = (i : Int)
 laid : ∀ (i : Nat) (n : Nd), d[i]? = some n → qx n ≠ -1 → (i : Int) ∈ y9 d
 ends : ∀ (i : Nat) (n : Nd), d[i]? = some n → ∃ j, j ≤ d.length ∧ up d j (qx n) = -1
theorem z0o {α : Type} {l : List α} {i : Int} (h0 : 0 ≤ i) (h : i < l.length) : ∃ x, idx l i = some x ∧ l[i.toNat]? = some x := by
 have hi : i.toNat < l.length := by omega
 exact ⟨l[i.toNat], by unfold idx; rw [if_pos h0, List.getElem?_eq_getElem hi], List.getElem?_eq_getElem hi⟩
theorem b6 {d : List Nd} {i : Nat} {n : Nd} (h : d[i]? = some n) : pr d (i : Int) = qx n := by
 unfold pr idx
 rw [if_pos (by omega), Int.toNat_natCast, h]
def lay (n : Nat) (K : List Int) : List Bool := (List.range n).map fun j : Nat => decide ((j : Int) ∈ K)
theorem zdu (n : Nat) (K : List Int) : (lay n K).length = n := by simp [lay]
theorem zdv {n : Nat} {K : List Int} {i : Nat} (h : i < n) : (lay n K)[i]? = some (decide ((i : Int) ∈ K)) := by simp [lay, h]
theorem z1j (n : Nat) : lay n [] = List.replicate n false := by
 apply List.ext_getElem?
 intro i
 by_cases h : i < n
 ·rw [zdv h]; simp [h]
 ·rw [List.getElem?_eq_none (by rw [zdu]; omega), List.getElem?_eq_none (by simp; omega)]
theorem z1k {n : Nat} {K : List Int} {i : Nat} (h : i < n) : (lay n K).set i true = lay n (K ++ [(i : Int)]) := by
 apply List.ext_getElem?
 intro j
 rw [List.getElem?_set, zdu]
 by_cases e : i = j
 ·subst e
  rw [if_pos rfl, if_pos h, zdv h]
  simp
 ·rw [if_neg e]
  by_cases hj : j < n
  ·rw [zdv hj, zdv hj]
   have : ((j : Int) ∈ K ++ [(i : Int)]) ↔ (j : Int) ∈ K := by
    simp only [List.mem_append, List.mem_singleton]
    constructor
    ·rintro (h | h)
     ·exact h
     ·omega
    ·exact .inl
   simp only [this]
  ·rw [List.getElem?_eq_none (by rw [zdu]; omega), List.getElem?_eq_none (by rw [zdu]; omega)]
def zca (d : List Nd) (i : Int) : List Int → List Int → Bool
 | _, [] => true
 | K, k :: r => (decide (1 ≤ k) && decide (k < (d.length : Int)) && !decide (k ∈ K) && (pr d k == i)) && zca d i (K ++ [k]) r
def zh8 (d : List Nd) (i : Nat) (n : Nd) (K : List Int) : Bool := mayB n && !(decide (i > 0) && n.1 == 1) && (zf n == [] || wm n) && zca d i K (zf n)
def zh9 (d : List Nd) : Nat → List Int → List Nd → Bool
 | _, _, [] => true
 | i, K, n :: r => zh8 d i n K && zh9 d (i + 1) (K ++ zf n) r
theorem zfk (d : List Nd) (i : Int) : ∀ (l K : List Int), K.Nodup → (zca d i K l = true ↔ (∀ k, k ∈ l → 1 ≤ k ∧ k < d.length ∧ pr d k = i) ∧ (K ++ l).Nodup)
 | [], K, hK => by simp [zca, hK]
 | k :: l, K, hK => by
  simp only [zca, Bool.and_eq_true, decide_eq_true_eq, Bool.not_eq_true', decide_eq_false_iff_not, beq_iff_eq]
  have e : K ++ k :: l = (K ++ [k]) ++ l := by simp
  rw [e]
  constructor
  ·rintro ⟨⟨⟨⟨h1, h2⟩, h3⟩, h4⟩, h5⟩
   have hK' : (K ++ [k]).Nodup := by
    rw [List.nodup_append]
    exact ⟨hK, by simp, fun a ha b hb => by simp at hb; rintro rfl; exact h3 (hb ▸ ha)⟩
   obtain ⟨h6, h7⟩ := (zfk d i l (K ++ [k]) hK').1 h5
   refine ⟨fun x hx => ?_, h7⟩
   rcases List.mem_cons.1 hx with rfl | hx
   ·exact ⟨h1, h2, h4⟩
   ·exact h6 x hx
  ·rintro ⟨h1, h2⟩
   have hK' : (K ++ [k]).Nodup := (List.nodup_append.1 h2).1
   have h3 : k ∉ K := fun hx => (List.nodup_append.1 hK').2.2 k hx k (by simp) rfl
   obtain ⟨h4, h5, h6⟩ := h1 k (List.mem_cons_self ..)
   exact ⟨⟨⟨⟨h4, h5⟩, h3⟩, h6⟩, (zfk d i l (K ++ [k]) hK').2 ⟨fun x hx => h1 x (List.mem_cons_of_mem _ hx), h2⟩⟩
theorem zex (d : List Nd) : ∀ (l : List Nd) (i : Nat) (K : List Int), K.Nodup → (zh9 d i K l = true ↔
  (∀ j n, l[j]? = some n → mayB n = true ∧ (i + j > 0 → n.1 ≠ 1) ∧ (zf n ≠ [] → wm n = true) ∧ ∀ k, k ∈ zf n → 1 ≤ k ∧ k < d.length ∧ pr d k = ((i + j : Nat) : Int)) ∧ (K ++ l.flatMap zf).Nodup)
 | [], i, K, hK => by simp [zh9, hK]
 | n :: l, i, K, hK => by
  simp only [zh9, zh8, Bool.and_eq_true]
  rw [zfk d i (zf n) K hK]
  have e : K ++ (n :: l).flatMap zf = (K ++ zf n) ++ l.flatMap zf := by simp
  rw [e]
  constructor
  ·rintro ⟨⟨⟨⟨h1, h2⟩, h3⟩, h4, h5⟩, h6⟩
   obtain ⟨h7, h8⟩ := (zex d l (i + 1) (K ++ zf n) h5).1 h6
   refine ⟨fun j m hj => ?_, h8⟩
   cases j with
   | zero =>
    simp only [List.getElem?_cons_zero, Option.some.injEq] at hj
    subst hj
    refine ⟨h1, fun hi hk => ?_, fun hne => ?_, fun k hk => ?_⟩
    ·simp only [Nat.add_zero] at hi
     simp [hk, hi] at h2
    ·cases hh : zf n with
     | nil => exact absurd hh hne
     | cons a b => simpa [hh] using h3
    ·exact h4 k hk
   | succ j =>
    have := h7 j m (by simpa using hj)
    rw [show i + (j + 1) = i + 1 + j by omega]
    exact this
  ·rintro ⟨h1, h2⟩
   obtain ⟨g1, g2, g3, g4⟩ := h1 0 n rfl
   have h5 : (K ++ zf n).Nodup := (List.nodup_append.1 h2).1
   refine ⟨⟨⟨⟨g1, ?_⟩, ?_⟩, g4, h5⟩, (zex d l (i + 1) (K ++ zf n) h5).2 ⟨fun j m hj => ?_, h2⟩⟩
   ·by_cases hi : i > 0
    ·have := g2 (by omega); simp [hi, this]
    ·simp [hi]
   ·cases hh : zf n with
    | nil => simp
    | cons a b => simp [g3 (by rw [hh]; simp)]
   ·have := h1 (j + 1) m (by simpa using hj)
    rw [show i + 1 + j = i + (j + 1) by omega]
    exact this
theorem zsk {ε σ β : Type} (ok : Nat → ε → σ → Bool) (nx : Nat → ε → σ → σ) (bad : β) (fin : σ → β) : ∀ (l : List ε) (i : Nat) (s : σ),
  yn (fun i x s => if ok i x s then (.inl (nx i x s) : σ ⊕ β) else .inr bad) fin i l s = match l with
   | [] => fin s
   | x :: r => if ok i x s then yn (fun i x s => if ok i x s then (.inl (nx i x s) : σ ⊕ β) else .inr bad) fin (i + 1) r (nx i x s) else bad
 | [], _, _ => rfl
 | x :: l, i, s => by
  show (match (if ok i x s then (.inl (nx i x s) : σ ⊕ β) else .inr bad) with | .inl s' => _ | .inr b => b) = _
  simp only
  cases ok i x s <;> rfl
theorem zsl {β : Type} (d : List Nd) (i : Int) (bad : β) (fin : List Int → β) : ∀ (l : List Int) (j : Nat) (K : List Int),
  yn (fun (_ : Nat) (k : Int) (K : List Int) => if (decide (1 ≤ k) && decide (k < (d.length : Int)) && !decide (k ∈ K) && (pr d k == i)) then (.inl (K ++ [k]) : List Int ⊕ β) else .inr bad) fin j l K = if zca d i K l then fin (K ++ l) else bad
 | [], j, K => by simp [yn, zca]
 | k :: l, j, K => by
  rw [zsk (fun _ k K => (decide (1 ≤ k) && decide (k < (d.length : Int)) && !decide (k ∈ K) && (pr d k == i))) (fun _ k K => K ++ [k])]
  by_cases hc : (decide (1 ≤ k) && decide (k < (d.length : Int)) && !decide (k ∈ K) && (pr d k == i)) = true
  ·have e2 : zca d i K (k :: l) = zca d i (K ++ [k]) l := by show (_ && _) = _; rw [hc, Bool.true_and]
   simp only [if_pos hc, e2, zsl d i bad fin l (j + 1) (K ++ [k])]
   simp
  ·have e2 : zca d i K (k :: l) = false := by show (_ && _) = _; rw [Bool.eq_false_iff.2 hc, Bool.false_and]
   simp only [if_neg hc, e2]
   simp
theorem zo6 {β : Type} (d : List Nd) (bad : β) (fin : List Int → β) : ∀ (l : List Nd) (i : Nat) (K : List Int),
  yn (fun (i : Nat) (n : Nd) (K : List Int) => if zh8 d i n K then (.inl (K ++ zf n) : List Int ⊕ β) else .inr bad) fin i l K = if zh9 d i K l then fin (K ++ l.flatMap zf) else bad
 | [], i, K => by simp [yn, zh9]
 | n :: l, i, K => by
  rw [zsk (fun i n K => zh8 d i n K) (fun i n K => K ++ zf n)]
  by_cases hc : zh8 d i n K = true
  ·have e2 : zh9 d i K (n :: l) = zh9 d (i + 1) (K ++ zf n) l := by show (_ && _) = _; rw [hc, Bool.true_and]
   simp only [if_pos hc, e2, zo6 d bad fin l (i + 1) (K ++ zf n)]
   simp
  ·have e2 : zh9 d i K (n :: l) = false := by show (_ && _) = _; rw [Bool.eq_false_iff.2 hc, Bool.false_and]
   simp only [if_neg hc, e2]
   simp
theorem gu {ε β : Type} (p : Nat → ε → Bool) (b e : β) : ∀ (l : List ε) (i : Nat), (∃ j x, l[j]? = some x ∧ p (i + j) x = true) ∧ yn (fun (i : Nat) (x : ε) (_ : Unit) => if p i x then (.inr b : Unit ⊕ β) else .inl ()) (fun _ => e) i l () = b ∨
  (∀ j x, l[j]? = some x → p (i + j) x = false) ∧ yn (fun (i : Nat) (x : ε) (_ : Unit) => if p i x then (.inr b : Unit ⊕ β) else .inl ()) (fun _ => e) i l () = e
 | [], i => .inr ⟨fun j x h => by simp at h, rfl⟩
 | y :: l, i => by
  cases hp : p i y with
  | true => exact .inl ⟨⟨0, y, rfl, hp⟩, by unfold yn; simp [hp]⟩
  | false =>
   rcases gu p b e l (i + 1) with ⟨⟨j, x, h1, h2⟩, h3⟩ | ⟨h1, h3⟩
   ·refine .inl ⟨⟨j + 1, x, by simpa using h1, by rw [show i + (j + 1) = i + 1 + j by omega]; exact h2⟩, ?_⟩
    unfold yn
    simp only [hp, Bool.false_eq_true, if_false]
    exact h3
   ·refine .inr ⟨fun j x hj => ?_, ?_⟩
    ·cases j with
     | zero => simp only [List.getElem?_cons_zero, Option.some.injEq] at hj; subst hj; exact hp
     | succ j => rw [show i + (j + 1) = i + 1 + j by omega]; exact h1 j x (by simpa using hj)
    ·unfold yn
     simp only [hp, Bool.false_eq_true, if_false]
     exact h3
open Classical in
noncomputable def chk (d : List Nd) : Int := if d.length > 300 then 2 else if zge d then 0 else 171
theorem z4r {α β : Type} {f : α → Option (α ⊕ β)} (d : List Nd) (st : Nat → Int → α) (ok bad : β) (cl : ∀ x : Int, 0 ≤ x → x < d.length → pr d x = -1 ∨ (0 ≤ pr d x ∧ pr d x < d.length))
  (h0 : ∀ s, f (st s (-1)) = some (.inr ok)) (h1 : ∀ (s : Nat) (x : Int), 0 ≤ x → x < d.length → s + 1 > d.length → s ≤ d.length → f (st s x) = some (.inr bad)) (h2 : ∀ (s : Nat) (x : Int), 0 ≤ x → x < d.length → s + 1 ≤ d.length → f (st s x) = some (.inl (st (s + 1) (pr d x)))) :
  ∀ (m s : Nat) (x : Int) (N : Nat), s + m = d.length → m + 1 < N → (x = -1 ∨ (0 ≤ x ∧ x < d.length)) → ((∃ j, j ≤ m ∧ up d j x = -1) ∧ jd f N (st s x) = some ok) ∨ ((¬ ∃ j, j ≤ m ∧ up d j x = -1) ∧ jd f N (st s x) = some bad) := by
 intro m
 induction m with
 | zero =>
  intro s x N hs hN hx
  obtain ⟨N, rfl⟩ : ∃ M, N = M + 1 := ⟨N - 1, by omega⟩
  unfold jd
  rcases hx with rfl | ⟨hx0, hx1⟩
  ·exact .inl ⟨⟨0, Nat.le_refl _, rfl⟩, by rw [h0]; rfl⟩
  ·refine .inr ⟨?_, by rw [h1 s x hx0 hx1 (by omega) (by omega)]; rfl⟩
   rintro ⟨j, hj, hu⟩
   obtain rfl : j = 0 := by omega
   simp only [up] at hu
   omega
 | succ m ih =>
  intro s x N hs hN hx
  obtain ⟨N, rfl⟩ : ∃ M, N = M + 1 := ⟨N - 1, by omega⟩
  unfold jd
  rcases hx with rfl | ⟨hx0, hx1⟩
  ·exact .inl ⟨⟨0, Nat.zero_le _, rfl⟩, by rw [h0]; rfl⟩
  ·rw [h2 s x hx0 hx1 (by omega)]
   simp only [Option.bind_some]
   rcases ih (s + 1) (pr d x) N (by omega) (by omega) (cl x hx0 hx1) with ⟨⟨j, h3, h4⟩, h5⟩ | ⟨h3, h5⟩
   ·exact .inl ⟨⟨j + 1, by omega, h4⟩, h5⟩
   ·refine .inr ⟨?_, h5⟩
    rintro ⟨j, hj, hu⟩
    cases j with
    | zero => simp only [up] at hu; omega
    | succ j => exact h3 ⟨j, by omega, hu⟩
theorem z2c (d : List Nd) (k : Int) : decide (k ≥ (d.length : Int)) = !decide (k < (d.length : Int)) := by
 by_cases h : k < (d.length : Int)
 ·rw [decide_eq_true h, decide_eq_false (by omega)]; rfl
 ·rw [decide_eq_false h, decide_eq_true (by omega)]; rfl
theorem z2d (k : Int) : decide (k < 1) = !decide (1 ≤ k) := by
 by_cases h : 1 ≤ k
 ·rw [decide_eq_true h, decide_eq_false (by omega)]; rfl
 ·rw [decide_eq_false h, decide_eq_true (by omega)]; rfl
theorem z2e (i : Nat) : decide ((i : Int) > 0) = decide (i > 0) := by
 by_cases h : i > 0
 ·rw [decide_eq_true h, decide_eq_true (by omega)]
 ·rw [decide_eq_false h, decide_eq_false (by omega)]
theorem z5m (l : List Int) : decide (l.length > 0) = !(l == []) := by
 cases l with
 | nil => rfl
 | cons a l => simp
theorem zwx (d : List Nd) (h3 : d.length ≤ 300) (n0 : Nd) (hn0 : d[0]? = some n0) : zge d ↔ (n0.1 = 1 ∧ qx n0 = -1) ∧ zh9 d 0 [] d = true ∧ (∀ (j : Nat) (n : Nd), d[j]? = some n → decide ((j : Int) ∈ y9 d) = (qx n != -1)) ∧ (∀ (j : Nat) n, d[j]? = some n → ∃ m, m ≤ d.length ∧ up d m (qx n) = -1) := by
 rw [zex d d 0 [] (by simp)]
 simp only [Nat.zero_add, List.nil_append]
 have hmem : ∀ k : Int, k ∈ y9 d ↔ ∃ (i : Nat) (n : Nd), d[i]? = some n ∧ k ∈ zf n := by
  intro k
  unfold y9
  rw [List.mem_flatMap]
  constructor
  ·rintro ⟨n, hn, hk⟩
   obtain ⟨i, hi⟩ := List.getElem?_of_mem hn
   exact ⟨i, n, hi, hk⟩
  ·rintro ⟨i, n, hi, hk⟩
   exact ⟨n, List.mem_of_getElem? hi, hk⟩
 constructor
 ·intro R
  refine ⟨⟨(R.root 0 n0 hn0).2 rfl, by have := R.par0; rw [show (0 : Int) = ((0 : Nat) : Int) from rfl, b6 hn0] at this; exact this⟩, ⟨fun j n hj => ⟨R.may n (List.mem_of_getElem? hj), fun hj0 hk => by have := (R.root j n hj).1 hk; omega, R.holds n (List.mem_of_getElem? hj), fun k hk => ⟨(R.rng n (List.mem_of_getElem? hj) k hk).1, (R.rng n (List.mem_of_getElem? hj) k hk).2, R.back j n hj k hk⟩⟩, R.nodup⟩, fun j n hj => ?_, R.ends⟩
  rw [Bool.eq_iff_iff]
  simp only [decide_eq_true_eq, bne_iff_ne, ne_eq]
  constructor
  ·intro hk
   obtain ⟨i, m, hi, hk⟩ := (hmem _).1 hk
   have := R.back i m hi _ hk
   rw [b6 hj] at this
   omega
  ·exact R.laid j n hj
 ·rintro ⟨⟨h1, h2⟩, ⟨h4, h5⟩, h6, h7⟩
  refine ⟨h3, by have := (List.getElem?_eq_some_iff.1 hn0).1; omega, fun n hn => ?_, fun i n hi => ⟨fun hk => ?_, fun hi0 => ?_⟩, by rw [show (0 : Int) = ((0 : Nat) : Int) from rfl, b6 hn0]; exact h2, fun n hn => ?_, fun n hn k hk => ?_, h5, fun i n hi k hk => ((h4 i n hi).2.2.2 k hk).2.2, fun i n hi hp => ?_, h7⟩
  ·obtain ⟨i, hi⟩ := List.getElem?_of_mem hn; exact (h4 i n hi).1
  ·rcases Nat.eq_zero_or_pos i with h | h
   ·exact h
   ·exact absurd hk ((h4 i n hi).2.1 h)
  ·subst hi0; rw [hn0] at hi; cases hi; exact h1
  ·obtain ⟨i, hi⟩ := List.getElem?_of_mem hn; exact (h4 i n hi).2.2.1
  ·obtain ⟨i, hi⟩ := List.getElem?_of_mem hn
   have := (h4 i n hi).2.2.2 k hk
   exact ⟨this.1, this.2.1⟩
  ·have := h6 i n hi
   rw [show (qx n != -1) = true by simpa using hp] at this
   simpa using this
theorem zzk (d : List Nd) (h : Sm d) : kc (Ev.upto 5000) ((d, ()), ()) = some ((chk d, ()), ()) := by
 unfold kc
 simp only [show (300 : Int) = ((300 : Nat) : Int) from rfl, zsh]
 unfold chk
 by_cases h3 : d.length > 300
 ·rw [if_pos h3]; simp [h3]
 rw [if_neg h3]
 simp only [decide_eq_false h3, cond_false]
 cases hd : d[0]? with
 | none =>
  have hd0 : d = [] := by
   cases d with
   | nil => rfl
   | cons a d => simp at hd
  subst hd0
  rw [if_neg (fun R => by have := R.pos; simp at this)]
  rfl
 | some n0 =>
  have hpos : 0 < d.length := (List.getElem?_eq_some_iff.1 hd).1
  have hl0 : ((d.length : Int) == 0) = false := by rw [beq_eq_false_iff_ne]; omega
  have hi0 : idx d 0 = some n0 := by unfold idx; simpa using hd
  simp only [hl0, beq_self_eq_true, cond_true, hi0, Option.bind_some]
  by_cases hr1 : n0.1 = 1
  case neg =>
   rw [if_neg (fun R => hr1 ((R.root 0 n0 hd).2 rfl))]
   have : (n0.1 != 1) = true := by simpa using hr1
   simp [this]
  have e1 : (n0.1 != 1) = false := by simpa using hr1
  simp only [e1, beq_self_eq_true, cond_true, Option.bind_some]
  by_cases hr2 : qx n0 = -1
  case neg =>
   rw [if_neg (fun R => hr2 (by have := R.par0; rw [show (0 : Int) = ((0 : Nat) : Int) from rfl, b6 hd] at this; exact this))]
   have : (n0.2.2.2.2.1 != -1) = true := by simpa using hr2
   simp [this]
  have e2 : (n0.2.2.2.2.1 != -1) = false := by simpa using hr2
  simp only [e2, cond_false]
  simp only [Int.toNat_natCast, zsi (show d.length ≤ 10000 by omega) (show 1 ≤ 1000 by omega), show decide ((0 : Int) ≤ (d.length : Int)) = true from decide_eq_true (by omega), beq_self_eq_true, Bool.and_self, cond_true]
  have hRI := zwx d (by omega) n0 hd
  simp only [hr1, hr2, and_self, true_and] at hRI

  refine zu (l := d) (σ := List Int) (fun i K => (((d, ((d.length : Int), ((i : Int), ())))), ((d, ()), (lay d.length K, ())))) (fun i n K => if zh8 d i n K then .inl (K ++ zf n) else .inr (.inr ((171, ()), ()))) (fun K => .inl ((), ((d, ()), (lay d.length K, ())))) (fun _ _ => True) [] (by rw [z1j]; rfl) trivial (by omega) (fun i K hi _ => ⟨?_, fun _ _ => trivial⟩) (fun K _ => ?_) ?_
  ·have hm := h.2 _ (List.getElem_mem hi)
   have hm2 : (zf d[i]).length ≤ 4000 := hm.2
   simp only [yz, decide_eq_true hi, cond_true, zk hi, Option.bind_some, z4q _ hm.1, zzj d[i], z2e, z5m]
   have flag : ∀ (X : ((Int × (List Nd) × Int × Int × Bool × Unit) × ((List Nd × Unit) × (List Bool) × (Nd × Unit) × Unit)) → Option (((List Nd × Int × Int × Unit) × ((List Nd × Unit) × (List Bool) × Unit)) ⊕ ((Unit × ((List Nd × Unit) × (List Bool) × Unit)) ⊕ ((Int × Unit) × Unit)))),
     (((bif (!mayB d[i]) == false then bif decide (i > 0) == true then bif (d[i].1 == 1) == false then bif (!(zf d[i] == [])) == true then some (((i : Int), (d, ((d.length : Int), ((i : Int), ((!wm d[i]), ()))))), ((d, ()), (lay d.length K, ((d[i], ()), ())))) else some (((i : Int), (d, ((d.length : Int), ((i : Int), (false, ()))))), ((d, ()), (lay d.length K, ((d[i], ()), ())))) else some (((i : Int), (d, ((d.length : Int), ((i : Int), (true, ()))))), ((d, ()), (lay d.length K, ((d[i], ()), ())))) else bif (!(zf d[i] == [])) == true then some (((i : Int), (d, ((d.length : Int), ((i : Int), ((!wm d[i]), ()))))), ((d, ()), (lay d.length K, ((d[i], ()), ())))) else some (((i : Int), (d, ((d.length : Int), ((i : Int), (false, ()))))), ((d, ()), (lay d.length K, ((d[i], ()), ())))) else some (((i : Int), (d, ((d.length : Int), ((i : Int), (true, ()))))), ((d, ()), (lay d.length K, ((d[i], ()), ()))))) : Option _).bind X)
     = X (((i : Int), (d, ((d.length : Int), ((i : Int), (!(mayB d[i] && !(decide (i > 0) && d[i].1 == 1) && (zf d[i] == [] || wm d[i])), ()))))), ((d, ()), (lay d.length K, ((d[i], ()), ())))) := by
    intro X
    cases mayB d[i] <;> cases decide (i > 0) <;> cases (d[i].1 == 1) <;> cases (zf d[i] == []) <;> cases wm d[i] <;> rfl
   refine (flag _).trans ?_
   unfold zh8
   cases hfl : (mayB d[i] && !(decide (i > 0) && d[i].1 == 1) && (zf d[i] == [] || wm d[i])) with
   | false => simp
   | true =>
    simp only [Bool.not_true, cond_false, Bool.true_and]
    refine zu (l := zf d[i]) (σ := List Int) (fun j K => (((i : Int), (d, ((d.length : Int), ((i : Int), (zf d[i], (((zf d[i]).length : Int), ((j : Int), ()))))))), ((d, ()), (lay d.length K, ())))) (fun _ k K => if (decide (1 ≤ k) && decide (k < (d.length : Int)) && !decide (k ∈ K) && (pr d k == (i : Int))) then .inl (K ++ [k]) else .inr (.inr ((171, ()), ()))) (fun K => .inl ((d, ((d.length : Int), ((i : Int), ()))), ((d, ()), (lay d.length K, ())))) (fun _ _ => True) K rfl trivial (by omega) (fun j K hj _ => ⟨?_, fun _ _ => trivial⟩) (fun K _ => ?_) ?_
    ·simp only [yz, decide_eq_true hj, cond_true, zk hj, Option.bind_some, z2d, z2c, zdu]
     generalize (zf d[i])[j] = k
     by_cases k1 : 1 ≤ k
     case neg => simp [k1]
     by_cases k2 : k < (d.length : Int)
     case neg => simp [k1, k2]
     obtain ⟨a, rfl⟩ := Int.eq_ofNat_of_zero_le (show 0 ≤ k by omega)
     have ha : a < d.length := by omega
     have hnd : d[a]? = some d[a] := List.getElem?_eq_getElem ha
     simp only [decide_eq_true k1, decide_eq_true k2, show decide (0 ≤ (a : Int)) = true from decide_eq_true (by omega), Bool.not_true, beq_self_eq_true, Bool.and_self, cond_true, Int.toNat_natCast, zdv ha, Option.bind_some, zk ha, Bool.true_and]
     by_cases k3 : (a : Int) ∈ K
     ·simp [k3]
     ·rw [b6 hnd]
      simp only [decide_eq_false k3, beq_self_eq_true, cond_true, Option.bind_some, Bool.not_false, Bool.true_and]
      by_cases k4 : qx d[a] = (i : Int)
      ·have b1 : (d[a].2.2.2.2.1 != (i : Int)) = false := by simpa using k4
       have b2 : (qx d[a] == (i : Int)) = true := by simpa using k4
       simp only [b1, b2, cond_false, if_true, zdu, decide_eq_true k2, show decide (0 ≤ (a : Int)) = true from decide_eq_true (by omega), Bool.and_self, cond_true, Int.toNat_natCast, zdv ha, Option.bind_some, z1k ha, x5 (show j < 1000000 by omega)]
      ·have b1 : (d[a].2.2.2.2.1 != (i : Int)) = true := by simpa using k4
       have b2 : (qx d[a] == (i : Int)) = false := by simpa using k4
       simp only [b1, b2, cond_true, Bool.false_eq_true, if_false]
    ·simp only [yz, Nat.lt_irrefl, decide_false, cond_false]
    ·rw [zsl]
     cases zca d (i : Int) K (zf d[i])
     ·rfl
     ·simp only [if_true, x5 (show i < 1000000 by omega)]
  ·simp only [yz, Nat.lt_irrefl, decide_false, cond_false]
  ·rw [zo6]
   cases hok : zh9 d 0 [] d with
   | false =>
    rw [if_neg (show ¬ zge d from fun R => by have := (hRI.1 R).1; rw [hok] at this; cases this)]
    rfl
   | true =>
    simp only [if_true, List.nil_append]

    have hK := ((zex d d 0 [] (by simp)).1 hok)
    show Option.bind _ _ = _
    refine zu (l := d) (σ := Unit) (fun i _ => (((d, ((d.length : Int), ((i : Int), ())))), ((d, ()), (lay d.length (y9 d), ())))) (fun i n _ => if !(decide ((i : Int) ∈ y9 d) == (qx n != -1)) then .inr (.inr ((171, ()), ())) else .inl ()) (fun _ => .inl ((), ((d, ()), ()))) (fun _ _ => True) () rfl trivial (by omega) (fun i s hi _ => ⟨?_, fun _ _ => trivial⟩) (fun s _ => ?_) ?_
    ·simp only [yz, decide_eq_true hi, cond_true, zk hi, Option.bind_some, zdu, show decide (0 ≤ (i : Int)) = true from decide_eq_true (by omega), Bool.and_self, Int.toNat_natCast, zdv hi]
     cases hx : (decide ((i : Int) ∈ y9 d) == (qx d[i] != -1))
     ·simp
     ·simp only [Bool.not_true, cond_false, Bool.false_eq_true, if_false, x5 (show i < 1000000 by omega)]
    ·simp only [yz, Nat.lt_irrefl, decide_false, cond_false]
    ·rcases gu (fun (i : Nat) (n : Nd) => !(decide ((i : Int) ∈ y9 d) == (qx n != -1))) ((.inr ((171, ()), ())) : (Unit × ((List Nd × Unit) × Unit)) ⊕ ((Int × Unit) × Unit)) (.inl ((), ((d, ()), ()))) d 0 with ⟨⟨j, n, hj, hp⟩, hf⟩ | ⟨hall, hf⟩
     ·rw [hf]
      rw [if_neg (fun R => by
       have := (hRI.1 R).2.1 j n hj
       simp [this] at hp)]
     ·rw [hf]
      have hl : ∀ (j : Nat) (n : Nd), d[j]? = some n → decide ((j : Int) ∈ y9 d) = (qx n != -1) := fun j n hj => by
       have := hall j n hj
       simpa using this
      have cl : ∀ x : Int, 0 ≤ x → x < d.length → pr d x = -1 ∨ (0 ≤ pr d x ∧ pr d x < d.length) := by
       intro x hx0 hx1
       obtain ⟨a, rfl⟩ := Int.eq_ofNat_of_zero_le hx0
       have ha : a < d.length := by omega
       have hnd : d[a]? = some d[a] := List.getElem?_eq_getElem ha
       by_cases hp : pr d (a : Int) = -1
       ·exact .inl hp
       ·have h9 := hl a _ hnd
        rw [b6 hnd] at hp
        rw [show (qx d[a] != -1) = true by simpa using hp] at h9
        have h10 : (a : Int) ∈ y9 d := by simpa using h9
        obtain ⟨m, hm1, hm2⟩ := List.mem_flatMap.1 h10
        obtain ⟨i, hi⟩ := List.getElem?_of_mem hm1
        have h11 := ((hK.1 i m hi).2.2.2 _ hm2).2.2
        have := (List.getElem?_eq_some_iff.1 hi).1
        rw [h11]
        right
        omega

      show Option.bind _ _ = _
      have zsj : ∀ (i : Nat) (hi : i < d.length), (∃ m, m ≤ d.length ∧ up d m (qx d[i]) = -1) ∨ ¬ ∃ m, m ≤ d.length ∧ up d m (qx d[i]) = -1 := fun i hi => Classical.em _
      classical
      refine zu (l := d) (σ := Unit) (fun i _ => (((d, ((d.length : Int), ((i : Int), ())))), ((d, ()), ()))) (fun i n _ => if !decide (∃ m, m ≤ d.length ∧ up d m (qx n) = -1) then .inr (.inr ((171, ()), ())) else .inl ()) (fun _ => .inl ((), ())) (fun _ _ => True) () rfl trivial (by omega) (fun i s hi _ => ⟨?_, fun _ _ => trivial⟩) (fun s _ => ?_) ?_
      ·have hnd : d[i]? = some d[i] := List.getElem?_eq_getElem hi
       have hrng : qx d[i] = -1 ∨ (0 ≤ qx d[i] ∧ qx d[i] < d.length) := by have := cl i (by omega) (by omega); rwa [b6 hnd] at this
       simp only [yz, decide_eq_true hi, cond_true, zk hi, Option.bind_some]
       generalize hf0 : (fun (s30 : (Int × Int × List Nd × Int × Int × Unit) × ((List Nd × Unit) × Unit)) => (bif s30.1.2.1 != -1 then _ else _ : Option (((Int × Int × List Nd × Int × Int × Unit) × ((List Nd × Unit) × Unit)) ⊕ (((List Nd × Int × Int × Unit) × ((List Nd × Unit) × Unit)) ⊕ ((Int × Unit) × Unit))))) = f0
       have hw := z4r (f := f0) d (fun s x => (((s : Int), (x, (d, ((d.length : Int), ((i : Int), ()))))), ((d, ()), ()))) (.inl ((d, ((d.length : Int), ((i : Int), ()))), ((d, ()), ()))) (.inr ((171, ()), ())) cl (fun s => by rw [← hf0]; rfl) (fun s x hx0 hx1 hs1 hs2 => ?_) (fun s x hx0 hx1 hs1 => ?_) d.length 0 (qx d[i]) 5000 (by omega) (by omega) hrng
       ·rcases hw with ⟨he, hv⟩ | ⟨he, hv⟩
        ·rw [decide_eq_true he]
         show ((jd f0 5000 _).bind _) = _
         have hv' : jd f0 5000 (((0 : Int), (d[i].2.2.2.2.1, (d, ((d.length : Int), ((i : Int), ()))))), ((d, ()), ())) = _ := hv
         rw [hv']
         simp only [Option.bind_some, Bool.not_true, Bool.false_eq_true, if_false, x5 (show i < 1000000 by omega)]
        ·rw [decide_eq_false he]
         show ((jd f0 5000 _).bind _) = _
         have hv' : jd f0 5000 (((0 : Int), (d[i].2.2.2.2.1, (d, ((d.length : Int), ((i : Int), ()))))), ((d, ()), ())) = _ := hv
         rw [hv']
         rfl
       ·rw [← hf0]
        have b1 : (x != -1) = true := by simp; omega
        simp only [b1, cond_true, x5 (show s < 1000000 by omega), zsh, decide_eq_true hs1]
       ·rw [← hf0]
        have b1 : (x != -1) = true := by simp; omega
        obtain ⟨a, rfl⟩ := Int.eq_ofNat_of_zero_le hx0
        have ha : a < d.length := by omega
        simp only [b1, cond_true, x5 (show s < 1000000 by omega), zsh, decide_eq_false (show ¬ s + 1 > d.length by omega), cond_false, zk ha, Option.bind_some, b6 (List.getElem?_eq_getElem ha)]
      ·simp only [yz, Nat.lt_irrefl, decide_false, cond_false]
      ·rcases gu (fun (i : Nat) (n : Nd) => !decide (∃ m, m ≤ d.length ∧ up d m (qx n) = -1)) ((.inr ((171, ()), ())) : (Unit × Unit) ⊕ ((Int × Unit) × Unit)) (.inl ((), ())) d 0 with ⟨⟨j, n, hj, hp⟩, hf⟩ | ⟨hall2, hf⟩
       ·rw [hf]
        rw [if_neg (fun R => by
         have := (hRI.1 R).2.2 j n hj
         simp [this] at hp)]
       ·rw [hf]
        rw [if_pos (hRI.2 ⟨hok, hl, fun j n hj => by simpa using hall2 j n hj⟩)]
theorem z4s {α β : Type} (f : α → List β) : ∀ {l : List α}, (l.flatMap f).Nodup → ∀ {i j : Nat} {x y : α} {b : β}, l[i]? = some x → l[j]? = some y → b ∈ f x → b ∈ f y → i = j
 | [], _, i, j, x, y, b, hi, _, _, _ => by simp at hi
 | a :: l, h, i, j, x, y, b, hi, hj, hx, hy => by
  rw [List.flatMap_cons, List.nodup_append] at h
  obtain ⟨h1, h2, h3⟩ := h
  cases i with
  | zero =>
   cases j with
   | zero => rfl
   | succ j =>
    simp only [List.getElem?_cons_zero, Option.some.injEq] at hi
    subst hi
    exact absurd rfl (h3 b hx b (List.mem_flatMap.2 ⟨y, List.mem_of_getElem? (by simpa using hj), hy⟩))
  | succ i =>
   cases j with
   | zero =>
    simp only [List.getElem?_cons_zero, Option.some.injEq] at hj
    subst hj
    exact absurd rfl (h3 b hy b (List.mem_flatMap.2 ⟨x, List.mem_of_getElem? (by simpa using hi), hx⟩))
   | succ j => exact congrArg (· + 1) (z4s f h2 (by simpa using hi) (by simpa using hj) hx hy)
def zzl (d : List Nd) (n : Nd) : Bool := !((!(zf n == []) && !wm n) || decide ((zf n).length > d.length)) && (zf n).all fun k => decide (1 ≤ k) && decide (k < (d.length : Int))
theorem z6p (d : List Nd) (h : Sm d) (i : Nat) (hi : i < d.length) : bt (Ev.upto 5000) ((d, ((i : Int), ())), ()) = some ((zzl d d[i], ()), ()) := by
 unfold bt
 have hm2 : (zf d[i]).length ≤ 4000 := (h.2 _ (List.getElem_mem hi)).2
 have hgt : decide (((zf d[i]).length : Int) > 0) = !(zf d[i] == []) := (zsh (zf d[i]).length 0).trans (z5m _)
 have flag : ∀ (X : (List Int × Bool × Unit) × ((List Nd × Unit) × Unit) → Option ((Bool × Unit) × Unit)), (((bif (!(zf d[i] == [])) == true then (bif (!wm d[i]) == false then some ((zf d[i], (decide ((zf d[i]).length > d.length), ())), ((d, ()), ())) else some ((zf d[i], (true, ())), ((d, ()), ()))) else some ((zf d[i], (decide ((zf d[i]).length > d.length), ())), ((d, ()), ()))) : Option _).bind X)
   = X ((zf d[i], ((!(zf d[i] == []) && !wm d[i]) || decide ((zf d[i]).length > d.length), ())), ((d, ()), ())) := by
  intro X
  cases (zf d[i] == []) <;> cases wm d[i] <;> simp
 simp only [zk hi, Option.bind_some, z2b d[i], hgt, zsh]
 refine (flag _).trans ?_
 unfold zzl
 cases hfl : ((!(zf d[i] == []) && !wm d[i]) || decide ((zf d[i]).length > d.length)) with
 | true => simp
 | false =>
  simp only [cond_false, Bool.not_false, Bool.true_and]
  refine zu (l := zf d[i]) (σ := Unit) (fun j _ => ((zf d[i], ((j : Int), ())), ((d, ()), ()))) (fun _ k _ => if !(decide (1 ≤ k) && decide (k < (d.length : Int))) then .inr (.inr ((false, ()), ())) else .inl ()) (fun _ => .inl ((), ())) (fun _ _ => True) () rfl trivial (by omega) (fun j s hj _ => ⟨?_, fun _ _ => trivial⟩) (fun s _ => ?_) ?_
  ·simp only [yz, decide_eq_true hj, cond_true, zk hj, Option.bind_some, z2d, z2c]
   generalize (zf d[i])[j] = k
   by_cases k1 : 1 ≤ k
   case neg => simp [k1]
   by_cases k2 : k < (d.length : Int)
   case neg => simp [k1, k2]
   simp only [decide_eq_true k1, decide_eq_true k2, Bool.not_true, beq_self_eq_true, cond_true, Option.bind_some, cond_false, Bool.and_self, Bool.false_eq_true, if_false, x5 (show j < 1000000 by omega)]
  ·simp only [yz, Nat.lt_irrefl, decide_false, cond_false]
  ·rw [wl]
   have : ((zf d[i]).any fun k => !(decide (1 ≤ k) && decide (k < (d.length : Int)))) = !((zf d[i]).all fun k => decide (1 ≤ k) && decide (k < (d.length : Int))) := by rw [List.not_all_eq_any_not]
   rw [this]
   cases ((zf d[i]).all fun k => decide (1 ≤ k) && decide (k < (d.length : Int))) <;> rfl
theorem z8d {i : Nat} (h : i < 100000000) : IntKind.wrap .i64 ((i : Int) + 1) = ((i + 1 : Nat) : Int) := by
 rw [wj (by omega) (by omega)]; rfl
theorem zwy {ε σ β : Type} (nx : Nat → ε → σ → σ) (fin : σ → β) : ∀ (l : List ε) (i : Nat) (s : σ), yn (fun i x s => (.inl (nx i x s) : σ ⊕ β)) fin i l s = fin ((l.foldl (fun (p : Nat × σ) x => (p.1 + 1, nx p.1 x p.2)) (i, s)).2)
 | [], _, _ => rfl
 | x :: l, i, s => by
  unfold yn
  simp only
  rw [zwy nx fin l (i + 1) (nx i x s)]
  rfl
theorem z6q {ε σ : Type} (nx : ε → σ → σ) : ∀ (l : List ε) (i : Nat) (s : σ), (l.foldl (fun (p : Nat × σ) x => (p.1 + 1, nx x p.2)) (i, s)).2 = l.foldl (fun s x => nx x s) s
 | [], _, _ => rfl
 | x :: l, i, s => by rw [List.foldl_cons, List.foldl_cons]; exact z6q nx l (i + 1) (nx x s)
theorem z0p (x : Int) : ∀ (l : List Int) (c : Nat), l.foldl (fun (s : Nat) k => if k = x then s + 1 else s) c = c + l.count x
 | [], c => by simp
 | k :: l, c => by
  rw [List.foldl_cons, z0p x l]
  by_cases h : k = x
  ·subst h; simp [List.count_cons]; omega
  ·rw [if_neg h, List.count_cons, if_neg (by simpa using h)]
   rfl
theorem zyf (x : Int) : ∀ (l : List Nd) (c : Nat), l.foldl (fun (s : Nat) n => s + (zf n).count x) c = c + (l.flatMap zf).count x
 | [], c => by simp
 | n :: l, c => by
  rw [List.foldl_cons, zyf x l, List.flatMap_cons, List.count_append]
  omega
theorem z5n (d : List Nd) (h : Sm d) (hl : d.length ≤ 300) (x : Int) : wg (Ev.upto 5000) ((d, (x, ())), ()) = some (((((y9 d).count x : Nat) : Int), ()), ()) := by
 unfold wg
 refine zu (l := d) (σ := Nat) (fun i c => (((x, ((c : Int), ((i : Int), ())))), ((d, ()), ()))) (fun _ n c => .inl (c + (zf n).count x)) (fun c => (((c : Int), ()), ())) (fun i c => c ≤ i * 4000) 0 rfl (by simp) (by omega) (fun i c hi hc => ⟨?_, fun c' e => ?_⟩) (fun s _ => ?_) ?_
 ·have hm2 : (zf d[i]).length ≤ 4000 := (h.2 _ (List.getElem_mem hi)).2
  simp only [yz, decide_eq_true hi, cond_true]
  refine zu (l := zf d[i]) (σ := Nat) (fun j c => (((x, ((c : Int), ((i : Int), ((j : Int), ()))))), ((d, ()), ()))) (fun _ k c => .inl (if k = x then c + 1 else c)) (fun c => ((x, ((c : Int), ((i : Int), ()))), ((d, ()), ()))) (fun j c' => c' ≤ i * 4000 + j) c rfl (Nat.le_trans hc (Nat.le_add_right _ _)) (by omega) (fun j c hj hc => ⟨?_, fun c' e => ?_⟩) (fun s _ => ?_) ?_
  ·simp only [zk hi, Option.bind_some, yz, decide_eq_true hj, cond_true, zk hj]
   have hil : i ≤ 300 := by omega
   have hjl : j ≤ 4000 := by omega
   by_cases hk : (zf d[i])[j] = x
   ·have hb : ((zf d[i])[j] == x) = true := by simpa using hk
    simp only [hb, cond_true, Option.bind_some, if_pos hk, z8d (show c < 100000000 by omega), x5 (show j < 1000000 by omega)]
   ·have hb : ((zf d[i])[j] == x) = false := by simpa using hk
    simp only [hb, cond_false, Option.bind_some, if_neg hk, x5 (show j < 1000000 by omega)]
  ·simp only [Sum.inl.injEq] at e
   subst e
   split <;> omega
  ·simp only [zk hi, Option.bind_some, yz, Nat.lt_irrefl, decide_false, cond_false]
  ·rw [zwy (fun _ k c => if k = x then c + 1 else c), z6q (fun k c => if k = x then c + 1 else c), z0p]
   simp only [x5 (show i < 1000000 by omega)]
 ·simp only [Sum.inl.injEq] at e
  subst e
  have h2 : (zf d[i]).count x ≤ (zf d[i]).length := List.count_le_length
  have hm2 : (zf d[i]).length ≤ 4000 := (h.2 _ (List.getElem_mem hi)).2
  omega
 ·simp only [yz, Nat.lt_irrefl, decide_false, cond_false]
 ·rw [zwy (fun _ n c => c + (zf n).count x), z6q (fun n c => c + (zf n).count x), zyf]
  simp [y9]
theorem z7l (d : List Nd) (h : Sm d) (p : Nat) (hp : p < d.length) (x : Int) : za2 (Ev.upto 5000) ((d, ((p : Int), (x, ()))), ()) = some ((decide (x ∈ zf d[p]), ()), ()) := by
 unfold za2
 have hm2 : (zf d[p]).length ≤ 4000 := (h.2 _ (List.getElem_mem hp)).2
 refine zu (l := zf d[p]) (σ := Unit) (fun j _ => ((((p : Int), (x, ((j : Int), ())))), ((d, ()), ()))) (fun _ k _ => if k == x then .inr (.inr ((true, ()), ())) else .inl ()) (fun _ => .inl ((), ())) (fun _ _ => True) () rfl trivial (by omega) (fun j s hj _ => ⟨?_, fun _ _ => trivial⟩) (fun s _ => ?_) ?_
 ·simp only [zk hp, Option.bind_some, yz, decide_eq_true hj, cond_true, zk hj]
  cases ((zf d[p])[j] == x)
  ·simp only [cond_false, Bool.false_eq_true, if_false, x5 (show j < 1000000 by omega)]
  ·simp
 ·simp only [zk hp, Option.bind_some, yz, Nat.lt_irrefl, decide_false, cond_false]
 ·rw [wl]
  have : ((zf d[p]).any fun k => k == x) = decide (x ∈ zf d[p]) := by
   rw [Bool.eq_iff_iff, List.any_eq_true, decide_eq_true_eq]
   constructor
   ·rintro ⟨k, h1, h2⟩; rw [← (by simpa using h2 : k = x)]; exact h1
   ·exact fun h => ⟨x, h, by simp⟩
  rw [this]
  by_cases hx : x ∈ zf d[p] <;> simp [hx]
def zj5 (d : List Nd) (i : Nat) : Bool :=
 if pr d i = -1 then (y9 d).count (i : Int) == 0
 else decide (0 < i) && decide (0 ≤ pr d i) && decide (pr d i < (d.length : Int)) && (match idx d (pr d i) with | some m => wm m && decide ((i : Int) ∈ zf m) | none => false) && ((y9 d).count (i : Int) == 1)
theorem z4t (d : List Nd) (h : Sm d) (hl : d.length ≤ 300) (i : Nat) (hi : i < d.length) : vq (Ev.upto 5000) ((d, ((i : Int), ())), ()) = some ((zj5 d i, ()), ()) := by
 unfold vq zj5
 have hpr : pr d (i : Int) = qx d[i] := b6 (List.getElem?_eq_getElem hi)
 simp only [zk hi, Option.bind_some, z5n d h hl, hpr]
 by_cases h1 : qx d[i] = -1
 ·have b1 : (d[i].2.2.2.2.1 == -1) = true := by simpa using h1
  simp only [b1, cond_true, if_pos h1]
  have : ∀ c : Nat, ((c : Int) == 0) = (c == 0) := fun c => by rw [Bool.eq_iff_iff]; simp
  simp only [this]
 ·have b1 : (d[i].2.2.2.2.1 == -1) = false := by simpa using h1
  simp only [b1, cond_false, if_neg h1, z2e]
  by_cases h2 : i > 0
  case neg => simp [h2]
  by_cases h3 : 0 ≤ qx d[i]
  case neg =>
   have : ¬ d[i].2.2.2.2.1 ≥ 0 := h3
   simp [h2, h3, this]
  by_cases h4 : qx d[i] < (d.length : Int)
  case neg =>
   have : d[i].2.2.2.2.1 ≥ 0 := h3
   have h4' : ¬ d[i].2.2.2.2.1 < (d.length : Int) := h4
   simp [h2, h3, this, h4, h4']
  have e3 : decide (d[i].2.2.2.2.1 ≥ 0) = true := decide_eq_true h3
  have e4 : decide (d[i].2.2.2.2.1 < (d.length : Int)) = true := decide_eq_true h4
  obtain ⟨p, hp⟩ := Int.eq_ofNat_of_zero_le h3
  have hpl : p < d.length := by omega
  have hp' : d[i].2.2.2.2.1 = (p : Int) := hp
  simp only [decide_eq_true h2, beq_self_eq_true, cond_true, e3, e4, hp', hp, zk hpl, Option.bind_some, z2b d[p], z7l d h p hpl, show decide (0 ≤ (p : Int)) = true from decide_eq_true (by omega), show decide ((p : Int) < (d.length : Int)) = true from decide_eq_true (by omega), show decide (0 < i) = true from decide_eq_true h2, Bool.true_and]
  have : ∀ c : Nat, ((c : Int) == 1) = (c == 1) := fun c => by rw [Bool.eq_iff_iff]; simp; omega
  simp only [this]
  cases wm d[p] <;> by_cases hx : (i : Int) ∈ zf d[p] <;> simp [hx]
theorem ztu {l : List Int} : l.Nodup ↔ ∀ a, l.count a ≤ 1 := by
 induction l with
 | nil => simp
 | cons x l ih =>
  rw [List.nodup_cons, ih]
  constructor
  ·rintro ⟨h1, h2⟩ a
   rw [List.count_cons]
   split
   ·rename_i h
    have e : x = a := by simpa using h
    subst e
    rw [List.count_eq_zero.2 h1]
    omega
   ·have := h2 a; omega
  ·intro h
   refine ⟨fun hx => ?_, fun a => ?_⟩
   ·have := h x
    rw [List.count_cons, if_pos (by simp)] at this
    have := List.count_pos_iff.2 hx
    omega
   ·have := h a
    rw [List.count_cons] at this
    omega
theorem z2f : ∀ (n : Nat) (l : List Int), l.Nodup → (∀ k, k ∈ l → 0 ≤ k ∧ k < n) → l.length ≤ n
 | 0, l, _, h => by
  cases l with
  | nil => simp
  | cons a l => have := h a (by simp); omega
 | n + 1, l, hn, h => by
  have h1 := z2f n (l.filter fun k => k != (n : Int)) (hn.filter _) (fun k hk => by
   obtain ⟨a, b⟩ := List.mem_filter.1 hk
   have := h k a
   have : k ≠ (n : Int) := by simpa using b
   omega)
  have h2 := List.length_eq_countP_add_countP (fun k => k != (n : Int)) (l := l)
  rw [List.countP_eq_length_filter] at h2
  have h3 : l.countP (fun k => decide ¬((k != (n : Int)) = true)) = l.count (n : Int) := by
   unfold List.count
   congr 1
   funext k
   by_cases hk : k = (n : Int) <;> simp [hk]
  rw [h3] at h2
  have := ztu.1 hn (n : Int)
  omega
theorem z7m (i n : Nat) : decide ((i : Int) ≤ (n : Int)) = decide (i ≤ n) := by
 by_cases h : i ≤ n
 ·rw [decide_eq_true h, decide_eq_true (by omega)]
 ·rw [decide_eq_false h, decide_eq_false (by omega)]
theorem z6r (d : List Nd) (hl : d.length ≤ 300) (cl : ∀ x : Int, 0 ≤ x → x < d.length → pr d x = -1 ∨ (0 ≤ pr d x ∧ pr d x < d.length)) (i : Nat) (hi : i < d.length) :
  ∃ b, bu (Ev.upto 5000) ((d, ((i : Int), ())), ()) = some ((b, ()), ()) ∧ (b = true ↔ ∃ m, m ≤ d.length ∧ up d m (pr d i) = -1) := by
 have key : ∀ {f : ((Int × Int × Unit) × ((List Nd × Unit) × Unit)) → Option (((Int × Int × Unit) × ((List Nd × Unit) × Unit)) ⊕ ((Unit × Unit) ⊕ ((Bool × Unit) × Unit)))},
   (∀ (s : Nat) (x : Nat), x < d.length → s ≤ d.length → f ((((x : Int), ((s : Int), ())), ((d, ()), ()))) = if pr d x = -1 then some (.inr (.inr ((true, ()), ()))) else some (.inl (((pr d x, (((s + 1 : Nat) : Int), ())), ((d, ()), ()))))) →
   (∀ (s : Nat) (x : Int), s > d.length → f (((x, ((s : Int), ())), ((d, ()), ()))) = some (.inr (.inl ((), ())))) →
   ∀ (m s : Nat) (x : Nat) (N : Nat), s + m = d.length → m + 1 < N → x < d.length →
    ((∃ j, j ≤ m ∧ up d j (pr d x) = -1) ∧ jd f N ((((x : Int), ((s : Int), ())), ((d, ()), ()))) = some (.inr ((true, ()), ()))) ∨ ((¬ ∃ j, j ≤ m ∧ up d j (pr d x) = -1) ∧ jd f N ((((x : Int), ((s : Int), ())), ((d, ()), ()))) = some (.inl ((), ()))) := by
  intro f h1 h2 m
  induction m with
  | zero =>
   intro s x N hs hN hx
   obtain ⟨N, rfl⟩ : ∃ M, N = M + 2 := ⟨N - 2, by omega⟩
   unfold jd
   rw [h1 s x hx (by omega)]
   by_cases hp : pr d x = -1
   ·rw [if_pos hp]; exact .inl ⟨⟨0, Nat.le_refl _, hp⟩, rfl⟩
   ·rw [if_neg hp]
    refine .inr ⟨?_, ?_⟩
    ·rintro ⟨j, hj, hu⟩
     obtain rfl : j = 0 := by omega
     exact hp hu
    ·simp only [Option.bind_some]
     unfold jd
     rw [h2 (s + 1) _ (by omega)]
     rfl
  | succ m ih =>
   intro s x N hs hN hx
   obtain ⟨N, rfl⟩ : ∃ M, N = M + 1 := ⟨N - 1, by omega⟩
   unfold jd
   rw [h1 s x hx (by omega)]
   by_cases hp : pr d x = -1
   ·rw [if_pos hp]; exact .inl ⟨⟨0, Nat.zero_le _, hp⟩, rfl⟩
   ·rw [if_neg hp]
    simp only [Option.bind_some]
    obtain ⟨hp0, hp1⟩ := (cl x (by omega) (by omega)).resolve_left hp
    obtain ⟨y, hy⟩ := Int.eq_ofNat_of_zero_le hp0
    rw [hy]
    rcases ih (s + 1) y N (by omega) (by omega) (by omega) with ⟨⟨j, h3, h4⟩, h5⟩ | ⟨h3, h5⟩
    ·exact .inl ⟨⟨j + 1, by omega, h4⟩, h5⟩
    ·refine .inr ⟨?_, h5⟩
     rintro ⟨j, hj, hu⟩
     cases j with
     | zero =>
      have hu : pr d x = -1 := by rw [hy]; exact hu
      exact hp hu
     | succ j => exact h3 ⟨j, by omega, hu⟩
 unfold bu
 generalize hf0 : (fun (s1 : (Int × Int × Unit) × ((List Nd × Unit) × Unit)) => (bif decide (s1.1.2.1 ≤ ((s1.2.1.1).length : Int)) then _ else _ : Option (((Int × Int × Unit) × ((List Nd × Unit) × Unit)) ⊕ ((Unit × Unit) ⊕ ((Bool × Unit) × Unit))))) = f0
 have h1 : ∀ (s : Nat) (x : Nat), x < d.length → s ≤ d.length → f0 ((((x : Int), ((s : Int), ())), ((d, ()), ()))) = if pr d x = -1 then some (.inr (.inr ((true, ()), ()))) else some (.inl (((pr d x, (((s + 1 : Nat) : Int), ())), ((d, ()), ())))) := by
  intro s x hx hs
  rw [← hf0, b6 (List.getElem?_eq_getElem hx)]
  simp only [z7m, decide_eq_true hs, cond_true, zk hx, Option.bind_some, x5 (show s < 1000000 by omega)]
  by_cases hp : qx d[x] = -1
  ·have b1 : (d[x].2.2.2.2.1 == -1) = true := by simpa using hp
   simp only [b1, cond_true, if_pos hp]
  ·have b1 : (d[x].2.2.2.2.1 == -1) = false := by simpa using hp
   simp only [b1, cond_false, if_neg hp]
 have h2 : ∀ (s : Nat) (x : Int), s > d.length → f0 (((x, ((s : Int), ())), ((d, ()), ()))) = some (.inr (.inl ((), ()))) := by
  intro s x hs
  rw [← hf0]
  simp only [z7m, decide_eq_false (show ¬ s ≤ d.length by omega), cond_false]
 rcases key h1 h2 d.length 0 i 5000 (by omega) (by omega) hi with ⟨h3, h4⟩ | ⟨h3, h4⟩
 ·refine ⟨true, ?_, by simp only [true_iff]; exact h3⟩
  show ((jd f0 5000 _).bind _) = _
  have h4' : jd f0 5000 ((((i : Int), ((0 : Int), ())), ((d, ()), ()))) = _ := h4
  rw [h4']
  rfl
 ·refine ⟨false, ?_, by simp only [Bool.false_eq_true, false_iff]; exact h3⟩
  show ((jd f0 5000 _).bind _) = _
  have h4' : jd f0 5000 ((((i : Int), ((0 : Int), ())), ((d, ()), ()))) = _ := h4
  rw [h4']
  rfl
theorem z4u (d : List Nd) (h3 : d.length ≤ 300) (n0 : Nd) (hn0 : d[0]? = some n0) : zge d ↔ qx n0 = -1 ∧ (∀ (j : Nat) (n : Nd), d[j]? = some n → mayB n = true ∧ (n.1 == 1) = ((j : Int) == 0) ∧ zzl d n = true) ∧ (∀ (j : Nat), j < d.length → zj5 d j = true) ∧ (∀ (j : Nat) (n : Nd), d[j]? = some n → ∃ m, m ≤ d.length ∧ up d m (qx n) = -1) := by
 have hpr : ∀ (j : Nat) (n : Nd), d[j]? = some n → pr d j = qx n := fun j n hj => b6 hj
 have hmem : ∀ k : Int, k ∈ y9 d ↔ ∃ (i : Nat) (n : Nd), d[i]? = some n ∧ k ∈ zf n := by
  intro k
  unfold y9
  rw [List.mem_flatMap]
  constructor
  ·rintro ⟨n, hn, hk⟩
   obtain ⟨i, hi⟩ := List.getElem?_of_mem hn
   exact ⟨i, n, hi, hk⟩
  ·rintro ⟨i, n, hi, hk⟩
   exact ⟨n, List.mem_of_getElem? hi, hk⟩
 have hkb : ∀ n, zzl d n = true ↔ (zf n ≠ [] → wm n = true) ∧ (zf n).length ≤ d.length ∧ ∀ k, k ∈ zf n → 1 ≤ k ∧ k < d.length := by
  intro n
  unfold zzl
  simp only [Bool.and_eq_true, Bool.not_eq_true', Bool.or_eq_false_iff, decide_eq_false_iff_not, List.all_eq_true, decide_eq_true_eq]
  have : ((!(zf n == []) && !wm n) = false) ↔ (zf n ≠ [] → wm n = true) := by
   cases hh : zf n with
   | nil => simp
   | cons a l => cases wm n <;> simp
  rw [this]
  constructor
  ·rintro ⟨⟨a, b⟩, c⟩; exact ⟨a, by omega, c⟩
  ·rintro ⟨a, b, c⟩; exact ⟨⟨a, by omega⟩, c⟩
 constructor
 ·intro R
  have klen : ∀ n, n ∈ d → (zf n).length ≤ d.length := by
   intro n hn
   have hnd : (zf n).Nodup := List.Nodup.sublist (by
    obtain ⟨l1, l2, rfl⟩ := List.append_of_mem hn
    simp only [y9, List.flatMap_append, List.flatMap_cons]
    exact (List.sublist_append_left _ _).trans (List.sublist_append_right _ _)) R.nodup
   exact z2f _ _ hnd fun k hk => by have := R.rng n hn k hk; omega
  refine ⟨?_, fun j n hj => ⟨R.may n (List.mem_of_getElem? hj), ?_, (hkb n).2 ⟨R.holds n (List.mem_of_getElem? hj), klen n (List.mem_of_getElem? hj), R.rng n (List.mem_of_getElem? hj)⟩⟩, fun j hj => ?_, R.ends⟩
  ·have := R.par0; rw [show (0 : Int) = ((0 : Nat) : Int) from rfl, b6 hn0] at this; exact this
  ·rw [Bool.eq_iff_iff, beq_iff_eq, beq_iff_eq, R.root j n hj]; omega
  ·have hnd : d[j]? = some d[j] := List.getElem?_eq_getElem hj
   have hc : (y9 d).count (j : Int) ≤ 1 := ztu.1 R.nodup _
   unfold zj5
   rw [hpr j _ hnd]
   by_cases hp : qx d[j] = -1
   ·rw [if_pos hp, beq_iff_eq, List.count_eq_zero]
    intro hk
    obtain ⟨i, n, hi, hk⟩ := (hmem _).1 hk
    have := R.back i n hi _ hk
    rw [hpr j _ hnd] at this
    omega
   ·rw [if_neg hp]
    have hk := R.laid j _ hnd hp
    obtain ⟨i, n, hi, hk2⟩ := (hmem _).1 hk
    have hb := R.back i n hi _ hk2
    rw [hpr j _ hnd] at hb
    have hil := (List.getElem?_eq_some_iff.1 hi).1
    have hr := R.rng n (List.mem_of_getElem? hi) _ hk2
    have hidx : idx d (i : Int) = some n := by unfold idx; rw [if_pos (by omega), Int.toNat_natCast]; exact hi
    have hcp : 0 < (y9 d).count (j : Int) := List.count_pos_iff.2 hk
    rw [hb, hidx]
    simp only [Bool.and_eq_true, decide_eq_true_eq, beq_iff_eq]
    exact ⟨⟨⟨⟨by omega, by omega⟩, by omega⟩, R.holds n (List.mem_of_getElem? hi) (List.ne_nil_of_mem hk2), hk2⟩, by omega⟩
 ·rintro ⟨h1, h2, h4, h5⟩
  have kr : ∀ k, k ∈ y9 d → ∃ a : Nat, k = (a : Int) ∧ a < d.length := by
   intro k hk
   obtain ⟨i, n, hi, hk⟩ := (hmem k).1 hk
   obtain ⟨a, b⟩ := ((hkb n).1 (h2 i n hi).2.2).2.2 k hk
   exact ⟨k.toNat, by omega, by omega⟩
  have cnt : ∀ (a : Nat) (ha : a < d.length), (y9 d).count (a : Int) ≤ 1 ∧ ((a : Int) ∈ y9 d → qx d[a] ≠ -1) ∧ (qx d[a] ≠ -1 → ∃ (p : Nat) (m : Nd), qx d[a] = (p : Int) ∧ d[p]? = some m ∧ (a : Int) ∈ zf m) := by
   intro a ha
   have hnd : d[a]? = some d[a] := List.getElem?_eq_getElem ha
   have := h4 a ha
   unfold zj5 at this
   rw [hpr a _ hnd] at this
   by_cases hp : qx d[a] = -1
   ·rw [if_pos hp, beq_iff_eq] at this
    refine ⟨by omega, fun hk => ?_, fun h => absurd hp h⟩
    rw [List.count_eq_zero] at this
    exact absurd hk this
   ·rw [if_neg hp] at this
    simp only [Bool.and_eq_true, decide_eq_true_eq, beq_iff_eq] at this
    obtain ⟨⟨⟨⟨_, g1⟩, g2⟩, g3⟩, g4⟩ := this
    refine ⟨by omega, fun _ => hp, fun _ => ?_⟩
    obtain ⟨p, hp2⟩ := Int.eq_ofNat_of_zero_le g1
    rw [hp2] at g3 g2
    have hpl : p < d.length := by omega
    rw [zk hpl] at g3
    simp only [Bool.and_eq_true, decide_eq_true_eq] at g3
    exact ⟨p, d[p], hp2, List.getElem?_eq_getElem hpl, g3.2⟩
  have hnodup : (y9 d).Nodup := by
   rw [ztu]
   intro k
   by_cases hk : k ∈ y9 d
   ·obtain ⟨a, rfl, ha⟩ := kr k hk
    exact (cnt a ha).1
   ·rw [List.count_eq_zero.2 hk]; omega
  refine ⟨h3, by have := (List.getElem?_eq_some_iff.1 hn0).1; omega, fun n hn => ?_, fun i n hi => ?_, by rw [show (0 : Int) = ((0 : Nat) : Int) from rfl, b6 hn0]; exact h1, fun n hn => ?_, fun n hn k hk => ?_, hnodup, fun i n hi k hk => ?_, fun i n hi hp => ?_, h5⟩
  ·obtain ⟨i, hi⟩ := List.getElem?_of_mem hn; exact (h2 i n hi).1
  ·have := (h2 i n hi).2.1
   rw [Bool.eq_iff_iff, beq_iff_eq, beq_iff_eq] at this
   omega
  ·obtain ⟨i, hi⟩ := List.getElem?_of_mem hn; exact ((hkb n).1 (h2 i n hi).2.2).1
  ·obtain ⟨i, hi⟩ := List.getElem?_of_mem hn
   exact ((hkb n).1 (h2 i n hi).2.2).2.2 k hk
  ·have hka : k ∈ y9 d := (hmem k).2 ⟨i, n, hi, hk⟩
   obtain ⟨a, rfl, ha⟩ := kr k hka
   obtain ⟨p, m, g1, g2, g3⟩ := (cnt a ha).2.2 ((cnt a ha).2.1 hka)
   rw [hpr a _ (List.getElem?_eq_getElem ha), g1]
   rw [z4s zf hnodup g2 hi g3 hk]
  ·have ha := (List.getElem?_eq_some_iff.1 hi).1
   have he : d[i] = n := (List.getElem?_eq_some_iff.1 hi).2
   obtain ⟨p, m, g1, g2, g3⟩ := (cnt i ha).2.2 (by rw [he]; exact hp)
   exact (hmem _).2 ⟨p, m, g2, g3⟩
theorem z5o (d : List Nd) (h : Sm d) : u6 (Ev.upto 5000) ((d, ()), ()) = some ((chk d, ()), ()) := by
 unfold u6
 simp only [show (300 : Int) = ((300 : Nat) : Int) from rfl, zsh]
 unfold chk
 by_cases h3 : d.length > 300
 ·rw [if_pos h3]; simp [h3]
 rw [if_neg h3]
 simp only [decide_eq_false h3, cond_false]
 cases hd : d[0]? with
 | none =>
  have hd0 : d = [] := by
   cases d with
   | nil => rfl
   | cons a d => simp at hd
  subst hd0
  rw [if_neg (fun R => by have := R.pos; simp at this)]
  rfl
 | some n0 =>
  have hpos : 0 < d.length := (List.getElem?_eq_some_iff.1 hd).1
  have hl0 : ((d.length : Int) == 0) = false := by rw [beq_eq_false_iff_ne]; omega
  have hi0 : idx d 0 = some n0 := by unfold idx; simpa using hd
  simp only [hl0, beq_self_eq_true, cond_true, hi0, Option.bind_some]
  have hRI := z4u d (by omega) n0 hd
  by_cases hr2 : qx n0 = -1
  case neg =>
   rw [if_neg (fun R => hr2 (hRI.1 R).1)]
   have : (n0.2.2.2.2.1 != -1) = true := by simpa using hr2
   simp [this]
  have e2 : (n0.2.2.2.2.1 != -1) = false := by simpa using hr2
  simp only [e2, cond_false]
  refine zu (l := d) (σ := Unit) (fun i _ => ((((i : Int), ()), ((d, ()), ())))) (fun i n _ => if !(mayB n && ((n.1 == 1) == ((i : Int) == 0)) && zzl d n) then .inr (.inr ((171, ()), ())) else .inl ()) (fun _ => .inl ((), ((d, ()), ()))) (fun _ _ => True) () rfl trivial (by omega) (fun i s hi _ => ⟨?_, fun _ _ => trivial⟩) (fun s _ => ?_) ?_
  ·have hm := h.2 _ (List.getElem_mem hi)
   simp only [yz, decide_eq_true hi, cond_true, zk hi, Option.bind_some, z7k _ hm.1, z6p d h i hi]
   cases mayB d[i]
   ·simp
   ·cases hh : ((d[i].1 == 1) == ((i : Int) == 0))
    ·simp [hh]
    ·cases hk : zzl d d[i]
     ·simp [hh, hk]
     ·simp only [hh, hk, Bool.not_true, beq_self_eq_true, cond_true, Option.bind_some, cond_false, Bool.and_self, Bool.false_eq_true, if_false, x5 (show i < 1000000 by omega)]
  ·simp only [yz, Nat.lt_irrefl, decide_false, cond_false]
  ·rcases gu (fun (i : Nat) (n : Nd) => !(mayB n && ((n.1 == 1) == ((i : Int) == 0)) && zzl d n)) ((.inr ((171, ()), ())) : (Unit × ((List Nd × Unit) × Unit)) ⊕ ((Int × Unit) × Unit)) (.inl ((), ((d, ()), ()))) d 0 with ⟨⟨j, n, hj, hp⟩, hf⟩ | ⟨hall, hf⟩
   ·rw [hf]
    rw [if_neg (show ¬ zge d from fun R => by
     obtain ⟨a, b, c⟩ := (hRI.1 R).2.1 j n hj
     simp [a, b, c] at hp)]
   ·rw [hf]
    have hA : ∀ (j : Nat) (n : Nd), d[j]? = some n → mayB n = true ∧ (n.1 == 1) = ((j : Int) == 0) ∧ zzl d n = true := fun j n hj => by
     have := hall j n hj
     simp only [Nat.zero_add, Bool.not_eq_false', Bool.and_eq_true] at this
     exact ⟨this.1.1, eq_of_beq this.1.2, this.2⟩
    show Option.bind _ _ = _
    refine zu (l := d) (σ := Unit) (fun i _ => ((((i : Int), ()), ((d, ()), ())))) (fun i n _ => if !(zj5 d i) then .inr (.inr ((171, ()), ())) else .inl ()) (fun _ => .inl ((), ((d, ()), ()))) (fun _ _ => True) () rfl trivial (by omega) (fun i s hi _ => ⟨?_, fun _ _ => trivial⟩) (fun s _ => ?_) ?_
    ·simp only [yz, decide_eq_true hi, cond_true, z4t d h (by omega) i hi, Option.bind_some]
     cases zj5 d i
     ·simp
     ·simp only [Bool.not_true, cond_false, Bool.false_eq_true, if_false, x5 (show i < 1000000 by omega)]
    ·simp only [yz, Nat.lt_irrefl, decide_false, cond_false]
    ·rcases gu (fun (i : Nat) (n : Nd) => !(zj5 d i)) ((.inr ((171, ()), ())) : (Unit × ((List Nd × Unit) × Unit)) ⊕ ((Int × Unit) × Unit)) (.inl ((), ((d, ()), ()))) d 0 with ⟨⟨j, n, hj, hp⟩, hf⟩ | ⟨hall2, hf⟩
     ·rw [hf]
      rw [if_neg (show ¬ zge d from fun R => by
       have := (hRI.1 R).2.2.1 j (List.getElem?_eq_some_iff.1 hj).1
       simp [this] at hp)]
     ·rw [hf]
      have hB : ∀ (j : Nat), j < d.length → zj5 d j = true := fun j hj => by
       have := hall2 j _ (List.getElem?_eq_getElem hj)
       simpa using this
      have cl : ∀ x : Int, 0 ≤ x → x < d.length → pr d x = -1 ∨ (0 ≤ pr d x ∧ pr d x < d.length) := by
       intro x hx0 hx1
       obtain ⟨a, rfl⟩ := Int.eq_ofNat_of_zero_le hx0
       have := hB a (by omega)
       unfold zj5 at this
       by_cases hp : pr d (a : Int) = -1
       ·exact .inl hp
       ·rw [if_neg hp] at this
        simp only [Bool.and_eq_true, decide_eq_true_eq] at this
        exact .inr ⟨this.1.1.1.2, this.1.1.2⟩
      show Option.bind _ _ = _
      classical
      refine zu (l := d) (σ := Unit) (fun i _ => ((((i : Int), ()), ((d, ()), ())))) (fun i n _ => if !decide (∃ m, m ≤ d.length ∧ up d m (qx n) = -1) then .inr (.inr ((171, ()), ())) else .inl ()) (fun _ => .inl ((), ())) (fun _ _ => True) () rfl trivial (by omega) (fun i s hi _ => ⟨?_, fun _ _ => trivial⟩) (fun s _ => ?_) ?_
      ·obtain ⟨b, hb1, hb2⟩ := z6r d (by omega) cl i hi
       rw [b6 (List.getElem?_eq_getElem hi)] at hb2
       simp only [yz, decide_eq_true hi, cond_true, hb1, Option.bind_some]
       cases b with
       | true =>
        rw [decide_eq_true (hb2.1 rfl)]
        simp only [Bool.not_true, cond_false, Bool.false_eq_true, if_false, x5 (show i < 1000000 by omega)]
       | false =>
        rw [decide_eq_false (fun hx => by have := hb2.2 hx; cases this)]
        simp
      ·simp only [yz, Nat.lt_irrefl, decide_false, cond_false]
      ·rcases gu (fun (i : Nat) (n : Nd) => !decide (∃ m, m ≤ d.length ∧ up d m (qx n) = -1)) ((.inr ((171, ()), ())) : (Unit × Unit) ⊕ ((Int × Unit) × Unit)) (.inl ((), ())) d 0 with ⟨⟨j, n, hj, hp⟩, hf⟩ | ⟨hall3, hf⟩
       ·rw [hf]
        rw [if_neg (show ¬ zge d from fun R => by
         have := (hRI.1 R).2.2.2 j n hj
         simp [this] at hp)]
       ·rw [hf]
        rw [if_pos (hRI.2 ⟨hr2, hA, hB, fun j n hj => by simpa using hall3 j n hj⟩)]
def ks (d : List Nd) (x : Int) : List Int := match idx d x with
 | some n => zf n
 | none => []
theorem z4v {d : List Nd} {i : Nat} {n : Nd} (h : d[i]? = some n) : ks d (i : Int) = zf n := by
 unfold ks idx
 rw [if_pos (by omega), Int.toNat_natCast, h]
def In' (d : List Nd) (x : Int) : Prop := 0 ≤ x ∧ x < d.length
theorem In'.nat {d : List Nd} {x : Int} (h : In' d x) : ∃ (i : Nat) (n : Nd), x = (i : Int) ∧ d[i]? = some n := by
 obtain ⟨i, hi⟩ := Int.eq_ofNat_of_zero_le h.1
 have : i < d.length := by have := h.2; omega
 exact ⟨i, d[i], hi, List.getElem?_eq_getElem this⟩
theorem zge.mem_all {d : List Nd} (R : zge d) {k : Int} : k ∈ y9 d ↔ ∃ (i : Nat) (n : Nd), d[i]? = some n ∧ k ∈ zf n := by
 unfold y9
 rw [List.mem_flatMap]
 constructor
 ·rintro ⟨n, hn, hk⟩
  obtain ⟨i, hi⟩ := List.getElem?_of_mem hn
  exact ⟨i, n, hi, hk⟩
 ·rintro ⟨i, n, hi, hk⟩
  exact ⟨n, List.mem_of_getElem? hi, hk⟩
theorem zge.par {d : List Nd} (R : zge d) {k : Int} (hk : In' d k) (h : pr d k ≠ -1) : In' d (pr d k) ∧ k ∈ ks d (pr d k) := by
 obtain ⟨i, n, rfl, hi⟩ := hk.nat
 rw [b6 hi] at h ⊢
 obtain ⟨j, m, hj, hm⟩ := R.mem_all.1 (R.laid i n hi h)
 have := R.back j m hj _ hm
 rw [b6 hi] at this
 rw [this]
 have hl := (List.getElem?_eq_some_iff.1 hj).1
 exact ⟨⟨by omega, by omega⟩, by rw [z4v hj]; exact hm⟩
theorem zge.cl {d : List Nd} (R : zge d) (x : Int) (h0 : 0 ≤ x) (h1 : x < d.length) : pr d x = -1 ∨ (0 ≤ pr d x ∧ pr d x < d.length) := by
 by_cases h : pr d x = -1
 ·exact .inl h
 ·exact .inr (R.par ⟨h0, h1⟩ h).1
noncomputable def thr (d : List Nd) (x : Int) : Bool := (chk d == 0) && (decide (x ≥ 0) && decide (x < d.length))
theorem z6s {d : List Nd} {x : Int} : thr d x = true ↔ zge d ∧ In' d x := by
 unfold thr In' chk
 simp only [Bool.and_eq_true, beq_iff_eq, decide_eq_true_eq]
 constructor
 ·rintro ⟨h1, h2, h3⟩
  refine ⟨?_, h2, h3⟩
  by_cases h : d.length > 300
  ·rw [if_pos h] at h1; omega
  ·rw [if_neg h] at h1
   by_cases hR : zge d
   ·exact hR
   ·rw [if_neg hR] at h1; omega
 ·rintro ⟨h1, h2, h3⟩
  refine ⟨?_, h2, h3⟩
  rw [if_neg (by have := h1.len; omega), if_pos h1]
theorem z8e (d : List Nd) (x : Int) (h : Sm d) : ga (Ev.upto 5000) ((d, (x, ())), ()) = some ((thr d x, ()), ()) := by
 unfold ga thr
 simp only [z5o d h, Option.bind_some]
 cases (chk d == 0) <;> cases decide (x ≥ 0) <;> cases decide (x < (d.length : Int)) <;> rfl
def hd (s : Bs) : Int := match s with
 | [] => 0
 | c :: _ => (c.toNat : Int)
def lowI (n : Int) : Int := bif decide (n ≥ 65) && decide (n ≤ 90) then n + 32 else n
def zi (s : Bs) : Bs := toBs ((ofBs s).map lowI)
theorem zg1 (s : Bs) : (zi s).length = s.length := by simp [zi, toBs, ofBs]
theorem bm {s : Bs} {i : Nat} (h : i < s.length) : (ofBs s)[i]'(by rw [jc]; exact h) = (s[i].toNat : Int) := by simp [ofBs]
theorem zg2 (c : UInt8) (h0 : decide ((c.toNat : Int) ≥ 65) = true) (h1 : decide ((c.toNat : Int) ≤ 90) = true) : IntKind.wrap .u8 ((IntKind.wrap .u8 ((c.toNat : Int) + 97)) - 65) = (c.toNat : Int) + 32 := by
 have h0 := of_decide_eq_true h0
 have h1 := of_decide_eq_true h1
 rw [zlf (n := (c.toNat : Int) + 97) (by omega) (by omega), zlf (by omega) (by omega)]
 omega
theorem uj (N : Nat) (s : Bs) (hs : s.length < N) (hb : s.length ≤ 1000000) : ym (Ev.upto N) ((s, ()), ()) = some ((zi s, ()), ()) := by
 apply zsg
 unfold ym
 refine kh ?_
 refine zab (σ := Unit) (fun i _ => ((((ofBs s).length : Int), ((i : Int), ())), (((ofBs s).take i).map lowI ++ (ofBs s).drop i, ()))) (fun i _ => True) s.length () (by simp) trivial hs ?_
 rintro i _ hi _
 have hol := jc s
 have hll : (((ofBs s).take i).map lowI ++ (ofBs s).drop i).length = s.length := by simp [hol]; omega
 by_cases hi' : i < s.length
 ·have c0 : decide ((i : Int) < ((ofBs s).length : Int)) = true := decide_eq_true (by omega)
  have c1 : decide ((i : Int) < ((((ofBs s).take i).map lowI ++ (ofBs s).drop i).length : Int)) = true := decide_eq_true (by omega)
  have c2 : decide ((0 : Int) ≤ (i : Int)) = true := decide_eq_true (by omega)
  have w : IntKind.wrap .i64 ((i : Int) + 1) = ((i + 1 : Nat) : Int) := by rw [wj (by omega) (by omega)]; omega
  have hd : (ofBs s).drop i = (s[i].toNat : Int) :: (ofBs s).drop (i + 1) := by rw [List.drop_eq_getElem_cons (by omega), bm hi']
  have hlen : (((ofBs s).take i).map lowI).length = i := by simp [hol]; omega
  have g : (((ofBs s).take i).map lowI ++ (ofBs s).drop i)[((i : Int)).toNat]? = some (s[i].toNat : Int) := by
   rw [Int.toNat_natCast, List.getElem?_append_right (by omega), hlen, Nat.sub_self, hd]; rfl
  have st : ∀ v, (((ofBs s).take i).map lowI ++ (ofBs s).drop i).set ((i : Int)).toNat v = ((ofBs s).take i).map lowI ++ v :: (ofBs s).drop (i + 1) := by
   intro v
   rw [Int.toNat_natCast, List.set_append_right _ _ (by omega), hlen, Nat.sub_self, hd]; rfl
  have nx : ((ofBs s).take (i + 1)).map lowI ++ (ofBs s).drop (i + 1) = ((ofBs s).take i).map lowI ++ lowI (s[i].toNat : Int) :: (ofBs s).drop (i + 1) := by
   rw [List.take_succ_eq_append_getElem (by omega), List.map_append, bm hi']; simp
  simp -implicitDefEqProofs only [c0, c1, c2, Bool.and_self, cond_true, g, Option.bind_some]
  cases h1 : decide ((s[i].toNat : Int) ≥ 65) with
  | false =>
   have hx : lowI (s[i].toNat : Int) = (s[i].toNat : Int) := by unfold lowI; rw [h1]; rfl
   rw [hx] at nx
   exact ⟨_, rfl, hi', (), by simp only [w, nx, ← hd], trivial⟩
  | true =>
   cases h2 : decide ((s[i].toNat : Int) ≤ 90) with
   | false =>
    have hx : lowI (s[i].toNat : Int) = (s[i].toNat : Int) := by unfold lowI; rw [h1, h2]; rfl
    rw [hx] at nx
    exact ⟨_, rfl, hi', (), by simp only [w, nx, ← hd], trivial⟩
   | true =>
    have hx : lowI (s[i].toNat : Int) = (s[i].toNat : Int) + 32 := by unfold lowI; rw [h1, h2]; rfl
    rw [hx] at nx
    have lw := zg2 s[i] h1 h2
    simp -implicitDefEqProofs only [beq_self_eq_true, cond_true, Option.bind_some, c1, c2, Bool.and_self, g, st, lw]
    exact ⟨_, rfl, hi', (), by simp only [w, nx], trivial⟩
 ·have c0 : decide ((i : Int) < ((ofBs s).length : Int)) = false := decide_eq_false (by omega)
  simp -implicitDefEqProofs only [c0, cond_false]
  refine ⟨_, rfl, _, rfl, ?_⟩
  rw [List.take_of_length_le (by omega), List.drop_eq_nil_of_le (by omega), List.append_nil]
  rfl
theorem zlg (N : Nat) (s : Bs) (hs : s.length < N) (hb : s.length ≤ 1000000) : y5 (Ev.upto N) ((s, ()), ()) = some ((zi s, ()), ()) := by
 apply zsg
 unfold y5
 refine kh ?_
 refine zab (σ := Unit) (fun i _ => ((s, ((i : Int), ())), (((ofBs s).take i).map lowI, ()))) (fun i _ => True) s.length () rfl trivial hs ?_
 rintro i _ hi _
 have hol := jc s
 by_cases hi' : i < s.length
 ·have c0 : decide ((i : Int) < (s.length : Int)) = true := decide_eq_true (by omega)
  have w : IntKind.wrap .i64 ((i : Int) + 1) = ((i + 1 : Nat) : Int) := by rw [wj (by omega) (by omega)]; omega
  have hlen : (((ofBs s).take i).map lowI).length = i := by simp [hol]; omega
  have f : ∀ v : Int, fits ((((ofBs s).take i).map lowI).length + ([v] : List Int).length) 1 = true := fun v => zfj (by rw [hlen]; simp only [List.length_cons, List.length_nil]; omega)
  have nx : ((ofBs s).take (i + 1)).map lowI = ((ofBs s).take i).map lowI ++ [lowI (s[i].toNat : Int)] := by
   rw [List.take_succ_eq_append_getElem (by omega), List.map_append, bm hi']; simp
  simp -implicitDefEqProofs only [c0, cond_true, zk hi', Option.bind_some]
  cases h1 : decide ((s[i].toNat : Int) ≥ 65) with
  | false =>
   have hx : lowI (s[i].toNat : Int) = (s[i].toNat : Int) := by unfold lowI; rw [h1]; rfl
   rw [hx] at nx
   simp -implicitDefEqProofs only [show (false == true) = false from rfl, cond_false, Option.bind_some, f, cond_true, w]
   exact ⟨_, rfl, hi', (), by rw [nx], trivial⟩
  | true =>
   cases h2 : decide ((s[i].toNat : Int) ≤ 90) with
   | false =>
    have hx : lowI (s[i].toNat : Int) = (s[i].toNat : Int) := by unfold lowI; rw [h1, h2]; rfl
    rw [hx] at nx
    simp -implicitDefEqProofs only [beq_self_eq_true, cond_false, Option.bind_some, f, cond_true, w]
    exact ⟨_, rfl, hi', (), by rw [nx], trivial⟩
   | true =>
    have hx : lowI (s[i].toNat : Int) = (s[i].toNat : Int) + 32 := by unfold lowI; rw [h1, h2]; rfl
    rw [hx] at nx
    have lw : IntKind.wrap .u8 ((s[i].toNat : Int) + 32) = (s[i].toNat : Int) + 32 := by
     have := of_decide_eq_true h2
     rw [zlf (by omega) (by omega)]
    simp -implicitDefEqProofs only [beq_self_eq_true, Option.bind_some, f, cond_true, w, lw]
    exact ⟨_, rfl, hi', (), by rw [nx], trivial⟩
 ·have c0 : decide ((i : Int) < (s.length : Int)) = false := decide_eq_false (by omega)
  simp -implicitDefEqProofs only [c0, cond_false]
  refine ⟨_, rfl, _, rfl, ?_⟩
  rw [List.take_of_length_le (by omega)]
  rfl
set_option maxHeartbeats 50000 in
set_option maxHeartbeats 50000 in
theorem z6t (V : Ev) (s p : Bs) (hs : s.length ≤ 1000000) (hp : p.length ≤ 1000) : jl V ((s, (p, ())), ()) = some ((s.take p.length == p, ()), ()) := by
 unfold jl xl
 by_cases h : p.length ≤ s.length
 ·have c0 : (decide ((s.length : Int) ≥ (p.length : Int)) == true) = true := by rw [decide_eq_true (by omega)]; rfl
  have := z2a (l := s) (a := 0) (b := p.length) (by omega) h
  rw [List.drop_zero] at this
  simp -implicitDefEqProofs only [c0, cond_true, show (0 : Int) = ((0 : Nat) : Int) from rfl, this, Option.bind_some]
 ·have c0 : (decide ((s.length : Int) ≥ (p.length : Int)) == true) = false := by rw [decide_eq_false (by omega)]; rfl
  have hne : (s.take p.length == p) = false := by
   rw [beq_eq_false_iff_ne]
   intro e
   have := congrArg List.length e
   simp at this
   omega
  simp -implicitDefEqProofs only [c0, cond_false, Option.bind_some, hne]
abbrev Dir := Bs × List Bs
abbrev Pol := List Dir × Bool
def xt : List Dir → Bs → Option (List Bs)
 | [], _ => none
 | d :: r, n => if d.1 == n then some d.2 else xt r n
theorem zcs {l : List Dir} {n : Bs} {i : Nat} (h : i < l.length) (h0 : xt (l.take i) n = none) : xt l n = if l[i].1 == n then some l[i].2 else xt (l.drop (i + 1)) n := by
 induction l generalizing i with
 | nil => simp at h
 | cons d r ih =>
  cases i with
  | zero => rfl
  | succ i =>
   simp only [List.take_succ_cons, xt] at h0
   split at h0
   ·cases h0
   ·rename_i hd
    simp only [List.getElem_cons_succ, List.drop_succ_cons, xt]
    rw [if_neg hd]
    exact ih (by simpa using h) h0
theorem zct {l : List Dir} {n : Bs} {i : Nat} (h : i < l.length) (h0 : xt (l.take i) n = none) (hd : (l[i].1 == n) = false) : xt (l.take (i + 1)) n = none := by
 have hl : i < (l.take (i + 1)).length := by simp; omega
 have e : (l.take (i + 1)).take i = l.take i := by rw [List.take_take, Nat.min_eq_left (by omega)]
 have := zcs hl (n := n) (by rw [e]; exact h0)
 rw [this]
 have e2 : (l.take (i + 1))[i] = l[i] := by simp
 rw [e2, hd]
 rw [List.drop_eq_nil_of_le (by simp; omega)]
 rfl
def okP (l : List Dir) : Prop := l.length ≤ 20 ∧ ∀ d ∈ l, d.2.length ≤ 210 ∧ ∀ w ∈ d.2, w.length ≤ 300
theorem zia (V : Ev) (l : List Bs) (h : l.length ≤ 1000000) : zl V ((l, ()), ()) = some ((), (l, ())) := by
 unfold zl
 have hf : fits ((([] : List Bs)).length + l.length) 16 = true := zfj (by simp; omega)
 cases l with
 | nil => rfl
 | cons a r =>
  simp -implicitDefEqProofs only [List.isEmpty_cons, Bool.not_false, cond_true, Option.bind_some, hf, List.nil_append]
theorem z1l (V : Ev) (l : List Bs) (h : l.length ≤ 1000000) : wu V ((l, ()), ()) = some ((), (l, ())) := by
 unfold wu
 have hf : fits l.length 16 = true := zfj (by omega)
 simp -implicitDefEqProofs only [hf, cond_true]
theorem zq5 (p : Pol) (n : Bs) (hp : okP p.1) (hn : n.length ≤ 1000) : je (Ev.upto 5000) ((p, (n, ())), ()) = some (((xt p.1 (zi n)).isSome, ()), ((xt p.1 (zi n)).getD [], ())) := by
 apply zsg
 unfold je
 have q := uj 5000 n (by omega) (by omega)
 simp -implicitDefEqProofs only [q, Option.bind_some]
 refine kh ?_
 have hl := hp.1
 refine zab (σ := Unit) (fun i _ => ((zi n, (p.1, ((p.1.length : Int), ((i : Int), ())))), ())) (fun i _ => xt (p.1.take i) (zi n) = none) p.1.length () rfl rfl (by omega) ?_
 rintro i _ hi h0
 by_cases hi' : i < p.1.length
 ·have c0 : decide ((i : Int) < (p.1.length : Int)) = true := decide_eq_true (by omega)
  have w : IntKind.wrap .i64 ((i : Int) + 1) = ((i + 1 : Nat) : Int) := by rw [wj (by omega) (by omega)]; omega
  have hw := (hp.2 _ (List.getElem_mem hi')).1
  have qc := zia (Ev.upto 5000) p.1[i].2 (by omega)
  simp -implicitDefEqProofs only [c0, cond_true, zk hi', Option.bind_some]
  cases hd : p.1[i].1 == zi n with
  | true =>
   simp -implicitDefEqProofs only [cond_true, qc, Option.bind_some]
   refine ⟨_, rfl, ?_⟩
   rw [zcs hi' h0, hd]
   exact ⟨_, rfl, rfl⟩
  | false =>
   simp -implicitDefEqProofs only [cond_false, w]
   exact ⟨_, rfl, hi', (), rfl, zct hi' h0 hd⟩
 ·have c0 : decide ((i : Int) < (p.1.length : Int)) = false := decide_eq_false (by omega)
  have ht : p.1.take i = p.1 := List.take_of_length_le (by omega)
  rw [ht] at h0
  simp -implicitDefEqProofs only [c0, cond_false]
  refine ⟨_, rfl, ?_⟩
  rw [h0]
  exact ⟨_, rfl, rfl⟩
theorem zzm (p : Pol) (n : Bs) (hp : okP p.1) (hn : n.length ≤ 1000) : kg (Ev.upto 5000) ((p, (n, ())), ()) = some (((xt p.1 (zi n)).isSome, ()), ((xt p.1 (zi n)).getD [], ())) := by
 apply zsg
 unfold kg
 have q := zlg 5000 n (by omega) (by omega)
 simp -implicitDefEqProofs only [q, Option.bind_some]
 refine kh ?_
 have hl := hp.1
 refine zab (σ := Unit) (fun i _ => ((zi n, ((i : Int), ())), ((p, ()), ()))) (fun i _ => xt (p.1.take i) (zi n) = none) p.1.length () rfl rfl (by omega) ?_
 rintro i _ hi h0
 by_cases hi' : i < p.1.length
 ·have c0 : decide ((i : Int) < (p.1.length : Int)) = true := decide_eq_true (by omega)
  have w : IntKind.wrap .i64 ((i : Int) + 1) = ((i + 1 : Nat) : Int) := by rw [wj (by omega) (by omega)]; omega
  have hw := (hp.2 _ (List.getElem_mem hi')).1
  have qc := z1l (Ev.upto 5000) p.1[i].2 (by omega)
  simp -implicitDefEqProofs only [c0, cond_true, zk hi', Option.bind_some]
  cases hd : p.1[i].1 == zi n with
  | true =>
   simp -implicitDefEqProofs only [cond_true, qc, Option.bind_some]
   refine ⟨_, rfl, ?_⟩
   rw [zcs hi' h0, hd]
   exact ⟨_, rfl, rfl⟩
  | false =>
   simp -implicitDefEqProofs only [cond_false, w]
   exact ⟨_, rfl, hi', (), rfl, zct hi' h0 hd⟩
 ·have c0 : decide ((i : Int) < (p.1.length : Int)) = false := decide_eq_false (by omega)
  have ht : p.1.take i = p.1 := List.take_of_length_le (by omega)
  rw [ht] at h0
  simp -implicitDefEqProofs only [c0, cond_false]
  refine ⟨_, rfl, ?_⟩
  rw [h0]
  exact ⟨_, rfl, rfl⟩
theorem zq6 (l : List Bs) : wp (xq (Ev.upto 5000) ((l, ((210 : Int), ((300 : Int), ()))), ())) (fun o => ∃ b, o = ((b, ()), ()) ∧ (b = false → l.length ≤ 210 ∧ ∀ w ∈ l, w.length ≤ 300)) := by
 unfold xq
 refine zgj (fun h => ⟨_, rfl, true, rfl, fun h => by cases h⟩) fun h => ?_
 simp only at h
 refine kh ?_
 refine zab (σ := Unit) (fun i _ => ((l, ((300 : Int), ((i : Int), ()))), ())) (fun i _ => ∀ w ∈ l.take i, w.length ≤ 300) l.length () rfl (by simp) (by omega) ?_
 rintro i _ hi h0
 by_cases hi' : i < l.length
 ·have c0 : decide ((i : Int) < (l.length : Int)) = true := decide_eq_true (by omega)
  have w : IntKind.wrap .i64 ((i : Int) + 1) = ((i + 1 : Nat) : Int) := by rw [wj (by omega) (by omega)]; omega
  simp -implicitDefEqProofs only [c0, cond_true, zk hi', Option.bind_some]
  refine zgj (fun h => ⟨_, rfl, _, rfl, true, rfl, fun h => by cases h⟩) fun hw => ?_
  simp -implicitDefEqProofs only [w]
  refine ⟨_, rfl, hi', (), rfl, ?_⟩
  rw [List.take_succ_eq_append_getElem hi']
  intro x hx
  rcases List.mem_append.1 hx with hx | hx
  ·exact h0 x hx
  ·rw [List.mem_singleton.1 hx]; omega
 ·have c0 : decide ((i : Int) < (l.length : Int)) = false := decide_eq_false (by omega)
  have ht : l.take i = l := List.take_of_length_le (by omega)
  simp -implicitDefEqProofs only [c0, cond_false]
  rw [ht] at h0
  exact ⟨_, rfl, _, rfl, false, rfl, fun _ => ⟨by omega, h0⟩⟩
theorem zq7 (l : List Pol) : wp (zx (Ev.upto 5000) ((l, ()), ())) (fun o => ∃ b, o = ((b, ()), ()) ∧ (b = false → l.length ≤ 15 ∧ ∀ p ∈ l, okP p.1)) := by
 unfold zx
 refine zgj (fun h => ⟨_, rfl, true, rfl, fun h => by cases h⟩) fun h => ?_
 simp only at h
 refine kh ?_
 refine zab (σ := Unit) (fun i _ => ((l, ((i : Int), ())), ())) (fun i _ => ∀ p ∈ l.take i, okP p.1) l.length () rfl (by simp) (by omega) ?_
 rintro i _ hi h0
 by_cases hi' : i < l.length
 ·have c0 : decide ((i : Int) < (l.length : Int)) = true := decide_eq_true (by omega)
  have w : IntKind.wrap .i64 ((i : Int) + 1) = ((i + 1 : Nat) : Int) := by rw [wj (by omega) (by omega)]; omega
  simp -implicitDefEqProofs only [c0, cond_true, zk hi', Option.bind_some]
  refine zgj (fun h => ⟨_, rfl, _, rfl, true, rfl, fun h => by cases h⟩) fun h20 => ?_
  refine kh ?_
  refine zab (σ := Unit) (fun k _ => ((l, ((i : Int), ((k : Int), ()))), ())) (fun k _ => ∀ d ∈ l[i].1.take k, d.2.length ≤ 210 ∧ ∀ w ∈ d.2, w.length ≤ 300) l[i].1.length () rfl (by simp) (by omega) ?_
  rintro k _ hk hd
  simp -implicitDefEqProofs only [zk hi', Option.bind_some]
  by_cases hk' : k < l[i].1.length
  ·have d0 : decide ((k : Int) < (l[i].1.length : Int)) = true := decide_eq_true (by omega)
   have wk : IntKind.wrap .i64 ((k : Int) + 1) = ((k + 1 : Nat) : Int) := by rw [wj (by omega) (by omega)]; omega
   simp -implicitDefEqProofs only [d0, cond_true, zk hk', Option.bind_some]
   obtain ⟨o, e, b, rfl, hb⟩ := zq6 l[i].1[k].2
   cases h2 : decide (((l[i].1[k].1.length : Nat) : Int) > 200) == false with
   | false =>
    simp -implicitDefEqProofs only [cond_false, Option.bind_some, cond_true]
    exact ⟨_, rfl, _, rfl, _, rfl, true, rfl, fun h => by cases h⟩
   | true =>
    simp -implicitDefEqProofs only [cond_true, e, Option.bind_some]
    cases b with
    | true =>
     simp -implicitDefEqProofs only [cond_true]
     exact ⟨_, rfl, _, rfl, _, rfl, true, rfl, fun h => by cases h⟩
    | false =>
     simp -implicitDefEqProofs only [cond_false, wk]
     refine ⟨_, rfl, hk', (), rfl, ?_⟩
     rw [List.take_succ_eq_append_getElem hk']
     intro x hx
     rcases List.mem_append.1 hx with hx | hx
     ·exact hd x hx
     ·rw [List.mem_singleton.1 hx]; exact hb rfl
  ·have d0 : decide ((k : Int) < (l[i].1.length : Int)) = false := decide_eq_false (by omega)
   have ht : l[i].1.take k = l[i].1 := List.take_of_length_le (by omega)
   rw [ht] at hd
   simp -implicitDefEqProofs only [d0, cond_false]
   refine ⟨_, rfl, ?_⟩
   simp -implicitDefEqProofs only [w]
   refine ⟨_, rfl, hi', (), rfl, ?_⟩
   rw [List.take_succ_eq_append_getElem hi']
   intro x hx
   rcases List.mem_append.1 hx with hx | hx
   ·exact h0 x hx
   ·rw [List.mem_singleton.1 hx]; exact ⟨by omega, hd⟩
 ·have c0 : decide ((i : Int) < (l.length : Int)) = false := decide_eq_false (by omega)
  have ht : l.take i = l := List.take_of_length_le (by omega)
  rw [ht] at h0
  simp -implicitDefEqProofs only [c0, cond_false]
  exact ⟨_, rfl, _, rfl, false, rfl, fun _ => ⟨by omega, h0⟩⟩
abbrev dirN : Bs := [114, 101, 113, 117, 105, 114, 101, 45, 116, 114, 117, 115, 116, 101, 100, 45, 116, 121, 112, 101, 115, 45, 102, 111, 114]
abbrev scrQ : Bs := [39, 115, 99, 114, 105, 112, 116, 39]
def b7 (p : Pol) : List Bs := (xt p.1 dirN).getD []
def yd (p : Pol) : Bool := (b7 p).any fun w => zi w == scrQ
theorem zg3 : zi dirN = dirN := by decide
theorem zmr : zi scrQ = scrQ := by decide
theorem zey {p : Pol} (hp : okP p.1) : (b7 p).length ≤ 210 ∧ ∀ w, w ∈ b7 p → w.length ≤ 300 := by
 have key : ∀ l : List Dir, (∀ d ∈ l, d.2.length ≤ 210 ∧ ∀ w ∈ d.2, w.length ≤ 300) → ((xt l dirN).getD []).length ≤ 210 ∧ ∀ w, w ∈ (xt l dirN).getD [] → w.length ≤ 300 := by
  intro l
  induction l with
  | nil => intro _; exact ⟨by simp [xt], fun w hw => by simp [xt] at hw⟩
  | cons a l ih =>
   intro h
   unfold xt
   have ha := h a (List.mem_cons_self ..)
   have hl := ih fun d hd => h d (List.mem_cons_of_mem _ hd)
   split
   ·exact ⟨ha.1, fun w hw => ha.2 w hw⟩
   ·exact hl
 exact key p.1 hp.2
theorem z1m (a b : Bs) (ha : a.length ≤ 1000) (hb : b.length ≤ 1000) : vf (Ev.upto 5000) ((a, (b, ())), ()) = some ((zi a == zi b, ()), ()) := by
 unfold vf
 simp only
 rw [uj 5000 a (by omega) (by omega)]
 simp only [Option.bind_some]
 rw [uj 5000 b (by omega) (by omega)]
 simp only [Option.bind_some]
theorem gk {ε β : Type} (q : ε → Bool) (f : Int → β) (e : β) : ∀ (l : List ε) (i : Nat), (l.any q = true ∧ ∃ j : Nat, yn (fun (i : Nat) (x : ε) (_ : Unit) => if q x = true then (.inr (f (i : Int)) : Unit ⊕ β) else .inl ()) (fun _ => e) i l () = f (j : Int)) ∨ (l.any q = false ∧ yn (fun (i : Nat) (x : ε) (_ : Unit) => if q x = true then (.inr (f (i : Int)) : Unit ⊕ β) else .inl ()) (fun _ => e) i l () = e)
 | [], i => .inr ⟨rfl, rfl⟩
 | x :: l, i => by
  unfold yn
  cases hq : q x with
  | true => exact .inl ⟨by simp [hq], i, by simp⟩
  | false =>
   rcases gk q f e l (i + 1) with ⟨h1, j, h2⟩ | ⟨h1, h2⟩
   ·refine .inl ⟨by simp [hq, h1], j, ?_⟩
    simp only [Bool.false_eq_true, if_false]
    exact h2
   ·refine .inr ⟨by simp [hq, h1], ?_⟩
    simp only [Bool.false_eq_true, if_false]
    exact h2
theorem idxW (l : List Bs) (hl : l.length ≤ 300) (h : ∀ w, w ∈ l → w.length ≤ 300) : ∃ i : Int, zc (Ev.upto 5000) ((l, ()), ()) = some ((i, ()), ()) ∧ decide (i ≥ 0) = l.any fun w => zi w == scrQ := by
 have e : ∀ r, ((yn (fun (i : Nat) (x : Bs) (_ : Unit) => if (zi x == scrQ) = true then (.inr (.inr (((i : Int), ()), ())) : Unit ⊕ ((Unit × Unit) ⊕ ((Int × Unit) × Unit))) else .inl ()) (fun _ => .inl ((), ())) 0 l ()) = r) → (match r with | Sum.inl o5 => (some (((-1 : Int), ()), ())) | Sum.inr o6 => (some ((o6.1.1, ()), ()))) = zc (Ev.upto 5000) ((l, ()), ()) := by
  intro r hr
  unfold zc
  symm
  refine zu (l := l) (σ := Unit) (fun i _ => ((l, ((l.length : Int), ((i : Int), ()))), ())) (fun i x _ => if (zi x == scrQ) = true then .inr (.inr (((i : Int), ()), ())) else .inl ()) (fun _ => .inl ((), ())) (fun _ _ => True) () rfl trivial (by omega) (fun i s hi _ => ⟨?_, fun _ _ => trivial⟩) (fun s _ => ?_) (by rw [hr]; cases r <;> rfl)
  ·have hw := h _ (List.getElem_mem hi)
   unfold zaf
   simp only [yz, decide_eq_true hi, cond_true, zk hi, Option.bind_some]
   rw [z1m l[i] [39, 115, 99, 114, 105, 112, 116, 39] (by omega) (by simp), zmr]
   simp only [Option.bind_some]
   cases (zi l[i] == scrQ) with
   | true => simp only [cond_true, if_true]
   | false => simp only [cond_false, Bool.false_eq_true, if_false, x5 (show i < 1000000 by omega)]
  ·simp only [yz, Nat.lt_irrefl, decide_false, cond_false]
 rcases gk (fun w => zi w == scrQ) (fun i => (.inr ((i, ()), ()) : (Unit × Unit) ⊕ ((Int × Unit) × Unit))) (.inl ((), ())) l 0 with ⟨h1, j, h2⟩ | ⟨h1, h2⟩
 ·exact ⟨(j : Int), (e _ h2).symm, by rw [h1]; exact decide_eq_true (by omega)⟩
 ·exact ⟨-1, (e _ h2).symm, by rw [h1]; rfl⟩
theorem zm0 (p : Pol) (hp : okP p.1) : xi (Ev.upto 5000) ((p, ()), ()) = some ((yd p, ()), ()) := by
 obtain ⟨h1, h2⟩ := zey hp
 unfold xi zo
 simp only
 rw [zq5 p dirN hp (by simp), zg3]
 simp only [Option.bind_some]
 obtain ⟨i, e, h⟩ := idxW (b7 p) (by omega) h2
 unfold b7 at e h
 rw [e]
 simp only [Option.bind_some, h]
 rfl
theorem z4w (p : Pol) (hp : okP p.1) : x9 (Ev.upto 5000) ((p, ()), ()) = some ((yd p, ()), ()) := by
 obtain ⟨h1, h2⟩ := zey hp
 unfold x9 yd
 simp only
 rw [zzm p dirN hp (by simp), zg3]
 simp only [Option.bind_some]
 show ((Ev.upto 5000).it _ (((0 : Int), ()), (b7 p, ()))).bind _ = _
 generalize b7 p = l at h1 h2
 refine zu (l := l) (σ := Unit) (fun i _ => (((i : Int), ()), (l, ()))) (fun _ x _ => if (zi x == scrQ) = true then .inr (.inr ((true, ()), ())) else .inl ()) (fun _ => .inl ((), ())) (fun _ _ => True) () rfl trivial (by omega) (fun i s hi _ => ⟨?_, fun _ _ => trivial⟩) (fun s _ => ?_) ?_
 ·have hw := h2 _ (List.getElem_mem hi)
  simp only [yz, decide_eq_true hi, cond_true, decide_eq_true (show (0 : Int) ≤ (i : Int) by omega), Bool.and_self, Int.toNat_natCast, List.getElem?_eq_getElem hi, Option.bind_some]
  rw [zlg 5000 l[i] (by omega) (by omega)]
  simp only [Option.bind_some]
  cases (zi l[i] == ([39, 115, 99, 114, 105, 112, 116, 39] : Bs)) with
  | true => simp only [cond_true, if_true]
  | false => simp only [cond_false, Bool.false_eq_true, if_false, x5 (show i < 1000000 by omega)]
 ·simp only [yz, Nat.lt_irrefl, decide_false, cond_false]
 ·rw [wl fun w => zi w == scrQ]
  cases l.any fun w => zi w == scrQ with
  | true => rfl
  | false => rfl
noncomputable def elB (d : List Nd) (x : Int) : Bool := thr d x && (match idx d x with | some n => n.1 == 2 | none => false)
def nmOf (d : List Nd) (x : Int) : Bs := match idx d x with
 | some n => n.2.1
 | none => []
abbrev nScr : Bs := [115, 99, 114, 105, 112, 116]
def tabS : List ((Bs × Bs) × Int) := [((([105, 102, 114, 97, 109, 101] : Bs), ([115, 114, 99, 100, 111, 99] : Bs)), 1), ((([115, 99, 114, 105, 112, 116] : Bs), ([115, 114, 99] : Bs)), 3)]
theorem z4x : zc7 (Ev.upto 5000) ((), ()) = some ((), (tabS, ())) := by kernel_rfl
noncomputable def zu3 (d : List Nd) (x : Int) (nm : Bs) : Int := if elB d x = true then (if (decide (nm.length > 2) && ((zi nm).take 2 == ([111, 110] : Bs))) = true then 2 else zn0 (nmOf d x, zi nm) 0 tabS) else 0
noncomputable def innS (d : List Nd) (x : Int) : Int := if elB d x = true then (if (nmOf d x == nScr) = true then 2 else 1) else 0
theorem z5y {d : List Nd} {x : Int} (h : elB d x = true) : thr d x = true ∧ ∃ n, idx d x = some n ∧ n.1 = 2 := by
 unfold elB at h
 simp only [Bool.and_eq_true] at h
 refine ⟨h.1, ?_⟩
 cases hn : idx d x with
 | none => rw [hn] at h; cases h.2
 | some n =>
  rw [hn] at h
  exact ⟨n, rfl, by simpa using h.2⟩
theorem z4y (d : List Nd) (x : Int) (hs : Sm d) : ∃ s, zco (Ev.upto 5000) ((d, (x, ())), ()) = some ((s, (elB d x, ())), ()) ∧ (elB d x = true → s = nmOf d x) := by
 unfold zco elB thr nmOf
 simp only [zzk d hs, Option.bind_some]
 by_cases hc : chk d = 0
 ·simp only [hc, bne_self_eq_false, beq_self_eq_true, cond_true, Bool.true_and]
  by_cases h0 : x < 0
  ·simp only [decide_eq_true h0, decide_eq_false (show ¬ x ≥ 0 by omega), show (true == false) = false from rfl, cond_false, Option.bind_some, cond_true, Bool.false_and]
   exact ⟨[], rfl, fun h => by cases h⟩
  ·by_cases h1 : x ≥ (d.length : Int)
   ·simp only [decide_eq_false h0, decide_eq_true h1, decide_eq_false (show ¬ x < (d.length : Int) by omega), beq_self_eq_true, cond_true, Option.bind_some, Bool.and_false, Bool.false_and]
    exact ⟨[], rfl, fun h => by cases h⟩
   ·obtain ⟨n, hn, _⟩ := z0o (show 0 ≤ x by omega) (show x < (d.length : Int) by omega)
    simp only [decide_eq_false h0, decide_eq_false h1, decide_eq_true (show x ≥ 0 by omega), decide_eq_true (show x < (d.length : Int) by omega), beq_self_eq_true, cond_true, cond_false, Option.bind_some, hn, Bool.and_self, Bool.true_and]
    exact ⟨n.2.1, rfl, fun _ => rfl⟩
 ·have : (chk d == 0) = false := beq_eq_false_iff_ne.2 hc
  simp only [bne_iff_ne.2 hc, this, show (true == false) = false from rfl, cond_false, Option.bind_some, cond_true, Bool.false_and]
  exact ⟨[], rfl, fun h => by cases h⟩
theorem z2g (d : List Nd) (x : Int) (hs : Sm d) : qu (Ev.upto 5000) ((d, (x, ())), ()) = some ((elB d x, ()), ()) := by
 unfold qu elB
 simp only [z8e d x hs, Option.bind_some]
 cases ht : thr d x with
 | false => rfl
 | true =>
  obtain ⟨R, hx⟩ := z6s.1 ht
  obtain ⟨n, hn, _⟩ := z0o hx.1 hx.2
  simp only [beq_self_eq_true, cond_true, hn, Option.bind_some, Bool.true_and]
theorem gt2 (n : Nat) : decide ((n : Int) > 2) = decide (n > 2) := by
 by_cases h : n > 2
 ·rw [decide_eq_true h, decide_eq_true (by omega)]
 ·rw [decide_eq_false h, decide_eq_false (by omega)]
theorem z5p (d : List Nd) (x : Int) (nm : Bs) (hs : Sm d) (hn : nm.length ≤ 300) : ke (Ev.upto 5000) ((d, (x, (nm, ()))), ()) = some ((zu3 d x nm, ()), ()) := by
 have hl := zg1 nm
 obtain ⟨s, e, hse⟩ := z4y d x hs
 unfold ke zu3
 simp only
 rw [e]
 simp only [Option.bind_some]
 rw [uj 5000 nm (by omega) (by omega)]
 simp only [Option.bind_some]
 cases he : elB d x with
 | false => rfl
 | true =>
  rw [hse he]
  simp only [Bool.not_true, cond_false, gt2, hl, if_true]
  have hb : ∀ b : Bool, ((if b = true then (2 : Int) else zn0 (nmOf d x, zi nm) 0 tabS) = bif b then 2 else zn0 (nmOf d x, zi nm) 0 tabS) := fun b => by cases b <;> rfl
  cases h2 : decide (nm.length > 2) with
  | false =>
   simp only [show (false == true) = false from rfl, cond_false, Option.bind_some, Bool.false_and, Bool.false_eq_true, if_false]
   rw [z4x]
   rfl
  | true =>
   simp only [beq_self_eq_true, cond_true, Bool.true_and]
   rw [z6t (Ev.upto 5000) (zi nm) [111, 110] (by omega) (by simp)]
   simp only [Option.bind_some]
   show (bif ((zi nm).take 2 == ([111, 110] : Bs)) then _ else _) = _
   cases ((zi nm).take 2 == ([111, 110] : Bs)) with
   | true => rfl
   | false =>
    simp only [cond_false, Bool.false_eq_true, if_false]
    rw [z4x]
    rfl
theorem z24 (el at' : Bs) : zn0 (el, at') (0 : Int) tabS = if (at' == ([115, 114, 99] : Bs)) = true ∧ (el == nScr) = true then 3 else if (at' == ([115, 114, 99, 100, 111, 99] : Bs)) = true ∧ (el == ([105, 102, 114, 97, 109, 101] : Bs)) = true then 1 else 0 := by
 unfold tabS zn0 zn0 zn0
 by_cases h1 : at' = ([115, 114, 99] : Bs) ∧ el = nScr
 ·obtain ⟨rfl, rfl⟩ := h1
  rfl
 ·by_cases h2 : at' = ([115, 114, 99, 100, 111, 99] : Bs) ∧ el = ([105, 102, 114, 97, 109, 101] : Bs)
  ·obtain ⟨rfl, rfl⟩ := h2
   rfl
  ·have e1 : (((([105, 102, 114, 97, 109, 101] : Bs), ([115, 114, 99, 100, 111, 99] : Bs)) : Bs × Bs) == (el, at')) = false := beq_eq_false_iff_ne.2 fun h => h2 (by cases h; exact ⟨rfl, rfl⟩)
   have e2 : (((([115, 99, 114, 105, 112, 116] : Bs), ([115, 114, 99] : Bs)) : Bs × Bs) == (el, at')) = false := beq_eq_false_iff_ne.2 fun h => h1 (by cases h; exact ⟨rfl, rfl⟩)
   simp only [e1, e2, cond_false, beq_iff_eq]
   rw [if_neg h1, if_neg h2]
theorem z8f (d : List Nd) (x : Int) (nm : Bs) (hs : Sm d) (hn : nm.length ≤ 300) : bv (Ev.upto 5000) ((d, (x, (nm, ()))), ()) = some ((zu3 d x nm, ()), ()) := by
 have hl := zg1 nm
 unfold bv zu3
 simp only [z2g d x hs, Option.bind_some]
 cases he : elB d x with
 | false => rfl
 | true =>
  obtain ⟨ht, n, hni, h2k⟩ := z5y he
  have hnm : nmOf d x = n.2.1 := by unfold nmOf; rw [hni]
  simp only [Bool.not_true, cond_false, if_true]
  rw [zlg 5000 nm (by omega) (by omega)]
  simp only [Option.bind_some, gt2, hl, z24, hnm]
  have rest : ∀ b : Bool, b = false → (((bif (zi nm == ([115, 114, 99] : Bs)) == true then ((idx d x).bind fun v5 => (some ((x, (zi nm, ((v5.2.1 == ([115, 99, 114, 105, 112, 116] : Bs)), ()))), ((d, ()), ())))) else (some ((x, (zi nm, (false, ()))), ((d, ()), ())))) : Option ((Int × Bs × Bool × Unit) × (List Nd × Unit) × Unit)).bind fun o6 => (bif o6.1.2.2.1 then (some (((3 : Int), ()), ())) else ((bif ((o6.1.2.1 == ([115, 114, 99, 100, 111, 99] : Bs)) == true) then ((idx o6.2.1.1 o6.1.1).bind fun v7 => (some (((v7.2.1 == ([105, 102, 114, 97, 109, 101] : Bs)), ()), ()))) else (some ((false, ()), ()))).bind fun o8 => (bif o8.1.1 then (some (((1 : Int), ()), ())) else (some (((0 : Int), ()), ())))))) = some (((if (zi nm == ([115, 114, 99] : Bs)) = true ∧ (n.2.1 == nScr) = true then (3 : Int) else if (zi nm == ([115, 114, 99, 100, 111, 99] : Bs)) = true ∧ (n.2.1 == ([105, 102, 114, 97, 109, 101] : Bs)) = true then 1 else 0), ()), ()) := by
   intro b _
   cases h1 : (zi nm == ([115, 114, 99] : Bs)) <;> cases h3 : (n.2.1 == ([115, 99, 114, 105, 112, 116] : Bs)) <;> cases h4 : (zi nm == ([115, 114, 99, 100, 111, 99] : Bs)) <;> cases h5 : (n.2.1 == ([105, 102, 114, 97, 109, 101] : Bs)) <;> simp only [h1, h3, h4, h5, hni, Option.bind_some, beq_self_eq_true, cond_true, cond_false, show (false == true) = false from rfl, true_and, and_self, if_true, Bool.false_eq_true, false_and, and_false, if_false]
  by_cases h2 : nm.length > 2
  ·have hsl : sl (zi nm) (0 : Int) (2 : Int) = some ((zi nm).take 2) := by
    have := z2a (l := zi nm) (a := 0) (b := 2) (by omega) (by omega)
    simpa using this
   simp only [decide_eq_true h2, beq_self_eq_true, cond_true, hsl, Option.bind_some, Bool.true_and]
   cases ((zi nm).take 2 == ([111, 110] : Bs)) with
   | true => rfl
   | false =>
    simp only [cond_false, Bool.false_eq_true, if_false]
    exact rest false rfl
  ·simp only [decide_eq_false h2, show (false == true) = false from rfl, cond_false, Option.bind_some, Bool.false_and, Bool.false_eq_true, if_false]
   exact rest false rfl
theorem z0q (d : List Nd) (x : Int) (hs : Sm d) : kf (Ev.upto 5000) ((d, (x, ())), ()) = some ((innS d x, ()), ()) := by
 obtain ⟨s, e, hse⟩ := z4y d x hs
 unfold kf innS
 simp only
 rw [e]
 simp only [Option.bind_some]
 cases he : elB d x with
 | false => rfl
 | true =>
  rw [hse he]
  simp only [Bool.not_true, cond_false, if_true]
  cases (nmOf d x == ([115, 99, 114, 105, 112, 116] : Bs)) <;> rfl
theorem z7n (d : List Nd) (x : Int) (hs : Sm d) : ge (Ev.upto 5000) ((d, (x, ())), ()) = some ((innS d x, ()), ()) := by
 unfold ge innS
 simp only [z2g d x hs, Option.bind_some]
 cases he : elB d x with
 | false => rfl
 | true =>
  obtain ⟨ht, n, hni, h2k⟩ := z5y he
  have hnm : nmOf d x = n.2.1 := by unfold nmOf; rw [hni]
  simp only [Bool.not_true, cond_false, if_true, hni, Option.bind_some, hnm]
  cases (n.2.1 == ([115, 99, 114, 105, 112, 116] : Bs)) <;> rfl
theorem zgf : zp (Ev.upto 5000) ((), ()) = some ((true, ()), ()) := by kernel_rfl
def zdy (l : List Pol) : Prop := l.length ≤ 15 ∧ ∀ p ∈ l, okP p.1
theorem bigP (l : List Pol) : ∃ b, zx (Ev.upto 5000) ((l, ()), ()) = some ((b, ()), ()) ∧ (b = false → zdy l) := by
 obtain ⟨_, e, b, rfl, h⟩ := zq7 l
 exact ⟨b, e, fun hb => h hb⟩
theorem plainSinkTakes (p : Pol) (d : List Nd) (x : Int) (nm : Bs) : zbi (Ev.upto 5000) ((p, (d, (x, (nm, ())))), ()) = some ((true, ()), ()) := by
 unfold zbi
 obtain ⟨b, hb, hk⟩ := bigP [p]
 obtain ⟨b2, hb2, hk2⟩ := big d
 simp only
 rw [hb]
 simp only [Option.bind_some]
 cases b with
 | true => rfl
 | false =>
  have hp := (hk rfl).2 p (List.mem_cons_self ..)
  simp only [beq_self_eq_true, cond_true, hb2, Option.bind_some]
  cases b2 with
  | true => rfl
  | false =>
   have hd := hk2 rfl
   simp only [beq_self_eq_true, cond_true, Option.bind_some]
   cases hn : decide ((nm.length : Int) > 300) with
   | true => rfl
   | false =>
    have hnm : nm.length ≤ 300 := by have := of_decide_eq_false hn; omega
    simp only [cond_false, own d hd.sm, Option.bind_some]
    rw [zgf]
    simp only [Option.bind_some, beq_self_eq_true, cond_true]
    rw [zm0 p hp]
    simp only [Option.bind_some]
    rw [z4w p hp]
    simp only [Option.bind_some, beq_self_eq_true, cond_true, z5p d x nm hd.sm hnm, z8f d x nm hd.sm hnm, z0q d x hd.sm, z7n d x hd.sm, z5l d hd.sm]
end Go.En.Pl
