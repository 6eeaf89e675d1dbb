/- Text LStarts of this seat: written by a program of ours, or by hand; checked by Lean. -/
import Derived.Test.YtfgphjencdhdgaaGreatDoorG
import Derived.Test.YtfgphjencdhdgaaGreatDoorW
set_option linter.unusedSimpArgs false
set_option linter.unusedVariables false
namespace Go.En.Pl
abbrev At := Bs × Bs
abbrev Nd := Int × (Bs × (Bs × ((List At) × (Int × ((List Int) × (Bool × Bool))))))
def zr {ε σ β : Type} (g : Nat → ε → σ → σ ⊕ β) (fin : σ → β) : Nat → List ε → σ → β
 | _, [], s => fin s
 | i, x :: l, s => match g i x s with
  | .inl s' => zr g fin (i + 1) l s'
  | .inr b => b
theorem zpx {α β σ ε : Type} {f : α → Option (α ⊕ β)} {l : List ε} {N : Nat} (st : Nat → σ → α) (g : Nat → ε → σ → σ ⊕ β) (fin : σ → β) (I : Nat → σ → Prop) (s0 : σ) (h0 : I 0 s0) (hN : l.length < N)
  (hs : ∀ i s (hi : i < l.length), I i s → f (st i s) = some (match g i l[i] s with | .inl s' => .inl (st (i + 1) s') | .inr b => .inr b) ∧ ∀ s', g i l[i] s = .inl s' → I (i + 1) s')
  (he : ∀ s, I l.length s → f (st l.length s) = some (.inr (fin s))) : (Ev.upto N).it f (st 0 s0) = some (zr g fin 0 l s0) := by
 show yf f N (st 0 s0) = _
 have key : ∀ (d i : Nat) (s : σ) (N : Nat), i + d = l.length → d < N → I i s → yf f N (st i s) = some (zr g fin i (l.drop i) s) := by
  intro d
  induction d with
  | zero =>
   intro i s N e hN hi
   have : i = l.length := by omega
   subst this
   cases N with
   | zero => omega
   | succ N =>
    unfold yf
    rw [he s hi, List.drop_length]
    rfl
  | succ d ih =>
   intro i s N e hN hi
   have hlt : i < l.length := by omega
   obtain ⟨h1, h2⟩ := hs i s hlt hi
   cases N with
   | zero => omega
   | succ N =>
    unfold yf
    rw [h1, List.drop_eq_getElem_cons hlt]
    unfold zr
    cases hg : g i l[i] s with
    | inr b => rfl
    | inl s' => exact ih (i + 1) s' N (by omega) (by omega) (h2 s' hg)
 have := key l.length 0 s0 N (by omega) hN h0
 simpa using this
theorem zf {α β σ ε γ : Type} {f : α → Option (α ⊕ β)} {a0 : α} {k : β → Option γ} {r : Option γ} {l : List ε} {N : Nat} (st : Nat → σ → α) (g : Nat → ε → σ → σ ⊕ β) (fin : σ → β) (I : Nat → σ → Prop) (s0 : σ) (ha : a0 = st 0 s0) (h0 : I 0 s0) (hN : l.length < N)
  (hs : ∀ i s (hi : i < l.length), I i s → f (st i s) = some (match g i l[i] s with | .inl s' => .inl (st (i + 1) s') | .inr b => .inr b) ∧ ∀ s', g i l[i] s = .inl s' → I (i + 1) s')
  (he : ∀ s, I l.length s → f (st l.length s) = some (.inr (fin s))) (hr : k (zr g fin 0 l s0) = r) : ((Ev.upto N).it f a0).bind k = r := by
 rw [ha, zpx st g fin I s0 h0 hN hs he]
 exact hr
theorem zu {i : Nat} (h : i < 1000000) : IntKind.wrap .i64 ((i : Int) + 1) = ((i + 1 : Nat) : Int) := by
 rw [zdl (by omega) (by omega)]; rfl
theorem zi (i n : Nat) : decide ((i : Int) < (n : Int)) = decide (i < n) := by
 by_cases h : i < n
 ·rw [decide_eq_true h, decide_eq_true (by omega)]
 ·rw [decide_eq_false h, decide_eq_false (by omega)]
theorem wi {ε β : Type} (g : Nat → ε → Unit → Unit ⊕ β) (fin : Unit → β) : ∀ (l : List ε) (i : Nat), (∀ j (hj : j < l.length), g (i + j) l[j] () = .inl ()) → zr g fin i l () = fin ()
 | [], _, _ => rfl
 | x :: l, i, h => by
  unfold zr
  have h0 := h 0 (by simp)
  simp only [Nat.add_zero, List.getElem_cons_zero] at h0
  rw [h0]
  exact wi g fin l (i + 1) fun j hj => by
   have := h (j + 1) (by simpa using hj)
   rw [show i + 1 + j = i + (j + 1) by omega]
   simpa using this
theorem zzy (l : List Int) (h : l.length ≤ 4000) : jy (Ev.upto 5000) ((l, (l, ())), ()) = some ((true, ()), ()) := by
 unfold jy
 simp only [bne_self_eq_false, cond_false]
 refine zf (l := l) (σ := Unit) (fun i _ => ((l, (l, ((i : Int), ()))), ())) (fun _ _ _ => .inl ()) (fun _ => .inl ((), ())) (fun _ _ => True) () rfl trivial (by omega) (fun i s hi _ => ⟨?_, fun _ _ => trivial⟩) (fun s _ => ?_) (by rw [wi _ _ _ _ (fun _ _ => rfl)])
 ·simp only [zi, decide_eq_true hi, cond_true, zc hi, Option.bind_some, bne_self_eq_false, cond_false, zu (show i < 1000000 by omega)]
 ·simp only [zi, Nat.lt_irrefl, decide_false, cond_false]
theorem z1x (l : List At) (h : l.length ≤ 4000) : wh (Ev.upto 5000) ((l, (l, ())), ()) = some ((true, ()), ()) := by
 unfold wh
 simp only [bne_self_eq_false, cond_false]
 refine zf (l := l) (σ := Unit) (fun i _ => ((l, (l, ((i : Int), ()))), ())) (fun _ _ _ => .inl ()) (fun _ => .inl ((), ())) (fun _ _ => True) () rfl trivial (by omega) (fun i s hi _ => ⟨?_, fun _ _ => trivial⟩) (fun s _ => ?_) (by rw [wi _ _ _ _ (fun _ _ => rfl)])
 ·simp only [zi, decide_eq_true hi, cond_true, zc hi, Option.bind_some, beq_self_eq_true, Bool.and_self, Bool.not_true, cond_false, zu (show i < 1000000 by omega)]
 ·simp only [zi, Nat.lt_irrefl, decide_false, cond_false]
theorem z7a (n : Nd) (h1 : n.2.2.2.1.length ≤ 4000) (h2 : n.2.2.2.2.2.1.length ≤ 4000) : uu (Ev.upto 5000) ((n, (n, ())), ()) = some ((true, ()), ()) := by
 unfold uu
 simp only [beq_self_eq_true, cond_true, z1x _ h1, zzy _ h2, Option.bind_some]
def Sm (d : List Nd) : Prop := d.length ≤ 4000 ∧ ∀ n, n ∈ d → n.2.2.2.1.length ≤ 4000 ∧ n.2.2.2.2.2.1.length ≤ 4000
theorem zzz (d : List Nd) (h : Sm d) : jb (Ev.upto 5000) ((d, (d, ())), ()) = some ((true, ()), ()) := by
 unfold jb
 simp only [bne_self_eq_false, cond_false]
 refine zf (l := d) (σ := Unit) (fun i _ => ((((i : Int), ()), ((d, ()), ((d, ()), ()))))) (fun _ _ _ => .inl ()) (fun _ => .inl ((), ())) (fun _ _ => True) () rfl trivial (by have := h.1; omega) (fun i s hi _ => ⟨?_, fun _ _ => trivial⟩) (fun s _ => ?_) (by rw [wi _ _ _ _ (fun _ _ => rfl)])
 ·have hm := h.2 _ (List.getElem_mem hi)
  have := h.1
  simp only [zi, decide_eq_true hi, cond_true, zc hi, Option.bind_some, z7a _ hm.1 hm.2, Bool.not_true, cond_false, zu (show i < 1000000 by omega)]
 ·simp only [zi, Nat.lt_irrefl, decide_false, cond_false]
def NdOk (n : Nd) : Prop := n.2.1.length ≤ 300 ∧ n.2.2.1.length ≤ 3000 ∧ n.2.2.2.1.length ≤ 40 ∧ n.2.2.2.2.2.1.length ≤ 400 ∧ ∀ a, a ∈ n.2.2.2.1 → a.1.length ≤ 300 ∧ a.2.length ≤ 2000
theorem zas (n : Nat) (k : Nat) : decide ((n : Int) > (k : Int)) = decide (n > k) := by
 by_cases h : n > k
 ·rw [decide_eq_true h, decide_eq_true (by omega)]
 ·rw [decide_eq_false h, decide_eq_false (by omega)]
theorem yr {ε β : Type} (p : ε → Bool) (b e : β) : ∀ (l : List ε) (i : Nat), zr (fun (_ : Nat) (x : ε) (_ : Unit) => if p x then (.inr b : Unit ⊕ β) else .inl ()) (fun _ => e) i l () = if l.any p then b else e
 | [], _ => rfl
 | x :: l, i => by
  unfold zr
  cases hp : p x with
  | true => simp [hp]
  | false => simp only [List.any_cons, hp, Bool.false_or]; exact yr p b e l (i + 1)
theorem zpy (n : Nd) : ∃ b, zo (Ev.upto 5000) ((n, ()), ()) = some ((b, ()), ()) ∧ (b = false → NdOk n) := by
 unfold zo
 simp only [show (300 : Int) = ((300 : Nat) : Int) from rfl, show (3000 : Int) = ((3000 : Nat) : Int) from rfl, show (40 : Int) = ((40 : Nat) : Int) from rfl, show (400 : Int) = ((400 : Nat) : Int) from rfl, show (2000 : Int) = ((2000 : Nat) : Int) from rfl, zas]
 by_cases h1 : n.2.1.length > 300
 ·exact ⟨true, by simp [h1], by simp⟩
 by_cases h2 : n.2.2.1.length > 3000
 ·exact ⟨true, by simp [h1, h2], by simp⟩
 by_cases h3 : n.2.2.2.1.length > 40
 ·exact ⟨true, by simp [h1, h2, h3], by simp⟩
 by_cases h4 : n.2.2.2.2.2.1.length > 400
 ·exact ⟨true, by simp [h1, h2, h3, h4], by simp⟩
 simp only [decide_eq_false h1, decide_eq_false h2, decide_eq_false h3, decide_eq_false h4, beq_self_eq_true, cond_true, Option.bind_some, cond_false]
 refine ⟨n.2.2.2.1.any fun x => decide (x.1.length > 300) || decide (x.2.length > 2000), zf (l := n.2.2.2.1) (σ := Unit) (fun i _ => ((((i : Int), ()), ((n, ()), ())))) (fun _ x _ => if (decide (x.1.length > 300) || decide (x.2.length > 2000)) then .inr (.inr ((true, ()), ())) else .inl ()) (fun _ => .inl ((), ())) (fun _ _ => True) () rfl trivial (by omega) (fun i s hi _ => ⟨?_, fun _ _ => trivial⟩) (fun s _ => ?_) ?_, fun ha => ⟨by omega, by omega, by omega, by omega, fun a hm => ?_⟩⟩
 ·simp only [zi, decide_eq_true hi, cond_true, zc hi, Option.bind_some, zu (show i < 1000000 by omega)]
  by_cases h5 : n.2.2.2.1[i].1.length > 300
  ·simp [h5]
  ·by_cases h6 : n.2.2.2.1[i].2.length > 2000
   ·simp [h5, h6]
   ·simp [h5, h6]
    exact zdl (by omega) (by omega)
 ·simp only [zi, Nat.lt_irrefl, decide_false, cond_false]
 ·rw [yr]
  cases (n.2.2.2.1.any fun x => decide (x.1.length > 300) || decide (x.2.length > 2000)) <;> rfl
 ·simp only [List.any_eq_false, Bool.or_eq_true, decide_eq_true_eq, not_or] at ha
  have := ha a hm
  omega
def kl (d : List Nd) : Prop := d.length ≤ 310 ∧ ∀ n, n ∈ d → NdOk n
theorem kl.sm {d : List Nd} (h : kl d) : Sm d := ⟨by have := h.1; omega, fun n hn => by have := h.2 n hn; unfold NdOk at this; omega⟩
theorem big (d : List Nd) : ∃ b, ya (Ev.upto 5000) ((d, ()), ()) = some ((b, ()), ()) ∧ (b = false → kl d) := by
 unfold ya
 simp only [show (310 : Int) = ((310 : Nat) : Int) from rfl, zas]
 by_cases h1 : d.length > 310
 ·exact ⟨true, by simp [h1], by simp⟩
 simp only [decide_eq_false h1, cond_false]
 have hb : ∀ n : Nd, ∃ b, zo (Ev.upto 5000) ((n, ()), ()) = some ((b, ()), ()) ∧ (b = false → NdOk n) := zpy
 let B : Nd → Bool := fun n => Classical.choose (hb n)
 have hB : ∀ n, zo (Ev.upto 5000) ((n, ()), ()) = some ((B n, ()), ()) ∧ (B n = false → NdOk n) := fun n => Classical.choose_spec (hb n)
 refine ⟨d.any B, zf (l := d) (σ := Unit) (fun i _ => ((((i : Int), ()), ((d, ()), ())))) (fun _ x _ => if B x then .inr (.inr ((true, ()), ())) else .inl ()) (fun _ => .inl ((), ())) (fun _ _ => True) () rfl trivial (by omega) (fun i s hi _ => ⟨?_, fun _ _ => trivial⟩) (fun s _ => ?_) (by rw [yr]; cases d.any B <;> rfl), fun ha => ⟨by omega, fun n hm => (hB n).2 (by simpa using List.any_eq_false.1 ha n hm)⟩⟩
 ·simp only [zi, decide_eq_true hi, cond_true, zc hi, Option.bind_some, (hB _).1, zu (show i < 1000000 by omega)]
  cases B d[i] <;> simp
 ·simp only [zi, Nat.lt_irrefl, decide_false, cond_false]
theorem zem {n k : Nat} (h : n ≤ 10000) (hk : k ≤ 1000) : fits n k = true := zk2 (by have := Nat.mul_le_mul h hk; omega)
theorem z7b (n : Nd) (h1 : n.2.2.2.1.length ≤ 4000) (h2 : n.2.2.2.2.2.1.length ≤ 4000) : ke (Ev.upto 5000) ((n, ()), ()) = some ((n.1, (n.2.1, (n.2.2.1, (n.2.2.2.2.1, (n.2.2.2.2.2.2.1, (n.2.2.2.2.2.2.2, ())))))), (n.2.2.2.1, (n.2.2.2.2.2.1, ()))) := by
 unfold ke
 simp only [zem (show n.2.2.2.1.length ≤ 10000 by omega) (show 32 ≤ 1000 by omega), zem (show n.2.2.2.2.2.1.length ≤ 10000 by omega) (show 8 ≤ 1000 by omega), cond_true]
theorem zk3 {ε β : Type} (fin : List ε → β) : ∀ (l s : List ε) (i : Nat), zr (fun (_ : Nat) (x : ε) (s : List ε) => (.inl (s ++ [x]) : List ε ⊕ β)) fin i l s = fin (s ++ l)
 | [], s, _ => by simp [zr]
 | x :: l, s, i => by
  unfold zr
  simp only
  rw [zk3 fin l (s ++ [x]) (i + 1)]
  simp
theorem own (d : List Nd) (h : Sm d) : qw (Ev.upto 5000) ((d, ()), ()) = some ((), (d, ())) := by
 unfold qw
 refine zf (l := d) (σ := List Nd) (fun i s => ((((i : Int), ()), ((d, ()), ((), (s, ())))))) (fun _ x s => .inl (s ++ [x])) (fun s => ((), ((), (s, ())))) (fun i s => s.length = i) [] rfl rfl (by have := h.1; omega) (fun i s hi hl => ⟨?_, fun s' e => ?_⟩) (fun s _ => ?_) (by rw [zk3]; rfl)
 ·have hm := h.2 _ (List.getElem_mem hi)
  have := h.1
  simp only [zi, decide_eq_true hi, cond_true, zc hi, Option.bind_some, z7b _ hm.1 hm.2, zem (show s.length + [d[i]].length ≤ 10000 by simp; omega) (show 104 ≤ 1000 by omega), zu (show i < 1000000 by omega)]
 ·simp only [Sum.inl.injEq] at e
  subst e
  simp [hl]
 ·simp only [zi, Nat.lt_irrefl, decide_false, cond_false]
def mayB (n : Nd) : Bool :=
 if n.1 = 2 then !(n.2.1 == []) && (n.2.2.1 == []) && decide (n.2.2.2.1.length ≤ 30) && decide ((n.2.2.2.1.map (·.1)).Nodup)
 else decide (1 ≤ n.1) && decide (n.1 ≤ 4) && (n.2.1 == []) && (n.2.2.2.1.length == 0) && !n.2.2.2.2.2.2.1 && !n.2.2.2.2.2.2.2 && (n.1 != 1 || n.2.2.1 == [])
def zcs (acc : List (Bs × Bool)) (l : List At) : List (Bs × Bool) := l.foldl (fun s x => mput (fun (a b : Bs) => a == b) x.1 true s) acc
theorem wj (k : Bs) : ∀ (l : List (Bs × Bool)), (k ∈ l.map (·.1) → (mput (fun (a b : Bs) => a == b) k true l).map (·.1) = l.map (·.1)) ∧ (k ∉ l.map (·.1) → (mput (fun (a b : Bs) => a == b) k true l).map (·.1) = l.map (·.1) ++ [k])
 | [] => ⟨fun h => by simp at h, fun _ => rfl⟩
 | p :: l => by
  have ih := wj k l
  cases hk : k == p.1 with
  | true =>
   have e : k = p.1 := by simpa using hk
   simp only [mput, hk, cond_true]
   refine ⟨fun _ => by simp [e], fun h => absurd (by simp [e]) h⟩
  | false =>
   have e : ¬ k = p.1 := by simpa using hk
   simp only [mput, hk, cond_false]
   refine ⟨fun h => ?_, fun h => ?_⟩
   ·have : k ∈ l.map (·.1) := by simpa [e] using h
    simp only [List.map_cons, ih.1 this]
   ·have : k ∉ l.map (·.1) := fun hx => h (by simp only [List.map_cons, List.mem_cons]; exact .inr hx)
    simp only [List.map_cons, ih.2 this, List.cons_append]
theorem zat : ∀ (l : List At) (acc : List (Bs × Bool)), (zcs acc l).length ≤ acc.length + l.length ∧ ((zcs acc l).length = acc.length + l.length ↔ (l.map (·.1)).Nodup ∧ ∀ x, x ∈ l.map (·.1) → x ∉ acc.map (·.1))
 | [], acc => by simp [zcs]
 | a :: l, acc => by
  have hk := wj a.1 acc
  have ih := zat l (mput (fun (a b : Bs) => a == b) a.1 true acc)
  have e1 : zcs acc (a :: l) = zcs (mput (fun (a b : Bs) => a == b) a.1 true acc) l := rfl
  rw [e1]
  by_cases hm : a.1 ∈ acc.map (·.1)
  ·have hl : (mput (fun (a b : Bs) => a == b) a.1 true acc).length = acc.length := by have := congrArg List.length (hk.1 hm); simpa using this
   rw [hl] at ih
   refine ⟨by simp only [List.length_cons]; omega, ⟨fun h => ?_, fun h => ?_⟩⟩
   ·simp only [List.length_cons] at h; have := ih.1; omega
   ·exact absurd hm (h.2 _ (by simp))
  ·have hl : (mput (fun (a b : Bs) => a == b) a.1 true acc).length = acc.length + 1 := by have := congrArg List.length (hk.2 hm); simpa using this
   rw [hl, hk.2 hm] at ih
   refine ⟨by simp only [List.length_cons]; omega, ?_⟩
   rw [List.length_cons, show acc.length + (l.length + 1) = acc.length + 1 + l.length by omega, ih.2]
   simp only [List.map_cons, List.map_nil, List.nodup_cons, List.mem_append, List.mem_singleton, not_or, List.mem_cons, List.not_mem_nil, or_false]
   constructor
   ·rintro ⟨h1, h2⟩
    refine ⟨⟨fun hx => (h2 _ hx).2 rfl, h1⟩, fun x hx => ?_⟩
    rcases hx with rfl | hx
    ·exact hm
    ·exact (h2 x hx).1
   ·rintro ⟨⟨h1, h2⟩, h3⟩
    exact ⟨h2, fun x hx => ⟨h3 x (.inr hx), fun e => h1 (e ▸ hx)⟩⟩
theorem zct (l : List At) : ((((zcs [] l).length : Nat) : Int) == (l.length : Int)) = decide ((l.map (·.1)).Nodup) := by
 have := (zat l []).2
 simp only [List.length_nil, Nat.zero_add, List.map_nil, List.not_mem_nil, not_false_eq_true, implies_true, and_true] at this
 rw [Bool.eq_iff_iff, beq_iff_eq, decide_eq_true_eq, ← this]
 omega
theorem wk {β : Type} (fin : List (Bs × Bool) → β) : ∀ (l : List At) (s : List (Bs × Bool)) (i : Nat), zr (fun (_ : Nat) (x : At) (s : List (Bs × Bool)) => (.inl (mput (fun (a b : Bs) => a == b) x.1 true s) : List (Bs × Bool) ⊕ β)) fin i l s = fin (zcs s l)
 | [], s, _ => rfl
 | x :: l, s, i => by
  unfold zr
  simp only
  rw [wk fin l _ (i + 1)]
  rfl
theorem zpz (k : Bs) (s : List (Bs × Bool)) : (mput (fun (a b : Bs) => a == b) k true s).length ≤ s.length + 1 := by
 have := wj k s
 by_cases h : k ∈ s.map (·.1)
 ·have := congrArg List.length (this.1 h); simp at this; omega
 ·have := congrArg List.length (this.2 h); simp at this; omega
theorem zws (n : Nd) (h : n.2.2.2.1.length ≤ 4000) : zce (Ev.upto 5000) ((n, ()), ()) = some ((mayB n, ()), ()) := by
 unfold zce mayB
 by_cases hk : n.1 = 2
 ·simp only [hk, bne_self_eq_false, cond_false, if_true]
  refine zf (l := n.2.2.2.1) (σ := List (Bs × Bool)) (fun i s => (((n.2.2.2.1, ((n.2.2.2.1.length : Int), ((i : Int), ())))), ((n, ()), (s, ())))) (fun _ x s => .inl (mput (fun (a b : Bs) => a == b) x.1 true s)) (fun s => ((), ((n, ()), (s, ())))) (fun i s => s.length ≤ i) [] rfl (Nat.le_refl _) (by omega) (fun i s hi hl => ⟨?_, fun s' e => ?_⟩) (fun s _ => ?_) ?_
  ·have hm : s.length < maxB := by simp only [maxB]; omega
   simp only [zi, decide_eq_true hi, cond_true, zc hi, Option.bind_some, decide_eq_true hm, zu (show i < 1000000 by omega)]
  ·simp only [Sum.inl.injEq] at e
   subst e
   have := zpz n.2.2.2.1[i].1 s
   omega
  ·simp only [zi, Nat.lt_irrefl, decide_false, cond_false]
  ·rw [wk]
   simp only [zct, show (30 : Int) = ((30 : Nat) : Int) from rfl, Int.ofNat_le]
   cases (n.2.1 == []) <;> cases (n.2.2.1 == []) <;> by_cases h3 : n.2.2.2.1.length ≤ 30 <;> simp [h3]
 ·have h1 : (n.1 != 2) = true := by simpa using hk
  simp only [h1, cond_true, if_neg hk]
  have h0 : ((n.2.2.2.1.length : Int) == 0) = (n.2.2.2.1.length == 0) := by rw [Bool.eq_iff_iff]; simp
  simp only [h0, ge_iff_le]
  by_cases h2 : 1 ≤ n.1 <;> by_cases h3 : n.1 ≤ 4 <;> cases (n.2.1 == []) <;> cases (n.2.2.2.1.length == 0) <;> cases n.2.2.2.2.2.2.1 <;> cases n.2.2.2.2.2.2.2 <;> cases (n.1 != 1) <;> simp [h2, h3]
def wl (l : List At) (a : Bs) : Nat → Bool
 | 0 => false
 | i + 1 => wl l a i || (match l[i]? with | some x => a == x.1 | none => false)
theorem zwt (n : Nd) (h : n.2.2.2.1.length ≤ 4000) : x3 (Ev.upto 5000) ((n, ()), ()) = some ((mayB n, ()), ()) := by
 unfold x3
 have h0 : ((n.2.2.2.1.length : Int) == 0) = (n.2.2.2.1.length == 0) := by rw [Bool.eq_iff_iff]; simp
 have hb : ∀ (K : ((Bool × Unit) × ((Nd × Unit) × Unit)) → Option ((Bool × Unit) × Unit)), ((bif ((n.2.2.2.1.length : Int) == 0) == true then bif (!n.2.2.2.2.2.2.1) == true then bif (!n.2.2.2.2.2.2.2) == true then some ((n.2.1 == [], ()), ((n, ()), ())) else some ((false, ()), ((n, ()), ())) else some ((false, ()), ((n, ()), ())) else some ((false, ()), ((n, ()), ()))) : Option ((Bool × Unit) × ((Nd × Unit) × Unit))).bind K
   = K (((n.2.2.2.1.length == 0) && !n.2.2.2.2.2.2.1 && !n.2.2.2.2.2.2.2 && (n.2.1 == []), ()), ((n, ()), ())) := by
  intro K
  rw [h0]
  cases (n.2.2.2.1.length == 0) <;> cases n.2.2.2.2.2.2.1 <;> cases n.2.2.2.2.2.2.2 <;> simp
 refine (hb _).trans ?_
 unfold mayB
 by_cases hk1 : n.1 = 1
 ·simp only [hk1, beq_self_eq_true, cond_true]
  cases (n.2.2.2.1.length == 0) <;> cases n.2.2.2.2.2.2.1 <;> cases n.2.2.2.2.2.2.2 <;> cases (n.2.1 == []) <;> simp
 have e1 : (n.1 == 1) = false := by simpa using hk1
 by_cases hk3 : n.1 = 3
 ·simp only [hk3, beq_self_eq_true, cond_true]
  cases (n.2.2.2.1.length == 0) <;> cases n.2.2.2.2.2.2.1 <;> cases n.2.2.2.2.2.2.2 <;> cases (n.2.1 == []) <;> simp
 have e3 : (n.1 == 3) = false := by simpa using hk3
 by_cases hk4 : n.1 = 4
 ·simp only [hk4, beq_self_eq_true, cond_true]
  cases (n.2.2.2.1.length == 0) <;> cases n.2.2.2.2.2.2.1 <;> cases n.2.2.2.2.2.2.2 <;> cases (n.2.1 == []) <;> simp
 have e4 : (n.1 == 4) = false := by simpa using hk4
 by_cases hk2 : n.1 = 2
 ·simp only [e1, e3, e4, cond_false, Option.bind_some, hk2, beq_self_eq_true, cond_true, if_true]
  refine zf (l := n.2.2.2.1) (σ := Unit) (fun i _ => ((((i : Int), ()), ((n, ()), ())))) (fun i x _ => if wl n.2.2.2.1 x.1 i then .inr (.inr ((false, ()), ())) else .inl ()) (fun _ => .inl ((), ((n, ()), ()))) (fun _ _ => True) () rfl trivial (by omega) (fun i s hi _ => ⟨?_, fun _ _ => trivial⟩) (fun s _ => ?_) ?_
  ·simp only [zi, decide_eq_true hi, cond_true]
   refine zf (l := n.2.2.2.1.take i) (σ := Unit) (fun k _ => ((((i : Int), ((k : Int), ())), ((n, ()), ())))) (fun _ y _ => if n.2.2.2.1[i].1 == y.1 then .inr (.inr ((false, ()), ())) else .inl ()) (fun _ => .inl (((i : Int), ()), ((n, ()), ()))) (fun _ _ => True) () rfl trivial (by simp; omega) (fun k s hk _ => ⟨?_, fun _ _ => trivial⟩) (fun s _ => ?_) ?_
   ·have hk' : k < i := by simp at hk; omega
    have hkl : k < n.2.2.2.1.length := by omega
    simp only [zi, decide_eq_true hk', cond_true, zc hi, zc hkl, Option.bind_some, List.getElem_take]
    cases hx : (n.2.2.2.1[i].1 == n.2.2.2.1[k].1)
    ·simp only [cond_false, zu (show k < 1000000 by omega)]; rfl
    ·rfl
   ·have : (n.2.2.2.1.take i).length = i := by simp; omega
    rw [this]
    simp only [zi, Nat.lt_irrefl, decide_false, cond_false]
   ·rw [yr]
    have hin : ∀ j, j ≤ n.2.2.2.1.length → ((n.2.2.2.1.take j).any fun y => n.2.2.2.1[i].1 == y.1) = wl n.2.2.2.1 n.2.2.2.1[i].1 j := by
     intro j
     induction j with
     | zero => intro _; rfl
     | succ j ih =>
      intro hj
      rw [List.take_succ_eq_append_getElem (by omega), List.any_append, ih (by omega)]
      simp only [List.any_cons, List.any_nil, Bool.or_false, wl, List.getElem?_eq_getElem (show j < n.2.2.2.1.length by omega)]
    rw [hin i (by omega)]
    cases wl n.2.2.2.1 n.2.2.2.1[i].1 i
    ·simp only [Bool.false_eq_true, if_false, zu (show i < 1000000 by omega)]
    ·simp
  ·simp only [zi, Nat.lt_irrefl, decide_false, cond_false]
  ·
   have hall : ∀ (l : List At) (m : List At) (i : Nat), i = l.length → n.2.2.2.1 = l ++ m → (l.map (·.1)).Nodup → zr (fun i (x : At) (_ : Unit) => if wl n.2.2.2.1 x.1 i then (.inr (.inr ((false, ()), ())) : Unit ⊕ ((Unit × ((Nd × Unit) × Unit)) ⊕ ((Bool × Unit) × Unit))) else .inl ()) (fun _ => .inl ((), ((n, ()), ()))) i m () = if (n.2.2.2.1.map (·.1)).Nodup then .inl ((), ((n, ()), ())) else .inr ((false, ()), ()) := by
    intro l m
    induction m generalizing l with
    | nil => intro i hi e hn; rw [e, List.append_nil, if_pos hn]; rfl
    | cons x m ih =>
     intro i hi e hn
     have hin : wl n.2.2.2.1 x.1 i = decide (x.1 ∈ l.map (·.1)) := by
      have : ∀ j, j ≤ l.length → wl n.2.2.2.1 x.1 j = decide (x.1 ∈ (l.take j).map (·.1)) := by
       intro j
       induction j with
       | zero => intro _; simp [wl]
       | succ j ihj =>
        intro hj
        have hg : n.2.2.2.1[j]? = some l[j] := by rw [e, List.getElem?_append_left (by omega), List.getElem?_eq_getElem]
        simp only [wl, ihj (by omega), hg]
        rw [List.take_succ_eq_append_getElem (by omega)]
        rw [Bool.eq_iff_iff]
        simp only [Bool.or_eq_true, decide_eq_true_eq, beq_iff_eq, List.map_append, List.mem_append, List.map_cons, List.map_nil, List.mem_singleton]
      rw [this i (by omega), hi, List.take_length]
     unfold zr
     rw [hin]
     by_cases hx : x.1 ∈ l.map (·.1)
     ·rw [decide_eq_true hx]
      have : ¬ (n.2.2.2.1.map (·.1)).Nodup := by
       rw [e, List.map_append, List.map_cons, List.nodup_append]
       rintro ⟨_, _, h3⟩
       exact h3 _ hx _ (List.mem_cons_self ..) rfl
      rw [if_neg this]
      rfl
     ·rw [decide_eq_false hx]
      simp only [Bool.false_eq_true, if_false]
      refine ih (l ++ [x]) (i + 1) (by simp [hi]) (by rw [e]; simp) ?_
      rw [List.map_append, List.nodup_append]
      refine ⟨hn, by simp, fun a ha b hb => ?_⟩
      simp only [List.map_cons, List.map_nil, List.mem_singleton] at hb
      rintro rfl
      exact hx (hb ▸ ha)
   rw [hall [] n.2.2.2.1 0 rfl rfl (by simp)]
   have h30 : decide ((n.2.2.2.1.length : Int) ≤ 30) = decide (n.2.2.2.1.length ≤ 30) := by
    by_cases h : n.2.2.2.1.length ≤ 30
    ·rw [decide_eq_true h, decide_eq_true (by omega)]
    ·rw [decide_eq_false h, decide_eq_false (by omega)]
   by_cases hn : (n.2.2.2.1.map (·.1)).Nodup
   ·rw [if_pos hn]
    simp only [h30]
    cases (n.2.1 == []) <;> cases (n.2.2.1 == []) <;> simp [hn]
   ·rw [if_neg hn]
    simp [hn]
 have e2 : (n.1 == 2) = false := by simpa using hk2
 simp only [e1, e3, e4, e2, cond_false, Option.bind_some, if_neg hk2]
 have : ¬ (1 ≤ n.1 ∧ n.1 ≤ 4) := by omega
 by_cases h1 : 1 ≤ n.1
 ·have : ¬ n.1 ≤ 4 := fun h => this ⟨h1, h⟩
  simp [this]
 ·simp [h1]
def zp (n : Nd) : Bool := n.1 == 1 || n.1 == 2
theorem zjt (n : Nd) : wt (Ev.upto 5000) ((n, ()), ()) = some ((zp n, ()), ()) := by
 unfold wt zp
 cases (n.1 == 1) <;> simp
theorem zdm (n : Nd) : yu (Ev.upto 5000) ((n, ()), ()) = some ((zp n, ()), ()) := by
 unfold yu zp
 cases (n.1 == 1) <;> simp
abbrev za (n : Nd) : List Int := n.2.2.2.2.2.1
abbrev zm (n : Nd) : Int := n.2.2.2.2.1
def pr (d : List Nd) (i : Int) : Int := match idx d i with
 | some n => zm n
 | none => -1
def zd (d : List Nd) : List Int := d.flatMap za
def up (d : List Nd) : Nat → Int → Int
 | 0, x => x
 | j + 1, x => up d j (pr d x)
structure zg (d : List Nd) : Prop where
 len : d.length ≤ 300
 pos : 0 < d.length
 may : ∀ n, n ∈ d → mayB n = true
 root : ∀ (i : Nat) (n : Nd), d[i]? = some n → (n.1 = 1 ↔ i = 0)
 par0 : pr d 0 = -1
 holds : ∀ n, n ∈ d → za n ≠ [] → zp n = true
 rng : ∀ n, n ∈ d → ∀ k, k ∈ za n → 1 ≤ k ∧ k < d.length
 nodup : (zd d).Nodup
 back : ∀ (i : Nat) (n : Nd), d[i]? = some n → ∀ k, k ∈ za n → pr d k = (i : Int)
 laid : ∀ (i : Nat) (n : Nd), d[i]? = some n → zm n ≠ -1 → (i : Int) ∈ zd d
 ends : ∀ (i : Nat) (n : Nd), d[i]? = some n → ∃ j, j ≤ d.length ∧ up d j (zm n) = -1
theorem yh {α : Type} {l : List α} {i : Int} {x : α} (h : idx l i = some x) : 0 ≤ i ∧ i < l.length ∧ l[i.toNat]? = some x := by
 unfold idx at h
 split at h
 ·rename_i h0
  have := (List.getElem?_eq_some_iff.1 h).1
  exact ⟨h0, by omega, h⟩
 ·cases h
theorem ww {α : Type} {l : List α} {i : Int} (h0 : 0 ≤ i) (h : i < l.length) : ∃ x, idx l i = some x ∧ l[i.toNat]? = some x := by
 have hi : i.toNat < l.length := by omega
 exact ⟨l[i.toNat], by unfold idx; rw [if_pos h0, List.getElem?_eq_getElem hi], List.getElem?_eq_getElem hi⟩
theorem z6 {d : List Nd} {i : Nat} {n : Nd} (h : d[i]? = some n) : pr d (i : Int) = zm n := by
 unfold pr idx
 rw [if_pos (by omega), Int.toNat_natCast, h]
def lay (n : Nat) (K : List Int) : List Bool := (List.range n).map fun j : Nat => decide ((j : Int) ∈ K)
theorem qp (n : Nat) (K : List Int) : (lay n K).length = n := by simp [lay]
theorem qq {n : Nat} {K : List Int} {i : Nat} (h : i < n) : (lay n K)[i]? = some (decide ((i : Int) ∈ K)) := by simp [lay, h]
theorem zp0 (n : Nat) : lay n [] = List.replicate n false := by
 apply List.ext_getElem?
 intro i
 by_cases h : i < n
 ·rw [qq h]; simp [h]
 ·rw [List.getElem?_eq_none (by rw [qp]; omega), List.getElem?_eq_none (by simp; omega)]
theorem zp1 {n : Nat} {K : List Int} {i : Nat} (h : i < n) : (lay n K).set i true = lay n (K ++ [(i : Int)]) := by
 apply List.ext_getElem?
 intro j
 rw [List.getElem?_set, qp]
 by_cases e : i = j
 ·subst e
  rw [if_pos rfl, if_pos h, qq h]
  simp
 ·rw [if_neg e]
  by_cases hj : j < n
  ·rw [qq hj, qq hj]
   have : ((j : Int) ∈ K ++ [(i : Int)]) ↔ (j : Int) ∈ K := by
    simp only [List.mem_append, List.mem_singleton]
    constructor
    ·rintro (h | h)
     ·exact h
     ·omega
    ·exact .inl
   simp only [this]
  ·rw [List.getElem?_eq_none (by rw [qp]; omega), List.getElem?_eq_none (by rw [qp]; omega)]
def x7 (d : List Nd) (i : Int) : List Int → List Int → Bool
 | _, [] => true
 | K, k :: r => (decide (1 ≤ k) && decide (k < (d.length : Int)) && !decide (k ∈ K) && (pr d k == i)) && x7 d i (K ++ [k]) r
def wm (d : List Nd) (i : Nat) (n : Nd) (K : List Int) : Bool := mayB n && !(decide (i > 0) && n.1 == 1) && (za n == [] || zp n) && x7 d i K (za n)
def wn (d : List Nd) : Nat → List Int → List Nd → Bool
 | _, _, [] => true
 | i, K, n :: r => wm d i n K && wn d (i + 1) (K ++ za n) r
theorem jz (d : List Nd) (i : Int) : ∀ (l K : List Int), K.Nodup → (x7 d i K l = true ↔ (∀ k, k ∈ l → 1 ≤ k ∧ k < d.length ∧ pr d k = i) ∧ (K ++ l).Nodup)
 | [], K, hK => by simp [x7, hK]
 | k :: l, K, hK => by
  simp only [x7, Bool.and_eq_true, decide_eq_true_eq, Bool.not_eq_true', decide_eq_false_iff_not, beq_iff_eq]
  have e : K ++ k :: l = (K ++ [k]) ++ l := by simp
  rw [e]
  constructor
  ·rintro ⟨⟨⟨⟨h1, h2⟩, h3⟩, h4⟩, h5⟩
   have hK' : (K ++ [k]).Nodup := by
    rw [List.nodup_append]
    exact ⟨hK, by simp, fun a ha b hb => by simp at hb; rintro rfl; exact h3 (hb ▸ ha)⟩
   obtain ⟨h6, h7⟩ := (jz d i l (K ++ [k]) hK').1 h5
   refine ⟨fun x hx => ?_, h7⟩
   rcases List.mem_cons.1 hx with rfl | hx
   ·exact ⟨h1, h2, h4⟩
   ·exact h6 x hx
  ·rintro ⟨h1, h2⟩
   have hK' : (K ++ [k]).Nodup := (List.nodup_append.1 h2).1
   have h3 : k ∉ K := fun hx => (List.nodup_append.1 hK').2.2 k hx k (by simp) rfl
   obtain ⟨h4, h5, h6⟩ := h1 k (List.mem_cons_self ..)
   exact ⟨⟨⟨⟨h4, h5⟩, h3⟩, h6⟩, (jz d i l (K ++ [k]) hK').2 ⟨fun x hx => h1 x (List.mem_cons_of_mem _ hx), h2⟩⟩
theorem jj (d : List Nd) : ∀ (l : List Nd) (i : Nat) (K : List Int), K.Nodup → (wn d i K l = true ↔
  (∀ j n, l[j]? = some n → mayB n = true ∧ (i + j > 0 → n.1 ≠ 1) ∧ (za n ≠ [] → zp n = true) ∧ ∀ k, k ∈ za n → 1 ≤ k ∧ k < d.length ∧ pr d k = ((i + j : Nat) : Int)) ∧ (K ++ l.flatMap za).Nodup)
 | [], i, K, hK => by simp [wn, hK]
 | n :: l, i, K, hK => by
  simp only [wn, wm, Bool.and_eq_true]
  rw [jz d i (za n) K hK]
  have e : K ++ (n :: l).flatMap za = (K ++ za n) ++ l.flatMap za := by simp
  rw [e]
  constructor
  ·rintro ⟨⟨⟨⟨h1, h2⟩, h3⟩, h4, h5⟩, h6⟩
   obtain ⟨h7, h8⟩ := (jj d l (i + 1) (K ++ za n) h5).1 h6
   refine ⟨fun j m hj => ?_, h8⟩
   cases j with
   | zero =>
    simp only [List.getElem?_cons_zero, Option.some.injEq] at hj
    subst hj
    refine ⟨h1, fun hi hk => ?_, fun hne => ?_, fun k hk => ?_⟩
    ·simp only [Nat.add_zero] at hi
     simp [hk, hi] at h2
    ·cases hh : za n with
     | nil => exact absurd hh hne
     | cons a b => simpa [hh] using h3
    ·exact h4 k hk
   | succ j =>
    have := h7 j m (by simpa using hj)
    rw [show i + (j + 1) = i + 1 + j by omega]
    exact this
  ·rintro ⟨h1, h2⟩
   obtain ⟨g1, g2, g3, g4⟩ := h1 0 n rfl
   have h5 : (K ++ za n).Nodup := (List.nodup_append.1 h2).1
   refine ⟨⟨⟨⟨g1, ?_⟩, ?_⟩, g4, h5⟩, (jj d l (i + 1) (K ++ za n) h5).2 ⟨fun j m hj => ?_, h2⟩⟩
   ·by_cases hi : i > 0
    ·have := g2 (by omega); simp [hi, this]
    ·simp [hi]
   ·cases hh : za n with
    | nil => simp
    | cons a b => simp [g3 (by rw [hh]; simp)]
   ·have := h1 (j + 1) m (by simpa using hj)
    rw [show i + 1 + j = i + (j + 1) by omega]
    exact this
theorem zdn {ε σ β : Type} (ok : Nat → ε → σ → Bool) (nx : Nat → ε → σ → σ) (bad : β) (fin : σ → β) : ∀ (l : List ε) (i : Nat) (s : σ),
  zr (fun i x s => if ok i x s then (.inl (nx i x s) : σ ⊕ β) else .inr bad) fin i l s = match l with
   | [] => fin s
   | x :: r => if ok i x s then zr (fun i x s => if ok i x s then (.inl (nx i x s) : σ ⊕ β) else .inr bad) fin (i + 1) r (nx i x s) else bad
 | [], _, _ => rfl
 | x :: l, i, s => by
  show (match (if ok i x s then (.inl (nx i x s) : σ ⊕ β) else .inr bad) with | .inl s' => _ | .inr b => b) = _
  simp only
  cases ok i x s <;> rfl
theorem zdo {β : Type} (d : List Nd) (i : Int) (bad : β) (fin : List Int → β) : ∀ (l : List Int) (j : Nat) (K : List Int),
  zr (fun (_ : Nat) (k : Int) (K : List Int) => if (decide (1 ≤ k) && decide (k < (d.length : Int)) && !decide (k ∈ K) && (pr d k == i)) then (.inl (K ++ [k]) : List Int ⊕ β) else .inr bad) fin j l K = if x7 d i K l then fin (K ++ l) else bad
 | [], j, K => by simp [zr, x7]
 | k :: l, j, K => by
  rw [zdn (fun _ k K => (decide (1 ≤ k) && decide (k < (d.length : Int)) && !decide (k ∈ K) && (pr d k == i))) (fun _ k K => K ++ [k])]
  by_cases hc : (decide (1 ≤ k) && decide (k < (d.length : Int)) && !decide (k ∈ K) && (pr d k == i)) = true
  ·have e2 : x7 d i K (k :: l) = x7 d i (K ++ [k]) l := by show (_ && _) = _; rw [hc, Bool.true_and]
   simp only [if_pos hc, e2, zdo d i bad fin l (j + 1) (K ++ [k])]
   simp
  ·have e2 : x7 d i K (k :: l) = false := by show (_ && _) = _; rw [Bool.eq_false_iff.2 hc, Bool.false_and]
   simp only [if_neg hc, e2]
   simp
theorem zau {β : Type} (d : List Nd) (bad : β) (fin : List Int → β) : ∀ (l : List Nd) (i : Nat) (K : List Int),
  zr (fun (i : Nat) (n : Nd) (K : List Int) => if wm d i n K then (.inl (K ++ za n) : List Int ⊕ β) else .inr bad) fin i l K = if wn d i K l then fin (K ++ l.flatMap za) else bad
 | [], i, K => by simp [zr, wn]
 | n :: l, i, K => by
  rw [zdn (fun i n K => wm d i n K) (fun i n K => K ++ za n)]
  by_cases hc : wm d i n K = true
  ·have e2 : wn d i K (n :: l) = wn d (i + 1) (K ++ za n) l := by show (_ && _) = _; rw [hc, Bool.true_and]
   simp only [if_pos hc, e2, zau d bad fin l (i + 1) (K ++ za n)]
   simp
  ·have e2 : wn d i K (n :: l) = false := by show (_ && _) = _; rw [Bool.eq_false_iff.2 hc, Bool.false_and]
   simp only [if_neg hc, e2]
   simp
theorem ye {ε β : Type} (p : Nat → ε → Bool) (b e : β) : ∀ (l : List ε) (i : Nat), (∃ j x, l[j]? = some x ∧ p (i + j) x = true) ∧ zr (fun (i : Nat) (x : ε) (_ : Unit) => if p i x then (.inr b : Unit ⊕ β) else .inl ()) (fun _ => e) i l () = b ∨
  (∀ j x, l[j]? = some x → p (i + j) x = false) ∧ zr (fun (i : Nat) (x : ε) (_ : Unit) => if p i x then (.inr b : Unit ⊕ β) else .inl ()) (fun _ => e) i l () = e
 | [], i => .inr ⟨fun j x h => by simp at h, rfl⟩
 | y :: l, i => by
  cases hp : p i y with
  | true => exact .inl ⟨⟨0, y, rfl, hp⟩, by unfold zr; simp [hp]⟩
  | false =>
   rcases ye p b e l (i + 1) with ⟨⟨j, x, h1, h2⟩, h3⟩ | ⟨h1, h3⟩
   ·refine .inl ⟨⟨j + 1, x, by simpa using h1, by rw [show i + (j + 1) = i + 1 + j by omega]; exact h2⟩, ?_⟩
    unfold zr
    simp only [hp, Bool.false_eq_true, if_false]
    exact h3
   ·refine .inr ⟨fun j x hj => ?_, ?_⟩
    ·cases j with
     | zero => simp only [List.getElem?_cons_zero, Option.some.injEq] at hj; subst hj; exact hp
     | succ j => rw [show i + (j + 1) = i + 1 + j by omega]; exact h1 j x (by simpa using hj)
    ·unfold zr
     simp only [hp, Bool.false_eq_true, if_false]
     exact h3
open Classical in
noncomputable def chk (d : List Nd) : Int := if d.length > 300 then 2 else if zg d then 0 else 171
theorem zwu {α β : Type} {f : α → Option (α ⊕ β)} (d : List Nd) (st : Nat → Int → α) (ok bad : β) (cl : ∀ x : Int, 0 ≤ x → x < d.length → pr d x = -1 ∨ (0 ≤ pr d x ∧ pr d x < d.length))
  (h0 : ∀ s, f (st s (-1)) = some (.inr ok)) (h1 : ∀ (s : Nat) (x : Int), 0 ≤ x → x < d.length → s + 1 > d.length → s ≤ d.length → f (st s x) = some (.inr bad)) (h2 : ∀ (s : Nat) (x : Int), 0 ≤ x → x < d.length → s + 1 ≤ d.length → f (st s x) = some (.inl (st (s + 1) (pr d x)))) :
  ∀ (m s : Nat) (x : Int) (N : Nat), s + m = d.length → m + 1 < N → (x = -1 ∨ (0 ≤ x ∧ x < d.length)) → ((∃ j, j ≤ m ∧ up d j x = -1) ∧ yf f N (st s x) = some ok) ∨ ((¬ ∃ j, j ≤ m ∧ up d j x = -1) ∧ yf f N (st s x) = some bad) := by
 intro m
 induction m with
 | zero =>
  intro s x N hs hN hx
  obtain ⟨N, rfl⟩ : ∃ M, N = M + 1 := ⟨N - 1, by omega⟩
  unfold yf
  rcases hx with rfl | ⟨hx0, hx1⟩
  ·exact .inl ⟨⟨0, Nat.le_refl _, rfl⟩, by rw [h0]; rfl⟩
  ·refine .inr ⟨?_, by rw [h1 s x hx0 hx1 (by omega) (by omega)]; rfl⟩
   rintro ⟨j, hj, hu⟩
   obtain rfl : j = 0 := by omega
   simp only [up] at hu
   omega
 | succ m ih =>
  intro s x N hs hN hx
  obtain ⟨N, rfl⟩ : ∃ M, N = M + 1 := ⟨N - 1, by omega⟩
  unfold yf
  rcases hx with rfl | ⟨hx0, hx1⟩
  ·exact .inl ⟨⟨0, Nat.zero_le _, rfl⟩, by rw [h0]; rfl⟩
  ·rw [h2 s x hx0 hx1 (by omega)]
   simp only [Option.bind_some]
   rcases ih (s + 1) (pr d x) N (by omega) (by omega) (cl x hx0 hx1) with ⟨⟨j, h3, h4⟩, h5⟩ | ⟨h3, h5⟩
   ·exact .inl ⟨⟨j + 1, by omega, h4⟩, h5⟩
   ·refine .inr ⟨?_, h5⟩
    rintro ⟨j, hj, hu⟩
    cases j with
    | zero => simp only [up] at hu; omega
    | succ j => exact h3 ⟨j, by omega, hu⟩
theorem zl6 (d : List Nd) (k : Int) : decide (k ≥ (d.length : Int)) = !decide (k < (d.length : Int)) := by
 by_cases h : k < (d.length : Int)
 ·rw [decide_eq_true h, decide_eq_false (by omega)]; rfl
 ·rw [decide_eq_false h, decide_eq_true (by omega)]; rfl
theorem zl7 (k : Int) : decide (k < 1) = !decide (1 ≤ k) := by
 by_cases h : 1 ≤ k
 ·rw [decide_eq_true h, decide_eq_false (by omega)]; rfl
 ·rw [decide_eq_false h, decide_eq_true (by omega)]; rfl
theorem zl8 (i : Nat) : decide ((i : Int) > 0) = decide (i > 0) := by
 by_cases h : i > 0
 ·rw [decide_eq_true h, decide_eq_true (by omega)]
 ·rw [decide_eq_false h, decide_eq_false (by omega)]
theorem zwv (l : List Int) : decide (l.length > 0) = !(l == []) := by
 cases l with
 | nil => rfl
 | cons a l => simp
theorem zgx (d : List Nd) (h3 : d.length ≤ 300) (n0 : Nd) (hn0 : d[0]? = some n0) : zg d ↔ (n0.1 = 1 ∧ zm n0 = -1) ∧ wn d 0 [] d = true ∧ (∀ (j : Nat) (n : Nd), d[j]? = some n → decide ((j : Int) ∈ zd d) = (zm n != -1)) ∧ (∀ (j : Nat) n, d[j]? = some n → ∃ m, m ≤ d.length ∧ up d m (zm n) = -1) := by
 rw [jj d d 0 [] (by simp)]
 simp only [Nat.zero_add, List.nil_append]
 have hmem : ∀ k : Int, k ∈ zd d ↔ ∃ (i : Nat) (n : Nd), d[i]? = some n ∧ k ∈ za n := by
  intro k
  unfold zd
  rw [List.mem_flatMap]
  constructor
  ·rintro ⟨n, hn, hk⟩
   obtain ⟨i, hi⟩ := List.getElem?_of_mem hn
   exact ⟨i, n, hi, hk⟩
  ·rintro ⟨i, n, hi, hk⟩
   exact ⟨n, List.mem_of_getElem? hi, hk⟩
 constructor
 ·intro R
  refine ⟨⟨(R.root 0 n0 hn0).2 rfl, by have := R.par0; rw [show (0 : Int) = ((0 : Nat) : Int) from rfl, z6 hn0] at this; exact this⟩, ⟨fun j n hj => ⟨R.may n (List.mem_of_getElem? hj), fun hj0 hk => by have := (R.root j n hj).1 hk; omega, R.holds n (List.mem_of_getElem? hj), fun k hk => ⟨(R.rng n (List.mem_of_getElem? hj) k hk).1, (R.rng n (List.mem_of_getElem? hj) k hk).2, R.back j n hj k hk⟩⟩, R.nodup⟩, fun j n hj => ?_, R.ends⟩
  rw [Bool.eq_iff_iff]
  simp only [decide_eq_true_eq, bne_iff_ne, ne_eq]
  constructor
  ·intro hk
   obtain ⟨i, m, hi, hk⟩ := (hmem _).1 hk
   have := R.back i m hi _ hk
   rw [z6 hj] at this
   omega
  ·exact R.laid j n hj
 ·rintro ⟨⟨h1, h2⟩, ⟨h4, h5⟩, h6, h7⟩
  refine ⟨h3, by have := (List.getElem?_eq_some_iff.1 hn0).1; omega, fun n hn => ?_, fun i n hi => ⟨fun hk => ?_, fun hi0 => ?_⟩, by rw [show (0 : Int) = ((0 : Nat) : Int) from rfl, z6 hn0]; exact h2, fun n hn => ?_, fun n hn k hk => ?_, h5, fun i n hi k hk => ((h4 i n hi).2.2.2 k hk).2.2, fun i n hi hp => ?_, h7⟩
  ·obtain ⟨i, hi⟩ := List.getElem?_of_mem hn; exact (h4 i n hi).1
  ·rcases Nat.eq_zero_or_pos i with h | h
   ·exact h
   ·exact absurd hk ((h4 i n hi).2.1 h)
  ·subst hi0; rw [hn0] at hi; cases hi; exact h1
  ·obtain ⟨i, hi⟩ := List.getElem?_of_mem hn; exact (h4 i n hi).2.2.1
  ·obtain ⟨i, hi⟩ := List.getElem?_of_mem hn
   have := (h4 i n hi).2.2.2 k hk
   exact ⟨this.1, this.2.1⟩
  ·have := h6 i n hi
   rw [show (zm n != -1) = true by simpa using hp] at this
   simpa using this
theorem bu (d : List Nd) (h : Sm d) : xi (Ev.upto 5000) ((d, ()), ()) = some ((chk d, ()), ()) := by
 unfold xi
 simp only [show (300 : Int) = ((300 : Nat) : Int) from rfl, zas]
 unfold chk
 by_cases h3 : d.length > 300
 ·rw [if_pos h3]; simp [h3]
 rw [if_neg h3]
 simp only [decide_eq_false h3, cond_false]
 cases hd : d[0]? with
 | none =>
  have hd0 : d = [] := by
   cases d with
   | nil => rfl
   | cons a d => simp at hd
  subst hd0
  rw [if_neg (fun R => by have := R.pos; simp at this)]
  rfl
 | some n0 =>
  have hpos : 0 < d.length := (List.getElem?_eq_some_iff.1 hd).1
  have hl0 : ((d.length : Int) == 0) = false := by rw [beq_eq_false_iff_ne]; omega
  have hi0 : idx d 0 = some n0 := by unfold idx; simpa using hd
  simp only [hl0, beq_self_eq_true, cond_true, hi0, Option.bind_some]
  by_cases hr1 : n0.1 = 1
  case neg =>
   rw [if_neg (fun R => hr1 ((R.root 0 n0 hd).2 rfl))]
   have : (n0.1 != 1) = true := by simpa using hr1
   simp [this]
  have e1 : (n0.1 != 1) = false := by simpa using hr1
  simp only [e1, beq_self_eq_true, cond_true, Option.bind_some]
  by_cases hr2 : zm n0 = -1
  case neg =>
   rw [if_neg (fun R => hr2 (by have := R.par0; rw [show (0 : Int) = ((0 : Nat) : Int) from rfl, z6 hd] at this; exact this))]
   have : (n0.2.2.2.2.1 != -1) = true := by simpa using hr2
   simp [this]
  have e2 : (n0.2.2.2.2.1 != -1) = false := by simpa using hr2
  simp only [e2, cond_false]
  simp only [Int.toNat_natCast, zem (show d.length ≤ 10000 by omega) (show 1 ≤ 1000 by omega), show decide ((0 : Int) ≤ (d.length : Int)) = true from decide_eq_true (by omega), beq_self_eq_true, Bool.and_self, cond_true]
  have hRI := zgx d (by omega) n0 hd
  simp only [hr1, hr2, and_self, true_and] at hRI

  refine zf (l := d) (σ := List Int) (fun i K => (((d, ((d.length : Int), ((i : Int), ())))), ((d, ()), (lay d.length K, ())))) (fun i n K => if wm d i n K then .inl (K ++ za n) else .inr (.inr ((171, ()), ()))) (fun K => .inl ((), ((d, ()), (lay d.length K, ())))) (fun _ _ => True) [] (by rw [zp0]; rfl) trivial (by omega) (fun i K hi _ => ⟨?_, fun _ _ => trivial⟩) (fun K _ => ?_) ?_
  ·have hm := h.2 _ (List.getElem_mem hi)
   have hm2 : (za d[i]).length ≤ 4000 := hm.2
   simp only [zi, decide_eq_true hi, cond_true, zc hi, Option.bind_some, zws _ hm.1, zjt d[i], zl8, zwv]
   have flag : ∀ (X : ((Int × (List Nd) × Int × Int × Bool × Unit) × ((List Nd × Unit) × (List Bool) × (Nd × Unit) × Unit)) → Option (((List Nd × Int × Int × Unit) × ((List Nd × Unit) × (List Bool) × Unit)) ⊕ ((Unit × ((List Nd × Unit) × (List Bool) × Unit)) ⊕ ((Int × Unit) × Unit)))),
     (((bif (!mayB d[i]) == false then bif decide (i > 0) == true then bif (d[i].1 == 1) == false then bif (!(za d[i] == [])) == true then some (((i : Int), (d, ((d.length : Int), ((i : Int), ((!zp d[i]), ()))))), ((d, ()), (lay d.length K, ((d[i], ()), ())))) else some (((i : Int), (d, ((d.length : Int), ((i : Int), (false, ()))))), ((d, ()), (lay d.length K, ((d[i], ()), ())))) else some (((i : Int), (d, ((d.length : Int), ((i : Int), (true, ()))))), ((d, ()), (lay d.length K, ((d[i], ()), ())))) else bif (!(za d[i] == [])) == true then some (((i : Int), (d, ((d.length : Int), ((i : Int), ((!zp d[i]), ()))))), ((d, ()), (lay d.length K, ((d[i], ()), ())))) else some (((i : Int), (d, ((d.length : Int), ((i : Int), (false, ()))))), ((d, ()), (lay d.length K, ((d[i], ()), ())))) else some (((i : Int), (d, ((d.length : Int), ((i : Int), (true, ()))))), ((d, ()), (lay d.length K, ((d[i], ()), ()))))) : Option _).bind X)
     = X (((i : Int), (d, ((d.length : Int), ((i : Int), (!(mayB d[i] && !(decide (i > 0) && d[i].1 == 1) && (za d[i] == [] || zp d[i])), ()))))), ((d, ()), (lay d.length K, ((d[i], ()), ())))) := by
    intro X
    cases mayB d[i] <;> cases decide (i > 0) <;> cases (d[i].1 == 1) <;> cases (za d[i] == []) <;> cases zp d[i] <;> rfl
   refine (flag _).trans ?_
   unfold wm
   cases hfl : (mayB d[i] && !(decide (i > 0) && d[i].1 == 1) && (za d[i] == [] || zp d[i])) with
   | false => simp
   | true =>
    simp only [Bool.not_true, cond_false, Bool.true_and]
    refine zf (l := za d[i]) (σ := List Int) (fun j K => (((i : Int), (d, ((d.length : Int), ((i : Int), (za d[i], (((za d[i]).length : Int), ((j : Int), ()))))))), ((d, ()), (lay d.length K, ())))) (fun _ k K => if (decide (1 ≤ k) && decide (k < (d.length : Int)) && !decide (k ∈ K) && (pr d k == (i : Int))) then .inl (K ++ [k]) else .inr (.inr ((171, ()), ()))) (fun K => .inl ((d, ((d.length : Int), ((i : Int), ()))), ((d, ()), (lay d.length K, ())))) (fun _ _ => True) K rfl trivial (by omega) (fun j K hj _ => ⟨?_, fun _ _ => trivial⟩) (fun K _ => ?_) ?_
    ·simp only [zi, decide_eq_true hj, cond_true, zc hj, Option.bind_some, zl7, zl6, qp]
     generalize (za d[i])[j] = k
     by_cases k1 : 1 ≤ k
     case neg => simp [k1]
     by_cases k2 : k < (d.length : Int)
     case neg => simp [k1, k2]
     obtain ⟨a, rfl⟩ := Int.eq_ofNat_of_zero_le (show 0 ≤ k by omega)
     have ha : a < d.length := by omega
     have hnd : d[a]? = some d[a] := List.getElem?_eq_getElem ha
     simp only [decide_eq_true k1, decide_eq_true k2, show decide (0 ≤ (a : Int)) = true from decide_eq_true (by omega), Bool.not_true, beq_self_eq_true, Bool.and_self, cond_true, Int.toNat_natCast, qq ha, Option.bind_some, zc ha, Bool.true_and]
     by_cases k3 : (a : Int) ∈ K
     ·simp [k3]
     ·rw [z6 hnd]
      simp only [decide_eq_false k3, beq_self_eq_true, cond_true, Option.bind_some, Bool.not_false, Bool.true_and]
      by_cases k4 : zm d[a] = (i : Int)
      ·have b1 : (d[a].2.2.2.2.1 != (i : Int)) = false := by simpa using k4
       have b2 : (zm d[a] == (i : Int)) = true := by simpa using k4
       simp only [b1, b2, cond_false, if_true, qp, decide_eq_true k2, show decide (0 ≤ (a : Int)) = true from decide_eq_true (by omega), Bool.and_self, cond_true, Int.toNat_natCast, qq ha, Option.bind_some, zp1 ha, zu (show j < 1000000 by omega)]
      ·have b1 : (d[a].2.2.2.2.1 != (i : Int)) = true := by simpa using k4
       have b2 : (zm d[a] == (i : Int)) = false := by simpa using k4
       simp only [b1, b2, cond_true, Bool.false_eq_true, if_false]
    ·simp only [zi, Nat.lt_irrefl, decide_false, cond_false]
    ·rw [zdo]
     cases x7 d (i : Int) K (za d[i])
     ·rfl
     ·simp only [if_true, zu (show i < 1000000 by omega)]
  ·simp only [zi, Nat.lt_irrefl, decide_false, cond_false]
  ·rw [zau]
   cases hok : wn d 0 [] d with
   | false =>
    rw [if_neg (show ¬ zg d from fun R => by have := (hRI.1 R).1; rw [hok] at this; cases this)]
    rfl
   | true =>
    simp only [if_true, List.nil_append]

    have hK := ((jj d d 0 [] (by simp)).1 hok)
    show Option.bind _ _ = _
    refine zf (l := d) (σ := Unit) (fun i _ => (((d, ((d.length : Int), ((i : Int), ())))), ((d, ()), (lay d.length (zd d), ())))) (fun i n _ => if !(decide ((i : Int) ∈ zd d) == (zm n != -1)) then .inr (.inr ((171, ()), ())) else .inl ()) (fun _ => .inl ((), ((d, ()), ()))) (fun _ _ => True) () rfl trivial (by omega) (fun i s hi _ => ⟨?_, fun _ _ => trivial⟩) (fun s _ => ?_) ?_
    ·simp only [zi, decide_eq_true hi, cond_true, zc hi, Option.bind_some, qp, show decide (0 ≤ (i : Int)) = true from decide_eq_true (by omega), Bool.and_self, Int.toNat_natCast, qq hi]
     cases hx : (decide ((i : Int) ∈ zd d) == (zm d[i] != -1))
     ·simp
     ·simp only [Bool.not_true, cond_false, Bool.false_eq_true, if_false, zu (show i < 1000000 by omega)]
    ·simp only [zi, Nat.lt_irrefl, decide_false, cond_false]
    ·rcases ye (fun (i : Nat) (n : Nd) => !(decide ((i : Int) ∈ zd d) == (zm n != -1))) ((.inr ((171, ()), ())) : (Unit × ((List Nd × Unit) × Unit)) ⊕ ((Int × Unit) × Unit)) (.inl ((), ((d, ()), ()))) d 0 with ⟨⟨j, n, hj, hp⟩, hf⟩ | ⟨hall, hf⟩
     ·rw [hf]
      rw [if_neg (fun R => by
       have := (hRI.1 R).2.1 j n hj
       simp [this] at hp)]
     ·rw [hf]
      have hl : ∀ (j : Nat) (n : Nd), d[j]? = some n → decide ((j : Int) ∈ zd d) = (zm n != -1) := fun j n hj => by
       have := hall j n hj
       simpa using this
      have cl : ∀ x : Int, 0 ≤ x → x < d.length → pr d x = -1 ∨ (0 ≤ pr d x ∧ pr d x < d.length) := by
       intro x hx0 hx1
       obtain ⟨a, rfl⟩ := Int.eq_ofNat_of_zero_le hx0
       have ha : a < d.length := by omega
       have hnd : d[a]? = some d[a] := List.getElem?_eq_getElem ha
       by_cases hp : pr d (a : Int) = -1
       ·exact .inl hp
       ·have h9 := hl a _ hnd
        rw [z6 hnd] at hp
        rw [show (zm d[a] != -1) = true by simpa using hp] at h9
        have h10 : (a : Int) ∈ zd d := by simpa using h9
        obtain ⟨m, hm1, hm2⟩ := List.mem_flatMap.1 h10
        obtain ⟨i, hi⟩ := List.getElem?_of_mem hm1
        have h11 := ((hK.1 i m hi).2.2.2 _ hm2).2.2
        have := (List.getElem?_eq_some_iff.1 hi).1
        rw [h11]
        right
        omega

      show Option.bind _ _ = _
      have wl : ∀ (i : Nat) (hi : i < d.length), (∃ m, m ≤ d.length ∧ up d m (zm d[i]) = -1) ∨ ¬ ∃ m, m ≤ d.length ∧ up d m (zm d[i]) = -1 := fun i hi => Classical.em _
      classical
      refine zf (l := d) (σ := Unit) (fun i _ => (((d, ((d.length : Int), ((i : Int), ())))), ((d, ()), ()))) (fun i n _ => if !decide (∃ m, m ≤ d.length ∧ up d m (zm n) = -1) then .inr (.inr ((171, ()), ())) else .inl ()) (fun _ => .inl ((), ())) (fun _ _ => True) () rfl trivial (by omega) (fun i s hi _ => ⟨?_, fun _ _ => trivial⟩) (fun s _ => ?_) ?_
      ·have hnd : d[i]? = some d[i] := List.getElem?_eq_getElem hi
       have hrng : zm d[i] = -1 ∨ (0 ≤ zm d[i] ∧ zm d[i] < d.length) := by have := cl i (by omega) (by omega); rwa [z6 hnd] at this
       simp only [zi, decide_eq_true hi, cond_true, zc hi, Option.bind_some]
       generalize hf0 : (fun (s30 : (Int × Int × List Nd × Int × Int × Unit) × ((List Nd × Unit) × Unit)) => (bif s30.1.2.1 != -1 then _ else _ : Option (((Int × Int × List Nd × Int × Int × Unit) × ((List Nd × Unit) × Unit)) ⊕ (((List Nd × Int × Int × Unit) × ((List Nd × Unit) × Unit)) ⊕ ((Int × Unit) × Unit))))) = f0
       have hw := zwu (f := f0) d (fun s x => (((s : Int), (x, (d, ((d.length : Int), ((i : Int), ()))))), ((d, ()), ()))) (.inl ((d, ((d.length : Int), ((i : Int), ()))), ((d, ()), ()))) (.inr ((171, ()), ())) cl (fun s => by rw [← hf0]; rfl) (fun s x hx0 hx1 hs1 hs2 => ?_) (fun s x hx0 hx1 hs1 => ?_) d.length 0 (zm d[i]) 5000 (by omega) (by omega) hrng
       ·rcases hw with ⟨he, hv⟩ | ⟨he, hv⟩
        ·rw [decide_eq_true he]
         show ((yf f0 5000 _).bind _) = _
         have hv' : yf f0 5000 (((0 : Int), (d[i].2.2.2.2.1, (d, ((d.length : Int), ((i : Int), ()))))), ((d, ()), ())) = _ := hv
         rw [hv']
         simp only [Option.bind_some, Bool.not_true, Bool.false_eq_true, if_false, zu (show i < 1000000 by omega)]
        ·rw [decide_eq_false he]
         show ((yf f0 5000 _).bind _) = _
         have hv' : yf f0 5000 (((0 : Int), (d[i].2.2.2.2.1, (d, ((d.length : Int), ((i : Int), ()))))), ((d, ()), ())) = _ := hv
         rw [hv']
         rfl
       ·rw [← hf0]
        have b1 : (x != -1) = true := by simp; omega
        simp only [b1, cond_true, zu (show s < 1000000 by omega), zas, decide_eq_true hs1]
       ·rw [← hf0]
        have b1 : (x != -1) = true := by simp; omega
        obtain ⟨a, rfl⟩ := Int.eq_ofNat_of_zero_le hx0
        have ha : a < d.length := by omega
        simp only [b1, cond_true, zu (show s < 1000000 by omega), zas, decide_eq_false (show ¬ s + 1 > d.length by omega), cond_false, zc ha, Option.bind_some, z6 (List.getElem?_eq_getElem ha)]
      ·simp only [zi, Nat.lt_irrefl, decide_false, cond_false]
      ·rcases ye (fun (i : Nat) (n : Nd) => !decide (∃ m, m ≤ d.length ∧ up d m (zm n) = -1)) ((.inr ((171, ()), ())) : (Unit × Unit) ⊕ ((Int × Unit) × Unit)) (.inl ((), ())) d 0 with ⟨⟨j, n, hj, hp⟩, hf⟩ | ⟨hall2, hf⟩
       ·rw [hf]
        rw [if_neg (fun R => by
         have := (hRI.1 R).2.2 j n hj
         simp [this] at hp)]
       ·rw [hf]
        rw [if_pos (hRI.2 ⟨hok, hl, fun j n hj => by simpa using hall2 j n hj⟩)]
theorem zgy {α β : Type} (f : α → List β) : ∀ {l : List α}, (l.flatMap f).Nodup → ∀ {i j : Nat} {x y : α} {b : β}, l[i]? = some x → l[j]? = some y → b ∈ f x → b ∈ f y → i = j
 | [], _, i, j, x, y, b, hi, _, _, _ => by simp at hi
 | a :: l, h, i, j, x, y, b, hi, hj, hx, hy => by
  rw [List.flatMap_cons, List.nodup_append] at h
  obtain ⟨h1, h2, h3⟩ := h
  cases i with
  | zero =>
   cases j with
   | zero => rfl
   | succ j =>
    simp only [List.getElem?_cons_zero, Option.some.injEq] at hi
    subst hi
    exact absurd rfl (h3 b hx b (List.mem_flatMap.2 ⟨y, List.mem_of_getElem? (by simpa using hj), hy⟩))
  | succ i =>
   cases j with
   | zero =>
    simp only [List.getElem?_cons_zero, Option.some.injEq] at hj
    subst hj
    exact absurd rfl (h3 b hy b (List.mem_flatMap.2 ⟨x, List.mem_of_getElem? (by simpa using hi), hx⟩))
   | succ j => exact congrArg (· + 1) (zgy f h2 (by simpa using hi) (by simpa using hj) hx hy)
def gm (d : List Nd) (n : Nd) : Bool := !((!(za n == []) && !zp n) || decide ((za n).length > d.length)) && (za n).all fun k => decide (1 ≤ k) && decide (k < (d.length : Int))
theorem zp2 (d : List Nd) (h : Sm d) (i : Nat) (hi : i < d.length) : xj (Ev.upto 5000) ((d, ((i : Int), ())), ()) = some ((gm d d[i], ()), ()) := by
 unfold xj
 have hm2 : (za d[i]).length ≤ 4000 := (h.2 _ (List.getElem_mem hi)).2
 have hgt : decide (((za d[i]).length : Int) > 0) = !(za d[i] == []) := (zas (za d[i]).length 0).trans (zwv _)
 have flag : ∀ (X : (List Int × Bool × Unit) × ((List Nd × Unit) × Unit) → Option ((Bool × Unit) × Unit)), (((bif (!(za d[i] == [])) == true then (bif (!zp d[i]) == false then some ((za d[i], (decide ((za d[i]).length > d.length), ())), ((d, ()), ())) else some ((za d[i], (true, ())), ((d, ()), ()))) else some ((za d[i], (decide ((za d[i]).length > d.length), ())), ((d, ()), ()))) : Option _).bind X)
   = X ((za d[i], ((!(za d[i] == []) && !zp d[i]) || decide ((za d[i]).length > d.length), ())), ((d, ()), ())) := by
  intro X
  cases (za d[i] == []) <;> cases zp d[i] <;> simp
 simp only [zc hi, Option.bind_some, zdm d[i], hgt, zas]
 refine (flag _).trans ?_
 unfold gm
 cases hfl : ((!(za d[i] == []) && !zp d[i]) || decide ((za d[i]).length > d.length)) with
 | true => simp
 | false =>
  simp only [cond_false, Bool.not_false, Bool.true_and]
  refine zf (l := za d[i]) (σ := Unit) (fun j _ => ((za d[i], ((j : Int), ())), ((d, ()), ()))) (fun _ k _ => if !(decide (1 ≤ k) && decide (k < (d.length : Int))) then .inr (.inr ((false, ()), ())) else .inl ()) (fun _ => .inl ((), ())) (fun _ _ => True) () rfl trivial (by omega) (fun j s hj _ => ⟨?_, fun _ _ => trivial⟩) (fun s _ => ?_) ?_
  ·simp only [zi, decide_eq_true hj, cond_true, zc hj, Option.bind_some, zl7, zl6]
   generalize (za d[i])[j] = k
   by_cases k1 : 1 ≤ k
   case neg => simp [k1]
   by_cases k2 : k < (d.length : Int)
   case neg => simp [k1, k2]
   simp only [decide_eq_true k1, decide_eq_true k2, Bool.not_true, beq_self_eq_true, cond_true, Option.bind_some, cond_false, Bool.and_self, Bool.false_eq_true, if_false, zu (show j < 1000000 by omega)]
  ·simp only [zi, Nat.lt_irrefl, decide_false, cond_false]
  ·rw [yr]
   have : ((za d[i]).any fun k => !(decide (1 ≤ k) && decide (k < (d.length : Int)))) = !((za d[i]).all fun k => decide (1 ≤ k) && decide (k < (d.length : Int))) := by rw [List.not_all_eq_any_not]
   rw [this]
   cases ((za d[i]).all fun k => decide (1 ≤ k) && decide (k < (d.length : Int))) <;> rfl
theorem z44 {i : Nat} (h : i < 100000000) : IntKind.wrap .i64 ((i : Int) + 1) = ((i + 1 : Nat) : Int) := by
 rw [zdl (by omega) (by omega)]; rfl
theorem wo {ε σ β : Type} (nx : Nat → ε → σ → σ) (fin : σ → β) : ∀ (l : List ε) (i : Nat) (s : σ), zr (fun i x s => (.inl (nx i x s) : σ ⊕ β)) fin i l s = fin ((l.foldl (fun (p : Nat × σ) x => (p.1 + 1, nx p.1 x p.2)) (i, s)).2)
 | [], _, _ => rfl
 | x :: l, i, s => by
  unfold zr
  simp only
  rw [wo nx fin l (i + 1) (nx i x s)]
  rfl
theorem zp3 {ε σ : Type} (nx : ε → σ → σ) : ∀ (l : List ε) (i : Nat) (s : σ), (l.foldl (fun (p : Nat × σ) x => (p.1 + 1, nx x p.2)) (i, s)).2 = l.foldl (fun s x => nx x s) s
 | [], _, _ => rfl
 | x :: l, i, s => by rw [List.foldl_cons, List.foldl_cons]; exact zp3 nx l (i + 1) (nx x s)
theorem zav (x : Int) : ∀ (l : List Int) (c : Nat), l.foldl (fun (s : Nat) k => if k = x then s + 1 else s) c = c + l.count x
 | [], c => by simp
 | k :: l, c => by
  rw [List.foldl_cons, zav x l]
  by_cases h : k = x
  ·subst h; simp [List.count_cons]; omega
  ·rw [if_neg h, List.count_cons, if_neg (by simpa using h)]
   rfl
theorem un (x : Int) : ∀ (l : List Nd) (c : Nat), l.foldl (fun (s : Nat) n => s + (za n).count x) c = c + (l.flatMap za).count x
 | [], c => by simp
 | n :: l, c => by
  rw [List.foldl_cons, un x l, List.flatMap_cons, List.count_append]
  omega
theorem zju (d : List Nd) (h : Sm d) (hl : d.length ≤ 300) (x : Int) : y1 (Ev.upto 5000) ((d, (x, ())), ()) = some (((((zd d).count x : Nat) : Int), ()), ()) := by
 unfold y1
 refine zf (l := d) (σ := Nat) (fun i c => (((x, ((c : Int), ((i : Int), ())))), ((d, ()), ()))) (fun _ n c => .inl (c + (za n).count x)) (fun c => (((c : Int), ()), ())) (fun i c => c ≤ i * 4000) 0 rfl (by simp) (by omega) (fun i c hi hc => ⟨?_, fun c' e => ?_⟩) (fun s _ => ?_) ?_
 ·have hm2 : (za d[i]).length ≤ 4000 := (h.2 _ (List.getElem_mem hi)).2
  simp only [zi, decide_eq_true hi, cond_true]
  refine zf (l := za d[i]) (σ := Nat) (fun j c => (((x, ((c : Int), ((i : Int), ((j : Int), ()))))), ((d, ()), ()))) (fun _ k c => .inl (if k = x then c + 1 else c)) (fun c => ((x, ((c : Int), ((i : Int), ()))), ((d, ()), ()))) (fun j c' => c' ≤ i * 4000 + j) c rfl (Nat.le_trans hc (Nat.le_add_right _ _)) (by omega) (fun j c hj hc => ⟨?_, fun c' e => ?_⟩) (fun s _ => ?_) ?_
  ·simp only [zc hi, Option.bind_some, zi, decide_eq_true hj, cond_true, zc hj]
   have hil : i ≤ 300 := by omega
   have hjl : j ≤ 4000 := by omega
   by_cases hk : (za d[i])[j] = x
   ·have hb : ((za d[i])[j] == x) = true := by simpa using hk
    simp only [hb, cond_true, Option.bind_some, if_pos hk, z44 (show c < 100000000 by omega), zu (show j < 1000000 by omega)]
   ·have hb : ((za d[i])[j] == x) = false := by simpa using hk
    simp only [hb, cond_false, Option.bind_some, if_neg hk, zu (show j < 1000000 by omega)]
  ·simp only [Sum.inl.injEq] at e
   subst e
   split <;> omega
  ·simp only [zc hi, Option.bind_some, zi, Nat.lt_irrefl, decide_false, cond_false]
  ·rw [wo (fun _ k c => if k = x then c + 1 else c), zp3 (fun k c => if k = x then c + 1 else c), zav]
   simp only [zu (show i < 1000000 by omega)]
 ·simp only [Sum.inl.injEq] at e
  subst e
  have h2 : (za d[i]).count x ≤ (za d[i]).length := List.count_le_length
  have hm2 : (za d[i]).length ≤ 4000 := (h.2 _ (List.getElem_mem hi)).2
  omega
 ·simp only [zi, Nat.lt_irrefl, decide_false, cond_false]
 ·rw [wo (fun _ n c => c + (za n).count x), zp3 (fun n c => c + (za n).count x), un]
  simp [zd]
theorem zww (d : List Nd) (h : Sm d) (p : Nat) (hp : p < d.length) (x : Int) : x4 (Ev.upto 5000) ((d, ((p : Int), (x, ()))), ()) = some ((decide (x ∈ za d[p]), ()), ()) := by
 unfold x4
 have hm2 : (za d[p]).length ≤ 4000 := (h.2 _ (List.getElem_mem hp)).2
 refine zf (l := za d[p]) (σ := Unit) (fun j _ => ((((p : Int), (x, ((j : Int), ())))), ((d, ()), ()))) (fun _ k _ => if k == x then .inr (.inr ((true, ()), ())) else .inl ()) (fun _ => .inl ((), ())) (fun _ _ => True) () rfl trivial (by omega) (fun j s hj _ => ⟨?_, fun _ _ => trivial⟩) (fun s _ => ?_) ?_
 ·simp only [zc hp, Option.bind_some, zi, decide_eq_true hj, cond_true, zc hj]
  cases ((za d[p])[j] == x)
  ·simp only [cond_false, Bool.false_eq_true, if_false, zu (show j < 1000000 by omega)]
  ·simp
 ·simp only [zc hp, Option.bind_some, zi, Nat.lt_irrefl, decide_false, cond_false]
 ·rw [yr]
  have : ((za d[p]).any fun k => k == x) = decide (x ∈ za d[p]) := by
   rw [Bool.eq_iff_iff, List.any_eq_true, decide_eq_true_eq]
   constructor
   ·rintro ⟨k, h1, h2⟩; rw [← (by simpa using h2 : k = x)]; exact h1
   ·exact fun h => ⟨x, h, by simp⟩
  rw [this]
  by_cases hx : x ∈ za d[p] <;> simp [hx]
def y9 (d : List Nd) (i : Nat) : Bool :=
 if pr d i = -1 then (zd d).count (i : Int) == 0
 else decide (0 < i) && decide (0 ≤ pr d i) && decide (pr d i < (d.length : Int)) && (match idx d (pr d i) with | some m => zp m && decide ((i : Int) ∈ za m) | none => false) && ((zd d).count (i : Int) == 1)
theorem zgz (d : List Nd) (h : Sm d) (hl : d.length ≤ 300) (i : Nat) (hi : i < d.length) : y4 (Ev.upto 5000) ((d, ((i : Int), ())), ()) = some ((y9 d i, ()), ()) := by
 unfold y4 y9
 have hpr : pr d (i : Int) = zm d[i] := z6 (List.getElem?_eq_getElem hi)
 simp only [zc hi, Option.bind_some, zju d h hl, hpr]
 by_cases h1 : zm d[i] = -1
 ·have b1 : (d[i].2.2.2.2.1 == -1) = true := by simpa using h1
  simp only [b1, cond_true, if_pos h1]
  have : ∀ c : Nat, ((c : Int) == 0) = (c == 0) := fun c => by rw [Bool.eq_iff_iff]; simp
  simp only [this]
 ·have b1 : (d[i].2.2.2.2.1 == -1) = false := by simpa using h1
  simp only [b1, cond_false, if_neg h1, zl8]
  by_cases h2 : i > 0
  case neg => simp [h2]
  by_cases h3 : 0 ≤ zm d[i]
  case neg =>
   have : ¬ d[i].2.2.2.2.1 ≥ 0 := h3
   simp [h2, h3, this]
  by_cases h4 : zm d[i] < (d.length : Int)
  case neg =>
   have : d[i].2.2.2.2.1 ≥ 0 := h3
   have h4' : ¬ d[i].2.2.2.2.1 < (d.length : Int) := h4
   simp [h2, h3, this, h4, h4']
  have e3 : decide (d[i].2.2.2.2.1 ≥ 0) = true := decide_eq_true h3
  have e4 : decide (d[i].2.2.2.2.1 < (d.length : Int)) = true := decide_eq_true h4
  obtain ⟨p, hp⟩ := Int.eq_ofNat_of_zero_le h3
  have hpl : p < d.length := by omega
  have hp' : d[i].2.2.2.2.1 = (p : Int) := hp
  simp only [decide_eq_true h2, beq_self_eq_true, cond_true, e3, e4, hp', hp, zc hpl, Option.bind_some, zdm d[p], zww d h p hpl, show decide (0 ≤ (p : Int)) = true from decide_eq_true (by omega), show decide ((p : Int) < (d.length : Int)) = true from decide_eq_true (by omega), show decide (0 < i) = true from decide_eq_true h2, Bool.true_and]
  have : ∀ c : Nat, ((c : Int) == 1) = (c == 1) := fun c => by rw [Bool.eq_iff_iff]; simp; omega
  simp only [this]
  cases zp d[p] <;> by_cases hx : (i : Int) ∈ za d[p] <;> simp [hx]
theorem j8 {l : List Int} : l.Nodup ↔ ∀ a, l.count a ≤ 1 := by
 induction l with
 | nil => simp
 | cons x l ih =>
  rw [List.nodup_cons, ih]
  constructor
  ·rintro ⟨h1, h2⟩ a
   rw [List.count_cons]
   split
   ·rename_i h
    have e : x = a := by simpa using h
    subst e
    rw [List.count_eq_zero.2 h1]
    omega
   ·have := h2 a; omega
  ·intro h
   refine ⟨fun hx => ?_, fun a => ?_⟩
   ·have := h x
    rw [List.count_cons, if_pos (by simp)] at this
    have := List.count_pos_iff.2 hx
    omega
   ·have := h a
    rw [List.count_cons] at this
    omega
theorem bv : ∀ (n : Nat) (l : List Int), l.Nodup → (∀ k, k ∈ l → 0 ≤ k ∧ k < n) → l.length ≤ n
 | 0, l, _, h => by
  cases l with
  | nil => simp
  | cons a l => have := h a (by simp); omega
 | n + 1, l, hn, h => by
  have h1 := bv n (l.filter fun k => k != (n : Int)) (hn.filter _) (fun k hk => by
   obtain ⟨a, b⟩ := List.mem_filter.1 hk
   have := h k a
   have : k ≠ (n : Int) := by simpa using b
   omega)
  have h2 := List.length_eq_countP_add_countP (fun k => k != (n : Int)) (l := l)
  rw [List.countP_eq_length_filter] at h2
  have h3 : l.countP (fun k => decide ¬((k != (n : Int)) = true)) = l.count (n : Int) := by
   unfold List.count
   congr 1
   funext k
   by_cases hk : k = (n : Int) <;> simp [hk]
  rw [h3] at h2
  have := j8.1 hn (n : Int)
  omega
theorem zwx (i n : Nat) : decide ((i : Int) ≤ (n : Int)) = decide (i ≤ n) := by
 by_cases h : i ≤ n
 ·rw [decide_eq_true h, decide_eq_true (by omega)]
 ·rw [decide_eq_false h, decide_eq_false (by omega)]
theorem zp4 (d : List Nd) (hl : d.length ≤ 300) (cl : ∀ x : Int, 0 ≤ x → x < d.length → pr d x = -1 ∨ (0 ≤ pr d x ∧ pr d x < d.length)) (i : Nat) (hi : i < d.length) :
  ∃ b, xl (Ev.upto 5000) ((d, ((i : Int), ())), ()) = some ((b, ()), ()) ∧ (b = true ↔ ∃ m, m ≤ d.length ∧ up d m (pr d i) = -1) := by
 have key : ∀ {f : ((Int × Int × Unit) × ((List Nd × Unit) × Unit)) → Option (((Int × Int × Unit) × ((List Nd × Unit) × Unit)) ⊕ ((Unit × Unit) ⊕ ((Bool × Unit) × Unit)))},
   (∀ (s : Nat) (x : Nat), x < d.length → s ≤ d.length → f ((((x : Int), ((s : Int), ())), ((d, ()), ()))) = if pr d x = -1 then some (.inr (.inr ((true, ()), ()))) else some (.inl (((pr d x, (((s + 1 : Nat) : Int), ())), ((d, ()), ()))))) →
   (∀ (s : Nat) (x : Int), s > d.length → f (((x, ((s : Int), ())), ((d, ()), ()))) = some (.inr (.inl ((), ())))) →
   ∀ (m s : Nat) (x : Nat) (N : Nat), s + m = d.length → m + 1 < N → x < d.length →
    ((∃ j, j ≤ m ∧ up d j (pr d x) = -1) ∧ yf f N ((((x : Int), ((s : Int), ())), ((d, ()), ()))) = some (.inr ((true, ()), ()))) ∨ ((¬ ∃ j, j ≤ m ∧ up d j (pr d x) = -1) ∧ yf f N ((((x : Int), ((s : Int), ())), ((d, ()), ()))) = some (.inl ((), ()))) := by
  intro f h1 h2 m
  induction m with
  | zero =>
   intro s x N hs hN hx
   obtain ⟨N, rfl⟩ : ∃ M, N = M + 2 := ⟨N - 2, by omega⟩
   unfold yf
   rw [h1 s x hx (by omega)]
   by_cases hp : pr d x = -1
   ·rw [if_pos hp]; exact .inl ⟨⟨0, Nat.le_refl _, hp⟩, rfl⟩
   ·rw [if_neg hp]
    refine .inr ⟨?_, ?_⟩
    ·rintro ⟨j, hj, hu⟩
     obtain rfl : j = 0 := by omega
     exact hp hu
    ·simp only [Option.bind_some]
     unfold yf
     rw [h2 (s + 1) _ (by omega)]
     rfl
  | succ m ih =>
   intro s x N hs hN hx
   obtain ⟨N, rfl⟩ : ∃ M, N = M + 1 := ⟨N - 1, by omega⟩
   unfold yf
   rw [h1 s x hx (by omega)]
   by_cases hp : pr d x = -1
   ·rw [if_pos hp]; exact .inl ⟨⟨0, Nat.zero_le _, hp⟩, rfl⟩
   ·rw [if_neg hp]
    simp only [Option.bind_some]
    obtain ⟨hp0, hp1⟩ := (cl x (by omega) (by omega)).resolve_left hp
    obtain ⟨y, hy⟩ := Int.eq_ofNat_of_zero_le hp0
    rw [hy]
    rcases ih (s + 1) y N (by omega) (by omega) (by omega) with ⟨⟨j, h3, h4⟩, h5⟩ | ⟨h3, h5⟩
    ·exact .inl ⟨⟨j + 1, by omega, h4⟩, h5⟩
    ·refine .inr ⟨?_, h5⟩
     rintro ⟨j, hj, hu⟩
     cases j with
     | zero =>
      have hu : pr d x = -1 := by rw [hy]; exact hu
      exact hp hu
     | succ j => exact h3 ⟨j, by omega, hu⟩
 unfold xl
 generalize hf0 : (fun (s1 : (Int × Int × Unit) × ((List Nd × Unit) × Unit)) => (bif decide (s1.1.2.1 ≤ ((s1.2.1.1).length : Int)) then _ else _ : Option (((Int × Int × Unit) × ((List Nd × Unit) × Unit)) ⊕ ((Unit × Unit) ⊕ ((Bool × Unit) × Unit))))) = f0
 have h1 : ∀ (s : Nat) (x : Nat), x < d.length → s ≤ d.length → f0 ((((x : Int), ((s : Int), ())), ((d, ()), ()))) = if pr d x = -1 then some (.inr (.inr ((true, ()), ()))) else some (.inl (((pr d x, (((s + 1 : Nat) : Int), ())), ((d, ()), ())))) := by
  intro s x hx hs
  rw [← hf0, z6 (List.getElem?_eq_getElem hx)]
  simp only [zwx, decide_eq_true hs, cond_true, zc hx, Option.bind_some, zu (show s < 1000000 by omega)]
  by_cases hp : zm d[x] = -1
  ·have b1 : (d[x].2.2.2.2.1 == -1) = true := by simpa using hp
   simp only [b1, cond_true, if_pos hp]
  ·have b1 : (d[x].2.2.2.2.1 == -1) = false := by simpa using hp
   simp only [b1, cond_false, if_neg hp]
 have h2 : ∀ (s : Nat) (x : Int), s > d.length → f0 (((x, ((s : Int), ())), ((d, ()), ()))) = some (.inr (.inl ((), ()))) := by
  intro s x hs
  rw [← hf0]
  simp only [zwx, decide_eq_false (show ¬ s ≤ d.length by omega), cond_false]
 rcases key h1 h2 d.length 0 i 5000 (by omega) (by omega) hi with ⟨h3, h4⟩ | ⟨h3, h4⟩
 ·refine ⟨true, ?_, by simp only [true_iff]; exact h3⟩
  show ((yf f0 5000 _).bind _) = _
  have h4' : yf f0 5000 ((((i : Int), ((0 : Int), ())), ((d, ()), ()))) = _ := h4
  rw [h4']
  rfl
 ·refine ⟨false, ?_, by simp only [Bool.false_eq_true, false_iff]; exact h3⟩
  show ((yf f0 5000 _).bind _) = _
  have h4' : yf f0 5000 ((((i : Int), ((0 : Int), ())), ((d, ()), ()))) = _ := h4
  rw [h4']
  rfl
theorem zg0 (d : List Nd) (h3 : d.length ≤ 300) (n0 : Nd) (hn0 : d[0]? = some n0) : zg d ↔ zm n0 = -1 ∧ (∀ (j : Nat) (n : Nd), d[j]? = some n → mayB n = true ∧ (n.1 == 1) = ((j : Int) == 0) ∧ gm d n = true) ∧ (∀ (j : Nat), j < d.length → y9 d j = true) ∧ (∀ (j : Nat) (n : Nd), d[j]? = some n → ∃ m, m ≤ d.length ∧ up d m (zm n) = -1) := by
 have hpr : ∀ (j : Nat) (n : Nd), d[j]? = some n → pr d j = zm n := fun j n hj => z6 hj
 have hmem : ∀ k : Int, k ∈ zd d ↔ ∃ (i : Nat) (n : Nd), d[i]? = some n ∧ k ∈ za n := by
  intro k
  unfold zd
  rw [List.mem_flatMap]
  constructor
  ·rintro ⟨n, hn, hk⟩
   obtain ⟨i, hi⟩ := List.getElem?_of_mem hn
   exact ⟨i, n, hi, hk⟩
  ·rintro ⟨i, n, hi, hk⟩
   exact ⟨n, List.mem_of_getElem? hi, hk⟩
 have hkb : ∀ n, gm d n = true ↔ (za n ≠ [] → zp n = true) ∧ (za n).length ≤ d.length ∧ ∀ k, k ∈ za n → 1 ≤ k ∧ k < d.length := by
  intro n
  unfold gm
  simp only [Bool.and_eq_true, Bool.not_eq_true', Bool.or_eq_false_iff, decide_eq_false_iff_not, List.all_eq_true, decide_eq_true_eq]
  have : ((!(za n == []) && !zp n) = false) ↔ (za n ≠ [] → zp n = true) := by
   cases hh : za n with
   | nil => simp
   | cons a l => cases zp n <;> simp
  rw [this]
  constructor
  ·rintro ⟨⟨a, b⟩, c⟩; exact ⟨a, by omega, c⟩
  ·rintro ⟨a, b, c⟩; exact ⟨⟨a, by omega⟩, c⟩
 constructor
 ·intro R
  have klen : ∀ n, n ∈ d → (za n).length ≤ d.length := by
   intro n hn
   have hnd : (za n).Nodup := List.Nodup.sublist (by
    obtain ⟨l1, l2, rfl⟩ := List.append_of_mem hn
    simp only [zd, List.flatMap_append, List.flatMap_cons]
    exact (List.sublist_append_left _ _).trans (List.sublist_append_right _ _)) R.nodup
   exact bv _ _ hnd fun k hk => by have := R.rng n hn k hk; omega
  refine ⟨?_, fun j n hj => ⟨R.may n (List.mem_of_getElem? hj), ?_, (hkb n).2 ⟨R.holds n (List.mem_of_getElem? hj), klen n (List.mem_of_getElem? hj), R.rng n (List.mem_of_getElem? hj)⟩⟩, fun j hj => ?_, R.ends⟩
  ·have := R.par0; rw [show (0 : Int) = ((0 : Nat) : Int) from rfl, z6 hn0] at this; exact this
  ·rw [Bool.eq_iff_iff, beq_iff_eq, beq_iff_eq, R.root j n hj]; omega
  ·have hnd : d[j]? = some d[j] := List.getElem?_eq_getElem hj
   have hc : (zd d).count (j : Int) ≤ 1 := j8.1 R.nodup _
   unfold y9
   rw [hpr j _ hnd]
   by_cases hp : zm d[j] = -1
   ·rw [if_pos hp, beq_iff_eq, List.count_eq_zero]
    intro hk
    obtain ⟨i, n, hi, hk⟩ := (hmem _).1 hk
    have := R.back i n hi _ hk
    rw [hpr j _ hnd] at this
    omega
   ·rw [if_neg hp]
    have hk := R.laid j _ hnd hp
    obtain ⟨i, n, hi, hk2⟩ := (hmem _).1 hk
    have hb := R.back i n hi _ hk2
    rw [hpr j _ hnd] at hb
    have hil := (List.getElem?_eq_some_iff.1 hi).1
    have hr := R.rng n (List.mem_of_getElem? hi) _ hk2
    have hidx : idx d (i : Int) = some n := by unfold idx; rw [if_pos (by omega), Int.toNat_natCast]; exact hi
    have hcp : 0 < (zd d).count (j : Int) := List.count_pos_iff.2 hk
    rw [hb, hidx]
    simp only [Bool.and_eq_true, decide_eq_true_eq, beq_iff_eq]
    exact ⟨⟨⟨⟨by omega, by omega⟩, by omega⟩, R.holds n (List.mem_of_getElem? hi) (List.ne_nil_of_mem hk2), hk2⟩, by omega⟩
 ·rintro ⟨h1, h2, h4, h5⟩
  have kr : ∀ k, k ∈ zd d → ∃ a : Nat, k = (a : Int) ∧ a < d.length := by
   intro k hk
   obtain ⟨i, n, hi, hk⟩ := (hmem k).1 hk
   obtain ⟨a, b⟩ := ((hkb n).1 (h2 i n hi).2.2).2.2 k hk
   exact ⟨k.toNat, by omega, by omega⟩
  have cnt : ∀ (a : Nat) (ha : a < d.length), (zd d).count (a : Int) ≤ 1 ∧ ((a : Int) ∈ zd d → zm d[a] ≠ -1) ∧ (zm d[a] ≠ -1 → ∃ (p : Nat) (m : Nd), zm d[a] = (p : Int) ∧ d[p]? = some m ∧ (a : Int) ∈ za m) := by
   intro a ha
   have hnd : d[a]? = some d[a] := List.getElem?_eq_getElem ha
   have := h4 a ha
   unfold y9 at this
   rw [hpr a _ hnd] at this
   by_cases hp : zm d[a] = -1
   ·rw [if_pos hp, beq_iff_eq] at this
    refine ⟨by omega, fun hk => ?_, fun h => absurd hp h⟩
    rw [List.count_eq_zero] at this
    exact absurd hk this
   ·rw [if_neg hp] at this
    simp only [Bool.and_eq_true, decide_eq_true_eq, beq_iff_eq] at this
    obtain ⟨⟨⟨⟨_, g1⟩, g2⟩, g3⟩, g4⟩ := this
    refine ⟨by omega, fun _ => hp, fun _ => ?_⟩
    obtain ⟨p, hp2⟩ := Int.eq_ofNat_of_zero_le g1
    rw [hp2] at g3 g2
    have hpl : p < d.length := by omega
    rw [zc hpl] at g3
    simp only [Bool.and_eq_true, decide_eq_true_eq] at g3
    exact ⟨p, d[p], hp2, List.getElem?_eq_getElem hpl, g3.2⟩
  have hnodup : (zd d).Nodup := by
   rw [j8]
   intro k
   by_cases hk : k ∈ zd d
   ·obtain ⟨a, rfl, ha⟩ := kr k hk
    exact (cnt a ha).1
   ·rw [List.count_eq_zero.2 hk]; omega
  refine ⟨h3, by have := (List.getElem?_eq_some_iff.1 hn0).1; omega, fun n hn => ?_, fun i n hi => ?_, by rw [show (0 : Int) = ((0 : Nat) : Int) from rfl, z6 hn0]; exact h1, fun n hn => ?_, fun n hn k hk => ?_, hnodup, fun i n hi k hk => ?_, fun i n hi hp => ?_, h5⟩
  ·obtain ⟨i, hi⟩ := List.getElem?_of_mem hn; exact (h2 i n hi).1
  ·have := (h2 i n hi).2.1
   rw [Bool.eq_iff_iff, beq_iff_eq, beq_iff_eq] at this
   omega
  ·obtain ⟨i, hi⟩ := List.getElem?_of_mem hn; exact ((hkb n).1 (h2 i n hi).2.2).1
  ·obtain ⟨i, hi⟩ := List.getElem?_of_mem hn
   exact ((hkb n).1 (h2 i n hi).2.2).2.2 k hk
  ·have hka : k ∈ zd d := (hmem k).2 ⟨i, n, hi, hk⟩
   obtain ⟨a, rfl, ha⟩ := kr k hka
   obtain ⟨p, m, g1, g2, g3⟩ := (cnt a ha).2.2 ((cnt a ha).2.1 hka)
   rw [hpr a _ (List.getElem?_eq_getElem ha), g1]
   rw [zgy za hnodup g2 hi g3 hk]
  ·have ha := (List.getElem?_eq_some_iff.1 hi).1
   have he : d[i] = n := (List.getElem?_eq_some_iff.1 hi).2
   obtain ⟨p, m, g1, g2, g3⟩ := (cnt i ha).2.2 (by rw [he]; exact hp)
   exact (hmem _).2 ⟨p, m, g2, g3⟩
theorem zib (d : List Nd) (h : Sm d) : yv (Ev.upto 5000) ((d, ()), ()) = some ((chk d, ()), ()) := by
 unfold yv
 simp only [show (300 : Int) = ((300 : Nat) : Int) from rfl, zas]
 unfold chk
 by_cases h3 : d.length > 300
 ·rw [if_pos h3]; simp [h3]
 rw [if_neg h3]
 simp only [decide_eq_false h3, cond_false]
 cases hd : d[0]? with
 | none =>
  have hd0 : d = [] := by
   cases d with
   | nil => rfl
   | cons a d => simp at hd
  subst hd0
  rw [if_neg (fun R => by have := R.pos; simp at this)]
  rfl
 | some n0 =>
  have hpos : 0 < d.length := (List.getElem?_eq_some_iff.1 hd).1
  have hl0 : ((d.length : Int) == 0) = false := by rw [beq_eq_false_iff_ne]; omega
  have hi0 : idx d 0 = some n0 := by unfold idx; simpa using hd
  simp only [hl0, beq_self_eq_true, cond_true, hi0, Option.bind_some]
  have hRI := zg0 d (by omega) n0 hd
  by_cases hr2 : zm n0 = -1
  case neg =>
   rw [if_neg (fun R => hr2 (hRI.1 R).1)]
   have : (n0.2.2.2.2.1 != -1) = true := by simpa using hr2
   simp [this]
  have e2 : (n0.2.2.2.2.1 != -1) = false := by simpa using hr2
  simp only [e2, cond_false]
  refine zf (l := d) (σ := Unit) (fun i _ => ((((i : Int), ()), ((d, ()), ())))) (fun i n _ => if !(mayB n && ((n.1 == 1) == ((i : Int) == 0)) && gm d n) then .inr (.inr ((171, ()), ())) else .inl ()) (fun _ => .inl ((), ((d, ()), ()))) (fun _ _ => True) () rfl trivial (by omega) (fun i s hi _ => ⟨?_, fun _ _ => trivial⟩) (fun s _ => ?_) ?_
  ·have hm := h.2 _ (List.getElem_mem hi)
   simp only [zi, decide_eq_true hi, cond_true, zc hi, Option.bind_some, zwt _ hm.1, zp2 d h i hi]
   cases mayB d[i]
   ·simp
   ·cases hh : ((d[i].1 == 1) == ((i : Int) == 0))
    ·simp [hh]
    ·cases hk : gm d d[i]
     ·simp [hh, hk]
     ·simp only [hh, hk, Bool.not_true, beq_self_eq_true, cond_true, Option.bind_some, cond_false, Bool.and_self, Bool.false_eq_true, if_false, zu (show i < 1000000 by omega)]
  ·simp only [zi, Nat.lt_irrefl, decide_false, cond_false]
  ·rcases ye (fun (i : Nat) (n : Nd) => !(mayB n && ((n.1 == 1) == ((i : Int) == 0)) && gm d n)) ((.inr ((171, ()), ())) : (Unit × ((List Nd × Unit) × Unit)) ⊕ ((Int × Unit) × Unit)) (.inl ((), ((d, ()), ()))) d 0 with ⟨⟨j, n, hj, hp⟩, hf⟩ | ⟨hall, hf⟩
   ·rw [hf]
    rw [if_neg (show ¬ zg d from fun R => by
     obtain ⟨a, b, c⟩ := (hRI.1 R).2.1 j n hj
     simp [a, b, c] at hp)]
   ·rw [hf]
    have hA : ∀ (j : Nat) (n : Nd), d[j]? = some n → mayB n = true ∧ (n.1 == 1) = ((j : Int) == 0) ∧ gm d n = true := fun j n hj => by
     have := hall j n hj
     simp only [Nat.zero_add, Bool.not_eq_false', Bool.and_eq_true] at this
     exact ⟨this.1.1, eq_of_beq this.1.2, this.2⟩
    show Option.bind _ _ = _
    refine zf (l := d) (σ := Unit) (fun i _ => ((((i : Int), ()), ((d, ()), ())))) (fun i n _ => if !(y9 d i) then .inr (.inr ((171, ()), ())) else .inl ()) (fun _ => .inl ((), ((d, ()), ()))) (fun _ _ => True) () rfl trivial (by omega) (fun i s hi _ => ⟨?_, fun _ _ => trivial⟩) (fun s _ => ?_) ?_
    ·simp only [zi, decide_eq_true hi, cond_true, zgz d h (by omega) i hi, Option.bind_some]
     cases y9 d i
     ·simp
     ·simp only [Bool.not_true, cond_false, Bool.false_eq_true, if_false, zu (show i < 1000000 by omega)]
    ·simp only [zi, Nat.lt_irrefl, decide_false, cond_false]
    ·rcases ye (fun (i : Nat) (n : Nd) => !(y9 d i)) ((.inr ((171, ()), ())) : (Unit × ((List Nd × Unit) × Unit)) ⊕ ((Int × Unit) × Unit)) (.inl ((), ((d, ()), ()))) d 0 with ⟨⟨j, n, hj, hp⟩, hf⟩ | ⟨hall2, hf⟩
     ·rw [hf]
      rw [if_neg (show ¬ zg d from fun R => by
       have := (hRI.1 R).2.2.1 j (List.getElem?_eq_some_iff.1 hj).1
       simp [this] at hp)]
     ·rw [hf]
      have hB : ∀ (j : Nat), j < d.length → y9 d j = true := fun j hj => by
       have := hall2 j _ (List.getElem?_eq_getElem hj)
       simpa using this
      have cl : ∀ x : Int, 0 ≤ x → x < d.length → pr d x = -1 ∨ (0 ≤ pr d x ∧ pr d x < d.length) := by
       intro x hx0 hx1
       obtain ⟨a, rfl⟩ := Int.eq_ofNat_of_zero_le hx0
       have := hB a (by omega)
       unfold y9 at this
       by_cases hp : pr d (a : Int) = -1
       ·exact .inl hp
       ·rw [if_neg hp] at this
        simp only [Bool.and_eq_true, decide_eq_true_eq] at this
        exact .inr ⟨this.1.1.1.2, this.1.1.2⟩
      show Option.bind _ _ = _
      classical
      refine zf (l := d) (σ := Unit) (fun i _ => ((((i : Int), ()), ((d, ()), ())))) (fun i n _ => if !decide (∃ m, m ≤ d.length ∧ up d m (zm n) = -1) then .inr (.inr ((171, ()), ())) else .inl ()) (fun _ => .inl ((), ())) (fun _ _ => True) () rfl trivial (by omega) (fun i s hi _ => ⟨?_, fun _ _ => trivial⟩) (fun s _ => ?_) ?_
      ·obtain ⟨b, hb1, hb2⟩ := zp4 d (by omega) cl i hi
       rw [z6 (List.getElem?_eq_getElem hi)] at hb2
       simp only [zi, decide_eq_true hi, cond_true, hb1, Option.bind_some]
       cases b with
       | true =>
        rw [decide_eq_true (hb2.1 rfl)]
        simp only [Bool.not_true, cond_false, Bool.false_eq_true, if_false, zu (show i < 1000000 by omega)]
       | false =>
        rw [decide_eq_false (fun hx => by have := hb2.2 hx; cases this)]
        simp
      ·simp only [zi, Nat.lt_irrefl, decide_false, cond_false]
      ·rcases ye (fun (i : Nat) (n : Nd) => !decide (∃ m, m ≤ d.length ∧ up d m (zm n) = -1)) ((.inr ((171, ()), ())) : (Unit × Unit) ⊕ ((Int × Unit) × Unit)) (.inl ((), ())) d 0 with ⟨⟨j, n, hj, hp⟩, hf⟩ | ⟨hall3, hf⟩
       ·rw [hf]
        rw [if_neg (show ¬ zg d from fun R => by
         have := (hRI.1 R).2.2.2 j n hj
         simp [this] at hp)]
       ·rw [hf]
        rw [if_pos (hRI.2 ⟨hr2, hA, hB, fun j n hj => by simpa using hall3 j n hj⟩)]
def ks (d : List Nd) (x : Int) : List Int := match idx d x with
 | some n => za n
 | none => []
theorem zd4 {d : List Nd} {i : Nat} {n : Nd} (h : d[i]? = some n) : ks d (i : Int) = za n := by
 unfold ks idx
 rw [if_pos (by omega), Int.toNat_natCast, h]
def In' (d : List Nd) (x : Int) : Prop := 0 ≤ x ∧ x < d.length
theorem In'.nat {d : List Nd} {x : Int} (h : In' d x) : ∃ (i : Nat) (n : Nd), x = (i : Int) ∧ d[i]? = some n := by
 obtain ⟨i, hi⟩ := Int.eq_ofNat_of_zero_le h.1
 have : i < d.length := by have := h.2; omega
 exact ⟨i, d[i], hi, List.getElem?_eq_getElem this⟩
theorem zg.mem_all {d : List Nd} (R : zg d) {k : Int} : k ∈ zd d ↔ ∃ (i : Nat) (n : Nd), d[i]? = some n ∧ k ∈ za n := by
 unfold zd
 rw [List.mem_flatMap]
 constructor
 ·rintro ⟨n, hn, hk⟩
  obtain ⟨i, hi⟩ := List.getElem?_of_mem hn
  exact ⟨i, n, hi, hk⟩
 ·rintro ⟨i, n, hi, hk⟩
  exact ⟨n, List.mem_of_getElem? hi, hk⟩
theorem zg.par {d : List Nd} (R : zg d) {k : Int} (hk : In' d k) (h : pr d k ≠ -1) : In' d (pr d k) ∧ k ∈ ks d (pr d k) := by
 obtain ⟨i, n, rfl, hi⟩ := hk.nat
 rw [z6 hi] at h ⊢
 obtain ⟨j, m, hj, hm⟩ := R.mem_all.1 (R.laid i n hi h)
 have := R.back j m hj _ hm
 rw [z6 hi] at this
 rw [this]
 have hl := (List.getElem?_eq_some_iff.1 hj).1
 exact ⟨⟨by omega, by omega⟩, by rw [zd4 hj]; exact hm⟩
theorem zg.cl {d : List Nd} (R : zg d) (x : Int) (h0 : 0 ≤ x) (h1 : x < d.length) : pr d x = -1 ∨ (0 ≤ pr d x ∧ pr d x < d.length) := by
 by_cases h : pr d x = -1
 ·exact .inl h
 ·exact .inr (R.par ⟨h0, h1⟩ h).1
noncomputable def thr (d : List Nd) (x : Int) : Bool := (chk d == 0) && (decide (x ≥ 0) && decide (x < d.length))
theorem x8 {d : List Nd} {x : Int} : thr d x = true ↔ zg d ∧ In' d x := by
 unfold thr In' chk
 simp only [Bool.and_eq_true, beq_iff_eq, decide_eq_true_eq]
 constructor
 ·rintro ⟨h1, h2, h3⟩
  refine ⟨?_, h2, h3⟩
  by_cases h : d.length > 300
  ·rw [if_pos h] at h1; omega
  ·rw [if_neg h] at h1
   by_cases hR : zg d
   ·exact hR
   ·rw [if_neg hR] at h1; omega
 ·rintro ⟨h1, h2, h3⟩
  refine ⟨?_, h2, h3⟩
  rw [if_neg (by have := h1.len; omega), if_pos h1]
theorem chk0 {d : List Nd} : chk d = 0 ↔ zg d := by
 unfold chk
 constructor
 ·intro h1
  by_cases h : d.length > 300
  ·rw [if_pos h] at h1; omega
  ·rw [if_neg h] at h1
   by_cases hR : zg d
   ·exact hR
   ·rw [if_neg hR] at h1; omega
 ·intro h1
  rw [if_neg (by have := h1.len; omega), if_pos h1]
theorem zrd (d : List Nd) (x : Int) (h : Sm d) : qk (Ev.upto 5000) ((d, (x, ())), ()) = some ((thr d x, ()), ()) := by
 unfold qk thr
 simp only [bu d h, Option.bind_some]
 cases (chk d == 0) <;> cases decide (x ≥ 0) <;> rfl
theorem zre (d : List Nd) (x : Int) (h : Sm d) : zz (Ev.upto 5000) ((d, (x, ())), ()) = some ((thr d x, ()), ()) := by
 unfold zz thr
 simp only [zib d h, Option.bind_some]
 cases (chk d == 0) <;> cases decide (x ≥ 0) <;> cases decide (x < (d.length : Int)) <;> rfl
def fndG (nm : Bs) (i : Nat) (a : At) (_ : Unit) : Unit ⊕ Int := if a.1 == nm then .inr (i : Int) else .inl ()
def fnd (l : List At) (nm : Bs) : Int := zr (fndG nm) (fun _ => -1) 0 l ()
theorem zl9 (nm : Bs) : ∀ (l : List At) (i : Nat), zr (fndG nm) (fun _ => -1) i l () = -1 ∧ (∀ a, a ∈ l → (a.1 == nm) = false) ∨ ∃ j, ∃ h : j < l.length, zr (fndG nm) (fun _ => -1) i l () = ((i + j : Nat) : Int) ∧ (l[j].1 == nm) = true ∧ ∀ k (hk : k < j), (l[k].1 == nm) = false
 | [], i => .inl ⟨rfl, by simp⟩
 | a :: l, i => by
  unfold zr
  cases ha : (a.1 == nm) with
  | true =>
   refine .inr ⟨0, by simp, ?_, ha, fun k hk => by omega⟩
   simp only [fndG, ha, if_true]
   rfl
  | false =>
   simp only [fndG, ha, Bool.false_eq_true, if_false]
   rcases zl9 nm l (i + 1) with ⟨h1, h2⟩ | ⟨j, hj, h1, h2, h3⟩
   ·refine .inl ⟨h1, fun b hb => ?_⟩
    rcases List.mem_cons.1 hb with rfl | hb
    ·exact ha
    ·exact h2 b hb
   ·refine .inr ⟨j + 1, by simpa using hj, h1.trans (by omega), by simpa using h2, fun k hk => ?_⟩
    cases k with
    | zero => exact ha
    | succ k => simpa using h3 k (by omega)
theorem zbz (l : List At) (nm : Bs) : fnd l nm = -1 ∧ (∀ a, a ∈ l → (a.1 == nm) = false) ∨ ∃ j, ∃ h : j < l.length, fnd l nm = (j : Int) ∧ (l[j].1 == nm) = true ∧ ∀ k (hk : k < j), (l[k].1 == nm) = false := by
 rcases zl9 nm l 0 with h | ⟨j, h0, h1, h2⟩
 ·exact .inl h
 ·exact .inr ⟨j, h0, by rw [fnd, h1, Nat.zero_add], h2⟩
theorem wq {β : Type} (nm : Bs) (φ : Int → β) (ψ : β) : ∀ (l : List At) (i : Nat), zr (fun i (a : At) (_ : Unit) => if a.1 == nm then (.inr (φ i) : Unit ⊕ β) else .inl ()) (fun _ => ψ) i l () = if zr (fndG nm) (fun _ => -1) i l () = -1 then ψ else φ (zr (fndG nm) (fun _ => -1) i l ())
 | [], i => rfl
 | a :: l, i => by
  unfold zr
  cases ha : (a.1 == nm) with
  | true =>
   simp only [fndG, ha, if_true]
   rw [if_neg (by omega)]
  | false =>
   simp only [fndG, ha, Bool.false_eq_true, if_false]
   exact wq nm φ ψ l (i + 1)
theorem find (n : Nd) (nm : Bs) (h : n.2.2.2.1.length ≤ 4000) : xm (Ev.upto 5000) ((n, (nm, ())), ()) = some ((fnd n.2.2.2.1 nm, ()), ()) := by
 unfold xm
 refine zf (l := n.2.2.2.1) (σ := Unit) (fun i _ => ((nm, ((i : Int), ())), ((n, ()), ()))) (fun i a _ => if a.1 == nm then .inr (.inr (((i : Int), ()), ())) else .inl ()) (fun _ => .inl ((), ())) (fun _ _ => True) () rfl trivial (by omega) (fun i s hi _ => ⟨?_, fun _ _ => trivial⟩) (fun s _ => ?_) ?_
 ·simp only [zi, decide_eq_true hi, cond_true, zc hi, Option.bind_some, zu (show i < 1000000 by omega)]
  cases (n.2.2.2.1[i].1 == nm) <;> rfl
 ·simp only [zi, Nat.lt_irrefl, decide_false, cond_false]
 ·rw [wq nm (fun i => Sum.inr ((i, ()), ()))]
  show (match (if fnd n.2.2.2.1 nm = -1 then _ else _ : (Unit × Unit) ⊕ ((Int × Unit) × Unit)) with | Sum.inl o4 => _ | Sum.inr o5 => _) = _
  by_cases e : fnd n.2.2.2.1 nm = -1
  ·rw [if_pos e, e]
  ·rw [if_neg e]; rfl
theorem place (n : Nd) (nm : Bs) (h : n.2.2.2.1.length ≤ 4000) : gu (Ev.upto 5000) ((n, (nm, ())), ()) = some ((fnd n.2.2.2.1 nm, ()), ()) := by
 unfold gu
 have : zj (Ev.upto 5000) ((n.2.2.2.1, ()), ((nm, ()), ())) = some ((fnd n.2.2.2.1 nm, ()), ((nm, ()), ())) := by
  unfold zj vt
  refine zf (l := n.2.2.2.1) (σ := Unit) (fun i _ => ((n.2.2.2.1, ((n.2.2.2.1.length : Int), ((i : Int), ()))), ((nm, ()), ()))) (fun i a _ => if a.1 == nm then .inr (.inr (((i : Int), ()), ((nm, ()), ()))) else .inl ()) (fun _ => .inl ((), ((nm, ()), ()))) (fun _ _ => True) () rfl trivial (by omega) (fun i s hi _ => ⟨?_, fun _ _ => trivial⟩) (fun s _ => ?_) ?_
  ·simp only [zi, decide_eq_true hi, cond_true, zc hi, Option.bind_some, zu (show i < 1000000 by omega)]
   cases (n.2.2.2.1[i].1 == nm) <;> rfl
  ·simp only [zi, Nat.lt_irrefl, decide_false, cond_false]
  ·rw [wq nm (fun i => Sum.inr ((i, ()), ((nm, ()), ())))]
   show (match (if fnd n.2.2.2.1 nm = -1 then _ else _ : (Unit × ((Bs × Unit) × Unit)) ⊕ ((Int × Unit) × ((Bs × Unit) × Unit))) with | Sum.inl o4 => _ | Sum.inr o5 => _) = _
   by_cases e : fnd n.2.2.2.1 nm = -1
   ·rw [if_pos e, e]
   ·rw [if_neg e]; rfl
 show Option.bind _ _ = _
 rw [this]
 rfl
noncomputable def atr (d : List Nd) (x : Int) (nm : Bs) : Bs × Bool := if thr d x = true then (match idx d x with
 | some n => (match idx n.2.2.2.1 (fnd n.2.2.2.1 nm) with
  | some a => (a.2, true)
  | none => ([], false))
 | none => ([], false)) else ([], false)
theorem zbf (d : List Nd) (x : Int) (nm : Bs) (h : Sm d) : vu (Ev.upto 5000) ((d, (x, (nm, ()))), ()) = some (((atr d x nm).1, ((atr d x nm).2, ())), ()) ∧ yp (Ev.upto 5000) ((d, (x, (nm, ()))), ()) = some (((atr d x nm).1, ((atr d x nm).2, ())), ()) := by
 unfold vu yp atr
 simp only [zrd d x h, zre d x h, Option.bind_some]
 cases ht : thr d x with
 | false => exact ⟨rfl, rfl⟩
 | true =>
  obtain ⟨R, hi⟩ := x8.1 ht
  obtain ⟨n, hn, hg⟩ := ww hi.1 hi.2
  have hm := (h.2 n (List.mem_of_getElem? hg)).1
  simp only [Bool.not_true, cond_false, hn, Option.bind_some, place n nm hm, find n nm hm, if_true]
  rcases zbz n.2.2.2.1 nm with ⟨e, _⟩ | ⟨j, hj, e, _⟩
  ·rw [e]; exact ⟨rfl, rfl⟩
  ·rw [e]
   simp only [nneg, cond_false, zc hj, Option.bind_some, and_self]
abbrev TN : Ty := .pair (.int .i64) (.pair .str (.pair .str (.pair (.slice 76 (.pair .str .str)) (.pair (.int .i64) (.pair (.slice 3 (.int .i64)) (.pair .bool .bool))))))
theorem z6h (l : List At) (h : l.length ≤ 4000) : zl (Ev.upto 5000) ((l, ()), ()) = some ((), (l, ())) := by
 cases l with
 | nil => rfl
 | cons a l =>
  unfold zl
  simp only [List.isEmpty_cons, Bool.not_false, cond_true, List.length_nil, Nat.zero_add, zem (show (a :: l).length ≤ 10000 by omega) (show 32 ≤ 1000 by omega), List.nil_append]
theorem z6i (l : List Int) (h : l.length ≤ 4000) : yj (Ev.upto 5000) ((l, ()), ()) = some ((), (l, ())) := by
 cases l with
 | nil => rfl
 | cons a l =>
  unfold yj
  simp only [List.isEmpty_cons, Bool.not_false, cond_true, List.length_nil, Nat.zero_add, zem (show (a :: l).length ≤ 10000 by omega) (show 8 ≤ 1000 by omega), List.nil_append]
theorem z6j (l : List Nd) (h : l.length ≤ 4000) : zq (Ev.upto 5000) ((l, ()), ()) = some ((), (l, ())) := by
 cases l with
 | nil => rfl
 | cons a l =>
  unfold zq
  simp only [List.isEmpty_cons, Bool.not_false, cond_true, List.length_nil, Nat.zero_add, zem (show (a :: l).length ≤ 10000 by omega) (show 104 ≤ 1000 by omega), List.nil_append]
theorem yah (i : Nat) : lnum TN i 0 = 2 * i := by show i * 2 + 0 = 2 * i; omega
theorem yai (i : Nat) : lnum TN i 3 = 2 * i := by show i * 2 + 0 = 2 * i; omega
theorem yaj (i : Nat) : lnum TN i 5 = 2 * i + 1 := by show i * 2 + 1 = 2 * i + 1; omega
theorem yak : Ty.nsl TN = 2 := rfl
theorem zsu {α : Type} {l : List α} {i : Nat} (h : i < l.length) : l.set i l[i] = l := by
 apply List.ext_getElem?
 intro j
 rw [List.getElem?_set]
 by_cases e : i = j
 ·subst e
  rw [if_pos rfl, if_pos h, List.getElem?_eq_getElem h]
 ·rw [if_neg e]
theorem getN {l : List Nd} {i : Nat} (hi : i < l.length) : l[((i : Nat) : Int).toNat]? = some l[i] := by
 rw [Int.toNat_natCast]
 exact List.getElem?_eq_getElem hi
theorem yc6 {l : List Nd} (h : Sm l) (i : Nat) {n : Nd} (h1 : n.2.2.2.1.length ≤ 4000) (h2 : n.2.2.2.2.2.1.length ≤ 4000) : Sm (l.set i n) := by
 refine ⟨by simpa using h.1, fun m hm => ?_⟩
 rcases List.mem_or_eq_of_mem_set hm with hm | rfl
 ·exact h.2 m hm
 ·exact ⟨h1, h2⟩
theorem z3w {α : Type} {l : List α} {i : Nat} (x : α) (h : i < l.length) : (l.set i x)[i]? = some x := by
 rw [List.getElem?_set, if_pos rfl, if_pos h]
theorem zjv {d d' : List Nd} (R : zg d) (R' : zg d') (hl : d'.length = d.length) (x : Int) : thr d' x = thr d x := by
 rw [Bool.eq_iff_iff, x8, x8]
 unfold In'
 rw [hl]
 exact ⟨fun h => ⟨R, h.2⟩, fun h => ⟨R', h.2⟩⟩
theorem getX {α : Type} {l : List α} {x : Int} {a : α} (h : idx l x = some a) : (decide (0 ≤ x) && decide (x < (l.length : Int))) = true ∧ l[x.toNat]? = some a ∧ x.toNat < l.length := by
 obtain ⟨h0, h1, h2⟩ := yh h
 exact ⟨by rw [decide_eq_true h0, decide_eq_true h1]; rfl, h2, (List.getElem?_eq_some_iff.1 h2).1⟩
def Sk (c : Nat) (d : List Nd) : Prop := d.length ≤ 4000 ∧ ∀ n, n ∈ d → n.2.2.2.1.length ≤ 4000 ∧ (za n).length ≤ c
theorem Sk.sm {c : Nat} {d : List Nd} (h : Sk c d) (hc : c ≤ 4000) : Sm d := ⟨h.1, fun n hn => ⟨(h.2 n hn).1, Nat.le_trans (h.2 n hn).2 hc⟩⟩
theorem Sk.set {c : Nat} {l : List Nd} (h : Sk c l) (i : Nat) {n : Nd} (h1 : n.2.2.2.1.length ≤ 4000) (h2 : (za n).length ≤ c) : Sk c (l.set i n) := by
 refine ⟨by simpa using h.1, fun m hm => ?_⟩
 rcases List.mem_or_eq_of_mem_set hm with hm | rfl
 ·exact h.2 m hm
 ·exact ⟨h1, h2⟩
theorem Sk.at {c : Nat} {l : List Nd} (h : Sk c l) {x : Int} {n : Nd} (hn : idx l x = some n) : n.2.2.2.1.length ≤ 4000 ∧ (za n).length ≤ c := h.2 n (List.mem_of_getElem? (yh hn).2.2)
theorem ydu : Sm [] := ⟨by simp, by simp⟩
def Like (n n' : Nd) : Prop := n'.1 = n.1 ∧ n'.2.1 = n.2.1 ∧ n'.2.2.1 = n.2.2.1 ∧ n'.2.2.2.1 = n.2.2.2.1 ∧ n'.2.2.2.2.2.2 = n.2.2.2.2.2.2
theorem Like.may {n n' : Nd} (h : Like n n') : mayB n' = mayB n := by
 unfold mayB
 rw [h.1, h.2.1, h.2.2.1, h.2.2.2.1, h.2.2.2.2]
theorem Like.holds {n n' : Nd} (h : Like n n') : zp n' = zp n := by
 unfold zp
 rw [h.1]
theorem Like.trans {a b c : Nd} (h : Like a b) (g : Like b c) : Like a c := ⟨g.1.trans h.1, g.2.1.trans h.2.1, g.2.2.1.trans h.2.2.1, g.2.2.2.1.trans h.2.2.2.1, g.2.2.2.2.trans h.2.2.2.2⟩
structure Mv (d d' : List Nd) (P : Int → Int) (K : Int → List Int) : Prop where
 len : d'.length = d.length
 at' : ∀ (i : Nat) (n : Nd), d[i]? = some n → ∃ n', d'[i]? = some n' ∧ Like n n' ∧ zm n' = P i ∧ za n' = K i
theorem Mv.pr {d d' : List Nd} {P : Int → Int} {K : Int → List Int} (M : Mv d d' P K) {x : Int} (hx : In' d x) : pr d' x = P x := by
 obtain ⟨i, n, rfl, hi⟩ := hx.nat
 obtain ⟨n', h1, _, h2, _⟩ := M.at' i n hi
 rw [z6 h1, h2]
theorem Mv.ks {d d' : List Nd} {P : Int → Int} {K : Int → List Int} (M : Mv d d' P K) {x : Int} (hx : In' d x) : ks d' x = K x := by
 obtain ⟨i, n, rfl, hi⟩ := hx.nat
 obtain ⟨n', h1, _, _, h2⟩ := M.at' i n hi
 rw [zd4 h1, h2]
theorem Mv.in {d d' : List Nd} {P : Int → Int} {K : Int → List Int} (M : Mv d d' P K) {x : Int} : In' d' x ↔ In' d x := by
 unfold In'
 rw [M.len]
theorem Mv.map {d d' : List Nd} {P : Int → Int} {K : Int → List Int} (M : Mv d d' P K) : d'.map za = (List.range d.length).map fun i : Nat => K i := by
 apply List.ext_getElem?
 intro i
 rw [List.getElem?_map, List.getElem?_map]
 by_cases h : i < d.length
 ·obtain ⟨n', h1, _, _, h2⟩ := M.at' i _ (List.getElem?_eq_getElem h)
  rw [h1, List.getElem?_range h]
  exact congrArg some h2
 ·rw [List.getElem?_eq_none (by rw [M.len]; omega), List.getElem?_eq_none (by simp; omega)]
  rfl
theorem Mv.trans {d a b : List Nd} {P P' : Int → Int} {K K' : Int → List Int} (A : Mv d a P K) (B : Mv a b P' K') : Mv d b P' K' := by
 refine ⟨B.len.trans A.len, fun i n hi => ?_⟩
 obtain ⟨n1, g1, g2, g3, g4⟩ := A.at' i n hi
 obtain ⟨n2, k1, k2, k3, k4⟩ := B.at' i n1 g1
 exact ⟨n2, k1, g2.trans k2, k3, k4⟩
theorem zbi {s : Bs} {i : Nat} (h : i < s.length) : (ofBs s)[i]'(by rw [kg]; exact h) = (s[i].toNat : Int) := by simp [ofBs]
def lowI (n : Int) : Int := bif decide (n ≥ 65) && decide (n ≤ 90) then n + 32 else n
def ku (s : Bs) : Bs := toBs ((ofBs s).map lowI)
theorem zjw (c : UInt8) (h0 : decide ((c.toNat : Int) ≥ 65) = true) (h1 : decide ((c.toNat : Int) ≤ 90) = true) : IntKind.wrap .u8 ((IntKind.wrap .u8 ((c.toNat : Int) + 97)) - 65) = (c.toNat : Int) + 32 := by
 have h0 := of_decide_eq_true h0
 have h1 := of_decide_eq_true h1
 rw [zqe (n := (c.toNat : Int) + 97) (by omega) (by omega), zqe (by omega) (by omega)]
 omega
theorem zjx (N : Nat) (s : Bs) (hs : s.length < N) (hb : s.length ≤ 1000000) : xt (Ev.upto N) ((s, ()), ()) = some ((ku s, ()), ()) := by
 apply zx7
 unfold xt
 refine zgw ?_
 refine zhi (σ := Unit) (fun i _ => ((((ofBs s).length : Int), ((i : Int), ())), (((ofBs s).take i).map lowI ++ (ofBs s).drop i, ()))) (fun i _ => True) s.length () (by simp) trivial hs ?_
 rintro i _ hi _
 have hol := kg s
 have hll : (((ofBs s).take i).map lowI ++ (ofBs s).drop i).length = s.length := by simp [hol]; omega
 by_cases hi' : i < s.length
 ·have c0 : decide ((i : Int) < ((ofBs s).length : Int)) = true := decide_eq_true (by omega)
  have c1 : decide ((i : Int) < ((((ofBs s).take i).map lowI ++ (ofBs s).drop i).length : Int)) = true := decide_eq_true (by omega)
  have c2 : decide ((0 : Int) ≤ (i : Int)) = true := decide_eq_true (by omega)
  have w : IntKind.wrap .i64 ((i : Int) + 1) = ((i + 1 : Nat) : Int) := by rw [zdl (by omega) (by omega)]; omega
  have hd : (ofBs s).drop i = (s[i].toNat : Int) :: (ofBs s).drop (i + 1) := by rw [List.drop_eq_getElem_cons (by omega), zbi hi']
  have hlen : (((ofBs s).take i).map lowI).length = i := by simp [hol]; omega
  have g : (((ofBs s).take i).map lowI ++ (ofBs s).drop i)[((i : Int)).toNat]? = some (s[i].toNat : Int) := by
   rw [Int.toNat_natCast, List.getElem?_append_right (by omega), hlen, Nat.sub_self, hd]; rfl
  have st : ∀ v, (((ofBs s).take i).map lowI ++ (ofBs s).drop i).set ((i : Int)).toNat v = ((ofBs s).take i).map lowI ++ v :: (ofBs s).drop (i + 1) := by
   intro v
   rw [Int.toNat_natCast, List.set_append_right _ _ (by omega), hlen, Nat.sub_self, hd]; rfl
  have nx : ((ofBs s).take (i + 1)).map lowI ++ (ofBs s).drop (i + 1) = ((ofBs s).take i).map lowI ++ lowI (s[i].toNat : Int) :: (ofBs s).drop (i + 1) := by
   rw [List.take_succ_eq_append_getElem (by omega), List.map_append, zbi hi']; simp
  simp -implicitDefEqProofs only [c0, c1, c2, Bool.and_self, cond_true, g, Option.bind_some]
  cases h1 : decide ((s[i].toNat : Int) ≥ 65) with
  | false =>
   have hx : lowI (s[i].toNat : Int) = (s[i].toNat : Int) := by unfold lowI; rw [h1]; rfl
   rw [hx] at nx
   exact ⟨_, rfl, hi', (), by simp only [w, nx, ← hd], trivial⟩
  | true =>
   cases h2 : decide ((s[i].toNat : Int) ≤ 90) with
   | false =>
    have hx : lowI (s[i].toNat : Int) = (s[i].toNat : Int) := by unfold lowI; rw [h1, h2]; rfl
    rw [hx] at nx
    exact ⟨_, rfl, hi', (), by simp only [w, nx, ← hd], trivial⟩
   | true =>
    have hx : lowI (s[i].toNat : Int) = (s[i].toNat : Int) + 32 := by unfold lowI; rw [h1, h2]; rfl
    rw [hx] at nx
    have lw := zjw s[i] h1 h2
    simp -implicitDefEqProofs only [beq_self_eq_true, cond_true, Option.bind_some, c1, c2, Bool.and_self, g, st, lw]
    exact ⟨_, rfl, hi', (), by simp only [w, nx], trivial⟩
 ·have c0 : decide ((i : Int) < ((ofBs s).length : Int)) = false := decide_eq_false (by omega)
  simp -implicitDefEqProofs only [c0, cond_false]
  refine ⟨_, rfl, _, rfl, ?_⟩
  rw [List.take_of_length_le (by omega), List.drop_eq_nil_of_le (by omega), List.append_nil]
  rfl
theorem z1z (N : Nat) (s : Bs) (hs : s.length < N) (hb : s.length ≤ 1000000) : jh (Ev.upto N) ((s, ()), ()) = some ((ku s, ()), ()) := by
 apply zx7
 unfold jh
 refine zgw ?_
 refine zhi (σ := Unit) (fun i _ => ((s, ((i : Int), ())), (((ofBs s).take i).map lowI, ()))) (fun i _ => True) s.length () rfl trivial hs ?_
 rintro i _ hi _
 have hol := kg s
 by_cases hi' : i < s.length
 ·have c0 : decide ((i : Int) < (s.length : Int)) = true := decide_eq_true (by omega)
  have w : IntKind.wrap .i64 ((i : Int) + 1) = ((i + 1 : Nat) : Int) := by rw [zdl (by omega) (by omega)]; omega
  have hlen : (((ofBs s).take i).map lowI).length = i := by simp [hol]; omega
  have f : ∀ v : Int, fits ((((ofBs s).take i).map lowI).length + ([v] : List Int).length) 1 = true := fun v => zk2 (by rw [hlen]; simp only [List.length_cons, List.length_nil]; omega)
  have nx : ((ofBs s).take (i + 1)).map lowI = ((ofBs s).take i).map lowI ++ [lowI (s[i].toNat : Int)] := by
   rw [List.take_succ_eq_append_getElem (by omega), List.map_append, zbi hi']; simp
  simp -implicitDefEqProofs only [c0, cond_true, zc hi', Option.bind_some]
  cases h1 : decide ((s[i].toNat : Int) ≥ 65) with
  | false =>
   have hx : lowI (s[i].toNat : Int) = (s[i].toNat : Int) := by unfold lowI; rw [h1]; rfl
   rw [hx] at nx
   simp -implicitDefEqProofs only [show (false == true) = false from rfl, cond_false, Option.bind_some, f, cond_true, w]
   exact ⟨_, rfl, hi', (), by rw [nx], trivial⟩
  | true =>
   cases h2 : decide ((s[i].toNat : Int) ≤ 90) with
   | false =>
    have hx : lowI (s[i].toNat : Int) = (s[i].toNat : Int) := by unfold lowI; rw [h1, h2]; rfl
    rw [hx] at nx
    simp -implicitDefEqProofs only [beq_self_eq_true, cond_false, Option.bind_some, f, cond_true, w]
    exact ⟨_, rfl, hi', (), by rw [nx], trivial⟩
   | true =>
    have hx : lowI (s[i].toNat : Int) = (s[i].toNat : Int) + 32 := by unfold lowI; rw [h1, h2]; rfl
    rw [hx] at nx
    have lw : IntKind.wrap .u8 ((s[i].toNat : Int) + 32) = (s[i].toNat : Int) + 32 := by
     have := of_decide_eq_true h2
     rw [zqe (by omega) (by omega)]
    simp -implicitDefEqProofs only [beq_self_eq_true, Option.bind_some, f, cond_true, w, lw]
    exact ⟨_, rfl, hi', (), by rw [nx], trivial⟩
 ·have c0 : decide ((i : Int) < (s.length : Int)) = false := decide_eq_false (by omega)
  simp -implicitDefEqProofs only [c0, cond_false]
  refine ⟨_, rfl, _, rfl, ?_⟩
  rw [List.take_of_length_le (by omega)]
  rfl
noncomputable def elB (d : List Nd) (x : Int) : Bool := thr d x && (match idx d x with | some n => n.1 == 2 | none => false)
theorem zg2 (d : List Nd) (x : Int) (h : Sm d) : xd (Ev.upto 5000) ((d, (x, ())), ()) = some ((elB d x, ()), ()) := by
 unfold xd elB thr
 simp only [bu d h, Option.bind_some]
 cases hc : (chk d == 0) with
 | false => rfl
 | true =>
  by_cases h0 : x ≥ 0
  ·by_cases h1 : x < (d.length : Int)
   ·obtain ⟨n, hn, _⟩ := ww h0 h1
    simp only [decide_eq_true h0, decide_eq_true h1, beq_self_eq_true, cond_true, hn, Option.bind_some, Bool.true_and]
   ·simp only [decide_eq_true h0, decide_eq_false h1, beq_self_eq_true, cond_true, show (false == true) = false from rfl, cond_false, Option.bind_some, Bool.true_and, Bool.and_false, Bool.false_and]
  ·simp only [decide_eq_false h0, beq_self_eq_true, cond_true, show (false == true) = false from rfl, cond_false, Option.bind_some, Bool.true_and, Bool.false_and]
theorem zmb {d : List Nd} {x : Int} (h : elB d x = true) : thr d x = true ∧ ∃ n, idx d x = some n ∧ n.1 = 2 := by
 unfold elB at h
 simp only [Bool.and_eq_true] at h
 refine ⟨h.1, ?_⟩
 cases hn : idx d x with
 | none => rw [hn] at h; cases h.2
 | some n =>
  rw [hn] at h
  exact ⟨n, rfl, by simpa using h.2⟩
theorem zd5 : zy (Ev.upto 5000) ((), ()) = some ((true, ()), ()) := by kernel_rfl
def stN (n : Nd) : Nd := (n.1, (n.2.1, (n.2.2.1, (n.2.2.2.1, (n.2.2.2.2.1, (n.2.2.2.2.2.1, (n.2.2.2.2.2.2.1, true)))))))
noncomputable def zb6 (d : List Nd) (x : Int) : Int × List Nd := if chk d = 0 then (if elB d x = true then (match idx d x with
 | some n => (0, d.set x.toNat (stN n))
 | none => (170, [])) else (170, [])) else (chk d, [])
theorem z7i (d : List Nd) (x : Int) (hs : Sm d) : gf (Ev.upto 5000) ((d, (x, ())), ()) = some (((zb6 d x).1, ()), ((zb6 d x).2, ())) := by
 unfold gf zb6
 simp only [bu d hs, Option.bind_some]
 by_cases hc : chk d = 0
 ·rw [if_pos hc]
  simp only [hc, bne_self_eq_false, cond_false, zg2 d x hs, Option.bind_some]
  cases he : elB d x with
  | false => rfl
  | true =>
   obtain ⟨ht, n, hn, h2⟩ := zmb he
   obtain ⟨g1, g2, g3⟩ := getX hn
   rw [if_pos rfl, hn]
   simp only [Bool.not_true, cond_false, z6j d hs.1, Option.bind_some]
   refine zf (l := d) (σ := Unit) (fun i _ => ((x, ((d.length : Int), ((i : Int), ()))), ((), ((), ((2 * i, d), ()))))) (fun _ _ _ => .inl ()) (fun _ => ((x, ()), ((), ((), ((2 * d.length, d), ()))))) (fun _ _ => True) () rfl trivial (by have := hs.1; omega) (fun i s hi _ => ⟨?_, fun _ _ => trivial⟩) (fun s _ => ?_) ?_
   ·have hm := hs.2 _ (List.getElem_mem hi)
    have := hs.1
    have e1 : d.set ((i : Nat) : Int).toNat (d[i].1, (d[i].2.1, (d[i].2.2.1, (d[i].2.2.2.1, d[i].2.2.2.2)))) = d := zsu hi
    have e2 : d.set ((i : Nat) : Int).toNat (d[i].1, (d[i].2.1, (d[i].2.2.1, (d[i].2.2.2.1, (d[i].2.2.2.2.1, (d[i].2.2.2.2.2.1, d[i].2.2.2.2.2.2)))))) = d := zsu hi
    simp only [zi, decide_eq_true hi, cond_true, decide_eq_true (show (0 : Int) ≤ (i : Int) by omega), Bool.and_self, getN hi, Option.bind_some, yah, yai, yaj, Nat.le_refl, decide_true, beq_self_eq_true, z6h _ hm.1, z6i _ hm.2, e1, e2, zu (show i < 1000000 by omega)]
    simp only [Int.toNat_natCast, Nat.le_refl, decide_true, beq_self_eq_true, cond_true]
    rfl
   ·simp only [zi, Nat.lt_irrefl, decide_false, cond_false]
   ·rw [wi _ _ _ _ (fun _ _ => rfl)]
    simp only [yak, beq_self_eq_true, cond_true, g1, g2, Option.bind_some]
    rfl
 ·rw [if_neg hc]
  simp only [bne_iff_ne.2 hc, cond_true]
theorem yci (d : List Nd) (x : Int) (hs : Sm d) : zaq (Ev.upto 5000) ((d, (x, ())), ()) = some (((zb6 d x).1, ()), ((zb6 d x).2, ())) := by
 unfold zaq zb6 elB thr
 simp only [zib d hs, Option.bind_some]
 by_cases hc : chk d = 0
 ·rw [if_pos hc]
  simp only [hc, bne_self_eq_false, cond_false, beq_self_eq_true, Bool.true_and]
  by_cases hx : In' d x
  ·obtain ⟨n, hn, _⟩ := ww hx.1 hx.2
   obtain ⟨g1, g2, g3⟩ := getX hn
   simp only [decide_eq_false (show ¬ x < 0 by have := hx.1; omega), decide_eq_false (show ¬ x ≥ (d.length : Int) by have := hx.2; omega), decide_eq_true (show x ≥ 0 from hx.1), decide_eq_true hx.2, beq_self_eq_true, cond_true, hn, Option.bind_some, Bool.true_and]
   cases h2 : (n.1 == (2 : Int)) with
   | false =>
    have : (n.1 != (2 : Int)) = true := by unfold bne; rw [h2]; rfl
    simp only [this, cond_true, Bool.false_eq_true, if_false]
   | true =>
    have : (n.1 != (2 : Int)) = false := by unfold bne; rw [h2]; rfl
    simp only [this, cond_false, own d hs, Option.bind_some, decide_eq_true hx.1, decide_eq_true hx.2, Bool.and_self, cond_true, g2, if_true]
    rfl
  ·by_cases h0 : x < 0
   ·simp only [decide_eq_true h0, decide_eq_false (show ¬ x ≥ 0 by omega), show (true == false) = false from rfl, cond_false, Option.bind_some, cond_true, Bool.false_and, Bool.false_eq_true, if_false]
   ·have h1 : x ≥ (d.length : Int) := by unfold In' at hx; omega
    simp only [decide_eq_false h0, decide_eq_true h1, decide_eq_false (show ¬ x < (d.length : Int) by omega), beq_self_eq_true, show (true == false) = false from rfl, Option.bind_some, cond_true, cond_false, Bool.and_false, Bool.false_and, Bool.false_eq_true, if_false]
 ·rw [if_neg hc]
  simp only [bne_iff_ne.2 hc, cond_true]
theorem zva {d : List Nd} {x : Int} (h : (zb6 d x).1 = 0) : ∃ n, zg d ∧ In' d x ∧ idx d x = some n ∧ n.1 = 2 ∧ (zb6 d x).2 = d.set x.toNat (stN n) := by
 unfold zb6 at h ⊢
 by_cases hc : chk d = 0
 ·rw [if_pos hc] at h ⊢
  cases he : elB d x with
  | false => rw [he] at h; cases h
  | true =>
   obtain ⟨ht, n, hn, h2⟩ := zmb he
   rw [if_pos rfl, hn]
   exact ⟨n, chk0.1 hc, (x8.1 ht).2, rfl, h2, rfl⟩
 ·rw [if_neg hc] at h
  exact absurd h hc
theorem zx8 {d : List Nd} {x : Int} (h : (zb6 d x).1 ≠ 0) : (zb6 d x).2 = [] := by
 unfold zb6 at h ⊢
 by_cases hc : chk d = 0
 ·rw [if_pos hc] at h ⊢
  cases he : elB d x with
  | false => rfl
  | true =>
   obtain ⟨ht, n, hn, h2⟩ := zmb he
   rw [he, if_pos rfl, hn] at h
   exact absurd rfl h
 ·rw [if_neg hc]
theorem kl.start {d : List Nd} (hd : kl d) {x : Int} {n : Nd} (hn : idx d x = some n) : kl (d.set x.toNat (stN n)) := by
 refine ⟨by rw [List.length_set]; exact hd.1, fun m hm => ?_⟩
 rcases List.mem_or_eq_of_mem_set hm with hm | hm
 ·exact hd.2 m hm
 ·rw [hm]
  exact hd.2 n (List.mem_of_getElem? (yh hn).2.2)
theorem ycj {d : List Nd} (hd : kl d) (x : Int) : Sm (zb6 d x).2 := by
 by_cases h : (zb6 d x).1 = 0
 ·obtain ⟨n, _, _, hn, _, e⟩ := zva h
  rw [e]
  exact (hd.start hn).sm
 ·rw [zx8 h]
  exact ydu
structure St1 (d a : List Nd) (x : Int) (n : Nd) : Prop where
 R : zg d
 Ra : zg a
 len : a.length = d.length
 hn : idx d x = some n
 hx : idx a x = some (stN n)
 ot : ∀ y, y ≠ x → idx a y = idx d y
theorem St1.pr {d a : List Nd} {x : Int} {n : Nd} (s : St1 d a x n) (y : Int) : Go.En.Pl.pr a y = Go.En.Pl.pr d y := by
 unfold Go.En.Pl.pr
 by_cases h : y = x
 ·subst h; rw [s.hx, s.hn]; rfl
 ·rw [s.ot y h]
theorem St1.ks {d a : List Nd} {x : Int} {n : Nd} (s : St1 d a x n) (y : Int) : Go.En.Pl.ks a y = Go.En.Pl.ks d y := by
 unfold Go.En.Pl.ks
 by_cases h : y = x
 ·subst h; rw [s.hx, s.hn]; rfl
 ·rw [s.ot y h]
theorem St1.thr {d a : List Nd} {x : Int} {n : Nd} (s : St1 d a x n) (y : Int) : Go.En.Pl.thr a y = Go.En.Pl.thr d y := zjv s.R s.Ra s.len y
noncomputable def hndS (d : List Nd) (x : Int) (ev : Bs) : Bs × Bool := if (ev == []) = true then ([], false) else if elB d x = true then atr d x ([111, 110] ++ ku ev) else ([], false)
theorem ybs (s : Bs) : (ku s).length = s.length := by simp [ku, toBs, ofBs]
theorem ybi (d : List Nd) (x : Int) (ev : Bs) (hs : Sm d) (he : ev.length ≤ 300) : zd1 (Ev.upto 5000) ((d, (x, (ev, ()))), ()) = some (((hndS d x ev).1, ((hndS d x ev).2, ())), ()) := by
 have hl := ybs ev
 unfold zd1 hndS
 cases hv : (ev == ([] : Bs)) with
 | true => rfl
 | false =>
  simp only [beq_self_eq_true, cond_true, zg2 d x hs, Option.bind_some, Bool.false_eq_true, if_false]
  cases hb : elB d x with
  | false => rfl
  | true =>
   simp only [Bool.not_true, cond_false, if_true]
   rw [zjx 5000 ev (by omega) (by omega)]
   simp only [Option.bind_some, zj0 (show ([111, 110] : Bs).length + (ku ev).length ≤ 100000000 by simp; omega), cond_true, (zbf d x ([111, 110] ++ ku ev) hs).1]
theorem ybj (d : List Nd) (x : Int) (ev : Bs) (hs : Sm d) (he : ev.length ≤ 300) : uz (Ev.upto 5000) ((d, (x, (ev, ()))), ()) = some (((hndS d x ev).1, ((hndS d x ev).2, ())), ()) := by
 have hl := ybs ev
 unfold uz hndS elB
 cases hv : (ev == ([] : Bs)) with
 | true => rfl
 | false =>
  simp only [beq_self_eq_true, cond_true, zre d x hs, Option.bind_some, Bool.false_eq_true, if_false]
  cases ht : thr d x with
  | false => rfl
  | true =>
   obtain ⟨R, hx⟩ := x8.1 ht
   obtain ⟨n, hn, _⟩ := ww hx.1 hx.2
   simp only [Bool.not_true, beq_self_eq_true, cond_true, hn, Option.bind_some, Bool.true_and]
   cases h2 : (n.1 == (2 : Int)) with
   | false =>
    have : (n.1 != (2 : Int)) = true := by unfold bne; rw [h2]; rfl
    simp only [this, cond_true, Bool.false_eq_true, if_false]
   | true =>
    have : (n.1 != (2 : Int)) = false := by unfold bne; rw [h2]; rfl
    simp only [this, cond_false, if_true]
    rw [z1z 5000 ev (by omega) (by omega)]
    simp only [Option.bind_some, zj0 (show ([111, 110] : Bs).length + (ku ev).length ≤ 100000000 by simp; omega), cond_true, (zbf d x ([111, 110] ++ ku ev) hs).2]
theorem yck (d : List Nd) (ev : Bs) : ∃ b, zao (Ev.upto 5000) ((d, ((false, (([] : Bs), (([] : Bs), ((0 : Int), (([] : Bs), ([] : Bs)))))), (ev, ()))), ()) = some ((b, ()), ()) ∧ (b = false → kl d ∧ ev.length ≤ 300) := by
 obtain ⟨b, hb, hk⟩ := big d
 unfold zao
 simp only [hb, Option.bind_some]
 cases b with
 | true => exact ⟨true, rfl, fun h => by cases h⟩
 | false =>
  have hu : ze4 (Ev.upto 5000) (((false, (([] : Bs), (([] : Bs), ((0 : Int), (([] : Bs), ([] : Bs)))))), ()), ()) = some ((false, ()), ()) := rfl
  simp only [beq_self_eq_true, cond_true]
  rw [hu]
  refine ⟨decide ((ev.length : Int) > 300), rfl, fun h => ⟨hk rfl, ?_⟩⟩
  have := of_decide_eq_false h
  omega
theorem plainScriptStarts (d : List Nd) (x : Int) (ev : Bs) : za0 (Ev.upto 5000) ((d, (x, (ev, ()))), ()) = some ((true, ()), ()) := by
 unfold za0
 obtain ⟨b, hb, hk⟩ := yck d ev
 simp only
 rw [hb]
 simp only [Option.bind_some]
 cases b with
 | true => rfl
 | false =>
  obtain ⟨hd, he⟩ := hk rfl
  have hs := hd.sm
  have hA := ycj hd x
  simp only [cond_false, own d hs, Option.bind_some, z7i d x hs, yci d x hs, ybi d x ev hs he, ybj d x ev hs he, beq_self_eq_true, cond_true, zzz _ hA]
  generalize (zb6 d x).2 = a at hA
  apply zx7
  refine zl5 (fun o => o = ((true, ()), ((d, ()), ((), (d, ()))))) ?_ ?_
  ·refine zhi (fun i (l' : List Nd) => ((true, ((i : Int), ())), ((d, ()), ((), ((), (d, (l', ()))))))) (fun _ l' => Sm l' ∧ l'.length = a.length) a.length a rfl ⟨hA, rfl⟩ (by have := hA.1; omega) (fun i l1 hi hI => ?_)
   obtain ⟨h1, hl1⟩ := hI
   have h40 := hA.1
   simp only [hl1, zi]
   refine zt4 (fun hlt => ?_) (fun _ => xh rfl)
   have hi1 : i < l1.length := by omega
   have hm1 := h1.2 _ (List.getElem_mem hi1)
   simp only [decide_eq_true hlt, decide_eq_true (show (0 : Int) ≤ (i : Int) by omega), Bool.and_self, cond_true, Int.toNat_natCast, List.getElem?_eq_getElem hi1, Option.bind_some]
   have h1' : Sm (l1.set i (l1[i].1, (l1[i].2.1, (l1[i].2.2.1, (l1[i].2.2.2.1, (l1[i].2.2.2.2.1, (l1[i].2.2.2.2.2.1, (l1[i].2.2.2.2.2.2.1, true)))))))) := yc6 h1 i hm1.1 hm1.2
   refine zl5 (fun o => ∃ l2, o = ((true, ((i : Int), ())), ((d, ()), ((), ((), (d, (l2, ())))))) ∧ Sm l2 ∧ l2.length = a.length) ?_ ?_
   ·refine zhi (fun k (l' : List Nd) => ((true, ((i : Int), ((k : Int), ()))), ((d, ()), ((), ((), (d, (l', ()))))))) (fun _ l' => Sm l' ∧ l'.length = a.length ∧ ∃ n : Nd, l'[i]? = some n ∧ n.2.2.2.1.length = l1[i].2.2.2.1.length) l1[i].2.2.2.1.length _ rfl ⟨h1', by simpa using hl1, _, z3w _ hi1, rfl⟩ (by have := hm1.1; omega) (fun k l2 hk hI => ?_)
    obtain ⟨h2, hl2, n, hn, hnl⟩ := hI
    have hm := h2.2 n (List.mem_of_getElem? hn)
    simp only [hl2, zi, decide_eq_true hlt, decide_eq_true (show (0 : Int) ≤ (i : Int) by omega), Bool.and_self, cond_true, Int.toNat_natCast, hn, Option.bind_some, Option.elim_some]
    refine zt4 (fun hk2 => ?_) (fun _ => xh ⟨l2, rfl, h2, hl2⟩)
    simp only [decide_eq_true hk2, decide_eq_true (show (0 : Int) ≤ (k : Int) by omega), Bool.and_self, cond_true, List.getElem?_eq_getElem hk2, Option.bind_some, zu (show k < 1000000 by omega)]
    refine xh ⟨by omega, _, rfl, yc6 h2 i (by simpa using hm.1) hm.2, by simpa using hl2, _, z3w _ (by omega), by simpa using hnl⟩
   ·rintro _ ⟨l2, rfl, h2, hl2⟩
    simp only [zu (show i < 1000000 by omega)]
    exact xh ⟨hlt, _, rfl, h2, hl2⟩
  ·rintro _ rfl
   rw [zd5]
   simp only [Option.bind_some, beq_self_eq_true, cond_true, zzz d hs]
   exact xh rfl
end Go.En.Pl
