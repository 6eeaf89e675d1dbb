/- Text LNames of this seat: written by a program of ours, or by hand; checked by Lean. -/
import Derived.Test.YtfgphjencdhdgaaGreatDoorG
import Derived.Test.YtfgphjencdhdgaaGreatDoorW
set_option linter.unusedSimpArgs false
set_option linter.unusedVariables false
namespace Go.En.Pl
abbrev At := Bs × Bs
abbrev Nd := Int × (Bs × (Bs × ((List At) × (Int × ((List Int) × (Bool × Bool))))))
def yn {ε σ β : Type} (g : Nat → ε → σ → σ ⊕ β) (fin : σ → β) : Nat → List ε → σ → β
 | _, [], s => fin s
 | i, x :: l, s => match g i x s with
  | .inl s' => yn g fin (i + 1) l s'
  | .inr b => b
theorem zmq {α β σ ε : Type} {f : α → Option (α ⊕ β)} {l : List ε} {N : Nat} (st : Nat → σ → α) (g : Nat → ε → σ → σ ⊕ β) (fin : σ → β) (I : Nat → σ → Prop) (s0 : σ) (h0 : I 0 s0) (hN : l.length < N)
  (hs : ∀ i s (hi : i < l.length), I i s → f (st i s) = some (match g i l[i] s with | .inl s' => .inl (st (i + 1) s') | .inr b => .inr b) ∧ ∀ s', g i l[i] s = .inl s' → I (i + 1) s')
  (he : ∀ s, I l.length s → f (st l.length s) = some (.inr (fin s))) : (Ev.upto N).it f (st 0 s0) = some (yn g fin 0 l s0) := by
 show jd f N (st 0 s0) = _
 have key : ∀ (d i : Nat) (s : σ) (N : Nat), i + d = l.length → d < N → I i s → jd f N (st i s) = some (yn g fin i (l.drop i) s) := by
  intro d
  induction d with
  | zero =>
   intro i s N e hN hi
   have : i = l.length := by omega
   subst this
   cases N with
   | zero => omega
   | succ N =>
    unfold jd
    rw [he s hi, List.drop_length]
    rfl
  | succ d ih =>
   intro i s N e hN hi
   have hlt : i < l.length := by omega
   obtain ⟨h1, h2⟩ := hs i s hlt hi
   cases N with
   | zero => omega
   | succ N =>
    unfold jd
    rw [h1, List.drop_eq_getElem_cons hlt]
    unfold yn
    cases hg : g i l[i] s with
    | inr b => rfl
    | inl s' => exact ih (i + 1) s' N (by omega) (by omega) (h2 s' hg)
 have := key l.length 0 s0 N (by omega) hN h0
 simpa using this
theorem zu {α β σ ε γ : Type} {f : α → Option (α ⊕ β)} {a0 : α} {k : β → Option γ} {r : Option γ} {l : List ε} {N : Nat} (st : Nat → σ → α) (g : Nat → ε → σ → σ ⊕ β) (fin : σ → β) (I : Nat → σ → Prop) (s0 : σ) (ha : a0 = st 0 s0) (h0 : I 0 s0) (hN : l.length < N)
  (hs : ∀ i s (hi : i < l.length), I i s → f (st i s) = some (match g i l[i] s with | .inl s' => .inl (st (i + 1) s') | .inr b => .inr b) ∧ ∀ s', g i l[i] s = .inl s' → I (i + 1) s')
  (he : ∀ s, I l.length s → f (st l.length s) = some (.inr (fin s))) (hr : k (yn g fin 0 l s0) = r) : ((Ev.upto N).it f a0).bind k = r := by
 rw [ha, zmq st g fin I s0 h0 hN hs he]
 exact hr
theorem x5 {i : Nat} (h : i < 1000000) : IntKind.wrap .i64 ((i : Int) + 1) = ((i + 1 : Nat) : Int) := by
 rw [wj (by omega) (by omega)]; rfl
theorem yz (i n : Nat) : decide ((i : Int) < (n : Int)) = decide (i < n) := by
 by_cases h : i < n
 ·rw [decide_eq_true h, decide_eq_true (by omega)]
 ·rw [decide_eq_false h, decide_eq_false (by omega)]
def Sm (d : List Nd) : Prop := d.length ≤ 4000 ∧ ∀ n, n ∈ d → n.2.2.2.1.length ≤ 4000 ∧ n.2.2.2.2.2.1.length ≤ 4000
def NdOk (n : Nd) : Prop := n.2.1.length ≤ 300 ∧ n.2.2.1.length ≤ 3000 ∧ n.2.2.2.1.length ≤ 40 ∧ n.2.2.2.2.2.1.length ≤ 400 ∧ ∀ a, a ∈ n.2.2.2.1 → a.1.length ≤ 300 ∧ a.2.length ≤ 2000
theorem zsh (n : Nat) (k : Nat) : decide ((n : Int) > (k : Int)) = decide (n > k) := by
 by_cases h : n > k
 ·rw [decide_eq_true h, decide_eq_true (by omega)]
 ·rw [decide_eq_false h, decide_eq_false (by omega)]
theorem wl {ε β : Type} (p : ε → Bool) (b e : β) : ∀ (l : List ε) (i : Nat), yn (fun (_ : Nat) (x : ε) (_ : Unit) => if p x then (.inr b : Unit ⊕ β) else .inl ()) (fun _ => e) i l () = if l.any p then b else e
 | [], _ => rfl
 | x :: l, i => by
  unfold yn
  cases hp : p x with
  | true => simp [hp]
  | false => simp only [List.any_cons, hp, Bool.false_or]; exact wl p b e l (i + 1)
theorem z1g (n : Nd) : ∃ b, yo (Ev.upto 5000) ((n, ()), ()) = some ((b, ()), ()) ∧ (b = false → NdOk n) := by
 unfold yo
 simp only [show (300 : Int) = ((300 : Nat) : Int) from rfl, show (3000 : Int) = ((3000 : Nat) : Int) from rfl, show (40 : Int) = ((40 : Nat) : Int) from rfl, show (400 : Int) = ((400 : Nat) : Int) from rfl, show (2000 : Int) = ((2000 : Nat) : Int) from rfl, zsh]
 by_cases h1 : n.2.1.length > 300
 ·exact ⟨true, by simp [h1], by simp⟩
 by_cases h2 : n.2.2.1.length > 3000
 ·exact ⟨true, by simp [h1, h2], by simp⟩
 by_cases h3 : n.2.2.2.1.length > 40
 ·exact ⟨true, by simp [h1, h2, h3], by simp⟩
 by_cases h4 : n.2.2.2.2.2.1.length > 400
 ·exact ⟨true, by simp [h1, h2, h3, h4], by simp⟩
 simp only [decide_eq_false h1, decide_eq_false h2, decide_eq_false h3, decide_eq_false h4, beq_self_eq_true, cond_true, Option.bind_some, cond_false]
 refine ⟨n.2.2.2.1.any fun x => decide (x.1.length > 300) || decide (x.2.length > 2000), zu (l := n.2.2.2.1) (σ := Unit) (fun i _ => ((((i : Int), ()), ((n, ()), ())))) (fun _ x _ => if (decide (x.1.length > 300) || decide (x.2.length > 2000)) then .inr (.inr ((true, ()), ())) else .inl ()) (fun _ => .inl ((), ())) (fun _ _ => True) () rfl trivial (by omega) (fun i s hi _ => ⟨?_, fun _ _ => trivial⟩) (fun s _ => ?_) ?_, fun ha => ⟨by omega, by omega, by omega, by omega, fun a hm => ?_⟩⟩
 ·simp only [yz, decide_eq_true hi, cond_true, zk hi, Option.bind_some, x5 (show i < 1000000 by omega)]
  by_cases h5 : n.2.2.2.1[i].1.length > 300
  ·simp [h5]
  ·by_cases h6 : n.2.2.2.1[i].2.length > 2000
   ·simp [h5, h6]
   ·simp [h5, h6]
    exact wj (by omega) (by omega)
 ·simp only [yz, Nat.lt_irrefl, decide_false, cond_false]
 ·rw [wl]
  cases (n.2.2.2.1.any fun x => decide (x.1.length > 300) || decide (x.2.length > 2000)) <;> rfl
 ·simp only [List.any_eq_false, Bool.or_eq_true, decide_eq_true_eq, not_or] at ha
  have := ha a hm
  omega
def z1h (d : List Nd) : Prop := d.length ≤ 310 ∧ ∀ n, n ∈ d → NdOk n
theorem z1h.sm {d : List Nd} (h : z1h d) : Sm d := ⟨by have := h.1; omega, fun n hn => by have := h.2 n hn; unfold NdOk at this; omega⟩
theorem big (d : List Nd) : ∃ b, ja (Ev.upto 5000) ((d, ()), ()) = some ((b, ()), ()) ∧ (b = false → z1h d) := by
 unfold ja
 simp only [show (310 : Int) = ((310 : Nat) : Int) from rfl, zsh]
 by_cases h1 : d.length > 310
 ·exact ⟨true, by simp [h1], by simp⟩
 simp only [decide_eq_false h1, cond_false]
 have hb : ∀ n : Nd, ∃ b, yo (Ev.upto 5000) ((n, ()), ()) = some ((b, ()), ()) ∧ (b = false → NdOk n) := z1g
 let B : Nd → Bool := fun n => Classical.choose (hb n)
 have hB : ∀ n, yo (Ev.upto 5000) ((n, ()), ()) = some ((B n, ()), ()) ∧ (B n = false → NdOk n) := fun n => Classical.choose_spec (hb n)
 refine ⟨d.any B, zu (l := d) (σ := Unit) (fun i _ => ((((i : Int), ()), ((d, ()), ())))) (fun _ x _ => if B x then .inr (.inr ((true, ()), ())) else .inl ()) (fun _ => .inl ((), ())) (fun _ _ => True) () rfl trivial (by omega) (fun i s hi _ => ⟨?_, fun _ _ => trivial⟩) (fun s _ => ?_) (by rw [wl]; cases d.any B <;> rfl), fun ha => ⟨by omega, fun n hm => (hB n).2 (by simpa using List.any_eq_false.1 ha n hm)⟩⟩
 ·simp only [yz, decide_eq_true hi, cond_true, zk hi, Option.bind_some, (hB _).1, x5 (show i < 1000000 by omega)]
  cases B d[i] <;> simp
 ·simp only [yz, Nat.lt_irrefl, decide_false, cond_false]
theorem zsi {n k : Nat} (h : n ≤ 10000) (hk : k ≤ 1000) : fits n k = true := zfj (by have := Nat.mul_le_mul h hk; omega)
def mayB (n : Nd) : Bool :=
 if n.1 = 2 then !(n.2.1 == []) && (n.2.2.1 == []) && decide (n.2.2.2.1.length ≤ 30) && decide ((n.2.2.2.1.map (·.1)).Nodup)
 else decide (1 ≤ n.1) && decide (n.1 ≤ 4) && (n.2.1 == []) && (n.2.2.2.1.length == 0) && !n.2.2.2.2.2.2.1 && !n.2.2.2.2.2.2.2 && (n.1 != 1 || n.2.2.1 == [])
def zq3 (acc : List (Bs × Bool)) (l : List At) : List (Bs × Bool) := l.foldl (fun s x => mput (fun (a b : Bs) => a == b) x.1 true s) acc
theorem zh6 (k : Bs) : ∀ (l : List (Bs × Bool)), (k ∈ l.map (·.1) → (mput (fun (a b : Bs) => a == b) k true l).map (·.1) = l.map (·.1)) ∧ (k ∉ l.map (·.1) → (mput (fun (a b : Bs) => a == b) k true l).map (·.1) = l.map (·.1) ++ [k])
 | [] => ⟨fun h => by simp at h, fun _ => rfl⟩
 | p :: l => by
  have ih := zh6 k l
  cases hk : k == p.1 with
  | true =>
   have e : k = p.1 := by simpa using hk
   simp only [mput, hk, cond_true]
   refine ⟨fun _ => by simp [e], fun h => absurd (by simp [e]) h⟩
  | false =>
   have e : ¬ k = p.1 := by simpa using hk
   simp only [mput, hk, cond_false]
   refine ⟨fun h => ?_, fun h => ?_⟩
   ·have : k ∈ l.map (·.1) := by simpa [e] using h
    simp only [List.map_cons, ih.1 this]
   ·have : k ∉ l.map (·.1) := fun hx => h (by simp only [List.map_cons, List.mem_cons]; exact .inr hx)
    simp only [List.map_cons, ih.2 this, List.cons_append]
theorem zo5 : ∀ (l : List At) (acc : List (Bs × Bool)), (zq3 acc l).length ≤ acc.length + l.length ∧ ((zq3 acc l).length = acc.length + l.length ↔ (l.map (·.1)).Nodup ∧ ∀ x, x ∈ l.map (·.1) → x ∉ acc.map (·.1))
 | [], acc => by simp [zq3]
 | a :: l, acc => by
  have hk := zh6 a.1 acc
  have ih := zo5 l (mput (fun (a b : Bs) => a == b) a.1 true acc)
  have e1 : zq3 acc (a :: l) = zq3 (mput (fun (a b : Bs) => a == b) a.1 true acc) l := rfl
  rw [e1]
  by_cases hm : a.1 ∈ acc.map (·.1)
  ·have hl : (mput (fun (a b : Bs) => a == b) a.1 true acc).length = acc.length := by have := congrArg List.length (hk.1 hm); simpa using this
   rw [hl] at ih
   refine ⟨by simp only [List.length_cons]; omega, ⟨fun h => ?_, fun h => ?_⟩⟩
   ·simp only [List.length_cons] at h; have := ih.1; omega
   ·exact absurd hm (h.2 _ (by simp))
  ·have hl : (mput (fun (a b : Bs) => a == b) a.1 true acc).length = acc.length + 1 := by have := congrArg List.length (hk.2 hm); simpa using this
   rw [hl, hk.2 hm] at ih
   refine ⟨by simp only [List.length_cons]; omega, ?_⟩
   rw [List.length_cons, show acc.length + (l.length + 1) = acc.length + 1 + l.length by omega, ih.2]
   simp only [List.map_cons, List.map_nil, List.nodup_cons, List.mem_append, List.mem_singleton, not_or, List.mem_cons, List.not_mem_nil, or_false]
   constructor
   ·rintro ⟨h1, h2⟩
    refine ⟨⟨fun hx => (h2 _ hx).2 rfl, h1⟩, fun x hx => ?_⟩
    rcases hx with rfl | hx
    ·exact hm
    ·exact (h2 x hx).1
   ·rintro ⟨⟨h1, h2⟩, h3⟩
    exact ⟨h2, fun x hx => ⟨h3 x (.inr hx), fun e => h1 (e ▸ hx)⟩⟩
theorem zq4 (l : List At) : ((((zq3 [] l).length : Nat) : Int) == (l.length : Int)) = decide ((l.map (·.1)).Nodup) := by
 have := (zo5 l []).2
 simp only [List.length_nil, Nat.zero_add, List.map_nil, List.not_mem_nil, not_false_eq_true, implies_true, and_true] at this
 rw [Bool.eq_iff_iff, beq_iff_eq, decide_eq_true_eq, ← this]
 omega
theorem zh7 {β : Type} (fin : List (Bs × Bool) → β) : ∀ (l : List At) (s : List (Bs × Bool)) (i : Nat), yn (fun (_ : Nat) (x : At) (s : List (Bs × Bool)) => (.inl (mput (fun (a b : Bs) => a == b) x.1 true s) : List (Bs × Bool) ⊕ β)) fin i l s = fin (zq3 s l)
 | [], s, _ => rfl
 | x :: l, s, i => by
  unfold yn
  simp only
  rw [zh7 fin l _ (i + 1)]
  rfl
theorem z1i (k : Bs) (s : List (Bs × Bool)) : (mput (fun (a b : Bs) => a == b) k true s).length ≤ s.length + 1 := by
 have := zh6 k s
 by_cases h : k ∈ s.map (·.1)
 ·have := congrArg List.length (this.1 h); simp at this; omega
 ·have := congrArg List.length (this.2 h); simp at this; omega
theorem z4q (n : Nd) (h : n.2.2.2.1.length ≤ 4000) : zgq (Ev.upto 5000) ((n, ()), ()) = some ((mayB n, ()), ()) := by
 unfold zgq mayB
 by_cases hk : n.1 = 2
 ·simp only [hk, bne_self_eq_false, cond_false, if_true]
  refine zu (l := n.2.2.2.1) (σ := List (Bs × Bool)) (fun i s => (((n.2.2.2.1, ((n.2.2.2.1.length : Int), ((i : Int), ())))), ((n, ()), (s, ())))) (fun _ x s => .inl (mput (fun (a b : Bs) => a == b) x.1 true s)) (fun s => ((), ((n, ()), (s, ())))) (fun i s => s.length ≤ i) [] rfl (Nat.le_refl _) (by omega) (fun i s hi hl => ⟨?_, fun s' e => ?_⟩) (fun s _ => ?_) ?_
  ·have hm : s.length < maxB := by simp only [maxB]; omega
   simp only [yz, decide_eq_true hi, cond_true, zk hi, Option.bind_some, decide_eq_true hm, x5 (show i < 1000000 by omega)]
  ·simp only [Sum.inl.injEq] at e
   subst e
   have := z1i n.2.2.2.1[i].1 s
   omega
  ·simp only [yz, Nat.lt_irrefl, decide_false, cond_false]
  ·rw [zh7]
   simp only [zq4, show (30 : Int) = ((30 : Nat) : Int) from rfl, Int.ofNat_le]
   cases (n.2.1 == []) <;> cases (n.2.2.1 == []) <;> by_cases h3 : n.2.2.2.1.length ≤ 30 <;> simp [h3]
 ·have h1 : (n.1 != 2) = true := by simpa using hk
  simp only [h1, cond_true, if_neg hk]
  have h0 : ((n.2.2.2.1.length : Int) == 0) = (n.2.2.2.1.length == 0) := by rw [Bool.eq_iff_iff]; simp
  simp only [h0, ge_iff_le]
  by_cases h2 : 1 ≤ n.1 <;> by_cases h3 : n.1 ≤ 4 <;> cases (n.2.1 == []) <;> cases (n.2.2.2.1.length == 0) <;> cases n.2.2.2.2.2.2.1 <;> cases n.2.2.2.2.2.2.2 <;> cases (n.1 != 1) <;> simp [h2, h3]
def zsj (l : List At) (a : Bs) : Nat → Bool
 | 0 => false
 | i + 1 => zsj l a i || (match l[i]? with | some x => a == x.1 | none => false)
def wm (n : Nd) : Bool := n.1 == 1 || n.1 == 2
theorem zzj (n : Nd) : za8 (Ev.upto 5000) ((n, ()), ()) = some ((wm n, ()), ()) := by
 unfold za8 wm
 cases (n.1 == 1) <;> simp
abbrev zf (n : Nd) : List Int := n.2.2.2.2.2.1
abbrev qx (n : Nd) : Int := n.2.2.2.2.1
def pr (d : List Nd) (i : Int) : Int := match idx d i with
 | some n => qx n
 | none => -1
def y9 (d : List Nd) : List Int := d.flatMap zf
def up (d : List Nd) : Nat → Int → Int
 | 0, x => x
 | j + 1, x => up d j (pr d x)
structure zge (d : List Nd) : Prop where
 len : d.length ≤ 300
 pos : 0 < d.length
 may : ∀ n, n ∈ d → mayB n = true
 root : ∀ (i : Nat) (n : Nd), d[i]? = some n → (n.1 = 1 ↔ i = 0)
 par0 : pr d 0 = -1
 holds : ∀ n, n ∈ d → zf n ≠ [] → wm n = true
 rng : ∀ n, n ∈ d → ∀ k, k ∈ zf n → 1 ≤ k ∧ k < d.length
 nodup : (y9 d).Nodup
 back : ∀ (i : Nat) (n : Nd), d[i]? = some n → ∀ k, k ∈ zf n → pr d k = (i : Int)
 laid : ∀ (i : Nat) (n : Nd), d[i]? = some n → qx n ≠ -1 → (i : Int) ∈ y9 d
 ends : ∀ (i : Nat) (n : Nd), d[i]? = some n → ∃ j, j ≤ d.length ∧ up d j (qx n) = -1
theorem z0o {α : Type} {l : List α} {i : Int} (h0 : 0 ≤ i) (h : i < l.length) : ∃ x, idx l i = some x ∧ l[i.toNat]? = some x := by
 have hi : i.toNat < l.length := by omega
 exact ⟨l[i.toNat], by unfold idx; rw [if_pos h0, List.getElem?_eq_getElem hi], List.getElem?_eq_getElem hi⟩
theorem b6 {d : List Nd} {i : Nat} {n : Nd} (h : d[i]? = some n) : pr d (i : Int) = qx n := by
 unfold pr idx
 rw [if_pos (by omega), Int.toNat_natCast, h]
def lay (n : Nat) (K : List Int) : List Bool := (List.range n).map fun j : Nat => decide ((j : Int) ∈ K)
theorem zdu (n : Nat) (K : List Int) : (lay n K).length = n := by simp [lay]
theorem zdv {n : Nat} {K : List Int} {i : Nat} (h : i < n) : (lay n K)[i]? = some (decide ((i : Int) ∈ K)) := by simp [lay, h]
theorem z1j (n : Nat) : lay n [] = List.replicate n false := by
 apply List.ext_getElem?
 intro i
 by_cases h : i < n
 ·rw [zdv h]; simp [h]
 ·rw [List.getElem?_eq_none (by rw [zdu]; omega), List.getElem?_eq_none (by simp; omega)]
theorem z1k {n : Nat} {K : List Int} {i : Nat} (h : i < n) : (lay n K).set i true = lay n (K ++ [(i : Int)]) := by
 apply List.ext_getElem?
 intro j
 rw [List.getElem?_set, zdu]
 by_cases e : i = j
 ·subst e
  rw [if_pos rfl, if_pos h, zdv h]
  simp
 ·rw [if_neg e]
  by_cases hj : j < n
  ·rw [zdv hj, zdv hj]
   have : ((j : Int) ∈ K ++ [(i : Int)]) ↔ (j : Int) ∈ K := by
    simp only [List.mem_append, List.mem_singleton]
    constructor
    ·rintro (h | h)
     ·exact h
     ·omega
    ·exact .inl
   simp only [this]
  ·rw [List.getElem?_eq_none (by rw [zdu]; omega), List.getElem?_eq_none (by rw [zdu]; omega)]
def zca (d : List Nd) (i : Int) : List Int → List Int → Bool
 | _, [] => true
 | K, k :: r => (decide (1 ≤ k) && decide (k < (d.length : Int)) && !decide (k ∈ K) && (pr d k == i)) && zca d i (K ++ [k]) r
def zh8 (d : List Nd) (i : Nat) (n : Nd) (K : List Int) : Bool := mayB n && !(decide (i > 0) && n.1 == 1) && (zf n == [] || wm n) && zca d i K (zf n)
def zh9 (d : List Nd) : Nat → List Int → List Nd → Bool
 | _, _, [] => true
 | i, K, n :: r => zh8 d i n K && zh9 d (i + 1) (K ++ zf n) r
theorem zfk (d : List Nd) (i : Int) : ∀ (l K : List Int), K.Nodup → (zca d i K l = true ↔ (∀ k, k ∈ l → 1 ≤ k ∧ k < d.length ∧ pr d k = i) ∧ (K ++ l).Nodup)
 | [], K, hK => by simp [zca, hK]
 | k :: l, K, hK => by
  simp only [zca, Bool.and_eq_true, decide_eq_true_eq, Bool.not_eq_true', decide_eq_false_iff_not, beq_iff_eq]
  have e : K ++ k :: l = (K ++ [k]) ++ l := by simp
  rw [e]
  constructor
  ·rintro ⟨⟨⟨⟨h1, h2⟩, h3⟩, h4⟩, h5⟩
   have hK' : (K ++ [k]).Nodup := by
    rw [List.nodup_append]
    exact ⟨hK, by simp, fun a ha b hb => by simp at hb; rintro rfl; exact h3 (hb ▸ ha)⟩
   obtain ⟨h6, h7⟩ := (zfk d i l (K ++ [k]) hK').1 h5
   refine ⟨fun x hx => ?_, h7⟩
   rcases List.mem_cons.1 hx with rfl | hx
   ·exact ⟨h1, h2, h4⟩
   ·exact h6 x hx
  ·rintro ⟨h1, h2⟩
   have hK' : (K ++ [k]).Nodup := (List.nodup_append.1 h2).1
   have h3 : k ∉ K := fun hx => (List.nodup_append.1 hK').2.2 k hx k (by simp) rfl
   obtain ⟨h4, h5, h6⟩ := h1 k (List.mem_cons_self ..)
   exact ⟨⟨⟨⟨h4, h5⟩, h3⟩, h6⟩, (zfk d i l (K ++ [k]) hK').2 ⟨fun x hx => h1 x (List.mem_cons_of_mem _ hx), h2⟩⟩
theorem zex (d : List Nd) : ∀ (l : List Nd) (i : Nat) (K : List Int), K.Nodup → (zh9 d i K l = true ↔
  (∀ j n, l[j]? = some n → mayB n = true ∧ (i + j > 0 → n.1 ≠ 1) ∧ (zf n ≠ [] → wm n = true) ∧ ∀ k, k ∈ zf n → 1 ≤ k ∧ k < d.length ∧ pr d k = ((i + j : Nat) : Int)) ∧ (K ++ l.flatMap zf).Nodup)
 | [], i, K, hK => by simp [zh9, hK]
 | n :: l, i, K, hK => by
  simp only [zh9, zh8, Bool.and_eq_true]
  rw [zfk d i (zf n) K hK]
  have e : K ++ (n :: l).flatMap zf = (K ++ zf n) ++ l.flatMap zf := by simp
  rw [e]
  constructor
  ·rintro ⟨⟨⟨⟨h1, h2⟩, h3⟩, h4, h5⟩, h6⟩
   obtain ⟨h7, h8⟩ := (zex d l (i + 1) (K ++ zf n) h5).1 h6
   refine ⟨fun j m hj => ?_, h8⟩
   cases j with
   | zero =>
    simp only [List.getElem?_cons_zero, Option.some.injEq] at hj
    subst hj
    refine ⟨h1, fun hi hk => ?_, fun hne => ?_, fun k hk => ?_⟩
    ·simp only [Nat.add_zero] at hi
     simp [hk, hi] at h2
    ·cases hh : zf n with
     | nil => exact absurd hh hne
     | cons a b => simpa [hh] using h3
    ·exact h4 k hk
   | succ j =>
    have := h7 j m (by simpa using hj)
    rw [show i + (j + 1) = i + 1 + j by omega]
    exact this
  ·rintro ⟨h1, h2⟩
   obtain ⟨g1, g2, g3, g4⟩ := h1 0 n rfl
   have h5 : (K ++ zf n).Nodup := (List.nodup_append.1 h2).1
   refine ⟨⟨⟨⟨g1, ?_⟩, ?_⟩, g4, h5⟩, (zex d l (i + 1) (K ++ zf n) h5).2 ⟨fun j m hj => ?_, h2⟩⟩
   ·by_cases hi : i > 0
    ·have := g2 (by omega); simp [hi, this]
    ·simp [hi]
   ·cases hh : zf n with
    | nil => simp
    | cons a b => simp [g3 (by rw [hh]; simp)]
   ·have := h1 (j + 1) m (by simpa using hj)
    rw [show i + 1 + j = i + (j + 1) by omega]
    exact this
theorem zsk {ε σ β : Type} (ok : Nat → ε → σ → Bool) (nx : Nat → ε → σ → σ) (bad : β) (fin : σ → β) : ∀ (l : List ε) (i : Nat) (s : σ),
  yn (fun i x s => if ok i x s then (.inl (nx i x s) : σ ⊕ β) else .inr bad) fin i l s = match l with
   | [] => fin s
   | x :: r => if ok i x s then yn (fun i x s => if ok i x s then (.inl (nx i x s) : σ ⊕ β) else .inr bad) fin (i + 1) r (nx i x s) else bad
 | [], _, _ => rfl
 | x :: l, i, s => by
  show (match (if ok i x s then (.inl (nx i x s) : σ ⊕ β) else .inr bad) with | .inl s' => _ | .inr b => b) = _
  simp only
  cases ok i x s <;> rfl
theorem zsl {β : Type} (d : List Nd) (i : Int) (bad : β) (fin : List Int → β) : ∀ (l : List Int) (j : Nat) (K : List Int),
  yn (fun (_ : Nat) (k : Int) (K : List Int) => if (decide (1 ≤ k) && decide (k < (d.length : Int)) && !decide (k ∈ K) && (pr d k == i)) then (.inl (K ++ [k]) : List Int ⊕ β) else .inr bad) fin j l K = if zca d i K l then fin (K ++ l) else bad
 | [], j, K => by simp [yn, zca]
 | k :: l, j, K => by
  rw [zsk (fun _ k K => (decide (1 ≤ k) && decide (k < (d.length : Int)) && !decide (k ∈ K) && (pr d k == i))) (fun _ k K => K ++ [k])]
  by_cases hc : (decide (1 ≤ k) && decide (k < (d.length : Int)) && !decide (k ∈ K) && (pr d k == i)) = true
  ·have e2 : zca d i K (k :: l) = zca d i (K ++ [k]) l := by show (_ && _) = _; rw [hc, Bool.true_and]
   simp only [if_pos hc, e2, zsl d i bad fin l (j + 1) (K ++ [k])]
   simp
  ·have e2 : zca d i K (k :: l) = false := by show (_ && _) = _; rw [Bool.eq_false_iff.2 hc, Bool.false_and]
   simp only [if_neg hc, e2]
   simp
theorem zo6 {β : Type} (d : List Nd) (bad : β) (fin : List Int → β) : ∀ (l : List Nd) (i : Nat) (K : List Int),
  yn (fun (i : Nat) (n : Nd) (K : List Int) => if zh8 d i n K then (.inl (K ++ zf n) : List Int ⊕ β) else .inr bad) fin i l K = if zh9 d i K l then fin (K ++ l.flatMap zf) else bad
 | [], i, K => by simp [yn, zh9]
 | n :: l, i, K => by
  rw [zsk (fun i n K => zh8 d i n K) (fun i n K => K ++ zf n)]
  by_cases hc : zh8 d i n K = true
  ·have e2 : zh9 d i K (n :: l) = zh9 d (i + 1) (K ++ zf n) l := by show (_ && _) = _; rw [hc, Bool.true_and]
   simp only [if_pos hc, e2, zo6 d bad fin l (i + 1) (K ++ zf n)]
   simp
  ·have e2 : zh9 d i K (n :: l) = false := by show (_ && _) = _; rw [Bool.eq_false_iff.2 hc, Bool.false_and]
   simp only [if_neg hc, e2]
   simp
theorem gu {ε β : Type} (p : Nat → ε → Bool) (b e : β) : ∀ (l : List ε) (i : Nat), (∃ j x, l[j]? = some x ∧ p (i + j) x = true) ∧ yn (fun (i : Nat) (x : ε) (_ : Unit) => if p i x then (.inr b : Unit ⊕ β) else .inl ()) (fun _ => e) i l () = b ∨
  (∀ j x, l[j]? = some x → p (i + j) x = false) ∧ yn (fun (i : Nat) (x : ε) (_ : Unit) => if p i x then (.inr b : Unit ⊕ β) else .inl ()) (fun _ => e) i l () = e
 | [], i => .inr ⟨fun j x h => by simp at h, rfl⟩
 | y :: l, i => by
  cases hp : p i y with
  | true => exact .inl ⟨⟨0, y, rfl, hp⟩, by unfold yn; simp [hp]⟩
  | false =>
   rcases gu p b e l (i + 1) with ⟨⟨j, x, h1, h2⟩, h3⟩ | ⟨h1, h3⟩
   ·refine .inl ⟨⟨j + 1, x, by simpa using h1, by rw [show i + (j + 1) = i + 1 + j by omega]; exact h2⟩, ?_⟩
    unfold yn
    simp only [hp, Bool.false_eq_true, if_false]
    exact h3
   ·refine .inr ⟨fun j x hj => ?_, ?_⟩
    ·cases j with
     | zero => simp only [List.getElem?_cons_zero, Option.some.injEq] at hj; subst hj; exact hp
     | succ j => rw [show i + (j + 1) = i + 1 + j by omega]; exact h1 j x (by simpa using hj)
    ·unfold yn
     simp only [hp, Bool.false_eq_true, if_false]
     exact h3
open Classical in
noncomputable def chk (d : List Nd) : Int := if d.length > 300 then 2 else if zge d then 0 else 171
theorem z4r {α β : Type} {f : α → Option (α ⊕ β)} (d : List Nd) (st : Nat → Int → α) (ok bad : β) (cl : ∀ x : Int, 0 ≤ x → x < d.length → pr d x = -1 ∨ (0 ≤ pr d x ∧ pr d x < d.length))
  (h0 : ∀ s, f (st s (-1)) = some (.inr ok)) (h1 : ∀ (s : Nat) (x : Int), 0 ≤ x → x < d.length → s + 1 > d.length → s ≤ d.length → f (st s x) = some (.inr bad)) (h2 : ∀ (s : Nat) (x : Int), 0 ≤ x → x < d.length → s + 1 ≤ d.length → f (st s x) = some (.inl (st (s + 1) (pr d x)))) :
  ∀ (m s : Nat) (x : Int) (N : Nat), s + m = d.length → m + 1 < N → (x = -1 ∨ (0 ≤ x ∧ x < d.length)) → ((∃ j, j ≤ m ∧ up d j x = -1) ∧ jd f N (st s x) = some ok) ∨ ((¬ ∃ j, j ≤ m ∧ up d j x = -1) ∧ jd f N (st s x) = some bad) := by
 intro m
 induction m with
 | zero =>
  intro s x N hs hN hx
  obtain ⟨N, rfl⟩ : ∃ M, N = M + 1 := ⟨N - 1, by omega⟩
  unfold jd
  rcases hx with rfl | ⟨hx0, hx1⟩
  ·exact .inl ⟨⟨0, Nat.le_refl _, rfl⟩, by rw [h0]; rfl⟩
  ·refine .inr ⟨?_, by rw [h1 s x hx0 hx1 (by omega) (by omega)]; rfl⟩
   rintro ⟨j, hj, hu⟩
   obtain rfl : j = 0 := by omega
   simp only [up] at hu
   omega
 | succ m ih =>
  intro s x N hs hN hx
  obtain ⟨N, rfl⟩ : ∃ M, N = M + 1 := ⟨N - 1, by omega⟩
  unfold jd
  rcases hx with rfl | ⟨hx0, hx1⟩
  ·exact .inl ⟨⟨0, Nat.zero_le _, rfl⟩, by rw [h0]; rfl⟩
  ·rw [h2 s x hx0 hx1 (by omega)]
   simp only [Option.bind_some]
   rcases ih (s + 1) (pr d x) N (by omega) (by omega) (cl x hx0 hx1) with ⟨⟨j, h3, h4⟩, h5⟩ | ⟨h3, h5⟩
   ·exact .inl ⟨⟨j + 1, by omega, h4⟩, h5⟩
   ·refine .inr ⟨?_, h5⟩
    rintro ⟨j, hj, hu⟩
    cases j with
    | zero => simp only [up] at hu; omega
    | succ j => exact h3 ⟨j, by omega, hu⟩
theorem z2c (d : List Nd) (k : Int) : decide (k ≥ (d.length : Int)) = !decide (k < (d.length : Int)) := by
 by_cases h : k < (d.length : Int)
 ·rw [decide_eq_true h, decide_eq_false (by omega)]; rfl
 ·rw [decide_eq_false h, decide_eq_true (by omega)]; rfl
theorem z2d (k : Int) : decide (k < 1) = !decide (1 ≤ k) := by
 by_cases h : 1 ≤ k
 ·rw [decide_eq_true h, decide_eq_false (by omega)]; rfl
 ·rw [decide_eq_false h, decide_eq_true (by omega)]; rfl
theorem z2e (i : Nat) : decide ((i : Int) > 0) = decide (i > 0) := by
 by_cases h : i > 0
 ·rw [decide_eq_true h, decide_eq_true (by omega)]
 ·rw [decide_eq_false h, decide_eq_false (by omega)]
theorem z5m (l : List Int) : decide (l.length > 0) = !(l == []) := by
 cases l with
 | nil => rfl
 | cons a l => simp
theorem zwx (d : List Nd) (h3 : d.length ≤ 300) (n0 : Nd) (hn0 : d[0]? = some n0) : zge d ↔ (n0.1 = 1 ∧ qx n0 = -1) ∧ zh9 d 0 [] d = true ∧ (∀ (j : Nat) (n : Nd), d[j]? = some n → decide ((j : Int) ∈ y9 d) = (qx n != -1)) ∧ (∀ (j : Nat) n, d[j]? = some n → ∃ m, m ≤ d.length ∧ up d m (qx n) = -1) := by
 rw [zex d d 0 [] (by simp)]
 simp only [Nat.zero_add, List.nil_append]
 have hmem : ∀ k : Int, k ∈ y9 d ↔ ∃ (i : Nat) (n : Nd), d[i]? = some n ∧ k ∈ zf n := by
  intro k
  unfold y9
  rw [List.mem_flatMap]
  constructor
  ·rintro ⟨n, hn, hk⟩
   obtain ⟨i, hi⟩ := List.getElem?_of_mem hn
   exact ⟨i, n, hi, hk⟩
  ·rintro ⟨i, n, hi, hk⟩
   exact ⟨n, List.mem_of_getElem? hi, hk⟩
 constructor
 ·intro R
  refine ⟨⟨(R.root 0 n0 hn0).2 rfl, by have := R.par0; rw [show (0 : Int) = ((0 : Nat) : Int) from rfl, b6 hn0] at this; exact this⟩, ⟨fun j n hj => ⟨R.may n (List.mem_of_getElem? hj), fun hj0 hk => by have := (R.root j n hj).1 hk; omega, R.holds n (List.mem_of_getElem? hj), fun k hk => ⟨(R.rng n (List.mem_of_getElem? hj) k hk).1, (R.rng n (List.mem_of_getElem? hj) k hk).2, R.back j n hj k hk⟩⟩, R.nodup⟩, fun j n hj => ?_, R.ends⟩
  rw [Bool.eq_iff_iff]
  simp only [decide_eq_true_eq, bne_iff_ne, ne_eq]
  constructor
  ·intro hk
   obtain ⟨i, m, hi, hk⟩ := (hmem _).1 hk
   have := R.back i m hi _ hk
   rw [b6 hj] at this
   omega
  ·exact R.laid j n hj
 ·rintro ⟨⟨h1, h2⟩, ⟨h4, h5⟩, h6, h7⟩
  refine ⟨h3, by have := (List.getElem?_eq_some_iff.1 hn0).1; omega, fun n hn => ?_, fun i n hi => ⟨fun hk => ?_, fun hi0 => ?_⟩, by rw [show (0 : Int) = ((0 : Nat) : Int) from rfl, b6 hn0]; exact h2, fun n hn => ?_, fun n hn k hk => ?_, h5, fun i n hi k hk => ((h4 i n hi).2.2.2 k hk).2.2, fun i n hi hp => ?_, h7⟩
  ·obtain ⟨i, hi⟩ := List.getElem?_of_mem hn; exact (h4 i n hi).1
  ·rcases Nat.eq_zero_or_pos i with h | h
   ·exact h
   ·exact absurd hk ((h4 i n hi).2.1 h)
  ·subst hi0; rw [hn0] at hi; cases hi; exact h1
  ·obtain ⟨i, hi⟩ := List.getElem?_of_mem hn; exact (h4 i n hi).2.2.1
  ·obtain ⟨i, hi⟩ := List.getElem?_of_mem hn
   have := (h4 i n hi).2.2.2 k hk
   exact ⟨this.1, this.2.1⟩
  ·have := h6 i n hi
   rw [show (qx n != -1) = true by simpa using hp] at this
   simpa using this
theorem zzk (d : List Nd) (h : Sm d) : kc (Ev.upto 5000) ((d, ()), ()) = some ((chk d, ()), ()) := by
 unfold kc
 simp only [show (300 : Int) = ((300 : Nat) : Int) from rfl, zsh]
 unfold chk
 by_cases h3 : d.length > 300
 ·rw [if_pos h3]; simp [h3]
 rw [if_neg h3]
 simp only [decide_eq_false h3, cond_false]
 cases hd : d[0]? with
 | none =>
  have hd0 : d = [] := by
   cases d with
   | nil => rfl
   | cons a d => simp at hd
  subst hd0
  rw [if_neg (fun R => by have := R.pos; simp at this)]
  rfl
 | some n0 =>
  have hpos : 0 < d.length := (List.getElem?_eq_some_iff.1 hd).1
  have hl0 : ((d.length : Int) == 0) = false := by rw [beq_eq_false_iff_ne]; omega
  have hi0 : idx d 0 = some n0 := by unfold idx; simpa using hd
  simp only [hl0, beq_self_eq_true, cond_true, hi0, Option.bind_some]
  by_cases hr1 : n0.1 = 1
  case neg =>
   rw [if_neg (fun R => hr1 ((R.root 0 n0 hd).2 rfl))]
   have : (n0.1 != 1) = true := by simpa using hr1
   simp [this]
  have e1 : (n0.1 != 1) = false := by simpa using hr1
  simp only [e1, beq_self_eq_true, cond_true, Option.bind_some]
  by_cases hr2 : qx n0 = -1
  case neg =>
   rw [if_neg (fun R => hr2 (by have := R.par0; rw [show (0 : Int) = ((0 : Nat) : Int) from rfl, b6 hd] at this; exact this))]
   have : (n0.2.2.2.2.1 != -1) = true := by simpa using hr2
   simp [this]
  have e2 : (n0.2.2.2.2.1 != -1) = false := by simpa using hr2
  simp only [e2, cond_false]
  simp only [Int.toNat_natCast, zsi (show d.length ≤ 10000 by omega) (show 1 ≤ 1000 by omega), show decide ((0 : Int) ≤ (d.length : Int)) = true from decide_eq_true (by omega), beq_self_eq_true, Bool.and_self, cond_true]
  have hRI := zwx d (by omega) n0 hd
  simp only [hr1, hr2, and_self, true_and] at hRI

  refine zu (l := d) (σ := List Int) (fun i K => (((d, ((d.length : Int), ((i : Int), ())))), ((d, ()), (lay d.length K, ())))) (fun i n K => if zh8 d i n K then .inl (K ++ zf n) else .inr (.inr ((171, ()), ()))) (fun K => .inl ((), ((d, ()), (lay d.length K, ())))) (fun _ _ => True) [] (by rw [z1j]; rfl) trivial (by omega) (fun i K hi _ => ⟨?_, fun _ _ => trivial⟩) (fun K _ => ?_) ?_
  ·have hm := h.2 _ (List.getElem_mem hi)
   have hm2 : (zf d[i]).length ≤ 4000 := hm.2
   simp only [yz, decide_eq_true hi, cond_true, zk hi, Option.bind_some, z4q _ hm.1, zzj d[i], z2e, z5m]
   have flag : ∀ (X : ((Int × (List Nd) × Int × Int × Bool × Unit) × ((List Nd × Unit) × (List Bool) × (Nd × Unit) × Unit)) → Option (((List Nd × Int × Int × Unit) × ((List Nd × Unit) × (List Bool) × Unit)) ⊕ ((Unit × ((List Nd × Unit) × (List Bool) × Unit)) ⊕ ((Int × Unit) × Unit)))),
     (((bif (!mayB d[i]) == false then bif decide (i > 0) == true then bif (d[i].1 == 1) == false then bif (!(zf d[i] == [])) == true then some (((i : Int), (d, ((d.length : Int), ((i : Int), ((!wm d[i]), ()))))), ((d, ()), (lay d.length K, ((d[i], ()), ())))) else some (((i : Int), (d, ((d.length : Int), ((i : Int), (false, ()))))), ((d, ()), (lay d.length K, ((d[i], ()), ())))) else some (((i : Int), (d, ((d.length : Int), ((i : Int), (true, ()))))), ((d, ()), (lay d.length K, ((d[i], ()), ())))) else bif (!(zf d[i] == [])) == true then some (((i : Int), (d, ((d.length : Int), ((i : Int), ((!wm d[i]), ()))))), ((d, ()), (lay d.length K, ((d[i], ()), ())))) else some (((i : Int), (d, ((d.length : Int), ((i : Int), (false, ()))))), ((d, ()), (lay d.length K, ((d[i], ()), ())))) else some (((i : Int), (d, ((d.length : Int), ((i : Int), (true, ()))))), ((d, ()), (lay d.length K, ((d[i], ()), ()))))) : Option _).bind X)
     = X (((i : Int), (d, ((d.length : Int), ((i : Int), (!(mayB d[i] && !(decide (i > 0) && d[i].1 == 1) && (zf d[i] == [] || wm d[i])), ()))))), ((d, ()), (lay d.length K, ((d[i], ()), ())))) := by
    intro X
    cases mayB d[i] <;> cases decide (i > 0) <;> cases (d[i].1 == 1) <;> cases (zf d[i] == []) <;> cases wm d[i] <;> rfl
   refine (flag _).trans ?_
   unfold zh8
   cases hfl : (mayB d[i] && !(decide (i > 0) && d[i].1 == 1) && (zf d[i] == [] || wm d[i])) with
   | false => simp
   | true =>
    simp only [Bool.not_true, cond_false, Bool.true_and]
    refine zu (l := zf d[i]) (σ := List Int) (fun j K => (((i : Int), (d, ((d.length : Int), ((i : Int), (zf d[i], (((zf d[i]).length : Int), ((j : Int), ()))))))), ((d, ()), (lay d.length K, ())))) (fun _ k K => if (decide (1 ≤ k) && decide (k < (d.length : Int)) && !decide (k ∈ K) && (pr d k == (i : Int))) then .inl (K ++ [k]) else .inr (.inr ((171, ()), ()))) (fun K => .inl ((d, ((d.length : Int), ((i : Int), ()))), ((d, ()), (lay d.length K, ())))) (fun _ _ => True) K rfl trivial (by omega) (fun j K hj _ => ⟨?_, fun _ _ => trivial⟩) (fun K _ => ?_) ?_
    ·simp only [yz, decide_eq_true hj, cond_true, zk hj, Option.bind_some, z2d, z2c, zdu]
     generalize (zf d[i])[j] = k
     by_cases k1 : 1 ≤ k
     case neg => simp [k1]
     by_cases k2 : k < (d.length : Int)
     case neg => simp [k1, k2]
     obtain ⟨a, rfl⟩ := Int.eq_ofNat_of_zero_le (show 0 ≤ k by omega)
     have ha : a < d.length := by omega
     have hnd : d[a]? = some d[a] := List.getElem?_eq_getElem ha
     simp only [decide_eq_true k1, decide_eq_true k2, show decide (0 ≤ (a : Int)) = true from decide_eq_true (by omega), Bool.not_true, beq_self_eq_true, Bool.and_self, cond_true, Int.toNat_natCast, zdv ha, Option.bind_some, zk ha, Bool.true_and]
     by_cases k3 : (a : Int) ∈ K
     ·simp [k3]
     ·rw [b6 hnd]
      simp only [decide_eq_false k3, beq_self_eq_true, cond_true, Option.bind_some, Bool.not_false, Bool.true_and]
      by_cases k4 : qx d[a] = (i : Int)
      ·have b1 : (d[a].2.2.2.2.1 != (i : Int)) = false := by simpa using k4
       have b2 : (qx d[a] == (i : Int)) = true := by simpa using k4
       simp only [b1, b2, cond_false, if_true, zdu, decide_eq_true k2, show decide (0 ≤ (a : Int)) = true from decide_eq_true (by omega), Bool.and_self, cond_true, Int.toNat_natCast, zdv ha, Option.bind_some, z1k ha, x5 (show j < 1000000 by omega)]
      ·have b1 : (d[a].2.2.2.2.1 != (i : Int)) = true := by simpa using k4
       have b2 : (qx d[a] == (i : Int)) = false := by simpa using k4
       simp only [b1, b2, cond_true, Bool.false_eq_true, if_false]
    ·simp only [yz, Nat.lt_irrefl, decide_false, cond_false]
    ·rw [zsl]
     cases zca d (i : Int) K (zf d[i])
     ·rfl
     ·simp only [if_true, x5 (show i < 1000000 by omega)]
  ·simp only [yz, Nat.lt_irrefl, decide_false, cond_false]
  ·rw [zo6]
   cases hok : zh9 d 0 [] d with
   | false =>
    rw [if_neg (show ¬ zge d from fun R => by have := (hRI.1 R).1; rw [hok] at this; cases this)]
    rfl
   | true =>
    simp only [if_true, List.nil_append]

    have hK := ((zex d d 0 [] (by simp)).1 hok)
    show Option.bind _ _ = _
    refine zu (l := d) (σ := Unit) (fun i _ => (((d, ((d.length : Int), ((i : Int), ())))), ((d, ()), (lay d.length (y9 d), ())))) (fun i n _ => if !(decide ((i : Int) ∈ y9 d) == (qx n != -1)) then .inr (.inr ((171, ()), ())) else .inl ()) (fun _ => .inl ((), ((d, ()), ()))) (fun _ _ => True) () rfl trivial (by omega) (fun i s hi _ => ⟨?_, fun _ _ => trivial⟩) (fun s _ => ?_) ?_
    ·simp only [yz, decide_eq_true hi, cond_true, zk hi, Option.bind_some, zdu, show decide (0 ≤ (i : Int)) = true from decide_eq_true (by omega), Bool.and_self, Int.toNat_natCast, zdv hi]
     cases hx : (decide ((i : Int) ∈ y9 d) == (qx d[i] != -1))
     ·simp
     ·simp only [Bool.not_true, cond_false, Bool.false_eq_true, if_false, x5 (show i < 1000000 by omega)]
    ·simp only [yz, Nat.lt_irrefl, decide_false, cond_false]
    ·rcases gu (fun (i : Nat) (n : Nd) => !(decide ((i : Int) ∈ y9 d) == (qx n != -1))) ((.inr ((171, ()), ())) : (Unit × ((List Nd × Unit) × Unit)) ⊕ ((Int × Unit) × Unit)) (.inl ((), ((d, ()), ()))) d 0 with ⟨⟨j, n, hj, hp⟩, hf⟩ | ⟨hall, hf⟩
     ·rw [hf]
      rw [if_neg (fun R => by
       have := (hRI.1 R).2.1 j n hj
       simp [this] at hp)]
     ·rw [hf]
      have hl : ∀ (j : Nat) (n : Nd), d[j]? = some n → decide ((j : Int) ∈ y9 d) = (qx n != -1) := fun j n hj => by
       have := hall j n hj
       simpa using this
      have cl : ∀ x : Int, 0 ≤ x → x < d.length → pr d x = -1 ∨ (0 ≤ pr d x ∧ pr d x < d.length) := by
       intro x hx0 hx1
       obtain ⟨a, rfl⟩ := Int.eq_ofNat_of_zero_le hx0
       have ha : a < d.length := by omega
       have hnd : d[a]? = some d[a] := List.getElem?_eq_getElem ha
       by_cases hp : pr d (a : Int) = -1
       ·exact .inl hp
       ·have h9 := hl a _ hnd
        rw [b6 hnd] at hp
        rw [show (qx d[a] != -1) = true by simpa using hp] at h9
        have h10 : (a : Int) ∈ y9 d := by simpa using h9
        obtain ⟨m, hm1, hm2⟩ := List.mem_flatMap.1 h10
        obtain ⟨i, hi⟩ := List.getElem?_of_mem hm1
        have h11 := ((hK.1 i m hi).2.2.2 _ hm2).2.2
        have := (List.getElem?_eq_some_iff.1 hi).1
        rw [h11]
        right
        omega

      show Option.bind _ _ = _
      have zsj : ∀ (i : Nat) (hi : i < d.length), (∃ m, m ≤ d.length ∧ up d m (qx d[i]) = -1) ∨ ¬ ∃ m, m ≤ d.length ∧ up d m (qx d[i]) = -1 := fun i hi => Classical.em _
      classical
      refine zu (l := d) (σ := Unit) (fun i _ => (((d, ((d.length : Int), ((i : Int), ())))), ((d, ()), ()))) (fun i n _ => if !decide (∃ m, m ≤ d.length ∧ up d m (qx n) = -1) then .inr (.inr ((171, ()), ())) else .inl ()) (fun _ => .inl ((), ())) (fun _ _ => True) () rfl trivial (by omega) (fun i s hi _ => ⟨?_, fun _ _ => trivial⟩) (fun s _ => ?_) ?_
      ·have hnd : d[i]? = some d[i] := List.getElem?_eq_getElem hi
       have hrng : qx d[i] = -1 ∨ (0 ≤ qx d[i] ∧ qx d[i] < d.length) := by have := cl i (by omega) (by omega); rwa [b6 hnd] at this
       simp only [yz, decide_eq_true hi, cond_true, zk hi, Option.bind_some]
       generalize hf0 : (fun (s30 : (Int × Int × List Nd × Int × Int × Unit) × ((List Nd × Unit) × Unit)) => (bif s30.1.2.1 != -1 then _ else _ : Option (((Int × Int × List Nd × Int × Int × Unit) × ((List Nd × Unit) × Unit)) ⊕ (((List Nd × Int × Int × Unit) × ((List Nd × Unit) × Unit)) ⊕ ((Int × Unit) × Unit))))) = f0
       have hw := z4r (f := f0) d (fun s x => (((s : Int), (x, (d, ((d.length : Int), ((i : Int), ()))))), ((d, ()), ()))) (.inl ((d, ((d.length : Int), ((i : Int), ()))), ((d, ()), ()))) (.inr ((171, ()), ())) cl (fun s => by rw [← hf0]; rfl) (fun s x hx0 hx1 hs1 hs2 => ?_) (fun s x hx0 hx1 hs1 => ?_) d.length 0 (qx d[i]) 5000 (by omega) (by omega) hrng
       ·rcases hw with ⟨he, hv⟩ | ⟨he, hv⟩
        ·rw [decide_eq_true he]
         show ((jd f0 5000 _).bind _) = _
         have hv' : jd f0 5000 (((0 : Int), (d[i].2.2.2.2.1, (d, ((d.length : Int), ((i : Int), ()))))), ((d, ()), ())) = _ := hv
         rw [hv']
         simp only [Option.bind_some, Bool.not_true, Bool.false_eq_true, if_false, x5 (show i < 1000000 by omega)]
        ·rw [decide_eq_false he]
         show ((jd f0 5000 _).bind _) = _
         have hv' : jd f0 5000 (((0 : Int), (d[i].2.2.2.2.1, (d, ((d.length : Int), ((i : Int), ()))))), ((d, ()), ())) = _ := hv
         rw [hv']
         rfl
       ·rw [← hf0]
        have b1 : (x != -1) = true := by simp; omega
        simp only [b1, cond_true, x5 (show s < 1000000 by omega), zsh, decide_eq_true hs1]
       ·rw [← hf0]
        have b1 : (x != -1) = true := by simp; omega
        obtain ⟨a, rfl⟩ := Int.eq_ofNat_of_zero_le hx0
        have ha : a < d.length := by omega
        simp only [b1, cond_true, x5 (show s < 1000000 by omega), zsh, decide_eq_false (show ¬ s + 1 > d.length by omega), cond_false, zk ha, Option.bind_some, b6 (List.getElem?_eq_getElem ha)]
      ·simp only [yz, Nat.lt_irrefl, decide_false, cond_false]
      ·rcases gu (fun (i : Nat) (n : Nd) => !decide (∃ m, m ≤ d.length ∧ up d m (qx n) = -1)) ((.inr ((171, ()), ())) : (Unit × Unit) ⊕ ((Int × Unit) × Unit)) (.inl ((), ())) d 0 with ⟨⟨j, n, hj, hp⟩, hf⟩ | ⟨hall2, hf⟩
       ·rw [hf]
        rw [if_neg (fun R => by
         have := (hRI.1 R).2.2 j n hj
         simp [this] at hp)]
       ·rw [hf]
        rw [if_pos (hRI.2 ⟨hok, hl, fun j n hj => by simpa using hall2 j n hj⟩)]
def ks (d : List Nd) (x : Int) : List Int := match idx d x with
 | some n => zf n
 | none => []
theorem z4v {d : List Nd} {i : Nat} {n : Nd} (h : d[i]? = some n) : ks d (i : Int) = zf n := by
 unfold ks idx
 rw [if_pos (by omega), Int.toNat_natCast, h]
def In' (d : List Nd) (x : Int) : Prop := 0 ≤ x ∧ x < d.length
theorem In'.nat {d : List Nd} {x : Int} (h : In' d x) : ∃ (i : Nat) (n : Nd), x = (i : Int) ∧ d[i]? = some n := by
 obtain ⟨i, hi⟩ := Int.eq_ofNat_of_zero_le h.1
 have : i < d.length := by have := h.2; omega
 exact ⟨i, d[i], hi, List.getElem?_eq_getElem this⟩
theorem zge.mem_all {d : List Nd} (R : zge d) {k : Int} : k ∈ y9 d ↔ ∃ (i : Nat) (n : Nd), d[i]? = some n ∧ k ∈ zf n := by
 unfold y9
 rw [List.mem_flatMap]
 constructor
 ·rintro ⟨n, hn, hk⟩
  obtain ⟨i, hi⟩ := List.getElem?_of_mem hn
  exact ⟨i, n, hi, hk⟩
 ·rintro ⟨i, n, hi, hk⟩
  exact ⟨n, List.mem_of_getElem? hi, hk⟩
theorem zge.par {d : List Nd} (R : zge d) {k : Int} (hk : In' d k) (h : pr d k ≠ -1) : In' d (pr d k) ∧ k ∈ ks d (pr d k) := by
 obtain ⟨i, n, rfl, hi⟩ := hk.nat
 rw [b6 hi] at h ⊢
 obtain ⟨j, m, hj, hm⟩ := R.mem_all.1 (R.laid i n hi h)
 have := R.back j m hj _ hm
 rw [b6 hi] at this
 rw [this]
 have hl := (List.getElem?_eq_some_iff.1 hj).1
 exact ⟨⟨by omega, by omega⟩, by rw [z4v hj]; exact hm⟩
theorem zge.cl {d : List Nd} (R : zge d) (x : Int) (h0 : 0 ≤ x) (h1 : x < d.length) : pr d x = -1 ∨ (0 ≤ pr d x ∧ pr d x < d.length) := by
 by_cases h : pr d x = -1
 ·exact .inl h
 ·exact .inr (R.par ⟨h0, h1⟩ h).1
noncomputable def thr (d : List Nd) (x : Int) : Bool := (chk d == 0) && (decide (x ≥ 0) && decide (x < d.length))
def hd (s : Bs) : Int := match s with
 | [] => 0
 | c :: _ => (c.toNat : Int)
def lowI (n : Int) : Int := bif decide (n ≥ 65) && decide (n ≤ 90) then n + 32 else n
def zi (s : Bs) : Bs := toBs ((ofBs s).map lowI)
theorem zg1 (s : Bs) : (zi s).length = s.length := by simp [zi, toBs, ofBs]
theorem bm {s : Bs} {i : Nat} (h : i < s.length) : (ofBs s)[i]'(by rw [jc]; exact h) = (s[i].toNat : Int) := by simp [ofBs]
theorem zg2 (c : UInt8) (h0 : decide ((c.toNat : Int) ≥ 65) = true) (h1 : decide ((c.toNat : Int) ≤ 90) = true) : IntKind.wrap .u8 ((IntKind.wrap .u8 ((c.toNat : Int) + 97)) - 65) = (c.toNat : Int) + 32 := by
 have h0 := of_decide_eq_true h0
 have h1 := of_decide_eq_true h1
 rw [zlf (n := (c.toNat : Int) + 97) (by omega) (by omega), zlf (by omega) (by omega)]
 omega
theorem uj (N : Nat) (s : Bs) (hs : s.length < N) (hb : s.length ≤ 1000000) : ym (Ev.upto N) ((s, ()), ()) = some ((zi s, ()), ()) := by
 apply zsg
 unfold ym
 refine kh ?_
 refine zab (σ := Unit) (fun i _ => ((((ofBs s).length : Int), ((i : Int), ())), (((ofBs s).take i).map lowI ++ (ofBs s).drop i, ()))) (fun i _ => True) s.length () (by simp) trivial hs ?_
 rintro i _ hi _
 have hol := jc s
 have hll : (((ofBs s).take i).map lowI ++ (ofBs s).drop i).length = s.length := by simp [hol]; omega
 by_cases hi' : i < s.length
 ·have c0 : decide ((i : Int) < ((ofBs s).length : Int)) = true := decide_eq_true (by omega)
  have c1 : decide ((i : Int) < ((((ofBs s).take i).map lowI ++ (ofBs s).drop i).length : Int)) = true := decide_eq_true (by omega)
  have c2 : decide ((0 : Int) ≤ (i : Int)) = true := decide_eq_true (by omega)
  have w : IntKind.wrap .i64 ((i : Int) + 1) = ((i + 1 : Nat) : Int) := by rw [wj (by omega) (by omega)]; omega
  have hd : (ofBs s).drop i = (s[i].toNat : Int) :: (ofBs s).drop (i + 1) := by rw [List.drop_eq_getElem_cons (by omega), bm hi']
  have hlen : (((ofBs s).take i).map lowI).length = i := by simp [hol]; omega
  have g : (((ofBs s).take i).map lowI ++ (ofBs s).drop i)[((i : Int)).toNat]? = some (s[i].toNat : Int) := by
   rw [Int.toNat_natCast, List.getElem?_append_right (by omega), hlen, Nat.sub_self, hd]; rfl
  have st : ∀ v, (((ofBs s).take i).map lowI ++ (ofBs s).drop i).set ((i : Int)).toNat v = ((ofBs s).take i).map lowI ++ v :: (ofBs s).drop (i + 1) := by
   intro v
   rw [Int.toNat_natCast, List.set_append_right _ _ (by omega), hlen, Nat.sub_self, hd]; rfl
  have nx : ((ofBs s).take (i + 1)).map lowI ++ (ofBs s).drop (i + 1) = ((ofBs s).take i).map lowI ++ lowI (s[i].toNat : Int) :: (ofBs s).drop (i + 1) := by
   rw [List.take_succ_eq_append_getElem (by omega), List.map_append, bm hi']; simp
  simp -implicitDefEqProofs only [c0, c1, c2, Bool.and_self, cond_true, g, Option.bind_some]
  cases h1 : decide ((s[i].toNat : Int) ≥ 65) with
  | false =>
   have hx : lowI (s[i].toNat : Int) = (s[i].toNat : Int) := by unfold lowI; rw [h1]; rfl
   rw [hx] at nx
   exact ⟨_, rfl, hi', (), by simp only [w, nx, ← hd], trivial⟩
  | true =>
   cases h2 : decide ((s[i].toNat : Int) ≤ 90) with
   | false =>
    have hx : lowI (s[i].toNat : Int) = (s[i].toNat : Int) := by unfold lowI; rw [h1, h2]; rfl
    rw [hx] at nx
    exact ⟨_, rfl, hi', (), by simp only [w, nx, ← hd], trivial⟩
   | true =>
    have hx : lowI (s[i].toNat : Int) = (s[i].toNat : Int) + 32 := by unfold lowI; rw [h1, h2]; rfl
    rw [hx] at nx
    have lw := zg2 s[i] h1 h2
    simp -implicitDefEqProofs only [beq_self_eq_true, cond_true, Option.bind_some, c1, c2, Bool.and_self, g, st, lw]
    exact ⟨_, rfl, hi', (), by simp only [w, nx], trivial⟩
 ·have c0 : decide ((i : Int) < ((ofBs s).length : Int)) = false := decide_eq_false (by omega)
  simp -implicitDefEqProofs only [c0, cond_false]
  refine ⟨_, rfl, _, rfl, ?_⟩
  rw [List.take_of_length_le (by omega), List.drop_eq_nil_of_le (by omega), List.append_nil]
  rfl
set_option maxHeartbeats 50000 in
set_option maxHeartbeats 50000 in
theorem z6t (V : Ev) (s p : Bs) (hs : s.length ≤ 1000000) (hp : p.length ≤ 1000) : jl V ((s, (p, ())), ()) = some ((s.take p.length == p, ()), ()) := by
 unfold jl xl
 by_cases h : p.length ≤ s.length
 ·have c0 : (decide ((s.length : Int) ≥ (p.length : Int)) == true) = true := by rw [decide_eq_true (by omega)]; rfl
  have := z2a (l := s) (a := 0) (b := p.length) (by omega) h
  rw [List.drop_zero] at this
  simp -implicitDefEqProofs only [c0, cond_true, show (0 : Int) = ((0 : Nat) : Int) from rfl, this, Option.bind_some]
 ·have c0 : (decide ((s.length : Int) ≥ (p.length : Int)) == true) = false := by rw [decide_eq_false (by omega)]; rfl
  have hne : (s.take p.length == p) = false := by
   rw [beq_eq_false_iff_ne]
   intro e
   have := congrArg List.length e
   simp at this
   omega
  simp -implicitDefEqProofs only [c0, cond_false, Option.bind_some, hne]
noncomputable def elB (d : List Nd) (x : Int) : Bool := thr d x && (match idx d x with | some n => n.1 == 2 | none => false)
def nmOf (d : List Nd) (x : Int) : Bs := match idx d x with
 | some n => n.2.1
 | none => []
abbrev nScr : Bs := [115, 99, 114, 105, 112, 116]
def tabS : List ((Bs × Bs) × Int) := [((([105, 102, 114, 97, 109, 101] : Bs), ([115, 114, 99, 100, 111, 99] : Bs)), 1), ((([115, 99, 114, 105, 112, 116] : Bs), ([115, 114, 99] : Bs)), 3)]
theorem z4x : zc7 (Ev.upto 5000) ((), ()) = some ((), (tabS, ())) := by kernel_rfl
noncomputable def zu3 (d : List Nd) (x : Int) (nm : Bs) : Int := if elB d x = true then (if (decide (nm.length > 2) && ((zi nm).take 2 == ([111, 110] : Bs))) = true then 2 else zn0 (nmOf d x, zi nm) 0 tabS) else 0
noncomputable def innS (d : List Nd) (x : Int) : Int := if elB d x = true then (if (nmOf d x == nScr) = true then 2 else 1) else 0
theorem z4y (d : List Nd) (x : Int) (hs : Sm d) : ∃ s, zco (Ev.upto 5000) ((d, (x, ())), ()) = some ((s, (elB d x, ())), ()) ∧ (elB d x = true → s = nmOf d x) := by
 unfold zco elB thr nmOf
 simp only [zzk d hs, Option.bind_some]
 by_cases hc : chk d = 0
 ·simp only [hc, bne_self_eq_false, beq_self_eq_true, cond_true, Bool.true_and]
  by_cases h0 : x < 0
  ·simp only [decide_eq_true h0, decide_eq_false (show ¬ x ≥ 0 by omega), show (true == false) = false from rfl, cond_false, Option.bind_some, cond_true, Bool.false_and]
   exact ⟨[], rfl, fun h => by cases h⟩
  ·by_cases h1 : x ≥ (d.length : Int)
   ·simp only [decide_eq_false h0, decide_eq_true h1, decide_eq_false (show ¬ x < (d.length : Int) by omega), beq_self_eq_true, cond_true, Option.bind_some, Bool.and_false, Bool.false_and]
    exact ⟨[], rfl, fun h => by cases h⟩
   ·obtain ⟨n, hn, _⟩ := z0o (show 0 ≤ x by omega) (show x < (d.length : Int) by omega)
    simp only [decide_eq_false h0, decide_eq_false h1, decide_eq_true (show x ≥ 0 by omega), decide_eq_true (show x < (d.length : Int) by omega), beq_self_eq_true, cond_true, cond_false, Option.bind_some, hn, Bool.and_self, Bool.true_and]
    exact ⟨n.2.1, rfl, fun _ => rfl⟩
 ·have : (chk d == 0) = false := beq_eq_false_iff_ne.2 hc
  simp only [bne_iff_ne.2 hc, this, show (true == false) = false from rfl, cond_false, Option.bind_some, cond_true, Bool.false_and]
  exact ⟨[], rfl, fun h => by cases h⟩
theorem gt2 (n : Nat) : decide ((n : Int) > 2) = decide (n > 2) := by
 by_cases h : n > 2
 ·rw [decide_eq_true h, decide_eq_true (by omega)]
 ·rw [decide_eq_false h, decide_eq_false (by omega)]
theorem z5p (d : List Nd) (x : Int) (nm : Bs) (hs : Sm d) (hn : nm.length ≤ 300) : ke (Ev.upto 5000) ((d, (x, (nm, ()))), ()) = some ((zu3 d x nm, ()), ()) := by
 have hl := zg1 nm
 obtain ⟨s, e, hse⟩ := z4y d x hs
 unfold ke zu3
 simp only
 rw [e]
 simp only [Option.bind_some]
 rw [uj 5000 nm (by omega) (by omega)]
 simp only [Option.bind_some]
 cases he : elB d x with
 | false => rfl
 | true =>
  rw [hse he]
  simp only [Bool.not_true, cond_false, gt2, hl, if_true]
  have hb : ∀ b : Bool, ((if b = true then (2 : Int) else zn0 (nmOf d x, zi nm) 0 tabS) = bif b then 2 else zn0 (nmOf d x, zi nm) 0 tabS) := fun b => by cases b <;> rfl
  cases h2 : decide (nm.length > 2) with
  | false =>
   simp only [show (false == true) = false from rfl, cond_false, Option.bind_some, Bool.false_and, Bool.false_eq_true, if_false]
   rw [z4x]
   rfl
  | true =>
   simp only [beq_self_eq_true, cond_true, Bool.true_and]
   rw [z6t (Ev.upto 5000) (zi nm) [111, 110] (by omega) (by simp)]
   simp only [Option.bind_some]
   show (bif ((zi nm).take 2 == ([111, 110] : Bs)) then _ else _) = _
   cases ((zi nm).take 2 == ([111, 110] : Bs)) with
   | true => rfl
   | false =>
    simp only [cond_false, Bool.false_eq_true, if_false]
    rw [z4x]
    rfl
theorem z0q (d : List Nd) (x : Int) (hs : Sm d) : kf (Ev.upto 5000) ((d, (x, ())), ()) = some ((innS d x, ()), ()) := by
 obtain ⟨s, e, hse⟩ := z4y d x hs
 unfold kf innS
 simp only
 rw [e]
 simp only [Option.bind_some]
 cases he : elB d x with
 | false => rfl
 | true =>
  rw [hse he]
  simp only [Bool.not_true, cond_false, if_true]
  cases (nmOf d x == ([115, 99, 114, 105, 112, 116] : Bs)) <;> rfl
theorem zgf : zp (Ev.upto 5000) ((), ()) = some ((true, ()), ()) := by kernel_rfl
def upI (n : Int) : Int := if 97 ≤ n ∧ n ≤ 122 then n - 32 else n
theorem z7o (s : Bs) : zi (toBs ((ofBs s).map upI)) = zi s ∧ (toBs ((ofBs s).map upI)).length = s.length := by
 refine ⟨?_, by simp [toBs, ofBs]⟩
 have hof : ofBs (toBs ((ofBs s).map upI)) = (ofBs s).map upI := by
  unfold ofBs toBs
  rw [List.map_map, List.map_map, List.map_map, List.map_map]
  refine List.map_congr_left fun c _ => ?_
  have hc := z4n c
  simp only [Function.comp]
  have h1 : 0 ≤ upI (c.toNat : Int) ∧ upI (c.toNat : Int) ≤ 255 := by unfold upI; split <;> omega
  rw [UInt8.toNat_ofNat']
  omega
 unfold zi
 rw [hof]
 congr 1
 rw [List.map_map]
 refine List.map_congr_left fun n hn => ?_
 simp only [Function.comp]
 unfold upI
 split
 ·rename_i h
  have e1 : lowI n = n := by
   unfold lowI
   rw [decide_eq_false (show ¬ n ≤ 90 by omega), Bool.and_false]
   rfl
  have e2 : lowI (n - 32) = n := by
   unfold lowI
   rw [decide_eq_true (show n - 32 ≥ 65 by omega), decide_eq_true (show n - 32 ≤ 90 by omega)]
   show n - 32 + 32 = n
   omega
  rw [e1, e2]
 ·rfl
theorem plainSinkNames (d : List Nd) (x : Int) (nm : Bs) : zbj (Ev.upto 5000) ((d, (x, (nm, ()))), ()) = some ((true, ()), ()) := by
 unfold zbj
 obtain ⟨b, hb, hk⟩ := big d
 simp only [hb, Option.bind_some]
 cases b with
 | true => rfl
 | false =>
  have hd := hk rfl
  have hs := hd.sm
  simp only [beq_self_eq_true, cond_true, Option.bind_some]
  cases hn : decide ((nm.length : Int) > 300) with
  | true => rfl
  | false =>
   have hnm : nm.length ≤ 300 := by have := of_decide_eq_false hn; omega
   simp only [cond_false]
   refine z7i (fun i : Nat => ((x, (nm, ((i : Int), ()))), ((d, ()), (((ofBs (nm.take i)).map upI ++ ofBs (nm.drop i)), ())))) nm.length ((x, (nm, ())), ((d, ()), ((ofBs nm).map upI, ()))) (by simp [ofBs]) (fun i hi => ?_) ?_ (by omega) ?_
   ·have hlen : ((ofBs (nm.take i)).map upI ++ ofBs (nm.drop i)).length = nm.length := by
     simp only [List.length_append, List.length_map, jc, List.length_take, List.length_drop]
     omega
    have hpl : ((ofBs (nm.take i)).map upI).length = i := by
     simp only [List.length_map, jc, List.length_take]
     omega
    have hdr : ofBs (nm.drop i) = (nm[i].toNat : Int) :: ofBs (nm.drop (i + 1)) := by
     rw [List.drop_eq_getElem_cons hi]
     rfl
    have hget : ((ofBs (nm.take i)).map upI ++ ofBs (nm.drop i))[i]? = some (nm[i].toNat : Int) := by
     rw [List.getElem?_append_right (by omega), hpl, Nat.sub_self, hdr]
     rfl
    have htk : (ofBs (nm.take (i + 1))).map upI = (ofBs (nm.take i)).map upI ++ [upI (nm[i].toNat : Int)] := by
     rw [List.take_succ_eq_append_getElem hi, ← z1f, List.map_append]
     rfl
    have hset : ∀ n : Int, ((ofBs (nm.take i)).map upI ++ ofBs (nm.drop i)).set i n = (ofBs (nm.take i)).map upI ++ n :: ofBs (nm.drop (i + 1)) := fun n => by
     rw [List.set_append_right _ _ (by omega), hpl, Nat.sub_self, hdr]
     rfl
    have hb := z4n nm[i]
    rw [htk]
    simp only [hlen, yz, decide_eq_true hi, cond_true, decide_eq_true (show (0 : Int) ≤ (i : Int) by omega), Bool.and_self, Int.toNat_natCast, hget, Option.bind_some]
    by_cases h1 : (97 : Int) ≤ (nm[i].toNat : Int)
    ·simp only [decide_eq_true (show (nm[i].toNat : Int) ≥ 97 from h1), beq_self_eq_true, cond_true, Option.bind_some]
     by_cases h2 : (nm[i].toNat : Int) ≤ 122
     ·have hu : upI (nm[i].toNat : Int) = (nm[i].toNat : Int) - 32 := by unfold upI; rw [if_pos ⟨h1, h2⟩]
      have hw : IntKind.wrap .u8 ((nm[i].toNat : Int) - 32) = (nm[i].toNat : Int) - 32 := zlf (by omega) (by omega)
      simp only [decide_eq_true h2, cond_true, hlen, yz, decide_eq_true hi, decide_eq_true (show (0 : Int) ≤ (i : Int) by omega), Bool.and_self, Int.toNat_natCast, hget, Option.bind_some, hw, hset, hu, x5 (show i < 1000000 by omega), List.append_assoc, List.singleton_append]
     ·have hu : upI (nm[i].toNat : Int) = (nm[i].toNat : Int) := by unfold upI; rw [if_neg fun h => h2 h.2]
      simp only [decide_eq_false h2, cond_false, Option.bind_some, hu, x5 (show i < 1000000 by omega), List.append_assoc, List.singleton_append, hdr]
    ·have hu : upI (nm[i].toNat : Int) = (nm[i].toNat : Int) := by unfold upI; rw [if_neg fun h => h1 h.1]
     simp only [decide_eq_false (show ¬ (nm[i].toNat : Int) ≥ 97 from h1), show (false == true) = false from rfl, cond_false, Option.bind_some, hu, x5 (show i < 1000000 by omega), List.append_assoc, List.singleton_append, hdr]
   ·have hlen : ((ofBs (nm.take nm.length)).map upI ++ ofBs (nm.drop nm.length)) = (ofBs nm).map upI := by
     rw [List.take_length, List.drop_length]
     simp [ofBs]
    simp only [hlen, List.length_map, jc, yz, Nat.lt_irrefl, decide_false, cond_false]
   ·obtain ⟨hlow, hll⟩ := z7o nm
    simp only [z5p d x nm hs hnm, Option.bind_some]
    have hA : zu3 d x (toBs ((ofBs nm).map upI)) = zu3 d x nm := by unfold zu3; rw [hlow, hll]
    have hNo : elB d x = false → zu3 d x nm = 0 ∧ innS d x = 0 := fun he => by unfold zu3 innS; rw [he]; exact ⟨rfl, rfl⟩
    by_cases h0 : x < 0
    ·have he : elB d x = false := by
      unfold elB thr
      simp [show ¬ x ≥ 0 by omega]
     obtain ⟨e1, e2⟩ := hNo he
     simp only [decide_eq_true h0, show (true == false) = false from rfl, cond_false, Option.bind_some, cond_true]
     rw [zgf]
     simp only [Option.bind_some, beq_self_eq_true, cond_true, e1, z0q d x hs, e2]
    ·by_cases h1 : x ≥ (d.length : Int)
     ·have he : elB d x = false := by
       unfold elB thr
       simp [show ¬ x < (d.length : Int) by omega]
      obtain ⟨e1, e2⟩ := hNo he
      simp only [decide_eq_false h0, decide_eq_true h1, beq_self_eq_true, show (true == false) = false from rfl, cond_false, Option.bind_some, cond_true]
      rw [zgf]
      simp only [Option.bind_some, beq_self_eq_true, cond_true, e1, z0q d x hs, e2]
     ·obtain ⟨n, hni, _⟩ := z0o (show 0 ≤ x by omega) (show x < (d.length : Int) by omega)
      simp only [decide_eq_false h0, decide_eq_false h1, beq_self_eq_true, cond_true, hni, Option.bind_some]
      by_cases h2 : n.1 = 2
      ·have : (n.1 != (2 : Int)) = false := by rw [h2]; rfl
       simp only [this, cond_false]
       rw [zgf]
       simp only [Option.bind_some, beq_self_eq_true, cond_true, z5p d x (toBs ((ofBs nm).map upI)) hs (by rw [hll]; exact hnm), hA]
      ·have he : elB d x = false := by
        unfold elB
        rw [hni]
        simp [h2]
       obtain ⟨e1, e2⟩ := hNo he
       simp only [bne_iff_ne.2 h2, cond_true]
       rw [zgf]
       simp only [Option.bind_some, beq_self_eq_true, cond_true, e1, z0q d x hs, e2]
end Go.En.Pl
