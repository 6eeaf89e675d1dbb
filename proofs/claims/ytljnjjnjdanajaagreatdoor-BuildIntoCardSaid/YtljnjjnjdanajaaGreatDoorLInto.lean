/- Text LInto of this seat: written by a program of ours, or by hand; checked by Lean. -/
import Derived.Test.YtljnjjnjdanajaaGreatDoorG
import Derived.Test.YtljnjjnjdanajaaGreatDoorW
set_option linter.unusedSimpArgs false
set_option linter.unusedVariables false
namespace Go.En.Pl
abbrev At := Bs × Bs
abbrev Nd := Int × (Bs × (Bs × ((List At) × (Int × ((List Int) × (Bool × Bool))))))
def zq {ε σ β : Type} (g : Nat → ε → σ → σ ⊕ β) (fin : σ → β) : Nat → List ε → σ → β
 | _, [], s => fin s
 | i, x :: l, s => match g i x s with
  | .inl s' => zq g fin (i + 1) l s'
  | .inr b => b
theorem zkf {α β σ ε : Type} {f : α → Option (α ⊕ β)} {l : List ε} {N : Nat} (st : Nat → σ → α) (g : Nat → ε → σ → σ ⊕ β) (fin : σ → β) (I : Nat → σ → Prop) (s0 : σ) (h0 : I 0 s0) (hN : l.length < N)
  (hs : ∀ i s (hi : i < l.length), I i s → f (st i s) = some (match g i l[i] s with | .inl s' => .inl (st (i + 1) s') | .inr b => .inr b) ∧ ∀ s', g i l[i] s = .inl s' → I (i + 1) s')
  (he : ∀ s, I l.length s → f (st l.length s) = some (.inr (fin s))) : (Ev.upto N).it f (st 0 s0) = some (zq g fin 0 l s0) := by
 show yz f N (st 0 s0) = _
 have key : ∀ (d i : Nat) (s : σ) (N : Nat), i + d = l.length → d < N → I i s → yz f N (st i s) = some (zq g fin i (l.drop i) s) := by
  intro d
  induction d with
  | zero =>
   intro i s N e hN hi
   have : i = l.length := by omega
   subst this
   cases N with
   | zero => omega
   | succ N =>
    unfold yz
    rw [he s hi, List.drop_length]
    rfl
  | succ d ih =>
   intro i s N e hN hi
   have hlt : i < l.length := by omega
   obtain ⟨h1, h2⟩ := hs i s hlt hi
   cases N with
   | zero => omega
   | succ N =>
    unfold yz
    rw [h1, List.drop_eq_getElem_cons hlt]
    unfold zq
    cases hg : g i l[i] s with
    | inr b => rfl
    | inl s' => exact ih (i + 1) s' N (by omega) (by omega) (h2 s' hg)
 have := key l.length 0 s0 N (by omega) hN h0
 simpa using this
theorem zj {α β σ ε γ : Type} {f : α → Option (α ⊕ β)} {a0 : α} {k : β → Option γ} {r : Option γ} {l : List ε} {N : Nat} (st : Nat → σ → α) (g : Nat → ε → σ → σ ⊕ β) (fin : σ → β) (I : Nat → σ → Prop) (s0 : σ) (ha : a0 = st 0 s0) (h0 : I 0 s0) (hN : l.length < N)
  (hs : ∀ i s (hi : i < l.length), I i s → f (st i s) = some (match g i l[i] s with | .inl s' => .inl (st (i + 1) s') | .inr b => .inr b) ∧ ∀ s', g i l[i] s = .inl s' → I (i + 1) s')
  (he : ∀ s, I l.length s → f (st l.length s) = some (.inr (fin s))) (hr : k (zq g fin 0 l s0) = r) : ((Ev.upto N).it f a0).bind k = r := by
 rw [ha, zkf st g fin I s0 h0 hN hs he]
 exact hr
theorem zy {i : Nat} (h : i < 1000000) : IntKind.wrap .i64 ((i : Int) + 1) = ((i + 1 : Nat) : Int) := by
 rw [jj (by omega) (by omega)]; rfl
theorem zp (i n : Nat) : decide ((i : Int) < (n : Int)) = decide (i < n) := by
 by_cases h : i < n
 ·rw [decide_eq_true h, decide_eq_true (by omega)]
 ·rw [decide_eq_false h, decide_eq_false (by omega)]
theorem x7 {ε β : Type} (g : Nat → ε → Unit → Unit ⊕ β) (fin : Unit → β) : ∀ (l : List ε) (i : Nat), (∀ j (hj : j < l.length), g (i + j) l[j] () = .inl ()) → zq g fin i l () = fin ()
 | [], _, _ => rfl
 | x :: l, i, h => by
  unfold zq
  have h0 := h 0 (by simp)
  simp only [Nat.add_zero, List.getElem_cons_zero] at h0
  rw [h0]
  exact x7 g fin l (i + 1) fun j hj => by
   have := h (j + 1) (by simpa using hj)
   rw [show i + 1 + j = i + (j + 1) by omega]
   simpa using this
theorem zo4 (l : List Int) (h : l.length ≤ 4000) : qa (Ev.upto 5000) ((l, (l, ())), ()) = some ((true, ()), ()) := by
 unfold qa
 simp only [bne_self_eq_false, cond_false]
 refine zj (l := l) (σ := Unit) (fun i _ => ((l, (l, ((i : Int), ()))), ())) (fun _ _ _ => .inl ()) (fun _ => .inl ((), ())) (fun _ _ => True) () rfl trivial (by omega) (fun i s hi _ => ⟨?_, fun _ _ => trivial⟩) (fun s _ => ?_) (by rw [x7 _ _ _ _ (fun _ _ => rfl)])
 ·simp only [zp, decide_eq_true hi, cond_true, zh hi, Option.bind_some, bne_self_eq_false, cond_false, zy (show i < 1000000 by omega)]
 ·simp only [zp, Nat.lt_irrefl, decide_false, cond_false]
theorem zre (l : List At) (h : l.length ≤ 4000) : x3 (Ev.upto 5000) ((l, (l, ())), ()) = some ((true, ()), ()) := by
 unfold x3
 simp only [bne_self_eq_false, cond_false]
 refine zj (l := l) (σ := Unit) (fun i _ => ((l, (l, ((i : Int), ()))), ())) (fun _ _ _ => .inl ()) (fun _ => .inl ((), ())) (fun _ _ => True) () rfl trivial (by omega) (fun i s hi _ => ⟨?_, fun _ _ => trivial⟩) (fun s _ => ?_) (by rw [x7 _ _ _ _ (fun _ _ => rfl)])
 ·simp only [zp, decide_eq_true hi, cond_true, zh hi, Option.bind_some, beq_self_eq_true, Bool.and_self, Bool.not_true, cond_false, zy (show i < 1000000 by omega)]
 ·simp only [zp, Nat.lt_irrefl, decide_false, cond_false]
theorem zv3 (n : Nd) (h1 : n.2.2.2.1.length ≤ 4000) (h2 : n.2.2.2.2.2.1.length ≤ 4000) : jw (Ev.upto 5000) ((n, (n, ())), ()) = some ((true, ()), ()) := by
 unfold jw
 simp only [beq_self_eq_true, cond_true, zre _ h1, zo4 _ h2, Option.bind_some]
def Sm (d : List Nd) : Prop := d.length ≤ 4000 ∧ ∀ n, n ∈ d → n.2.2.2.1.length ≤ 4000 ∧ n.2.2.2.2.2.1.length ≤ 4000
theorem zxb (d : List Nd) (h : Sm d) : jz (Ev.upto 5000) ((d, (d, ())), ()) = some ((true, ()), ()) := by
 unfold jz
 simp only [bne_self_eq_false, cond_false]
 refine zj (l := d) (σ := Unit) (fun i _ => ((((i : Int), ()), ((d, ()), ((d, ()), ()))))) (fun _ _ _ => .inl ()) (fun _ => .inl ((), ())) (fun _ _ => True) () rfl trivial (by have := h.1; omega) (fun i s hi _ => ⟨?_, fun _ _ => trivial⟩) (fun s _ => ?_) (by rw [x7 _ _ _ _ (fun _ _ => rfl)])
 ·have hm := h.2 _ (List.getElem_mem hi)
  have := h.1
  simp only [zp, decide_eq_true hi, cond_true, zh hi, Option.bind_some, zv3 _ hm.1 hm.2, Bool.not_true, cond_false, zy (show i < 1000000 by omega)]
 ·simp only [zp, Nat.lt_irrefl, decide_false, cond_false]
def NdOk (n : Nd) : Prop := n.2.1.length ≤ 300 ∧ n.2.2.1.length ≤ 3000 ∧ n.2.2.2.1.length ≤ 40 ∧ n.2.2.2.2.2.1.length ≤ 400 ∧ ∀ a, a ∈ n.2.2.2.1 → a.1.length ≤ 300 ∧ a.2.length ≤ 2000
theorem zey (n : Nat) (k : Nat) : decide ((n : Int) > (k : Int)) = decide (n > k) := by
 by_cases h : n > k
 ·rw [decide_eq_true h, decide_eq_true (by omega)]
 ·rw [decide_eq_false h, decide_eq_false (by omega)]
theorem vz {ε β : Type} (p : ε → Bool) (b e : β) : ∀ (l : List ε) (i : Nat), zq (fun (_ : Nat) (x : ε) (_ : Unit) => if p x then (.inr b : Unit ⊕ β) else .inl ()) (fun _ => e) i l () = if l.any p then b else e
 | [], _ => rfl
 | x :: l, i => by
  unfold zq
  cases hp : p x with
  | true => simp [hp]
  | false => simp only [List.any_cons, hp, Bool.false_or]; exact vz p b e l (i + 1)
theorem z3g (n : Nd) : ∃ b, x6 (Ev.upto 5000) ((n, ()), ()) = some ((b, ()), ()) ∧ (b = false → NdOk n) := by
 unfold x6
 simp only [show (300 : Int) = ((300 : Nat) : Int) from rfl, show (3000 : Int) = ((3000 : Nat) : Int) from rfl, show (40 : Int) = ((40 : Nat) : Int) from rfl, show (400 : Int) = ((400 : Nat) : Int) from rfl, show (2000 : Int) = ((2000 : Nat) : Int) from rfl, zey]
 by_cases h1 : n.2.1.length > 300
 ·exact ⟨true, by simp [h1], by simp⟩
 by_cases h2 : n.2.2.1.length > 3000
 ·exact ⟨true, by simp [h1, h2], by simp⟩
 by_cases h3 : n.2.2.2.1.length > 40
 ·exact ⟨true, by simp [h1, h2, h3], by simp⟩
 by_cases h4 : n.2.2.2.2.2.1.length > 400
 ·exact ⟨true, by simp [h1, h2, h3, h4], by simp⟩
 simp only [decide_eq_false h1, decide_eq_false h2, decide_eq_false h3, decide_eq_false h4, beq_self_eq_true, cond_true, Option.bind_some, cond_false]
 refine ⟨n.2.2.2.1.any fun x => decide (x.1.length > 300) || decide (x.2.length > 2000), zj (l := n.2.2.2.1) (σ := Unit) (fun i _ => ((((i : Int), ()), ((n, ()), ())))) (fun _ x _ => if (decide (x.1.length > 300) || decide (x.2.length > 2000)) then .inr (.inr ((true, ()), ())) else .inl ()) (fun _ => .inl ((), ())) (fun _ _ => True) () rfl trivial (by omega) (fun i s hi _ => ⟨?_, fun _ _ => trivial⟩) (fun s _ => ?_) ?_, fun ha => ⟨by omega, by omega, by omega, by omega, fun a hm => ?_⟩⟩
 ·simp only [zp, decide_eq_true hi, cond_true, zh hi, Option.bind_some, zy (show i < 1000000 by omega)]
  by_cases h5 : n.2.2.2.1[i].1.length > 300
  ·simp [h5]
  ·by_cases h6 : n.2.2.2.1[i].2.length > 2000
   ·simp [h5, h6]
   ·simp [h5, h6]
    exact jj (by omega) (by omega)
 ·simp only [zp, Nat.lt_irrefl, decide_false, cond_false]
 ·rw [vz]
  cases (n.2.2.2.1.any fun x => decide (x.1.length > 300) || decide (x.2.length > 2000)) <;> rfl
 ·simp only [List.any_eq_false, Bool.or_eq_true, decide_eq_true_eq, not_or] at ha
  have := ha a hm
  omega
def uz (d : List Nd) : Prop := d.length ≤ 310 ∧ ∀ n, n ∈ d → NdOk n
theorem uz.sm {d : List Nd} (h : uz d) : Sm d := ⟨by have := h.1; omega, fun n hn => by have := h.2 n hn; unfold NdOk at this; omega⟩
theorem big (d : List Nd) : ∃ b, bd (Ev.upto 5000) ((d, ()), ()) = some ((b, ()), ()) ∧ (b = false → uz d) := by
 unfold bd
 simp only [show (310 : Int) = ((310 : Nat) : Int) from rfl, zey]
 by_cases h1 : d.length > 310
 ·exact ⟨true, by simp [h1], by simp⟩
 simp only [decide_eq_false h1, cond_false]
 have hb : ∀ n : Nd, ∃ b, x6 (Ev.upto 5000) ((n, ()), ()) = some ((b, ()), ()) ∧ (b = false → NdOk n) := z3g
 let B : Nd → Bool := fun n => Classical.choose (hb n)
 have hB : ∀ n, x6 (Ev.upto 5000) ((n, ()), ()) = some ((B n, ()), ()) ∧ (B n = false → NdOk n) := fun n => Classical.choose_spec (hb n)
 refine ⟨d.any B, zj (l := d) (σ := Unit) (fun i _ => ((((i : Int), ()), ((d, ()), ())))) (fun _ x _ => if B x then .inr (.inr ((true, ()), ())) else .inl ()) (fun _ => .inl ((), ())) (fun _ _ => True) () rfl trivial (by omega) (fun i s hi _ => ⟨?_, fun _ _ => trivial⟩) (fun s _ => ?_) (by rw [vz]; cases d.any B <;> rfl), fun ha => ⟨by omega, fun n hm => (hB n).2 (by simpa using List.any_eq_false.1 ha n hm)⟩⟩
 ·simp only [zp, decide_eq_true hi, cond_true, zh hi, Option.bind_some, (hB _).1, zy (show i < 1000000 by omega)]
  cases B d[i] <;> simp
 ·simp only [zp, Nat.lt_irrefl, decide_false, cond_false]
theorem wd {n k : Nat} (h : n ≤ 10000) (hk : k ≤ 1000) : fits n k = true := zmk (by have := Nat.mul_le_mul h hk; omega)
theorem zyz (n : Nd) (h1 : n.2.2.2.1.length ≤ 4000) (h2 : n.2.2.2.2.2.1.length ≤ 4000) : jb (Ev.upto 5000) ((n, ()), ()) = some ((n.1, (n.2.1, (n.2.2.1, (n.2.2.2.2.1, (n.2.2.2.2.2.2.1, (n.2.2.2.2.2.2.2, ())))))), (n.2.2.2.1, (n.2.2.2.2.2.1, ()))) := by
 unfold jb
 simp only [wd (show n.2.2.2.1.length ≤ 10000 by omega) (show 32 ≤ 1000 by omega), wd (show n.2.2.2.2.2.1.length ≤ 10000 by omega) (show 8 ≤ 1000 by omega), cond_true]
theorem zkg {ε β : Type} (fin : List ε → β) : ∀ (l s : List ε) (i : Nat), zq (fun (_ : Nat) (x : ε) (s : List ε) => (.inl (s ++ [x]) : List ε ⊕ β)) fin i l s = fin (s ++ l)
 | [], s, _ => by simp [zq]
 | x :: l, s, i => by
  unfold zq
  simp only
  rw [zkg fin l (s ++ [x]) (i + 1)]
  simp
theorem own (d : List Nd) (h : Sm d) : qr (Ev.upto 5000) ((d, ()), ()) = some ((), (d, ())) := by
 unfold qr
 refine zj (l := d) (σ := List Nd) (fun i s => ((((i : Int), ()), ((d, ()), ((), (s, ())))))) (fun _ x s => .inl (s ++ [x])) (fun s => ((), ((), (s, ())))) (fun i s => s.length = i) [] rfl rfl (by have := h.1; omega) (fun i s hi hl => ⟨?_, fun s' e => ?_⟩) (fun s _ => ?_) (by rw [zkg]; rfl)
 ·have hm := h.2 _ (List.getElem_mem hi)
  have := h.1
  simp only [zp, decide_eq_true hi, cond_true, zh hi, Option.bind_some, zyz _ hm.1 hm.2, wd (show s.length + [d[i]].length ≤ 10000 by simp; omega) (show 104 ≤ 1000 by omega), zy (show i < 1000000 by omega)]
 ·simp only [Sum.inl.injEq] at e
  subst e
  simp [hl]
 ·simp only [zp, Nat.lt_irrefl, decide_false, cond_false]
def mayB (n : Nd) : Bool :=
 if n.1 = 2 then !(n.2.1 == []) && (n.2.2.1 == []) && decide (n.2.2.2.1.length ≤ 30) && decide ((n.2.2.2.1.map (·.1)).Nodup)
 else decide (1 ≤ n.1) && decide (n.1 ≤ 4) && (n.2.1 == []) && (n.2.2.2.1.length == 0) && !n.2.2.2.2.2.2.1 && !n.2.2.2.2.2.2.2 && (n.1 != 1 || n.2.2.1 == [])
def zak (acc : List (Bs × Bool)) (l : List At) : List (Bs × Bool) := l.foldl (fun s x => mput (fun (a b : Bs) => a == b) x.1 true s) acc
theorem kq (k : Bs) : ∀ (l : List (Bs × Bool)), (k ∈ l.map (·.1) → (mput (fun (a b : Bs) => a == b) k true l).map (·.1) = l.map (·.1)) ∧ (k ∉ l.map (·.1) → (mput (fun (a b : Bs) => a == b) k true l).map (·.1) = l.map (·.1) ++ [k])
 | [] => ⟨fun h => by simp at h, fun _ => rfl⟩
 | p :: l => by
  have ih := kq k l
  cases hk : k == p.1 with
  | true =>
   have e : k = p.1 := by simpa using hk
   simp only [mput, hk, cond_true]
   refine ⟨fun _ => by simp [e], fun h => absurd (by simp [e]) h⟩
  | false =>
   have e : ¬ k = p.1 := by simpa using hk
   simp only [mput, hk, cond_false]
   refine ⟨fun h => ?_, fun h => ?_⟩
   ·have : k ∈ l.map (·.1) := by simpa [e] using h
    simp only [List.map_cons, ih.1 this]
   ·have : k ∉ l.map (·.1) := fun hx => h (by simp only [List.map_cons, List.mem_cons]; exact .inr hx)
    simp only [List.map_cons, ih.2 this, List.cons_append]
theorem gd : ∀ (l : List At) (acc : List (Bs × Bool)), (zak acc l).length ≤ acc.length + l.length ∧ ((zak acc l).length = acc.length + l.length ↔ (l.map (·.1)).Nodup ∧ ∀ x, x ∈ l.map (·.1) → x ∉ acc.map (·.1))
 | [], acc => by simp [zak]
 | a :: l, acc => by
  have hk := kq a.1 acc
  have ih := gd l (mput (fun (a b : Bs) => a == b) a.1 true acc)
  have e1 : zak acc (a :: l) = zak (mput (fun (a b : Bs) => a == b) a.1 true acc) l := rfl
  rw [e1]
  by_cases hm : a.1 ∈ acc.map (·.1)
  ·have hl : (mput (fun (a b : Bs) => a == b) a.1 true acc).length = acc.length := by have := congrArg List.length (hk.1 hm); simpa using this
   rw [hl] at ih
   refine ⟨by simp only [List.length_cons]; omega, ⟨fun h => ?_, fun h => ?_⟩⟩
   ·simp only [List.length_cons] at h; have := ih.1; omega
   ·exact absurd hm (h.2 _ (by simp))
  ·have hl : (mput (fun (a b : Bs) => a == b) a.1 true acc).length = acc.length + 1 := by have := congrArg List.length (hk.2 hm); simpa using this
   rw [hl, hk.2 hm] at ih
   refine ⟨by simp only [List.length_cons]; omega, ?_⟩
   rw [List.length_cons, show acc.length + (l.length + 1) = acc.length + 1 + l.length by omega, ih.2]
   simp only [List.map_cons, List.map_nil, List.nodup_cons, List.mem_append, List.mem_singleton, not_or, List.mem_cons, List.not_mem_nil, or_false]
   constructor
   ·rintro ⟨h1, h2⟩
    refine ⟨⟨fun hx => (h2 _ hx).2 rfl, h1⟩, fun x hx => ?_⟩
    rcases hx with rfl | hx
    ·exact hm
    ·exact (h2 x hx).1
   ·rintro ⟨⟨h1, h2⟩, h3⟩
    exact ⟨h2, fun x hx => ⟨h3 x (.inr hx), fun e => h1 (e ▸ hx)⟩⟩
theorem zal (l : List At) : ((((zak [] l).length : Nat) : Int) == (l.length : Int)) = decide ((l.map (·.1)).Nodup) := by
 have := (gd l []).2
 simp only [List.length_nil, Nat.zero_add, List.map_nil, List.not_mem_nil, not_false_eq_true, implies_true, and_true] at this
 rw [Bool.eq_iff_iff, beq_iff_eq, decide_eq_true_eq, ← this]
 omega
theorem ku {β : Type} (fin : List (Bs × Bool) → β) : ∀ (l : List At) (s : List (Bs × Bool)) (i : Nat), zq (fun (_ : Nat) (x : At) (s : List (Bs × Bool)) => (.inl (mput (fun (a b : Bs) => a == b) x.1 true s) : List (Bs × Bool) ⊕ β)) fin i l s = fin (zak s l)
 | [], s, _ => rfl
 | x :: l, s, i => by
  unfold zq
  simp only
  rw [ku fin l _ (i + 1)]
  rfl
theorem zkh (k : Bs) (s : List (Bs × Bool)) : (mput (fun (a b : Bs) => a == b) k true s).length ≤ s.length + 1 := by
 have := kq k s
 by_cases h : k ∈ s.map (·.1)
 ·have := congrArg List.length (this.1 h); simp at this; omega
 ·have := congrArg List.length (this.2 h); simp at this; omega
theorem zh3 (n : Nd) (h : n.2.2.2.1.length ≤ 4000) : zbe (Ev.upto 5000) ((n, ()), ()) = some ((mayB n, ()), ()) := by
 unfold zbe mayB
 by_cases hk : n.1 = 2
 ·simp only [hk, bne_self_eq_false, cond_false, if_true]
  refine zj (l := n.2.2.2.1) (σ := List (Bs × Bool)) (fun i s => (((n.2.2.2.1, ((n.2.2.2.1.length : Int), ((i : Int), ())))), ((n, ()), (s, ())))) (fun _ x s => .inl (mput (fun (a b : Bs) => a == b) x.1 true s)) (fun s => ((), ((n, ()), (s, ())))) (fun i s => s.length ≤ i) [] rfl (Nat.le_refl _) (by omega) (fun i s hi hl => ⟨?_, fun s' e => ?_⟩) (fun s _ => ?_) ?_
  ·have hm : s.length < maxB := by simp only [maxB]; omega
   simp only [zp, decide_eq_true hi, cond_true, zh hi, Option.bind_some, decide_eq_true hm, zy (show i < 1000000 by omega)]
  ·simp only [Sum.inl.injEq] at e
   subst e
   have := zkh n.2.2.2.1[i].1 s
   omega
  ·simp only [zp, Nat.lt_irrefl, decide_false, cond_false]
  ·rw [ku]
   simp only [zal, show (30 : Int) = ((30 : Nat) : Int) from rfl, Int.ofNat_le]
   cases (n.2.1 == []) <;> cases (n.2.2.1 == []) <;> by_cases h3 : n.2.2.2.1.length ≤ 30 <;> simp [h3]
 ·have h1 : (n.1 != 2) = true := by simpa using hk
  simp only [h1, cond_true, if_neg hk]
  have h0 : ((n.2.2.2.1.length : Int) == 0) = (n.2.2.2.1.length == 0) := by rw [Bool.eq_iff_iff]; simp
  simp only [h0, ge_iff_le]
  by_cases h2 : 1 ≤ n.1 <;> by_cases h3 : n.1 ≤ 4 <;> cases (n.2.1 == []) <;> cases (n.2.2.2.1.length == 0) <;> cases n.2.2.2.2.2.2.1 <;> cases n.2.2.2.2.2.2.2 <;> cases (n.1 != 1) <;> simp [h2, h3]
def zeb (l : List At) (a : Bs) : Nat → Bool
 | 0 => false
 | i + 1 => zeb l a i || (match l[i]? with | some x => a == x.1 | none => false)
theorem z2m (n : Nd) (h : n.2.2.2.1.length ≤ 4000) : wt (Ev.upto 5000) ((n, ()), ()) = some ((mayB n, ()), ()) := by
 unfold wt
 have h0 : ((n.2.2.2.1.length : Int) == 0) = (n.2.2.2.1.length == 0) := by rw [Bool.eq_iff_iff]; simp
 have hb : ∀ (K : ((Bool × Unit) × ((Nd × Unit) × Unit)) → Option ((Bool × Unit) × Unit)), ((bif ((n.2.2.2.1.length : Int) == 0) == true then bif (!n.2.2.2.2.2.2.1) == true then bif (!n.2.2.2.2.2.2.2) == true then some ((n.2.1 == [], ()), ((n, ()), ())) else some ((false, ()), ((n, ()), ())) else some ((false, ()), ((n, ()), ())) else some ((false, ()), ((n, ()), ()))) : Option ((Bool × Unit) × ((Nd × Unit) × Unit))).bind K
   = K (((n.2.2.2.1.length == 0) && !n.2.2.2.2.2.2.1 && !n.2.2.2.2.2.2.2 && (n.2.1 == []), ()), ((n, ()), ())) := by
  intro K
  rw [h0]
  cases (n.2.2.2.1.length == 0) <;> cases n.2.2.2.2.2.2.1 <;> cases n.2.2.2.2.2.2.2 <;> simp
 refine (hb _).trans ?_
 unfold mayB
 by_cases hk1 : n.1 = 1
 ·simp only [hk1, beq_self_eq_true, cond_true]
  cases (n.2.2.2.1.length == 0) <;> cases n.2.2.2.2.2.2.1 <;> cases n.2.2.2.2.2.2.2 <;> cases (n.2.1 == []) <;> simp
 have e1 : (n.1 == 1) = false := by simpa using hk1
 by_cases hk3 : n.1 = 3
 ·simp only [hk3, beq_self_eq_true, cond_true]
  cases (n.2.2.2.1.length == 0) <;> cases n.2.2.2.2.2.2.1 <;> cases n.2.2.2.2.2.2.2 <;> cases (n.2.1 == []) <;> simp
 have e3 : (n.1 == 3) = false := by simpa using hk3
 by_cases hk4 : n.1 = 4
 ·simp only [hk4, beq_self_eq_true, cond_true]
  cases (n.2.2.2.1.length == 0) <;> cases n.2.2.2.2.2.2.1 <;> cases n.2.2.2.2.2.2.2 <;> cases (n.2.1 == []) <;> simp
 have e4 : (n.1 == 4) = false := by simpa using hk4
 by_cases hk2 : n.1 = 2
 ·simp only [e1, e3, e4, cond_false, Option.bind_some, hk2, beq_self_eq_true, cond_true, if_true]
  refine zj (l := n.2.2.2.1) (σ := Unit) (fun i _ => ((((i : Int), ()), ((n, ()), ())))) (fun i x _ => if zeb n.2.2.2.1 x.1 i then .inr (.inr ((false, ()), ())) else .inl ()) (fun _ => .inl ((), ((n, ()), ()))) (fun _ _ => True) () rfl trivial (by omega) (fun i s hi _ => ⟨?_, fun _ _ => trivial⟩) (fun s _ => ?_) ?_
  ·simp only [zp, decide_eq_true hi, cond_true]
   refine zj (l := n.2.2.2.1.take i) (σ := Unit) (fun k _ => ((((i : Int), ((k : Int), ())), ((n, ()), ())))) (fun _ y _ => if n.2.2.2.1[i].1 == y.1 then .inr (.inr ((false, ()), ())) else .inl ()) (fun _ => .inl (((i : Int), ()), ((n, ()), ()))) (fun _ _ => True) () rfl trivial (by simp; omega) (fun k s hk _ => ⟨?_, fun _ _ => trivial⟩) (fun s _ => ?_) ?_
   ·have hk' : k < i := by simp at hk; omega
    have hkl : k < n.2.2.2.1.length := by omega
    simp only [zp, decide_eq_true hk', cond_true, zh hi, zh hkl, Option.bind_some, List.getElem_take]
    cases hx : (n.2.2.2.1[i].1 == n.2.2.2.1[k].1)
    ·simp only [cond_false, zy (show k < 1000000 by omega)]; rfl
    ·rfl
   ·have : (n.2.2.2.1.take i).length = i := by simp; omega
    rw [this]
    simp only [zp, Nat.lt_irrefl, decide_false, cond_false]
   ·rw [vz]
    have hin : ∀ j, j ≤ n.2.2.2.1.length → ((n.2.2.2.1.take j).any fun y => n.2.2.2.1[i].1 == y.1) = zeb n.2.2.2.1 n.2.2.2.1[i].1 j := by
     intro j
     induction j with
     | zero => intro _; rfl
     | succ j ih =>
      intro hj
      rw [List.take_succ_eq_append_getElem (by omega), List.any_append, ih (by omega)]
      simp only [List.any_cons, List.any_nil, Bool.or_false, zeb, List.getElem?_eq_getElem (show j < n.2.2.2.1.length by omega)]
    rw [hin i (by omega)]
    cases zeb n.2.2.2.1 n.2.2.2.1[i].1 i
    ·simp only [Bool.false_eq_true, if_false, zy (show i < 1000000 by omega)]
    ·simp
  ·simp only [zp, Nat.lt_irrefl, decide_false, cond_false]
  ·
   have hall : ∀ (l : List At) (m : List At) (i : Nat), i = l.length → n.2.2.2.1 = l ++ m → (l.map (·.1)).Nodup → zq (fun i (x : At) (_ : Unit) => if zeb n.2.2.2.1 x.1 i then (.inr (.inr ((false, ()), ())) : Unit ⊕ ((Unit × ((Nd × Unit) × Unit)) ⊕ ((Bool × Unit) × Unit))) else .inl ()) (fun _ => .inl ((), ((n, ()), ()))) i m () = if (n.2.2.2.1.map (·.1)).Nodup then .inl ((), ((n, ()), ())) else .inr ((false, ()), ()) := by
    intro l m
    induction m generalizing l with
    | nil => intro i hi e hn; rw [e, List.append_nil, if_pos hn]; rfl
    | cons x m ih =>
     intro i hi e hn
     have hin : zeb n.2.2.2.1 x.1 i = decide (x.1 ∈ l.map (·.1)) := by
      have : ∀ j, j ≤ l.length → zeb n.2.2.2.1 x.1 j = decide (x.1 ∈ (l.take j).map (·.1)) := by
       intro j
       induction j with
       | zero => intro _; simp [zeb]
       | succ j ihj =>
        intro hj
        have hg : n.2.2.2.1[j]? = some l[j] := by rw [e, List.getElem?_append_left (by omega), List.getElem?_eq_getElem]
        simp only [zeb, ihj (by omega), hg]
        rw [List.take_succ_eq_append_getElem (by omega)]
        rw [Bool.eq_iff_iff]
        simp only [Bool.or_eq_true, decide_eq_true_eq, beq_iff_eq, List.map_append, List.mem_append, List.map_cons, List.map_nil, List.mem_singleton]
      rw [this i (by omega), hi, List.take_length]
     unfold zq
     rw [hin]
     by_cases hx : x.1 ∈ l.map (·.1)
     ·rw [decide_eq_true hx]
      have : ¬ (n.2.2.2.1.map (·.1)).Nodup := by
       rw [e, List.map_append, List.map_cons, List.nodup_append]
       rintro ⟨_, _, h3⟩
       exact h3 _ hx _ (List.mem_cons_self ..) rfl
      rw [if_neg this]
      rfl
     ·rw [decide_eq_false hx]
      simp only [Bool.false_eq_true, if_false]
      refine ih (l ++ [x]) (i + 1) (by simp [hi]) (by rw [e]; simp) ?_
      rw [List.map_append, List.nodup_append]
      refine ⟨hn, by simp, fun a ha b hb => ?_⟩
      simp only [List.map_cons, List.map_nil, List.mem_singleton] at hb
      rintro rfl
      exact hx (hb ▸ ha)
   rw [hall [] n.2.2.2.1 0 rfl rfl (by simp)]
   have h30 : decide ((n.2.2.2.1.length : Int) ≤ 30) = decide (n.2.2.2.1.length ≤ 30) := by
    by_cases h : n.2.2.2.1.length ≤ 30
    ·rw [decide_eq_true h, decide_eq_true (by omega)]
    ·rw [decide_eq_false h, decide_eq_false (by omega)]
   by_cases hn : (n.2.2.2.1.map (·.1)).Nodup
   ·rw [if_pos hn]
    simp only [h30]
    cases (n.2.1 == []) <;> cases (n.2.2.1 == []) <;> simp [hn]
   ·rw [if_neg hn]
    simp [hn]
 have e2 : (n.1 == 2) = false := by simpa using hk2
 simp only [e1, e3, e4, e2, cond_false, Option.bind_some, if_neg hk2]
 have : ¬ (1 ≤ n.1 ∧ n.1 ≤ 4) := by omega
 by_cases h1 : 1 ≤ n.1
 ·have : ¬ n.1 ≤ 4 := fun h => this ⟨h1, h⟩
  simp [this]
 ·simp [h1]
def zo (n : Nd) : Bool := n.1 == 1 || n.1 == 2
theorem zbm (n : Nd) : wl (Ev.upto 5000) ((n, ()), ()) = some ((zo n, ()), ()) := by
 unfold wl zo
 cases (n.1 == 1) <;> simp
theorem zo5 (n : Nd) : qu (Ev.upto 5000) ((n, ()), ()) = some ((zo n, ()), ()) := by
 unfold qu zo
 cases (n.1 == 1) <;> simp
abbrev za (n : Nd) : List Int := n.2.2.2.2.2.1
abbrev zk (n : Nd) : Int := n.2.2.2.2.1
def pr (d : List Nd) (i : Int) : Int := match idx d i with
 | some n => zk n
 | none => -1
def zf (d : List Nd) : List Int := d.flatMap za
def up (d : List Nd) : Nat → Int → Int
 | 0, x => x
 | j + 1, x => up d j (pr d x)
structure zb (d : List Nd) : Prop where
 len : d.length ≤ 300
 pos : 0 < d.length
 may : ∀ n, n ∈ d → mayB n = true
 root : ∀ (i : Nat) (n : Nd), d[i]? = some n → (n.1 = 1 ↔ i = 0)
 par0 : pr d 0 = -1
 holds : ∀ n, n ∈ d → za n ≠ [] → zo n = true
 rng : ∀ n, n ∈ d → ∀ k, k ∈ za n → 1 ≤ k ∧ k < d.length
 nodup : (zf d).Nodup
 back : ∀ (i : Nat) (n : Nd), d[i]? = some n → ∀ k, k ∈ za n → pr d k = (i : Int)
 laid : ∀ (i : Nat) (n : Nd), d[i]? = some n → zk n ≠ -1 → (i : Int) ∈ zf d
 ends : ∀ (i : Nat) (n : Nd), d[i]? = some n → ∃ j, j ≤ d.length ∧ up d j (zk n) = -1
theorem zc {α : Type} {l : List α} {i : Int} {x : α} (h : idx l i = some x) : 0 ≤ i ∧ i < l.length ∧ l[i.toNat]? = some x := by
 unfold idx at h
 split at h
 ·rename_i h0
  have := (List.getElem?_eq_some_iff.1 h).1
  exact ⟨h0, by omega, h⟩
 ·cases h
theorem yy {α : Type} {l : List α} {i : Int} (h0 : 0 ≤ i) (h : i < l.length) : ∃ x, idx l i = some x ∧ l[i.toNat]? = some x := by
 have hi : i.toNat < l.length := by omega
 exact ⟨l[i.toNat], by unfold idx; rw [if_pos h0, List.getElem?_eq_getElem hi], List.getElem?_eq_getElem hi⟩
theorem zt {d : List Nd} {i : Nat} {n : Nd} (h : d[i]? = some n) : pr d (i : Int) = zk n := by
 unfold pr idx
 rw [if_pos (by omega), Int.toNat_natCast, h]
theorem zrf {d : List Nd} : pr d (-1) = -1 := rfl
theorem w9 {d : List Nd} : ∀ j, up d j (-1) = -1
 | 0 => rfl
 | j + 1 => w9 j
def lay (n : Nat) (K : List Int) : List Bool := (List.range n).map fun j : Nat => decide ((j : Int) ∈ K)
theorem qg (n : Nat) (K : List Int) : (lay n K).length = n := by simp [lay]
theorem qh {n : Nat} {K : List Int} {i : Nat} (h : i < n) : (lay n K)[i]? = some (decide ((i : Int) ∈ K)) := by simp [lay, h]
theorem zki (n : Nat) : lay n [] = List.replicate n false := by
 apply List.ext_getElem?
 intro i
 by_cases h : i < n
 ·rw [qh h]; simp [h]
 ·rw [List.getElem?_eq_none (by rw [qg]; omega), List.getElem?_eq_none (by simp; omega)]
theorem zkj {n : Nat} {K : List Int} {i : Nat} (h : i < n) : (lay n K).set i true = lay n (K ++ [(i : Int)]) := by
 apply List.ext_getElem?
 intro j
 rw [List.getElem?_set, qg]
 by_cases e : i = j
 ·subst e
  rw [if_pos rfl, if_pos h, qh h]
  simp
 ·rw [if_neg e]
  by_cases hj : j < n
  ·rw [qh hj, qh hj]
   have : ((j : Int) ∈ K ++ [(i : Int)]) ↔ (j : Int) ∈ K := by
    simp only [List.mem_append, List.mem_singleton]
    constructor
    ·rintro (h | h)
     ·exact h
     ·omega
    ·exact .inl
   simp only [this]
  ·rw [List.getElem?_eq_none (by rw [qg]; omega), List.getElem?_eq_none (by rw [qg]; omega)]
def xu (d : List Nd) (i : Int) : List Int → List Int → Bool
 | _, [] => true
 | K, k :: r => (decide (1 ≤ k) && decide (k < (d.length : Int)) && !decide (k ∈ K) && (pr d k == i)) && xu d i (K ++ [k]) r
def kw (d : List Nd) (i : Nat) (n : Nd) (K : List Int) : Bool := mayB n && !(decide (i > 0) && n.1 == 1) && (za n == [] || zo n) && xu d i K (za n)
def kx (d : List Nd) : Nat → List Int → List Nd → Bool
 | _, _, [] => true
 | i, K, n :: r => kw d i n K && kx d (i + 1) (K ++ za n) r
theorem jh (d : List Nd) (i : Int) : ∀ (l K : List Int), K.Nodup → (xu d i K l = true ↔ (∀ k, k ∈ l → 1 ≤ k ∧ k < d.length ∧ pr d k = i) ∧ (K ++ l).Nodup)
 | [], K, hK => by simp [xu, hK]
 | k :: l, K, hK => by
  simp only [xu, Bool.and_eq_true, decide_eq_true_eq, Bool.not_eq_true', decide_eq_false_iff_not, beq_iff_eq]
  have e : K ++ k :: l = (K ++ [k]) ++ l := by simp
  rw [e]
  constructor
  ·rintro ⟨⟨⟨⟨h1, h2⟩, h3⟩, h4⟩, h5⟩
   have hK' : (K ++ [k]).Nodup := by
    rw [List.nodup_append]
    exact ⟨hK, by simp, fun a ha b hb => by simp at hb; rintro rfl; exact h3 (hb ▸ ha)⟩
   obtain ⟨h6, h7⟩ := (jh d i l (K ++ [k]) hK').1 h5
   refine ⟨fun x hx => ?_, h7⟩
   rcases List.mem_cons.1 hx with rfl | hx
   ·exact ⟨h1, h2, h4⟩
   ·exact h6 x hx
  ·rintro ⟨h1, h2⟩
   have hK' : (K ++ [k]).Nodup := (List.nodup_append.1 h2).1
   have h3 : k ∉ K := fun hx => (List.nodup_append.1 hK').2.2 k hx k (by simp) rfl
   obtain ⟨h4, h5, h6⟩ := h1 k (List.mem_cons_self ..)
   exact ⟨⟨⟨⟨h4, h5⟩, h3⟩, h6⟩, (jh d i l (K ++ [k]) hK').2 ⟨fun x hx => h1 x (List.mem_cons_of_mem _ hx), h2⟩⟩
theorem qx (d : List Nd) : ∀ (l : List Nd) (i : Nat) (K : List Int), K.Nodup → (kx d i K l = true ↔
  (∀ j n, l[j]? = some n → mayB n = true ∧ (i + j > 0 → n.1 ≠ 1) ∧ (za n ≠ [] → zo n = true) ∧ ∀ k, k ∈ za n → 1 ≤ k ∧ k < d.length ∧ pr d k = ((i + j : Nat) : Int)) ∧ (K ++ l.flatMap za).Nodup)
 | [], i, K, hK => by simp [kx, hK]
 | n :: l, i, K, hK => by
  simp only [kx, kw, Bool.and_eq_true]
  rw [jh d i (za n) K hK]
  have e : K ++ (n :: l).flatMap za = (K ++ za n) ++ l.flatMap za := by simp
  rw [e]
  constructor
  ·rintro ⟨⟨⟨⟨h1, h2⟩, h3⟩, h4, h5⟩, h6⟩
   obtain ⟨h7, h8⟩ := (qx d l (i + 1) (K ++ za n) h5).1 h6
   refine ⟨fun j m hj => ?_, h8⟩
   cases j with
   | zero =>
    simp only [List.getElem?_cons_zero, Option.some.injEq] at hj
    subst hj
    refine ⟨h1, fun hi hk => ?_, fun hne => ?_, fun k hk => ?_⟩
    ·simp only [Nat.add_zero] at hi
     simp [hk, hi] at h2
    ·cases hh : za n with
     | nil => exact absurd hh hne
     | cons a b => simpa [hh] using h3
    ·exact h4 k hk
   | succ j =>
    have := h7 j m (by simpa using hj)
    rw [show i + (j + 1) = i + 1 + j by omega]
    exact this
  ·rintro ⟨h1, h2⟩
   obtain ⟨g1, g2, g3, g4⟩ := h1 0 n rfl
   have h5 : (K ++ za n).Nodup := (List.nodup_append.1 h2).1
   refine ⟨⟨⟨⟨g1, ?_⟩, ?_⟩, g4, h5⟩, (qx d l (i + 1) (K ++ za n) h5).2 ⟨fun j m hj => ?_, h2⟩⟩
   ·by_cases hi : i > 0
    ·have := g2 (by omega); simp [hi, this]
    ·simp [hi]
   ·cases hh : za n with
    | nil => simp
    | cons a b => simp [g3 (by rw [hh]; simp)]
   ·have := h1 (j + 1) m (by simpa using hj)
    rw [show i + 1 + j = i + (j + 1) by omega]
    exact this
theorem zbn {ε σ β : Type} (ok : Nat → ε → σ → Bool) (nx : Nat → ε → σ → σ) (bad : β) (fin : σ → β) : ∀ (l : List ε) (i : Nat) (s : σ),
  zq (fun i x s => if ok i x s then (.inl (nx i x s) : σ ⊕ β) else .inr bad) fin i l s = match l with
   | [] => fin s
   | x :: r => if ok i x s then zq (fun i x s => if ok i x s then (.inl (nx i x s) : σ ⊕ β) else .inr bad) fin (i + 1) r (nx i x s) else bad
 | [], _, _ => rfl
 | x :: l, i, s => by
  show (match (if ok i x s then (.inl (nx i x s) : σ ⊕ β) else .inr bad) with | .inl s' => _ | .inr b => b) = _
  simp only
  cases ok i x s <;> rfl
theorem zbo {β : Type} (d : List Nd) (i : Int) (bad : β) (fin : List Int → β) : ∀ (l : List Int) (j : Nat) (K : List Int),
  zq (fun (_ : Nat) (k : Int) (K : List Int) => if (decide (1 ≤ k) && decide (k < (d.length : Int)) && !decide (k ∈ K) && (pr d k == i)) then (.inl (K ++ [k]) : List Int ⊕ β) else .inr bad) fin j l K = if xu d i K l then fin (K ++ l) else bad
 | [], j, K => by simp [zq, xu]
 | k :: l, j, K => by
  rw [zbn (fun _ k K => (decide (1 ≤ k) && decide (k < (d.length : Int)) && !decide (k ∈ K) && (pr d k == i))) (fun _ k K => K ++ [k])]
  by_cases hc : (decide (1 ≤ k) && decide (k < (d.length : Int)) && !decide (k ∈ K) && (pr d k == i)) = true
  ·have e2 : xu d i K (k :: l) = xu d i (K ++ [k]) l := by show (_ && _) = _; rw [hc, Bool.true_and]
   simp only [if_pos hc, e2, zbo d i bad fin l (j + 1) (K ++ [k])]
   simp
  ·have e2 : xu d i K (k :: l) = false := by show (_ && _) = _; rw [Bool.eq_false_iff.2 hc, Bool.false_and]
   simp only [if_neg hc, e2]
   simp
theorem ge {β : Type} (d : List Nd) (bad : β) (fin : List Int → β) : ∀ (l : List Nd) (i : Nat) (K : List Int),
  zq (fun (i : Nat) (n : Nd) (K : List Int) => if kw d i n K then (.inl (K ++ za n) : List Int ⊕ β) else .inr bad) fin i l K = if kx d i K l then fin (K ++ l.flatMap za) else bad
 | [], i, K => by simp [zq, kx]
 | n :: l, i, K => by
  rw [zbn (fun i n K => kw d i n K) (fun i n K => K ++ za n)]
  by_cases hc : kw d i n K = true
  ·have e2 : kx d i K (n :: l) = kx d (i + 1) (K ++ za n) l := by show (_ && _) = _; rw [hc, Bool.true_and]
   simp only [if_pos hc, e2, ge d bad fin l (i + 1) (K ++ za n)]
   simp
  ·have e2 : kx d i K (n :: l) = false := by show (_ && _) = _; rw [Bool.eq_false_iff.2 hc, Bool.false_and]
   simp only [if_neg hc, e2]
   simp
theorem xf {ε β : Type} (p : Nat → ε → Bool) (b e : β) : ∀ (l : List ε) (i : Nat), (∃ j x, l[j]? = some x ∧ p (i + j) x = true) ∧ zq (fun (i : Nat) (x : ε) (_ : Unit) => if p i x then (.inr b : Unit ⊕ β) else .inl ()) (fun _ => e) i l () = b ∨
  (∀ j x, l[j]? = some x → p (i + j) x = false) ∧ zq (fun (i : Nat) (x : ε) (_ : Unit) => if p i x then (.inr b : Unit ⊕ β) else .inl ()) (fun _ => e) i l () = e
 | [], i => .inr ⟨fun j x h => by simp at h, rfl⟩
 | y :: l, i => by
  cases hp : p i y with
  | true => exact .inl ⟨⟨0, y, rfl, hp⟩, by unfold zq; simp [hp]⟩
  | false =>
   rcases xf p b e l (i + 1) with ⟨⟨j, x, h1, h2⟩, h3⟩ | ⟨h1, h3⟩
   ·refine .inl ⟨⟨j + 1, x, by simpa using h1, by rw [show i + (j + 1) = i + 1 + j by omega]; exact h2⟩, ?_⟩
    unfold zq
    simp only [hp, Bool.false_eq_true, if_false]
    exact h3
   ·refine .inr ⟨fun j x hj => ?_, ?_⟩
    ·cases j with
     | zero => simp only [List.getElem?_cons_zero, Option.some.injEq] at hj; subst hj; exact hp
     | succ j => rw [show i + (j + 1) = i + 1 + j by omega]; exact h1 j x (by simpa using hj)
    ·unfold zq
     simp only [hp, Bool.false_eq_true, if_false]
     exact h3
open Classical in
noncomputable def chk (d : List Nd) : Int := if d.length > 300 then 2 else if zb d then 0 else 171
theorem zrg {α β : Type} {f : α → Option (α ⊕ β)} (d : List Nd) (st : Nat → Int → α) (ok bad : β) (cl : ∀ x : Int, 0 ≤ x → x < d.length → pr d x = -1 ∨ (0 ≤ pr d x ∧ pr d x < d.length))
  (h0 : ∀ s, f (st s (-1)) = some (.inr ok)) (h1 : ∀ (s : Nat) (x : Int), 0 ≤ x → x < d.length → s + 1 > d.length → s ≤ d.length → f (st s x) = some (.inr bad)) (h2 : ∀ (s : Nat) (x : Int), 0 ≤ x → x < d.length → s + 1 ≤ d.length → f (st s x) = some (.inl (st (s + 1) (pr d x)))) :
  ∀ (m s : Nat) (x : Int) (N : Nat), s + m = d.length → m + 1 < N → (x = -1 ∨ (0 ≤ x ∧ x < d.length)) → ((∃ j, j ≤ m ∧ up d j x = -1) ∧ yz f N (st s x) = some ok) ∨ ((¬ ∃ j, j ≤ m ∧ up d j x = -1) ∧ yz f N (st s x) = some bad) := by
 intro m
 induction m with
 | zero =>
  intro s x N hs hN hx
  obtain ⟨N, rfl⟩ : ∃ M, N = M + 1 := ⟨N - 1, by omega⟩
  unfold yz
  rcases hx with rfl | ⟨hx0, hx1⟩
  ·exact .inl ⟨⟨0, Nat.le_refl _, rfl⟩, by rw [h0]; rfl⟩
  ·refine .inr ⟨?_, by rw [h1 s x hx0 hx1 (by omega) (by omega)]; rfl⟩
   rintro ⟨j, hj, hu⟩
   obtain rfl : j = 0 := by omega
   simp only [up] at hu
   omega
 | succ m ih =>
  intro s x N hs hN hx
  obtain ⟨N, rfl⟩ : ∃ M, N = M + 1 := ⟨N - 1, by omega⟩
  unfold yz
  rcases hx with rfl | ⟨hx0, hx1⟩
  ·exact .inl ⟨⟨0, Nat.zero_le _, rfl⟩, by rw [h0]; rfl⟩
  ·rw [h2 s x hx0 hx1 (by omega)]
   simp only [Option.bind_some]
   rcases ih (s + 1) (pr d x) N (by omega) (by omega) (cl x hx0 hx1) with ⟨⟨j, h3, h4⟩, h5⟩ | ⟨h3, h5⟩
   ·exact .inl ⟨⟨j + 1, by omega, h4⟩, h5⟩
   ·refine .inr ⟨?_, h5⟩
    rintro ⟨j, hj, hu⟩
    cases j with
    | zero => simp only [up] at hu; omega
    | succ j => exact h3 ⟨j, by omega, hu⟩
theorem znu (d : List Nd) (k : Int) : decide (k ≥ (d.length : Int)) = !decide (k < (d.length : Int)) := by
 by_cases h : k < (d.length : Int)
 ·rw [decide_eq_true h, decide_eq_false (by omega)]; rfl
 ·rw [decide_eq_false h, decide_eq_true (by omega)]; rfl
theorem znv (k : Int) : decide (k < 1) = !decide (1 ≤ k) := by
 by_cases h : 1 ≤ k
 ·rw [decide_eq_true h, decide_eq_false (by omega)]; rfl
 ·rw [decide_eq_false h, decide_eq_true (by omega)]; rfl
theorem znw (i : Nat) : decide ((i : Int) > 0) = decide (i > 0) := by
 by_cases h : i > 0
 ·rw [decide_eq_true h, decide_eq_true (by omega)]
 ·rw [decide_eq_false h, decide_eq_false (by omega)]
theorem zv4 (l : List Int) : decide (l.length > 0) = !(l == []) := by
 cases l with
 | nil => rfl
 | cons a l => simp
theorem zec (d : List Nd) (h3 : d.length ≤ 300) (n0 : Nd) (hn0 : d[0]? = some n0) : zb d ↔ (n0.1 = 1 ∧ zk n0 = -1) ∧ kx d 0 [] d = true ∧ (∀ (j : Nat) (n : Nd), d[j]? = some n → decide ((j : Int) ∈ zf d) = (zk n != -1)) ∧ (∀ (j : Nat) n, d[j]? = some n → ∃ m, m ≤ d.length ∧ up d m (zk n) = -1) := by
 rw [qx d d 0 [] (by simp)]
 simp only [Nat.zero_add, List.nil_append]
 have hmem : ∀ k : Int, k ∈ zf d ↔ ∃ (i : Nat) (n : Nd), d[i]? = some n ∧ k ∈ za n := by
  intro k
  unfold zf
  rw [List.mem_flatMap]
  constructor
  ·rintro ⟨n, hn, hk⟩
   obtain ⟨i, hi⟩ := List.getElem?_of_mem hn
   exact ⟨i, n, hi, hk⟩
  ·rintro ⟨i, n, hi, hk⟩
   exact ⟨n, List.mem_of_getElem? hi, hk⟩
 constructor
 ·intro R
  refine ⟨⟨(R.root 0 n0 hn0).2 rfl, by have := R.par0; rw [show (0 : Int) = ((0 : Nat) : Int) from rfl, zt hn0] at this; exact this⟩, ⟨fun j n hj => ⟨R.may n (List.mem_of_getElem? hj), fun hj0 hk => by have := (R.root j n hj).1 hk; omega, R.holds n (List.mem_of_getElem? hj), fun k hk => ⟨(R.rng n (List.mem_of_getElem? hj) k hk).1, (R.rng n (List.mem_of_getElem? hj) k hk).2, R.back j n hj k hk⟩⟩, R.nodup⟩, fun j n hj => ?_, R.ends⟩
  rw [Bool.eq_iff_iff]
  simp only [decide_eq_true_eq, bne_iff_ne, ne_eq]
  constructor
  ·intro hk
   obtain ⟨i, m, hi, hk⟩ := (hmem _).1 hk
   have := R.back i m hi _ hk
   rw [zt hj] at this
   omega
  ·exact R.laid j n hj
 ·rintro ⟨⟨h1, h2⟩, ⟨h4, h5⟩, h6, h7⟩
  refine ⟨h3, by have := (List.getElem?_eq_some_iff.1 hn0).1; omega, fun n hn => ?_, fun i n hi => ⟨fun hk => ?_, fun hi0 => ?_⟩, by rw [show (0 : Int) = ((0 : Nat) : Int) from rfl, zt hn0]; exact h2, fun n hn => ?_, fun n hn k hk => ?_, h5, fun i n hi k hk => ((h4 i n hi).2.2.2 k hk).2.2, fun i n hi hp => ?_, h7⟩
  ·obtain ⟨i, hi⟩ := List.getElem?_of_mem hn; exact (h4 i n hi).1
  ·rcases Nat.eq_zero_or_pos i with h | h
   ·exact h
   ·exact absurd hk ((h4 i n hi).2.1 h)
  ·subst hi0; rw [hn0] at hi; cases hi; exact h1
  ·obtain ⟨i, hi⟩ := List.getElem?_of_mem hn; exact (h4 i n hi).2.2.1
  ·obtain ⟨i, hi⟩ := List.getElem?_of_mem hn
   have := (h4 i n hi).2.2.2 k hk
   exact ⟨this.1, this.2.1⟩
  ·have := h6 i n hi
   rw [show (zk n != -1) = true by simpa using hp] at this
   simpa using this
theorem jc (d : List Nd) (h : Sm d) : x8 (Ev.upto 5000) ((d, ()), ()) = some ((chk d, ()), ()) := by
 unfold x8
 simp only [show (300 : Int) = ((300 : Nat) : Int) from rfl, zey]
 unfold chk
 by_cases h3 : d.length > 300
 ·rw [if_pos h3]; simp [h3]
 rw [if_neg h3]
 simp only [decide_eq_false h3, cond_false]
 cases hd : d[0]? with
 | none =>
  have hd0 : d = [] := by
   cases d with
   | nil => rfl
   | cons a d => simp at hd
  subst hd0
  rw [if_neg (fun R => by have := R.pos; simp at this)]
  rfl
 | some n0 =>
  have hpos : 0 < d.length := (List.getElem?_eq_some_iff.1 hd).1
  have hl0 : ((d.length : Int) == 0) = false := by rw [beq_eq_false_iff_ne]; omega
  have hi0 : idx d 0 = some n0 := by unfold idx; simpa using hd
  simp only [hl0, beq_self_eq_true, cond_true, hi0, Option.bind_some]
  by_cases hr1 : n0.1 = 1
  case neg =>
   rw [if_neg (fun R => hr1 ((R.root 0 n0 hd).2 rfl))]
   have : (n0.1 != 1) = true := by simpa using hr1
   simp [this]
  have e1 : (n0.1 != 1) = false := by simpa using hr1
  simp only [e1, beq_self_eq_true, cond_true, Option.bind_some]
  by_cases hr2 : zk n0 = -1
  case neg =>
   rw [if_neg (fun R => hr2 (by have := R.par0; rw [show (0 : Int) = ((0 : Nat) : Int) from rfl, zt hd] at this; exact this))]
   have : (n0.2.2.2.2.1 != -1) = true := by simpa using hr2
   simp [this]
  have e2 : (n0.2.2.2.2.1 != -1) = false := by simpa using hr2
  simp only [e2, cond_false]
  simp only [Int.toNat_natCast, wd (show d.length ≤ 10000 by omega) (show 1 ≤ 1000 by omega), show decide ((0 : Int) ≤ (d.length : Int)) = true from decide_eq_true (by omega), beq_self_eq_true, Bool.and_self, cond_true]
  have hRI := zec d (by omega) n0 hd
  simp only [hr1, hr2, and_self, true_and] at hRI

  refine zj (l := d) (σ := List Int) (fun i K => (((d, ((d.length : Int), ((i : Int), ())))), ((d, ()), (lay d.length K, ())))) (fun i n K => if kw d i n K then .inl (K ++ za n) else .inr (.inr ((171, ()), ()))) (fun K => .inl ((), ((d, ()), (lay d.length K, ())))) (fun _ _ => True) [] (by rw [zki]; rfl) trivial (by omega) (fun i K hi _ => ⟨?_, fun _ _ => trivial⟩) (fun K _ => ?_) ?_
  ·have hm := h.2 _ (List.getElem_mem hi)
   have hm2 : (za d[i]).length ≤ 4000 := hm.2
   simp only [zp, decide_eq_true hi, cond_true, zh hi, Option.bind_some, zh3 _ hm.1, zbm d[i], znw, zv4]
   have flag : ∀ (X : ((Int × (List Nd) × Int × Int × Bool × Unit) × ((List Nd × Unit) × (List Bool) × (Nd × Unit) × Unit)) → Option (((List Nd × Int × Int × Unit) × ((List Nd × Unit) × (List Bool) × Unit)) ⊕ ((Unit × ((List Nd × Unit) × (List Bool) × Unit)) ⊕ ((Int × Unit) × Unit)))),
     (((bif (!mayB d[i]) == false then bif decide (i > 0) == true then bif (d[i].1 == 1) == false then bif (!(za d[i] == [])) == true then some (((i : Int), (d, ((d.length : Int), ((i : Int), ((!zo d[i]), ()))))), ((d, ()), (lay d.length K, ((d[i], ()), ())))) else some (((i : Int), (d, ((d.length : Int), ((i : Int), (false, ()))))), ((d, ()), (lay d.length K, ((d[i], ()), ())))) else some (((i : Int), (d, ((d.length : Int), ((i : Int), (true, ()))))), ((d, ()), (lay d.length K, ((d[i], ()), ())))) else bif (!(za d[i] == [])) == true then some (((i : Int), (d, ((d.length : Int), ((i : Int), ((!zo d[i]), ()))))), ((d, ()), (lay d.length K, ((d[i], ()), ())))) else some (((i : Int), (d, ((d.length : Int), ((i : Int), (false, ()))))), ((d, ()), (lay d.length K, ((d[i], ()), ())))) else some (((i : Int), (d, ((d.length : Int), ((i : Int), (true, ()))))), ((d, ()), (lay d.length K, ((d[i], ()), ()))))) : Option _).bind X)
     = X (((i : Int), (d, ((d.length : Int), ((i : Int), (!(mayB d[i] && !(decide (i > 0) && d[i].1 == 1) && (za d[i] == [] || zo d[i])), ()))))), ((d, ()), (lay d.length K, ((d[i], ()), ())))) := by
    intro X
    cases mayB d[i] <;> cases decide (i > 0) <;> cases (d[i].1 == 1) <;> cases (za d[i] == []) <;> cases zo d[i] <;> rfl
   refine (flag _).trans ?_
   unfold kw
   cases hfl : (mayB d[i] && !(decide (i > 0) && d[i].1 == 1) && (za d[i] == [] || zo d[i])) with
   | false => simp
   | true =>
    simp only [Bool.not_true, cond_false, Bool.true_and]
    refine zj (l := za d[i]) (σ := List Int) (fun j K => (((i : Int), (d, ((d.length : Int), ((i : Int), (za d[i], (((za d[i]).length : Int), ((j : Int), ()))))))), ((d, ()), (lay d.length K, ())))) (fun _ k K => if (decide (1 ≤ k) && decide (k < (d.length : Int)) && !decide (k ∈ K) && (pr d k == (i : Int))) then .inl (K ++ [k]) else .inr (.inr ((171, ()), ()))) (fun K => .inl ((d, ((d.length : Int), ((i : Int), ()))), ((d, ()), (lay d.length K, ())))) (fun _ _ => True) K rfl trivial (by omega) (fun j K hj _ => ⟨?_, fun _ _ => trivial⟩) (fun K _ => ?_) ?_
    ·simp only [zp, decide_eq_true hj, cond_true, zh hj, Option.bind_some, znv, znu, qg]
     generalize (za d[i])[j] = k
     by_cases k1 : 1 ≤ k
     case neg => simp [k1]
     by_cases k2 : k < (d.length : Int)
     case neg => simp [k1, k2]
     obtain ⟨a, rfl⟩ := Int.eq_ofNat_of_zero_le (show 0 ≤ k by omega)
     have ha : a < d.length := by omega
     have hnd : d[a]? = some d[a] := List.getElem?_eq_getElem ha
     simp only [decide_eq_true k1, decide_eq_true k2, show decide (0 ≤ (a : Int)) = true from decide_eq_true (by omega), Bool.not_true, beq_self_eq_true, Bool.and_self, cond_true, Int.toNat_natCast, qh ha, Option.bind_some, zh ha, Bool.true_and]
     by_cases k3 : (a : Int) ∈ K
     ·simp [k3]
     ·rw [zt hnd]
      simp only [decide_eq_false k3, beq_self_eq_true, cond_true, Option.bind_some, Bool.not_false, Bool.true_and]
      by_cases k4 : zk d[a] = (i : Int)
      ·have b1 : (d[a].2.2.2.2.1 != (i : Int)) = false := by simpa using k4
       have b2 : (zk d[a] == (i : Int)) = true := by simpa using k4
       simp only [b1, b2, cond_false, if_true, qg, decide_eq_true k2, show decide (0 ≤ (a : Int)) = true from decide_eq_true (by omega), Bool.and_self, cond_true, Int.toNat_natCast, qh ha, Option.bind_some, zkj ha, zy (show j < 1000000 by omega)]
      ·have b1 : (d[a].2.2.2.2.1 != (i : Int)) = true := by simpa using k4
       have b2 : (zk d[a] == (i : Int)) = false := by simpa using k4
       simp only [b1, b2, cond_true, Bool.false_eq_true, if_false]
    ·simp only [zp, Nat.lt_irrefl, decide_false, cond_false]
    ·rw [zbo]
     cases xu d (i : Int) K (za d[i])
     ·rfl
     ·simp only [if_true, zy (show i < 1000000 by omega)]
  ·simp only [zp, Nat.lt_irrefl, decide_false, cond_false]
  ·rw [ge]
   cases hok : kx d 0 [] d with
   | false =>
    rw [if_neg (show ¬ zb d from fun R => by have := (hRI.1 R).1; rw [hok] at this; cases this)]
    rfl
   | true =>
    simp only [if_true, List.nil_append]

    have hK := ((qx d d 0 [] (by simp)).1 hok)
    show Option.bind _ _ = _
    refine zj (l := d) (σ := Unit) (fun i _ => (((d, ((d.length : Int), ((i : Int), ())))), ((d, ()), (lay d.length (zf d), ())))) (fun i n _ => if !(decide ((i : Int) ∈ zf d) == (zk n != -1)) then .inr (.inr ((171, ()), ())) else .inl ()) (fun _ => .inl ((), ((d, ()), ()))) (fun _ _ => True) () rfl trivial (by omega) (fun i s hi _ => ⟨?_, fun _ _ => trivial⟩) (fun s _ => ?_) ?_
    ·simp only [zp, decide_eq_true hi, cond_true, zh hi, Option.bind_some, qg, show decide (0 ≤ (i : Int)) = true from decide_eq_true (by omega), Bool.and_self, Int.toNat_natCast, qh hi]
     cases hx : (decide ((i : Int) ∈ zf d) == (zk d[i] != -1))
     ·simp
     ·simp only [Bool.not_true, cond_false, Bool.false_eq_true, if_false, zy (show i < 1000000 by omega)]
    ·simp only [zp, Nat.lt_irrefl, decide_false, cond_false]
    ·rcases xf (fun (i : Nat) (n : Nd) => !(decide ((i : Int) ∈ zf d) == (zk n != -1))) ((.inr ((171, ()), ())) : (Unit × ((List Nd × Unit) × Unit)) ⊕ ((Int × Unit) × Unit)) (.inl ((), ((d, ()), ()))) d 0 with ⟨⟨j, n, hj, hp⟩, hf⟩ | ⟨hall, hf⟩
     ·rw [hf]
      rw [if_neg (fun R => by
       have := (hRI.1 R).2.1 j n hj
       simp [this] at hp)]
     ·rw [hf]
      have hl : ∀ (j : Nat) (n : Nd), d[j]? = some n → decide ((j : Int) ∈ zf d) = (zk n != -1) := fun j n hj => by
       have := hall j n hj
       simpa using this
      have cl : ∀ x : Int, 0 ≤ x → x < d.length → pr d x = -1 ∨ (0 ≤ pr d x ∧ pr d x < d.length) := by
       intro x hx0 hx1
       obtain ⟨a, rfl⟩ := Int.eq_ofNat_of_zero_le hx0
       have ha : a < d.length := by omega
       have hnd : d[a]? = some d[a] := List.getElem?_eq_getElem ha
       by_cases hp : pr d (a : Int) = -1
       ·exact .inl hp
       ·have h9 := hl a _ hnd
        rw [zt hnd] at hp
        rw [show (zk d[a] != -1) = true by simpa using hp] at h9
        have h10 : (a : Int) ∈ zf d := by simpa using h9
        obtain ⟨m, hm1, hm2⟩ := List.mem_flatMap.1 h10
        obtain ⟨i, hi⟩ := List.getElem?_of_mem hm1
        have h11 := ((hK.1 i m hi).2.2.2 _ hm2).2.2
        have := (List.getElem?_eq_some_iff.1 hi).1
        rw [h11]
        right
        omega

      show Option.bind _ _ = _
      have zeb : ∀ (i : Nat) (hi : i < d.length), (∃ m, m ≤ d.length ∧ up d m (zk d[i]) = -1) ∨ ¬ ∃ m, m ≤ d.length ∧ up d m (zk d[i]) = -1 := fun i hi => Classical.em _
      classical
      refine zj (l := d) (σ := Unit) (fun i _ => (((d, ((d.length : Int), ((i : Int), ())))), ((d, ()), ()))) (fun i n _ => if !decide (∃ m, m ≤ d.length ∧ up d m (zk n) = -1) then .inr (.inr ((171, ()), ())) else .inl ()) (fun _ => .inl ((), ())) (fun _ _ => True) () rfl trivial (by omega) (fun i s hi _ => ⟨?_, fun _ _ => trivial⟩) (fun s _ => ?_) ?_
      ·have hnd : d[i]? = some d[i] := List.getElem?_eq_getElem hi
       have hrng : zk d[i] = -1 ∨ (0 ≤ zk d[i] ∧ zk d[i] < d.length) := by have := cl i (by omega) (by omega); rwa [zt hnd] at this
       simp only [zp, decide_eq_true hi, cond_true, zh hi, Option.bind_some]
       generalize hf0 : (fun (s30 : (Int × Int × List Nd × Int × Int × Unit) × ((List Nd × Unit) × Unit)) => (bif s30.1.2.1 != -1 then _ else _ : Option (((Int × Int × List Nd × Int × Int × Unit) × ((List Nd × Unit) × Unit)) ⊕ (((List Nd × Int × Int × Unit) × ((List Nd × Unit) × Unit)) ⊕ ((Int × Unit) × Unit))))) = f0
       have hw := zrg (f := f0) d (fun s x => (((s : Int), (x, (d, ((d.length : Int), ((i : Int), ()))))), ((d, ()), ()))) (.inl ((d, ((d.length : Int), ((i : Int), ()))), ((d, ()), ()))) (.inr ((171, ()), ())) cl (fun s => by rw [← hf0]; rfl) (fun s x hx0 hx1 hs1 hs2 => ?_) (fun s x hx0 hx1 hs1 => ?_) d.length 0 (zk d[i]) 5000 (by omega) (by omega) hrng
       ·rcases hw with ⟨he, hv⟩ | ⟨he, hv⟩
        ·rw [decide_eq_true he]
         show ((yz f0 5000 _).bind _) = _
         have hv' : yz f0 5000 (((0 : Int), (d[i].2.2.2.2.1, (d, ((d.length : Int), ((i : Int), ()))))), ((d, ()), ())) = _ := hv
         rw [hv']
         simp only [Option.bind_some, Bool.not_true, Bool.false_eq_true, if_false, zy (show i < 1000000 by omega)]
        ·rw [decide_eq_false he]
         show ((yz f0 5000 _).bind _) = _
         have hv' : yz f0 5000 (((0 : Int), (d[i].2.2.2.2.1, (d, ((d.length : Int), ((i : Int), ()))))), ((d, ()), ())) = _ := hv
         rw [hv']
         rfl
       ·rw [← hf0]
        have b1 : (x != -1) = true := by simp; omega
        simp only [b1, cond_true, zy (show s < 1000000 by omega), zey, decide_eq_true hs1]
       ·rw [← hf0]
        have b1 : (x != -1) = true := by simp; omega
        obtain ⟨a, rfl⟩ := Int.eq_ofNat_of_zero_le hx0
        have ha : a < d.length := by omega
        simp only [b1, cond_true, zy (show s < 1000000 by omega), zey, decide_eq_false (show ¬ s + 1 > d.length by omega), cond_false, zh ha, Option.bind_some, zt (List.getElem?_eq_getElem ha)]
      ·simp only [zp, Nat.lt_irrefl, decide_false, cond_false]
      ·rcases xf (fun (i : Nat) (n : Nd) => !decide (∃ m, m ≤ d.length ∧ up d m (zk n) = -1)) ((.inr ((171, ()), ())) : (Unit × Unit) ⊕ ((Int × Unit) × Unit)) (.inl ((), ())) d 0 with ⟨⟨j, n, hj, hp⟩, hf⟩ | ⟨hall2, hf⟩
       ·rw [hf]
        rw [if_neg (fun R => by
         have := (hRI.1 R).2.2 j n hj
         simp [this] at hp)]
       ·rw [hf]
        rw [if_pos (hRI.2 ⟨hok, hl, fun j n hj => by simpa using hall2 j n hj⟩)]
theorem zy0 {α β : Type} (f : α → List β) : ∀ {l : List α}, (l.flatMap f).Nodup → ∀ {i j : Nat} {x y : α} {b : β}, l[i]? = some x → l[j]? = some y → b ∈ f x → b ∈ f y → i = j
 | [], _, i, j, x, y, b, hi, _, _, _ => by simp at hi
 | a :: l, h, i, j, x, y, b, hi, hj, hx, hy => by
  rw [List.flatMap_cons, List.nodup_append] at h
  obtain ⟨h1, h2, h3⟩ := h
  cases i with
  | zero =>
   cases j with
   | zero => rfl
   | succ j =>
    simp only [List.getElem?_cons_zero, Option.some.injEq] at hi
    subst hi
    exact absurd rfl (h3 b hx b (List.mem_flatMap.2 ⟨y, List.mem_of_getElem? (by simpa using hj), hy⟩))
  | succ i =>
   cases j with
   | zero =>
    simp only [List.getElem?_cons_zero, Option.some.injEq] at hj
    subst hj
    exact absurd rfl (h3 b hy b (List.mem_flatMap.2 ⟨x, List.mem_of_getElem? (by simpa using hi), hx⟩))
   | succ j => exact congrArg (· + 1) (zy0 f h2 (by simpa using hi) (by simpa using hj) hx hy)
def zo6 (d : List Nd) (n : Nd) : Bool := !((!(za n == []) && !zo n) || decide ((za n).length > d.length)) && (za n).all fun k => decide (1 ≤ k) && decide (k < (d.length : Int))
theorem z3h (d : List Nd) (h : Sm d) (i : Nat) (hi : i < d.length) : um (Ev.upto 5000) ((d, ((i : Int), ())), ()) = some ((zo6 d d[i], ()), ()) := by
 unfold um
 have hm2 : (za d[i]).length ≤ 4000 := (h.2 _ (List.getElem_mem hi)).2
 have hgt : decide (((za d[i]).length : Int) > 0) = !(za d[i] == []) := (zey (za d[i]).length 0).trans (zv4 _)
 have flag : ∀ (X : (List Int × Bool × Unit) × ((List Nd × Unit) × Unit) → Option ((Bool × Unit) × Unit)), (((bif (!(za d[i] == [])) == true then (bif (!zo d[i]) == false then some ((za d[i], (decide ((za d[i]).length > d.length), ())), ((d, ()), ())) else some ((za d[i], (true, ())), ((d, ()), ()))) else some ((za d[i], (decide ((za d[i]).length > d.length), ())), ((d, ()), ()))) : Option _).bind X)
   = X ((za d[i], ((!(za d[i] == []) && !zo d[i]) || decide ((za d[i]).length > d.length), ())), ((d, ()), ())) := by
  intro X
  cases (za d[i] == []) <;> cases zo d[i] <;> simp
 simp only [zh hi, Option.bind_some, zo5 d[i], hgt, zey]
 refine (flag _).trans ?_
 unfold zo6
 cases hfl : ((!(za d[i] == []) && !zo d[i]) || decide ((za d[i]).length > d.length)) with
 | true => simp
 | false =>
  simp only [cond_false, Bool.not_false, Bool.true_and]
  refine zj (l := za d[i]) (σ := Unit) (fun j _ => ((za d[i], ((j : Int), ())), ((d, ()), ()))) (fun _ k _ => if !(decide (1 ≤ k) && decide (k < (d.length : Int))) then .inr (.inr ((false, ()), ())) else .inl ()) (fun _ => .inl ((), ())) (fun _ _ => True) () rfl trivial (by omega) (fun j s hj _ => ⟨?_, fun _ _ => trivial⟩) (fun s _ => ?_) ?_
  ·simp only [zp, decide_eq_true hj, cond_true, zh hj, Option.bind_some, znv, znu]
   generalize (za d[i])[j] = k
   by_cases k1 : 1 ≤ k
   case neg => simp [k1]
   by_cases k2 : k < (d.length : Int)
   case neg => simp [k1, k2]
   simp only [decide_eq_true k1, decide_eq_true k2, Bool.not_true, beq_self_eq_true, cond_true, Option.bind_some, cond_false, Bool.and_self, Bool.false_eq_true, if_false, zy (show j < 1000000 by omega)]
  ·simp only [zp, Nat.lt_irrefl, decide_false, cond_false]
  ·rw [vz]
   have : ((za d[i]).any fun k => !(decide (1 ≤ k) && decide (k < (d.length : Int)))) = !((za d[i]).all fun k => decide (1 ≤ k) && decide (k < (d.length : Int))) := by rw [List.not_all_eq_any_not]
   rw [this]
   cases ((za d[i]).all fun k => decide (1 ≤ k) && decide (k < (d.length : Int))) <;> rfl
theorem z7z {i : Nat} (h : i < 100000000) : IntKind.wrap .i64 ((i : Int) + 1) = ((i + 1 : Nat) : Int) := by
 rw [jj (by omega) (by omega)]; rfl
theorem zkk {ε σ β : Type} (nx : Nat → ε → σ → σ) (fin : σ → β) : ∀ (l : List ε) (i : Nat) (s : σ), zq (fun i x s => (.inl (nx i x s) : σ ⊕ β)) fin i l s = fin ((l.foldl (fun (p : Nat × σ) x => (p.1 + 1, nx p.1 x p.2)) (i, s)).2)
 | [], _, _ => rfl
 | x :: l, i, s => by
  unfold zq
  simp only
  rw [zkk nx fin l (i + 1) (nx i x s)]
  rfl
theorem z3i {ε σ : Type} (nx : ε → σ → σ) : ∀ (l : List ε) (i : Nat) (s : σ), (l.foldl (fun (p : Nat × σ) x => (p.1 + 1, nx x p.2)) (i, s)).2 = l.foldl (fun s x => nx x s) s
 | [], _, _ => rfl
 | x :: l, i, s => by rw [List.foldl_cons, List.foldl_cons]; exact z3i nx l (i + 1) (nx x s)
theorem zrh (x : Int) : ∀ (l : List Int) (c : Nat), l.foldl (fun (s : Nat) k => if k = x then s + 1 else s) c = c + l.count x
 | [], c => by simp
 | k :: l, c => by
  rw [List.foldl_cons, zrh x l]
  by_cases h : k = x
  ·subst h; simp [List.count_cons]; omega
  ·rw [if_neg h, List.count_cons, if_neg (by simpa using h)]
   rfl
theorem znx (x : Int) : ∀ (l : List Nd) (c : Nat), l.foldl (fun (s : Nat) n => s + (za n).count x) c = c + (l.flatMap za).count x
 | [], c => by simp
 | n :: l, c => by
  rw [List.foldl_cons, znx x l, List.flatMap_cons, List.count_append]
  omega
theorem z1h (d : List Nd) (h : Sm d) (hl : d.length ≤ 300) (x : Int) : wk (Ev.upto 5000) ((d, (x, ())), ()) = some (((((zf d).count x : Nat) : Int), ()), ()) := by
 unfold wk
 refine zj (l := d) (σ := Nat) (fun i c => (((x, ((c : Int), ((i : Int), ())))), ((d, ()), ()))) (fun _ n c => .inl (c + (za n).count x)) (fun c => (((c : Int), ()), ())) (fun i c => c ≤ i * 4000) 0 rfl (by simp) (by omega) (fun i c hi hc => ⟨?_, fun c' e => ?_⟩) (fun s _ => ?_) ?_
 ·have hm2 : (za d[i]).length ≤ 4000 := (h.2 _ (List.getElem_mem hi)).2
  simp only [zp, decide_eq_true hi, cond_true]
  refine zj (l := za d[i]) (σ := Nat) (fun j c => (((x, ((c : Int), ((i : Int), ((j : Int), ()))))), ((d, ()), ()))) (fun _ k c => .inl (if k = x then c + 1 else c)) (fun c => ((x, ((c : Int), ((i : Int), ()))), ((d, ()), ()))) (fun j c' => c' ≤ i * 4000 + j) c rfl (Nat.le_trans hc (Nat.le_add_right _ _)) (by omega) (fun j c hj hc => ⟨?_, fun c' e => ?_⟩) (fun s _ => ?_) ?_
  ·simp only [zh hi, Option.bind_some, zp, decide_eq_true hj, cond_true, zh hj]
   have hil : i ≤ 300 := by omega
   have hjl : j ≤ 4000 := by omega
   by_cases hk : (za d[i])[j] = x
   ·have hb : ((za d[i])[j] == x) = true := by simpa using hk
    simp only [hb, cond_true, Option.bind_some, if_pos hk, z7z (show c < 100000000 by omega), zy (show j < 1000000 by omega)]
   ·have hb : ((za d[i])[j] == x) = false := by simpa using hk
    simp only [hb, cond_false, Option.bind_some, if_neg hk, zy (show j < 1000000 by omega)]
  ·simp only [Sum.inl.injEq] at e
   subst e
   split <;> omega
  ·simp only [zh hi, Option.bind_some, zp, Nat.lt_irrefl, decide_false, cond_false]
  ·rw [zkk (fun _ k c => if k = x then c + 1 else c), z3i (fun k c => if k = x then c + 1 else c), zrh]
   simp only [zy (show i < 1000000 by omega)]
 ·simp only [Sum.inl.injEq] at e
  subst e
  have h2 : (za d[i]).count x ≤ (za d[i]).length := List.count_le_length
  have hm2 : (za d[i]).length ≤ 4000 := (h.2 _ (List.getElem_mem hi)).2
  omega
 ·simp only [zp, Nat.lt_irrefl, decide_false, cond_false]
 ·rw [zkk (fun _ n c => c + (za n).count x), z3i (fun n c => c + (za n).count x), znx]
  simp [zf]
theorem z6h (d : List Nd) (h : Sm d) (p : Nat) (hp : p < d.length) (x : Int) : be (Ev.upto 5000) ((d, ((p : Int), (x, ()))), ()) = some ((decide (x ∈ za d[p]), ()), ()) := by
 unfold be
 have hm2 : (za d[p]).length ≤ 4000 := (h.2 _ (List.getElem_mem hp)).2
 refine zj (l := za d[p]) (σ := Unit) (fun j _ => ((((p : Int), (x, ((j : Int), ())))), ((d, ()), ()))) (fun _ k _ => if k == x then .inr (.inr ((true, ()), ())) else .inl ()) (fun _ => .inl ((), ())) (fun _ _ => True) () rfl trivial (by omega) (fun j s hj _ => ⟨?_, fun _ _ => trivial⟩) (fun s _ => ?_) ?_
 ·simp only [zh hp, Option.bind_some, zp, decide_eq_true hj, cond_true, zh hj]
  cases ((za d[p])[j] == x)
  ·simp only [cond_false, Bool.false_eq_true, if_false, zy (show j < 1000000 by omega)]
  ·simp
 ·simp only [zh hp, Option.bind_some, zp, Nat.lt_irrefl, decide_false, cond_false]
 ·rw [vz]
  have : ((za d[p]).any fun k => k == x) = decide (x ∈ za d[p]) := by
   rw [Bool.eq_iff_iff, List.any_eq_true, decide_eq_true_eq]
   constructor
   ·rintro ⟨k, h1, h2⟩; rw [← (by simpa using h2 : k = x)]; exact h1
   ·exact fun h => ⟨x, h, by simp⟩
  rw [this]
  by_cases hx : x ∈ za d[p] <;> simp [hx]
def zbw (d : List Nd) (i : Nat) : Bool :=
 if pr d i = -1 then (zf d).count (i : Int) == 0
 else decide (0 < i) && decide (0 ≤ pr d i) && decide (pr d i < (d.length : Int)) && (match idx d (pr d i) with | some m => zo m && decide ((i : Int) ∈ za m) | none => false) && ((zf d).count (i : Int) == 1)
theorem zy1 (d : List Nd) (h : Sm d) (hl : d.length ≤ 300) (i : Nat) (hi : i < d.length) : wy (Ev.upto 5000) ((d, ((i : Int), ())), ()) = some ((zbw d i, ()), ()) := by
 unfold wy zbw
 have hpr : pr d (i : Int) = zk d[i] := zt (List.getElem?_eq_getElem hi)
 simp only [zh hi, Option.bind_some, z1h d h hl, hpr]
 by_cases h1 : zk d[i] = -1
 ·have b1 : (d[i].2.2.2.2.1 == -1) = true := by simpa using h1
  simp only [b1, cond_true, if_pos h1]
  have : ∀ c : Nat, ((c : Int) == 0) = (c == 0) := fun c => by rw [Bool.eq_iff_iff]; simp
  simp only [this]
 ·have b1 : (d[i].2.2.2.2.1 == -1) = false := by simpa using h1
  simp only [b1, cond_false, if_neg h1, znw]
  by_cases h2 : i > 0
  case neg => simp [h2]
  by_cases h3 : 0 ≤ zk d[i]
  case neg =>
   have : ¬ d[i].2.2.2.2.1 ≥ 0 := h3
   simp [h2, h3, this]
  by_cases h4 : zk d[i] < (d.length : Int)
  case neg =>
   have : d[i].2.2.2.2.1 ≥ 0 := h3
   have h4' : ¬ d[i].2.2.2.2.1 < (d.length : Int) := h4
   simp [h2, h3, this, h4, h4']
  have e3 : decide (d[i].2.2.2.2.1 ≥ 0) = true := decide_eq_true h3
  have e4 : decide (d[i].2.2.2.2.1 < (d.length : Int)) = true := decide_eq_true h4
  obtain ⟨p, hp⟩ := Int.eq_ofNat_of_zero_le h3
  have hpl : p < d.length := by omega
  have hp' : d[i].2.2.2.2.1 = (p : Int) := hp
  simp only [decide_eq_true h2, beq_self_eq_true, cond_true, e3, e4, hp', hp, zh hpl, Option.bind_some, zo5 d[p], z6h d h p hpl, show decide (0 ≤ (p : Int)) = true from decide_eq_true (by omega), show decide ((p : Int) < (d.length : Int)) = true from decide_eq_true (by omega), show decide (0 < i) = true from decide_eq_true h2, Bool.true_and]
  have : ∀ c : Nat, ((c : Int) == 1) = (c == 1) := fun c => by rw [Bool.eq_iff_iff]; simp; omega
  simp only [this]
  cases zo d[p] <;> by_cases hx : (i : Int) ∈ za d[p] <;> simp [hx]
theorem uo {l : List Int} : l.Nodup ↔ ∀ a, l.count a ≤ 1 := by
 induction l with
 | nil => simp
 | cons x l ih =>
  rw [List.nodup_cons, ih]
  constructor
  ·rintro ⟨h1, h2⟩ a
   rw [List.count_cons]
   split
   ·rename_i h
    have e : x = a := by simpa using h
    subst e
    rw [List.count_eq_zero.2 h1]
    omega
   ·have := h2 a; omega
  ·intro h
   refine ⟨fun hx => ?_, fun a => ?_⟩
   ·have := h x
    rw [List.count_cons, if_pos (by simp)] at this
    have := List.count_pos_iff.2 hx
    omega
   ·have := h a
    rw [List.count_cons] at this
    omega
theorem ui : ∀ (n : Nat) (l : List Int), l.Nodup → (∀ k, k ∈ l → 0 ≤ k ∧ k < n) → l.length ≤ n
 | 0, l, _, h => by
  cases l with
  | nil => simp
  | cons a l => have := h a (by simp); omega
 | n + 1, l, hn, h => by
  have h1 := ui n (l.filter fun k => k != (n : Int)) (hn.filter _) (fun k hk => by
   obtain ⟨a, b⟩ := List.mem_filter.1 hk
   have := h k a
   have : k ≠ (n : Int) := by simpa using b
   omega)
  have h2 := List.length_eq_countP_add_countP (fun k => k != (n : Int)) (l := l)
  rw [List.countP_eq_length_filter] at h2
  have h3 : l.countP (fun k => decide ¬((k != (n : Int)) = true)) = l.count (n : Int) := by
   unfold List.count
   congr 1
   funext k
   by_cases hk : k = (n : Int) <;> simp [hk]
  rw [h3] at h2
  have := uo.1 hn (n : Int)
  omega
theorem z6i (i n : Nat) : decide ((i : Int) ≤ (n : Int)) = decide (i ≤ n) := by
 by_cases h : i ≤ n
 ·rw [decide_eq_true h, decide_eq_true (by omega)]
 ·rw [decide_eq_false h, decide_eq_false (by omega)]
theorem z3j (d : List Nd) (hl : d.length ≤ 300) (cl : ∀ x : Int, 0 ≤ x → x < d.length → pr d x = -1 ∨ (0 ≤ pr d x ∧ pr d x < d.length)) (i : Nat) (hi : i < d.length) :
  ∃ b, un (Ev.upto 5000) ((d, ((i : Int), ())), ()) = some ((b, ()), ()) ∧ (b = true ↔ ∃ m, m ≤ d.length ∧ up d m (pr d i) = -1) := by
 have key : ∀ {f : ((Int × Int × Unit) × ((List Nd × Unit) × Unit)) → Option (((Int × Int × Unit) × ((List Nd × Unit) × Unit)) ⊕ ((Unit × Unit) ⊕ ((Bool × Unit) × Unit)))},
   (∀ (s : Nat) (x : Nat), x < d.length → s ≤ d.length → f ((((x : Int), ((s : Int), ())), ((d, ()), ()))) = if pr d x = -1 then some (.inr (.inr ((true, ()), ()))) else some (.inl (((pr d x, (((s + 1 : Nat) : Int), ())), ((d, ()), ()))))) →
   (∀ (s : Nat) (x : Int), s > d.length → f (((x, ((s : Int), ())), ((d, ()), ()))) = some (.inr (.inl ((), ())))) →
   ∀ (m s : Nat) (x : Nat) (N : Nat), s + m = d.length → m + 1 < N → x < d.length →
    ((∃ j, j ≤ m ∧ up d j (pr d x) = -1) ∧ yz f N ((((x : Int), ((s : Int), ())), ((d, ()), ()))) = some (.inr ((true, ()), ()))) ∨ ((¬ ∃ j, j ≤ m ∧ up d j (pr d x) = -1) ∧ yz f N ((((x : Int), ((s : Int), ())), ((d, ()), ()))) = some (.inl ((), ()))) := by
  intro f h1 h2 m
  induction m with
  | zero =>
   intro s x N hs hN hx
   obtain ⟨N, rfl⟩ : ∃ M, N = M + 2 := ⟨N - 2, by omega⟩
   unfold yz
   rw [h1 s x hx (by omega)]
   by_cases hp : pr d x = -1
   ·rw [if_pos hp]; exact .inl ⟨⟨0, Nat.le_refl _, hp⟩, rfl⟩
   ·rw [if_neg hp]
    refine .inr ⟨?_, ?_⟩
    ·rintro ⟨j, hj, hu⟩
     obtain rfl : j = 0 := by omega
     exact hp hu
    ·simp only [Option.bind_some]
     unfold yz
     rw [h2 (s + 1) _ (by omega)]
     rfl
  | succ m ih =>
   intro s x N hs hN hx
   obtain ⟨N, rfl⟩ : ∃ M, N = M + 1 := ⟨N - 1, by omega⟩
   unfold yz
   rw [h1 s x hx (by omega)]
   by_cases hp : pr d x = -1
   ·rw [if_pos hp]; exact .inl ⟨⟨0, Nat.zero_le _, hp⟩, rfl⟩
   ·rw [if_neg hp]
    simp only [Option.bind_some]
    obtain ⟨hp0, hp1⟩ := (cl x (by omega) (by omega)).resolve_left hp
    obtain ⟨y, hy⟩ := Int.eq_ofNat_of_zero_le hp0
    rw [hy]
    rcases ih (s + 1) y N (by omega) (by omega) (by omega) with ⟨⟨j, h3, h4⟩, h5⟩ | ⟨h3, h5⟩
    ·exact .inl ⟨⟨j + 1, by omega, h4⟩, h5⟩
    ·refine .inr ⟨?_, h5⟩
     rintro ⟨j, hj, hu⟩
     cases j with
     | zero =>
      have hu : pr d x = -1 := by rw [hy]; exact hu
      exact hp hu
     | succ j => exact h3 ⟨j, by omega, hu⟩
 unfold un
 generalize hf0 : (fun (s1 : (Int × Int × Unit) × ((List Nd × Unit) × Unit)) => (bif decide (s1.1.2.1 ≤ ((s1.2.1.1).length : Int)) then _ else _ : Option (((Int × Int × Unit) × ((List Nd × Unit) × Unit)) ⊕ ((Unit × Unit) ⊕ ((Bool × Unit) × Unit))))) = f0
 have h1 : ∀ (s : Nat) (x : Nat), x < d.length → s ≤ d.length → f0 ((((x : Int), ((s : Int), ())), ((d, ()), ()))) = if pr d x = -1 then some (.inr (.inr ((true, ()), ()))) else some (.inl (((pr d x, (((s + 1 : Nat) : Int), ())), ((d, ()), ())))) := by
  intro s x hx hs
  rw [← hf0, zt (List.getElem?_eq_getElem hx)]
  simp only [z6i, decide_eq_true hs, cond_true, zh hx, Option.bind_some, zy (show s < 1000000 by omega)]
  by_cases hp : zk d[x] = -1
  ·have b1 : (d[x].2.2.2.2.1 == -1) = true := by simpa using hp
   simp only [b1, cond_true, if_pos hp]
  ·have b1 : (d[x].2.2.2.2.1 == -1) = false := by simpa using hp
   simp only [b1, cond_false, if_neg hp]
 have h2 : ∀ (s : Nat) (x : Int), s > d.length → f0 (((x, ((s : Int), ())), ((d, ()), ()))) = some (.inr (.inl ((), ()))) := by
  intro s x hs
  rw [← hf0]
  simp only [z6i, decide_eq_false (show ¬ s ≤ d.length by omega), cond_false]
 rcases key h1 h2 d.length 0 i 5000 (by omega) (by omega) hi with ⟨h3, h4⟩ | ⟨h3, h4⟩
 ·refine ⟨true, ?_, by simp only [true_iff]; exact h3⟩
  show ((yz f0 5000 _).bind _) = _
  have h4' : yz f0 5000 ((((i : Int), ((0 : Int), ())), ((d, ()), ()))) = _ := h4
  rw [h4']
  rfl
 ·refine ⟨false, ?_, by simp only [Bool.false_eq_true, false_iff]; exact h3⟩
  show ((yz f0 5000 _).bind _) = _
  have h4' : yz f0 5000 ((((i : Int), ((0 : Int), ())), ((d, ()), ()))) = _ := h4
  rw [h4']
  rfl
theorem zy2 (d : List Nd) (h3 : d.length ≤ 300) (n0 : Nd) (hn0 : d[0]? = some n0) : zb d ↔ zk n0 = -1 ∧ (∀ (j : Nat) (n : Nd), d[j]? = some n → mayB n = true ∧ (n.1 == 1) = ((j : Int) == 0) ∧ zo6 d n = true) ∧ (∀ (j : Nat), j < d.length → zbw d j = true) ∧ (∀ (j : Nat) (n : Nd), d[j]? = some n → ∃ m, m ≤ d.length ∧ up d m (zk n) = -1) := by
 have hpr : ∀ (j : Nat) (n : Nd), d[j]? = some n → pr d j = zk n := fun j n hj => zt hj
 have hmem : ∀ k : Int, k ∈ zf d ↔ ∃ (i : Nat) (n : Nd), d[i]? = some n ∧ k ∈ za n := by
  intro k
  unfold zf
  rw [List.mem_flatMap]
  constructor
  ·rintro ⟨n, hn, hk⟩
   obtain ⟨i, hi⟩ := List.getElem?_of_mem hn
   exact ⟨i, n, hi, hk⟩
  ·rintro ⟨i, n, hi, hk⟩
   exact ⟨n, List.mem_of_getElem? hi, hk⟩
 have hkb : ∀ n, zo6 d n = true ↔ (za n ≠ [] → zo n = true) ∧ (za n).length ≤ d.length ∧ ∀ k, k ∈ za n → 1 ≤ k ∧ k < d.length := by
  intro n
  unfold zo6
  simp only [Bool.and_eq_true, Bool.not_eq_true', Bool.or_eq_false_iff, decide_eq_false_iff_not, List.all_eq_true, decide_eq_true_eq]
  have : ((!(za n == []) && !zo n) = false) ↔ (za n ≠ [] → zo n = true) := by
   cases hh : za n with
   | nil => simp
   | cons a l => cases zo n <;> simp
  rw [this]
  constructor
  ·rintro ⟨⟨a, b⟩, c⟩; exact ⟨a, by omega, c⟩
  ·rintro ⟨a, b, c⟩; exact ⟨⟨a, by omega⟩, c⟩
 constructor
 ·intro R
  have klen : ∀ n, n ∈ d → (za n).length ≤ d.length := by
   intro n hn
   have hnd : (za n).Nodup := List.Nodup.sublist (by
    obtain ⟨l1, l2, rfl⟩ := List.append_of_mem hn
    simp only [zf, List.flatMap_append, List.flatMap_cons]
    exact (List.sublist_append_left _ _).trans (List.sublist_append_right _ _)) R.nodup
   exact ui _ _ hnd fun k hk => by have := R.rng n hn k hk; omega
  refine ⟨?_, fun j n hj => ⟨R.may n (List.mem_of_getElem? hj), ?_, (hkb n).2 ⟨R.holds n (List.mem_of_getElem? hj), klen n (List.mem_of_getElem? hj), R.rng n (List.mem_of_getElem? hj)⟩⟩, fun j hj => ?_, R.ends⟩
  ·have := R.par0; rw [show (0 : Int) = ((0 : Nat) : Int) from rfl, zt hn0] at this; exact this
  ·rw [Bool.eq_iff_iff, beq_iff_eq, beq_iff_eq, R.root j n hj]; omega
  ·have hnd : d[j]? = some d[j] := List.getElem?_eq_getElem hj
   have hc : (zf d).count (j : Int) ≤ 1 := uo.1 R.nodup _
   unfold zbw
   rw [hpr j _ hnd]
   by_cases hp : zk d[j] = -1
   ·rw [if_pos hp, beq_iff_eq, List.count_eq_zero]
    intro hk
    obtain ⟨i, n, hi, hk⟩ := (hmem _).1 hk
    have := R.back i n hi _ hk
    rw [hpr j _ hnd] at this
    omega
   ·rw [if_neg hp]
    have hk := R.laid j _ hnd hp
    obtain ⟨i, n, hi, hk2⟩ := (hmem _).1 hk
    have hb := R.back i n hi _ hk2
    rw [hpr j _ hnd] at hb
    have hil := (List.getElem?_eq_some_iff.1 hi).1
    have hr := R.rng n (List.mem_of_getElem? hi) _ hk2
    have hidx : idx d (i : Int) = some n := by unfold idx; rw [if_pos (by omega), Int.toNat_natCast]; exact hi
    have hcp : 0 < (zf d).count (j : Int) := List.count_pos_iff.2 hk
    rw [hb, hidx]
    simp only [Bool.and_eq_true, decide_eq_true_eq, beq_iff_eq]
    exact ⟨⟨⟨⟨by omega, by omega⟩, by omega⟩, R.holds n (List.mem_of_getElem? hi) (List.ne_nil_of_mem hk2), hk2⟩, by omega⟩
 ·rintro ⟨h1, h2, h4, h5⟩
  have kr : ∀ k, k ∈ zf d → ∃ a : Nat, k = (a : Int) ∧ a < d.length := by
   intro k hk
   obtain ⟨i, n, hi, hk⟩ := (hmem k).1 hk
   obtain ⟨a, b⟩ := ((hkb n).1 (h2 i n hi).2.2).2.2 k hk
   exact ⟨k.toNat, by omega, by omega⟩
  have cnt : ∀ (a : Nat) (ha : a < d.length), (zf d).count (a : Int) ≤ 1 ∧ ((a : Int) ∈ zf d → zk d[a] ≠ -1) ∧ (zk d[a] ≠ -1 → ∃ (p : Nat) (m : Nd), zk d[a] = (p : Int) ∧ d[p]? = some m ∧ (a : Int) ∈ za m) := by
   intro a ha
   have hnd : d[a]? = some d[a] := List.getElem?_eq_getElem ha
   have := h4 a ha
   unfold zbw at this
   rw [hpr a _ hnd] at this
   by_cases hp : zk d[a] = -1
   ·rw [if_pos hp, beq_iff_eq] at this
    refine ⟨by omega, fun hk => ?_, fun h => absurd hp h⟩
    rw [List.count_eq_zero] at this
    exact absurd hk this
   ·rw [if_neg hp] at this
    simp only [Bool.and_eq_true, decide_eq_true_eq, beq_iff_eq] at this
    obtain ⟨⟨⟨⟨_, g1⟩, g2⟩, g3⟩, g4⟩ := this
    refine ⟨by omega, fun _ => hp, fun _ => ?_⟩
    obtain ⟨p, hp2⟩ := Int.eq_ofNat_of_zero_le g1
    rw [hp2] at g3 g2
    have hpl : p < d.length := by omega
    rw [zh hpl] at g3
    simp only [Bool.and_eq_true, decide_eq_true_eq] at g3
    exact ⟨p, d[p], hp2, List.getElem?_eq_getElem hpl, g3.2⟩
  have hnodup : (zf d).Nodup := by
   rw [uo]
   intro k
   by_cases hk : k ∈ zf d
   ·obtain ⟨a, rfl, ha⟩ := kr k hk
    exact (cnt a ha).1
   ·rw [List.count_eq_zero.2 hk]; omega
  refine ⟨h3, by have := (List.getElem?_eq_some_iff.1 hn0).1; omega, fun n hn => ?_, fun i n hi => ?_, by rw [show (0 : Int) = ((0 : Nat) : Int) from rfl, zt hn0]; exact h1, fun n hn => ?_, fun n hn k hk => ?_, hnodup, fun i n hi k hk => ?_, fun i n hi hp => ?_, h5⟩
  ·obtain ⟨i, hi⟩ := List.getElem?_of_mem hn; exact (h2 i n hi).1
  ·have := (h2 i n hi).2.1
   rw [Bool.eq_iff_iff, beq_iff_eq, beq_iff_eq] at this
   omega
  ·obtain ⟨i, hi⟩ := List.getElem?_of_mem hn; exact ((hkb n).1 (h2 i n hi).2.2).1
  ·obtain ⟨i, hi⟩ := List.getElem?_of_mem hn
   exact ((hkb n).1 (h2 i n hi).2.2).2.2 k hk
  ·have hka : k ∈ zf d := (hmem k).2 ⟨i, n, hi, hk⟩
   obtain ⟨a, rfl, ha⟩ := kr k hka
   obtain ⟨p, m, g1, g2, g3⟩ := (cnt a ha).2.2 ((cnt a ha).2.1 hka)
   rw [hpr a _ (List.getElem?_eq_getElem ha), g1]
   rw [zy0 za hnodup g2 hi g3 hk]
  ·have ha := (List.getElem?_eq_some_iff.1 hi).1
   have he : d[i] = n := (List.getElem?_eq_some_iff.1 hi).2
   obtain ⟨p, m, g1, g2, g3⟩ := (cnt i ha).2.2 (by rw [he]; exact hp)
   exact (hmem _).2 ⟨p, m, g2, g3⟩
theorem zo7 (d : List Nd) (h : Sm d) : qw (Ev.upto 5000) ((d, ()), ()) = some ((chk d, ()), ()) := by
 unfold qw
 simp only [show (300 : Int) = ((300 : Nat) : Int) from rfl, zey]
 unfold chk
 by_cases h3 : d.length > 300
 ·rw [if_pos h3]; simp [h3]
 rw [if_neg h3]
 simp only [decide_eq_false h3, cond_false]
 cases hd : d[0]? with
 | none =>
  have hd0 : d = [] := by
   cases d with
   | nil => rfl
   | cons a d => simp at hd
  subst hd0
  rw [if_neg (fun R => by have := R.pos; simp at this)]
  rfl
 | some n0 =>
  have hpos : 0 < d.length := (List.getElem?_eq_some_iff.1 hd).1
  have hl0 : ((d.length : Int) == 0) = false := by rw [beq_eq_false_iff_ne]; omega
  have hi0 : idx d 0 = some n0 := by unfold idx; simpa using hd
  simp only [hl0, beq_self_eq_true, cond_true, hi0, Option.bind_some]
  have hRI := zy2 d (by omega) n0 hd
  by_cases hr2 : zk n0 = -1
  case neg =>
   rw [if_neg (fun R => hr2 (hRI.1 R).1)]
   have : (n0.2.2.2.2.1 != -1) = true := by simpa using hr2
   simp [this]
  have e2 : (n0.2.2.2.2.1 != -1) = false := by simpa using hr2
  simp only [e2, cond_false]
  refine zj (l := d) (σ := Unit) (fun i _ => ((((i : Int), ()), ((d, ()), ())))) (fun i n _ => if !(mayB n && ((n.1 == 1) == ((i : Int) == 0)) && zo6 d n) then .inr (.inr ((171, ()), ())) else .inl ()) (fun _ => .inl ((), ((d, ()), ()))) (fun _ _ => True) () rfl trivial (by omega) (fun i s hi _ => ⟨?_, fun _ _ => trivial⟩) (fun s _ => ?_) ?_
  ·have hm := h.2 _ (List.getElem_mem hi)
   simp only [zp, decide_eq_true hi, cond_true, zh hi, Option.bind_some, z2m _ hm.1, z3h d h i hi]
   cases mayB d[i]
   ·simp
   ·cases hh : ((d[i].1 == 1) == ((i : Int) == 0))
    ·simp [hh]
    ·cases hk : zo6 d d[i]
     ·simp [hh, hk]
     ·simp only [hh, hk, Bool.not_true, beq_self_eq_true, cond_true, Option.bind_some, cond_false, Bool.and_self, Bool.false_eq_true, if_false, zy (show i < 1000000 by omega)]
  ·simp only [zp, Nat.lt_irrefl, decide_false, cond_false]
  ·rcases xf (fun (i : Nat) (n : Nd) => !(mayB n && ((n.1 == 1) == ((i : Int) == 0)) && zo6 d n)) ((.inr ((171, ()), ())) : (Unit × ((List Nd × Unit) × Unit)) ⊕ ((Int × Unit) × Unit)) (.inl ((), ((d, ()), ()))) d 0 with ⟨⟨j, n, hj, hp⟩, hf⟩ | ⟨hall, hf⟩
   ·rw [hf]
    rw [if_neg (show ¬ zb d from fun R => by
     obtain ⟨a, b, c⟩ := (hRI.1 R).2.1 j n hj
     simp [a, b, c] at hp)]
   ·rw [hf]
    have hA : ∀ (j : Nat) (n : Nd), d[j]? = some n → mayB n = true ∧ (n.1 == 1) = ((j : Int) == 0) ∧ zo6 d n = true := fun j n hj => by
     have := hall j n hj
     simp only [Nat.zero_add, Bool.not_eq_false', Bool.and_eq_true] at this
     exact ⟨this.1.1, eq_of_beq this.1.2, this.2⟩
    show Option.bind _ _ = _
    refine zj (l := d) (σ := Unit) (fun i _ => ((((i : Int), ()), ((d, ()), ())))) (fun i n _ => if !(zbw d i) then .inr (.inr ((171, ()), ())) else .inl ()) (fun _ => .inl ((), ((d, ()), ()))) (fun _ _ => True) () rfl trivial (by omega) (fun i s hi _ => ⟨?_, fun _ _ => trivial⟩) (fun s _ => ?_) ?_
    ·simp only [zp, decide_eq_true hi, cond_true, zy1 d h (by omega) i hi, Option.bind_some]
     cases zbw d i
     ·simp
     ·simp only [Bool.not_true, cond_false, Bool.false_eq_true, if_false, zy (show i < 1000000 by omega)]
    ·simp only [zp, Nat.lt_irrefl, decide_false, cond_false]
    ·rcases xf (fun (i : Nat) (n : Nd) => !(zbw d i)) ((.inr ((171, ()), ())) : (Unit × ((List Nd × Unit) × Unit)) ⊕ ((Int × Unit) × Unit)) (.inl ((), ((d, ()), ()))) d 0 with ⟨⟨j, n, hj, hp⟩, hf⟩ | ⟨hall2, hf⟩
     ·rw [hf]
      rw [if_neg (show ¬ zb d from fun R => by
       have := (hRI.1 R).2.2.1 j (List.getElem?_eq_some_iff.1 hj).1
       simp [this] at hp)]
     ·rw [hf]
      have hB : ∀ (j : Nat), j < d.length → zbw d j = true := fun j hj => by
       have := hall2 j _ (List.getElem?_eq_getElem hj)
       simpa using this
      have cl : ∀ x : Int, 0 ≤ x → x < d.length → pr d x = -1 ∨ (0 ≤ pr d x ∧ pr d x < d.length) := by
       intro x hx0 hx1
       obtain ⟨a, rfl⟩ := Int.eq_ofNat_of_zero_le hx0
       have := hB a (by omega)
       unfold zbw at this
       by_cases hp : pr d (a : Int) = -1
       ·exact .inl hp
       ·rw [if_neg hp] at this
        simp only [Bool.and_eq_true, decide_eq_true_eq] at this
        exact .inr ⟨this.1.1.1.2, this.1.1.2⟩
      show Option.bind _ _ = _
      classical
      refine zj (l := d) (σ := Unit) (fun i _ => ((((i : Int), ()), ((d, ()), ())))) (fun i n _ => if !decide (∃ m, m ≤ d.length ∧ up d m (zk n) = -1) then .inr (.inr ((171, ()), ())) else .inl ()) (fun _ => .inl ((), ())) (fun _ _ => True) () rfl trivial (by omega) (fun i s hi _ => ⟨?_, fun _ _ => trivial⟩) (fun s _ => ?_) ?_
      ·obtain ⟨b, hb1, hb2⟩ := z3j d (by omega) cl i hi
       rw [zt (List.getElem?_eq_getElem hi)] at hb2
       simp only [zp, decide_eq_true hi, cond_true, hb1, Option.bind_some]
       cases b with
       | true =>
        rw [decide_eq_true (hb2.1 rfl)]
        simp only [Bool.not_true, cond_false, Bool.false_eq_true, if_false, zy (show i < 1000000 by omega)]
       | false =>
        rw [decide_eq_false (fun hx => by have := hb2.2 hx; cases this)]
        simp
      ·simp only [zp, Nat.lt_irrefl, decide_false, cond_false]
      ·rcases xf (fun (i : Nat) (n : Nd) => !decide (∃ m, m ≤ d.length ∧ up d m (zk n) = -1)) ((.inr ((171, ()), ())) : (Unit × Unit) ⊕ ((Int × Unit) × Unit)) (.inl ((), ())) d 0 with ⟨⟨j, n, hj, hp⟩, hf⟩ | ⟨hall3, hf⟩
       ·rw [hf]
        rw [if_neg (show ¬ zb d from fun R => by
         have := (hRI.1 R).2.2.2 j n hj
         simp [this] at hp)]
       ·rw [hf]
        rw [if_pos (hRI.2 ⟨hr2, hA, hB, fun j n hj => by simpa using hall3 j n hj⟩)]
theorem xe (d : List Nd) : ∀ (j : Nat) (x : Int), up d (j + 1) x = pr d (up d j x)
 | 0, x => rfl
 | j + 1, x => xe d j (pr d x)
theorem jk (d : List Nd) : ∀ (i j : Nat) (x : Int), up d (i + j) x = up d j (up d i x)
 | 0, j, x => by rw [Nat.zero_add]; rfl
 | i + 1, j, x => by
  rw [show i + 1 + j = (i + j) + 1 by omega]
  exact jk d i j (pr d x)
theorem zed {d : List Nd} {x : Int} (h : ¬ (0 ≤ x ∧ x < d.length)) : pr d x = -1 := by
 unfold pr
 cases hx : idx d x with
 | none => rfl
 | some n => exact absurd ⟨(zc hx).1, (zc hx).2.1⟩ h
def ks (d : List Nd) (x : Int) : List Int := match idx d x with
 | some n => za n
 | none => []
theorem xc {d : List Nd} {i : Nat} {n : Nd} (h : d[i]? = some n) : ks d (i : Int) = za n := by
 unfold ks idx
 rw [if_pos (by omega), Int.toNat_natCast, h]
def dn (d : List Nd) : Nat → Int → List Int
 | 0, _ => []
 | f + 1, x => x :: (ks d x).flatMap (dn d f)
def okD (d : List Nd) : Nat → Int → Prop
 | 0, _ => False
 | f + 1, x => ∀ k, k ∈ ks d x → okD d f k
theorem vq {d : List Nd} : ∀ {f f' : Nat} {x : Int}, f ≤ f' → okD d f x → okD d f' x
 | 0, _, _, _, h => h.elim
 | f + 1, 0, _, hf, _ => by omega
 | f + 1, f' + 1, x, hf, h => fun k hk => vq (by omega) (h k hk)
theorem va {d : List Nd} : ∀ {f f' : Nat} {x : Int}, f ≤ f' → okD d f x → dn d f' x = dn d f x
 | 0, _, _, _, h => h.elim
 | f + 1, 0, _, hf, _ => by omega
 | f + 1, f' + 1, x, hf, h => by
  unfold dn
  congr 1
  have : ∀ l : List Int, (∀ k, k ∈ l → okD d f k) → l.flatMap (dn d f') = l.flatMap (dn d f) := by
   intro l
   induction l with
   | nil => intro _; rfl
   | cons a l ih =>
    intro hl
    rw [List.flatMap_cons, List.flatMap_cons, va (by omega) (hl a (List.mem_cons_self ..)), ih fun k hk => hl k (List.mem_cons_of_mem _ hk)]
  exact this _ h
def In' (d : List Nd) (x : Int) : Prop := 0 ≤ x ∧ x < d.length
theorem In'.nat {d : List Nd} {x : Int} (h : In' d x) : ∃ (i : Nat) (n : Nd), x = (i : Int) ∧ d[i]? = some n := by
 obtain ⟨i, hi⟩ := Int.eq_ofNat_of_zero_le h.1
 have : i < d.length := by have := h.2; omega
 exact ⟨i, d[i], hi, List.getElem?_eq_getElem this⟩
theorem zb.mem_all {d : List Nd} (R : zb d) {k : Int} : k ∈ zf d ↔ ∃ (i : Nat) (n : Nd), d[i]? = some n ∧ k ∈ za n := by
 unfold zf
 rw [List.mem_flatMap]
 constructor
 ·rintro ⟨n, hn, hk⟩
  obtain ⟨i, hi⟩ := List.getElem?_of_mem hn
  exact ⟨i, n, hi, hk⟩
 ·rintro ⟨i, n, hi, hk⟩
  exact ⟨n, List.mem_of_getElem? hi, hk⟩
theorem zb.kid {d : List Nd} (R : zb d) {x k : Int} (h : k ∈ ks d x) : In' d x ∧ In' d k ∧ 1 ≤ k ∧ pr d k = x := by
 unfold ks at h
 cases hx : idx d x with
 | none => rw [hx] at h; simp at h
 | some n =>
  rw [hx] at h
  obtain ⟨h0, h1, h2⟩ := zc hx
  have hr := R.rng n (List.mem_of_getElem? h2) k h
  have hb := R.back _ n h2 k h
  exact ⟨⟨h0, h1⟩, ⟨by omega, hr.2⟩, hr.1, by rw [hb]; omega⟩
theorem zb.par {d : List Nd} (R : zb d) {k : Int} (hk : In' d k) (h : pr d k ≠ -1) : In' d (pr d k) ∧ k ∈ ks d (pr d k) := by
 obtain ⟨i, n, rfl, hi⟩ := hk.nat
 rw [zt hi] at h ⊢
 obtain ⟨j, m, hj, hm⟩ := R.mem_all.1 (R.laid i n hi h)
 have := R.back j m hj _ hm
 rw [zt hi] at this
 rw [this]
 have hl := (List.getElem?_eq_some_iff.1 hj).1
 exact ⟨⟨by omega, by omega⟩, by rw [xc hj]; exact hm⟩
theorem zb.cl {d : List Nd} (R : zb d) (x : Int) (h0 : 0 ≤ x) (h1 : x < d.length) : pr d x = -1 ∨ (0 ≤ pr d x ∧ pr d x < d.length) := by
 by_cases h : pr d x = -1
 ·exact .inl h
 ·exact .inr (R.par ⟨h0, h1⟩ h).1
theorem zb.up_in {d : List Nd} (R : zb d) {x : Int} (hx : In' d x) : ∀ j, up d j x = -1 ∨ In' d (up d j x)
 | 0 => .inr hx
 | j + 1 => by
  rw [xe]
  rcases R.up_in hx j with h | h
  ·rw [h]; exact .inl rfl
  ·exact R.cl _ h.1 h.2
theorem zb.ends' {d : List Nd} (R : zb d) {x : Int} (hx : In' d x) : ∃ j, j ≤ d.length + 1 ∧ up d j x = -1 := by
 obtain ⟨i, n, rfl, hi⟩ := hx.nat
 obtain ⟨j, hj, hu⟩ := R.ends i n hi
 exact ⟨j + 1, by omega, by show up d j (pr d i) = -1; rw [zt hi]; exact hu⟩
theorem zb.acyc {d : List Nd} (R : zb d) {x : Int} (hx : In' d x) (j : Nat) (h : up d (j + 1) x = x) : False := by
 obtain ⟨m, _, hm⟩ := R.ends' hx
 have hn : ∀ n, up d (n * (j + 1)) x = x := by
  intro n
  induction n with
  | zero => rw [Nat.zero_mul]; rfl
  | succ n ih => rw [Nat.add_mul, Nat.one_mul, jk, ih]; exact h
 have h1 := hn m
 have : m * (j + 1) = m + m * j := by rw [Nat.mul_add, Nat.mul_one]; omega
 rw [this, jk, hm, w9] at h1
 have := hx.1
 omega
theorem zri {P : Nat → Prop} : ∀ n, P n → ∃ m, m ≤ n ∧ P m ∧ ∀ j, j < m → ¬ P j := by
 intro n
 induction n using Nat.strongRecOn with
 | ind n ih =>
  intro hn
  by_cases h : ∃ j, j < n ∧ P j
  ·obtain ⟨j, hj, hp⟩ := h
   obtain ⟨m, h1, h2, h3⟩ := ih j hj hp
   exact ⟨m, by omega, h2, h3⟩
  ·exact ⟨n, Nat.le_refl _, hn, fun j hj hp => h ⟨j, hj, hp⟩⟩
theorem zb.okDr {d : List Nd} (R : zb d) {x : Int} (hx : In' d x) : okD d (d.length + 2) x := by
 have key : ∀ (f m : Nat) (x : Int), In' d x → up d m x = -1 → (∀ j, j < m → up d j x ≠ -1) → d.length + 1 < m + f → okD d f x := by
  intro f
  induction f with
  | zero =>
   intro m x hx h1 h2 h3
   obtain ⟨j, hj, hu⟩ := R.ends' hx
   exact absurd hu (h2 j (by omega))
  | succ f ih =>
   intro m x hx h1 h2 h3 k hk
   obtain ⟨_, g1, g2, g3⟩ := R.kid hk
   refine ih (m + 1) k g1 (by show up d m (pr d k) = -1; rw [g3]; exact h1) (fun j hj => ?_) (by omega)
   cases j with
   | zero => have := g1.1; show k ≠ -1; omega
   | succ j => show up d j (pr d k) ≠ -1; rw [g3]; exact h2 j (by omega)
 obtain ⟨j, hj, hu⟩ := R.ends' hx
 obtain ⟨m, h1, h2, h3⟩ := zri (P := fun m => up d m x = -1) j hu
 have hm0 : 0 < m := by
  rcases Nat.eq_zero_or_pos m with h | h
  ·subst h; have := hx.1; simp only [up] at h2; omega
  ·exact h
 exact key _ m x hx h2 h3 (by omega)
theorem zb.mem_dn {d : List Nd} (R : zb d) {y : Int} : ∀ {f : Nat} {x : Int}, y ∈ dn d f x → (∃ j, up d j y = x) ∧ (y = x ∨ In' d y)
 | 0, x, h => by simp [dn] at h
 | f + 1, x, h => by
  unfold dn at h
  rcases List.mem_cons.1 h with rfl | h
  ·exact ⟨⟨0, rfl⟩, .inl rfl⟩
  ·obtain ⟨k, hk, hy⟩ := List.mem_flatMap.1 h
   obtain ⟨⟨j, hj⟩, hin⟩ := R.mem_dn hy
   obtain ⟨_, g1, _, g3⟩ := R.kid hk
   refine ⟨⟨j + 1, by rw [xe, hj]; exact g3⟩, ?_⟩
   rcases hin with rfl | h
   ·exact .inr g1
   ·exact .inr h
theorem zb.dn_mem {d : List Nd} (R : zb d) {y : Int} (hy : In' d y) : ∀ (j : Nat) {f : Nat} {x : Int}, okD d f x → In' d x → up d j y = x → y ∈ dn d f x
 | 0, 0, x, h, _, _ => h.elim
 | 0, f + 1, x, _, _, h => by
  obtain rfl : y = x := h
  exact List.mem_cons_self ..
 | j + 1, 0, x, h, _, _ => h.elim
 | j + 1, f + 1, x, h, hx, hu => by
  rw [xe] at hu
  have hz : In' d (up d j y) := by
   rcases R.up_in hy j with h1 | h1
   ·rw [h1, zrf] at hu; have := hx.1; omega
   ·exact h1
  have hk := (R.par hz (by rw [hu]; have := hx.1; omega)).2
  rw [hu] at hk
  unfold dn
  exact List.mem_cons_of_mem _ (List.mem_flatMap.2 ⟨_, hk, R.dn_mem hy j (h _ hk) hz rfl⟩)
theorem vb {α β : Type} (f : α → List β) : ∀ {l : List α}, l.Nodup → (∀ a, a ∈ l → (f a).Nodup) → (∀ a b, a ∈ l → b ∈ l → a ≠ b → ∀ x, x ∈ f a → x ∈ f b → False) → (l.flatMap f).Nodup
 | [], _, _, _ => by simp
 | a :: l, h, h1, h2 => by
  obtain ⟨h3, h4⟩ := List.nodup_cons.1 h
  rw [List.flatMap_cons, List.nodup_append]
  refine ⟨h1 a (List.mem_cons_self ..), vb f h4 (fun b hb => h1 b (List.mem_cons_of_mem _ hb)) (fun b c hb hc => h2 b c (List.mem_cons_of_mem _ hb) (List.mem_cons_of_mem _ hc)), fun x hx y hy e => ?_⟩
  subst e
  obtain ⟨b, hb, hxb⟩ := List.mem_flatMap.1 hy
  exact h2 a b (List.mem_cons_self ..) (List.mem_cons_of_mem _ hb) (fun e => h3 (e ▸ hb)) x hx hxb
theorem zb.ks_nodup {d : List Nd} (R : zb d) (x : Int) : (ks d x).Nodup := by
 unfold ks
 cases hx : idx d x with
 | none => simp
 | some n =>
  have hn := List.mem_of_getElem? (zc hx).2.2
  refine List.Nodup.sublist ?_ R.nodup
  obtain ⟨l1, l2, e⟩ := List.append_of_mem hn
  show (za n).Sublist (zf d)
  rw [e]
  simp only [zf, List.flatMap_append, List.flatMap_cons]
  exact (List.sublist_append_left _ _).trans (List.sublist_append_right _ _)
theorem zb.dn_nodup {d : List Nd} (R : zb d) : ∀ (f : Nat) {x : Int}, In' d x → (dn d f x).Nodup
 | 0, x, _ => by simp [dn]
 | f + 1, x, hx => by
  unfold dn
  rw [List.nodup_cons]
  refine ⟨fun h => ?_, vb _ (R.ks_nodup x) (fun k hk => R.dn_nodup f (R.kid hk).2.1) (fun k1 k2 h1 h2 hne y hy1 hy2 => ?_)⟩
  ·obtain ⟨k, hk, hxk⟩ := List.mem_flatMap.1 h
   obtain ⟨⟨j, hj⟩, _⟩ := R.mem_dn hxk
   exact R.acyc hx j (by rw [xe, hj]; exact (R.kid hk).2.2.2)
  ·obtain ⟨⟨a, ha⟩, _⟩ := R.mem_dn hy1
   obtain ⟨⟨b, hb⟩, _⟩ := R.mem_dn hy2
   have p1 := (R.kid h1).2.2.2
   have p2 := (R.kid h2).2.2.2
   have main : ∀ (a b : Nat) (k1 k2 : Int), up d a y = k1 → up d b y = k2 → pr d k1 = x → pr d k2 = x → a < b → False := by
    intro a b k1 k2 ha hb p1 p2 hab
    obtain ⟨c, rfl⟩ : ∃ c, b = a + (c + 1) := ⟨b - a - 1, by omega⟩
    rw [jk, ha] at hb
    have h3 : up d c x = k2 := by rw [← p1]; exact hb
    exact R.acyc hx c (by rw [xe, h3]; exact p2)
   rcases Nat.lt_trichotomy a b with h | h | h
   ·exact main a b k1 k2 ha hb p1 p2 h
   ·subst h; exact hne (ha.symm.trans hb)
   ·exact main b a k2 k1 hb ha p2 p1 h
theorem zb.dn_in {d : List Nd} (R : zb d) (f : Nat) {x y : Int} (hx : In' d x) (h : y ∈ dn d f x) : In' d y := by
 rcases (R.mem_dn h).2 with rfl | h
 ·exact hx
 ·exact h
def below (d : List Nd) (x : Int) : List Int := dn d 400 x
theorem zb.okD4 {d : List Nd} (R : zb d) {x : Int} (hx : In' d x) : okD d 400 x := vq (by have := R.len; omega) (R.okDr hx)
theorem zb.mem_below {d : List Nd} (R : zb d) {x y : Int} (hx : In' d x) : y ∈ below d x ↔ In' d y ∧ ∃ j, up d j y = x :=
 ⟨fun h => ⟨R.dn_in _ hx h, (R.mem_dn h).1⟩, fun ⟨h1, j, h2⟩ => R.dn_mem h1 j (R.okD4 hx) hx h2⟩
noncomputable def thr (d : List Nd) (x : Int) : Bool := (chk d == 0) && (decide (x ≥ 0) && decide (x < d.length))
theorem wq {d : List Nd} {x : Int} : thr d x = true ↔ zb d ∧ In' d x := by
 unfold thr In' chk
 simp only [Bool.and_eq_true, beq_iff_eq, decide_eq_true_eq]
 constructor
 ·rintro ⟨h1, h2, h3⟩
  refine ⟨?_, h2, h3⟩
  by_cases h : d.length > 300
  ·rw [if_pos h] at h1; omega
  ·rw [if_neg h] at h1
   by_cases hR : zb d
   ·exact hR
   ·rw [if_neg hR] at h1; omega
 ·rintro ⟨h1, h2, h3⟩
  refine ⟨?_, h2, h3⟩
  rw [if_neg (by have := h1.len; omega), if_pos h1]
theorem chk0 {d : List Nd} : chk d = 0 ↔ zb d := by
 unfold chk
 constructor
 ·intro h1
  by_cases h : d.length > 300
  ·rw [if_pos h] at h1; omega
  ·rw [if_neg h] at h1
   by_cases hR : zb d
   ·exact hR
   ·rw [if_neg hR] at h1; omega
 ·intro h1
  rw [if_neg (by have := h1.len; omega), if_pos h1]
theorem zny (d : List Nd) (x : Int) (h : Sm d) : wm (Ev.upto 5000) ((d, (x, ())), ()) = some ((thr d x, ()), ()) := by
 unfold wm thr
 simp only [jc d h, Option.bind_some]
 cases (chk d == 0) <;> cases decide (x ≥ 0) <;> rfl
def stp (d : List Nd) (P : Int → Bool) : Nat → Int → Int
 | 0, x => x
 | m + 1, x => if P x then x else stp d P m (pr d x)
theorem z71 {α β : Type} {f : α → Option (α ⊕ β)} (d : List Nd) (R : zb d) (P : Int → Bool) (st : Int → α) (fin : Int → β) (hP : P (-1) = true) (h1 : ∀ x, P x = true → f (st x) = some (.inr (fin x))) (h2 : ∀ x, In' d x → P x = false → f (st x) = some (.inl (st (pr d x)))) : ∀ (m : Nat) (x : Int) (N : Nat), m < N → (x = -1 ∨ In' d x) → up d m x = -1 → yz f N (st x) = some (fin (stp d P m x)) := by
 intro m
 induction m with
 | zero =>
  intro x N hN hx hu
  obtain ⟨N, rfl⟩ : ∃ M, N = M + 1 := ⟨N - 1, by omega⟩
  obtain rfl : x = -1 := hu
  unfold yz
  rw [h1 _ hP]
  rfl
 | succ m ih =>
  intro x N hN hx hu
  obtain ⟨N, rfl⟩ : ∃ M, N = M + 1 := ⟨N - 1, by omega⟩
  unfold yz stp
  cases hp : P x with
  | true => rw [h1 _ hp]; rfl
  | false =>
   rcases hx with rfl | hx
   ·rw [hP] at hp; cases hp
   ·rw [h2 x hx hp]
    exact ih _ N (by omega) (R.cl x hx.1 hx.2) hu
theorem zb.up400 {d : List Nd} (R : zb d) {x : Int} (hx : In' d x) : up d 400 x = -1 := by
 obtain ⟨j, hj, hu⟩ := R.ends' hx
 have := R.len
 rw [show 400 = j + (400 - j) by omega, jk, hu, w9]
theorem z6j {α β γ : Type} {f : α → Option (α ⊕ β)} {a0 : α} {k : β → Option γ} {r : Option γ} (d : List Nd) (R : zb d) (P : Int → Bool) (st : Int → α) (fin : Int → β) (x : Int) (hx : In' d x) (ha : a0 = st x) (hP : P (-1) = true) (h1 : ∀ x, P x = true → f (st x) = some (.inr (fin x))) (h2 : ∀ x, In' d x → P x = false → f (st x) = some (.inl (st (pr d x)))) (hr : k (fin (stp d P 400 x)) = r) : ((Ev.upto 5000).it f a0).bind k = r := by
 rw [ha]
 show (yz f 5000 (st x)).bind k = r
 rw [z71 d R P st fin hP h1 h2 400 x 5000 (by omega) (.inr hx) (R.up400 hx)]
 exact hr
def topP (top x : Int) : Bool := decide (x < 0) || x == top
def undB (d : List Nd) (x top : Int) : Bool := stp d (topP top) 400 x == top
theorem ze7 {d : List Nd} {x : Int} (h : In' d x) : ∃ n : Nd, idx d x = some n ∧ n.2.2.2.2.1 = pr d x := by
 obtain ⟨n, hn, _⟩ := yy h.1 h.2
 exact ⟨n, hn, by unfold pr; rw [hn]⟩
theorem under (d : List Nd) (R : zb d) (x top : Int) (hx : In' d x) : vn (Ev.upto 5000) ((d, (x, (top, ()))), ()) = some ((undB d x top, ()), ()) := by
 unfold vn
 refine z6j d R (topP top) (fun x => ((x, (top, ())), ((d, ()), ()))) (fun x => ((x, (top, ())), ())) x hx rfl rfl (fun y hy => ?_) (fun y hy hp => ?_) rfl
 ·simp only [topP, Bool.or_eq_true, decide_eq_true_eq, beq_iff_eq] at hy
  by_cases h0 : y < 0
  ·simp only [decide_eq_false (show ¬ y ≥ 0 by omega), Bool.false_beq, Bool.not_true, cond_false, Option.bind_some]
  ·have : y = top := by omega
   subst this
   simp only [decide_eq_true (show y ≥ 0 by omega), beq_self_eq_true, cond_true, Option.bind_some, bne_self_eq_false, cond_false]
 ·obtain ⟨n, hn, hp'⟩ := ze7 hy
  simp only [topP, Bool.or_eq_false_iff, beq_eq_false_iff_ne] at hp
  simp only [decide_eq_true hy.1, beq_self_eq_true, cond_true, Option.bind_some, bne_iff_ne.2 hp.2, hn, hp']
theorem getB {l : List Int} {i : Nat} (hi : i < l.length) : l[((i : Nat) : Int).toNat]? = some l[i] := by
 rw [Int.toNat_natCast]
 exact List.getElem?_eq_getElem hi
abbrev TN : Ty := .pair (.int .i64) (.pair .str (.pair .str (.pair (.slice 52 (.pair .str .str)) (.pair (.int .i64) (.pair (.slice 3 (.int .i64)) (.pair .bool .bool))))))
theorem zee (l : List At) (h : l.length ≤ 4000) : zi (Ev.upto 5000) ((l, ()), ()) = some ((), (l, ())) := by
 cases l with
 | nil => rfl
 | cons a l =>
  unfold zi
  simp only [List.isEmpty_cons, Bool.not_false, cond_true, List.length_nil, Nat.zero_add, wd (show (a :: l).length ≤ 10000 by omega) (show 32 ≤ 1000 by omega), List.nil_append]
theorem zh4 (l : List Int) (h : l.length ≤ 4000) : yg (Ev.upto 5000) ((l, ()), ()) = some ((), (l, ())) := by
 cases l with
 | nil => rfl
 | cons a l =>
  unfold yg
  simp only [List.isEmpty_cons, Bool.not_false, cond_true, List.length_nil, Nat.zero_add, wd (show (a :: l).length ≤ 10000 by omega) (show 8 ≤ 1000 by omega), List.nil_append]
theorem zh5 (l : List Nd) (h : l.length ≤ 4000) : zl (Ev.upto 5000) ((l, ()), ()) = some ((), (l, ())) := by
 cases l with
 | nil => rfl
 | cons a l =>
  unfold zl
  simp only [List.isEmpty_cons, Bool.not_false, cond_true, List.length_nil, Nat.zero_add, wd (show (a :: l).length ≤ 10000 by omega) (show 104 ≤ 1000 by omega), List.nil_append]
theorem zrj (i : Nat) : lnum TN i 0 = 2 * i := by show i * 2 + 0 = 2 * i; omega
theorem zrk (i : Nat) : lnum TN i 3 = 2 * i := by show i * 2 + 0 = 2 * i; omega
theorem zrl (i : Nat) : lnum TN i 5 = 2 * i + 1 := by show i * 2 + 1 = 2 * i + 1; omega
theorem zrm : Ty.nsl TN = 2 := rfl
theorem vr {α : Type} {l : List α} {i : Nat} (h : i < l.length) : l.set i l[i] = l := by
 apply List.ext_getElem?
 intro j
 rw [List.getElem?_set]
 by_cases e : i = j
 ·subst e
  rw [if_pos rfl, if_pos h, List.getElem?_eq_getElem h]
 ·rw [if_neg e]
theorem getN {l : List Nd} {i : Nat} (hi : i < l.length) : l[((i : Nat) : Int).toNat]? = some l[i] := by
 rw [Int.toNat_natCast]
 exact List.getElem?_eq_getElem hi
theorem zh6 (d : List Nd) (h : Sm d) : ko (Ev.upto 5000) ((d, ()), ()) = some ((), (d, ())) := by
 unfold ko
 simp only [zh5 d h.1, Option.bind_some]
 refine zj (l := d) (σ := Unit) (fun i _ => (((d.length : Int), ((i : Int), ())), ((), ((), ((2 * i, d), ()))))) (fun _ _ _ => .inl ()) (fun _ => ((), ((), ((), ((2 * d.length, d), ()))))) (fun _ _ => True) () rfl trivial (by have := h.1; omega) (fun i s hi _ => ⟨?_, fun _ _ => trivial⟩) (fun s _ => ?_) (by rw [x7 _ _ _ _ (fun _ _ => rfl)]; simp only [zrm, beq_self_eq_true, cond_true])
 ·have hm := h.2 _ (List.getElem_mem hi)
  have := h.1
  have e1 : d.set ((i : Nat) : Int).toNat (d[i].1, (d[i].2.1, (d[i].2.2.1, (d[i].2.2.2.1, d[i].2.2.2.2)))) = d := vr hi
  have e2 : d.set ((i : Nat) : Int).toNat (d[i].1, (d[i].2.1, (d[i].2.2.1, (d[i].2.2.2.1, (d[i].2.2.2.2.1, (d[i].2.2.2.2.2.1, d[i].2.2.2.2.2.2)))))) = d := vr hi
  simp only [zp, decide_eq_true hi, cond_true, decide_eq_true (show (0 : Int) ≤ (i : Int) by omega), Bool.and_self, getN hi, Option.bind_some, zrj, zrk, zrl, Nat.le_refl, decide_true, beq_self_eq_true, zee _ hm.1, zh4 _ hm.2, e1, e2, zy (show i < 1000000 by omega)]
  simp only [Int.toNat_natCast, Nat.le_refl, decide_true, beq_self_eq_true, cond_true]
  rfl
 ·simp only [zp, Nat.lt_irrefl, decide_false, cond_false]
def mkN (n : Nd) : Nd := (n.1, (n.2.1, (n.2.2.1, (n.2.2.2.1, ((-1 : Int), (([] : List Int), n.2.2.2.2.2.2))))))
noncomputable def mk (d : List Nd) (n : Nd) : Int × Int × List Nd := if chk d = 0 then (if (!mayB n || n.1 == 1) = true then (0, 1, []) else if 300 ≤ d.length then (0, 2, []) else ((d.length : Int), 0, d ++ [mkN n])) else (0, chk d, [])
theorem zo8 (n k : Nat) : decide ((n : Int) ≥ (k : Int)) = decide (k ≤ n) := by
 by_cases h : k ≤ n
 ·rw [decide_eq_true h, decide_eq_true (by omega)]
 ·rw [decide_eq_false h, decide_eq_false (by omega)]
theorem zv5 (n : Nat) : decide ((n : Int) ≥ 300) = decide (300 ≤ n) := zo8 n 300
theorem zkl (d : List Nd) (n : Nd) (h : Sm d) (h1 : n.2.2.2.1.length ≤ 4000) : bh (Ev.upto 5000) ((d, (n, ())), ()) = some (((mk d n).1, ((mk d n).2.1, ())), ((mk d n).2.2, ())) := by
 unfold bh mk
 simp only [jc d h, zh3 n h1, Option.bind_some]
 by_cases hc : chk d = 0
 ·simp only [hc, bne_self_eq_false, cond_false, if_true]
  cases hm : mayB n with
  | false => rfl
  | true =>
   simp only [Bool.not_true, beq_self_eq_true, cond_true, Option.bind_some, Bool.false_or]
   cases hk : (n.1 == (1 : Int)) with
   | true => rfl
   | false =>
    simp only [cond_false, zv5, Bool.false_eq_true, if_false]
    by_cases hl : 300 ≤ d.length
    ·simp only [decide_eq_true hl, cond_true, if_pos hl]
     rfl
    ·simp only [decide_eq_false hl, cond_false, if_neg hl, Option.bind_some, hc, bne_self_eq_false, zee _ h1, zh6 d h, wd (show d.length + ([mkN n] : List Nd).length ≤ 10000 by simp; omega) (show 104 ≤ 1000 by omega)]
     have e := wd (show d.length + ([mkN n] : List Nd).length ≤ 10000 by simp; omega) (show 104 ≤ 1000 by omega)
     unfold mkN at e ⊢
     simp only [e, cond_true]
     rw [jj (by simp <;> omega) (by simp <;> omega)]
     simp
 ·rw [if_neg hc]
  simp only [bne_iff_ne.2 hc, cond_true, Option.bind_some]
theorem z3k (d : List Nd) (n : Nd) (h : Sm d) (h1 : n.2.2.2.1.length ≤ 4000) (h2 : n.2.2.2.2.2.1.length ≤ 4000) : w8 (Ev.upto 5000) ((d, (n, ())), ()) = some (((mk d n).1, ((mk d n).2.1, ())), ((mk d n).2.2, ())) := by
 unfold w8 mk
 simp only [zo7 d h, z2m n h1, Option.bind_some]
 by_cases hc : chk d = 0
 ·simp only [hc, bne_self_eq_false, cond_false, if_true]
  cases hm : mayB n with
  | false => rfl
  | true =>
   simp only [Bool.not_true, beq_self_eq_true, cond_true, Option.bind_some, Bool.false_or]
   cases hk : (n.1 == (1 : Int)) with
   | true => rfl
   | false =>
    simp only [cond_false, zv5, Bool.false_eq_true, if_false]
    by_cases hl : 300 ≤ d.length
    ·simp only [decide_eq_true hl, cond_true, if_pos hl]
    ·simp only [decide_eq_false hl, cond_false, if_neg hl, Option.bind_some, zyz n h1 h2, own d h]
     have e := wd (show d.length + ([mkN n] : List Nd).length ≤ 10000 by simp; omega) (show 104 ≤ 1000 by omega)
     unfold mkN at e ⊢
     simp only [e, cond_true]
 ·rw [if_neg hc]
  simp only [bne_iff_ne.2 hc, cond_true, Option.bind_some]
theorem z8p {l : List Nd} (h : Sm l) (i : Nat) {n : Nd} (h1 : n.2.2.2.1.length ≤ 4000) (h2 : n.2.2.2.2.2.1.length ≤ 4000) : Sm (l.set i n) := by
 refine ⟨by simpa using h.1, fun m hm => ?_⟩
 rcases List.mem_or_eq_of_mem_set hm with hm | rfl
 ·exact h.2 m hm
 ·exact ⟨h1, h2⟩
theorem znz {α : Type} {l : List α} {i : Nat} (x : α) (h : i < l.length) : (l.set i x)[i]? = some x := by
 rw [List.getElem?_set, if_pos rfl, if_pos h]
theorem vc (a b : Int) : yh (Ev.upto 5000) ((([a, b] : List Int), ()), ()) = some ((if a = 0 then b else a, ()), ()) := by
 unfold yh
 refine zj (l := ([a, b] : List Int)) (σ := Unit) (fun i _ => (((0 : Int), (([a, b] : List Int), (((([a, b] : List Int).length : Nat) : Int), ((i : Int), ())))), ())) (fun _ x _ => if (x != 0) = true then .inr (.inr ((x, ()), ())) else .inl ()) (fun _ => .inl (((0 : Int), ()), ())) (fun _ _ => True) () rfl trivial (by simp) (fun i s hi _ => ⟨?_, fun _ _ => trivial⟩) (fun s _ => ?_) ?_
 ·have hi2 : i < 2 := by simpa using hi
  simp only [zp, decide_eq_true hi, cond_true, zh hi, Option.bind_some, zy (show i < 1000000 by omega)]
  cases h : (([a, b] : List Int)[i] != 0) <;> rfl
 ·simp only [zp, Nat.lt_irrefl, decide_false, cond_false]
 ·unfold zq zq zq
  by_cases ha : a = 0
  ·subst ha
   by_cases hb : b = 0
   ·subst hb; rfl
   ·simp only [bne_self_eq_false, Bool.false_eq_true, if_false, bne_iff_ne.2 hb, if_true]
  ·simp only [bne_iff_ne.2 ha, if_true, if_neg ha]
theorem zv6 : decide ((-1 : Int) ≥ 0) = false := rfl
theorem gf {d : List Nd} {x : Int} (h : ¬ In' d x) : thr d x = false := by
 cases ht : thr d x with
 | false => rfl
 | true => exact absurd (wq.1 ht).2 h
theorem wa {α : Type} {l : List α} {x : Int} (h : ¬ (0 ≤ x ∧ x < l.length)) : idx l x = none := by
 cases hx : idx l x with
 | none => rfl
 | some n => exact absurd ⟨(zc hx).1, (zc hx).2.1⟩ h
theorem zef {d d' : List Nd} (hp : ∀ x, pr d' x = pr d x) : ∀ (j : Nat) (x : Int), up d' j x = up d j x
 | 0, _ => rfl
 | j + 1, x => by
  show up d' j (pr d' x) = up d j (pr d x)
  rw [hp, zef hp j]
theorem yn {α : Type} {l : List α} {x : Int} {a b : α} (h : idx l x = some a) : idx (l.set x.toNat b) x = some b := by
 obtain ⟨h0, h1, h2⟩ := zc h
 unfold idx
 rw [if_pos h0]
 exact znz _ (List.getElem?_eq_some_iff.1 h2).1
theorem yb {α : Type} {l : List α} {x y : Int} {b : α} (h0 : 0 ≤ x) (h : y ≠ x) : idx (l.set x.toNat b) y = idx l y := by
 unfold idx
 by_cases hy : 0 ≤ y
 ·rw [if_pos hy, if_pos hy, List.getElem?_set, if_neg (by omega)]
 ·rw [if_neg hy, if_neg hy]
theorem zrn (l : List Int) (x : Int) (h : l.length ≤ 4000) : wp (zx (Ev.upto 5000) ((l, ()), ((x, ()), ()))) (fun o => (o = (((-1 : Int), ()), ((x, ()), ())) ∧ ∀ k (hk : k < l.length), l[k] ≠ x) ∨ ∃ (i : Nat) (hi : i < l.length), o = (((i : Int), ()), ((x, ()), ())) ∧ l[i] = x ∧ ∀ k (hk : k < i), l[k] ≠ x) := by
 unfold zx qt
 refine zev (fun o => (o = .inl ((), ((x, ()), ())) ∧ ∀ k (hk : k < l.length), l[k] ≠ x) ∨ ∃ (i : Nat) (hi : i < l.length), o = .inr (((i : Int), ()), ((x, ()), ())) ∧ l[i] = x ∧ ∀ k (hk : k < i), l[k] ≠ x) ?_ ?_
 ·refine bo (fun i (_ : Unit) => ((l, ((l.length : Int), ((i : Int), ()))), ((x, ()), ()))) (fun i _ => ∀ k (hk : k < l.length), k < i → l[k] ≠ x) l.length () rfl (fun k hk h => by omega) (by omega) (fun i s hi hI => ?_)
  simp only [zp]
  refine zke (fun hlt => ?_) (fun hge => y5 (.inl ⟨rfl, fun k hk => hI k hk (by omega)⟩))
  simp only [zh hlt, Option.bind_some, zy (show i < 1000000 by omega)]
  refine ztp (fun he => y5 (.inr ⟨i, hlt, rfl, beq_iff_eq.1 he, fun k hk => hI k (by omega) hk⟩)) (fun hne => y5 ⟨hlt, (), rfl, fun k hk hk2 => ?_⟩)
  rcases Nat.lt_succ_iff_lt_or_eq.1 hk2 with h2 | h2
  ·exact hI k hk h2
  ·subst h2; exact beq_eq_false_iff_ne.1 hne
 ·rintro o (⟨rfl, h⟩ | ⟨i, hi, rfl, h1, h2⟩)
  ·exact y5 (.inl ⟨rfl, h⟩)
  ·exact y5 (.inr ⟨i, hi, rfl, h1, h2⟩)
theorem vt {l : List Int} {i : Nat} (v : Int) (h : i < l.length) : (l.set i v).take (i + 1) = l.take i ++ [v] := by
 rw [List.take_succ_eq_append_getElem (by simpa using h), List.getElem_set_self, List.take_set_of_le (Nat.le_refl _)]
theorem zam {l : List Int} {i j : Nat} (v : Int) (h : i < j) : (l.set i v).drop j = l.drop j := by
 rw [List.drop_set_of_lt h]
theorem zkm (l : List Int) (x : Int) (h : l.length ≤ 4000) : zw (Ev.upto 5000) ((), (l, ((x, ()), ()))) = some ((), ((x, ()), (l.filter (· != x), ()))) := by
 apply zv1
 unfold zw
 simp only [Option.bind_some]
 refine zev _ (zrn l x h) ?_
 rintro o (⟨rfl, hno⟩ | ⟨i, hi, rfl, hix, hbef⟩)
 ·refine zv2 rfl (y5 ?_)
  have : l.filter (· != x) = l := List.filter_eq_self.2 fun a ha => by
   obtain ⟨k, hk, rfl⟩ := List.getElem_of_mem ha
   exact bne_iff_ne.2 (hno k hk)
  rw [this]
 ·refine zr7 (show ((i : Int) == (-1 : Int)) = false from beq_eq_false_iff_ne.2 (by omega)) ?_
  have h0 : (l.take (i + 1)).filter (· != x) = l.take i := by
   rw [List.take_succ_eq_append_getElem hi, List.filter_append]
   have e1 : (l.take i).filter (· != x) = l.take i := List.filter_eq_self.2 fun a ha => by
    obtain ⟨k, hk, rfl⟩ := List.getElem_of_mem ha
    rw [List.length_take] at hk
    rw [List.getElem_take]
    exact bne_iff_ne.2 (hbef k (by omega))
   rw [e1, hix]
   simp
  refine zev (fun o => ∃ (i' : Nat) (l' : List Int), o = (((i' : Int), ()), ((x, ()), (l', ()))) ∧ i' ≤ l'.length ∧ l'.length = l.length ∧ l'.take i' = l.filter (· != x)) ?_ ?_
  ·refine bo (fun k (s : Nat × List Int) => (((s.1 : Int), (((i + 1 + k : Nat) : Int), ())), ((x, ()), (s.2, ())))) (fun k s => s.1 ≤ i + 1 + k ∧ i + 1 + k ≤ l.length ∧ s.2.length = l.length ∧ s.2.take s.1 = (l.take (i + 1 + k)).filter (· != x) ∧ s.2.drop (i + 1 + k) = l.drop (i + 1 + k)) (l.length - (i + 1)) (i, l) (by simp only [Nat.add_zero]; rw [zy (show i < 1000000 by omega)]) ⟨by show i ≤ _; omega, by omega, rfl, h0.symm, rfl⟩ (by omega) (fun k s hk hI => ?_)
   obtain ⟨g1, g2, g3, g4, g5⟩ := hI
   simp only [g3, zp]
   refine zke (fun hlt => ?_) (fun hge => ?_)
   ·have hv : s.2[((i + 1 + k : Nat) : Int).toNat]? = some l[i + 1 + k] := by
     rw [Int.toNat_natCast]
     have := congrArg (fun z : List Int => z[0]?) g5
     simp only [List.getElem?_drop, Nat.add_zero] at this
     rw [this]
     exact List.getElem?_eq_getElem hlt
    have htk : l.take (i + 1 + (k + 1)) = l.take (i + 1 + k) ++ [l[i + 1 + k]] := by
     rw [show i + 1 + (k + 1) = (i + 1 + k) + 1 by omega]
     exact List.take_succ_eq_append_getElem hlt
    have hdr : s.2.drop (i + 1 + (k + 1)) = l.drop (i + 1 + (k + 1)) := by
     have := congrArg (fun z : List Int => z.drop 1) g5
     simp only [List.drop_drop] at this
     exact this
    simp only [decide_eq_true hlt, decide_eq_true (show (0 : Int) ≤ ((i + 1 + k : Nat) : Int) by omega), Bool.and_self, cond_true, hv, Option.bind_some, qt]
    by_cases hx : l[i + 1 + k] = x
    ·simp only [hx, beq_self_eq_true, Bool.not_true, cond_false, Option.bind_some, zy (show i + 1 + k < 1000000 by omega)]
     refine y5 ⟨by omega, s, rfl, by omega, by omega, g3, ?_, hdr⟩
     rw [htk, List.filter_append, hx, g4]
     simp
    ·have hs1 : s.1 < s.2.length := by omega
     simp only [beq_eq_false_iff_ne.2 hx, Bool.not_false, cond_true, decide_eq_true (show (0 : Int) ≤ (s.1 : Int) by omega), decide_eq_true (show s.1 < l.length by omega), Bool.and_self, Int.toNat_natCast, List.getElem?_eq_getElem hs1, Option.bind_some, zy (show i + 1 + k < 1000000 by omega), zy (show s.1 < 1000000 by omega)]
     refine y5 ⟨by omega, (s.1 + 1, s.2.set s.1 l[i + 1 + k]), rfl, by show s.1 + 1 ≤ _; omega, by omega, by show (s.2.set _ _).length = _; simpa using g3, ?_, ?_⟩
     ·show (s.2.set s.1 l[i + 1 + k]).take (s.1 + 1) = _
      rw [vt _ hs1, htk, List.filter_append, g4]
      simp [hx]
     ·show (s.2.set s.1 l[i + 1 + k]).drop _ = _
      rw [zam _ (by omega), hdr]
   ·refine y5 ⟨s.1, s.2, rfl, by omega, g3, ?_⟩
    rw [g4, List.take_of_length_le (by omega)]
  ·rintro _ ⟨i', l', rfl, g1, g2, g3⟩
   simp only [decide_eq_true (show (0 : Int) ≤ (i' : Int) by omega), decide_eq_true (show (i' : Int) ≤ (l'.length : Int) by omega), decide_eq_true (Int.le_refl (l'.length : Int)), Bool.and_self, cond_true, Int.toNat_natCast]
   have e : sl (List.take i' l' ++ List.replicate (l'.length - i') (0 : Int) ++ List.drop l'.length l') (0 : Int) (i' : Int) = some (l'.take i') := by
    rw [show (0 : Int) = ((0 : Nat) : Int) from rfl, znt (by omega) (by simp; omega), List.drop_zero, List.append_assoc, List.take_append_of_le_length (by simp; omega), List.take_take, Nat.min_self]
   refine bz (zo3 e (y5 ?_))
   rw [g3]
def cutK (x : Int) (p : Nd) : Nd := (p.1, (p.2.1, (p.2.2.1, (p.2.2.2.1, (p.2.2.2.2.1, ((za p).filter (· != x), p.2.2.2.2.2.2))))))
def reP (q : Int) (n : Nd) : Nd := (n.1, (n.2.1, (n.2.2.1, (n.2.2.2.1, (q, n.2.2.2.2.2)))))
def addK (x : Int) (p : Nd) : Nd := (p.1, (p.2.1, (p.2.2.1, (p.2.2.2.1, (p.2.2.2.2.1, (za p ++ [x], p.2.2.2.2.2.2))))))
def unK (d : List Nd) (x : Int) : List Nd := match idx d (pr d x) with
 | some p => d.set (pr d x).toNat (cutK x p)
 | none => d
def outD (d : List Nd) (x : Int) : List Nd := match idx d x with
 | some n => (unK d x).set x.toNat (reP (-1) n)
 | none => d
theorem getX {α : Type} {l : List α} {x : Int} {a : α} (h : idx l x = some a) : (decide (0 ≤ x) && decide (x < (l.length : Int))) = true ∧ l[x.toNat]? = some a ∧ x.toNat < l.length := by
 obtain ⟨h0, h1, h2⟩ := zc h
 exact ⟨by rw [decide_eq_true h0, decide_eq_true h1]; rfl, h2, (List.getElem?_eq_some_iff.1 h2).1⟩
theorem zb.pr_ne {d : List Nd} (R : zb d) {x : Int} (hx : In' d x) : pr d x ≠ x := fun h => R.acyc hx 0 h
theorem zkn (d : List Nd) (x : Int) : (unK d x).length = d.length := by
 unfold unK
 cases idx d (pr d x) <;> simp
theorem qj (d : List Nd) (x : Int) : (outD d x).length = d.length := by
 unfold outD
 cases idx d x with
 | none => rfl
 | some n => simp [zkn]
theorem zda {d : List Nd} (R : zb d) {x : Int} (hx : In' d x) {n : Nd} (hn : idx d x = some n) : idx (unK d x) x = some n := by
 unfold unK
 cases hp : idx d (pr d x) with
 | none => exact hn
 | some p => simp only; rw [yb (zc hp).1 (R.pr_ne hx).symm]; exact hn
theorem zn0 {β : Type} (x : Int) (fin : List Int → β) : ∀ (l : List Int) (i : Nat) (s : List Int), zq (fun (_ : Nat) (k : Int) (s : List Int) => (.inl (if (k != x) = true then s ++ [k] else s) : List Int ⊕ β)) fin i l s = fin (s ++ l.filter (· != x))
 | [], i, s => by simp [zq]
 | a :: l, i, s => by
  unfold zq
  simp only
  rw [zn0 x fin l (i + 1)]
  cases h : (a != x) with
  | true => simp [h]
  | false => simp [h]
theorem zro (d : List Nd) (x : Int) (h : Sm d) (R : zb d) (hx : In' d x) : ww (Ev.upto 5000) ((x, ()), (d, ())) = some ((), (outD d x, ())) := by
 unfold ww outD
 obtain ⟨n, hn, hp⟩ := ze7 hx
 obtain ⟨g1, g2, g3⟩ := getX hn
 simp only [g1, cond_true, g2, Option.bind_some, hp, hn]
 have hu := zda R hx hn
 obtain ⟨k1, k2, k3⟩ := getX hu
 by_cases hq : pr d x = -1
 ·have e : unK d x = d := by unfold unK; rw [hq]; rfl
  rw [e] at k1 k2 k3 ⊢
  simp only [hq, zv6, cond_false, Option.bind_some, k1, cond_true, k2]
  rfl
 ·obtain ⟨hin, _⟩ := R.par hx hq
  obtain ⟨p, hpi, _⟩ := yy hin.1 hin.2
  obtain ⟨m1, m2, m3⟩ := getX hpi
  have e : unK d x = d.set (pr d x).toNat (cutK x p) := by unfold unK; rw [hpi]
  rw [e] at k1 k2 k3 ⊢
  have hm := (h.2 p (List.mem_of_getElem? m2)).2
  unfold cutK at k2
  simp only [decide_eq_true (show pr d x ≥ 0 from hin.1), decide_eq_true hin.2, Bool.and_self, cond_true, m2, Option.bind_some]
  rw [zkm _ x hm]
  simp only [Option.bind_some, beq_self_eq_true, cond_true, List.length_set, decide_eq_true hx.1, decide_eq_true hx.2, Bool.and_self]
  have k2' := k2
  simp only [k2, Option.bind_some]
  rfl
theorem z6k (d : List Nd) (x : Int) (h : Sm d) (R : zb d) (hx : In' d x) : bf (Ev.upto 5000) ((d, (x, ())), ()) = some ((), (outD d x, ())) := by
 unfold bf outD
 obtain ⟨n, hn, hp⟩ := ze7 hx
 obtain ⟨g1, g2, g3⟩ := getX hn
 simp only [own d h, Option.bind_some, g1, cond_true, g2, hp, hn]
 have hu := zda R hx hn
 obtain ⟨k1, k2, k3⟩ := getX hu
 by_cases hq : pr d x = -1
 ·have e : unK d x = d := by unfold unK; rw [hq]; rfl
  rw [e] at k1 k2 k3 ⊢
  simp only [hq, zv6, cond_false, Option.bind_some, k1, cond_true, k2]
  rfl
 ·obtain ⟨hin, _⟩ := R.par hx hq
  obtain ⟨p, hpi, _⟩ := yy hin.1 hin.2
  obtain ⟨m1, m2, m3⟩ := getX hpi
  have e : unK d x = d.set (pr d x).toNat (cutK x p) := by unfold unK; rw [hpi]
  rw [e] at k1 k2 k3 ⊢
  have hm : (za p).length ≤ 4000 := (h.2 p (List.mem_of_getElem? m2)).2
  simp only [decide_eq_true (show pr d x ≥ 0 from hin.1), cond_true]
  rw [Option.bind_assoc]
  refine zj (l := za p) (σ := List Int) (fun i s => ((x, (pr d x, ((i : Int), ()))), ((), ((), (s, (d, ())))))) (fun _ k s => .inl (if (k != x) = true then s ++ [k] else s)) (fun s => ((x, (pr d x, ())), ((), ((), (s, (d, ())))))) (fun i s => s.length ≤ i) [] rfl (by simp) (by omega) (fun i s hi hs => ⟨?_, fun s' e => ?_⟩) (fun s _ => ?_) ?_
  ·have hgi : (za p)[((i : Nat) : Int).toNat]? = some (za p)[i] := getB hi
   simp only [decide_eq_true hin.1, decide_eq_true hin.2, Bool.and_self, m2, cond_true, Option.bind_some, Option.elim_some, zp, decide_eq_true hi, decide_eq_true (show (0 : Int) ≤ (i : Int) by omega), Bool.and_self, hgi, zy (show i < 1000000 by omega)]
   by_cases hk : (za p)[i] = x
   ·simp only [hk, bne_self_eq_false, cond_false, Option.bind_some, Bool.false_eq_true, if_false, zy (show i < 1000000 by omega)]
   ·simp only [bne_iff_ne.2 hk, cond_true, wd (show s.length + ([(za p)[i]] : List Int).length ≤ 10000 by simp; omega) (show 8 ≤ 1000 by omega), Option.bind_some, if_true, zy (show i < 1000000 by omega)]
  ·simp only [Sum.inl.injEq] at e
   rw [← e]
   split
   ·simp; omega
   ·omega
  ·simp only [decide_eq_true hin.1, decide_eq_true hin.2, Bool.and_self, m2, cond_true, Option.bind_some, Option.elim_some, zp, Nat.lt_irrefl, decide_false, cond_false]
  ·rw [zn0]
   unfold cutK at k2
   simp only [List.nil_append, decide_eq_true hin.1, decide_eq_true hin.2, Bool.and_self, m2, cond_true, Option.bind_some, List.length_set, decide_eq_true hx.1, decide_eq_true hx.2, k2]
   rfl
theorem ve {β : Type} (q : Int) (D : Int → List Int) (fin : Int → β) : ∀ (l : List Int) (i : Nat) (s : Int), zq (fun (_ : Nat) (k : Int) (s : Int) => (.inl (if q ∈ D k then 172 else s) : Int ⊕ β)) fin i l s = fin (if q ∈ l.flatMap D then 172 else s)
 | [], i, s => by simp [zq]
 | a :: l, i, s => by
  unfold zq
  simp only
  rw [ve q D fin l (i + 1), List.flatMap_cons]
  congr 1
  by_cases h1 : q ∈ D a
  ·rw [if_pos h1, if_pos (List.mem_append_left _ h1)]
   split <;> rfl
  ·rw [if_neg h1]
   by_cases h2 : q ∈ l.flatMap D
   ·rw [if_pos h2, if_pos (List.mem_append_right _ h2)]
   ·rw [if_neg h2, if_neg (fun h => (List.mem_append.1 h).elim h1 h2)]
theorem putR (k q e : Int) : jv (Ev.upto 5000) ((k, ()), ((q, ()), ((e, ()), ()))) = some ((true, ()), ((q, ()), ((if k = q then 172 else e, ()), ()))) := by
 unfold jv
 by_cases h : k = q
 ·subst h; simp
 ·simp [beq_eq_false_iff_ne.2 h, h]
theorem zy3 (d : List Nd) (R : zb d) (hd : Sm d) (q : Int) : ∀ (f m : Nat) (x : Int) (e : Int), f ≤ m → okD d f x → In' d x → xo (Ev.upto 5000) (jv (Ev.upto 5000)) m ((d, (x, ())), ((q, ()), ((e, ()), ()))) = some ((true, ()), ((q, ()), ((if q ∈ dn d f x then 172 else e, ()), ()))) := by
 intro f
 induction f with
 | zero => intro m x e _ h; exact h.elim
 | succ f ih =>
  intro m x e hm ho hx
  obtain ⟨m, rfl⟩ : ∃ k, m = k + 1 := ⟨m - 1, by omega⟩
  obtain ⟨n, hn, hg⟩ := yy hx.1 hx.2
  have hks : ks d x = za n := by unfold ks; rw [hn]
  have hm2 : (za n).length ≤ 4000 := (hd.2 n (List.mem_of_getElem? hg)).2
  unfold dn
  rw [hks]
  have ho' : ∀ k, k ∈ za n → okD d f k := fun k hk => ho k (hks ▸ hk)
  have hin' : ∀ k, k ∈ za n → In' d k := fun k hk => (R.kid (x := x) (hks.symm ▸ hk)).2.1
  unfold xo bw
  simp only [putR x q e, Option.bind_some, Bool.not_true, cond_false, hn]
  refine zj (l := za n) (σ := Int) (fun i s => ((za n, ((za n).length, ((i : Int), ()))), ((q, ()), ((s, ()), ((d, ()), ()))))) (fun _ k s => .inl (if q ∈ dn d f k then 172 else s)) (fun s => .inl ((), ((q, ()), ((s, ()), ())))) (fun i s => True) (if x = q then 172 else e) rfl trivial (by omega) (fun i s hi hs => ⟨?_, fun s' e => trivial⟩) (fun s _ => ?_) ?_
  ·have hk : (za n)[i] ∈ za n := List.getElem_mem hi
   simp only [zp, decide_eq_true hi, cond_true, zh hi, Option.bind_some, zy (show i < 1000000 by omega)]
   rw [ih m _ s (by omega) (ho' _ hk) (hin' _ hk)]
   rfl
  ·simp only [zp, Nat.lt_irrefl, decide_false, cond_false]
  ·rw [ve]
   simp only [List.mem_cons]
   by_cases h1 : q ∈ (za n).flatMap (dn d f)
   ·rw [if_pos h1, if_pos (Or.inr h1)]
   ·rw [if_neg h1]
    by_cases h2 : x = q
    ·rw [if_pos h2, if_pos (Or.inl h2.symm)]
    ·rw [if_neg h2, if_neg (fun h => h.elim (fun h => h2 h.symm) h1)]
theorem zy4 {d : List Nd} {x : Int} (h : x < 0) : pr d x = -1 := zed (by omega)
theorem zh7 (d : List Nd) (P : Int → Bool) : ∀ (m : Nat) (x : Int), ∃ j, stp d P m x = up d j x
 | 0, x => ⟨0, rfl⟩
 | m + 1, x => by
  unfold stp
  cases P x with
  | true => exact ⟨0, rfl⟩
  | false =>
   obtain ⟨j, hj⟩ := zh7 d P m (pr d x)
   exact ⟨j + 1, hj⟩
theorem zeg (d : List Nd) (top : Int) (h0 : 0 ≤ top) : ∀ (m j : Nat) (x : Int), j ≤ m → up d j x = top → stp d (topP top) m x = top
 | 0, j, x, hj, h => by
  obtain rfl : j = 0 := by omega
  exact h
 | m + 1, j, x, hj, h => by
  unfold stp
  cases hp : topP top x with
  | true =>
   simp only [if_true]
   simp only [topP, Bool.or_eq_true, decide_eq_true_eq, beq_iff_eq] at hp
   rcases hp with hp | hp
   ·exfalso
    cases j with
    | zero => simp only [up] at h; omega
    | succ j =>
     have : up d (j + 1) x = up d j (pr d x) := rfl
     rw [this, zy4 hp, w9] at h
     omega
   ·exact hp
  | false =>
   simp only [Bool.false_eq_true, if_false]
   simp only [topP, Bool.or_eq_false_iff, beq_eq_false_iff_ne] at hp
   cases j with
   | zero => exact absurd h hp.2
   | succ j => exact zeg d top h0 m j (pr d x) (by omega) h
theorem vu {d : List Nd} (R : zb d) {q x : Int} (hq : In' d q) (hx : In' d x) : undB d q x = true ↔ q ∈ below d x := by
 rw [R.mem_below hx]
 unfold undB
 rw [beq_iff_eq]
 constructor
 ·intro h
  obtain ⟨j, hj⟩ := zh7 d (topP x) 400 q
  exact ⟨hq, j, by rw [← hj]; exact h⟩
 ·rintro ⟨_, j, hj⟩
  refine zeg d x hx.1 400 j q ?_ hj
  refine Nat.le_of_not_lt fun hlt => ?_
  have : j = 400 + (j - 400) := by omega
  rw [this, jk, R.up400 hq, w9] at hj
  have := hx.1
  omega
def putD (d : List Nd) (q x : Int) : List Nd := match idx (outD d x) x with
 | some n => (match idx ((outD d x).set x.toNat (reP q n)) q with
  | some p => ((outD d x).set x.toNat (reP q n)).set q.toNat (addK x p)
  | none => d)
 | none => d
noncomputable def puts (d : List Nd) (q x : Int) : Int × List Nd := if chk d = 0 then (match (if (0 ≤ q ∧ q < d.length) ∧ 1 ≤ x ∧ x < d.length then idx d q else none) with
 | some p => if zo p = true then (if undB d q x = true then (172, []) else (0, putD d q x)) else (170, [])
 | none => (170, [])) else (chk d, [])
def Sk (c : Nat) (d : List Nd) : Prop := d.length ≤ 4000 ∧ ∀ n, n ∈ d → n.2.2.2.1.length ≤ 4000 ∧ (za n).length ≤ c
theorem Sk.sm {c : Nat} {d : List Nd} (h : Sk c d) (hc : c ≤ 4000) : Sm d := ⟨h.1, fun n hn => ⟨(h.2 n hn).1, Nat.le_trans (h.2 n hn).2 hc⟩⟩
theorem uz.sk {d : List Nd} (h : uz d) : Sk 400 d := ⟨by have := h.1; omega, fun n hn => by have := h.2 n hn; unfold NdOk at this; exact ⟨by omega, by show n.2.2.2.2.2.1.length ≤ 400; omega⟩⟩
theorem Sk.mono {c e : Nat} {d : List Nd} (h : Sk c d) (hc : c ≤ e) : Sk e d := ⟨h.1, fun n hn => ⟨(h.2 n hn).1, Nat.le_trans (h.2 n hn).2 hc⟩⟩
theorem Sk.set {c : Nat} {l : List Nd} (h : Sk c l) (i : Nat) {n : Nd} (h1 : n.2.2.2.1.length ≤ 4000) (h2 : (za n).length ≤ c) : Sk c (l.set i n) := by
 refine ⟨by simpa using h.1, fun m hm => ?_⟩
 rcases List.mem_or_eq_of_mem_set hm with hm | rfl
 ·exact h.2 m hm
 ·exact ⟨h1, h2⟩
theorem Sk.at {c : Nat} {l : List Nd} (h : Sk c l) {x : Int} {n : Nd} (hn : idx l x = some n) : n.2.2.2.1.length ≤ 4000 ∧ (za n).length ≤ c := h.2 n (List.mem_of_getElem? (zc hn).2.2)
theorem Sk.unK {c : Nat} {d : List Nd} (h : Sk c d) (x : Int) : Sk c (unK d x) := by
 unfold Go.En.Pl.unK
 cases hp : idx d (pr d x) with
 | none => exact h
 | some p =>
  have := h.at hp
  exact h.set _ this.1 (Nat.le_trans (List.length_filter_le _ _) this.2)
theorem Sk.out {c : Nat} {d : List Nd} (h : Sk c d) (x : Int) : Sk c (outD d x) := by
 unfold outD
 cases hn : idx d x with
 | none => exact h
 | some n =>
  have := h.at hn
  exact (h.unK x).set _ this.1 this.2
theorem Sk.put {c : Nat} {d : List Nd} (h : Sk c d) (q x : Int) : Sk (c + 1) (putD d q x) := by
 unfold putD
 have ho := h.out x
 cases hn : idx (outD d x) x with
 | none => exact h.mono (by omega)
 | some n =>
  simp only
  have hn' := ho.at hn
  have h1 : Sk c ((outD d x).set x.toNat (reP q n)) := ho.set _ hn'.1 hn'.2
  cases hp : idx ((outD d x).set x.toNat (reP q n)) q with
  | none => exact h.mono (by omega)
  | some p =>
   have hp' := h1.at hp
   exact (h1.mono (show c ≤ c + 1 by omega)).set _ hp'.1 (by show (za p ++ [x]).length ≤ c + 1; simp; omega)
theorem zrp (d : List Nd) (q x : Int) (h : Sm d) : zb4 (Ev.upto 5000) ((d, (q, (x, ()))), ()) = some (((puts d q x).1, ()), ((puts d q x).2, ())) := by
 unfold zb4 puts
 simp only [jc d h, zny d q h, zny d x h, Option.bind_some]
 by_cases hc : chk d = 0
 ·have R := chk0.1 hc
  rw [if_pos hc]
  simp only [hc, bne_self_eq_false, beq_self_eq_true, cond_true]
  by_cases hq : In' d q
  ·simp only [wq.2 ⟨R, hq⟩, beq_self_eq_true, cond_true]
   by_cases hx : In' d x
   ·simp only [wq.2 ⟨R, hx⟩, beq_self_eq_true, cond_true]
    by_cases h1 : 1 ≤ x
    ·obtain ⟨p, hp, hg⟩ := yy hq.1 hq.2
     simp only [decide_eq_true (show x > 0 by omega), beq_self_eq_true, cond_true, hp, Option.bind_some, zbm p, xi]
     rw [if_pos (show (0 ≤ q ∧ q < (d.length : Int)) ∧ 1 ≤ x ∧ x < (d.length : Int) from ⟨hq, h1, hx.2⟩)]
     cases hh : zo p with
     | false =>
      simp only [hh, cond_false, Option.bind_some, Bool.false_eq_true, if_false]
      rw [vc 0 170]
      rfl
     | true =>
      simp only [hh, cond_true, Option.bind_some, if_true]
      rw [vc 0 0]
      simp only [if_true, Option.bind_some, bne_self_eq_false, cond_false, wj, vi, zbf]
      have e : (Ev.upto 5000).rc (xo (Ev.upto 5000) (jv (Ev.upto 5000))) ((d, (x, ())), ((q, ()), (((0 : Int), ()), ()))) = some ((true, ()), ((q, ()), ((if q ∈ below d x then 172 else 0, ()), ()))) := zy3 d R h q 400 5000 x 0 (by omega) (R.okD4 hx) hx
      rw [e]
      simp only [Option.bind_some]
      by_cases hu : q ∈ below d x
      ·rw [if_pos ((vu R hq hx).2 hu)]
       simp only [if_pos hu]
       rfl
      ·rw [if_neg (fun hh => hu ((vu R hq hx).1 hh))]
       simp only [if_neg hu, bne_self_eq_false, cond_false, zh6 d h, zro d x h R hx, Option.bind_some]
       have hlen := qj d x
       have ho : In' (outD d x) x := ⟨hx.1, by rw [hlen]; exact hx.2⟩
       obtain ⟨n', hn', hgn⟩ := yy ho.1 ho.2
       have ho2 : In' ((outD d x).set x.toNat (reP q n')) q := ⟨hq.1, by rw [List.length_set, hlen]; exact hq.2⟩
       obtain ⟨p', hp', hgp⟩ := yy ho2.1 ho2.2
       have hsk : Sk 4000 ((outD d x).set x.toNat (reP q n')) := by
        have h0 : Sk 4000 d := ⟨h.1, h.2⟩
        have h1 := (h0.out x).at hn'
        exact (h0.out x).set _ h1.1 h1.2
       have hk := (hsk.at hp').2
       have hf := wd (show (za p').length + ([x] : List Int).length ≤ 10000 by simp; omega) (show 8 ≤ 1000 by omega)
       unfold putD
       rw [hn']
       simp only
       rw [hp']
       unfold reP at hgp ⊢
       simp only [decide_eq_true ho.1, decide_eq_true ho.2, Bool.and_self, cond_true, hgn, Option.bind_some, List.length_set, decide_eq_true hq.1, hlen, decide_eq_true hq.2, hgp, hf, beq_self_eq_true, decide_eq_true hx.1, decide_eq_true hx.2]
       rfl
    ·simp only [decide_eq_false (show ¬ x > 0 by omega), Bool.false_beq, Bool.not_true, cond_false, xi, Option.bind_some]
     rw [vc 0 170, if_neg (show ¬ ((0 ≤ q ∧ q < (d.length : Int)) ∧ 1 ≤ x ∧ x < (d.length : Int)) from fun hh => h1 hh.2.1)]
     rfl
   ·simp only [gf hx, Bool.false_beq, Bool.not_true, cond_false, xi, Option.bind_some]
    rw [vc 0 170, if_neg (show ¬ ((0 ≤ q ∧ q < (d.length : Int)) ∧ 1 ≤ x ∧ x < (d.length : Int)) from fun hh => hx ⟨by omega, hh.2.2⟩)]
    rfl
  ·simp only [gf hq, Bool.false_beq, Bool.not_true, cond_false, xi, Option.bind_some]
   rw [vc 0 170, if_neg (show ¬ ((0 ≤ q ∧ q < (d.length : Int)) ∧ 1 ≤ x ∧ x < (d.length : Int)) from fun hh => hq hh.1)]
   rfl
 ·rw [if_neg hc]
  simp only [bne_iff_ne.2 hc, Bool.true_beq, cond_false, xi, cond_true, Option.bind_some]
  rw [vc (chk d) 0]
  simp only [if_neg hc, bne_iff_ne.2 hc, Option.bind_some, cond_true]
theorem z6l (d : List Nd) (q x : Int) (h : Sm d) : ua (Ev.upto 5000) ((d, (q, (x, ()))), ()) = some (((puts d q x).1, ()), ((puts d q x).2, ())) := by
 unfold ua puts
 simp only [zo7 d h, Option.bind_some]
 by_cases hc : chk d = 0
 ·have R := chk0.1 hc
  rw [if_pos hc]
  simp only [hc, bne_self_eq_false, cond_false]
  by_cases hall : (0 ≤ q ∧ q < (d.length : Int)) ∧ 1 ≤ x ∧ x < (d.length : Int)
  ·obtain ⟨hq, h1, h2⟩ := hall
   have hx : In' d x := ⟨by omega, h2⟩
   obtain ⟨p, hp, hg⟩ := yy hq.1 hq.2
   rw [if_pos (show (0 ≤ q ∧ q < (d.length : Int)) ∧ 1 ≤ x ∧ x < (d.length : Int) from ⟨hq, h1, hx.2⟩)]
   simp only [decide_eq_false (show ¬ q < 0 by omega), decide_eq_false (show ¬ q ≥ (d.length : Int) by omega), decide_eq_false (show ¬ x < 1 by omega), decide_eq_false (show ¬ x ≥ (d.length : Int) by omega), beq_self_eq_true, cond_true, hp, Option.bind_some, zo5 p]
   cases hh : zo p with
   | false => simp only [hh, Bool.not_false, cond_true, Bool.false_eq_true, if_false]
   | true =>
    simp only [hh, Bool.not_true, cond_false, under d R q x hq, Option.bind_some, if_true]
    cases hu : undB d q x with
    | true => rfl
    | false =>
     simp only [cond_false, z6k d x h R hx, Option.bind_some, Bool.false_eq_true, if_false]
     have hlen := qj d x
     have ho : In' (outD d x) x := ⟨hx.1, by rw [hlen]; exact hx.2⟩
     obtain ⟨n', hn', hgn⟩ := yy ho.1 ho.2
     have ho2 : In' ((outD d x).set x.toNat (reP q n')) q := ⟨hq.1, by rw [List.length_set, hlen]; exact hq.2⟩
     obtain ⟨p', hp', hgp⟩ := yy ho2.1 ho2.2
     have hsk : Sk 4000 ((outD d x).set x.toNat (reP q n')) := by
      have h0 : Sk 4000 d := ⟨h.1, h.2⟩
      have h1 := (h0.out x).at hn'
      exact (h0.out x).set _ h1.1 h1.2
     have hk := (hsk.at hp').2
     have hf := wd (show (za p').length + ([x] : List Int).length ≤ 10000 by simp; omega) (show 8 ≤ 1000 by omega)
     unfold putD
     rw [hn']
     simp only
     rw [hp']
     unfold reP at hgp ⊢
     simp only [decide_eq_true ho.1, decide_eq_true ho.2, Bool.and_self, cond_true, hgn, Option.bind_some, List.length_set, decide_eq_true hq.1, hlen, decide_eq_true hq.2, hgp, hf, beq_self_eq_true, decide_eq_true hx.1, decide_eq_true hx.2]
     rfl
  ·rw [if_neg hall]
   by_cases a1 : q < 0
   ·simp only [decide_eq_true a1, Bool.true_beq, cond_false, Option.bind_some, cond_true]
   ·by_cases a2 : q ≥ (d.length : Int)
    ·simp only [decide_eq_false a1, decide_eq_true a2, beq_self_eq_true, Bool.true_beq, cond_false, Option.bind_some, cond_true]
    ·by_cases a3 : x < 1
     ·simp only [decide_eq_false a1, decide_eq_false a2, decide_eq_true a3, beq_self_eq_true, Bool.true_beq, cond_false, Option.bind_some, cond_true]
     ·have a4 : x ≥ (d.length : Int) := by omega
      simp only [decide_eq_false a1, decide_eq_false a2, decide_eq_false a3, decide_eq_true a4, beq_self_eq_true, Bool.true_beq, cond_false, Option.bind_some, cond_true]
 ·rw [if_neg hc]
  simp only [bne_iff_ne.2 hc, cond_true]
def Like (n n' : Nd) : Prop := n'.1 = n.1 ∧ n'.2.1 = n.2.1 ∧ n'.2.2.1 = n.2.2.1 ∧ n'.2.2.2.1 = n.2.2.2.1 ∧ n'.2.2.2.2.2.2 = n.2.2.2.2.2.2
theorem Like.may {n n' : Nd} (h : Like n n') : mayB n' = mayB n := by
 unfold mayB
 rw [h.1, h.2.1, h.2.2.1, h.2.2.2.1, h.2.2.2.2]
theorem Like.holds {n n' : Nd} (h : Like n n') : zo n' = zo n := by
 unfold zo
 rw [h.1]
theorem Like.refl (n : Nd) : Like n n := ⟨rfl, rfl, rfl, rfl, rfl⟩
theorem Like.trans {a b c : Nd} (h : Like a b) (g : Like b c) : Like a c := ⟨g.1.trans h.1, g.2.1.trans h.2.1, g.2.2.1.trans h.2.2.1, g.2.2.2.1.trans h.2.2.2.1, g.2.2.2.2.trans h.2.2.2.2⟩
structure Mv (d d' : List Nd) (P : Int → Int) (K : Int → List Int) : Prop where
 len : d'.length = d.length
 at' : ∀ (i : Nat) (n : Nd), d[i]? = some n → ∃ n', d'[i]? = some n' ∧ Like n n' ∧ zk n' = P i ∧ za n' = K i
theorem Mv.get {d d' : List Nd} {P : Int → Int} {K : Int → List Int} (M : Mv d d' P K) {i : Nat} {n' : Nd} (h : d'[i]? = some n') : ∃ n, d[i]? = some n ∧ Like n n' ∧ zk n' = P i ∧ za n' = K i := by
 have hlt := (List.getElem?_eq_some_iff.1 h).1
 have hi : d[i]? = some (d[i]'(by rw [← M.len]; exact hlt)) := List.getElem?_eq_getElem _
 obtain ⟨m, h1, h2⟩ := M.at' i _ hi
 rw [h] at h1
 cases h1
 exact ⟨_, hi, h2⟩
theorem Mv.pr {d d' : List Nd} {P : Int → Int} {K : Int → List Int} (M : Mv d d' P K) {x : Int} (hx : In' d x) : pr d' x = P x := by
 obtain ⟨i, n, rfl, hi⟩ := hx.nat
 obtain ⟨n', h1, _, h2, _⟩ := M.at' i n hi
 rw [zt h1, h2]
theorem Mv.ks {d d' : List Nd} {P : Int → Int} {K : Int → List Int} (M : Mv d d' P K) {x : Int} (hx : In' d x) : ks d' x = K x := by
 obtain ⟨i, n, rfl, hi⟩ := hx.nat
 obtain ⟨n', h1, _, _, h2⟩ := M.at' i n hi
 rw [xc h1, h2]
theorem Mv.in {d d' : List Nd} {P : Int → Int} {K : Int → List Int} (M : Mv d d' P K) {x : Int} : In' d' x ↔ In' d x := by
 unfold In'
 rw [M.len]
theorem ym {α : Type} {l : List α} {i : Nat} {a : α} (h : l[i]? = some a) : idx l (i : Int) = some a := by
 unfold idx
 rw [if_pos (by omega), Int.toNat_natCast, h]
theorem ky {α : Type} {l : List α} {i : Nat} {a : α} (h : idx l (i : Int) = some a) : l[i]? = some a := by
 have := (zc h).2.2
 rwa [Int.toNat_natCast] at this
theorem gg {l : List Int} {x : Int} (h : x ∉ l) : l.filter (· != x) = l := List.filter_eq_self.2 fun a ha => bne_iff_ne.2 fun e => h (e ▸ ha)
theorem zb.no_kid {d : List Nd} (R : zb d) {x y : Int} (h : pr d x ≠ y) : x ∉ ks d y := fun hk => h (R.kid hk).2.2.2
theorem zb.mvOut {d : List Nd} (R : zb d) {x : Int} (hx : In' d x) : Mv d (outD d x) (fun y => if y = x then -1 else pr d y) (fun y => (ks d y).filter (· != x)) := by
 refine ⟨qj d x, fun i n hi => ?_⟩
 obtain ⟨m, hm, hpm⟩ := ze7 hx
 have hout : outD d x = (unK d x).set x.toNat (reP (-1) m) := by unfold outD; rw [hm]
 have hui := zda R hx hm

 have hun : ∃ n1, idx (unK d x) (i : Int) = some n1 ∧ Like n n1 ∧ zk n1 = zk n ∧ za n1 = (za n).filter (· != x) := by
  unfold unK
  cases hp : idx d (pr d x) with
  | none =>
   refine ⟨n, ym hi, Like.refl n, rfl, ?_⟩
   have : x ∉ ks d (i : Int) := R.no_kid fun e => by rw [e, ym hi] at hp; cases hp
   rw [xc hi] at this
   exact (gg this).symm
  | some p =>
   by_cases e : (i : Int) = pr d x
   ·rw [← e] at hp ⊢
    rw [ym hi] at hp
    cases hp
    exact ⟨_, yn (ym hi), ⟨rfl, rfl, rfl, rfl, rfl⟩, rfl, rfl⟩
   ·refine ⟨n, by simp only; rw [yb (zc hp).1 e]; exact ym hi, Like.refl n, rfl, ?_⟩
    have : x ∉ ks d (i : Int) := R.no_kid fun e' => e e'.symm
    rw [xc hi] at this
    exact (gg this).symm
 obtain ⟨n1, h1, hl, hp1, hk1⟩ := hun
 by_cases e : (i : Int) = x
 ·subst e
  have : n1 = m := by rw [hui] at h1; exact (Option.some.inj h1).symm
  subst this
  refine ⟨reP (-1) n1, ?_, hl.trans ⟨rfl, rfl, rfl, rfl, rfl⟩, ?_, ?_⟩
  ·rw [hout]; exact ky (yn hui)
  ·show (-1 : Int) = _
   rw [if_pos rfl]
  ·show za n1 = _
   rw [hk1, xc hi]
 ·refine ⟨n1, ?_, hl, ?_, ?_⟩
  ·rw [hout]; exact ky (by rw [yb hx.1 e]; exact h1)
  ·rw [hp1]
   show _ = if (i : Int) = x then -1 else pr d (i : Int)
   rw [if_neg e, zt hi]
  ·rw [hk1, xc hi]
theorem Mv.map {d d' : List Nd} {P : Int → Int} {K : Int → List Int} (M : Mv d d' P K) : d'.map za = (List.range d.length).map fun i : Nat => K i := by
 apply List.ext_getElem?
 intro i
 rw [List.getElem?_map, List.getElem?_map]
 by_cases h : i < d.length
 ·obtain ⟨n', h1, _, _, h2⟩ := M.at' i _ (List.getElem?_eq_getElem h)
  rw [h1, List.getElem?_range h]
  exact congrArg some h2
 ·rw [List.getElem?_eq_none (by rw [M.len]; omega), List.getElem?_eq_none (by simp; omega)]
  rfl
theorem zrq (d : List Nd) : d.map za = (List.range d.length).map fun i : Nat => Go.En.Pl.ks d i := by
 apply List.ext_getElem?
 intro i
 rw [List.getElem?_map, List.getElem?_map]
 by_cases h : i < d.length
 ·rw [List.getElem?_eq_getElem h, List.getElem?_range h]
  exact congrArg some (xc (List.getElem?_eq_getElem h)).symm
 ·rw [List.getElem?_eq_none (by omega), List.getElem?_eq_none (by simp; omega)]
  rfl
theorem vv (d : List Nd) : zf d = (d.map za).flatten := List.flatMap_def
theorem ji (p : Int → Bool) : ∀ L : List (List Int), (L.map (List.filter p)).flatten = L.flatten.filter p
 | [] => rfl
 | a :: L => by rw [List.map_cons, List.flatten_cons, List.flatten_cons, List.filter_append, ji p L]
theorem zb.kidsOut {d : List Nd} (R : zb d) {x : Int} (hx : In' d x) : zf (outD d x) = (zf d).filter (· != x) := by
 rw [vv, vv, (R.mvOut hx).map, ← ji, zrq, List.map_map]
 rfl
theorem zeh {d d' : List Nd} {x : Int} (hp : ∀ y, y ≠ x → In' d y → pr d' y = pr d y) (hx : pr d' x = -1) (R : zb d) : ∀ (j : Nat) (y : Int), (y = -1 ∨ In' d y) → up d j y = -1 → ∃ j', j' ≤ j ∧ up d' j' y = -1
 | 0, y, _, h => ⟨0, Nat.le_refl _, h⟩
 | j + 1, y, hy, h => by
  rcases hy with rfl | hy
  ·exact ⟨0, by omega, rfl⟩
  by_cases e : y = x
  ·subst e
   exact ⟨1, by omega, hx⟩
  ·obtain ⟨j', h1, h2⟩ := zeh hp hx R j (pr d y) (R.cl y hy.1 hy.2) h
   exact ⟨j' + 1, by omega, by show up d' j' (pr d' y) = -1; rw [hp y e hy]; exact h2⟩
theorem zb.par_in {d : List Nd} (R : zb d) {i : Nat} {n : Nd} (hi : d[i]? = some n) : zk n = -1 ∨ In' d (zk n) := by
 have hlt := (List.getElem?_eq_some_iff.1 hi).1
 have := R.cl (i : Int) (by omega) (by omega)
 rw [zt hi] at this
 exact this
theorem zb.out {d : List Nd} (R : zb d) {x : Int} (hx : In' d x) (h1 : 1 ≤ x) : zb (outD d x) := by
 have M := R.mvOut hx
 have hpr : ∀ y, y ≠ x → In' d y → Go.En.Pl.pr (outD d x) y = Go.En.Pl.pr d y := fun y e hy => by rw [M.pr hy]; exact if_neg e
 have hprx : Go.En.Pl.pr (outD d x) x = -1 := by rw [M.pr hx]; exact if_pos rfl
 exact {
  len := by rw [M.len]; exact R.len
  pos := by rw [M.len]; exact R.pos
  may := fun n' h' => by
   obtain ⟨i, hi⟩ := List.getElem?_of_mem h'
   obtain ⟨n, h1, h2, _⟩ := M.get hi
   rw [h2.may]
   exact R.may n (List.mem_of_getElem? h1)
  root := fun i n' h' => by obtain ⟨n, h1, h2, _⟩ := M.get h'; rw [h2.1]; exact R.root i n h1
  par0 := by rw [hpr 0 (by omega) ⟨by omega, by have := R.pos; omega⟩]; exact R.par0
  holds := fun n' h' hk => by
   obtain ⟨i, hi⟩ := List.getElem?_of_mem h'
   obtain ⟨n, h1, h2, _, h4⟩ := M.get hi
   rw [h2.holds]
   refine R.holds n (List.mem_of_getElem? h1) fun e => hk ?_
   rw [h4, xc h1, e]
   rfl
  rng := fun n' h' k hk => by
   obtain ⟨i, hi⟩ := List.getElem?_of_mem h'
   obtain ⟨n, h1, h2, _, h4⟩ := M.get hi
   rw [h4, xc h1] at hk
   rw [M.len]
   exact R.rng n (List.mem_of_getElem? h1) k (List.mem_filter.1 hk).1
  nodup := by rw [R.kidsOut hx]; exact R.nodup.sublist List.filter_sublist
  back := fun i n' h' k hk => by
   obtain ⟨n, h1, h2, _, h4⟩ := M.get h'
   rw [h4, xc h1] at hk
   obtain ⟨hk1, hk2⟩ := List.mem_filter.1 hk
   have hr := R.rng n (List.mem_of_getElem? h1) k hk1
   rw [hpr k (bne_iff_ne.1 hk2) ⟨by omega, hr.2⟩]
   exact R.back i n h1 k hk1
  laid := fun i n' h' hp => by
   obtain ⟨n, h1, h2, h3, h4⟩ := M.get h'
   rw [h3] at hp
   have hne : (i : Int) ≠ x := fun e => hp (if_pos e)
   rw [if_neg hne, zt h1] at hp
   rw [R.kidsOut hx]
   exact List.mem_filter.2 ⟨R.laid i n h1 hp, bne_iff_ne.2 hne⟩
  ends := fun i n' h' => by
   obtain ⟨n, h1, h2, h3, h4⟩ := M.get h'
   rw [M.len]
   by_cases e : (i : Int) = x
   ·exact ⟨0, by omega, by rw [h3]; exact if_pos e⟩
   ·rw [h3, if_neg e, zt h1]
    obtain ⟨j, hj, hu⟩ := R.ends i n h1
    obtain ⟨j', hj', hu'⟩ := zeh hpr hprx R j _ (R.par_in h1) hu
    exact ⟨j', by omega, hu'⟩ }
theorem zb.mvPut {d : List Nd} (R : zb d) {q x : Int} (hx : In' d x) (hq : In' d q) (hne : q ≠ x) : Mv d (putD d q x) (fun y => if y = x then q else pr d y) (fun y => if y = q then (ks d y).filter (· != x) ++ [x] else (ks d y).filter (· != x)) := by
 have M := R.mvOut hx
 obtain ⟨n', hn', _⟩ := yy (l := outD d x) (i := x) hx.1 (by rw [qj]; exact hx.2)
 obtain ⟨p0, hp0, _⟩ := yy (l := outD d x) (i := q) hq.1 (by rw [qj]; exact hq.2)
 have hp' : idx ((outD d x).set x.toNat (reP q n')) q = some p0 := by rw [yb hx.1 hne]; exact hp0
 have e : putD d q x = ((outD d x).set x.toNat (reP q n')).set q.toNat (addK x p0) := by
  unfold putD
  rw [hn']
  simp only
  rw [hp']
 rw [e]
 refine ⟨by simp [qj], fun i n hi => ?_⟩
 obtain ⟨m, h1, h2, h3, h4⟩ := M.at' i n hi
 have h1' := ym h1
 by_cases ex : (i : Int) = x
 ·have eq : (i : Int) ≠ q := fun h => hne (h.symm.trans ex)
  subst ex
  rw [hn'] at h1'
  cases h1'
  refine ⟨reP q n', ky ?_, h2.trans ⟨rfl, rfl, rfl, rfl, rfl⟩, ?_, ?_⟩
  ·rw [yb hq.1 eq]; exact yn hn'
  ·show q = _
   rw [if_pos rfl]
  ·rw [if_neg eq]; exact h4
 ·by_cases eq : (i : Int) = q
  ·subst eq
   rw [hp0] at h1'
   cases h1'
   refine ⟨addK x p0, ky (yn hp'), h2.trans ⟨rfl, rfl, rfl, rfl, rfl⟩, ?_, ?_⟩
   ·rw [if_neg ex]
    rw [if_neg ex] at h3
    exact h3
   ·show za p0 ++ [x] = _
    rw [if_pos rfl, h4]
  ·refine ⟨m, ky ?_, h2, ?_, ?_⟩
   ·rw [yb hq.1 eq, yb hx.1 ex]; exact h1'
   ·rw [if_neg ex]
    rw [if_neg ex] at h3
    exact h3
   ·rw [if_neg eq]; exact h4
theorem zrr (A : Int → List Int) (q x : Int) : ∀ (L : List Nat), L.Nodup → (∃ j, j ∈ L ∧ (j : Int) = q) → (L.map fun i : Nat => if (i : Int) = q then A i ++ [x] else A i).flatten.Perm (x :: (L.map fun i : Nat => A i).flatten)
 | [], _, ⟨j, hj, _⟩ => by simp at hj
 | a :: L, hn, hq => by
  obtain ⟨h1, h2⟩ := List.nodup_cons.1 hn
  rw [List.map_cons, List.map_cons, List.flatten_cons, List.flatten_cons]
  by_cases e : (a : Int) = q
  ·have : (L.map fun i : Nat => if (i : Int) = q then A i ++ [x] else A i) = L.map fun i : Nat => A i := List.map_congr_left fun b hb => if_neg fun h => h1 (by
    have : b = a := by omega
    exact this ▸ hb)
   rw [if_pos e, this, List.append_assoc]
   exact List.perm_middle
  ·rw [if_neg e]
   obtain ⟨j, hj, hjq⟩ := hq
   have hjL : j ∈ L := by
    rcases List.mem_cons.1 hj with rfl | h
    ·exact absurd hjq e
    ·exact h
   exact ((zrr A q x L h2 ⟨j, hjL, hjq⟩).append_left (A a)).trans List.perm_middle
theorem zb.kidsPut {d : List Nd} (R : zb d) {q x : Int} (hx : In' d x) (hq : In' d q) (hne : q ≠ x) : (zf (putD d q x)).Perm (x :: (zf d).filter (· != x)) := by
 rw [vv, (R.mvPut hx hq hne).map]
 obtain ⟨j, hj⟩ := Int.eq_ofNat_of_zero_le hq.1
 refine (zrr (fun y => (ks d y).filter (· != x)) q x (List.range d.length) List.nodup_range ⟨j, List.mem_range.2 (by have := hq.2; omega), hj.symm⟩).trans ?_
 rw [vv, zrq, ← ji, List.map_map]
 exact List.Perm.refl _
theorem zrs {d : List Nd} (cl : ∀ y, In' d y → pr d y = -1 ∨ In' d (pr d y)) {y : Int} (hy : y = -1 ∨ In' d y) {j : Nat} (h : up d j y = -1) : ∃ j', j' ≤ d.length ∧ up d j' y = -1 := by
 obtain ⟨m, hm, h1, h2⟩ := zri (P := fun m => up d m y = -1) j h
 refine ⟨m, ?_, h1⟩
 have hin : ∀ k, up d k y = -1 ∨ In' d (up d k y) := by
  intro k
  induction k with
  | zero => exact hy
  | succ k ih =>
   rw [xe]
   rcases ih with e | e
   ·rw [e]; exact .inl rfl
   ·exact cl _ e
 have hnd : ((List.range m).map fun k => up d k y).Nodup := by
  refine List.pairwise_map.2 (List.Pairwise.imp_of_mem (fun {a b} ha hb hab he => ?_) List.pairwise_lt_range)
  have ha := List.mem_range.1 ha
  have hb := List.mem_range.1 hb
  refine h2 (a + (m - b)) (by omega) ?_
  rw [jk, he, ← jk, show b + (m - b) = m by omega]
  exact h1
 have := ui d.length _ hnd fun k hk => by
  obtain ⟨a, ha, rfl⟩ := List.mem_map.1 hk
  rcases hin a with e | e
  ·exact absurd e (h2 a (List.mem_range.1 ha))
  ·exact e
 simpa using this
theorem zb.put {d : List Nd} (R : zb d) {q x : Int} (hx : In' d x) (h1 : 1 ≤ x) (hq : In' d q) {p : Nd} (hp : idx d q = some p) (hh : zo p = true) (hb : q ∉ below d x) : zb (putD d q x) := by
 have hne : q ≠ x := fun e => hb (e ▸ (R.mem_below hx).2 ⟨hx, 0, rfl⟩)
 have M := R.mvPut hx hq hne
 have hpr : ∀ y, y ≠ x → In' d y → Go.En.Pl.pr (putD d q x) y = Go.En.Pl.pr d y := fun y e hy => by rw [M.pr hy]; exact if_neg e
 have hprx : Go.En.Pl.pr (putD d q x) x = q := by rw [M.pr hx]; exact if_pos rfl
 have hperm := R.kidsPut hx hq hne
 have qup : ∀ (j : Nat) (y : Int), (y = -1 ∨ In' d y) → (∀ i, up d i y ≠ x) → up d j y = -1 → up (putD d q x) j y = -1 := by
  intro j
  induction j with
  | zero => intro y _ _ h; exact h
  | succ j ih =>
   intro y hy hno h
   rcases hy with rfl | hy
   ·exact w9 _
   ·show up (putD d q x) j (Go.En.Pl.pr (putD d q x) y) = -1
    rw [hpr y (hno 0) hy]
    exact ih _ (R.cl y hy.1 hy.2) (fun i => hno (i + 1)) h
 have hqend : ∃ j, up (putD d q x) j q = -1 := by
  obtain ⟨j, _, hj⟩ := R.ends' hq
  exact ⟨j, qup j q (.inr hq) (fun i hi => hb ((R.mem_below hx).2 ⟨hq, i, hi⟩)) hj⟩
 have hend : ∀ (j : Nat) (y : Int), (y = -1 ∨ In' d y) → up d j y = -1 → ∃ j', up (putD d q x) j' y = -1 := by
  intro j
  induction j with
  | zero => intro y _ h; exact ⟨0, h⟩
  | succ j ih =>
   intro y hy h
   rcases hy with rfl | hy
   ·exact ⟨0, rfl⟩
   by_cases e : y = x
   ·subst e
    obtain ⟨jq, hjq⟩ := hqend
    exact ⟨jq + 1, by show up _ jq (Go.En.Pl.pr _ y) = -1; rw [hprx]; exact hjq⟩
   ·obtain ⟨j', hj'⟩ := ih _ (R.cl y hy.1 hy.2) h
    exact ⟨j' + 1, by show up _ j' (Go.En.Pl.pr _ y) = -1; rw [hpr y e hy]; exact hj'⟩
 have cl' : ∀ y, In' (putD d q x) y → Go.En.Pl.pr (putD d q x) y = -1 ∨ In' (putD d q x) (Go.En.Pl.pr (putD d q x) y) := by
  intro y hy
  rw [M.in] at hy ⊢
  by_cases e : y = x
  ·subst e
   rw [hprx]
   exact .inr hq
  ·rw [hpr y e hy]
   exact R.cl y hy.1 hy.2
 exact {
  len := by rw [M.len]; exact R.len
  pos := by rw [M.len]; exact R.pos
  may := fun n' h' => by
   obtain ⟨i, hi⟩ := List.getElem?_of_mem h'
   obtain ⟨n, h1, h2, _⟩ := M.get hi
   rw [h2.may]
   exact R.may n (List.mem_of_getElem? h1)
  root := fun i n' h' => by obtain ⟨n, h1, h2, _⟩ := M.get h'; rw [h2.1]; exact R.root i n h1
  par0 := by rw [hpr 0 (by omega) ⟨by omega, by have := R.pos; omega⟩]; exact R.par0
  holds := fun n' h' hk => by
   obtain ⟨i, hi⟩ := List.getElem?_of_mem h'
   obtain ⟨n, g1, g2, _, g4⟩ := M.get hi
   rw [g2.holds]
   by_cases e : (i : Int) = q
   ·rw [← e, ym g1] at hp
    cases hp
    exact hh
   ·rw [if_neg e] at g4
    refine R.holds n (List.mem_of_getElem? g1) fun e' => hk ?_
    rw [g4, xc g1, e']
    rfl
  rng := fun n' h' k hk => by
   obtain ⟨i, hi⟩ := List.getElem?_of_mem h'
   obtain ⟨n, g1, g2, _, g4⟩ := M.get hi
   rw [g4] at hk
   rw [M.len]
   have hf : k ∈ (ks d i).filter (· != x) → 1 ≤ k ∧ k < (d.length : Int) := fun hk => by
    rw [xc g1] at hk
    exact R.rng n (List.mem_of_getElem? g1) k (List.mem_filter.1 hk).1
   by_cases e : (i : Int) = q
   ·rw [if_pos e] at hk
    rcases List.mem_append.1 hk with hk | hk
    ·exact hf hk
    ·rw [List.mem_singleton.1 hk]; exact ⟨h1, hx.2⟩
   ·rw [if_neg e] at hk; exact hf hk
  nodup := by
   rw [hperm.nodup_iff, List.nodup_cons]
   exact ⟨fun h => by simpa using (List.mem_filter.1 h).2, R.nodup.sublist List.filter_sublist⟩
  back := fun i n' h' k hk => by
   obtain ⟨n, g1, g2, _, g4⟩ := M.get h'
   rw [g4] at hk
   have hf : k ∈ (ks d i).filter (· != x) → Go.En.Pl.pr (putD d q x) k = (i : Int) := fun hk => by
    rw [xc g1] at hk
    obtain ⟨hk1, hk2⟩ := List.mem_filter.1 hk
    have hr := R.rng n (List.mem_of_getElem? g1) k hk1
    rw [hpr k (bne_iff_ne.1 hk2) ⟨by omega, hr.2⟩]
    exact R.back i n g1 k hk1
   by_cases e : (i : Int) = q
   ·rw [if_pos e] at hk
    rcases List.mem_append.1 hk with hk | hk
    ·exact hf hk
    ·rw [List.mem_singleton.1 hk, hprx]; exact e.symm
   ·rw [if_neg e] at hk; exact hf hk
  laid := fun i n' h' hpn => by
   obtain ⟨n, g1, g2, g3, g4⟩ := M.get h'
   rw [hperm.mem_iff, List.mem_cons]
   by_cases e : (i : Int) = x
   ·exact .inl e
   ·rw [g3, if_neg e, zt g1] at hpn
    exact .inr (List.mem_filter.2 ⟨R.laid i n g1 hpn, bne_iff_ne.2 e⟩)
  ends := fun i n' h' => by
   obtain ⟨n, g1, g2, g3, g4⟩ := M.get h'
   have hlt := (List.getElem?_eq_some_iff.1 g1).1
   by_cases e : (i : Int) = x
   ·rw [g3, if_pos e]
    obtain ⟨j, hj⟩ := hqend
    exact zrs cl' (.inr (M.in.2 hq)) hj
   ·rw [g3, if_neg e, zt g1]
    obtain ⟨j, _, hj⟩ := R.ends i n g1
    obtain ⟨j', hj'⟩ := hend j _ (R.par_in g1) hj
    exact zrs cl' ((R.par_in g1).imp id fun h => M.in.2 h) hj' }
theorem zb.made {d : List Nd} (R : zb d) {n : Nd} (hm : mayB n = true) (hk : n.1 ≠ 1) (hl : d.length < 300) : zb (d ++ [mkN n]) := by
 have hp : ∀ y, Go.En.Pl.pr (d ++ [mkN n]) y = Go.En.Pl.pr d y := by
  intro y
  by_cases hy : In' d y
  ·obtain ⟨i, m, rfl, hi⟩ := hy.nat
   have hlt := (List.getElem?_eq_some_iff.1 hi).1
   rw [zt hi, zt (by rw [List.getElem?_append_left hlt]; exact hi)]
  ·rw [zed hy]
   by_cases e : y = (d.length : Int)
   ·subst e
    have : (d ++ [mkN n])[d.length]? = some (mkN n) := by simp
    rw [zt this]
    rfl
   ·exact zed (by unfold In' at hy; rw [List.length_append]; simp only [List.length_cons, List.length_nil]; omega)
 have hu := zef hp
 have hall : zf (d ++ [mkN n]) = zf d := by
  unfold zf
  rw [List.flatMap_append]
  show _ ++ ([] ++ []) = _
  simp
 have get : ∀ {i : Nat} {m : Nd}, (d ++ [mkN n])[i]? = some m → d[i]? = some m ∨ (i = d.length ∧ m = mkN n) := by
  intro i m h
  by_cases hlt : i < d.length
  ·rw [List.getElem?_append_left hlt] at h; exact .inl h
  ·have := (List.getElem?_eq_some_iff.1 h).1
   rw [List.length_append] at this
   simp only [List.length_cons, List.length_nil] at this
   have e : i = d.length := by omega
   subst e
   simp at h
   exact .inr ⟨rfl, h.symm⟩
 have mem : ∀ {m : Nd}, m ∈ d ++ [mkN n] → m ∈ d ∨ m = mkN n := by
  intro m h
  rcases List.mem_append.1 h with h | h
  ·exact .inl h
  ·exact .inr (List.mem_singleton.1 h)
 have hlen : (d ++ [mkN n]).length = d.length + 1 := by simp
 exact {
  len := by rw [hlen]; omega
  pos := by rw [hlen]; omega
  may := fun m h => by
   rcases mem h with h | rfl
   ·exact R.may m h
   ·exact hm
  root := fun i m h => by
   rcases get h with h | ⟨rfl, rfl⟩
   ·exact R.root i m h
   ·exact ⟨fun h => absurd h hk, fun h => by have := R.pos; omega⟩
  par0 := by rw [hp]; exact R.par0
  holds := fun m h hk' => by
   rcases mem h with h | rfl
   ·exact R.holds m h hk'
   ·exact absurd rfl hk'
  rng := fun m h k hk' => by
   rcases mem h with h | rfl
   ·have := R.rng m h k hk'
    rw [hlen]
    omega
   ·have : k ∈ ([] : List Int) := hk'
    simp at this
  nodup := by rw [hall]; exact R.nodup
  back := fun i m h k hk' => by
   rcases get h with h | ⟨rfl, rfl⟩
   ·rw [hp]; exact R.back i m h k hk'
   ·have : k ∈ ([] : List Int) := hk'
    simp at this
  laid := fun i m h hp' => by
   rcases get h with h | ⟨rfl, rfl⟩
   ·rw [hall]; exact R.laid i m h hp'
   ·exact absurd rfl hp'
  ends := fun i m h => by
   rcases get h with h | ⟨rfl, rfl⟩
   ·obtain ⟨j, hj, hu'⟩ := R.ends i m h
    exact ⟨j, by omega, by rw [hu]; exact hu'⟩
   ·exact ⟨0, by omega, rfl⟩ }
theorem zko {d : List Nd} {n : Nd} (h : (mk d n).2.1 = 0) : zb d ∧ mayB n = true ∧ n.1 ≠ 1 ∧ d.length < 300 ∧ (mk d n).1 = d.length ∧ (mk d n).2.2 = d ++ [mkN n] := by
 unfold mk at h ⊢
 by_cases hc : chk d = 0
 ·rw [if_pos hc] at h ⊢
  cases hb : (!mayB n || n.1 == 1) with
  | true => rw [hb, if_pos rfl] at h; cases h
  | false =>
   rw [hb, if_neg (by simp)] at h
   simp only [Bool.or_eq_false_iff, Bool.not_eq_false', beq_eq_false_iff_ne] at hb
   by_cases hl : 300 ≤ d.length
   ·rw [if_pos hl] at h; cases h
   ·rw [if_neg (by simp), if_neg hl]
    exact ⟨chk0.1 hc, hb.1, hb.2, by omega, rfl, rfl⟩
 ·rw [if_neg hc] at h
  exact absurd h hc
theorem zrt {a b : Nd} (h : Like a b) (h2 : zk b = zk a) (h3 : za b = za a) : b = a := by
 obtain ⟨a1, a2, a3, a4, a5, a6, a7⟩ := a
 obtain ⟨b1, b2, b3, b4, b5, b6, b7⟩ := b
 obtain ⟨e1, e2, e3, e4, e5⟩ := h
 simp only at e1 e2 e3 e4 e5 h2 h3
 subst e1 e2 e3 e4 e5 h2 h3
 rfl
theorem Mv.eq {d a b : List Nd} {P P' : Int → Int} {K K' : Int → List Int} (A : Mv d a P K) (B : Mv d b P' K') (hp : ∀ y, In' d y → P y = P' y) (hk : ∀ y, In' d y → K y = K' y) : a = b := by
 apply List.ext_getElem?
 intro i
 by_cases h : i < d.length
 ·obtain ⟨n1, g1, g2, g3, g4⟩ := A.at' i _ (List.getElem?_eq_getElem h)
  obtain ⟨n2, k1, k2, k3, k4⟩ := B.at' i _ (List.getElem?_eq_getElem h)
  have hin : In' d i := ⟨by omega, by omega⟩
  rw [g1, k1]
  congr 1
  refine zrt ?_ (by rw [g3, k3]; exact hp _ hin) (by rw [g4, k4]; exact hk _ hin)
  exact ⟨g2.1.trans k2.1.symm, g2.2.1.trans k2.2.1.symm, g2.2.2.1.trans k2.2.2.1.symm, g2.2.2.2.1.trans k2.2.2.2.1.symm, g2.2.2.2.2.trans k2.2.2.2.2.symm⟩
 ·rw [List.getElem?_eq_none (by rw [A.len]; omega), List.getElem?_eq_none (by rw [B.len]; omega)]
theorem Mv.trans {d a b : List Nd} {P P' : Int → Int} {K K' : Int → List Int} (A : Mv d a P K) (B : Mv a b P' K') : Mv d b P' K' := by
 refine ⟨B.len.trans A.len, fun i n hi => ?_⟩
 obtain ⟨n1, g1, g2, g3, g4⟩ := A.at' i n hi
 obtain ⟨n2, k1, k2, k3, k4⟩ := B.at' i n1 g1
 exact ⟨n2, k1, g2.trans k2, k3, k4⟩
theorem zkp {d : List Nd} {q x : Int} (R : zb d) (h1 : 1 ≤ x) (hx : In' d x) (hq : In' d q) {p : Nd} (hp : idx d q = some p) (hh : zo p = true) (hb : q ∉ below d x) : puts d q x = (0, putD d q x) := by
 unfold puts
 rw [if_pos (chk0.2 R), if_pos (show (0 ≤ q ∧ q < (d.length : Int)) ∧ 1 ≤ x ∧ x < (d.length : Int) from ⟨hq, h1, hx.2⟩), hp]
 simp only [hh, if_true]
 rw [if_neg fun h => hb ((vu R hq hx).1 h)]
theorem zan {d d' : List Nd} : ∀ (f : Nat) (y : Int), (∀ z, z ∈ dn d f y → ks d' z = ks d z) → dn d' f y = dn d f y
 | 0, y, _ => rfl
 | f + 1, y, h => by
  have hy : ks d' y = ks d y := h y (by unfold dn; exact List.mem_cons_self ..)
  unfold dn
  rw [hy]
  congr 1
  have : ∀ l : List Int, (∀ k, k ∈ l → dn d' f k = dn d f k) → l.flatMap (dn d' f) = l.flatMap (dn d f) := by
   intro l
   induction l with
   | nil => intro _; rfl
   | cons a l ih =>
    intro hl
    rw [List.flatMap_cons, List.flatMap_cons, hl a (List.mem_cons_self ..), ih fun k hk => hl k (List.mem_cons_of_mem _ hk)]
  exact this _ fun k hk => zan f k fun z hz => h z (by unfold dn; exact List.mem_cons_of_mem _ (List.mem_flatMap.2 ⟨k, hk, hz⟩))
theorem zdb : z7 (Ev.upto 5000) ((), ()) = some ((true, ()), ()) := by kernel_rfl
abbrev Tk := Int × (Bs × (Bs × (List At × Bool)))
abbrev Op := Int × Bs
abbrev Fl := Int × Int
def qy (s : Bs) : Bool := s == ([98, 114] : Bs) || (s == ([104, 114] : Bs) || (s == ([105, 109, 103] : Bs) || (s == ([105, 110, 112, 117, 116] : Bs) || (s == ([108, 105, 110, 107] : Bs) || s == ([109, 101, 116, 97] : Bs)))))
theorem zv7 (V : Ev) (s : Bs) : x4 V ((s, ()), ()) = some ((qy s, ()), ()) := by
 unfold x4 qy
 cases (s == ([98, 114] : Bs)) <;> cases (s == ([104, 114] : Bs)) <;> cases (s == ([105, 109, 103] : Bs)) <;> cases (s == ([105, 110, 112, 117, 116] : Bs)) <;> cases (s == ([108, 105, 110, 107] : Bs)) <;> cases (s == ([109, 101, 116, 97] : Bs)) <;> rfl
def layD (d : List Nd) (q : Int) (n : Nd) : List Nd := match idx d q with
 | some p => d.set q.toNat (addK (d.length : Int) p) ++ [reP q (mkN n)]
 | none => d ++ [mkN n]
def layE (d : List Nd) (n : Nd) : Int := if (!mayB n || n.1 == 1) = true then 1 else if 300 ≤ d.length then 2 else 0
def inn (k : Int) (nm dt : Bs) (a : List At) (p : Bool) : Nd := (k, (nm, (dt, (a, ((0 : Int), (([] : List Int), (p, false)))))))
abbrev BS := List Nd × (List Op × List Fl)
def top (op : List Op) : Int := (op.getLast?.getD (0, [])).1
def fndE (nm : Bs) (op : List Op) : Nat → Nat
 | 0 => 0
 | i + 1 => match op[i + 1]? with
  | some o => if o.2 == nm then i + 1 else fndE nm op i
  | none => 0
def endS (nm : Bs) (at' : Int) (op : List Op) (fl : List Fl) : List Op × List Fl :=
 if fndE nm op (op.length - 1) = 0 then (op, fl ++ [((160 : Int), at')]) else (op.take (fndE nm op (op.length - 1)), if op.length - fndE nm op (op.length - 1) > 1 then fl ++ [((162 : Int), at')] else fl)
def layS (d : List Nd) (op : List Op) (n : Nd) (r : List Op × List Fl) : BS ⊕ Int := if layE d n = 0 then .inl (layD d (top op) n, r) else .inr (layE d n)
def tokB (par : Bool) (t : Tk) (i : Int) (s : BS) : BS ⊕ Int :=
 if t.1 = 1 then layS s.1 s.2.1 (inn 3 [] t.2.2.1 [] false) s.2
 else if t.1 = 4 then layS s.1 s.2.1 (inn 4 [] t.2.2.1 [] false) s.2
 else if t.1 = 2 then layS s.1 s.2.1 (inn 2 t.2.1 [] t.2.2.2.1 par) (if (t.2.2.2.2 || qy t.2.1) = true then s.2 else if 30 ≤ s.2.1.length then (s.2.1, s.2.2 ++ [((161 : Int), i)]) else (s.2.1 ++ [((s.1.length : Int), t.2.1)], s.2.2))
 else if t.1 = 3 then .inl (s.1, endS t.2.1 i s.2.1 s.2.2)
 else .inl s
def runS (par : Bool) : Nat → List Tk → BS → BS ⊕ Int
 | _, [], s => .inl s
 | i, t :: l, s => match tokB par t (i : Int) s with
  | .inl s' => runS par (i + 1) l s'
  | .inr e => .inr e
theorem y7 (d : List Nd) (q : Int) (n : Nd) : (layD d q n).length = d.length + 1 := by
 unfold layD
 cases idx d q <;> simp
theorem kz {d : List Nd} {x : Int} {n : Nd} {l : List Nd} (h : idx d x = some n) : idx (d ++ l) x = some n := by
 obtain ⟨h0, h1, h2⟩ := zc h
 unfold idx
 rw [if_pos h0, List.getElem?_append_left (by omega), h2]
theorem vw (d : List Nd) (n : Nd) : idx (d ++ [n]) (d.length : Int) = some n := by
 unfold idx
 rw [if_pos (by omega), Int.toNat_natCast, List.getElem?_append_right (Nat.le_refl _), Nat.sub_self]
 rfl
theorem qz {d : List Nd} {q x : Int} {n m : Nd} (h : idx d x = some m) (hne : x ≠ q) : idx (layD d q n) x = some m := by
 unfold layD
 cases hq : idx d q with
 | none => exact kz h
 | some p => exact kz (by rw [yb (zc hq).1 hne]; exact h)
theorem ke {d : List Nd} {q : Int} {n p : Nd} (h : idx d q = some p) : idx (layD d q n) q = some (addK (d.length : Int) p) := by
 unfold layD
 rw [h]
 exact kz (yn h)
theorem xg {d : List Nd} {q : Int} {n p : Nd} (h : idx d q = some p) : idx (layD d q n) (d.length : Int) = some (reP q (mkN n)) := by
 unfold layD
 rw [h]
 have := vw (d.set q.toNat (addK (d.length : Int) p)) (reP q (mkN n))
 rw [List.length_set] at this
 exact this
theorem xw {d : List Nd} {q x : Int} {n m : Nd} (h : idx d x = some m) : ∃ m', idx (layD d q n) x = some m' ∧ Like m m' ∧ zk m' = zk m := by
 by_cases hx : x = q
 ·subst hx
  exact ⟨_, ke h, ⟨rfl, rfl, rfl, rfl, rfl⟩, rfl⟩
 ·exact ⟨m, qz h hx, Like.refl m, rfl⟩
theorem zao {d : List Nd} (n : Nd) : below (d ++ [mkN n]) (d.length : Int) = [(d.length : Int)] := by
 unfold below
 show _ :: (ks (d ++ [mkN n]) (d.length : Int)).flatMap _ = _
 have : ks (d ++ [mkN n]) (d.length : Int) = [] := by unfold ks; rw [vw]; rfl
 rw [this]
 rfl
theorem zgp {d : List Nd} {q : Int} {n p : Nd} (h : idx d q = some p) : putD (d ++ [mkN n]) q (d.length : Int) = layD d q n := by
 obtain ⟨h0, h1, h2⟩ := zc h
 have hl : idx (d ++ [mkN n]) (d.length : Int) = some (mkN n) := vw d (mkN n)
 have hpr : pr (d ++ [mkN n]) (d.length : Int) = -1 := by unfold pr; rw [hl]; rfl
 have hu : unK (d ++ [mkN n]) (d.length : Int) = d ++ [mkN n] := by unfold unK; rw [hpr]; rfl
 have hs : ∀ m : Nd, (d ++ [mkN n]).set (d.length : Int).toNat m = d ++ [m] := by
  intro m
  rw [Int.toNat_natCast, List.set_append_right _ _ (Nat.le_refl _), Nat.sub_self]
  rfl
 have ho : outD (d ++ [mkN n]) (d.length : Int) = d ++ [mkN n] := by unfold outD; rw [hl, hu]; exact hs _
 unfold putD layD
 rw [ho, hl, h]
 simp only [hs]
 rw [kz h]
 simp only
 rw [List.set_append_left _ _ (by omega)]
theorem layR {d : List Nd} (R : zb d) {q : Int} {n p : Nd} (h : layE d n = 0) (hp : idx d q = some p) (hh : zo p = true) :
  zb (layD d q n) ∧ mk d n = ((d.length : Int), 0, d ++ [mkN n]) ∧ puts (d ++ [mkN n]) q (d.length : Int) = (0, layD d q n) := by
 have hc := chk0.2 R
 have hmk : mk d n = ((d.length : Int), 0, d ++ [mkN n]) := by
  unfold mk
  unfold layE at h
  rw [if_pos hc]
  split at h
  ·cases h
  ·rename_i h1
   rw [if_neg h1]
   split at h
   ·cases h
   ·rename_i h2
    rw [if_neg h2]
 have h0 : (mk d n).2.1 = 0 := by rw [hmk]
 obtain ⟨_, hm, hk, hl, _, _⟩ := zko h0
 have R1 := R.made hm hk hl
 obtain ⟨q0, q1, _⟩ := zc hp
 have hl1 : (d ++ [mkN n]).length = d.length + 1 := by simp
 have hx : In' (d ++ [mkN n]) (d.length : Int) := ⟨by omega, by rw [hl1]; omega⟩
 have hq : In' (d ++ [mkN n]) q := ⟨q0, by rw [hl1]; omega⟩
 have hp' : idx (d ++ [mkN n]) q = some p := kz hp
 have hpos := R.pos
 have hb : q ∉ below (d ++ [mkN n]) (d.length : Int) := by
  rw [zao]
  simp only [List.mem_singleton]
  omega
 have e := zgp (n := n) hp
 refine ⟨?_, hmk, ?_⟩
 ·rw [← e]
  exact R1.put hx (by omega) hq hp' hh hb
 ·rw [← e]
  exact zkp R1 (by omega) hx hq hp' hh hb
theorem zn1 {d : List Nd} (R : zb d) {n : Nd} (h : layE d n ≠ 0) : mk d n = (0, layE d n, []) := by
 unfold mk
 unfold layE at h ⊢
 rw [if_pos (chk0.2 R)]
 split
 ·rfl
 ·rename_i h1
  rw [if_neg h1] at h
  split
  ·rfl
  ·rename_i h2
   rw [if_neg h2] at h
   exact absurd rfl h
structure IB (i : Nat) (s : BS) : Prop where
 R : zb s.1
 sk : Sk (400 + i) s.1
 ne : s.2.1 ≠ []
 le : s.2.1.length ≤ 30
 op : ∀ o, o ∈ s.2.1 → ∃ p, idx s.1 o.1 = some p ∧ zo p = true
 nm : ∀ (j : Nat) o, s.2.1[j]? = some o → 1 ≤ j → ∃ p, idx s.1 o.1 = some p ∧ p.2.1 = o.2
 fl : s.2.2.length ≤ i
theorem q8 {op : List Op} (h : op ≠ []) : ∃ o, o ∈ op ∧ op[op.length - 1]? = some o ∧ top op = o.1 := by
 refine ⟨op.getLast h, List.getLast_mem h, ?_, ?_⟩
 ·rw [← List.getLast?_eq_getElem?]
  exact List.getLast?_eq_some_getLast h
 ·unfold top
  rw [List.getLast?_eq_some_getLast h]
  rfl
theorem Sk.lay {c : Nat} {d : List Nd} (h : Sk c d) (hl : d.length < 4000) {q : Int} {n : Nd} (h1 : n.2.2.2.1.length ≤ 4000) : Sk (c + 1) (layD d q n) := by
 have hnew : ∀ q, (reP q (mkN n)).2.2.2.1.length ≤ 4000 ∧ (za (reP q (mkN n))).length ≤ c + 1 := fun q => ⟨h1, by show ([] : List Int).length ≤ _; simp⟩
 refine ⟨by rw [y7]; omega, fun m hm => ?_⟩
 unfold layD at hm
 cases hq : idx d q with
 | none =>
  rw [hq] at hm
  rcases List.mem_append.1 hm with hm | hm
  ·have := h.2 m hm; exact ⟨this.1, by omega⟩
  ·rw [List.mem_singleton.1 hm]; exact hnew _
 | some p =>
  rw [hq] at hm
  rcases List.mem_append.1 hm with hm | hm
  ·rcases List.mem_or_eq_of_mem_set hm with hm | hm
   ·have := h.2 m hm; exact ⟨this.1, by omega⟩
   ·rw [hm]
    have := h.2 p (List.mem_of_getElem? (zc hq).2.2)
    refine ⟨this.1, ?_⟩
    show (za p ++ [_]).length ≤ _
    rw [List.length_append]
    simp only [List.length_cons, List.length_nil]
    omega
  ·rw [List.mem_singleton.1 hm]; exact hnew _
theorem zei (nm : Bs) (op : List Op) : ∀ i, fndE nm op i ≤ i
 | 0 => Nat.le_refl _
 | i + 1 => by
  unfold fndE
  split
  ·split
   ·exact Nat.le_refl _
   ·have := zei nm op i; omega
  ·omega
theorem IB.laid {i : Nat} {s : BS} (h : IB i s) {n : Nd} (h1 : n.2.2.2.1.length ≤ 4000) (hE : layE s.1 n = 0) (op' : List Op) (fl' : List Fl) (hf : fl'.length ≤ i + 1)
  (ho : op' = s.2.1 ∨ op' = s.2.1 ++ [((s.1.length : Int), n.2.1)] ∧ s.2.1.length < 30 ∧ zo n = true) : IB (i + 1) (layD s.1 (top s.2.1) n, (op', fl')) := by
 obtain ⟨o, hom, _, ht⟩ := q8 h.ne
 obtain ⟨p, hp, hh⟩ := h.op o hom
 rw [← ht] at hp
 obtain ⟨R', hmk, _⟩ := layR h.R hE hp hh
 have hlen := h.R.len
 have hop : ∀ o, o ∈ s.2.1 → ∃ p, idx (layD s.1 (top s.2.1) n) o.1 = some p ∧ zo p = true := fun o ho => by
  obtain ⟨p, hp, hh⟩ := h.op o ho
  obtain ⟨p', hp', hl, _⟩ := xw (q := top s.2.1) (n := n) hp
  exact ⟨p', hp', hl.holds.trans hh⟩
 have hnm : ∀ (j : Nat) o, s.2.1[j]? = some o → 1 ≤ j → ∃ p, idx (layD s.1 (top s.2.1) n) o.1 = some p ∧ p.2.1 = o.2 := fun j o hj h1 => by
  obtain ⟨p, hp, hn⟩ := h.nm j o hj h1
  obtain ⟨p', hp', hl, _⟩ := xw (q := top s.2.1) (n := n) hp
  exact ⟨p', hp', hl.2.1.trans hn⟩
 have hnew := xg (n := n) hp
 rcases ho with ho | ⟨ho, h30, hhn⟩
 ·subst ho
  exact ⟨R', h.sk.lay (by omega) h1, h.ne, h.le, hop, hnm, hf⟩
 ·subst ho
  refine ⟨R', h.sk.lay (by omega) h1, by simp, by simp only [List.length_append, List.length_cons, List.length_nil]; omega, fun o ho => ?_, fun j o hj hj1 => ?_, hf⟩
  ·rcases List.mem_append.1 ho with ho | ho
   ·exact hop o ho
   ·rw [List.mem_singleton.1 ho]
    exact ⟨_, hnew, hhn⟩
  ·by_cases hlt : j < s.2.1.length
   ·rw [List.getElem?_append_left hlt] at hj
    exact hnm j o hj hj1
   ·rw [List.getElem?_append_right (by omega)] at hj
    have hj0 : j - s.2.1.length = 0 := by
     have := (List.getElem?_eq_some_iff.1 hj).1
     simp only [List.length_cons, List.length_nil] at this
     omega
    rw [hj0] at hj
    simp only [List.getElem?_cons_zero, Option.some.injEq] at hj
    rw [← hj]
    exact ⟨_, hnew, rfl⟩
theorem IB.end {i : Nat} {s : BS} (h : IB i s) (nm : Bs) (at' : Int) : IB (i + 1) (s.1, endS nm at' s.2.1 s.2.2) := by
 have hf := h.fl
 unfold endS
 split
 ·exact ⟨h.R, h.sk.mono (by omega), h.ne, h.le, h.op, h.nm, by simp only [List.length_append, List.length_cons, List.length_nil]; omega⟩
 ·rename_i h0
  have hle := zei nm s.2.1 (s.2.1.length - 1)
  have hne : s.2.1.length ≠ 0 := fun e => h.ne (List.length_eq_zero_iff.1 e)
  have h30 := h.le
  refine ⟨h.R, h.sk.mono (by omega), fun e => ?_, by simp only [List.length_take]; omega, fun o ho => h.op o (List.mem_of_mem_take ho), fun j o hj h1 => ?_, ?_⟩
  ·have := congrArg List.length e
   simp only [List.length_take, List.length_nil] at this
   omega
  ·have hlt := (List.getElem?_eq_some_iff.1 hj).1
   rw [List.getElem?_take_of_lt (by simp only [List.length_take] at hlt; omega)] at hj
   exact h.nm j o hj h1
  ·show (if _ then _ else _ : List Fl).length ≤ _
   split
   ·simp only [List.length_append, List.length_cons, List.length_nil]; omega
   ·omega
theorem IB.mono {i : Nat} {s : BS} (h : IB i s) : IB (i + 1) s := ⟨h.R, h.sk.mono (by omega), h.ne, h.le, h.op, h.nm, by have := h.fl; omega⟩
theorem IB.step {par : Bool} {t : Tk} {i : Nat} {k : Int} {s s' : BS} (h : IB i s) (ht : t.2.2.2.1.length ≤ 50) (e : tokB par t k s = .inl s') : IB (i + 1) s' := by
 have hf := h.fl
 unfold tokB layS at e
 split at e
 ·split at e
  ·rename_i hE
   simp only [Sum.inl.injEq] at e
   rw [← e]
   exact h.laid (by show ([] : List At).length ≤ _; simp) hE _ _ (show s.2.2.length ≤ i + 1 by omega) (.inl rfl)
  ·cases e
 ·split at e
  ·split at e
   ·rename_i hE
    simp only [Sum.inl.injEq] at e
    rw [← e]
    exact h.laid (by show ([] : List At).length ≤ _; simp) hE _ _ (show s.2.2.length ≤ i + 1 by omega) (.inl rfl)
   ·cases e
  ·split at e
   ·split at e
    ·rename_i hE
     simp only [Sum.inl.injEq] at e
     rw [← e]
     split
     ·exact h.laid (by show t.2.2.2.1.length ≤ _; omega) hE _ _ (show s.2.2.length ≤ i + 1 by omega) (.inl rfl)
     ·split
      ·exact h.laid (by show t.2.2.2.1.length ≤ _; omega) hE _ _ (by simp only [List.length_append, List.length_cons, List.length_nil]; omega) (.inl rfl)
      ·exact h.laid (by show t.2.2.2.1.length ≤ _; omega) hE _ _ (show s.2.2.length ≤ i + 1 by omega) (.inr ⟨rfl, by omega, rfl⟩)
    ·cases e
   ·split at e
    ·simp only [Sum.inl.injEq] at e
     rw [← e]
     exact h.end _ _
    ·simp only [Sum.inl.injEq] at e
     rw [← e]
     exact h.mono
theorem zdc {par : Bool} {t : Tk} {k e : Int} {s : BS} (h : tokB par t k s = .inr e) : e ≠ 0 := by
 unfold tokB layS at h
 split at h
 ·split at h
  ·cases h
  ·simp only [Sum.inr.injEq] at h; rw [← h]; assumption
 ·split at h
  ·split at h
   ·cases h
   ·simp only [Sum.inr.injEq] at h; rw [← h]; assumption
  ·split at h
   ·split at h
    ·cases h
    ·simp only [Sum.inr.injEq] at h; rw [← h]; assumption
   ·split at h <;> cases h
theorem zhj {n k : Nat} (h : n ≤ 10000) (hk : k ≤ 1000) : fits n k = true := wd h hk
theorem zgq (V : Ev) (c at' : Int) (par : Bool) (d : List Nd) (op : List Op) (fl : List Fl) (h : fl.length ≤ 1000) : zz V ((c, ()), ((par, (at', ())), (d, (op, (fl, ()))))) = some ((), ((par, (at', ())), (d, (op, (fl ++ [(c, at')], ()))))) := by
 unfold zz
 simp only [zhj (show fl.length + ([(c, at')] : List Fl).length ≤ 10000 by simp; omega) (show 16 ≤ 1000 by omega), cond_true]
theorem zkq {n : Nat} (h0 : n ≠ 0) (h : n ≤ 1000) : IntKind.wrap .i64 ((n : Int) - 1) = ((n - 1 : Nat) : Int) := by rw [jj (by omega) (by omega)]; omega
theorem ltB {a b : Nat} (h : a < b) : (decide ((0 : Int) ≤ (a : Int)) && decide ((a : Int) < (b : Int))) = true := by rw [decide_eq_true (show (0 : Int) ≤ (a : Int) by omega), decide_eq_true (show (a : Int) < (b : Int) by omega)]; rfl
theorem zy5 (V : Ev) (at' : Int) (par : Bool) (d : List Nd) (op : List Op) (fl : List Fl) (h : op ≠ []) (h2 : op.length ≤ 1000) : ∃ nm, zu V ((), ((par, (at', ())), (d, (op, (fl, ()))))) = some (((top op, nm), ()), ((par, (at', ())), (d, (op, (fl, ()))))) := by
 obtain ⟨o, _, hg, ht⟩ := q8 h
 have hne : op.length ≠ 0 := fun e => h (List.length_eq_zero_iff.1 e)
 refine ⟨o.2, ?_⟩
 unfold zu
 simp only [zkq hne h2, ltB (show op.length - 1 < op.length by omega), cond_true, Int.toNat_natCast, hg, Option.bind_some, ht]
theorem zv8 {d : List Nd} {n : Nd} (h : Sm d) (hl : d.length < 4000) (h1 : n.2.2.2.1.length ≤ 4000) : Sm (d ++ [mkN n]) := by
 refine ⟨by simp; omega, fun m hm => ?_⟩
 rcases List.mem_append.1 hm with hm | hm
 ·exact h.2 m hm
 ·rw [List.mem_singleton.1 hm]
  exact ⟨h1, by show ([] : List Int).length ≤ _; simp⟩
theorem layP {i : Nat} (hi : i ≤ 200) {s : BS} (h : IB i s) (n : Nd) (h1 : n.2.2.2.1.length ≤ 4000) (par : Bool) (at' : Int) :
  yd (Ev.upto 5000) ((n, ()), ((par, (at', ())), (s.1, (s.2.1, (s.2.2, ()))))) = if layE s.1 n = 0 then some (((s.1.length : Int), ((0 : Int), ())), ((par, (at', ())), (layD s.1 (top s.2.1) n, (s.2.1, (s.2.2, ()))))) else some (((0 : Int), (layE s.1 n, ())), ((par, (at', ())), (s.1, (s.2.1, (s.2.2, ()))))) := by
 have hs : Sm s.1 := h.sk.sm (by omega)
 have hlen := h.R.len
 unfold yd
 simp only [Option.bind_some, zkl s.1 n hs h1, decide_true, if_true]
 by_cases hE : layE s.1 n = 0
 ·obtain ⟨o, hom, _, ht⟩ := q8 h.ne
  obtain ⟨p, hp, hh⟩ := h.op o hom
  rw [← ht] at hp
  obtain ⟨R', hmk, hput⟩ := layR h.R hE hp hh
  obtain ⟨nm, htop⟩ := zy5 (Ev.upto 5000) at' par s.1 s.2.1 s.2.2 h.ne (by have := h.le; omega)
  rw [if_pos hE, hmk]
  simp only [bne_self_eq_false, cond_false, htop, Option.bind_some]
  rw [zrp _ _ _ (zv8 hs (by omega) h1), hput]
  simp only [Option.bind_some, beq_self_eq_true, cond_true]
 ·rw [if_neg hE, zn1 h.R hE]
  simp only [bne_iff_ne.2 hE, cond_true]
theorem zy6 {i : Nat} (hi : i ≤ 200) {s : BS} (h : IB i s) (t : Tk) (par : Bool) (at' : Int) : yr (Ev.upto 5000) ((t, ()), ((par, (at', ())), (s.1, (s.2.1, (s.2.2, ()))))) = match layS s.1 s.2.1 (inn 3 [] t.2.2.1 [] false) s.2 with
  | .inl s' => some (((0 : Int), ()), ((par, (at', ())), (s'.1, (s'.2.1, (s'.2.2, ())))))
  | .inr e => some ((e, ()), ((par, (at', ())), (s.1, (s.2.1, (s.2.2, ()))))) := by
 unfold yr
 have := layP hi h (inn 3 [] t.2.2.1 [] false) (by show ([] : List At).length ≤ _; simp) par at'
 unfold inn at this ⊢
 simp only [this]
 unfold layS
 split
 ·simp only [Option.bind_some]
 ·simp only [Option.bind_some]
theorem zgr {i : Nat} (hi : i ≤ 200) {s : BS} (h : IB i s) (t : Tk) (par : Bool) (at' : Int) : ye (Ev.upto 5000) ((t, ()), ((par, (at', ())), (s.1, (s.2.1, (s.2.2, ()))))) = match layS s.1 s.2.1 (inn 4 [] t.2.2.1 [] false) s.2 with
  | .inl s' => some (((0 : Int), ()), ((par, (at', ())), (s'.1, (s'.2.1, (s'.2.2, ())))))
  | .inr e => some ((e, ()), ((par, (at', ())), (s.1, (s.2.1, (s.2.2, ()))))) := by
 unfold ye
 have := layP hi h (inn 4 [] t.2.2.1 [] false) (by show ([] : List At).length ≤ _; simp) par at'
 unfold inn at this ⊢
 simp only [this]
 unfold layS
 split
 ·simp only [Option.bind_some]
 ·simp only [Option.bind_some]
theorem zkr {i : Nat} (hi : i ≤ 200) {s : BS} (h : IB i s) (t : Tk) (ht : t.2.2.2.1.length ≤ 50) (par : Bool) (at' : Int) : yp (Ev.upto 5000) ((t, ()), ((par, (at', ())), (s.1, (s.2.1, (s.2.2, ()))))) = match layS s.1 s.2.1 (inn 2 t.2.1 [] t.2.2.2.1 par) (if (t.2.2.2.2 || qy t.2.1) = true then s.2 else if 30 ≤ s.2.1.length then (s.2.1, s.2.2 ++ [((161 : Int), at')]) else (s.2.1 ++ [((s.1.length : Int), t.2.1)], s.2.2)) with
  | .inl s' => some (((0 : Int), ()), ((par, (at', ())), (s'.1, (s'.2.1, (s'.2.2, ())))))
  | .inr e => some ((e, ()), ((par, (at', ())), (s.1, (s.2.1, (s.2.2, ()))))) := by
 unfold yp
 have hl := layP hi h (inn 2 t.2.1 [] t.2.2.2.1 par) (by show t.2.2.2.1.length ≤ _; omega) par at'
 have hle := h.le
 have hf := h.fl
 unfold inn at hl ⊢
 simp only [hl]
 unfold layS
 split
 ·simp only [Option.bind_some, bne_self_eq_false, beq_self_eq_true, cond_true, zv7 (Ev.upto 5000) t.2.1]
  cases hc : t.2.2.2.2 with
  | true => simp only [Bool.true_beq, cond_false, Option.bind_some, cond_true, Bool.true_or, if_true]
  | false =>
   simp only [beq_self_eq_true, cond_true, Option.bind_some, Bool.false_or]
   cases hv : qy t.2.1 with
   | true => simp only [cond_true, if_true, Option.bind_some]
   | false =>
    simp only [cond_false, Bool.false_eq_true, if_false]
    have hge : decide ((s.2.1.length : Int) ≥ 30) = decide (30 ≤ s.2.1.length) := zo8 s.2.1.length 30
    simp only [hge]
    by_cases h30 : 30 ≤ s.2.1.length
    ·simp only [decide_eq_true h30, cond_true, zgq (Ev.upto 5000) 161 at' par _ s.2.1 s.2.2 (by omega), Option.bind_some, if_pos h30]
    ·unfold zn
     simp only [decide_eq_false h30, cond_false, zhj (show s.2.1.length + ([((s.1.length : Int), t.2.1)] : List Op).length ≤ 10000 by simp; omega) (show 24 ≤ 1000 by omega), cond_true, Option.bind_some, if_neg h30]
 ·rename_i hE
  simp only [Option.bind_some, bne_iff_ne.2 hE, Bool.true_beq, cond_false, cond_true]
theorem zhk {α β γ : Type} {f : α → Option (α ⊕ β)} {a0 : α} {k : β → Option γ} {r : Option γ} (nm : Bs) (op : List Op) (st : Int → α) (hit : Nat → β) (fin : β) (N n : Nat) (hn : n < op.length) (hN : n < N) (ha : a0 = st n)
  (h0 : f (st 0) = some (.inr fin)) (h1 : ∀ (j : Nat) (o : Op), 1 ≤ j → op[j]? = some o → f (st (j : Int)) = some (if (o.2 == nm) = true then .inr (hit j) else .inl (st ((j : Int) - 1)))) (hr : k (if fndE nm op n = 0 then fin else hit (fndE nm op n)) = r) : ((Ev.upto N).it f a0).bind k = r := by
 have key : ∀ n N, n < op.length → n < N → yz f N (st n) = some (if fndE nm op n = 0 then fin else hit (fndE nm op n)) := by
  intro n
  induction n with
  | zero =>
   intro N _ hN
   obtain ⟨N, rfl⟩ : ∃ m, N = m + 1 := ⟨N - 1, by omega⟩
   unfold yz
   show (f (st 0)).bind _ = _
   rw [h0]
   rfl
  | succ n ih =>
   intro N hn hN
   obtain ⟨N, rfl⟩ : ∃ m, N = m + 1 := ⟨N - 1, by omega⟩
   unfold yz
   rw [h1 (n + 1) op[n + 1] (by omega) (List.getElem?_eq_getElem hn)]
   unfold fndE
   rw [List.getElem?_eq_getElem hn]
   simp only [Option.bind_some]
   cases hb : (op[n + 1].2 == nm) with
   | true => simp
   | false =>
    simp only [Bool.false_eq_true, if_false]
    rw [show ((n + 1 : Nat) : Int) - 1 = (n : Int) by omega]
    exact ih N (by omega) (by omega)
 rw [ha]
 show (yz f N (st n)).bind k = r
 rw [key n N hn hN]
 exact hr
theorem zly {α : Type} {l : List α} {b : Nat} (h : b ≤ l.length) : sl l 0 (b : Int) = some (l.take b) := by
 have := znt (l := l) (Nat.zero_le b) h
 simpa using this
theorem endP {i : Nat} (hi : i ≤ 200) {s : BS} (h : IB i s) (t : Tk) (par : Bool) (at' : Int) : yv (Ev.upto 5000) ((t, ()), ((par, (at', ())), (s.1, (s.2.1, (s.2.2, ()))))) = some (((0 : Int), ()), ((par, (at', ())), (s.1, ((endS t.2.1 at' s.2.1 s.2.2).1, ((endS t.2.1 at' s.2.1 s.2.2).2, ()))))) := by
 have hle := h.le
 have hf := h.fl
 have hne : s.2.1.length ≠ 0 := fun e => h.ne (List.length_eq_zero_iff.1 e)
 unfold yv
 simp only [Option.bind_some]
 refine zhk t.2.1 s.2.1 (fun j => ((j, ()), ((par, (at', ())), ((t, ()), (s.1, (s.2.1, (s.2.2, ()))))))) (fun j => .inr (((0 : Int), ()), ((par, (at', ())), (s.1, (s.2.1.take j, ((if s.2.1.length - j > 1 then s.2.2 ++ [((162 : Int), at')] else s.2.2), ())))))) (.inl ((), ((par, (at', ())), (s.1, (s.2.1, (s.2.2, ())))))) 5000 (s.2.1.length - 1) (by omega) (by omega) (by rw [zkq hne (by omega)]) ?_ ?_ ?_
 ·rfl
 ·intro j o h1 hj
  have hlt := (List.getElem?_eq_some_iff.1 hj).1
  simp only [decide_eq_true (show (j : Int) > 0 by omega), cond_true, ltB hlt, Int.toNat_natCast, hj, Option.bind_some]
  cases hb : (o.2 == t.2.1) with
  | false => simp only [cond_false, Bool.false_eq_true, if_false, jj (show -9223372036854775808 ≤ (j : Int) - 1 by omega) (show (j : Int) - 1 ≤ 9223372036854775807 by omega)]
  | true =>
   unfold y4
   simp only [cond_true, if_true, zly (show j ≤ s.2.1.length by omega), Option.bind_some, jj (show -9223372036854775808 ≤ (s.2.1.length : Int) - (j : Int) by omega) (show (s.2.1.length : Int) - (j : Int) ≤ 9223372036854775807 by omega)]
   by_cases hg : s.2.1.length - j > 1
   ·simp only [decide_eq_true (show (s.2.1.length : Int) - (j : Int) > 1 by omega), cond_true, zgq (Ev.upto 5000) 162 at' par _ _ s.2.2 (by omega), Option.bind_some, if_pos hg]
   ·simp only [decide_eq_false (show ¬ (s.2.1.length : Int) - (j : Int) > 1 by omega), cond_false, Option.bind_some, if_neg hg]
 ·unfold endS
  by_cases h0 : fndE t.2.1 s.2.1 (s.2.1.length - 1) = 0
  ·rw [if_pos h0, if_pos h0]
   simp only [zgq (Ev.upto 5000) 160 at' par _ s.2.1 s.2.2 (by omega), Option.bind_some]
  ·rw [if_neg h0, if_neg h0]
noncomputable def vh (d : List Nd) (x : Int) (l : List Tk) (par : Bool) : Int × List Nd × List Fl :=
 if chk d = 0 then (match idx d x with
  | some p => if p.1 ≤ 2 then (match runS par 0 l (d, ([(x, [])], [])) with
   | .inl s => (0, s.1, if s.2.1.length > 1 then s.2.2 ++ [((162 : Int), (l.length : Int))] else s.2.2)
   | .inr e => (e, [], [])) else (170, [], [])
  | none => (170, [], [])) else (chk d, [], [])
def TkOk (t : Tk) : Prop := t.2.1.length ≤ 300 ∧ t.2.2.1.length ≤ 2000 ∧ t.2.2.2.1.length ≤ 50 ∧ ∀ a, a ∈ t.2.2.2.1 → a.1.length ≤ 300 ∧ a.2.length ≤ 1000
def zbz (l : List Tk) : Prop := l.length ≤ 100 ∧ ∀ t, t ∈ l → TkOk t
theorem IB.first {d : List Nd} (R : zb d) (h : uz d) {x : Int} {p : Nd} (hp : idx d x = some p) (h2 : p.1 ≤ 2) : IB 0 (d, ([(x, [])], [])) := by
 have hm := R.may p (List.mem_of_getElem? (zc hp).2.2)
 refine ⟨R, h.sk, by simp, by simp, fun o ho => ?_, fun j o hj h1 => ?_, by simp⟩
 ·rw [List.mem_singleton.1 ho]
  refine ⟨p, hp, ?_⟩
  unfold zo
  unfold mayB at hm
  by_cases h : p.1 = 2
  ·simp [h]
  ·rw [if_neg h] at hm
   simp only [Bool.and_eq_true, decide_eq_true_eq] at hm
   have : p.1 = 1 := by omega
   simp [this]
 ·have := (List.getElem?_eq_some_iff.1 hj).1
  simp only [List.length_cons, List.length_nil] at this
  omega
theorem zbp {β : Type} (par : Bool) (err : Int → β) (fin : BS → β) : ∀ (l : List Tk) (i : Nat) (s : BS), zq (fun (i : Nat) (t : Tk) (s : BS) => (match tokB par t (i : Int) s with | .inl s' => .inl s' | .inr e => .inr (err e) : BS ⊕ β)) fin i l s = match runS par i l s with
  | .inl s' => fin s'
  | .inr e => err e
 | [], i, s => rfl
 | t :: l, i, s => by
  unfold zq runS
  cases h : tokB par t (i : Int) s with
  | inl s' => exact zbp par err fin l (i + 1) s'
  | inr e => rfl
theorem vx {d : List Nd} {op : List Op} {n : Nd} {r : List Op × List Fl} {e : Int} (h : layS d op n r = .inr e) : e ≠ 0 := by
 unfold layS at h
 split at h
 ·cases h
 ·simp only [Sum.inr.injEq] at h; rw [← h]; assumption
theorem zdl {par : Bool} : ∀ {l : List Tk}, zbz l → ∀ (i : Nat) {s s' : BS}, IB i s → i + l.length ≤ 200 → runS par i l s = .inl s' → IB (i + l.length) s'
 | [], _, i, s, s', h, _, e => by
  unfold runS at e
  simp only [Sum.inl.injEq] at e
  rw [← e]
  exact h
 | t :: l, hl, i, s, s', h, hi, e => by
  unfold runS at e
  cases hT : tokB par t (i : Int) s with
  | inr e' => rw [hT] at e; cases e
  | inl s2 =>
   rw [hT] at e
   have ht := hl.2 t (List.mem_cons_self ..)
   have := zdl (l := l) ⟨by have := hl.1; simp only [List.length_cons] at this; omega, fun a ha => hl.2 a (List.mem_cons_of_mem _ ha)⟩ (i + 1) (h.step ht.2.2.1 hT) (by simp only [List.length_cons] at hi; omega) e
   rw [show i + (t :: l).length = i + 1 + l.length by simp only [List.length_cons]; omega]
   exact this
theorem zy7 (V : Ev) (k : Int) (par : Bool) (at' : Int) (d : List Nd) (op : List Op) (fl : List Fl) : yq V ((k, ()), ((par, (at', ())), (d, (op, (fl, ()))))) = some (((if k = 1 then 0 else if k = 4 then 1 else if k = 2 then 2 else if k = 3 then 3 else 4 : Nat), ()), ((par, (at', ())), (d, (op, (fl, ()))))) := by
 unfold yq
 by_cases h1 : k = 1
 ·subst h1; rfl
 ·by_cases h4 : k = 4
  ·subst h4; rfl
  ·by_cases h2 : k = 2
   ·subst h2; rfl
   ·by_cases h3 : k = 3
    ·subst h3; rfl
    ·simp only [beq_eq_false_iff_ne.2 h1, beq_eq_false_iff_ne.2 h2, beq_eq_false_iff_ne.2 h3, beq_eq_false_iff_ne.2 h4, cond_false, if_neg h1, if_neg h2, if_neg h3, if_neg h4]
theorem zks (d : List Nd) (x : Int) (l : List Tk) (par : Bool) (hd : uz d) (hl : zbz l) : jp (Ev.upto 5000) ((d, (x, (l, (par, ())))), ()) = some (((vh d x l par).1, ()), ((vh d x l par).2.1, ((vh d x l par).2.2, ()))) := by
 have hs := hd.sm
 have hl1 := hl.1
 unfold jp vh
 simp only [jc d hs, Option.bind_some]
 by_cases hc : chk d = 0
 ·have R := chk0.1 hc
  rw [if_pos hc]
  simp only [hc, bne_self_eq_false, cond_false]
  by_cases hx : In' d x
  ·obtain ⟨p, hp, hg⟩ := yy hx.1 hx.2
   simp only [decide_eq_false (show ¬ x < 0 by have := hx.1; omega), decide_eq_false (show ¬ x ≥ (d.length : Int) by have := hx.2; omega), beq_self_eq_true, cond_true, hp, Option.bind_some]
   by_cases h2 : p.1 ≤ 2
   ·rw [if_pos h2]
    simp only [decide_eq_false (show ¬ p.1 > 2 by omega), cond_false, zh5 d hs.1, Option.bind_some]
    refine zj (l := d) (σ := Unit) (fun i _ => ((x, (l, (par, ((d.length : Int), ((i : Int), ()))))), ((), ((), ((2 * i, d), ()))))) (fun _ _ _ => .inl ()) (fun _ => ((x, (l, (par, ()))), ((), ((), ((2 * d.length, d), ()))))) (fun _ _ => True) () rfl trivial (by have := hs.1; omega) (fun i s hi _ => ⟨?_, fun _ _ => trivial⟩) (fun s _ => ?_) ?_
    ·have hm := hs.2 _ (List.getElem_mem hi)
     have := hs.1
     have e1 : d.set ((i : Nat) : Int).toNat (d[i].1, (d[i].2.1, (d[i].2.2.1, (d[i].2.2.2.1, d[i].2.2.2.2)))) = d := vr hi
     have e2 : d.set ((i : Nat) : Int).toNat (d[i].1, (d[i].2.1, (d[i].2.2.1, (d[i].2.2.2.1, (d[i].2.2.2.2.1, (d[i].2.2.2.2.2.1, d[i].2.2.2.2.2.2)))))) = d := vr hi
     simp only [zp, decide_eq_true hi, cond_true, decide_eq_true (show (0 : Int) ≤ (i : Int) by omega), Bool.and_self, getN hi, Option.bind_some, zrj, zrk, zrl, Nat.le_refl, decide_true, beq_self_eq_true, zee _ hm.1, zh4 _ hm.2, e1, e2, zy (show i < 1000000 by omega)]
     simp only [Int.toNat_natCast, Nat.le_refl, decide_true, beq_self_eq_true, cond_true]
     rfl
    ·simp only [zp, Nat.lt_irrefl, decide_false, cond_false]
    ·rw [x7 _ _ _ _ (fun _ _ => rfl)]
     simp only [zrm, beq_self_eq_true, cond_true]
     unfold zn
     simp only [zhj (show ([] : List Op).length + ([(x, ([] : Bs))] : List Op).length ≤ 10000 by simp) (show 24 ≤ 1000 by omega), cond_true, Option.bind_some, List.nil_append]
     refine zj (l := l) (σ := BS) (fun i s => ((l, (l, ((l.length : Int), ((i : Int), ())))), ((), ((par, (((i - 1 : Nat) : Int), ())), (s.1, (s.2.1, (s.2.2, ()))))))) (fun i t s => match tokB par t (i : Int) s with | .inl s' => .inl s' | .inr e => .inr (.inr ((e, ()), ((), ())))) (fun s => .inl ((l, ()), ((), ((par, (((l.length - 1 : Nat) : Int), ())), (s.1, (s.2.1, (s.2.2, ()))))))) (fun i s => IB i s) (d, ([(x, [])], [])) rfl (IB.first R hd hp h2) (by omega) (fun i s hi hI => ⟨?_, fun s' e => ?_⟩) (fun s _ => ?_) ?_
     ·have ht := hl.2 _ (List.getElem_mem hi)
      have hi' : i ≤ 200 := by omega
      simp only [zp, decide_eq_true hi, cond_true, zh hi, Option.bind_some, zy7 (Ev.upto 5000) l[i].1 par (i : Int) s.1 s.2.1 s.2.2]
      unfold tokB
      by_cases k1 : l[i].1 = 1
      ·have := zy6 hi' hI l[i] par (i : Int)
       simp only [if_pos k1]
       rw [this]
       cases hL : layS s.1 s.2.1 (inn 3 [] l[i].2.2.1 [] false) s.2 with
       | inl s' =>
        simp only [show decide ((0 : Nat) < 4) = true from rfl, beq_self_eq_true, cond_true, Option.bind_some, bne_self_eq_false, cond_false, zy (show i < 1000000 by omega)]
        rfl
       | inr e => simp only [show decide ((0 : Nat) < 4) = true from rfl, beq_self_eq_true, cond_true, Option.bind_some, bne_iff_ne.2 (vx hL)]
      ·by_cases k4 : l[i].1 = 4
       ·have := zgr hi' hI l[i] par (i : Int)
        simp only [if_neg k1, if_pos k4]
        rw [this]
        cases hL : layS s.1 s.2.1 (inn 4 [] l[i].2.2.1 [] false) s.2 with
        | inl s' =>
         simp only [show decide ((1 : Nat) < 4) = true from rfl, show ((1 : Nat) == 0) = false from rfl, show ((1 - 1 : Nat) == 0) = true from rfl, cond_true, cond_false, Option.bind_some, bne_self_eq_false, zy (show i < 1000000 by omega)]
         rfl
        | inr e => simp only [show decide ((1 : Nat) < 4) = true from rfl, show ((1 : Nat) == 0) = false from rfl, show ((1 - 1 : Nat) == 0) = true from rfl, cond_true, cond_false, Option.bind_some, bne_iff_ne.2 (vx hL)]
       ·by_cases k2 : l[i].1 = 2
        ·have := zkr hi' hI l[i] ht.2.2.1 par (i : Int)
         simp only [if_neg k1, if_neg k4, if_pos k2]
         rw [this]
         cases hL : layS s.1 s.2.1 (inn 2 l[i].2.1 [] l[i].2.2.2.1 par) (if (l[i].2.2.2.2 || qy l[i].2.1) = true then s.2 else if 30 ≤ s.2.1.length then (s.2.1, s.2.2 ++ [((161 : Int), (i : Int))]) else (s.2.1 ++ [((s.1.length : Int), l[i].2.1)], s.2.2)) with
         | inl s' =>
          simp only [show decide ((2 : Nat) < 4) = true from rfl, show ((2 : Nat) == 0) = false from rfl, show ((2 - 1 : Nat) == 0) = false from rfl, show ((2 - 1 - 1 : Nat) == 0) = true from rfl, cond_true, cond_false, Option.bind_some, bne_self_eq_false, zy (show i < 1000000 by omega)]
          rfl
         | inr e => simp only [show decide ((2 : Nat) < 4) = true from rfl, show ((2 : Nat) == 0) = false from rfl, show ((2 - 1 : Nat) == 0) = false from rfl, show ((2 - 1 - 1 : Nat) == 0) = true from rfl, cond_true, cond_false, Option.bind_some, bne_iff_ne.2 (vx hL)]
        ·by_cases k3 : l[i].1 = 3
         ·have := endP hi' hI l[i] par (i : Int)
          simp only [if_neg k1, if_neg k4, if_neg k2, if_pos k3]
          rw [this]
          simp only [show decide ((3 : Nat) < 4) = true from rfl, show ((3 : Nat) == 0) = false from rfl, show ((3 - 1 : Nat) == 0) = false from rfl, show ((3 - 1 - 1 : Nat) == 0) = false from rfl, show ((3 - 1 - 1 - 1 : Nat) == 0) = true from rfl, cond_true, cond_false, Option.bind_some, bne_self_eq_false, zy (show i < 1000000 by omega)]
          rfl
         ·simp only [if_neg k1, if_neg k4, if_neg k2, if_neg k3, show decide ((4 : Nat) < 4) = false from rfl, cond_false, Option.bind_some, zy (show i < 1000000 by omega)]
          rfl
     ·have ht := hl.2 _ (List.getElem_mem hi)
      cases hT : tokB par l[i] (i : Int) s with
      | inr e' => rw [hT] at e; cases e
      | inl s2 =>
       rw [hT] at e
       simp only [Sum.inl.injEq] at e
       rw [← e]
       exact hI.step ht.2.2.1 hT
     ·simp only [zp, Nat.lt_irrefl, decide_false, cond_false]
     ·rw [zbp]
      cases hr : runS par 0 l (d, ([(x, [])], [])) with
      | inr e => rfl
      | inl s =>
       have hI := zdl hl 0 (IB.first R hd hp h2) (by omega) hr
       have hf := hI.fl
       simp only
       by_cases hg : s.2.1.length > 1
       ·simp only [decide_eq_true (show (s.2.1.length : Int) > 1 by omega), cond_true, zgq (Ev.upto 5000) 162 (l.length : Int) par _ _ s.2.2 (by omega), Option.bind_some, if_pos hg]
       ·simp only [decide_eq_false (show ¬ (s.2.1.length : Int) > 1 by omega), cond_false, Option.bind_some, if_neg hg]
   ·rw [if_neg h2]
    simp only [decide_eq_true (show p.1 > 2 by omega), cond_true]
  ·rw [wa hx]
   by_cases h0 : x < 0
   ·simp only [decide_eq_true h0, Bool.true_beq, cond_false, Option.bind_some, cond_true]
   ·have h1 : x ≥ (d.length : Int) := by unfold In' at hx; omega
    simp only [decide_eq_false h0, decide_eq_true h1, beq_self_eq_true, Bool.true_beq, Option.bind_some, cond_true, cond_false]
 ·rw [if_neg hc]
  simp only [bne_iff_ne.2 hc, cond_true]
theorem z67 (V : Ev) (s : Bs) : k8 V ((s, ()), ()) = some ((qy s, ()), ()) := by
 unfold k8 qy
 cases (s == ([98, 114] : Bs)) <;> cases (s == ([104, 114] : Bs)) <;> cases (s == ([105, 109, 103] : Bs)) <;> cases (s == ([105, 110, 112, 117, 116] : Bs)) <;> cases (s == ([108, 105, 110, 107] : Bs)) <;> cases (s == ([109, 101, 116, 97] : Bs)) <;> rfl
theorem z1i (V : Ev) (c at' b : Int) (par : Bool) (d : List Nd) (op : List Int) (fl : List Fl) (h : fl.length ≤ 1000) : yx V ((c, (at', ())), ((b, (par, ())), (d, (op, (fl, ()))))) = some ((), ((b, (par, ())), (d, (op, (fl ++ [(c, at')], ()))))) := by
 unfold yx
 simp only [zhj (show fl.length + ([(c, at')] : List Fl).length ≤ 10000 by simp; omega) (show 16 ≤ 1000 by omega), cond_true]
abbrev nums (op : List Op) : List Int := op.map fun o => o.1
theorem z3l {i : Nat} (hi : i ≤ 200) {s : BS} (h : IB i s) (n : Nd) (h1 : n.2.2.2.1.length ≤ 4000) (h2 : n.2.2.2.2.2.1.length ≤ 4000) (par : Bool) :
  x1 (Ev.upto 5000) ((n, ()), (((0 : Int), (par, ())), (s.1, (nums s.2.1, (s.2.2, ()))))) = if layE s.1 n = 0 then some (((s.1.length : Int), ()), (((0 : Int), (par, ())), (layD s.1 (top s.2.1) n, (nums s.2.1, (s.2.2, ()))))) else some (((0 : Int), ()), ((layE s.1 n, (par, ())), (s.1, (nums s.2.1, (s.2.2, ()))))) := by
 have hs : Sm s.1 := h.sk.sm (by omega)
 have hlen := h.R.len
 unfold x1
 simp only [Option.bind_some, z3k s.1 n hs h1 h2, decide_true, if_true, bne_self_eq_false, cond_false]
 by_cases hE : layE s.1 n = 0
 ·obtain ⟨o, hom, hg, ht⟩ := q8 h.ne
  obtain ⟨p, hp, hh⟩ := h.op o hom
  rw [← ht] at hp
  obtain ⟨R', hmk, hput⟩ := layR h.R hE hp hh
  have hle := h.le
  have hne : s.2.1.length ≠ 0 := fun e => h.ne (List.length_eq_zero_iff.1 e)
  have hgn : (nums s.2.1)[s.2.1.length - 1]? = some (top s.2.1) := by rw [List.getElem?_map, hg, ht]; rfl
  rw [if_pos hE, hmk]
  simp only [bne_self_eq_false, cond_false, List.length_map, zkq hne (by omega), ltB (show s.2.1.length - 1 < s.2.1.length by omega), cond_true, Int.toNat_natCast, hgn, Option.bind_some]
  rw [z6l _ _ _ (zv8 hs (by omega) h1), hput]
  simp only [Option.bind_some, decide_true, if_true]
 ·rw [if_neg hE, zn1 h.R hE]
  simp only [bne_iff_ne.2 hE, cond_true]
theorem endR {i : Nat} (hi : i ≤ 200) {s : BS} (h : IB i s) (nm : Bs) (par : Bool) (at' : Int) : jg (Ev.upto 5000) ((nm, (at', ())), (((0 : Int), (par, ())), (s.1, (nums s.2.1, (s.2.2, ()))))) = some ((), (((0 : Int), (par, ())), (s.1, (nums (endS nm at' s.2.1 s.2.2).1, ((endS nm at' s.2.1 s.2.2).2, ()))))) := by
 have hle := h.le
 have hf := h.fl
 have hne : s.2.1.length ≠ 0 := fun e => h.ne (List.length_eq_zero_iff.1 e)
 unfold jg
 simp only [Option.bind_some]
 refine zhk nm s.2.1 (fun j => ((nm, (at', (j, ()))), (((0 : Int), (par, ())), (s.1, (nums s.2.1, (s.2.2, ())))))) (fun j => .inr ((), (((0 : Int), (par, ())), (s.1, (nums (s.2.1.take j), ((if s.2.1.length - j > 1 then s.2.2 ++ [((162 : Int), at')] else s.2.2), ())))))) (.inl ((at', ()), (((0 : Int), (par, ())), (s.1, (nums s.2.1, (s.2.2, ())))))) 5000 (s.2.1.length - 1) (by omega) (by omega) (by rw [List.length_map, zkq hne (by omega)]) ?_ ?_ ?_
 ·rfl
 ·intro j o h1 hj
  have hlt := (List.getElem?_eq_some_iff.1 hj).1
  obtain ⟨p, hp, hn⟩ := h.nm j o hj h1
  obtain ⟨g1, g2, g3⟩ := getX hp
  have hgn : (nums s.2.1)[j]? = some o.1 := by rw [List.getElem?_map, hj]; rfl
  simp only [decide_eq_true (show (j : Int) ≥ 1 by omega), cond_true, List.length_map, ltB hlt, Int.toNat_natCast, hgn, Option.bind_some, g1, g2, hn]
  cases hb : (o.2 == nm) with
  | false => simp only [Bool.not_false, cond_true, Bool.false_eq_true, if_false, jj (show -9223372036854775808 ≤ (j : Int) - 1 by omega) (show (j : Int) - 1 ≤ 9223372036854775807 by omega)]
  | true =>
   have htk : sl (nums s.2.1) 0 (j : Int) = some (nums (s.2.1.take j)) := by rw [zly (by rw [List.length_map]; omega)]; show some ((s.2.1.map _).take j) = some ((s.2.1.take j).map _); rw [List.map_take]
   simp only [Bool.not_true, cond_false, if_true, zkq hne (show s.2.1.length ≤ 1000 by omega)]
   by_cases hg : s.2.1.length - j > 1
   ·simp only [decide_eq_true (show (j : Int) < ((s.2.1.length - 1 : Nat) : Int) by omega), cond_true, z1i (Ev.upto 5000) 162 at' 0 par _ (nums s.2.1) s.2.2 (by omega), Option.bind_some, if_pos hg, htk]
   ·simp only [decide_eq_false (show ¬ (j : Int) < ((s.2.1.length - 1 : Nat) : Int) by omega), cond_false, Option.bind_some, if_neg hg, htk]
 ·unfold endS
  by_cases h0 : fndE nm s.2.1 (s.2.1.length - 1) = 0
  ·rw [if_pos h0, if_pos h0]
   simp only [z1i (Ev.upto 5000) 160 at' 0 par _ (nums s.2.1) s.2.2 (by omega), Option.bind_some]
  ·rw [if_neg h0, if_neg h0]
theorem tokR {i : Nat} (hi : i ≤ 200) {s : BS} (h : IB i s) (t : Tk) (ht : t.2.2.2.1.length ≤ 50) (par : Bool) (at' : Int) : qq (Ev.upto 5000) ((t, (at', ())), (((0 : Int), (par, ())), (s.1, (nums s.2.1, (s.2.2, ()))))) = match tokB par t at' s with
  | .inl s' => some ((), (((0 : Int), (par, ())), (s'.1, (nums s'.2.1, (s'.2.2, ())))))
  | .inr e => some ((), ((e, (par, ())), (s.1, (nums s.2.1, (s.2.2, ()))))) := by
 have hle := h.le
 have hf := h.fl
 unfold qq tokB
 simp only [Option.bind_some]
 by_cases k1 : t.1 = 1
 ·have hl := z3l hi h (inn 3 [] t.2.2.1 [] false) (by show ([] : List At).length ≤ _; simp) (by show ([] : List Int).length ≤ _; simp) par
  rw [if_pos k1]
  unfold inn at hl ⊢
  simp only [k1, beq_self_eq_true, cond_true, hl]
  unfold layS
  split
  ·simp only [Option.bind_some]
  ·simp only [Option.bind_some]
 ·rw [if_neg k1]
  simp only [beq_eq_false_iff_ne.2 k1, cond_false]
  by_cases k4 : t.1 = 4
  ·have hl := z3l hi h (inn 4 [] t.2.2.1 [] false) (by show ([] : List At).length ≤ _; simp) (by show ([] : List Int).length ≤ _; simp) par
   rw [if_pos k4]
   unfold inn at hl ⊢
   simp only [k4, beq_self_eq_true, cond_true, hl]
   unfold layS
   split
   ·simp only [Option.bind_some]
   ·simp only [Option.bind_some]
  ·rw [if_neg k4]
   simp only [beq_eq_false_iff_ne.2 k4, cond_false]
   by_cases k2 : t.1 = 2
   ·have hl := z3l hi h (inn 2 t.2.1 [] t.2.2.2.1 par) (by show t.2.2.2.1.length ≤ _; omega) (by show ([] : List Int).length ≤ _; simp) par
    rw [if_pos k2]
    unfold inn at hl ⊢
    simp only [k2, beq_self_eq_true, cond_true, hl]
    unfold layS
    split
    ·simp only [Option.bind_some, bne_self_eq_false, beq_self_eq_true, cond_true, z67 (Ev.upto 5000) t.2.1]
     cases hc : t.2.2.2.2 with
     | true => simp only [Bool.true_beq, cond_false, Option.bind_some, cond_true, Bool.true_or, if_true]
     | false =>
      simp only [beq_self_eq_true, cond_true, Option.bind_some, Bool.false_or]
      cases hv : qy t.2.1 with
      | true => simp only [cond_true, if_true, Option.bind_some]
      | false =>
       simp only [cond_false, Bool.false_eq_true, if_false, List.length_map]
       have hge : decide ((s.2.1.length : Int) ≥ 30) = decide (30 ≤ s.2.1.length) := zo8 s.2.1.length 30
       simp only [hge]
       by_cases h30 : 30 ≤ s.2.1.length
       ·simp only [decide_eq_true h30, cond_true, z1i (Ev.upto 5000) 161 at' 0 par _ (nums s.2.1) s.2.2 (by omega), Option.bind_some, if_pos h30]
       ·simp only [decide_eq_false h30, cond_false, zhj (show s.2.1.length + ([(s.1.length : Int)] : List Int).length ≤ 10000 by simp; omega) (show 8 ≤ 1000 by omega), cond_true, Option.bind_some, if_neg h30, List.map_append, List.map_cons, List.map_nil]
    ·rename_i hE
     simp only [Option.bind_some, bne_iff_ne.2 hE, Bool.true_beq, cond_false, cond_true]
   ·rw [if_neg k2]
    simp only [beq_eq_false_iff_ne.2 k2, cond_false]
    by_cases k3 : t.1 = 3
    ·rw [if_pos k3]
     simp only [k3, beq_self_eq_true, cond_true, endR hi h t.2.1 par at', Option.bind_some]
    ·rw [if_neg k3]
     simp only [beq_eq_false_iff_ne.2 k3, cond_false, Option.bind_some]
def refG {β : Type} (par : Bool) (out : BS × Int → β) (i : Nat) (t : Tk) (s : BS × Int) : (BS × Int) ⊕ β := if s.2 = 0 then .inl (match tokB par t (i : Int) s.1 with | .inl s' => (s', 0) | .inr e => (s.1, e)) else .inr (out s)
theorem z1j {β : Type} (par : Bool) (out : BS × Int → β) (l : List Tk) (i : Nat) {s : BS × Int} (h : s.2 ≠ 0) : zq (refG par out) out i l s = out s := by
 cases l with
 | nil => rfl
 | cons t l =>
  unfold zq refG
  rw [if_neg h]
theorem zuw {β : Type} (par : Bool) (out : BS × Int → β) : ∀ (l : List Tk) (i : Nat) (s : BS), (∃ s', runS par i l s = .inl s' ∧ zq (refG par out) out i l (s, 0) = out (s', 0)) ∨ ∃ e s', runS par i l s = .inr e ∧ e ≠ 0 ∧ zq (refG par out) out i l (s, 0) = out (s', e)
 | [], i, s => .inl ⟨s, rfl, rfl⟩
 | t :: l, i, s => by
  unfold runS
  cases h : tokB par t (i : Int) s with
  | inl s' =>
   have e : zq (refG par out) out i (t :: l) (s, 0) = zq (refG par out) out (i + 1) l (s', 0) := by
    show (match refG par out i t (s, 0) with | .inl s' => zq (refG par out) out (i + 1) l s' | .inr b => b) = _
    have : refG par out i t (s, 0) = .inl (s', 0) := by unfold refG; rw [if_pos rfl, h]
    rw [this]
   rw [e]
   exact zuw par out l (i + 1) s'
  | inr e =>
   have e1 : zq (refG par out) out i (t :: l) (s, 0) = zq (refG par out) out (i + 1) l (s, e) := by
    show (match refG par out i t (s, 0) with | .inl s' => zq (refG par out) out (i + 1) l s' | .inr b => b) = _
    have : refG par out i t (s, 0) = .inl (s, e) := by unfold refG; rw [if_pos rfl, h]
    rw [this]
   refine .inr ⟨e, s, rfl, zdc h, ?_⟩
   rw [e1, z1j par out l (i + 1) (zdc h)]
theorem z3m (d : List Nd) (x : Int) (l : List Tk) (par : Bool) (hd : uz d) (hl : zbz l) : k9 (Ev.upto 5000) ((d, (x, (l, (par, ())))), ()) = some (((vh d x l par).1, ()), ((vh d x l par).2.1, ((vh d x l par).2.2, ()))) := by
 have hs := hd.sm
 have hl1 := hl.1
 unfold k9 vh
 simp only [zo7 d hs, Option.bind_some]
 by_cases hc : chk d = 0
 ·have R := chk0.1 hc
  rw [if_pos hc]
  simp only [hc, bne_self_eq_false, cond_false]
  by_cases hx : In' d x
  ·obtain ⟨p, hp, hg⟩ := yy hx.1 hx.2
   simp only [decide_eq_false (show ¬ x < 0 by have := hx.1; omega), decide_eq_false (show ¬ x ≥ (d.length : Int) by have := hx.2; omega), beq_self_eq_true, cond_true, hp, Option.bind_some]
   by_cases h2 : p.1 ≤ 2
   ·rw [if_pos h2]
    simp only [decide_eq_false (show ¬ p.1 > 2 by omega), cond_false, own d hs, Option.bind_some]
    refine zj (l := l) (σ := BS × Int) (fun i s => ((l, ((i : Int), ())), ((), ((s.2, (par, ())), (s.1.1, (nums s.1.2.1, (s.1.2.2, ()))))))) (refG par fun s => ((l, ()), ((), ((s.2, (par, ())), (s.1.1, (nums s.1.2.1, (s.1.2.2, ()))))))) (fun s => ((l, ()), ((), ((s.2, (par, ())), (s.1.1, (nums s.1.2.1, (s.1.2.2, ()))))))) (fun i s => s.2 = 0 → IB i s.1) ((d, ([(x, [])], [])), 0) rfl (fun _ => IB.first R hd hp h2) (by omega) (fun i s hi hI => ⟨?_, fun s' e => ?_⟩) (fun s _ => ?_) ?_
    ·have ht := hl.2 _ (List.getElem_mem hi)
     simp only [zp, decide_eq_true hi, beq_self_eq_true, cond_true, Option.bind_some]
     unfold refG
     by_cases hb : s.2 = 0
     ·obtain ⟨s, b⟩ := s
      simp only at hb hI
      subst hb
      have := tokR (show i ≤ 200 by omega) (hI rfl) l[i] ht.2.2.1 par (i : Int)
      simp only [beq_self_eq_true, cond_true, zh hi, Option.bind_some, this, if_true]
      cases hT : tokB par l[i] (i : Int) s with
      | inl s' => simp only [Option.bind_some, zy (show i < 1000000 by omega)]
      | inr e => simp only [Option.bind_some, zy (show i < 1000000 by omega)]
     ·simp only [beq_eq_false_iff_ne.2 hb, cond_false, if_neg hb]
    ·have ht := hl.2 _ (List.getElem_mem hi)
     unfold refG at e
     by_cases hb : s.2 = 0
     ·rw [if_pos hb] at e
      simp only [Sum.inl.injEq] at e
      intro h0
      cases hT : tokB par l[i] (i : Int) s.1 with
      | inr e' =>
       rw [hT] at e
       rw [← e] at h0
       exact absurd h0 (zdc hT)
      | inl s2 =>
       rw [hT] at e
       rw [← e]
       exact (hI hb).step ht.2.2.1 hT
     ·rw [if_neg hb] at e
      cases e
    ·simp only [zp, Nat.lt_irrefl, decide_false, Bool.false_beq, show (false == true) = false from rfl, cond_false, Option.bind_some]
    ·rcases zuw par (fun s : BS × Int => ((l, ()), ((), ((s.2, (par, ())), (s.1.1, (nums s.1.2.1, (s.1.2.2, ()))))))) l 0 (d, ([(x, [])], [])) with ⟨s, hr, hf⟩ | ⟨e, s, hr, he, hf⟩
     ·rw [hf, hr]
      have hI := zdl hl 0 (IB.first R hd hp h2) (by omega) hr
      have hfl := hI.fl
      simp only [bne_self_eq_false, cond_false, List.length_map]
      by_cases hg : s.2.1.length > 1
      ·simp only [decide_eq_true (show (s.2.1.length : Int) > 1 by omega), cond_true, z1i (Ev.upto 5000) 162 (l.length : Int) 0 par _ (nums s.2.1) s.2.2 (by omega), Option.bind_some, if_pos hg]
      ·simp only [decide_eq_false (show ¬ (s.2.1.length : Int) > 1 by omega), cond_false, Option.bind_some, if_neg hg]
     ·rw [hf, hr]
      simp only [bne_iff_ne.2 he, cond_true]
   ·rw [if_neg h2]
    simp only [decide_eq_true (show p.1 > 2 by omega), cond_true]
  ·rw [wa hx]
   by_cases h0 : x < 0
   ·simp only [decide_eq_true h0, Bool.true_beq, cond_false, Option.bind_some, cond_true]
   ·have h1 : x ≥ (d.length : Int) := by unfold In' at hx; omega
    simp only [decide_eq_false h0, decide_eq_true h1, beq_self_eq_true, Bool.true_beq, Option.bind_some, cond_true, cond_false]
 ·rw [if_neg hc]
  simp only [bne_iff_ne.2 hc, cond_true]
def AtOk (a : At) : Prop := a.1.length ≤ 300 ∧ a.2.length ≤ 1000
theorem z68 (N : Nat) (l : List At) (hl : l.length < N) (hb : l.length ≤ 1000000) : x3 (Ev.upto N) ((l, (l, ())), ()) = some ((true, ()), ()) := by
 apply zv1
 unfold x3
 have cz : ((l.length : Int) != (l.length : Int)) = false := by simp
 simp -implicitDefEqProofs only [cz, cond_false]
 refine bz ?_
 refine bo (σ := Unit) (fun i _ => ((l, (l, ((i : Int), ()))), ())) (fun i _ => True) l.length () rfl trivial hl ?_
 rintro i _ hi _
 by_cases hi' : i < l.length
 ·have c0 : decide ((i : Int) < (l.length : Int)) = true := decide_eq_true (by omega)
  have w : IntKind.wrap .i64 ((i : Int) + 1) = ((i + 1 : Nat) : Int) := by rw [jj (by omega) (by omega)]; omega
  simp -implicitDefEqProofs only [c0, cond_true, zh hi', Option.bind_some, w, beq_self_eq_true, Bool.and_self, Bool.not_true, cond_false]
  exact ⟨_, rfl, hi', (), rfl, trivial⟩
 ·have c0 : decide ((i : Int) < (l.length : Int)) = false := decide_eq_false (by omega)
  simp -implicitDefEqProofs only [c0, cond_false]
  exact ⟨_, rfl, _, rfl, rfl⟩
theorem z8q (N : Nat) (t : Tk) (h : t.2.2.2.1.length ≤ 4000) (hN : 4000 < N) : zdi (Ev.upto N) ((t, (t, ())), ()) = some ((true, ()), ()) := by
 unfold zdi
 have q := z68 N t.2.2.2.1 (by omega) (by omega)
 simp -implicitDefEqProofs only [beq_self_eq_true, cond_true, q, Option.bind_some]
theorem z73 (N : Nat) (l : List Tk) (hl : l.length ≤ 4000) (h : ∀ t ∈ l, t.2.2.2.1.length ≤ 4000) (hN : 4000 < N) : zcg (Ev.upto N) ((l, (l, ())), ()) = some ((true, ()), ()) := by
 apply zv1
 unfold zcg
 have cz : ((l.length : Int) != (l.length : Int)) = false := by simp
 simp -implicitDefEqProofs only [cz, cond_false]
 refine bz ?_
 refine bo (σ := Unit) (fun i _ => ((l, (l, ((i : Int), ()))), ())) (fun i _ => True) l.length () rfl trivial (by omega) ?_
 rintro i _ hi _
 by_cases hi' : i < l.length
 ·have c0 : decide ((i : Int) < (l.length : Int)) = true := decide_eq_true (by omega)
  have w : IntKind.wrap .i64 ((i : Int) + 1) = ((i + 1 : Nat) : Int) := by rw [jj (by omega) (by omega)]; omega
  have q := z8q N l[i] (h _ (List.getElem_mem hi')) hN
  simp -implicitDefEqProofs only [c0, cond_true, zh hi', Option.bind_some, w, q, Bool.not_true, cond_false]
  exact ⟨_, rfl, hi', (), rfl, trivial⟩
 ·have c0 : decide ((i : Int) < (l.length : Int)) = false := decide_eq_false (by omega)
  simp -implicitDefEqProofs only [c0, cond_false]
  exact ⟨_, rfl, _, rfl, rfl⟩
theorem z8r (N : Nat) (l : List Tk) (hl : l.length ≤ 4000) (h : ∀ t ∈ l, TkOk t) (hN : 4000 < N) : zdh (Ev.upto N) ((l, ()), ()) = some ((), (l, ())) := by
 apply zv1
 unfold zdh
 refine bz ?_
 refine bo (σ := Unit) (fun i _ => ((l, ((i : Int), ())), (l.take i, ()))) (fun i _ => True) l.length () rfl trivial (by omega) ?_
 rintro i _ hi _
 by_cases hi' : i < l.length
 ·have c0 : decide ((i : Int) < (l.length : Int)) = true := decide_eq_true (by omega)
  have w : IntKind.wrap .i64 ((i : Int) + 1) = ((i + 1 : Nat) : Int) := by rw [jj (by omega) (by omega)]; omega
  obtain ⟨_, _, h3, _⟩ := h _ (List.getElem_mem hi')
  have f1 : fits l[i].2.2.2.1.length 32 = true := zmk (by omega)
  have f2 : fits ((l.take i).length + ([l[i]] : List Tk).length) 72 = true := zmk (by simp; omega)
  simp -implicitDefEqProofs only [c0, cond_true, zh hi', Option.bind_some, w, f1]
  rw [f2, cond_true]
  exact ⟨_, rfl, hi', (), by rw [List.take_succ_eq_append_getElem hi'], trivial⟩
 ·have c0 : decide ((i : Int) < (l.length : Int)) = false := decide_eq_false (by omega)
  have ht : l.take i = l := List.take_of_length_le (by omega)
  simp -implicitDefEqProofs only [c0, cond_false, ht]
  exact ⟨_, rfl, _, rfl, rfl⟩
theorem zru (N : Nat) (l : List Tk) (hN : 4000 < N) : wp (z6 (Ev.upto N) ((l, ()), ())) (fun r => ∃ b, r = ((b, ()), ()) ∧ (b = false → l.length ≤ 100 ∧ ∀ t ∈ l, TkOk t)) := by
 unfold z6
 by_cases hl : 100 < l.length
 ·rw [show decide ((l.length : Int) > 100) = true from decide_eq_true (by omega), cond_true]
  exact ⟨_, rfl, true, rfl, fun h => by cases h⟩
 ·rw [show decide ((l.length : Int) > 100) = false from decide_eq_false (by omega), cond_false]
  refine bz ?_
  refine bo (σ := Unit) (fun i _ => ((l, ((i : Int), ())), ())) (fun i _ => ∀ t ∈ l.take i, TkOk t) l.length () rfl (by simp) (by omega) ?_
  rintro i _ hi hn
  by_cases hi' : i < l.length
  ·have c0 : decide ((i : Int) < (l.length : Int)) = true := decide_eq_true (by omega)
   have w : IntKind.wrap .i64 ((i : Int) + 1) = ((i + 1 : Nat) : Int) := by rw [jj (by omega) (by omega)]; omega
   simp -implicitDefEqProofs only [c0, cond_true, zh hi', Option.bind_some, w]
   cases h1 : decide ((l[i].2.1.length : Int) > 300) with
   | true => exact ⟨_, rfl, _, rfl, true, rfl, fun h => by cases h⟩
   | false =>
    cases h2 : decide ((l[i].2.2.1.length : Int) > 2000) with
    | true => exact ⟨_, rfl, _, rfl, true, rfl, fun h => by cases h⟩
    | false =>
     cases h3 : decide ((l[i].2.2.2.1.length : Int) > 50) with
     | true => exact ⟨_, rfl, _, rfl, true, rfl, fun h => by cases h⟩
     | false =>
      have h1 := of_decide_eq_false h1
      have h2 := of_decide_eq_false h2
      have h3 := of_decide_eq_false h3
      simp -implicitDefEqProofs only [show (false == false) = true from rfl, cond_true, Option.bind_some, cond_false]
      refine bz ?_
      refine bo (σ := Unit) (fun j _ => ((l, ((i : Int), ((j : Int), ()))), ())) (fun j _ => ∀ a ∈ l[i].2.2.2.1.take j, AtOk a) l[i].2.2.2.1.length () rfl (by simp) (by omega) ?_
      rintro j _ hj hm
      by_cases hj' : j < l[i].2.2.2.1.length
      ·have c1 : decide ((j : Int) < (l[i].2.2.2.1.length : Int)) = true := decide_eq_true (by omega)
       have w1 : IntKind.wrap .i64 ((j : Int) + 1) = ((j + 1 : Nat) : Int) := by rw [jj (by omega) (by omega)]; omega
       simp -implicitDefEqProofs only [c1, cond_true, zh hi', zh hj', Option.bind_some, w1]
       cases g1 : decide ((l[i].2.2.2.1[j].1.length : Int) > 300) with
       | true => exact ⟨_, rfl, _, rfl, _, rfl, true, rfl, fun h => by cases h⟩
       | false =>
        cases g2 : decide ((l[i].2.2.2.1[j].2.length : Int) > 1000) with
        | true => exact ⟨_, rfl, _, rfl, _, rfl, true, rfl, fun h => by cases h⟩
        | false =>
         have g1 := of_decide_eq_false g1
         have g2 := of_decide_eq_false g2
         refine ⟨_, rfl, hj', (), by rw [← w1], ?_⟩
         intro a ha
         rw [List.take_succ_eq_append_getElem hj', List.mem_append, List.mem_singleton] at ha
         rcases ha with ha | rfl
         ·exact hm a ha
         ·exact ⟨by omega, by omega⟩
      ·have c1 : decide ((j : Int) < (l[i].2.2.2.1.length : Int)) = false := decide_eq_false (by omega)
       rw [List.take_of_length_le (by omega)] at hm
       simp -implicitDefEqProofs only [c1, cond_false, zh hi', Option.bind_some]
       refine ⟨_, rfl, ?_⟩
       refine ⟨_, rfl, hi', (), by rw [← w], ?_⟩
       intro t ht
       rw [List.take_succ_eq_append_getElem hi', List.mem_append, List.mem_singleton] at ht
       rcases ht with ht | rfl
       ·exact hn t ht
       ·exact ⟨by omega, by omega, by omega, hm⟩
  ·have c0 : decide ((i : Int) < (l.length : Int)) = false := decide_eq_false (by omega)
   rw [List.take_of_length_le (by omega)] at hn
   simp -implicitDefEqProofs only [c0, cond_false]
   exact ⟨_, rfl, _, rfl, false, rfl, fun _ => ⟨by omega, hn⟩⟩
theorem z1k (N : Nat) (l : List (Int × Int)) (hN : l.length < N) (h : l.length ≤ 100000) : xz (Ev.upto N) ((l, (l, ())), ()) = some ((true, ()), ()) := by
 apply zv1
 unfold xz
 simp -implicitDefEqProofs only [bne_self_eq_false, cond_false]
 refine bz ?_
 refine bo (σ := Unit) (fun i _ => ((l, (l, ((i : Int), ()))), ())) (fun _ _ => True) l.length () rfl trivial hN ?_
 rintro i _ hi _
 by_cases hi' : i < l.length
 ·have c0 : decide ((i : Int) < ((l.length : Nat) : Int)) = true := decide_eq_true (by omega)
  have w : IntKind.wrap .i64 ((i : Int) + 1) = ((i + 1 : Nat) : Int) := by rw [jj (by omega) (by omega)]; omega
  simp -implicitDefEqProofs only [c0, cond_true, zh hi', Option.bind_some, beq_self_eq_true, Bool.and_self, Bool.not_true, cond_false, w]
  exact ⟨_, rfl, hi', (), rfl, trivial⟩
 ·have c0 : decide ((i : Int) < ((l.length : Nat) : Int)) = false := decide_eq_false (by omega)
  simp -implicitDefEqProofs only [c0, cond_false]
  exact ⟨_, rfl, ⟨_, rfl, rfl⟩⟩
theorem z1l {d : List Nd} {x : Int} {l : List Tk} {par : Bool} (hd : uz d) (hl : zbz l) : Sm (vh d x l par).2.1 ∧ (vh d x l par).2.2.length ≤ 300 := by
 have hl1 := hl.1
 have hnil : Sm ([] : List Nd) ∧ ([] : List Fl).length ≤ 300 := ⟨⟨by simp, by simp⟩, by simp⟩
 unfold vh
 by_cases hc : chk d = 0
 ·rw [if_pos hc]
  cases hp : idx d x with
  | none => exact hnil
  | some p =>
   simp only
   by_cases h2 : p.1 ≤ 2
   ·rw [if_pos h2]
    cases hr : runS par 0 l (d, ([(x, [])], [])) with
    | inr e => exact hnil
    | inl s =>
     have hI := zdl hl 0 (IB.first (chk0.1 hc) hd hp h2) (by omega) hr
     have hf := hI.fl
     refine ⟨hI.sk.sm (by omega), ?_⟩
     simp only
     split
     ·simp only [List.length_append, List.length_cons, List.length_nil]; omega
     ·omega
   ·rw [if_neg h2]; exact hnil
 ·rw [if_neg hc]; exact hnil
theorem bigT (l : List Tk) : ∃ b, z6 (Ev.upto 5000) ((l, ()), ()) = some ((b, ()), ()) ∧ (b = false → zbz l) := by
 obtain ⟨_, e, b, rfl, h⟩ := zru 5000 l (by decide)
 exact ⟨b, e, fun hb => h hb⟩
theorem z74 (d : List Nd) (l : List Tk) : ∃ b, kd (Ev.upto 5000) ((d, (l, ())), ()) = some ((b, ()), ()) ∧ (b = false → uz d ∧ zbz l) := by
 obtain ⟨b, hb, hk⟩ := big d
 obtain ⟨c, hc, hm⟩ := bigT l
 unfold kd
 simp only [hb, Option.bind_some]
 cases b with
 | true => exact ⟨true, rfl, fun h => by cases h⟩
 | false =>
  simp only [beq_self_eq_true, cond_true, hc, Option.bind_some]
  exact ⟨c, rfl, fun h => ⟨hk rfl, hm h⟩⟩
theorem plainBuildInto (d : List Nd) (x : Int) (tk : List Tk) (par : Bool) : zdx (Ev.upto 5000) ((d, (x, (tk, (par, ())))), ()) = some ((true, ()), ()) := by
 unfold zdx
 obtain ⟨b, hb, hk⟩ := z74 d tk
 simp only [hb, Option.bind_some]
 cases b with
 | true => rfl
 | false =>
  obtain ⟨hd, ht⟩ := hk rfl
  have hs := hd.sm
  have ht1 := ht.1
  have hat : ∀ t ∈ tk, t.2.2.2.1.length ≤ 4000 := fun t h => by have := (ht.2 t h).2.2.1; omega
  obtain ⟨hA, hF⟩ := z1l (x := x) (par := par) hd ht
  simp only [cond_false, own d hs, Option.bind_some, z8r 5000 tk (by omega) ht.2 (by decide), zks d x tk par hd ht, z3m d x tk par hd ht, beq_self_eq_true, cond_true, zxb _ hA, z1k 5000 (vh d x tk par).2.2 (by omega) (by omega)]
  generalize (vh d x tk par).2.1 = a at hA
  apply zv1
  refine zev (fun o => o = (((tk, (true, ())), ((d, ()), ((), (tk, (d, ()))))))) ?_ ?_
  ·refine bo (fun i (l' : List Nd) => ((tk, (true, ((i : Int), ()))), ((d, ()), ((), (tk, ((), (d, (l', ())))))))) (fun _ l' => Sm l' ∧ l'.length = a.length) a.length a rfl ⟨hA, rfl⟩ (by have := hA.1; omega) (fun i l1 hi hI => ?_)
   obtain ⟨h1, hl1⟩ := hI
   have h40 := hA.1
   simp only [hl1, zp]
   refine zke (fun hlt => ?_) (fun _ => y5 rfl)
   refine zev (fun o => ∃ l2, o = ((tk, (true, ((i : Int), ()))), ((d, ()), ((), (tk, ((), (d, (l2, ()))))))) ∧ Sm l2 ∧ l2.length = a.length) ?_ ?_
   ·refine bo (fun k (l' : List Nd) => ((tk, (true, ((i : Int), ((k : Int), ())))), ((d, ()), ((), (tk, ((), (d, (l', ())))))))) (fun _ l' => Sm l' ∧ l'.length = a.length ∧ ∃ n : Nd, l'[i]? = some n ∧ n.2.2.2.1.length = (l1[i]'(by omega)).2.2.2.1.length) (l1[i]'(by omega)).2.2.2.1.length l1 rfl ⟨h1, hl1, _, List.getElem?_eq_getElem (by omega), rfl⟩ (by have := (h1.2 _ (List.getElem_mem (show i < l1.length by omega))).1; omega) (fun k l2 hk hI => ?_)
    obtain ⟨h2, hl2, n, hn, hnl⟩ := hI
    have hm := h2.2 n (List.mem_of_getElem? hn)
    simp only [hl2, zp, decide_eq_true hlt, decide_eq_true (show (0 : Int) ≤ (i : Int) by omega), Bool.and_self, cond_true, Int.toNat_natCast, hn, Option.bind_some, Option.elim_some]
    refine zke (fun hk2 => ?_) (fun _ => y5 ⟨l2, rfl, h2, hl2⟩)
    simp only [decide_eq_true hk2, decide_eq_true (show (0 : Int) ≤ (k : Int) by omega), Bool.and_self, cond_true, List.getElem?_eq_getElem hk2, Option.bind_some, zy (show k < 1000000 by omega)]
    refine y5 ⟨by omega, _, rfl, z8p h2 i (by simpa using hm.1) hm.2, by simpa using hl2, _, znz _ (by omega), by simpa using hnl⟩
   ·rintro _ ⟨l2, rfl, h2, hl2⟩
    refine zev (fun o => ∃ l3, o = ((tk, (true, ((i : Int), ()))), ((d, ()), ((), (tk, ((), (d, (l3, ()))))))) ∧ Sm l3 ∧ l3.length = a.length) ?_ ?_
    ·refine bo (fun k (l' : List Nd) => ((tk, (true, ((i : Int), ((k : Int), ())))), ((d, ()), ((), (tk, ((), (d, (l', ())))))))) (fun _ l' => Sm l' ∧ l'.length = a.length ∧ ∃ n : Nd, l'[i]? = some n ∧ n.2.2.2.2.2.1.length = (l2[i]'(by omega)).2.2.2.2.2.1.length) (l2[i]'(by omega)).2.2.2.2.2.1.length l2 rfl ⟨h2, hl2, _, List.getElem?_eq_getElem (by omega), rfl⟩ (by have := (h2.2 _ (List.getElem_mem (show i < l2.length by omega))).2; omega) (fun k l3 hk hI => ?_)
     obtain ⟨h3, hl3, n, hn, hnl⟩ := hI
     have hm := h3.2 n (List.mem_of_getElem? hn)
     simp only [hl3, zp, decide_eq_true hlt, decide_eq_true (show (0 : Int) ≤ (i : Int) by omega), Bool.and_self, cond_true, Int.toNat_natCast, hn, Option.bind_some, Option.elim_some]
     refine zke (fun hk2 => ?_) (fun _ => y5 ⟨l3, rfl, h3, hl3⟩)
     simp only [decide_eq_true hk2, decide_eq_true (show (0 : Int) ≤ (k : Int) by omega), Bool.and_self, cond_true, List.getElem?_eq_getElem hk2, Option.bind_some, zy (show k < 1000000 by omega)]
     refine y5 ⟨by omega, _, rfl, z8p h3 i hm.1 (by simpa using hm.2), by simpa using hl3, _, znz _ (by omega), by simpa using hnl⟩
    ·rintro _ ⟨l3, rfl, h3, hl3⟩
     have hi3 : i < l3.length := by omega
     simp only [zy (show i < 1000000 by omega)]
     exact y5 ⟨hlt, _, rfl, h3, hl3⟩
  ·rintro _ rfl
   rw [zdb]
   simp only [Option.bind_some, beq_self_eq_true, cond_true, zxb d hs, z73 5000 tk (by omega) hat (by decide)]
   exact y5 rfl
def tkSg (t : Tk) : Option (Int × Bs × Bs) := if t.1 = 1 then some (3, [], t.2.2.1) else if t.1 = 4 then some (4, [], t.2.2.1) else if t.1 = 2 then some (2, t.2.1, []) else none
def sg (m : Nd) : Int × Bs × Bs := (m.1, m.2.1, m.2.2.1)
abbrev psr (m : Nd) : Bool := m.2.2.2.2.2.2.1
theorem gh {par : Bool} {t : Tk} {i : Int} {s s' : BS} (h : tokB par t i s = .inl s') :
  (∃ n op' fl', s' = (layD s.1 (top s.2.1) n, (op', fl')) ∧ layE s.1 n = 0 ∧ tkSg t = some (sg n) ∧ (n.1 = 2 → psr n = par) ∧ (op' = s.2.1 ∨ op' = s.2.1 ++ [((s.1.length : Int), n.2.1)] ∧ s.2.1.length < 30 ∧ n.1 = 2 ∧ qy n.2.1 = false)) ∨
  (∃ op' fl', s' = (s.1, (op', fl')) ∧ tkSg t = none ∧ (op' = s.2.1 ∨ ∃ k, 1 ≤ k ∧ op' = s.2.1.take k)) := by
 unfold tokB layS at h
 unfold tkSg
 by_cases k1 : t.1 = 1
 ·rw [if_pos k1] at h
  rw [if_pos k1]
  split at h
  ·rename_i hE
   simp only [Sum.inl.injEq] at h
   exact .inl ⟨_, _, _, h.symm, hE, rfl, fun e => absurd (show (3 : Int) = 2 from e) (by decide), .inl rfl⟩
  ·cases h
 ·rw [if_neg k1] at h
  rw [if_neg k1]
  by_cases k4 : t.1 = 4
  ·rw [if_pos k4] at h
   rw [if_pos k4]
   split at h
   ·rename_i hE
    simp only [Sum.inl.injEq] at h
    exact .inl ⟨_, _, _, h.symm, hE, rfl, fun e => absurd (show (4 : Int) = 2 from e) (by decide), .inl rfl⟩
   ·cases h
  ·rw [if_neg k4] at h
   rw [if_neg k4]
   by_cases k2 : t.1 = 2
   ·rw [if_pos k2] at h
    rw [if_pos k2]
    split at h
    ·rename_i hE
     simp only [Sum.inl.injEq] at h
     by_cases hv : (t.2.2.2.2 || qy t.2.1) = true
     ·rw [if_pos hv] at h
      exact .inl ⟨_, _, _, h.symm, hE, rfl, fun _ => rfl, .inl rfl⟩
     ·rw [if_neg hv] at h
      by_cases h30 : 30 ≤ s.2.1.length
      ·rw [if_pos h30] at h
       exact .inl ⟨_, _, _, h.symm, hE, rfl, fun _ => rfl, .inl rfl⟩
      ·rw [if_neg h30] at h
       refine .inl ⟨_, _, _, h.symm, hE, rfl, fun _ => rfl, .inr ⟨rfl, by omega, rfl, ?_⟩⟩
       show qy t.2.1 = false
       cases hb : qy t.2.1 with
       | false => rfl
       | true => rw [hb] at hv; simp at hv
    ·cases h
   ·rw [if_neg k2] at h
    rw [if_neg k2]
    by_cases k3 : t.1 = 3
    ·rw [if_pos k3] at h
     simp only [Sum.inl.injEq] at h
     unfold endS at h
     split at h
     ·exact .inr ⟨_, _, h.symm, rfl, .inl rfl⟩
     ·rename_i h0
      exact .inr ⟨_, _, h.symm, rfl, .inr ⟨_, by omega, rfl⟩⟩
    ·rw [if_neg k3] at h
     simp only [Sum.inl.injEq] at h
     exact .inr ⟨s.2.1, s.2.2, h.symm, rfl, .inl rfl⟩
theorem zap {d : List Nd} {q : Int} {n : Nd} {y : Int} (hy : y ≠ (d.length : Int)) : pr (layD d q n) y = pr d y := by
 by_cases hi : In' d y
 ·obtain ⟨m, hm, _⟩ := yy hi.1 hi.2
  obtain ⟨m', hm', _, hp⟩ := xw (q := q) (n := n) hm
  unfold pr
  rw [hm, hm']
  exact hp
 ·rw [zed hi, zed]
  rw [y7]
  unfold In' at hi
  omega
theorem kf {d : List Nd} {q : Int} {n p : Nd} (h : idx d q = some p) : pr (layD d q n) (d.length : Int) = q := by
 unfold pr
 rw [xg h]
 rfl
theorem yw {d : List Nd} (R : zb d) {q : Int} {n : Nd} {y : Int} (hy : In' d y) : ∀ j, up (layD d q n) j y = up d j y
 | 0 => rfl
 | j + 1 => by
  rw [xe, xe, yw R hy j]
  rcases R.up_in hy j with h | h
  ·rw [h]; rfl
  ·exact zap (by have := h.2; omega)
theorem vy {d : List Nd} {q : Int} {n p : Nd} (h : idx d q = some p) {y : Int} (hy : y ≠ q) : ks (layD d q n) y = ks d y := by
 by_cases hi : In' d y
 ·obtain ⟨m, hm, _⟩ := yy hi.1 hi.2
  unfold ks
  rw [hm, qz hm hy]
 ·have h1 : ks d y = [] := by unfold ks; rw [wa hi]
  rw [h1]
  by_cases hl : y = (d.length : Int)
  ·subst hl
   unfold ks
   rw [xg h]
   rfl
  ·unfold ks
   rw [wa]
   rw [y7]
   unfold In' at hi
   omega
theorem zbq {d : List Nd} {q : Int} {n p : Nd} (h : idx d q = some p) : ks (layD d q n) q = ks d q ++ [(d.length : Int)] := by
 unfold ks
 rw [h, ke h]
 rfl
theorem zkt {d : List Nd} {q : Int} {n p : Nd} (h : idx d q = some p) : (layD d q n).map sg = d.map sg ++ [sg n] := by
 obtain ⟨h0, h1, h2⟩ := zc h
 unfold layD
 rw [h]
 simp only [List.map_append, List.map_cons, List.map_nil, List.map_set]
 congr 1
 have : sg (addK (d.length : Int) p) = sg p := rfl
 rw [this]
 apply List.ext_getElem?
 intro j
 rw [List.getElem?_set, List.length_map]
 by_cases hj : q.toNat = j
 ·subst hj
  rw [if_pos rfl, if_pos (by omega), List.getElem?_map, h2]
  rfl
 ·rw [if_neg hj]
def yo (d : List Nd) : List Int → Prop
 | a :: b :: r => ((∃ pre, ks d a = pre ++ [b]) ∧ a < b) ∧ yo d (b :: r)
 | _ => True
theorem yo.take {d : List Nd} : ∀ {l : List Int} (k : Nat), yo d l → yo d (l.take k)
 | [], k, _ => by simp [yo]
 | a :: l, 0, _ => by simp [yo]
 | [a], k + 1, _ => by simp [yo]
 | a :: b :: r, 1, _ => by simp [yo]
 | a :: b :: r, k + 2, h => by
  have := yo.take (k + 1) h.2
  simp only [List.take_succ_cons] at this ⊢
  exact ⟨h.1, this⟩
theorem yo.lt {d : List Nd} : ∀ {l : List Int} {a : Int}, yo d (a :: l) → ∀ b, b ∈ l → a < b
 | [], a, _, b, hb => by simp at hb
 | c :: l, a, h, b, hb => by
  rcases List.mem_cons.1 hb with rfl | hb
  ·exact h.1.2
  ·have := yo.lt h.2 b hb
   have := h.1.2
   omega
theorem yo.lay {d : List Nd} {q : Int} {n p : Nd} (hp : idx d q = some p) : ∀ {l : List Int}, yo d l → l.getLast? = some q → yo (layD d q n) l ∧ yo (layD d q n) (l ++ [(d.length : Int)])
 | [], _, h => by simp at h
 | [a], _, h => by
  simp only [List.getLast?_singleton, Option.some.injEq] at h
  subst h
  refine ⟨trivial, ?_⟩
  show yo _ [a, _]
  exact ⟨⟨⟨_, zbq hp⟩, (zc hp).2.1⟩, trivial⟩
 | a :: b :: r, hc, h => by
  have hl : (b :: r).getLast? = some q := by rw [List.getLast?_cons_cons] at h; exact h
  obtain ⟨h1, h2⟩ := yo.lay hp hc.2 hl
  have hq : a < q := hc.lt q (List.mem_of_getLast? hl)
  have hk : ks (layD d q n) a = ks d a := vy hp (by omega)
  obtain ⟨pre, hpre⟩ := hc.1.1
  exact ⟨⟨⟨⟨pre, by rw [hk]; exact hpre⟩, hc.1.2⟩, h1⟩, ⟨⟨⟨pre, by rw [hk]; exact hpre⟩, hc.1.2⟩, h2⟩⟩
theorem gk {d : List Nd} {q : Int} : ∀ (c : List Int) (f : Nat) (x : Int), yo d (x :: c) → (x :: c).getLast? = some q → okD d f x → q ∈ dn d f x
 | c, 0, x, _, _, h => h.elim
 | [], f + 1, x, _, hl, _ => by
  simp only [List.getLast?_singleton, Option.some.injEq] at hl
  subst hl
  unfold dn
  exact List.mem_cons_self ..
 | b :: r, f + 1, x, hc, hl, ho => by
  obtain ⟨pre, hpre⟩ := hc.1.1
  have := gk r f b hc.2 (by rw [List.getLast?_cons_cons] at hl; exact hl) (ho b (by rw [hpre]; simp))
  unfold dn
  refine List.mem_cons_of_mem _ (List.mem_flatMap.2 ⟨b, by rw [hpre]; simp, this⟩)
theorem zh8 {d : List Nd} (R : zb d) {q : Int} {n p : Nd} (hp : idx d q = some p) : ∀ (c : List Int) (f : Nat) (x : Int), yo d (x :: c) → (x :: c).getLast? = some q → okD d f x → In' d x → dn (layD d q n) (f + 1) x = dn d f x ++ [(d.length : Int)]
 | c, 0, x, _, _, h, _ => h.elim
 | [], f + 1, x, _, hl, ho, hx => by
  simp only [List.getLast?_singleton, Option.some.injEq] at hl
  subst hl
  have hnd := R.dn_nodup (f + 1) hx
  unfold dn at hnd
  have hnot := (List.nodup_cons.1 hnd).1
  show x :: (ks (layD d x n) x).flatMap (dn (layD d x n) (f + 1)) = (x :: (ks d x).flatMap (dn d f)) ++ _
  rw [zbq hp, List.flatMap_append, List.cons_append]
  congr 1
  have hnew : [(d.length : Int)].flatMap (dn (layD d x n) (f + 1)) = [(d.length : Int)] := by
   have hk : ks (layD d x n) (d.length : Int) = [] := by unfold ks; rw [xg hp]; rfl
   simp only [List.flatMap_cons, List.flatMap_nil, List.append_nil]
   unfold dn
   rw [hk]
   rfl
  rw [hnew]
  congr 1
  have key : ∀ l : List Int, (∀ y, y ∈ l → y ∈ ks d x) → l.flatMap (dn (layD d x n) (f + 1)) = l.flatMap (dn d f) := by
   intro l
   induction l with
   | nil => intro _; rfl
   | cons y l ih =>
    intro hy
    have hyk := hy y (List.mem_cons_self ..)
    rw [List.flatMap_cons, List.flatMap_cons, ih fun z hz => hy z (List.mem_cons_of_mem _ hz)]
    congr 1
    have hoy := ho y hyk
    rw [← va (Nat.le_succ f) hoy]
    refine zan (f + 1) y fun z hz => vy hp fun e => ?_
    rw [va (Nat.le_succ f) hoy] at hz
    exact hnot (List.mem_flatMap.2 ⟨y, hyk, e ▸ hz⟩)
  exact key _ fun y hy => hy
 | b :: r, f + 1, x, hc, hl, ho, hx => by
  obtain ⟨pre, hpre⟩ := hc.1.1
  have hl2 : (b :: r).getLast? = some q := by rw [List.getLast?_cons_cons] at hl; exact hl
  have hbk : b ∈ ks d x := by rw [hpre]; simp
  have hob := ho b hbk
  have hbin := (R.kid hbk).2.1
  have ih := zh8 R (n := n) hp r f b hc.2 hl2 hob hbin
  have hmem := gk r f b hc.2 hl2 hob
  have hnd := R.dn_nodup (f + 1) hx
  unfold dn at hnd
  rw [hpre, List.flatMap_append] at hnd
  simp only [List.flatMap_cons, List.flatMap_nil, List.append_nil] at hnd
  obtain ⟨hn1, hn2⟩ := List.nodup_cons.1 hnd
  have hxq : x ≠ q := fun e => hn1 (List.mem_append.2 (.inr (e ▸ hmem)))
  have hpq : q ∉ pre.flatMap (dn d f) := fun hq => (List.nodup_append.1 hn2).2.2 q hq q hmem rfl
  show x :: (ks (layD d q n) x).flatMap (dn (layD d q n) (f + 1)) = (x :: (ks d x).flatMap (dn d f)) ++ _
  rw [vy hp hxq, hpre, List.flatMap_append, List.flatMap_append, List.cons_append]
  congr 1
  simp only [List.flatMap_cons, List.flatMap_nil, List.append_nil]
  rw [ih, List.append_assoc]
  congr 1
  have key : ∀ l : List Int, (∀ y, y ∈ l → y ∈ pre) → l.flatMap (dn (layD d q n) (f + 1)) = l.flatMap (dn d f) := by
   intro l
   induction l with
   | nil => intro _; rfl
   | cons y l ih =>
    intro hy
    have hyk := hy y (List.mem_cons_self ..)
    rw [List.flatMap_cons, List.flatMap_cons, ih fun z hz => hy z (List.mem_cons_of_mem _ hz)]
    congr 1
    have hoy := ho y (by rw [hpre]; exact List.mem_append.2 (.inl hyk))
    rw [← va (Nat.le_succ f) hoy]
    refine zan (f + 1) y fun z hz => vy hp fun e => ?_
    rw [va (Nat.le_succ f) hoy] at hz
    exact hpq (List.mem_flatMap.2 ⟨y, hyk, e ▸ hz⟩)
  exact key _ fun y hy => hy
def cntI (n : Nat) : List Int := (List.range n).map fun i : Nat => (i : Int)
theorem zdm (n : Nat) : cntI (n + 1) = cntI n ++ [(n : Int)] := by
 unfold cntI
 rw [List.range_succ, List.map_append]
 rfl
structure PI (done : List Tk) (s : BS) : Prop where
 first : ∃ nm r, s.2.1 = ((0 : Int), nm) :: r
 ch : yo s.1 (nums s.2.1)
 ord : below s.1 0 = cntI s.1.length
 sgs : s.1.map sg = ((1 : Int), (([] : Bs), ([] : Bs))) :: done.filterMap tkSg
 vd : ∀ (i : Nat) (m : Nd), 1 ≤ i → s.1[i]? = some m → za m ≠ [] → m.1 = 2 ∧ qy m.2.1 = false
 ov : ∀ (j : Nat) (o : Op), 1 ≤ j → s.2.1[j]? = some o → 0 < o.1 ∧ ∃ m, idx s.1 o.1 = some m ∧ m.1 = 2 ∧ qy m.2.1 = false
 od : ∀ (j : Nat) (o : Op), s.2.1[j]? = some o → (∀ i, i < j → 0 < up s.1 i o.1) ∧ up s.1 j o.1 = 0
 dp : ∀ x, 1 ≤ x → In' s.1 x → ∃ j, j ≤ 29 ∧ (∀ i, i < j → 0 < up s.1 i (pr s.1 x)) ∧ up s.1 j (pr s.1 x) = 0
theorem zgs {op : List Op} (h : op ≠ []) : (nums op).getLast? = some (top op) := by
 obtain ⟨o, _, hg, ht⟩ := q8 h
 rw [List.getLast?_eq_getElem?, List.length_map, List.getElem?_map, hg, ht]
 rfl
theorem PI.step {par : Bool} {i : Nat} {done : List Tk} {t : Tk} {s s' : BS} (hI : IB i s) (h : PI done s) (e : tokB par t (i : Int) s = .inl s') : PI (done ++ [t]) s' := by
 have R := hI.R
 have hlen := R.len
 have hpos := R.pos
 rcases gh e with ⟨n, op', fl', rfl, hE, hsg, _, hop⟩ | ⟨op', fl', rfl, hsg, hop⟩
 ·obtain ⟨o, hom, hg, ht⟩ := q8 hI.ne
  obtain ⟨p, hp, hh⟩ := hI.op o hom
  rw [← ht] at hp
  have h0 : In' s.1 0 := ⟨Int.le_refl _, by omega⟩
  obtain ⟨nm, r, hr⟩ := h.first
  have htl := zgs hI.ne
  have hne : s.2.1.length ≠ 0 := fun e => hI.ne (List.length_eq_zero_iff.1 e)
  obtain ⟨hod1, hod2⟩ := h.od _ o hg
  rw [← ht] at hod1 hod2
  have hqin : In' s.1 (top s.2.1) := ⟨(zc hp).1, (zc hp).2.1⟩
  have hupN : ∀ j, up (layD s.1 (top s.2.1) n) (j + 1) (s.1.length : Int) = up s.1 j (top s.2.1) := fun j => by
   show up _ j (pr _ _) = _
   rw [kf hp, yw R hqin]
  refine ⟨?_, ?_, ?_, ?_, fun i m h1 hm hk => ?_, fun j o1 h1 ho1 => ?_, fun j o1 ho1 => ?_, fun x h1 hx => ?_⟩
  ·rcases hop with hop | ⟨hop, _⟩
   ·exact ⟨nm, r, hop ▸ hr⟩
   ·exact ⟨nm, r ++ [((s.1.length : Int), n.2.1)], by rw [hop, hr]; rfl⟩
  ·obtain ⟨c1, c2⟩ := yo.lay (n := n) hp h.ch htl
   rcases hop with hop | ⟨hop, _⟩
   ·show yo _ (nums op')
    rw [hop]; exact c1
   ·show yo _ (nums op')
    rw [hop]
    show yo _ ((s.2.1 ++ _).map _)
    rw [List.map_append]; exact c2
  ·have hch := h.ch
   have htl2 : ((0 : Int) :: nums r).getLast? = some (top s.2.1) := by
    rw [← htl, hr]
    rfl
   rw [hr] at hch
   have hok : okD s.1 399 0 := vq (by omega) (R.okDr h0)
   have h1 := zh8 R (n := n) hp (nums r) 399 0 hch htl2 hok h0
   have h2 := h.ord
   show dn _ 400 0 = _
   rw [show (400 : Nat) = 399 + 1 from rfl, h1]
   unfold below at h2
   rw [va (show 399 ≤ 400 by omega) hok] at h2
   rw [h2]
   show _ = cntI (layD s.1 (top s.2.1) n).length
   rw [y7, zdm]
  ·show (layD s.1 (top s.2.1) n).map sg = _
   rw [zkt hp, h.sgs, List.filterMap_append, List.cons_append]
   congr 2
   simp only [List.filterMap_cons, hsg, List.filterMap_nil]
  ·have hm' := ym hm
   by_cases hi : i < s.1.length
   ·obtain ⟨m0, hm0⟩ : ∃ m0, s.1[i]? = some m0 := ⟨_, List.getElem?_eq_getElem hi⟩
    have hm0' := ym hm0
    by_cases hq : (i : Int) = top s.2.1
    ·rw [hq] at hm'
     rw [hq, hp] at hm0'
     rw [ke hp] at hm'
     simp only [Option.some.injEq] at hm' hm0'
     have hl1 : 1 ≤ s.2.1.length - 1 := by
      rcases Nat.lt_or_ge 0 (s.2.1.length - 1) with h | h
      ·omega
      ·have : s.2.1.length - 1 = 0 := by omega
       rw [this, hr] at hg
       simp only [List.getElem?_cons_zero, Option.some.injEq] at hg
       rw [ht, ← hg] at hq
       simp only at hq
       omega
     obtain ⟨_, m1, hm1, h2, hv⟩ := h.ov _ o hl1 hg
     rw [← ht, hp] at hm1
     simp only [Option.some.injEq] at hm1
     rw [← hm']
     rw [← hm1] at h2 hv
     exact ⟨h2, hv⟩
    ·rw [qz hm0' hq] at hm'
     simp only [Option.some.injEq] at hm'
     rw [← hm'] at hk ⊢
     exact h.vd i m0 h1 hm0 hk
   ·have hlt := (List.getElem?_eq_some_iff.1 hm).1
    simp only [y7] at hlt
    have : (i : Int) = (s.1.length : Int) := by omega
    rw [this, xg hp] at hm'
    simp only [Option.some.injEq] at hm'
    rw [← hm'] at hk
    exact absurd rfl hk
  ·have old : ∀ o1, s.2.1[j]? = some o1 → 0 < o1.1 ∧ ∃ m, idx (layD s.1 (top s.2.1) n) o1.1 = some m ∧ m.1 = 2 ∧ qy m.2.1 = false := fun o1 ho1 => by
    obtain ⟨g0, m, hm, g2, g3⟩ := h.ov j o1 h1 ho1
    obtain ⟨m', hm', hl, _⟩ := xw (q := top s.2.1) (n := n) hm
    exact ⟨g0, m', hm', hl.1.trans g2, by rw [hl.2.1]; exact g3⟩
   rcases hop with hop | ⟨hop, h30, h2, hv⟩
   ·rw [hop] at ho1
    exact old o1 ho1
   ·rw [hop] at ho1
    by_cases hj : j < s.2.1.length
    ·rw [List.getElem?_append_left hj] at ho1
     exact old o1 ho1
    ·rw [List.getElem?_append_right (by omega)] at ho1
     have hj0 : j - s.2.1.length = 0 := by
      have := (List.getElem?_eq_some_iff.1 ho1).1
      simp only [List.length_cons, List.length_nil] at this
      omega
     rw [hj0] at ho1
     simp only [List.getElem?_cons_zero, Option.some.injEq] at ho1
     rw [← ho1]
     exact ⟨by show (0 : Int) < (s.1.length : Int); omega, _, xg hp, h2, hv⟩
  ·have old : ∀ o1, s.2.1[j]? = some o1 → (∀ i, i < j → 0 < up (layD s.1 (top s.2.1) n) i o1.1) ∧ up (layD s.1 (top s.2.1) n) j o1.1 = 0 := fun o1 ho1 => by
    obtain ⟨m, hm, _⟩ := hI.op o1 (List.mem_of_getElem? ho1)
    have hin : In' s.1 o1.1 := ⟨(zc hm).1, (zc hm).2.1⟩
    obtain ⟨g1, g2⟩ := h.od j o1 ho1
    exact ⟨fun i hi => by rw [yw R hin]; exact g1 i hi, by rw [yw R hin]; exact g2⟩
   rcases hop with hop | ⟨hop, h30, h2, hv⟩
   ·rw [hop] at ho1
    exact old o1 ho1
   ·rw [hop] at ho1
    by_cases hj : j < s.2.1.length
    ·rw [List.getElem?_append_left hj] at ho1
     exact old o1 ho1
    ·rw [List.getElem?_append_right (by omega)] at ho1
     have hj0 : j - s.2.1.length = 0 := by
      have := (List.getElem?_eq_some_iff.1 ho1).1
      simp only [List.length_cons, List.length_nil] at this
      omega
     rw [hj0] at ho1
     simp only [List.getElem?_cons_zero, Option.some.injEq] at ho1
     rw [← ho1]
     have hjj : j = (s.2.1.length - 1) + 1 := by omega
     refine ⟨fun i hi => ?_, ?_⟩
     ·cases i with
      | zero => show (0 : Int) < (s.1.length : Int); omega
      | succ i => show 0 < up _ (i + 1) (s.1.length : Int); rw [hupN]; exact hod1 i (by omega)
     ·show up _ j (s.1.length : Int) = 0
      rw [hjj, hupN]; exact hod2
  ·by_cases hxl : x = (s.1.length : Int)
   ·subst hxl
    have hle := hI.le
    refine ⟨s.2.1.length - 1, by omega, fun i hi => ?_, ?_⟩
    ·rw [kf hp, yw R hqin]; exact hod1 i hi
    ·rw [kf hp, yw R hqin]; exact hod2
   ·have hx' : In' s.1 x := by
     have := hx.2
     simp only [y7] at this
     exact ⟨by omega, by omega⟩
    obtain ⟨j, hj, g1, g2⟩ := h.dp x h1 hx'
    have hge : 0 ≤ pr s.1 x := by
     cases j with
     | zero => exact Int.le_of_eq g2.symm
     | succ j => have := g1 0 (by omega); exact Int.le_of_lt this
    have hpin : In' s.1 (pr s.1 x) := (R.par hx' (by omega)).1
    refine ⟨j, hj, fun i hi => ?_, ?_⟩
    ·rw [zap hxl, yw R hpin]; exact g1 i hi
    ·rw [zap hxl, yw R hpin]; exact g2
 ·have hs : (done ++ [t]).filterMap tkSg = done.filterMap tkSg := by
   rw [List.filterMap_append]
   simp only [List.filterMap_cons, hsg, List.filterMap_nil, List.append_nil]
  rcases hop with hop | ⟨k, hk, hop⟩
  ·subst hop
   exact ⟨h.first, h.ch, h.ord, by rw [hs]; exact h.sgs, h.vd, h.ov, h.od, h.dp⟩
  ·subst hop
   obtain ⟨nm, r, hr⟩ := h.first
   have htk : ∀ (j : Nat) (o : Op), (s.2.1.take k)[j]? = some o → s.2.1[j]? = some o := fun j o ho => by
    rw [List.getElem?_take] at ho
    split at ho
    ·exact ho
    ·cases ho
   refine ⟨?_, ?_, h.ord, by rw [hs]; exact h.sgs, h.vd, fun j o h1 ho => h.ov j o h1 (htk j o ho), fun j o ho => h.od j o (htk j o ho), h.dp⟩
   ·obtain ⟨k, rfl⟩ : ∃ m, k = m + 1 := ⟨k - 1, by omega⟩
    exact ⟨nm, r.take k, by show s.2.1.take (k + 1) = _; rw [hr]; rfl⟩
   ·show yo s.1 ((s.2.1.take k).map _)
    rw [List.map_take]
    exact h.ch.take k
structure RI (d : List Nd) (x : Int) (par : Bool) (s : BS) : Prop where
 len : d.length ≤ s.1.length
 old : ∀ (y : Int) (m : Nd), idx d y = some m → y ≠ x → idx s.1 y = some m
 atx : ∀ p, idx d x = some p → ∃ p' r, idx s.1 x = some p' ∧ Like p p' ∧ zk p' = zk p ∧ za p' = za p ++ r
 new : ∀ (y : Int) (m : Nd), (d.length : Int) ≤ y → idx s.1 y = some m → (m.1 = 2 → psr m = par) ∧ ∃ j, up s.1 j y = x
 op : ∀ o, o ∈ s.2.1 → (o.1 = x ∨ (d.length : Int) ≤ o.1) ∧ ∃ j, up s.1 j o.1 = x
theorem RI.first {d : List Nd} {x : Int} {par : Bool} : RI d x par (d, ([(x, [])], [])) := by
 refine ⟨Nat.le_refl _, fun y m h _ => h, fun p h => ⟨p, [], h, Like.refl p, rfl, by simp⟩, fun y m h hm => ?_, fun o ho => ?_⟩
 ·have := (zc hm).2.1
  simp only at this
  omega
 ·rw [List.mem_singleton.1 ho]
  exact ⟨.inl rfl, 0, rfl⟩
theorem RI.step {d : List Nd} {x : Int} {par : Bool} {i : Nat} {t : Tk} {s s' : BS} (hI : IB i s) (h : RI d x par s) (e : tokB par t (i : Int) s = .inl s') : RI d x par s' := by
 have R := hI.R
 rcases gh e with ⟨n, op', fl', rfl, hE, hsg, hps, hop⟩ | ⟨op', fl', rfl, hsg, hop⟩
 ·obtain ⟨o, hom, hg, ht⟩ := q8 hI.ne
  obtain ⟨p, hp, hh⟩ := hI.op o hom
  have hoq := h.op o hom
  rw [← ht] at hp hoq
  obtain ⟨hq, jq, hjq⟩ := hoq
  have hlen := h.len
  have hqin : In' s.1 (top s.2.1) := ⟨(zc hp).1, (zc hp).2.1⟩
  have hnewup : up (layD s.1 (top s.2.1) n) (jq + 1) (s.1.length : Int) = x := by
   show up _ jq (pr _ _) = _
   rw [kf hp, yw R hqin]
   exact hjq
  refine ⟨by show d.length ≤ (layD _ _ _).length; rw [y7]; omega, fun y m hm hne => ?_, fun p0 hp0 => ?_, fun y m hy hm => ?_, fun o1 ho1 => ?_⟩
  ·have hyl := (zc hm).2.1
   refine qz (h.old y m hm hne) fun e => ?_
   rcases hq with hq | hq
   ·exact hne (e.trans hq)
   ·omega
  ·obtain ⟨p', r, g1, g2, g3, g4⟩ := h.atx p0 hp0
   by_cases hx : x = top s.2.1
   ·rw [← hx] at hp ⊢
    rw [hp] at g1
    simp only [Option.some.injEq] at g1
    subst g1
    refine ⟨_, r ++ [(s.1.length : Int)], ke hp, g2, g3, ?_⟩
    show za p ++ _ = _
    rw [g4, List.append_assoc]
   ·exact ⟨p', r, qz g1 hx, g2, g3, g4⟩
  ·have hyl := (zc hm).2.1
   simp only [y7] at hyl
   by_cases hl : y = (s.1.length : Int)
   ·subst hl
    rw [xg hp] at hm
    simp only [Option.some.injEq] at hm
    subst hm
    exact ⟨hps, _, hnewup⟩
   ·have hin : In' s.1 y := ⟨by omega, by omega⟩
    obtain ⟨m0, hm0, _⟩ := yy hin.1 hin.2
    obtain ⟨g1, j, g2⟩ := h.new y m0 hy hm0
    obtain ⟨m', hm', hl, _⟩ := xw (q := top s.2.1) (n := n) hm0
    rw [hm'] at hm
    simp only [Option.some.injEq] at hm
    subst hm
    refine ⟨fun e => ?_, j, by rw [yw R hin]; exact g2⟩
    have h5 : psr m' = psr m0 := congrArg (fun x : Bool × Bool => x.1) hl.2.2.2.2
    rw [h5]
    exact g1 (hl.1.symm.trans e)
  ·have old : ∀ o1, o1 ∈ s.2.1 → (o1.1 = x ∨ (d.length : Int) ≤ o1.1) ∧ ∃ j, up (layD s.1 (top s.2.1) n) j o1.1 = x := fun o1 ho1 => by
    obtain ⟨g1, j, g2⟩ := h.op o1 ho1
    obtain ⟨m, hm, _⟩ := hI.op o1 ho1
    exact ⟨g1, j, by rw [yw R ⟨(zc hm).1, (zc hm).2.1⟩]; exact g2⟩
   rcases hop with hop | ⟨hop, _⟩
   ·rw [hop] at ho1; exact old o1 ho1
   ·rw [hop] at ho1
    rcases List.mem_append.1 ho1 with ho1 | ho1
    ·exact old o1 ho1
    ·rw [List.mem_singleton.1 ho1]
     exact ⟨.inr (by show (d.length : Int) ≤ (s.1.length : Int); omega), _, hnewup⟩
 ·refine ⟨h.len, h.old, h.atx, h.new, fun o ho => h.op o ?_⟩
  rcases hop with hop | ⟨k, _, hop⟩
  ·rw [hop] at ho; exact ho
  ·rw [hop] at ho; exact List.mem_of_mem_take ho
end Go.En.Pl
