/- Text LReports of this seat: written by a program of ours, or by hand; checked by Lean. -/
import Derived.Test.YtfgphjencdhdgaaGreatDoorG
import Derived.Test.YtfgphjencdhdgaaGreatDoorW
set_option linter.unusedSimpArgs false
set_option linter.unusedVariables false
namespace Go.En.Pl
def yn {ε σ β : Type} (g : Nat → ε → σ → σ ⊕ β) (fin : σ → β) : Nat → List ε → σ → β
 | _, [], s => fin s
 | i, x :: l, s => match g i x s with
  | .inl s' => yn g fin (i + 1) l s'
  | .inr b => b
theorem zmq {α β σ ε : Type} {f : α → Option (α ⊕ β)} {l : List ε} {N : Nat} (st : Nat → σ → α) (g : Nat → ε → σ → σ ⊕ β) (fin : σ → β) (I : Nat → σ → Prop) (s0 : σ) (h0 : I 0 s0) (hN : l.length < N)
  (hs : ∀ i s (hi : i < l.length), I i s → f (st i s) = some (match g i l[i] s with | .inl s' => .inl (st (i + 1) s') | .inr b => .inr b) ∧ ∀ s', g i l[i] s = .inl s' → I (i + 1) s')
  (he : ∀ s, I l.length s → f (st l.length s) = some (.inr (fin s))) : (Ev.upto N).it f (st 0 s0) = some (yn g fin 0 l s0) := by
 show jd f N (st 0 s0) = _
 have key : ∀ (d i : Nat) (s : σ) (N : Nat), i + d = l.length → d < N → I i s → jd f N (st i s) = some (yn g fin i (l.drop i) s) := by
  intro d
  induction d with
  | zero =>
   intro i s N e hN hi
   have : i = l.length := by omega
   subst this
   cases N with
   | zero => omega
   | succ N =>
    unfold jd
    rw [he s hi, List.drop_length]
    rfl
  | succ d ih =>
   intro i s N e hN hi
   have hlt : i < l.length := by omega
   obtain ⟨h1, h2⟩ := hs i s hlt hi
   cases N with
   | zero => omega
   | succ N =>
    unfold jd
    rw [h1, List.drop_eq_getElem_cons hlt]
    unfold yn
    cases hg : g i l[i] s with
    | inr b => rfl
    | inl s' => exact ih (i + 1) s' N (by omega) (by omega) (h2 s' hg)
 have := key l.length 0 s0 N (by omega) hN h0
 simpa using this
theorem zu {α β σ ε γ : Type} {f : α → Option (α ⊕ β)} {a0 : α} {k : β → Option γ} {r : Option γ} {l : List ε} {N : Nat} (st : Nat → σ → α) (g : Nat → ε → σ → σ ⊕ β) (fin : σ → β) (I : Nat → σ → Prop) (s0 : σ) (ha : a0 = st 0 s0) (h0 : I 0 s0) (hN : l.length < N)
  (hs : ∀ i s (hi : i < l.length), I i s → f (st i s) = some (match g i l[i] s with | .inl s' => .inl (st (i + 1) s') | .inr b => .inr b) ∧ ∀ s', g i l[i] s = .inl s' → I (i + 1) s')
  (he : ∀ s, I l.length s → f (st l.length s) = some (.inr (fin s))) (hr : k (yn g fin 0 l s0) = r) : ((Ev.upto N).it f a0).bind k = r := by
 rw [ha, zmq st g fin I s0 h0 hN hs he]
 exact hr
theorem x5 {i : Nat} (h : i < 1000000) : IntKind.wrap .i64 ((i : Int) + 1) = ((i + 1 : Nat) : Int) := by
 rw [wj (by omega) (by omega)]; rfl
theorem yz (i n : Nat) : decide ((i : Int) < (n : Int)) = decide (i < n) := by
 by_cases h : i < n
 ·rw [decide_eq_true h, decide_eq_true (by omega)]
 ·rw [decide_eq_false h, decide_eq_false (by omega)]
theorem zh5 {ε β : Type} (g : Nat → ε → Unit → Unit ⊕ β) (fin : Unit → β) : ∀ (l : List ε) (i : Nat), (∀ j (hj : j < l.length), g (i + j) l[j] () = .inl ()) → yn g fin i l () = fin ()
 | [], _, _ => rfl
 | x :: l, i, h => by
  unfold yn
  have h0 := h 0 (by simp)
  simp only [Nat.add_zero, List.getElem_cons_zero] at h0
  rw [h0]
  exact zh5 g fin l (i + 1) fun j hj => by
   have := h (j + 1) (by simpa using hj)
   rw [show i + 1 + j = i + (j + 1) by omega]
   simpa using this
theorem zsi {n k : Nat} (h : n ≤ 10000) (hk : k ≤ 1000) : fits n k = true := zfj (by have := Nat.mul_le_mul h hk; omega)
open Classical in
def hd (s : Bs) : Int := match s with
 | [] => 0
 | c :: _ => (c.toNat : Int)
def lowI (n : Int) : Int := bif decide (n ≥ 65) && decide (n ≤ 90) then n + 32 else n
def zi (s : Bs) : Bs := toBs ((ofBs s).map lowI)
theorem bm {s : Bs} {i : Nat} (h : i < s.length) : (ofBs s)[i]'(by rw [jc]; exact h) = (s[i].toNat : Int) := by simp [ofBs]
theorem zg2 (c : UInt8) (h0 : decide ((c.toNat : Int) ≥ 65) = true) (h1 : decide ((c.toNat : Int) ≤ 90) = true) : IntKind.wrap .u8 ((IntKind.wrap .u8 ((c.toNat : Int) + 97)) - 65) = (c.toNat : Int) + 32 := by
 have h0 := of_decide_eq_true h0
 have h1 := of_decide_eq_true h1
 rw [zlf (n := (c.toNat : Int) + 97) (by omega) (by omega), zlf (by omega) (by omega)]
 omega
theorem uj (N : Nat) (s : Bs) (hs : s.length < N) (hb : s.length ≤ 1000000) : ym (Ev.upto N) ((s, ()), ()) = some ((zi s, ()), ()) := by
 apply zsg
 unfold ym
 refine kh ?_
 refine zab (σ := Unit) (fun i _ => ((((ofBs s).length : Int), ((i : Int), ())), (((ofBs s).take i).map lowI ++ (ofBs s).drop i, ()))) (fun i _ => True) s.length () (by simp) trivial hs ?_
 rintro i _ hi _
 have hol := jc s
 have hll : (((ofBs s).take i).map lowI ++ (ofBs s).drop i).length = s.length := by simp [hol]; omega
 by_cases hi' : i < s.length
 ·have c0 : decide ((i : Int) < ((ofBs s).length : Int)) = true := decide_eq_true (by omega)
  have c1 : decide ((i : Int) < ((((ofBs s).take i).map lowI ++ (ofBs s).drop i).length : Int)) = true := decide_eq_true (by omega)
  have c2 : decide ((0 : Int) ≤ (i : Int)) = true := decide_eq_true (by omega)
  have w : IntKind.wrap .i64 ((i : Int) + 1) = ((i + 1 : Nat) : Int) := by rw [wj (by omega) (by omega)]; omega
  have hd : (ofBs s).drop i = (s[i].toNat : Int) :: (ofBs s).drop (i + 1) := by rw [List.drop_eq_getElem_cons (by omega), bm hi']
  have hlen : (((ofBs s).take i).map lowI).length = i := by simp [hol]; omega
  have g : (((ofBs s).take i).map lowI ++ (ofBs s).drop i)[((i : Int)).toNat]? = some (s[i].toNat : Int) := by
   rw [Int.toNat_natCast, List.getElem?_append_right (by omega), hlen, Nat.sub_self, hd]; rfl
  have st : ∀ v, (((ofBs s).take i).map lowI ++ (ofBs s).drop i).set ((i : Int)).toNat v = ((ofBs s).take i).map lowI ++ v :: (ofBs s).drop (i + 1) := by
   intro v
   rw [Int.toNat_natCast, List.set_append_right _ _ (by omega), hlen, Nat.sub_self, hd]; rfl
  have nx : ((ofBs s).take (i + 1)).map lowI ++ (ofBs s).drop (i + 1) = ((ofBs s).take i).map lowI ++ lowI (s[i].toNat : Int) :: (ofBs s).drop (i + 1) := by
   rw [List.take_succ_eq_append_getElem (by omega), List.map_append, bm hi']; simp
  simp -implicitDefEqProofs only [c0, c1, c2, Bool.and_self, cond_true, g, Option.bind_some]
  cases h1 : decide ((s[i].toNat : Int) ≥ 65) with
  | false =>
   have hx : lowI (s[i].toNat : Int) = (s[i].toNat : Int) := by unfold lowI; rw [h1]; rfl
   rw [hx] at nx
   exact ⟨_, rfl, hi', (), by simp only [w, nx, ← hd], trivial⟩
  | true =>
   cases h2 : decide ((s[i].toNat : Int) ≤ 90) with
   | false =>
    have hx : lowI (s[i].toNat : Int) = (s[i].toNat : Int) := by unfold lowI; rw [h1, h2]; rfl
    rw [hx] at nx
    exact ⟨_, rfl, hi', (), by simp only [w, nx, ← hd], trivial⟩
   | true =>
    have hx : lowI (s[i].toNat : Int) = (s[i].toNat : Int) + 32 := by unfold lowI; rw [h1, h2]; rfl
    rw [hx] at nx
    have lw := zg2 s[i] h1 h2
    simp -implicitDefEqProofs only [beq_self_eq_true, cond_true, Option.bind_some, c1, c2, Bool.and_self, g, st, lw]
    exact ⟨_, rfl, hi', (), by simp only [w, nx], trivial⟩
 ·have c0 : decide ((i : Int) < ((ofBs s).length : Int)) = false := decide_eq_false (by omega)
  simp -implicitDefEqProofs only [c0, cond_false]
  refine ⟨_, rfl, _, rfl, ?_⟩
  rw [List.take_of_length_le (by omega), List.drop_eq_nil_of_le (by omega), List.append_nil]
  rfl
set_option maxHeartbeats 50000 in
set_option maxHeartbeats 50000 in
abbrev Dir := Bs × List Bs
abbrev Pol := List Dir × Bool
def xt : List Dir → Bs → Option (List Bs)
 | [], _ => none
 | d :: r, n => if d.1 == n then some d.2 else xt r n
theorem zcs {l : List Dir} {n : Bs} {i : Nat} (h : i < l.length) (h0 : xt (l.take i) n = none) : xt l n = if l[i].1 == n then some l[i].2 else xt (l.drop (i + 1)) n := by
 induction l generalizing i with
 | nil => simp at h
 | cons d r ih =>
  cases i with
  | zero => rfl
  | succ i =>
   simp only [List.take_succ_cons, xt] at h0
   split at h0
   ·cases h0
   ·rename_i hd
    simp only [List.getElem_cons_succ, List.drop_succ_cons, xt]
    rw [if_neg hd]
    exact ih (by simpa using h) h0
theorem zct {l : List Dir} {n : Bs} {i : Nat} (h : i < l.length) (h0 : xt (l.take i) n = none) (hd : (l[i].1 == n) = false) : xt (l.take (i + 1)) n = none := by
 have hl : i < (l.take (i + 1)).length := by simp; omega
 have e : (l.take (i + 1)).take i = l.take i := by rw [List.take_take, Nat.min_eq_left (by omega)]
 have := zcs hl (n := n) (by rw [e]; exact h0)
 rw [this]
 have e2 : (l.take (i + 1))[i] = l[i] := by simp
 rw [e2, hd]
 rw [List.drop_eq_nil_of_le (by simp; omega)]
 rfl
def okP (l : List Dir) : Prop := l.length ≤ 20 ∧ ∀ d ∈ l, d.2.length ≤ 210 ∧ ∀ w ∈ d.2, w.length ≤ 300
theorem zia (V : Ev) (l : List Bs) (h : l.length ≤ 1000000) : zl V ((l, ()), ()) = some ((), (l, ())) := by
 unfold zl
 have hf : fits ((([] : List Bs)).length + l.length) 16 = true := zfj (by simp; omega)
 cases l with
 | nil => rfl
 | cons a r =>
  simp -implicitDefEqProofs only [List.isEmpty_cons, Bool.not_false, cond_true, Option.bind_some, hf, List.nil_append]
theorem zq5 (p : Pol) (n : Bs) (hp : okP p.1) (hn : n.length ≤ 1000) : je (Ev.upto 5000) ((p, (n, ())), ()) = some (((xt p.1 (zi n)).isSome, ()), ((xt p.1 (zi n)).getD [], ())) := by
 apply zsg
 unfold je
 have q := uj 5000 n (by omega) (by omega)
 simp -implicitDefEqProofs only [q, Option.bind_some]
 refine kh ?_
 have hl := hp.1
 refine zab (σ := Unit) (fun i _ => ((zi n, (p.1, ((p.1.length : Int), ((i : Int), ())))), ())) (fun i _ => xt (p.1.take i) (zi n) = none) p.1.length () rfl rfl (by omega) ?_
 rintro i _ hi h0
 by_cases hi' : i < p.1.length
 ·have c0 : decide ((i : Int) < (p.1.length : Int)) = true := decide_eq_true (by omega)
  have w : IntKind.wrap .i64 ((i : Int) + 1) = ((i + 1 : Nat) : Int) := by rw [wj (by omega) (by omega)]; omega
  have hw := (hp.2 _ (List.getElem_mem hi')).1
  have qc := zia (Ev.upto 5000) p.1[i].2 (by omega)
  simp -implicitDefEqProofs only [c0, cond_true, zk hi', Option.bind_some]
  cases hd : p.1[i].1 == zi n with
  | true =>
   simp -implicitDefEqProofs only [cond_true, qc, Option.bind_some]
   refine ⟨_, rfl, ?_⟩
   rw [zcs hi' h0, hd]
   exact ⟨_, rfl, rfl⟩
  | false =>
   simp -implicitDefEqProofs only [cond_false, w]
   exact ⟨_, rfl, hi', (), rfl, zct hi' h0 hd⟩
 ·have c0 : decide ((i : Int) < (p.1.length : Int)) = false := decide_eq_false (by omega)
  have ht : p.1.take i = p.1 := List.take_of_length_le (by omega)
  rw [ht] at h0
  simp -implicitDefEqProofs only [c0, cond_false]
  refine ⟨_, rfl, ?_⟩
  rw [h0]
  exact ⟨_, rfl, rfl⟩
abbrev Blk := Int × (Bs × Bool)
theorem zq6 (l : List Bs) : wp (xq (Ev.upto 5000) ((l, ((210 : Int), ((300 : Int), ()))), ())) (fun o => ∃ b, o = ((b, ()), ()) ∧ (b = false → l.length ≤ 210 ∧ ∀ w ∈ l, w.length ≤ 300)) := by
 unfold xq
 refine zgj (fun h => ⟨_, rfl, true, rfl, fun h => by cases h⟩) fun h => ?_
 simp only at h
 refine kh ?_
 refine zab (σ := Unit) (fun i _ => ((l, ((300 : Int), ((i : Int), ()))), ())) (fun i _ => ∀ w ∈ l.take i, w.length ≤ 300) l.length () rfl (by simp) (by omega) ?_
 rintro i _ hi h0
 by_cases hi' : i < l.length
 ·have c0 : decide ((i : Int) < (l.length : Int)) = true := decide_eq_true (by omega)
  have w : IntKind.wrap .i64 ((i : Int) + 1) = ((i + 1 : Nat) : Int) := by rw [wj (by omega) (by omega)]; omega
  simp -implicitDefEqProofs only [c0, cond_true, zk hi', Option.bind_some]
  refine zgj (fun h => ⟨_, rfl, _, rfl, true, rfl, fun h => by cases h⟩) fun hw => ?_
  simp -implicitDefEqProofs only [w]
  refine ⟨_, rfl, hi', (), rfl, ?_⟩
  rw [List.take_succ_eq_append_getElem hi']
  intro x hx
  rcases List.mem_append.1 hx with hx | hx
  ·exact h0 x hx
  ·rw [List.mem_singleton.1 hx]; omega
 ·have c0 : decide ((i : Int) < (l.length : Int)) = false := decide_eq_false (by omega)
  have ht : l.take i = l := List.take_of_length_le (by omega)
  simp -implicitDefEqProofs only [c0, cond_false]
  rw [ht] at h0
  exact ⟨_, rfl, _, rfl, false, rfl, fun _ => ⟨by omega, h0⟩⟩
theorem zq7 (l : List Pol) : wp (zx (Ev.upto 5000) ((l, ()), ())) (fun o => ∃ b, o = ((b, ()), ()) ∧ (b = false → l.length ≤ 15 ∧ ∀ p ∈ l, okP p.1)) := by
 unfold zx
 refine zgj (fun h => ⟨_, rfl, true, rfl, fun h => by cases h⟩) fun h => ?_
 simp only at h
 refine kh ?_
 refine zab (σ := Unit) (fun i _ => ((l, ((i : Int), ())), ())) (fun i _ => ∀ p ∈ l.take i, okP p.1) l.length () rfl (by simp) (by omega) ?_
 rintro i _ hi h0
 by_cases hi' : i < l.length
 ·have c0 : decide ((i : Int) < (l.length : Int)) = true := decide_eq_true (by omega)
  have w : IntKind.wrap .i64 ((i : Int) + 1) = ((i + 1 : Nat) : Int) := by rw [wj (by omega) (by omega)]; omega
  simp -implicitDefEqProofs only [c0, cond_true, zk hi', Option.bind_some]
  refine zgj (fun h => ⟨_, rfl, _, rfl, true, rfl, fun h => by cases h⟩) fun h20 => ?_
  refine kh ?_
  refine zab (σ := Unit) (fun k _ => ((l, ((i : Int), ((k : Int), ()))), ())) (fun k _ => ∀ d ∈ l[i].1.take k, d.2.length ≤ 210 ∧ ∀ w ∈ d.2, w.length ≤ 300) l[i].1.length () rfl (by simp) (by omega) ?_
  rintro k _ hk hd
  simp -implicitDefEqProofs only [zk hi', Option.bind_some]
  by_cases hk' : k < l[i].1.length
  ·have d0 : decide ((k : Int) < (l[i].1.length : Int)) = true := decide_eq_true (by omega)
   have wk : IntKind.wrap .i64 ((k : Int) + 1) = ((k + 1 : Nat) : Int) := by rw [wj (by omega) (by omega)]; omega
   simp -implicitDefEqProofs only [d0, cond_true, zk hk', Option.bind_some]
   obtain ⟨o, e, b, rfl, hb⟩ := zq6 l[i].1[k].2
   cases h2 : decide (((l[i].1[k].1.length : Nat) : Int) > 200) == false with
   | false =>
    simp -implicitDefEqProofs only [cond_false, Option.bind_some, cond_true]
    exact ⟨_, rfl, _, rfl, _, rfl, true, rfl, fun h => by cases h⟩
   | true =>
    simp -implicitDefEqProofs only [cond_true, e, Option.bind_some]
    cases b with
    | true =>
     simp -implicitDefEqProofs only [cond_true]
     exact ⟨_, rfl, _, rfl, _, rfl, true, rfl, fun h => by cases h⟩
    | false =>
     simp -implicitDefEqProofs only [cond_false, wk]
     refine ⟨_, rfl, hk', (), rfl, ?_⟩
     rw [List.take_succ_eq_append_getElem hk']
     intro x hx
     rcases List.mem_append.1 hx with hx | hx
     ·exact hd x hx
     ·rw [List.mem_singleton.1 hx]; exact hb rfl
  ·have d0 : decide ((k : Int) < (l[i].1.length : Int)) = false := decide_eq_false (by omega)
   have ht : l[i].1.take k = l[i].1 := List.take_of_length_le (by omega)
   rw [ht] at hd
   simp -implicitDefEqProofs only [d0, cond_false]
   refine ⟨_, rfl, ?_⟩
   simp -implicitDefEqProofs only [w]
   refine ⟨_, rfl, hi', (), rfl, ?_⟩
   rw [List.take_succ_eq_append_getElem hi']
   intro x hx
   rcases List.mem_append.1 hx with hx | hx
   ·exact h0 x hx
   ·rw [List.mem_singleton.1 hx]; exact ⟨by omega, hd⟩
 ·have c0 : decide ((i : Int) < (l.length : Int)) = false := decide_eq_false (by omega)
  have ht : l.take i = l := List.take_of_length_le (by omega)
  rw [ht] at h0
  simp -implicitDefEqProofs only [c0, cond_false]
  exact ⟨_, rfl, _, rfl, false, rfl, fun _ => ⟨by omega, h0⟩⟩
abbrev dirN : Bs := [114, 101, 113, 117, 105, 114, 101, 45, 116, 114, 117, 115, 116, 101, 100, 45, 116, 121, 112, 101, 115, 45, 102, 111, 114]
abbrev scrQ : Bs := [39, 115, 99, 114, 105, 112, 116, 39]
def b7 (p : Pol) : List Bs := (xt p.1 dirN).getD []
def yd (p : Pol) : Bool := (b7 p).any fun w => zi w == scrQ
theorem zg3 : zi dirN = dirN := by decide
theorem zmr : zi scrQ = scrQ := by decide
theorem zey {p : Pol} (hp : okP p.1) : (b7 p).length ≤ 210 ∧ ∀ w, w ∈ b7 p → w.length ≤ 300 := by
 have key : ∀ l : List Dir, (∀ d ∈ l, d.2.length ≤ 210 ∧ ∀ w ∈ d.2, w.length ≤ 300) → ((xt l dirN).getD []).length ≤ 210 ∧ ∀ w, w ∈ (xt l dirN).getD [] → w.length ≤ 300 := by
  intro l
  induction l with
  | nil => intro _; exact ⟨by simp [xt], fun w hw => by simp [xt] at hw⟩
  | cons a l ih =>
   intro h
   unfold xt
   have ha := h a (List.mem_cons_self ..)
   have hl := ih fun d hd => h d (List.mem_cons_of_mem _ hd)
   split
   ·exact ⟨ha.1, fun w hw => ha.2 w hw⟩
   ·exact hl
 exact key p.1 hp.2
theorem z1m (a b : Bs) (ha : a.length ≤ 1000) (hb : b.length ≤ 1000) : vf (Ev.upto 5000) ((a, (b, ())), ()) = some ((zi a == zi b, ()), ()) := by
 unfold vf
 simp only
 rw [uj 5000 a (by omega) (by omega)]
 simp only [Option.bind_some]
 rw [uj 5000 b (by omega) (by omega)]
 simp only [Option.bind_some]
theorem gk {ε β : Type} (q : ε → Bool) (f : Int → β) (e : β) : ∀ (l : List ε) (i : Nat), (l.any q = true ∧ ∃ j : Nat, yn (fun (i : Nat) (x : ε) (_ : Unit) => if q x = true then (.inr (f (i : Int)) : Unit ⊕ β) else .inl ()) (fun _ => e) i l () = f (j : Int)) ∨ (l.any q = false ∧ yn (fun (i : Nat) (x : ε) (_ : Unit) => if q x = true then (.inr (f (i : Int)) : Unit ⊕ β) else .inl ()) (fun _ => e) i l () = e)
 | [], i => .inr ⟨rfl, rfl⟩
 | x :: l, i => by
  unfold yn
  cases hq : q x with
  | true => exact .inl ⟨by simp [hq], i, by simp⟩
  | false =>
   rcases gk q f e l (i + 1) with ⟨h1, j, h2⟩ | ⟨h1, h2⟩
   ·refine .inl ⟨by simp [hq, h1], j, ?_⟩
    simp only [Bool.false_eq_true, if_false]
    exact h2
   ·refine .inr ⟨by simp [hq, h1], ?_⟩
    simp only [Bool.false_eq_true, if_false]
    exact h2
theorem idxW (l : List Bs) (hl : l.length ≤ 300) (h : ∀ w, w ∈ l → w.length ≤ 300) : ∃ i : Int, zc (Ev.upto 5000) ((l, ()), ()) = some ((i, ()), ()) ∧ decide (i ≥ 0) = l.any fun w => zi w == scrQ := by
 have e : ∀ r, ((yn (fun (i : Nat) (x : Bs) (_ : Unit) => if (zi x == scrQ) = true then (.inr (.inr (((i : Int), ()), ())) : Unit ⊕ ((Unit × Unit) ⊕ ((Int × Unit) × Unit))) else .inl ()) (fun _ => .inl ((), ())) 0 l ()) = r) → (match r with | Sum.inl o5 => (some (((-1 : Int), ()), ())) | Sum.inr o6 => (some ((o6.1.1, ()), ()))) = zc (Ev.upto 5000) ((l, ()), ()) := by
  intro r hr
  unfold zc
  symm
  refine zu (l := l) (σ := Unit) (fun i _ => ((l, ((l.length : Int), ((i : Int), ()))), ())) (fun i x _ => if (zi x == scrQ) = true then .inr (.inr (((i : Int), ()), ())) else .inl ()) (fun _ => .inl ((), ())) (fun _ _ => True) () rfl trivial (by omega) (fun i s hi _ => ⟨?_, fun _ _ => trivial⟩) (fun s _ => ?_) (by rw [hr]; cases r <;> rfl)
  ·have hw := h _ (List.getElem_mem hi)
   unfold zaf
   simp only [yz, decide_eq_true hi, cond_true, zk hi, Option.bind_some]
   rw [z1m l[i] [39, 115, 99, 114, 105, 112, 116, 39] (by omega) (by simp), zmr]
   simp only [Option.bind_some]
   cases (zi l[i] == scrQ) with
   | true => simp only [cond_true, if_true]
   | false => simp only [cond_false, Bool.false_eq_true, if_false, x5 (show i < 1000000 by omega)]
  ·simp only [yz, Nat.lt_irrefl, decide_false, cond_false]
 rcases gk (fun w => zi w == scrQ) (fun i => (.inr ((i, ()), ()) : (Unit × Unit) ⊕ ((Int × Unit) × Unit))) (.inl ((), ())) l 0 with ⟨h1, j, h2⟩ | ⟨h1, h2⟩
 ·exact ⟨(j : Int), (e _ h2).symm, by rw [h1]; exact decide_eq_true (by omega)⟩
 ·exact ⟨-1, (e _ h2).symm, by rw [h1]; rfl⟩
theorem zm0 (p : Pol) (hp : okP p.1) : xi (Ev.upto 5000) ((p, ()), ()) = some ((yd p, ()), ()) := by
 obtain ⟨h1, h2⟩ := zey hp
 unfold xi zo
 simp only
 rw [zq5 p dirN hp (by simp), zg3]
 simp only [Option.bind_some]
 obtain ⟨i, e, h⟩ := idxW (b7 p) (by omega) h2
 unfold b7 at e h
 rw [e]
 simp only [Option.bind_some, h]
 rfl
theorem zgf : zp (Ev.upto 5000) ((), ()) = some ((true, ()), ()) := by kernel_rfl
abbrev Val := Int × (Bs × Int)
def jp : Nat → List Pol → List Blk
 | _, [] => []
 | i, p :: l => if yd p = true then ((i : Int), (dirN, p.2)) :: jp (i + 1) l else jp (i + 1) l
def okS (l : List Pol) : Bool := l.all fun p => !yd p || p.2
def zcx (l : List Pol) (k : Int) (v : Val) (ans : Bs) (has : Bool) : Bs × ((Bool × List Blk) × (Bool × Int)) :=
 if (!(l.any yd) || (k == 0 || v.1 == k)) = true then (v.2.1, ((true, []), (false, 0)))
 else if has = true then (ans, ((true, []), (true, 0)))
 else if okS l = true then (v.2.1, ((true, jp 0 l), (false, 0))) else ([], ((false, jp 0 l), (false, 200)))
def zdy (l : List Pol) : Prop := l.length ≤ 15 ∧ ∀ p ∈ l, okP p.1
theorem za5 (p : Pol) (l : List Pol) (i : Nat) : jp i (p :: l) = if yd p = true then ((i : Int), (dirN, p.2)) :: jp (i + 1) l else jp (i + 1) l := rfl
theorem zsm : ∀ (l : List Pol) (i : Nat), (jp i l).length ≤ l.length
 | [], _ => Nat.le_refl _
 | p :: l, i => by
  rw [za5]
  have := zsm l (i + 1)
  split
  ·simp only [List.length_cons]; omega
  ·simp only [List.length_cons]; omega
theorem zsn : ∀ (l : List Pol) (i : Nat), (jp i l = [] ↔ l.any yd = false) ∧ (l.any yd = false → okS l = true)
 | [], _ => ⟨⟨fun _ => rfl, fun _ => rfl⟩, fun _ => rfl⟩
 | p :: l, i => by
  obtain ⟨h1, h2⟩ := zsn l (i + 1)
  unfold okS at h2 ⊢
  rw [za5]
  cases hn : yd p with
  | true => simp [hn]
  | false =>
   simp only [Bool.false_eq_true, if_false, List.any_cons, hn, Bool.false_or, List.all_cons, Bool.not_false, Bool.true_or, Bool.true_and]
   exact ⟨h1, h2⟩
theorem anyP (l : List Pol) (h : zdy l) : zd (Ev.upto 5000) ((l, ()), ()) = some ((l.any yd, ()), ()) := by
 have hl := h.1
 have e : ∀ r, ((yn (fun (i : Nat) (x : Pol) (_ : Unit) => if yd x = true then (.inr (.inr (((i : Int), ()), ())) : Unit ⊕ ((Unit × Unit) ⊕ ((Int × Unit) × Unit))) else .inl ()) (fun _ => .inl ((), ())) 0 l ()) = r) → (match r with | Sum.inl o5 => (some (((-1 : Int), ()), ())) | Sum.inr o6 => (some ((o6.1.1, ()), ()))) = zg (Ev.upto 5000) ((l, ()), ()) := by
  intro r hr
  unfold zg
  symm
  refine zu (l := l) (σ := Unit) (fun i _ => ((l, ((l.length : Int), ((i : Int), ()))), ())) (fun i x _ => if yd x = true then .inr (.inr (((i : Int), ()), ())) else .inl ()) (fun _ => .inl ((), ())) (fun _ _ => True) () rfl trivial (by omega) (fun i s hi _ => ⟨?_, fun _ _ => trivial⟩) (fun s _ => ?_) (by rw [hr]; cases r <;> rfl)
  ·simp only [yz, decide_eq_true hi, cond_true, zk hi, Option.bind_some]
   rw [zm0 l[i] (h.2 _ (List.getElem_mem hi))]
   simp only [Option.bind_some]
   cases yd l[i] with
   | true => simp only [cond_true, if_true]
   | false => simp only [cond_false, Bool.false_eq_true, if_false, x5 (show i < 1000000 by omega)]
  ·simp only [yz, Nat.lt_irrefl, decide_false, cond_false]
 unfold zd
 rcases gk yd (fun i => (.inr ((i, ()), ()) : (Unit × Unit) ⊕ ((Int × Unit) × Unit))) (.inl ((), ())) l 0 with ⟨h1, j, h2⟩ | ⟨h1, h2⟩
 ·simp only
  rw [← e _ h2, h1]
  simp only [Option.bind_some, decide_eq_true (show (j : Int) ≥ 0 by omega)]
 ·simp only
  rw [← e _ h2, h1]
  rfl
theorem zez {β : Type} (fin : Bool × List Blk → β) : ∀ (l : List Pol) (i : Nat) (s : Bool × List Blk), yn (fun (i : Nat) (p : Pol) (s : Bool × List Blk) => (.inl (if yd p = true then (s.1 && p.2, s.2 ++ [((i : Int), (dirN, p.2))]) else s) : (Bool × List Blk) ⊕ β)) fin i l s = fin (s.1 && okS l, s.2 ++ jp i l)
 | [], i, s => by simp [yn, okS, jp]
 | p :: l, i, s => by
  unfold yn
  simp only
  rw [zez fin l (i + 1), za5]
  cases hn : yd p with
  | true => simp [hn, okS, Bool.and_assoc]
  | false => simp [hn, okS]
theorem ztv (l : List Pol) (k : Int) (v : Val) (ans : Bs) (has : Bool) (h : zdy l) : xa (Ev.upto 5000) ((l, (k, (v, (ans, (has, ()))))), ()) = some (((zcx l k v ans has).1, ((zcx l k v ans has).2.1, ((zcx l k v ans has).2.2.1, ((zcx l k v ans has).2.2.2, ())))), ()) := by
 have hl := h.1
 unfold xa zcx
 simp only
 rw [anyP l h]
 simp only [Option.bind_some]
 cases ha : l.any yd with
 | false => rfl
 | true =>
  simp only [Bool.not_true, beq_self_eq_true, cond_true, Bool.false_or]
  cases hk : (k == (0 : Int)) with
  | true => rfl
  | false =>
   simp only [beq_self_eq_true, cond_true, Option.bind_some, Bool.false_or]
   cases hv : (v.1 == k) with
   | true => rfl
   | false =>
    simp only [cond_false, Bool.false_eq_true, if_false]
    cases has with
    | true => rfl
    | false =>
     simp only [cond_false, Bool.false_eq_true, if_false]
     refine zu (l := l) (σ := Bool × List Blk) (fun i s => ((l, ((l.length : Int), ((i : Int), ()))), ((v, ()), ((false, ()), ((s.1, ()), (s.2, ())))))) (fun i p s => .inl (if yd p = true then (s.1 && p.2, s.2 ++ [((i : Int), (dirN, p.2))]) else s)) (fun s => ((), ((v, ()), ((false, ()), ((s.1, ()), (s.2, ())))))) (fun i s => s.2.length ≤ i) (true, []) rfl (by simp) (by omega) (fun i s hi hs => ⟨?_, fun s' e => ?_⟩) (fun s _ => ?_) ?_
     ·simp only [yz, decide_eq_true hi, cond_true, zk hi, Option.bind_some]
      rw [zm0 l[i] (h.2 _ (List.getElem_mem hi))]
      simp only [Option.bind_some]
      cases yd l[i] with
      | true =>
       obtain ⟨o, b⟩ := s
       simp only at hs
       simp only [cond_true, zsi (show b.length + ([((i : Int), (([114, 101, 113, 117, 105, 114, 101, 45, 116, 114, 117, 115, 116, 101, 100, 45, 116, 121, 112, 101, 115, 45, 102, 111, 114] : Bs), l[i].2))] : List Blk).length ≤ 10000 by simp; omega) (show 32 ≤ 1000 by omega), if_true, x5 (show i < 1000000 by omega)]
       cases o with
       | true => simp only [beq_self_eq_true, cond_true, Option.bind_some, Bool.true_and, x5 (show i < 1000000 by omega)]
       | false => simp only [show (false == true) = false from rfl, cond_false, Option.bind_some, Bool.false_and, x5 (show i < 1000000 by omega)]
      | false => simp only [cond_false, Option.bind_some, Bool.false_eq_true, if_false, x5 (show i < 1000000 by omega)]
     ·simp only [Sum.inl.injEq] at e
      rw [← e]
      split
      ·simp only [List.length_append, List.length_cons, List.length_nil]; omega
      ·omega
     ·simp only [yz, Nat.lt_irrefl, decide_false, cond_false]
     ·rw [zez]
      simp only [Bool.true_and, List.nil_append]
      cases okS l with
      | true => rfl
      | false => rfl
theorem bigP (l : List Pol) : ∃ b, zx (Ev.upto 5000) ((l, ()), ()) = some ((b, ()), ()) ∧ (b = false → zdy l) := by
 obtain ⟨_, e, b, rfl, h⟩ := zq7 l
 exact ⟨b, e, fun hb => h hb⟩
theorem zwz (l : List Pol) (v : Val) (ans : Bs) : ∃ b, yk (Ev.upto 5000) ((l, (v, (ans, ()))), ()) = some ((b, ()), ()) ∧ (b = false → zdy l) := by
 obtain ⟨b, hb, hk⟩ := bigP l
 unfold yk
 simp only
 rw [hb]
 simp only [Option.bind_some]
 cases b with
 | true => exact ⟨true, rfl, fun h => by cases h⟩
 | false =>
  simp only [beq_self_eq_true, cond_true]
  cases decide ((v.2.1.length : Int) > 3000) with
  | true => exact ⟨true, rfl, fun h => by cases h⟩
  | false => exact ⟨_, rfl, fun _ => hk rfl⟩
theorem zw0 : ∀ (l : List Pol) (b i : Nat) (hi : i < l.length), jp b l = jp b (l.take i) ++ ((if yd l[i] = true then [(((b + i : Nat) : Int), (dirN, l[i].2))] else []) ++ jp (b + i + 1) (l.drop (i + 1)))
 | [], b, i, hi => by simp at hi
 | p :: l, b, 0, hi => by
  rw [za5]
  simp only [List.take_zero, List.getElem_cons_zero, Nat.add_zero, List.drop_succ_cons, List.drop_zero]
  show _ = [] ++ _
  split <;> rfl
 | p :: l, b, i + 1, hi => by
  have ih := zw0 l (b + 1) i (by simpa using hi)
  rw [za5, List.take_succ_cons, za5]
  simp only [List.getElem_cons_succ, List.drop_succ_cons]
  rw [ih, show b + 1 + i = b + (i + 1) by omega]
  split
  ·rfl
  ·rfl
theorem z25 (l : List Pol) (b i : Nat) (hi : i < l.length) : jp b (l.take (i + 1)) = jp b (l.take i) ++ (if yd l[i] = true then [(((b + i : Nat) : Int), (dirN, l[i].2))] else []) := by
 have h := zw0 (l.take (i + 1)) b i (by rw [List.length_take]; omega)
 rw [List.take_take, Nat.min_eq_left (by omega), List.getElem_take, List.drop_of_length_le (by rw [List.length_take]; omega)] at h
 rw [h]
 show _ ++ (_ ++ []) = _
 rw [List.append_nil]
theorem z6v (l : List Pol) (i : Nat) (hi : i < l.length) : okS (l.take (i + 1)) = (okS (l.take i) && (!yd l[i] || l[i].2)) := by
 unfold okS
 rw [List.take_succ_eq_append_getElem hi, List.all_append]
 simp
theorem plainSinkReports (l : List Pol) (k : Int) (v : Val) : b4 (Ev.upto 5000) ((l, (k, (v, ()))), ()) = some ((true, ()), ()) := by
 unfold b4
 obtain ⟨b, hb, hk⟩ := zwz l v []
 simp only
 rw [hb]
 simp only [Option.bind_some]
 cases b with
 | true => rfl
 | false =>
  have h := hk rfl
  have hl := h.1
  simp only [beq_self_eq_true, cond_true]
  cases hk0 : (k == (0 : Int)) with
  | true => rfl
  | false =>
   simp only [beq_self_eq_true, cond_true, Option.bind_some]
   cases hv : (v.1 == k) with
   | true => rfl
   | false =>
    simp only [cond_false]
    rw [ztv l k v [] false h]
    simp only [Option.bind_some]
    have hc : (zcx l k v [] false).2.1 = (okS l, jp 0 l) ∧ (zcx l k v [] false).2.2.2 = (if okS l = true then 0 else 200) := by
     unfold zcx
     rw [hk0, hv]
     obtain ⟨hb1, hb2⟩ := zsn l 0
     cases ha : l.any yd with
     | false => rw [hb2 ha, hb1.2 ha]; exact ⟨rfl, rfl⟩
     | true =>
      simp only [Bool.not_true, Bool.or_self, Bool.false_eq_true, if_false]
      cases okS l with
      | true => exact ⟨rfl, rfl⟩
      | false => exact ⟨rfl, rfl⟩
    rw [hc.1, hc.2]
    refine zu (l := l) (σ := Unit) (fun i _ => ((l, ((if okS l = true then (0 : Int) else 200), (((jp 0 (l.take i)).length : Int), (okS (l.take i), ((i : Int), ()))))), (((okS l, jp 0 l), ()), ()))) (fun _ _ _ => .inl ()) (fun _ => .inl (((if okS l = true then (0 : Int) else 200), (((jp 0 (l.take l.length)).length : Int), (okS (l.take l.length), ()))), (((okS l, jp 0 l), ()), ()))) (fun _ _ => True) () rfl trivial (by omega) (fun i _ hi _ => ⟨?_, fun _ _ => trivial⟩) (fun _ _ => ?_) ?_
    ·have e1 := zw0 l 0 i hi
     have e2 := z25 l 0 i hi
     have e3 := z6v l i hi
     have hle := zsm (l.take i) 0
     rw [List.length_take] at hle
     rw [e2, e3]
     simp only [yz, decide_eq_true hi, cond_true, zk hi, Option.bind_some]
     rw [zm0 l[i] (h.2 _ (List.getElem_mem hi))]
     simp only [Option.bind_some]
     cases hn : yd l[i] with
     | false => simp only [Bool.not_false, cond_true, Option.bind_some, Bool.false_eq_true, if_false, List.append_nil, Bool.true_or, Bool.and_true, x5 (show i < 1000000 by omega)]
     | true =>
      rw [hn] at e1
      simp only [if_true, Nat.zero_add] at e1
      have hlt : (jp 0 (l.take i)).length < (jp 0 l).length := by
       rw [e1]
       simp only [List.length_append, List.length_cons, List.length_nil]
       omega
      have hat : idx (jp 0 l) (((jp 0 (l.take i)).length : Nat) : Int) = some ((i : Int), (dirN, l[i].2)) := by
       have : (jp 0 l)[(jp 0 (l.take i)).length]? = some ((i : Int), (dirN, l[i].2)) := by
        rw [e1, List.getElem?_append_right (Nat.le_refl _), Nat.sub_self]
        rfl
       unfold idx
       rw [if_pos (by omega), Int.toNat_natCast, this]
      simp only [Bool.not_true, cond_false, decide_eq_false (show ¬ ((jp 0 (l.take i)).length : Int) ≥ ((jp 0 l).length : Int) by omega), beq_self_eq_true, cond_true, hat, Option.bind_some, bne_self_eq_false, zk hi, if_true, List.length_append, List.length_cons, List.length_nil, Nat.zero_add, Bool.false_or, x5 (show i < 1000000 by omega), x5 (show (jp 0 (l.take i)).length < 1000000 by omega)]
      cases okS (l.take i) with
      | true => simp only [beq_self_eq_true, cond_true, Option.bind_some, Bool.true_and, x5 (show i < 1000000 by omega), x5 (show (jp 0 (l.take i)).length < 1000000 by omega)]
      | false => simp only [show (false == true) = false from rfl, cond_false, Option.bind_some, Bool.false_and, x5 (show i < 1000000 by omega), x5 (show (jp 0 (l.take i)).length < 1000000 by omega)]
    ·simp only [yz, Nat.lt_irrefl, decide_false, cond_false]
    ·rw [zh5 _ _ _ _ (fun _ _ => rfl), List.take_length]
     simp only
     rw [zgf]
     simp only [Option.bind_some, beq_self_eq_true, cond_true]
     cases okS l with
     | true => rfl
     | false => rfl
end Go.En.Pl
