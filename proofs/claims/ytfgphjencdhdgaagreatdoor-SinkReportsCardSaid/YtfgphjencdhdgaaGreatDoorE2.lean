/- Text E2 of this seat: written by a program of ours, or by hand; checked by Lean. -/
import Derived.Test.YtfgphjencdhdgaaGreatDoorE1
import Derived.Laws.AppendOwn
import Derived.Lib.FrozenHead
import Derived.DataElems
import Derived.Below
set_option linter.unusedVariables false
namespace Go.En
open Go.RowKit

/-! -/
structure Same (B : Nat → Prop) (w w' : World) : Prop where
 os : w'.os = w.os
 tape : w'.tape = w.tape
 output : w'.output = w.output
 size : w.heap.size ≤ w'.heap.size
 block : ∀ b, b < w.heap.size → ¬ B b → w'.heap[b]? = w.heap[b]?
theorem Same.refl (B : Nat → Prop) (w : World) : Same B w w := ⟨rfl, rfl, rfl, Nat.le_refl _, fun _ _ _ => rfl⟩
theorem Same.trans {B B' C : Nat → Prop} {w w1 w2 : World} (h : Same B w w1) (h' : Same B' w1 w2) (hB : ∀ b, B b → C b) (hB' : ∀ b, b < w.heap.size → B' b → C b) : Same C w w2 :=
 ⟨h'.os.trans h.os, h'.tape.trans h.tape, h'.output.trans h.output, Nat.le_trans h.size h'.size, fun b hb hn =>
  (h'.block b (Nat.lt_of_lt_of_le hb h.size) (fun hx => hn (hB' b hb hx))).trans (h.block b hb (fun hx => hn (hB b hx)))⟩
theorem Same.mono {B C : Nat → Prop} {w w' : World} (h : Same B w w') (hB : ∀ b, b < w.heap.size → B b → C b) : Same C w w' :=
 ⟨h.os, h.tape, h.output, h.size, fun b hb hn => h.block b hb fun hx => hn (hB b hb hx)⟩
theorem Same.of_grown {w w' : World} {row : Option Nat} (h : w.grownBy w' row) : Same (fun b => row = some b) w w' :=
 ⟨h.os, h.tape, h.output, h.size, fun b hb hn => h.block b hb fun e => hn e.symm⟩
theorem Same.below {B : Nat → Prop} {n : Nat} {w w' : World} (h : Same B w w') (hn : n ≤ w.heap.size) (hB : ∀ b, B b → n ≤ b) : Below n w w' :=
 ⟨h.os, h.tape, h.output, h.size, fun k hk => h.block k (Nat.lt_of_lt_of_le hk hn) fun hb => Nat.lt_irrefl _ (Nat.lt_of_lt_of_le hk (hB _ hb))⟩
theorem Same.of_below {w w' : World} (h : Below w.heap.size w w') : Same (fun _ => False) w w' :=
 ⟨h.os, h.tape, h.output, h.size, fun b hb _ => h.block b hb⟩
theorem Same.alloc (B : Nat → Prop) (w : World) (o : Obj) : Same B w (w.alloc o) := ⟨rfl, rfl, rfl, by simp, fun b hb _ => heap_alloc_old w o b hb⟩
theorem Same.cell {B : Nat → Prop} {w w' : World} (h : Same B w w') {a : Addr} (hb : a.block < w.heap.size) (hn : ¬ B a.block) : w'.cell? a = w.cell? a :=
 World.cell?_of_block (h.block _ hb hn)

theorem zfu (a : Addr) (n : Nat) : (a.add n).block = a.block := by unfold Addr.add; split <;> rfl

/-! -/
def Rng (k : IntKind) (n : Int) : Prop := (Lit.int k n).wf = true
def ErrV (b : Bool) (v : Value) : Prop := match b with
 | true => ∃ t x, v = .iface t x
 | false => v = .nilIface
def z60 (t : TypeId) (k : IntKind) (o : Option Int) (v : Value) : Prop := match o with
 | some n => v = .iface t (.int k n) ∧ Rng k n
 | none => v = .nilIface
def ImmC (S : Nat → Prop) (w : World) : (t : Ty) → (Nat → Option Value) → t.T → Prop
 | .int k, g, n => g 0 = some (.int k n) ∧ Rng k n
 | .bool, g, b => g 0 = some (.bool b)
 | .str, g, s => g 0 = some (.string ⟨s.toArray⟩) ∧ s.length ≤ maxB
 | .err, g, b => ∃ v, g 0 = some v ∧ ErrV b v
 | .eint t k, g, o => ∃ v, g 0 = some v ∧ z60 t k o v
 | .pair a b, g, x => ImmC S w a g x.1 ∧ ImmC S w b (fun j => g (a.size + j)) x.2
 | .slice _ t, g, l => ∃ A cap, g 0 = some (.slice A l.length cap) ∧ l.length ≤ cap ∧ l.length ≤ maxB ∧ cap ≤ maxLen ∧ (A = none → cap = 0) ∧
   ∀ (k : Nat) (x : t.T), l[k]? = some x → ∃ ad, A = some ad ∧ S ad.block ∧ ImmC S w t (fun j => w.cell? (ad.add (k * t.size + j))) x
theorem Ty.size_pos : ∀ t : Ty, 0 < t.size
 | .pair a b => by have := a.size_pos; simp only [Ty.size]; omega
 | .int _ | .bool | .str | .slice _ _ | .err | .eint _ _ => by simp [Ty.size]
theorem ImmC.congr {S : Nat → Prop} {w : World} : ∀ {t : Ty} {g g' : Nat → Option Value} {x : t.T}, (∀ j, j < t.size → g' j = g j) → ImmC S w t g x → ImmC S w t g' x
 | .int k, g, g', x, hg, h => ⟨(hg 0 (by simp [Ty.size])).trans h.1, h.2⟩
 | .bool, g, g', x, hg, h => (hg 0 (by simp [Ty.size])).trans h
 | .str, g, g', x, hg, h => ⟨(hg 0 (by simp [Ty.size])).trans h.1, h.2⟩
 | .pair a b, g, g', x, hg, h => ⟨ImmC.congr (fun j hj => hg j (by simp only [Ty.size]; omega)) h.1, ImmC.congr (fun j hj => hg _ (by simp only [Ty.size]; omega)) h.2⟩
 | .slice e t, g, g', x, hg, h => by
  obtain ⟨A, cap, h1, h2⟩ := h
  exact ⟨A, cap, (hg 0 (by simp [Ty.size])).trans h1, h2⟩
 | .err, g, g', x, hg, h => by
  obtain ⟨v, h1, h2⟩ := h
  exact ⟨v, (hg 0 (by simp [Ty.size])).trans h1, h2⟩
 | .eint t k, g, g', x, hg, h => by
  obtain ⟨v, h1, h2⟩ := h
  exact ⟨v, (hg 0 (by simp [Ty.size])).trans h1, h2⟩
theorem ImmC.imp {S S' : Nat → Prop} {w w' : World} (hS : ∀ b, S b → S' b) (hw : ∀ b, S b → w'.heap[b]? = w.heap[b]?) : ∀ {t : Ty} {g : Nat → Option Value} {x : t.T}, ImmC S w t g x → ImmC S' w' t g x
 | .int k, g, x, h => h
 | .bool, g, x, h => h
 | .str, g, x, h => h
 | .err, g, x, h => h
 | .eint t k, g, x, h => h
 | .pair a b, g, x, h => ⟨ImmC.imp hS hw h.1, ImmC.imp hS hw h.2⟩
 | .slice e t, g, x, h => by
  obtain ⟨A, cap, h1, h2, h3, h4, h0, h5⟩ := h
  refine ⟨A, cap, h1, h2, h3, h4, h0, fun k y hy => ?_⟩
  obtain ⟨ad, h6, h7, h8⟩ := h5 k y hy
  refine ⟨ad, h6, hS _ h7, ImmC.congr (fun j _ => ?_) (ImmC.imp hS hw h8)⟩
  exact World.cell?_of_block (by rw [zfu]; exact hw _ h7)

/-! -/
inductive GL where
 | blk (b : Nat)
 | row (v : Value)
 | two (b : Nat) (v : Value)
 | lpr (l : Nat) (rec : Loop)
 | deep (g : Nat) (v : Value) (hs : List (Nat × Value))
def GL.blocks : GL → List Nat
 | .blk b => [b]
 | .row v => v.ownBlock.toList
 | .two b v => b :: v.ownBlock.toList
 | .lpr _ _ => []
 | .deep _ v hs => v.ownBlock.toList ++ hs.flatMap fun h => h.2.ownBlock.toList
def GL.hdr : GL → Option Value
 | .row v => some v
 | .deep _ v _ => some v
 | _ => none
def GL.sim : GL → GL → Prop
 | .deep g v hs, b => ∃ g' hs', b = .deep g' v hs' ∧ g ≤ g' ∧ (g' = g → hs' = hs)
 | .row v, b => b = .row v ∨ ∃ g' hs', b = .deep g' v hs'
 | a, b => b = a
def GL.kin : GL → GL → Prop
 | .deep _ v _, b => ∃ g' hs', b = .deep g' v hs'
 | .row v, b => b = .row v ∨ ∃ g' hs', b = .deep g' v hs'
 | a, b => b = a
structure GL.bs (a b : GL) : Prop where
 hdr : b.hdr = a.hdr
 blk : ∀ x, a = .blk x → b = .blk x
 two : ∀ x y, a = .two x y → b = .two x y
 lpr : ∀ x y, a = .lpr x y → b = .lpr x y
theorem GL.sim.refl (a : GL) : a.sim a := by
 cases a
 case deep g v hs => exact ⟨g, hs, rfl, Nat.le_refl _, fun _ => rfl⟩
 case row v => exact .inl rfl
 all_goals rfl
theorem GL.sim.of_eq {a b : GL} (h : b = a) : a.sim b := h ▸ GL.sim.refl _
theorem GL.sim.kin {a b : GL} (h : a.sim b) : a.kin b := by
 cases a
 case deep g v hs => obtain ⟨g', hs', h, _⟩ := h; exact ⟨g', hs', h⟩
 all_goals exact h
theorem GL.kin.refl (a : GL) : a.kin a := (GL.sim.refl a).kin
theorem GL.kin.trans {a b c : GL} (h : a.kin b) (h' : b.kin c) : a.kin c := by
 cases a
 case deep g v hs =>
  obtain ⟨g1, hs1, rfl⟩ := h
  exact h'
 case row v =>
  rcases h with rfl | ⟨g1, hs1, rfl⟩
  ·exact h'
  ·exact .inr h'
 all_goals
  have h : b = _ := h
  subst h
  exact h'
theorem GL.kin.bs {a b : GL} (h : a.kin b) : a.bs b := by
 cases a
 case deep g v hs => obtain ⟨g1, hs1, rfl⟩ := h; exact ⟨rfl, fun _ h => (nomatch h), fun _ _ h => (nomatch h), fun _ _ h => (nomatch h)⟩
 case row v =>
  rcases h with rfl | ⟨g1, hs1, rfl⟩
  ·exact ⟨rfl, fun _ h => h, fun _ _ h => h, fun _ _ h => h⟩
  ·exact ⟨rfl, fun _ h => (nomatch h), fun _ _ h => (nomatch h), fun _ _ h => (nomatch h)⟩
 all_goals
  have h : b = _ := h
  subst h
  exact ⟨rfl, fun _ h => h, fun _ _ h => h, fun _ _ h => h⟩
theorem GL.bs.or {a b : GL} (h : a.bs b) {P : Nat → Prop} {Q : Nat → Value → Prop} (hp : (∃ x, a = .blk x ∧ P x) ∨ ∃ x y, a = .two x y ∧ Q x y) : (∃ x, b = .blk x ∧ P x) ∨ ∃ x y, b = .two x y ∧ Q x y := by
 rcases hp with ⟨x, e, hp⟩ | ⟨x, y, e, hp⟩
 ·exact .inl ⟨x, h.blk x e, hp⟩
 ·exact .inr ⟨x, y, h.two x y e, hp⟩
theorem GL.sim.hdr {a b : GL} (h : a.sim b) : b.hdr = a.hdr := h.kin.bs.hdr
theorem GL.sim.blk {a b : GL} (h : a.sim b) {x : Nat} (ha : a = .blk x) : b = .blk x := h.kin.bs.blk x ha
theorem GL.sim.two {a b : GL} (h : a.sim b) {x : Nat} {y : Value} (ha : a = .two x y) : b = .two x y := h.kin.bs.two x y ha
theorem GL.sim.lpr {a b : GL} (h : a.sim b) {x : Nat} {y : Loop} (ha : a = .lpr x y) : b = .lpr x y := h.kin.bs.lpr x y ha
def KIn (k : Nat) (u : Value) : Prop := ∃ A len cap, u = .slice A len cap ∧ k < len
section
variable (n : Nat) (β : Nat → GL) (S : Nat → Prop) (w : World)
mutual
def RelD : D → Value → Prop
 | .int k x, v => v = .int k x ∧ Rng k x
 | .bool b, v => v = .bool b
 | .str s, v => v = .string ⟨s.toArray⟩ ∧ s.length ≤ maxB
 | .isl e t l, v => ImmC S w (.slice e t) (fun _ => some v) l
 | .nsl, v => v = .slice none 0 0
 | .vec i, v => i < n ∧ (β i).hdr = some v ∧ ∃ A l c, v = .slice A l c
 | .sub i lo hi sz, v => i < n ∧ lo ≤ hi ∧ ∃ A len cap c A', (β i).hdr = some (.slice A len cap) ∧ hi ≤ len ∧ v = .slice A' (hi - lo) c ∧ hi - lo ≤ c ∧ c ≤ maxLen ∧ (A' = none → c = 0) ∧ (lo < hi → A' = A.map fun a => a.add (lo * sz))
 | .bsl i m, v => i < n ∧ ∃ b, β i = .blk b ∧ v = .slice (some ⟨b, 0, none⟩) m m
 | .asl i off m k, v => i < n ∧ k ≤ m ∧ m ≤ maxB ∧ ∃ b, β i = .blk b ∧ v = .slice (some ⟨b, off, none⟩) k m
 | .ptr i off, v => i < n ∧ ((∃ b, β i = .blk b ∧ v = .pointer (some ⟨b, off, none⟩)) ∨ (∃ b u, β i = .two b u ∧ v = .pointer (some ⟨b, off, none⟩)))
 | .iptr t x off, v => ∃ ad : Addr, v = .pointer (some (ad.add off)) ∧ S ad.block ∧ ImmC S w t (fun j => w.cell? (ad.add j)) x
 | .elt i k sz off, v => i < n ∧ ∃ g len cap, (β i).hdr = some (.slice (some ⟨g, 0, none⟩) len cap) ∧ v = .pointer (some ⟨g, k * sz + off, none⟩)
 | .iv i g k sz off, v => i < n ∧ (∃ A l c, v = .slice A l c) ∧ ∃ g' u hs, β i = .deep g' u hs ∧ g ≤ g' ∧ (g' = g → hs.lookup (k * sz + off) = some v ∧ KIn k u)
 | .ielt i g k sz off m es o, v => i < n ∧ (∃ q, v = .pointer (some q)) ∧ ∃ g' u hs, β i = .deep g' u hs ∧ g ≤ g' ∧ (g' = g → ∃ b len cap, hs.lookup (k * sz + off) = some (.slice (some ⟨b, 0, none⟩) len cap) ∧ v = .pointer (some ⟨b, m * es + o, none⟩) ∧ KIn k u)
 | .gptr g off, v => v = .pointer (some ⟨g, off, none⟩)
 | .fn f fi ca, v => ∃ vs us, v = .func (.func f) vs.toArray us.toArray ∧ za fi vs ∧ za ca us
 | .fsel k fs fi ca, v => (∀ f, fs[k]? = some f → ∃ vs us, v = .func (.func f) vs.toArray us.toArray ∧ za fi vs ∧ za ca us) ∧ (fs[k]? = none → v = .nilFunc)
 | .nilp, v => v = .pointer none
 | .nilf, v => v = .nilFunc
 | .ierr b, v => ErrV b v
 | .eint t k o, v => z60 t k o v
 | .ub f, v => ∃ b, v = .bool b ∧ (f = true → b = false)
 | .np i off, v => i < n ∧ (v = .pointer none ∨ (∃ b, β i = .blk b ∧ v = .pointer (some ⟨b, off, none⟩)) ∨ (∃ b u, β i = .two b u ∧ v = .pointer (some ⟨b, off, none⟩)))
 | .sdp i, v => i < n ∧ ∃ A len cap q, (β i).hdr = some (.slice A len cap) ∧ v = .pointer q ∧ (cap ≠ 0 → q = A)
 | .agg cs, v => ∃ vs, v = .agg vs.toArray ∧ za cs vs
 | .tup ds, v => ∃ vs, v = .tuple vs.toArray ∧ za ds vs
 | .yld i ds, v => i < n ∧ ∃ l rec, β i = .lpr l rec ∧ v = .func (.yield l) #[] #[] ∧ za ds rec.tmps.toList
 | .nxt b ds, v => (b = true → ∃ vs, v = .tuple (Value.bool true :: vs).toArray ∧ za ds vs) ∧ (b = false → v = .tuple #[.bool false])
 | .mapp i, v => i < n ∧ ∃ b, β i = .blk b ∧ v = .map (some b)
 | .skip, v => v = undef
 | .any, _ => True
def za : List D → List Value → Prop
 | [], vs => vs = []
 | d :: ds, vs => ∃ u us, vs = u :: us ∧ RelD d u ∧ za ds us
end
end
section
variable {n n' : Nat} {β β' : Nat → GL} {S S' : Nat → Prop} {w w' : World}
mutual
theorem RelD.imp (hn : n ≤ n') (hβ : ∀ i, i < n → (β i).sim (β' i)) (hS : ∀ b, S b → S' b) (hw : ∀ b, S b → w'.heap[b]? = w.heap[b]?) : ∀ (d : D) {v : Value}, RelD n β S w d v → RelD n' β' S' w' d v
 | .int k x, v, h => h
 | .bool b, v, h => h
 | .str s, v, h => h
 | .isl e t l, v, h => ImmC.imp hS hw (t := .slice e t) (g := fun _ => some v) (x := l) h
 | .nsl, v, h => h
 | .vec i, v, h => ⟨Nat.lt_of_lt_of_le h.1 hn, (hβ i h.1).hdr.trans h.2.1, h.2.2⟩
 | .sub i lo hi sz, v, h => by
  obtain ⟨h1, h2, A, len, cap, c, A', h3, h4⟩ := h
  exact ⟨Nat.lt_of_lt_of_le h1 hn, h2, A, len, cap, c, A', (hβ i h1).hdr.trans h3, h4⟩
 | .bsl i m, v, h => by
  obtain ⟨h1, b, h2, h3⟩ := h
  exact ⟨Nat.lt_of_lt_of_le h1 hn, b, (hβ i h1).blk h2, h3⟩
 | .asl i off m k, v, h => by
  obtain ⟨h1, h4, h5, b, h2, h3⟩ := h
  exact ⟨Nat.lt_of_lt_of_le h1 hn, h4, h5, b, (hβ i h1).blk h2, h3⟩
 | .ptr i off, v, h => by
  obtain ⟨h1, h2⟩ := h
  refine ⟨Nat.lt_of_lt_of_le h1 hn, ?_⟩
  rcases h2 with ⟨b, h2, h3⟩ | ⟨b, u, h2, h3⟩
  ·exact .inl ⟨b, (hβ i h1).blk h2, h3⟩
  ·exact .inr ⟨b, u, (hβ i h1).two h2, h3⟩
 | .iptr t x off, v, h => by
  obtain ⟨ad, h1, h2, h3⟩ := h
  refine ⟨ad, h1, hS _ h2, ImmC.congr (fun j _ => ?_) (ImmC.imp hS hw h3)⟩
  exact World.cell?_of_block (by rw [zfu]; exact hw _ h2)
 | .elt i k sz off, v, h => by
  obtain ⟨h1, g, len, cap, h2, h3⟩ := h
  exact ⟨Nat.lt_of_lt_of_le h1 hn, g, len, cap, (hβ i h1).hdr.trans h2, h3⟩
 | .iv i g k sz off, v, h => by
  obtain ⟨h1, h0, g1, u, hs, h2, h3, h4⟩ := h
  have hs1 := hβ i h1
  rw [h2] at hs1
  obtain ⟨g2, hs2, h5, h6, h7⟩ := hs1
  exact ⟨Nat.lt_of_lt_of_le h1 hn, h0, g2, u, hs2, h5, Nat.le_trans h3 h6, fun e => by
   have e1 : g1 = g := Nat.le_antisymm (by omega) h3
   rw [h7 (by omega)]
   exact h4 e1⟩
 | .ielt i g k sz off m es o, v, h => by
  obtain ⟨h1, h0, g1, u, hs, h2, h3, h4⟩ := h
  have hs1 := hβ i h1
  rw [h2] at hs1
  obtain ⟨g2, hs2, h5, h6, h7⟩ := hs1
  exact ⟨Nat.lt_of_lt_of_le h1 hn, h0, g2, u, hs2, h5, Nat.le_trans h3 h6, fun e => by
   have e1 : g1 = g := Nat.le_antisymm (by omega) h3
   rw [h7 (by omega)]
   exact h4 e1⟩
 | .gptr g off, v, h => h
 | .fn f fi ca, v, h => by
  obtain ⟨vs, us, h1, h2, h3⟩ := h
  exact ⟨vs, us, h1, za.imp hn hβ hS hw fi h2, za.imp hn hβ hS hw ca h3⟩
 | .fsel k fs fi ca, v, h => by
  refine ⟨fun f hf => ?_, h.2⟩
  obtain ⟨vs, us, h1, h2, h3⟩ := h.1 f hf
  exact ⟨vs, us, h1, za.imp hn hβ hS hw fi h2, za.imp hn hβ hS hw ca h3⟩
 | .nilp, v, h => h
 | .nilf, v, h => h
 | .ierr b, v, h => h
 | .eint t k o, v, h => h
 | .ub f, v, h => h
 | .np i off, v, h => by
  obtain ⟨h1, h2⟩ := h
  refine ⟨Nat.lt_of_lt_of_le h1 hn, ?_⟩
  rcases h2 with h2 | ⟨b, h2, h3⟩ | ⟨b, u, h2, h3⟩
  ·exact .inl h2
  ·exact .inr (.inl ⟨b, (hβ i h1).blk h2, h3⟩)
  ·exact .inr (.inr ⟨b, u, (hβ i h1).two h2, h3⟩)
 | .sdp i, v, h => by
  obtain ⟨h1, A, len, cap, q, h2, h3⟩ := h
  exact ⟨Nat.lt_of_lt_of_le h1 hn, A, len, cap, q, (hβ i h1).hdr.trans h2, h3⟩
 | .agg cs, v, h => by
  obtain ⟨vs, h1, h2⟩ := h
  exact ⟨vs, h1, za.imp hn hβ hS hw cs h2⟩
 | .tup ds, v, h => by
  obtain ⟨vs, h1, h2⟩ := h
  exact ⟨vs, h1, za.imp hn hβ hS hw ds h2⟩
 | .yld i ds, v, h => by
  obtain ⟨h1, l, rec, h2, h3, h4⟩ := h
  exact ⟨Nat.lt_of_lt_of_le h1 hn, l, rec, (hβ i h1).lpr h2, h3, za.imp hn hβ hS hw ds h4⟩
 | .nxt b ds, v, h => by
  refine ⟨fun hb => ?_, h.2⟩
  obtain ⟨vs, h1, h2⟩ := h.1 hb
  exact ⟨vs, h1, za.imp hn hβ hS hw ds h2⟩
 | .mapp i, v, h => by
  obtain ⟨h1, b, h2, h3⟩ := h
  exact ⟨Nat.lt_of_lt_of_le h1 hn, b, (hβ i h1).blk h2, h3⟩
 | .skip, v, h => h
 | .any, v, h => trivial
theorem za.imp (hn : n ≤ n') (hβ : ∀ i, i < n → (β i).sim (β' i)) (hS : ∀ b, S b → S' b) (hw : ∀ b, S b → w'.heap[b]? = w.heap[b]?) : ∀ (ds : List D) {vs : List Value}, za n β S w ds vs → za n' β' S' w' ds vs
 | [], vs, h => h
 | d :: ds, vs, h => by
  obtain ⟨u, us, h1, h2, h3⟩ := h
  exact ⟨u, us, h1, RelD.imp hn hβ hS hw d h2, za.imp hn hβ hS hw ds h3⟩
end
theorem za.length : ∀ {ds : List D} {vs : List Value}, za n β S w ds vs → ds.length = vs.length
 | [], vs, h => by obtain rfl : vs = [] := h; rfl
 | d :: ds, vs, h => by
  obtain ⟨u, us, rfl, _, h3⟩ := h
  simp [za.length h3]
theorem za.get : ∀ {ds : List D} {vs : List Value}, za n β S w ds vs → ∀ (i : Nat) (d : D), ds[i]? = some d → ∃ v, vs[i]? = some v ∧ RelD n β S w d v
 | [], vs, h, i, d, hi => by simp at hi
 | d0 :: ds, vs, h, 0, d, hi => by
  obtain ⟨u, us, rfl, h2, h3⟩ := h
  simp only [List.getElem?_cons_zero, Option.some.injEq] at hi
  subst hi
  exact ⟨u, by simp, h2⟩
 | d0 :: ds, vs, h, i + 1, d, hi => by
  obtain ⟨u, us, rfl, h2, h3⟩ := h
  simp only [List.getElem?_cons_succ] at hi ⊢
  exact za.get h3 i d hi
theorem za.set : ∀ {ds : List D} {vs : List Value}, za n β S w ds vs → ∀ i d v, RelD n β S w d v → za n β S w (ds.set i d) (vs.set i v)
 | [], vs, h, i, d, v, _ => by obtain rfl : vs = [] := h; simp [za]
 | d0 :: ds, vs, h, 0, d, v, hd => by
  obtain ⟨u, us, rfl, h2, h3⟩ := h
  exact ⟨v, us, rfl, hd, h3⟩
 | d0 :: ds, vs, h, i + 1, d, v, hd => by
  obtain ⟨u, us, rfl, h2, h3⟩ := h
  exact ⟨u, us.set i v, rfl, h2, za.set h3 i d v hd⟩
theorem za.append : ∀ {ds : List D} {vs : List Value} {es : List D} {us : List Value}, za n β S w ds vs → za n β S w es us → za n β S w (ds ++ es) (vs ++ us)
 | [], vs, es, us, h, h' => by obtain rfl : vs = [] := h; exact h'
 | d0 :: ds, vs, es, us, h, h' => by
  obtain ⟨u, vs', rfl, h2, h3⟩ := h
  exact ⟨u, vs' ++ us, rfl, h2, za.append h3 h'⟩
theorem za.split : ∀ {ds es : List D} {vs : List Value}, za n β S w (ds ++ es) vs → ∃ us ws, vs = us ++ ws ∧ za n β S w ds us ∧ za n β S w es ws
 | [], es, vs, h => ⟨[], vs, rfl, rfl, h⟩
 | d :: ds, es, vs, h => by
  obtain ⟨u, us, rfl, h2, h3⟩ := h
  obtain ⟨us', ws, rfl, h4, h5⟩ := za.split (ds := ds) h3
  exact ⟨u :: us', ws, rfl, ⟨u, us', rfl, h2, h4⟩, h5⟩
theorem za.take {ds : List D} {vs : List Value} (h : za n β S w ds vs) (k : Nat) : za n β S w (ds.take k) (vs.take k) := by
 induction k generalizing ds vs with
 | zero => simp [za]
 | succ k ih =>
  cases ds with
  | nil => obtain rfl : vs = [] := h; simp [za]
  | cons d ds =>
   obtain ⟨u, us, rfl, h2, h3⟩ := h
   exact ⟨u, us.take k, rfl, h2, ih h3⟩
theorem za.drop {ds : List D} {vs : List Value} (h : za n β S w ds vs) (k : Nat) : za n β S w (ds.drop k) (vs.drop k) := by
 induction k generalizing ds vs with
 | zero => exact h
 | succ k ih =>
  cases ds with
  | nil => obtain rfl : vs = [] := h; simp [za]
  | cons d ds =>
   obtain ⟨u, us, rfl, h2, h3⟩ := h
   exact ih h3
theorem za.mk {ds : List D} {vs : List Value} (hl : ds.length = vs.length) (h : ∀ (i : Nat) (d : D) (v : Value), ds[i]? = some d → vs[i]? = some v → RelD n β S w d v) : za n β S w ds vs := by
 induction ds generalizing vs with
 | nil => cases vs with
  | nil => rfl
  | cons _ _ => simp at hl
 | cons d ds ih => cases vs with
  | nil => simp at hl
  | cons v vs => exact ⟨v, vs, rfl, h 0 d v (by simp) (by simp), ih (by simpa using hl) fun i d v h1 h2 => h (i + 1) d v (by simpa using h1) (by simpa using h2)⟩
theorem za.replicate (k : Nat) : za n β S w (List.replicate k .skip) (List.replicate k undef) := by
 induction k with
 | zero => rfl
 | succ k ih => exact ⟨undef, _, by rw [List.replicate_succ], rfl, ih⟩
theorem za.cells : ∀ {t : Ty} {x : t.T} {us : List Value}, us.length = t.size → ImmC S w t (fun j => us[j]?) x → za n β S w (t.cells x) us
 | .int k, x, us, hl, h => by
  match us, hl with
  | [u], _ => simp only [ImmC, List.getElem?_cons_zero, Option.some.injEq] at h; exact ⟨u, [], rfl, h, rfl⟩
 | .bool, x, us, hl, h => by
  match us, hl with
  | [u], _ => simp only [ImmC, List.getElem?_cons_zero, Option.some.injEq] at h; exact ⟨u, [], rfl, h, rfl⟩
 | .str, x, us, hl, h => by
  match us, hl with
  | [u], _ => simp only [ImmC, List.getElem?_cons_zero, Option.some.injEq] at h; exact ⟨u, [], rfl, h, rfl⟩
 | .slice e t, x, us, hl, h => by
  match us, hl with
  | [u], _ => exact ⟨u, [], rfl, by
    obtain ⟨A, cap, h1, h2⟩ := h
    exact ⟨A, cap, by simpa using h1, h2⟩, rfl⟩
 | .err, x, us, hl, h => by
  match us, hl with
  | [u], _ => exact ⟨u, [], rfl, by
    obtain ⟨v, h1, h2⟩ := h
    simp only [List.getElem?_cons_zero, Option.some.injEq] at h1
    subst h1
    exact h2, rfl⟩
 | .eint t k, x, us, hl, h => by
  match us, hl with
  | [u], _ => exact ⟨u, [], rfl, by
    obtain ⟨v, h1, h2⟩ := h
    simp only [List.getElem?_cons_zero, Option.some.injEq] at h1
    subst h1
    exact h2, rfl⟩
 | .pair a b, x, us, hl, h => by
  simp only [Ty.size] at hl
  obtain ⟨h1, h2⟩ := h
  have e : us = us.take a.size ++ us.drop a.size := (List.take_append_drop _ _).symm
  rw [e]
  refine za.append (za.cells (by simp; omega) ?_) (za.cells (by simp; omega) ?_)
  ·exact ImmC.congr (fun j hj => by simp [hj]) h1
  ·exact ImmC.congr (fun j hj => by simp [List.getElem?_drop]) h2
theorem Ty.cells_length : ∀ (t : Ty) (x : t.T), (t.cells x).length = t.size
 | .int k, x => rfl
 | .bool, x => rfl
 | .str, x => rfl
 | .slice e t, x => rfl
 | .err, x => rfl
 | .eint _ _, x => rfl
 | .pair a b, x => by simp [Ty.cells, Ty.size, Ty.cells_length a, Ty.cells_length b]
theorem za.uncells : ∀ {t : Ty} {x : t.T} {us : List Value}, za n β S w (t.cells x) us → ImmC S w t (fun j => us[j]?) x
 | .int k, x, us, h => by obtain ⟨u, _, rfl, h1, rfl⟩ := h; exact ⟨by rw [h1.1]; rfl, h1.2⟩
 | .bool, x, us, h => by obtain ⟨u, _, rfl, h1, rfl⟩ := h; show some u = _; rw [show u = _ from h1]
 | .str, x, us, h => by obtain ⟨u, _, rfl, h1, rfl⟩ := h; exact ⟨by rw [h1.1]; rfl, h1.2⟩
 | .slice e t, x, us, h => by
  obtain ⟨u, _, rfl, ⟨A, cap, h1, h2⟩, rfl⟩ := h
  exact ⟨A, cap, by simpa using h1, h2⟩
 | .err, x, us, h => by
  obtain ⟨u, _, rfl, h1, rfl⟩ := h
  exact ⟨u, rfl, h1⟩
 | .eint t k, x, us, h => by
  obtain ⟨u, _, rfl, h1, rfl⟩ := h
  exact ⟨u, rfl, h1⟩
 | .pair a b, x, us, h => by
  obtain ⟨us, ws, rfl, h1, h2⟩ := za.split h
  have hl := za.length h1
  rw [Ty.cells_length] at hl
  refine ⟨ImmC.congr (fun j hj => ?_) (za.uncells h1), ImmC.congr (fun j hj => ?_) (za.uncells h2)⟩
  ·show (us ++ ws)[j]? = us[j]?
   rw [List.getElem?_append_left (by omega)]
  ·show (us ++ ws)[a.size + j]? = ws[j]?
   rw [List.getElem?_append_right (by omega), hl]; congr 1; omega
end
end Go.En
