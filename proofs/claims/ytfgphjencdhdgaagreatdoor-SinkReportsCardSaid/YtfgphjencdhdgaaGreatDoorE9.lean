/- Text E9 of this seat: written by a program of ours, or by hand; checked by Lean. -/
import Derived.Test.YtfgphjencdhdgaaGreatDoorE10
import Derived.LoopNIn
import Derived.Scope
import Derived.ScopeJumps
import Derived.TacticsIn
import Derived.RangeFuncBound
set_option linter.unusedVariables false
set_option linter.unusedSimpArgs false
namespace Go.En
open Go.RowKit

def FR (ro : Option Nat) : Fence := { Fence.wide with round := ro }
theorem z02 {P : Program} {row : String} {args : Array Value} {w : World} {R : Value → World → Prop} (h : Rows P row args w R) : RowsIn Fence.wide 0 P row args w R :=
 fun c cs _ => let ⟨v, w', r, s⟩ := h c cs; ⟨v, w', r, stepsIn_wide.2 s⟩
section
variable {P : Program} {E : Env} {c : Ctx} {R : Type}
theorem z5a {ro : Option Nat} {o : Oper} {a : Act} {w : World} (hne : ∀ c, o.op ≠ .defer c) {next : Act → World → Prop} {Q : Exit → Act → World → Prop} (h : o.wp P a w next Q) : o.wpIn (FR ro) 0 P a w next Q := by
 refine ⟨fun _ _ => trivial, ?_⟩
 rw [Oper.semAt_eq _ _ _ hne]
 unfold Oper.wp at h
 cases hres : (execOp a.eval o).run P w with
 | ok n w' =>
  rw [hres] at h
  cases n with
  | value v => exact h
  | skip => exact h
  | defer d => exact h
  | enter f args => exact ⟨fun hh => by (cases hh), callsIn_wide.2 h⟩
  | row r args => exact ⟨fun hh => by (cases hh), z02 h⟩
  | _ => exact h.elim
 | halt x w' =>
  rw [hres] at h
  cases x <;> first | exact h | exact h.elim
def z35 (P : Program) (ro : Option Nat) (o : Oper) (a : Act) (w : World) (Φ : Value → World → Prop) : Prop :=
 ∀ (next : Act → World → Prop) (Q : Exit → Act → World → Prop), (∀ v w', Φ v w' → next (a.put o.dst v) w') → o.wpIn (FR ro) 0 P a w next Q
theorem z36 {ρ : Operand → D} {ob : List Ob} {ty : TypeId} {cl : Call} {K : D → List Ob → List Nat → List Nat → Option R} : aOp E ρ ob ty (.defer cl) K = none := by
 unfold aOp
 rfl
theorem z2s (hE : zs4 P E) (hcy : CtxY P E c) {β : Nat → GL} {S : Nat → Prop} {ob : List Ob} {w : World} (hI : Inv c β S ob w) {o : Oper} {a : Act} {tm : List D} (hd : za ob.length β S w tm a.tmps.toList) {K : D → List Ob → List Nat → List Nat → Option R} {r : R} (ro : Option Nat) (h : aOpY E (evD tm) ob o.type o.op K = some r) :
  ∃ d ob' fr wr, K d ob' fr wr = some r ∧ z35 P ro o a w fun v w' => RelF c fr (d :: tm) ob' (v :: a.tmps.toList) w' ∧ Same (fun b => ∃ i, i ∈ wr ∧ b ∈ blks β ob i) w w' := by
 have plain : aOp E (evD tm) ob o.type o.op K = some r → ∃ d ob' fr wr, K d ob' fr wr = some r ∧ z35 P ro o a w fun v w' => RelF c fr (d :: tm) ob' (v :: a.tmps.toList) w' ∧ Same (fun b => ∃ i, i ∈ wr ∧ b ∈ blks β ob i) w w' := by
  intro h
  obtain ⟨d, ob', fr, wr, h1, h2⟩ := z0f hE hcy hI hd h
  refine ⟨d, ob', fr, wr, h1, fun next Q hn => z5a (fun cl he => ?_) (h2 next Q hn)⟩
  rw [he, z36] at h
  cases h
 generalize ho : o.op = op at h plain
 unfold aOpY at h
 split at h
 ·rename_i f args ats
  split at h
  ·rename_i i ds hy
   split at h
   ·rename_i Y hY
    split at h
    ·rename_i hi
     subst hi
     have hv := RelD.eval hd f
     rw [hy] at hv
     obtain ⟨_, l, rec, hl, hvv, hds⟩ := hv
     have hyn := hcy.yc.now hI
     obtain ⟨l', rec', g1, g2, g3, g4, g5⟩ := hyn Y hY
     rw [hl] at g1
     cases g1
     have hall := za.append hds (za.evals hd args.toList)
     obtain ⟨d, ob', fr, wr, h1, h2⟩ := zi3 (P := P) (Do := YieldAt Fence.wide 0 P l (args.toList.map a.eval).toArray w) (fun h g => h.mono g) hcy.toCtxOK hyn hI hall hd (l := [Y])
      (fun s hs => by
       rw [List.mem_singleton.1 hs]
       intro t u β0 S0 hu c1 hc' _ hM hS hI' hargs
       exact g5.2.2 t u β0 S0 w l _ hu hc' g4 (fun hx => by obtain ⟨i, hi⟩ := hM l hx; exact g2 i hi) (fun hx => by
        rcases hS l hx with hx | ⟨i, hi⟩
        ·exact g3 hx
        ·exact g2 i hi) hI' hargs) h
     refine ⟨d, ob', fr, wr, h1, fun next Q hn => ⟨fun _ _ => trivial, ?_⟩⟩
     rw [Oper.semAt_eq _ _ _ (fun cl he => by rw [ho] at he; cases he)]
     obtain ⟨fn, tmps, as, body, hyl, hR⟩ := h2
     have hx : (execOp a.eval o).run P w = .ok (.round l fn tmps as body) w := by
      have harg : (args.map a.eval) = (args.toList.map a.eval).toArray := by apply Array.ext'; simp
      simp only [execOp, ho, resolve, hvv, Deferred.ofValue, Sem.run_bind, Sem.run_pure, Result.andThen_ok, invoke]
      rw [← harg] at hyl
      simpa using hyl
     rw [hx]
     refine ⟨fun hh => by (cases hh), hR.mono fun e w' ⟨v, he, hφ⟩ => ?_⟩
     subst he
     exact hn v w' hφ
    ·cases h
   ·cases h
  ·exact plain h
 ·exact plain h
theorem zpf (hE : zs4 P E) (hcy : CtxY P E c) (ro : Option Nat) {df : List Deferred} {all : List Oper} {Q : Exit → Act → World → Prop} : ∀ {l : List Oper} {tm : List D} {ob : List Ob} {a : Act} {w : World} {K : List D → List Ob → Option R} {r : R}, aOps E all l tm ob K = some r →
  Rel c tm ob a.tmps.toList w → a.defers = df → (∀ tm' ob' a' w', K tm' ob' = some r → Rel c tm' ob' a'.tmps.toList w' → a'.defers = df → Q .normal a' w') → wpListIn (FR ro) 0 P all.toArray Q l a w
 | [], tm, ob, a, w, K, r, h, hr, hdf, hQ => wpListIn_nil (hQ _ _ _ _ h hr hdf)
 | o :: l, tm, ob, a, w, K, r, h, hr, hdf, hQ => by
  have go : ∀ {tm : List D}, Rel c tm ob a.tmps.toList w → (aOpY E (evD tm) ob o.type o.op fun d ob' fr _ => frz fr (putD tm o.dst d) ob' fun tm' ob'' => aOps E all l tm' ob'' K) = some r →
    ∀ K' : Act → World → Prop, (∀ a w, wpListIn (FR ro) 0 P all.toArray Q l a w → K' a w) → o.wpIn (FR ro) 0 P a w K' Q := by
   intro tm hr h K' hK'
   obtain ⟨β, S, hI, hd⟩ := hr
   obtain ⟨d, ob', fr, wr, h1, h2⟩ := z2s hE hcy hI hd ro h
   refine h2 K' Q fun v w' ⟨hF, _⟩ => hK' _ _ ?_
   obtain ⟨tm', ob'', h3, h4⟩ := zv7 (a := a) h1 hF
   exact zpf hE hcy ro h3 h4 (by rw [zfc]; exact hdf) hQ
  simp only [aOps] at h
  refine wpListIn_step fun K' hK' => ?_
  split at h
  ·rename_i hg
   rw [if_pos (by simp [Region.wanted, hg])]
   exact go hr h K' hK'
  ·rename_i j want hg
   split at h
   ·cases h
   ·rename_i s hs
    have hs' : ((all.toArray[j]?).bind (·.dst)) = some s := by simpa [zzt] using hs
    split at h
    ·rename_i x hx
     obtain ⟨h1, h2⟩ := hr.known hx
     have hy : yielded all.toArray a.tmps j = some x := by simp only [yielded, hs', Option.bind_some, h1]
     have hw : Region.wanted o (yielded all.toArray a.tmps) = (x == want) := by
      simp only [Region.wanted, hg, hy]
      cases x <;> cases want <;> rfl
     rw [hw]
     cases hxw : x == want with
     | true =>
      obtain rfl : x = want := by simpa using hxw
      rw [hxw, cond_true] at h
      rw [if_pos rfl]
      exact go h2 h K' hK'
     | false =>
      rw [hxw, cond_false] at h
      rw [if_neg (by simp)]
      have hxn : x = !want := by revert hxw; cases x <;> cases want <;> simp
      rw [hxn] at h2
      exact ⟨fun _ _ => trivial, hK' _ _ (zpf hE hcy ro h (h2.putSkip o.dst) (by rw [zfc]; exact hdf) hQ)⟩
    ·rename_i hx
     have h1 := hr.skipped hx
     have hy : yielded all.toArray a.tmps j = none := by simp only [yielded, hs', Option.bind_some, h1]; rfl
     have hw : Region.wanted o (yielded all.toArray a.tmps) = false := by simp [Region.wanted, hg, hy]
     rw [hw, if_neg (by simp)]
     exact ⟨fun _ _ => trivial, hK' _ _ (zpf hE hcy ro h (hr.putSkip o.dst) (by rw [zfc]; exact hdf) hQ)⟩
    ·cases h

/-! -/
theorem z68 {l : Nat} {w w' : World} {β : Nat → GL} {S : Nat → Prop} {ob : List Ob} (hw : Same (fun b => b = l) w w') (hl : ∀ i, l ∉ blks β ob i) (hS : ¬ S l) (hI : Inv c β S ob w)
  (h0 : l < c.w0.heap.size → ¬ c.M l → w'.heap[l]? = c.w0.heap[l]?) : Inv c β S ob w' ∧ (∀ b, S b → w'.heap[b]? = w.heap[b]?) := by
 have hSw : ∀ b, S b → w'.heap[b]? = w.heap[b]? := fun b hb => hw.block b (hI.imm b hb) fun e => hS (e ▸ hb)
 refine ⟨⟨fun i o hi => ?_, hI.sep, fun i b hb => ?_, fun b hb => Nat.lt_of_lt_of_le (hI.imm b hb) hw.size, hI.s0, hI.s1, ?_, hI.keep, hI.le⟩, hSw⟩
 ·cases ho : o.live with
  | false =>
   cases o <;> simp only [Ob.live, reduceCtorEq] at ho
   cases β i <;> trivial
  | true =>
   refine RelO.imp (Nat.le_refl _) (fun _ _ => .refl _) (fun _ h => h) hSw (fun b hb => ?_) (hI.obj i o hi)
   have hm : b ∈ blks β ob i := zj.2 ⟨o, hi, ho, hb⟩
   exact hw.block b (hI.own i b hm).2.1 fun e => hl i (e ▸ hm)
 ·obtain ⟨h1, h2, h3⟩ := hI.own i b hb
  exact ⟨h1, Nat.lt_of_lt_of_le h2 hw.size, h3⟩
 ·refine ⟨hw.os.trans hI.same.os, hw.tape.trans hI.same.tape, hw.output.trans hI.same.output, Nat.le_trans hI.same.size hw.size, fun b hb hn => ?_⟩
  by_cases e : b = l
  ·subst e; exact h0 hb hn
  ·rw [hw.block b (Nat.lt_of_lt_of_le hb hI.same.size) e]
   exact hI.same.block b hb hn
theorem zlt (w : World) (l : Nat) (o : Obj) : Same (fun b => b = l) w (w.putObj l o) :=
 ⟨rfl, rfl, rfl, by simp, fun b _ hn => World.putObj_heap_other hn⟩
theorem rebase (hcy : CtxY P E c) {β : Nat → GL} {S : Nat → Prop} {ob : List Ob} {w w2 : World} (hI : Inv c β S ob w) {X2 : Nat → Prop} (hw : Same X2 w w2) (hX2 : ∀ b, X2 b → (∀ i, b ∉ blks β ob i) ∧ ¬ S b) (hyl : E.yl = none ∨ w2 = w) :
  ∃ c2 : Ctx, c2.m0 = c.m0 ∧ CtxY P E c2 ∧ Inv c2 β S ob w2 ∧ ∀ {ds : List D} {ob' : List Ob} {vs : List Value} {w3 : World}, Rel c2 ds ob' vs w3 →
   (∀ D, D < w2.heap.size → (∀ i, D ∉ blks β ob i) → w3.heap[D]? = w2.heap[D]?) ∧
   (∀ b, b < c.w0.heap.size → ¬ c.M b → w3.heap[b]? = w2.heap[b]?) ∧ w2.heap.size ≤ w3.heap.size ∧
   ∀ (w4 : World) (X : Nat → Prop), Same X w3 w4 → (∀ b, X b → b < w2.heap.size ∧ (∀ i, b ∉ blks β ob i) ∧ ¬ S b) → (∀ b, b < c.w0.heap.size → ¬ c.M b → w4.heap[b]? = c.w0.heap[b]?) →
    ∃ β' S', Inv c β' S' ob' w4 ∧ za ob'.length β' S' w4 ds vs ∧ ∀ D, D < w2.heap.size → (∀ i, D ∉ blks β ob i) → ¬ S D → (∀ i, D ∉ blks β' ob' i) ∧ ¬ S' D := by
 have hSw : ∀ b, S b → w2.heap[b]? = w.heap[b]? := fun b hb => hw.block b (hI.imm b hb) fun e => (hX2 b e).2 hb
 have hcS : ∀ b, c.S0 b → w2.heap[b]? = c.w0.heap[b]? := fun b hb => by
  obtain ⟨h1, h2⟩ := hcy.disj b hb
  rw [hSw b (hI.s0 b hb)]
  exact hI.same.block b h2 h1
 let c2 : Ctx := ⟨w2, fun b => ∃ i, b ∈ blks β ob i, S, c.m0, β⟩
 have hI2 : Inv c2 β S ob w2 := by
  refine ⟨fun i o hi => ?_, hI.sep, fun i b hb => ⟨(hI.own i b hb).1, Nat.lt_of_lt_of_le (hI.own i b hb).2.1 hw.size, .inl ⟨i, hb⟩⟩, fun b hb => Nat.lt_of_lt_of_le (hI.imm b hb) hw.size, fun _ h => h, fun _ h => .inl h, Same.refl _ _, fun _ _ => GL.kin.refl _, hI.le⟩
  cases ho : o.live with
  | false =>
   cases o <;> simp only [Ob.live, reduceCtorEq] at ho
   cases β i <;> trivial
  | true =>
   refine RelO.imp (Nat.le_refl _) (fun _ _ => .refl _) (fun _ h => h) hSw (fun b hb => ?_) (hI.obj i o hi)
   have hm : b ∈ blks β ob i := zj.2 ⟨o, hi, ho, hb⟩
   exact hw.block b (hI.own i b hm).2.1 fun e => (hX2 b e).1 i hm
 refine ⟨c2, rfl, ⟨⟨fun b hb => ⟨fun ⟨i, hi⟩ => (hI.own i b hi).1 hb, Nat.lt_of_lt_of_le (hI.imm b hb) hw.size⟩, fun g t vs hg => ?_, fun g hg => ?_, fun g hg => ?_⟩, ?_⟩, hI2, ?_⟩
 ·obtain ⟨h1, t', fr, h2⟩ := hcy.glob g t vs hg
  exact ⟨hI.s0 g h1, t', fr, (hcS g h1).trans h2⟩
 ·obtain ⟨h1, v, t', fr, h2, h3⟩ := hcy.gerr g hg
  exact ⟨hI.s0 g h1, v, t', fr, (hcS g h1).trans h2, h3⟩
 ·obtain ⟨h1, m, h2⟩ := hcy.gint g hg
  exact ⟨hI.s0 g h1, m, (World.cell?_of_block (hcS g h1)).trans h2⟩
 ·intro Y hY
  rcases hyl with hyl | hyl
  ·rw [hyl] at hY; cases hY
  ·subst hyl
   obtain ⟨l', rec, g1, g2, g3, g4, g5⟩ := hcy.yc.now hI Y hY
   obtain ⟨h0, hz, _⟩ := hcy.yc Y hY
   rw [hz] at g1
   exact ⟨h0, hz, l', rec, g1, fun ⟨i, hi⟩ => g2 i hi, g3, g4, g5⟩
 ·intro ds ob' vs w3 ⟨β', S', hC, hd⟩
  have hMb : ∀ b, c2.M b → c.M b ∨ c.w0.heap.size ≤ b := fun b ⟨i, hi⟩ => (hI.own i b hi).2.2
  have hsz : c.w0.heap.size ≤ w2.heap.size := Nat.le_trans hI.same.size hw.size
  refine ⟨fun D h1 h2 => hC.same.block D h1 fun ⟨i, hi⟩ => h2 i hi, fun b h1 h2 => hC.same.block b (Nat.lt_of_lt_of_le h1 hsz) fun hm => ?_, hC.same.size, fun w4 X hw4 hX hfix => ?_⟩
  ·rcases hMb b hm with h | h
   ·exact h2 h
   ·omega
  have hout : ∀ D, D < w2.heap.size → (∀ i, D ∉ blks β ob i) → ¬ S D → (∀ i, D ∉ blks β' ob' i) ∧ ¬ S' D := fun D h1 h2 h3 => by
   refine ⟨fun i hi => ?_, fun hs => ?_⟩
   ·rcases (hC.own i D hi).2.2 with ⟨j, hj⟩ | h
    ·exact h2 j hj
    ·have : w2.heap.size ≤ D := h
     omega
   ·rcases hC.s1 D hs with h | ⟨j, hj⟩ | h
    ·exact h3 h
    ·exact h2 j hj
    ·have : w2.heap.size ≤ D := h
     omega
  have hSw4 : ∀ b, S' b → w4.heap[b]? = w3.heap[b]? := fun b hb => hw4.block b (hC.imm b hb) fun e => by
   obtain ⟨h1, h2, h3⟩ := hX b e
   exact (hout b h1 h2 h3).2 hb
  refine ⟨β', S', ⟨fun i o hi => ?_, hC.sep, fun i b hb => ?_, fun b hb => Nat.lt_of_lt_of_le (hC.imm b hb) hw4.size, fun b hb => hC.s0 b (hI.s0 b hb), fun b hb => ?_, ?_, fun j hj => (hI.keep j hj).trans (hC.keep j hj), hC.le⟩, za.imp (Nat.le_refl _) (fun _ _ => .refl _) (fun _ h => h) hSw4 ds hd, hout⟩
  ·cases ho : o.live with
   | false =>
    cases o <;> simp only [Ob.live, reduceCtorEq] at ho
    cases β' i <;> trivial
   | true =>
    refine RelO.imp (Nat.le_refl _) (fun _ _ => .refl _) (fun _ h => h) hSw4 (fun b hb => ?_) (hC.obj i o hi)
    have hm : b ∈ blks β' ob' i := zj.2 ⟨o, hi, ho, hb⟩
    exact hw4.block b (hC.own i b hm).2.1 fun e => by
     obtain ⟨h1, h2, h3⟩ := hX b e
     exact (hout b h1 h2 h3).1 i hm
  ·obtain ⟨h1, h2, h3⟩ := hC.own i b hb
   refine ⟨h1, Nat.lt_of_lt_of_le h2 hw4.size, ?_⟩
   rcases h3 with h3 | h3
   ·exact hMb b h3
   ·exact .inr (Nat.le_trans hsz h3)
  ·rcases hC.s1 b hb with h | h | h
   ·exact hI.s1 b h
   ·exact .inr (hMb b h)
   ·exact .inr (.inr (Nat.le_trans hsz h))
  ·exact ⟨hw4.os.trans (hC.same.os.trans (hw.os.trans hI.same.os)), hw4.tape.trans (hC.same.tape.trans (hw.tape.trans hI.same.tape)), hw4.output.trans (hC.same.output.trans (hw.output.trans hI.same.output)), Nat.le_trans hsz (Nat.le_trans hC.same.size hw4.size), hfix⟩
theorem z59 (hcy : CtxY P E c) {β : Nat → GL} {S : Nat → Prop} {ob : List Ob} {w : World} (hI : Inv c β S ob w) :
  ∃ c2 : Ctx, c2.m0 = c.m0 ∧ CtxY P E c2 ∧ Inv c2 β S ob w ∧ ∀ {ds : List D} {ob' : List Ob} {vs : List Value} {w3 : World}, Rel c2 ds ob' vs w3 →
   ∃ β' S', Inv c β' S' ob' w3 ∧ za ob'.length β' S' w3 ds vs ∧ ∀ D, D < w.heap.size → (∀ i, D ∉ blks β ob i) → ¬ S D → (∀ i, D ∉ blks β' ob' i) ∧ ¬ S' D ∧ w3.heap[D]? = w.heap[D]? := by
 obtain ⟨c2, h1, h2, h3, h4⟩ := rebase hcy hI (X2 := fun _ => False) (Same.refl _ w) (fun b h => h.elim) (.inr rfl)
 refine ⟨c2, h1, h2, h3, fun hr => ?_⟩
 obtain ⟨h5, h6, h7, h8⟩ := h4 hr
 obtain ⟨β', S', g1, g2, g3⟩ := h8 _ (fun _ => False) (Same.refl _ _) (fun b h => h.elim) (fun b hb hm => (h6 b hb hm).trans (hI.same.block b hb hm))
 exact ⟨β', S', g1, g2, fun D d1 d2 d3 => ⟨(g3 D d1 d2 d3).1, (g3 D d1 d2 d3).2, h5 D d1 d2⟩⟩
def z38 (c : Ctx) (β : Nat → GL) (S : Nat → Prop) (ob : List Ob) (w : World) (ds : List Deferred) : Prop :=
 ∃ Ds : List Nat, Ds.Nodup ∧ ds = Ds.map (fun D => { target := .collected D, args := #[] }) ∧ ∀ D, D ∈ Ds → c.w0.heap.size ≤ D ∧ (∀ i, D ∉ blks β ob i) ∧ ¬ S D ∧ w.heap[D]? = some (.deferred (some []))
theorem z38.lt {β : Nat → GL} {S : Nat → Prop} {ob : List Ob} {w : World} {D : Nat} (h : w.heap[D]? = some (.deferred (some []))) : D < w.heap.size := (Array.getElem?_eq_some_iff.1 h).1
theorem z38.step {β β' : Nat → GL} {S S' : Nat → Prop} {ob ob' : List Ob} {w w' : World} {ds : List Deferred} (h : z38 c β S ob w ds) (hs : ∀ D, D < w.heap.size → (∀ i, D ∉ blks β ob i) → ¬ S D → (∀ i, D ∉ blks β' ob' i) ∧ ¬ S' D ∧ w'.heap[D]? = w.heap[D]?) : z38 c β' S' ob' w' ds := by
 obtain ⟨Ds, h1, h2, h3⟩ := h
 refine ⟨Ds, h1, h2, fun D hD => ?_⟩
 obtain ⟨h4, h5, h6, h7⟩ := h3 D hD
 obtain ⟨h8, h9, h10⟩ := hs D (Array.getElem?_eq_some_iff.1 h7).1 h5 h6
 exact ⟨h4, h8, h9, h10.trans h7⟩
def RelA (c : Ctx) (σ : St) (a : Act) (w : World) : Prop := ∃ β S, Inv c β S σ.ob w ∧ za σ.ob.length β S w σ.tm a.tmps.toList ∧ z38 c β S σ.ob w a.defers
theorem RelA.rel {σ : St} {a : Act} {w : World} (h : RelA c σ a w) : Rel c σ.tm σ.ob a.tmps.toList w := by
 obtain ⟨β, S, h1, h2, _⟩ := h
 exact ⟨β, S, h1, h2⟩
theorem RelA.on (hcy : CtxY P E c) {σ : St} {a : Act} {w : World} (h : RelA c σ a w) : ∃ c2 : Ctx, c2.m0 = c.m0 ∧ CtxY P E c2 ∧ Rel c2 σ.tm σ.ob a.tmps.toList w ∧
  ∀ {σ' : St} {a' : Act} {w' : World}, Rel c2 σ'.tm σ'.ob a'.tmps.toList w' → a'.defers = a.defers → RelA c σ' a' w' := by
 obtain ⟨β, S, h1, h2, h3⟩ := h
 obtain ⟨c2, g1, g2, g3, g4⟩ := z59 hcy h1
 refine ⟨c2, g1, g2, ⟨β, S, g3, h2⟩, fun hr hd => ?_⟩
 obtain ⟨β', S', g5, g6, g7⟩ := g4 hr
 exact ⟨β', S', g5, g6, hd ▸ h3.step g7⟩

/-! -/
theorem z7x {e : Exit} {k : XK} (h : xk e = some k) : k.ex = e := by
 cases e <;> simp only [xk, Option.some.injEq, reduceCtorEq] at h <;> subst h <;> rfl
def RelG (ro : Option Nat) (c : Ctx) (σ : St) (a : Act) (w : World) : Prop := match ro with
 | none => RelA c σ a w
 | some _ => Rel c σ.tm σ.ob a.tmps.toList w ∧ a.defers = []
theorem RelG.rel {ro : Option Nat} {σ : St} {a : Act} {w : World} (h : RelG ro c σ a w) : Rel c σ.tm σ.ob a.tmps.toList w := by
 cases ro with
 | none => exact RelA.rel h
 | some l => exact h.1
theorem RelG.on (hcy : CtxY P E c) {ro : Option Nat} {σ : St} {a : Act} {w : World} (h : RelG ro c σ a w) : ∃ c2 : Ctx, c2.m0 = c.m0 ∧ CtxY P E c2 ∧ Rel c2 σ.tm σ.ob a.tmps.toList w ∧
  ∀ {σ' : St} {a' : Act} {w' : World}, Rel c2 σ'.tm σ'.ob a'.tmps.toList w' → a'.defers = a.defers → RelG ro c σ' a' w' := by
 cases ro with
 | none => exact RelA.on hcy h
 | some l => exact ⟨c, rfl, hcy, h.1, fun hr hd => ⟨hr, hd.trans h.2⟩⟩
theorem RelG.proj (hcy : CtxY P E c) {ro : Option Nat} {s : zcu} {σ : St} {a : Act} {w : World} {t : s.T} (h1 : s.proj c.m0 σ = some t) (h : RelG ro c σ a w) : RelG ro c (s.inj t) a w := by
 obtain ⟨c2, g1, g2, g3, g4⟩ := h.on hcy
 exact g4 (zcu.proj_rel (g1.symm ▸ h1) g3) rfl
theorem wy (hcy : CtxY P E c) {ro : Option Nat} {ms : List (XK × zcu)} {e : Exit} {σ : St} {o : OutT ms} {a : Act} {w : World} {K : Exit → St → Option R} {r : R} (h : zea c.m0 ms e σ = some o) (hr : RelG ro c σ a w) (hK : zvg ms o K = some r) : ∃ σ', RelG ro c σ' a w ∧ K e σ' = some r := by
 have one : ∀ (p : XK × zcu) (t : p.2.T), xk e = some p.1 → p.2.proj c.m0 σ = some t → K p.1.ex (p.2.inj t) = some r → ∃ σ', RelG ro c σ' a w ∧ K e σ' = some r := by
  intro p t h1 h2 h3
  rw [z7x h1] at h3
  exact ⟨_, hr.proj hcy h2, h3⟩
 induction ms with
 | nil => cases h
 | cons p ms ih =>
  cases ms with
  | nil =>
   simp only [zea] at h
   split at h
   ·rename_i he
    exact one p o he h hK
   ·cases h
  | cons q ms =>
   simp only [zea] at h
   split at h
   ·rename_i he
    obtain ⟨t, h1, h2⟩ := Option.bind_eq_some_iff.1 h
    simp only [Option.some.injEq] at h2
    subst h2
    exact one p t he h1 hK
   ·obtain ⟨t, h1, h2⟩ := Option.bind_eq_some_iff.1 h
    simp only [Option.some.injEq] at h2
    subst h2
    exact ih h1 hK
theorem zhb {ro : Option Nat} {b : Bool} (h : ro = none ∨ b = true) (hb : b = false) : ro = none := h.resolve_right (by rw [hb]; exact Bool.false_ne_true)
theorem zu9 {cd : Code} {Q : Exit → Act → World → Prop} {a : Act} {w : World} (h : cd.wpIn (FR none) 0 P Q a w) : cd.wp P Q a w := wpIn_wide.1 h
theorem zrq {cd : Code} {Q : Exit → Act → World → Prop} {a : Act} {w : World} (h : cd.wp P Q a w) : cd.wpIn (FR none) 0 P Q a w := wpIn_wide.2 h


/-! -/
theorem z39 {ren : Nat → Nat} : ∀ {ps : List OPat} {x : zaa ps} {j : Nat} {o : Ob}, ps.getD j .gone = .gone → (injO ren ps x)[j]? = some o → o.live = false
 | [], x, j, o, h, ho => by simp [injO] at ho
 | p :: ps, x, j, o, h, ho => by
  cases j with
  | zero =>
   simp only [List.getD_cons_zero] at h
   subst h
   simp only [injO, List.getElem?_cons_zero, Option.some.injEq] at ho
   subst ho
   rfl
  | succ j =>
   simp only [List.getD_cons_succ] at h
   cases p <;> simp only [injO, List.getElem?_cons_succ] at ho <;> exact z39 h ho
theorem zrr {sig : Sig} {ds : List D} {ob : List Ob} {u : sig.Out} {us : List Value} {w : World} {β : Nat → GL} {S : Nat → Prop} (h : zsu sig ds ob = some u) (hI : Inv c β S ob w) (hd : za ob.length β S w ds us) (hm : c.m0 = sig.obs.length) :
  Rel c (injP id sig.res u.1) (injO id sig.obs' u.2) us w := by
 unfold zsu at h
 obtain ⟨x, h1, h2⟩ := Option.bind_eq_some_iff.1 h
 obtain ⟨y, h3, h4⟩ := Option.bind_eq_some_iff.1 h2
 split at h4
 ·rename_i hin
  simp only [Option.some.injEq] at h4
  subst h4
  simp only [Bool.and_eq_true, List.all_eq_true, Bool.not_eq_true', List.any_eq_false, Bool.and_eq_false_iff, beq_iff_eq] at hin
  obtain ⟨⟨hin, hfx⟩, hfr⟩ := hin
  have h1' := show zt ob true sig.res ds (idM sig.obs.length sig.obs') = some (x.1, x.2) from h1
  have h3' := show jj ob true 0 sig.obs' x.2 = some (y.1, y.2) from h3
  have st := (ye h1').trans (zn h3')
  have hk : ∀ j, j < sig.obs.length → (β j).kin (zf7 sig.obs' β y.2 j) := fun j hj => zxu hfx hj
  obtain ⟨hI', ht⟩ := zvm hI h3' hin (st.inj (z3l _ _)) (S' := fun b => S b ∨ ∃ i, i ∈ y.2.fr ∧ b ∈ blks β ob i) (fun _ h => .inl h) (fun b hb => hb) (fun i hi b hb => .inr ⟨i, hi, hb⟩)
   (fun i j o' hi hj ho => by
    have h5 := hfr i hi _ (zcb hj)
    simp only [not_and, Bool.not_eq_true, Bool.not_eq_false] at h5
    have h6 := h5 trivial
    refine z39 ?_ ho
    cases hg : sig.obs'.getD j .gone with
    | gone => rfl
    | _ => rw [hg] at h6; simp at h6)
   (fun j hj => hk j (hm ▸ hj)) (hm ▸ (Mt.inside_spec hin).1)
  refine ⟨_, _, hI', ?_⟩
  have := zw hI.obj (S' := fun b => S b ∨ ∃ i, i ∈ y.2.fr ∧ b ∈ blks β ob i) (fun _ h => .inl h) h1' (ht.mono (zn h3').le) hd
  simpa [yy] using this
 ·cases h4

/-! -/
theorem z0g {n : Nat} {β : Nat → GL} {S : Nat → Prop} {w : World} : ∀ {ps : List Tmp} {es : List D} {us : List Value} {ds : List D} {vs : List Value}, za n β S w ds vs → za n β S w es us →
  za n β S w (z41 ds (ps.zip es)) ((ps.zip us).foldl (fun t p => t.set p.1 p.2) vs)
 | [], es, us, ds, vs, h, h' => h
 | p :: ps, [], us, ds, vs, h, h' => by obtain rfl : us = [] := h'; exact h
 | p :: ps, e :: es, us, ds, vs, h, h' => by
  obtain ⟨u, us, rfl, h1, h2⟩ := h'
  exact z0g (ps := ps) (es := es) (h.set p e u h1) h2
theorem zx9 : ∀ (l : List (Tmp × Value)) (a : Array Value), (l.foldl (fun tmps (p : Tmp × Value) => tmps.setIfInBounds p.1 p.2) a).toList = l.foldl (fun t p => t.set p.1 p.2) a.toList
 | [], a => rfl
 | p :: l, a => by
  simp only [List.foldl_cons]
  rw [zx9 l]
  simp
theorem z2t (ps : Array Tmp) (us : List Value) (a : Array Value) : ((ps.zip us.toArray).foldl (fun tmps (t, v) => tmps.setIfInBounds t v) a).toList = (ps.toList.zip us).foldl (fun t p => t.set p.1 p.2) a.toList := by
 rw [← zx9, ← Array.foldl_toList, Array.toList_zip]
theorem Inv.out {β : Nat → GL} {S : Nat → Prop} {ob : List Ob} {w : World} (hI : Inv c β S ob w) {l : Nat} (hl : l < c.w0.heap.size) (hM : ¬ c.M l) (hS : ¬ c.S0 l) : (∀ i, l ∉ blks β ob i) ∧ ¬ S l := by
 refine ⟨fun i hi => ?_, fun hs => ?_⟩
 ·rcases (hI.own i l hi).2.2 with h | h
  ·exact hM h
  ·omega
 ·rcases hI.s1 l hs with h | h | h
  ·exact hS h
  ·exact hM h
  ·omega
theorem z6w (l : Nat) : Fence.wide.inRound l = FR (some l) := rfl
theorem z03 (hE : zs4 P E) (hyl : E.yl = none) {sigY : Sig} {ax ab : Ann} {as body : Code}
  (ihx : ∀ {c : Ctx}, CtxY P E c → ∀ (l : Nat) {R : Type} {σ : St} {a : Act} {w : World} {K : Exit → St → Option R} {r : R}, aRun E c.m0 ax as σ K = some r → RelG (some l) c σ a w → as.wpIn (FR (some l)) 0 P (fun e a' w' => ∃ σ', RelG (some l) c σ' a' w' ∧ K e σ' = some r) a w)
  (ihy : ∀ {c : Ctx}, CtxY P E c → ∀ (l : Nat) {R : Type} {σ : St} {a : Act} {w : World} {K : Exit → St → Option R} {r : R}, aRun E c.m0 ab body σ K = some r → RelG (some l) c σ a w → body.wpIn (FR (some l)) 0 P (fun e a' w' => ∃ σ', RelG (some l) c σ' a' w' ∧ K e σ' = some r) a w)
  {rec : Loop} (hst : rec.state = .ready) (hpe : rec.pending = none) (has : rec.assign = as) (hbo : rec.body = body) {n : Nat} (hn : rec.tmps.size = n) {ps : Array Tmp} (hps : rec.params = ps) :
  zt6 P E rec ⟨sigY, z3i sigY n ps.toList (fun σ K => aRun E sigY.obs.length ax as σ K) (fun σ K => aRun E sigY.obs.length ab body σ K)⟩ := by
 refine ⟨hst, hpe, ?_⟩
 intro t u β0 S0 w l vs hF c hc hl hM hS hI hargs
 subst has
 subst hbo
 subst hn
 subst hps
 simp only [z3i] at hF
 split at hF
 case isFalse => cases hF
 rename_i hlen
 have hcy : CtxY P E c := ⟨hc, fun Y hY => by rw [hyl] at hY; cases hY⟩
 have hvl : vs.length = rec.params.size := by
  have := za.length hargs
  rw [hlen, List.length_append] at this
  simp at this
  omega
 refine ⟨_, _, _, _, run_yield hl (by simpa using hvl), ?_⟩
 have h1 : za sigY.obs.length β0 S0 w ((injP id sigY.args t.1).take rec.tmps.size) rec.tmps.toList := by
  have := hargs.take rec.tmps.size
  rwa [List.take_left' (by simp)] at this
 have h2 : za sigY.obs.length β0 S0 w ((injP id sigY.args t.1).drop rec.tmps.size) vs := by
  have := hargs.drop rec.tmps.size
  rwa [List.drop_left' (by simp)] at this
 have hset := z0g (ps := rec.params.toList) h1 h2
 refine roundIn_of_wpIn trivial ?_
 have hr : RelG (some l) c ⟨z41 ((injP id sigY.args t.1).take rec.tmps.size) (rec.params.toList.zip ((injP id sigY.args t.1).drop rec.tmps.size)), injO id sigY.obs t.2⟩
   { tmps := (rec.params.zip vs.toArray).foldl (fun tmps (t, a) => tmps.setIfInBounds t a) rec.tmps, defers := [] } w := by
  refine ⟨⟨β0, S0, hI, ?_⟩, rfl⟩
  simp only [yy]
  rw [z2t]
  exact hset
 refine wpIn_mono (ihx hcy l hF hr) fun e a1 w1 ⟨σ1, hr1, h3⟩ => ?_
 cases e with
 | normal =>
  obtain ⟨⟨β1, S1, hI1, hd1⟩, hdf1⟩ := hr1
  have hlw : l < c.w0.heap.size := (Array.getElem?_eq_some_iff.1 hl).1
  have hl1 : w1.heap[l]? = some (.loop rec) := (hI1.same.block l hlw hM).trans hl
  have hout := hI1.out hlw hM hS
  show ∃ w₂, (Instr.beginRound l).run P w1 = .ok () w₂ ∧ _
  refine ⟨_, run_beginRound hl1 hst, ?_⟩
  obtain ⟨c2, g1, g2, g3, g4⟩ := rebase hcy hI1 (X2 := fun b => b = l) (zlt w1 l (.loop { rec with state := .busy })) (fun b e => e ▸ hout) (.inl hyl)
  have hlw1 : l < w1.heap.size := (Array.getElem?_eq_some_iff.1 hl1).1
  have hr2 : RelG (some l) c2 σ1 a1 (w1.putObj l (.loop { rec with state := .busy })) :=
   ⟨⟨β1, S1, g3, za.imp (Nat.le_refl _) (fun _ _ => .refl _) (fun _ h => h) (fun b hb => World.putObj_heap_other fun (e : b = l) => hout.2 (e ▸ hb)) _ hd1⟩, hdf1⟩
  have h3' : aRun E c2.m0 ab rec.body σ1 (fun e σ2 => match e with
    | .normal => zsu sigY [.bool true] σ2.ob
    | _ => none) = some u := by rw [g1]; exact h3
  refine wpIn_mono (ihy g2 l h3' hr2) fun e a2 w3 ⟨σ2, hr3, h4⟩ => ?_
  cases e with
  | normal =>
   obtain ⟨hrel3, _⟩ := hr3
   obtain ⟨k1, k2, k3, k4⟩ := g4 hrel3
   have hl3 : w3.heap[l]? = some (.loop { rec with state := .busy }) := (k1 l (by simpa using hlw1) hout.1).trans (World.putObj_heap_same hlw1)
   have hlw3 : l < w3.heap.size := (Array.getElem?_eq_some_iff.1 hl3).1
   show ∃ v w', (Instr.endRound l none).run P w3 = .ok v w' ∧ _
   refine ⟨_, _, run_endRound none hl3, ?_⟩
   have hrec : ({ { rec with state := .busy } with state := if (none : Option Code).isNone then .ready else .done, pending := none } : Loop) = rec := by
    cases rec
    simp only at hst hpe
    subst hst
    subst hpe
    rfl
   obtain ⟨β', S', hI4, hd4, _⟩ := k4 _ (fun b => b = l) (zlt w3 l (.loop rec)) (fun b e => ⟨by rw [e]; simpa using hlw1, e ▸ hout.1, e ▸ hout.2⟩) (fun b hb hm => by
    by_cases e : b = l
    ·subst e
     rw [World.putObj_heap_same hlw3]
     exact hl.symm
    ·rw [World.putObj_heap_other e, k2 b hb hm, World.putObj_heap_other e]
     exact hI1.same.block b hb hm)
   rw [hrec]
   exact ⟨[.bool true], rfl, zrr h4 hI4 ⟨_, _, rfl, rfl, rfl⟩ rfl⟩
  | _ => cases h4
 | _ => cases h3
theorem z0h {n : Nat} {β : Nat → GL} {S : Nat → Prop} {w : World} {mask : List Nat} : ∀ {ds : List D} {vs : List Value} (k : Nat), za n β S w ds vs → za n β S w (z3h mask k ds) vs
 | [], vs, k, h => h
 | d :: ds, vs, k, h => by
  obtain ⟨u, us, rfl, h1, h2⟩ := h
  refine ⟨u, us, rfl, ?_, z0h (k + 1) h2⟩
  split
  ·exact h1
  ·trivial
theorem Inv.setGone {β : Nat → GL} {S : Nat → Prop} {ob : List Ob} {w : World} (hI : Inv c β S ob w) (k : Nat) : Inv c β S (ob.set k .gone) w := by
 have sub : ∀ i b, b ∈ blks β (ob.set k .gone) i → b ∈ blks β ob i := fun i b hb => by
  obtain ⟨o, h1, h2, h3⟩ := zj.1 hb
  rw [List.getElem?_set] at h1
  split at h1
  ·split at h1
   ·simp only [Option.some.injEq] at h1
    subst h1
    cases h2
   ·cases h1
  ·exact zj.2 ⟨o, h1, h2, h3⟩
 refine ⟨fun i o hi => ?_, fun i j b hij hi hj => hI.sep i j b hij (sub i b hi) (sub j b hj), fun i b hb => hI.own i b (sub i b hb), hI.imm, hI.s0, hI.s1, hI.same, hI.keep, by simpa using hI.le⟩
 rw [List.length_set]
 rw [List.getElem?_set] at hi
 split at hi
 ·split at hi
  ·simp only [Option.some.injEq] at hi
   subst hi
   cases β i <;> trivial
  ·cases hi
 ·exact hI.obj i o hi
theorem z4a (hE : zs4 P E) (hyl : E.yl = none) (hcy : CtxY P E c) {σ : St} {a : Act} {w : World} (hr : RelG none c σ a w) {g : Operand} {f : FuncId} {caps : List D} (hg : evD σ.tm g = .fn f [] caps) {I : zq9} (hIs : I ∈ E.its f)
  {Y : I.sigY.In → Option I.sigY.Out} {ps : Array Tmp} {as body : Code} (hY : ∀ rec : Loop, rec.state = .ready → rec.pending = none → rec.assign = as → rec.body = body → rec.tmps.size = σ.tm.length → rec.params = ps → zt6 P E rec ⟨I.sigY, Y⟩) {mask : List Nat} {K : Exit → St → Option R} {r : R}
  (h : zud { E with yl := some ⟨I.sigY, Y⟩, lpAt := σ.ob.length } (σ.ob ++ [.lp]) (.yld σ.ob.length (z3h mask 0 σ.tm) :: caps) (fun _ ob' fr _ => frz fr σ.tm ob' fun tm' ob'' => K .normal ⟨tm', ob''.set σ.ob.length .gone⟩) [⟨I.sig, I.F Y⟩] = some r) :
  (Code.rangeFunc g ps as body).wpIn (FR none) 0 P (fun e a' w' => ∃ σ', RelG none c σ' a' w' ∧ K e σ' = some r) a w := by
 obtain ⟨β, S, hIv, hd, hmk⟩ := hr
 refine wpIn_rangeFunc fun fn _ => ?_
 have hv := RelD.eval (a := a) hd g
 rw [hg] at hv
 obtain ⟨vs0, us, hgv, h0, hcaps⟩ := hv
 obtain rfl : vs0 = [] := h0
 obtain ⟨rec, hrec⟩ : ∃ rec : Loop, rec = { state := .ready, pending := none, fn, tmps := a.tmps, params := ps, assign := as, body := body, defers := w.heap.size } := ⟨_, rfl⟩
 obtain ⟨w1, hw1⟩ : ∃ w1 : World, w1 = (w.alloc (.deferred (some []))).alloc (.loop rec) := ⟨_, rfl⟩
 have hsz1 : w1.heap.size = w.heap.size + 2 := by rw [hw1]; simp
 have hlw1 : w1.heap[w.heap.size + 1]? = some (.loop rec) := by
  rw [hw1]
  have := World.alloc_heap_new (w.alloc (.deferred (some []))) (.loop rec)
  simpa using this
 have hDw1 : w1.heap[w.heap.size]? = some (.deferred (some [])) := by
  rw [hw1]
  exact (heap_alloc_old _ _ (by simp)).trans (World.alloc_heap_new w _)
 have hsame : Same (fun _ => False) w w1 := by
  rw [hw1]
  exact (Same.alloc (fun _ => False) w _).trans (Same.alloc (fun _ => False) _ _) (fun _ h => h) (fun _ _ h => h)
 have hne : E.its f ≠ [] := fun e => by rw [e] at hIs; cases hIs
 obtain ⟨fn', hf1, hf2, hf3⟩ := hE.enters f (.inr hne)
 refine ⟨w.heap.size + 1, [{ target := .collected w.heap.size, args := #[] }], w1, { target := .fn (.func f) us.toArray, args := #[.func (.yield (w.heap.size + 1)) #[] #[]] }, w1, f, (.func (.yield (w.heap.size + 1)) #[] #[] :: us).toArray, w1, ?_, ?_, fun _ _ => trivial, ?_, fun hh => by (cases hh), callsIn_wide.2 ?_⟩
 ·rw [hw1, hrec]
  exact run_enterLoop_outer fn a.tmps ps as body
 ·simp [resolve, hgv, Deferred.ofValue, Sem.run_pure]
  rfl
 ·simp only [invoke]
  have : (#[.func (.yield (w.heap.size + 1)) #[] #[]] ++ us.toArray : Array Value) = (.func (.yield (w.heap.size + 1)) #[] #[] :: us).toArray := by apply Array.ext'; simp
  rw [this]
  exact zeb hf1 hf2 hf3

 have hn := hIv.le
 have hI1 : Inv c (upd β σ.ob.length (.lpr (w.heap.size + 1) rec)) S (σ.ob ++ [.lp]) w1 := hIv.push hn hsame (fun b hb => by cases hb) trivial
 have hd1 : za (σ.ob ++ [Ob.lp]).length (upd β σ.ob.length (.lpr (w.heap.size + 1) rec)) S w1 σ.tm a.tmps.toList := by
  rw [List.length_append]
  exact hd.push hIv hsame
 have hc1 : za (σ.ob ++ [Ob.lp]).length (upd β σ.ob.length (.lpr (w.heap.size + 1) rec)) S w1 caps us := by
  rw [List.length_append]
  exact hcaps.push hIv hsame
 have hblk1 : ∀ i, w.heap.size + 1 ∉ blks (upd β σ.ob.length (.lpr (w.heap.size + 1) rec)) (σ.ob ++ [Ob.lp]) i := fun i hi => by
  obtain ⟨o, h1, h2, h3⟩ := zj.1 hi
  by_cases e : i < σ.ob.length
  ·rw [zri e] at h3
   rw [List.getElem?_append_left e] at h1
   have := (hIv.own i _ (zj.2 ⟨o, h1, h2, h3⟩)).2.1
   omega
  ·have := (List.getElem?_eq_some_iff.1 h1).1
   rw [List.length_append, List.length_singleton] at this
   obtain rfl : i = σ.ob.length := by omega
   rw [jh] at h3
   cases h3
 have hblkD : ∀ i, w.heap.size ∉ blks (upd β σ.ob.length (.lpr (w.heap.size + 1) rec)) (σ.ob ++ [Ob.lp]) i := fun i hi => by
  obtain ⟨o, h1, h2, h3⟩ := zj.1 hi
  by_cases e : i < σ.ob.length
  ·rw [zri e] at h3
   rw [List.getElem?_append_left e] at h1
   have := (hIv.own i _ (zj.2 ⟨o, h1, h2, h3⟩)).2.1
   omega
  ·have := (List.getElem?_eq_some_iff.1 h1).1
   rw [List.length_append, List.length_singleton] at this
   obtain rfl : i = σ.ob.length := by omega
   rw [jh] at h3
   cases h3
 have hSl : ¬ S (w.heap.size + 1) := fun hs => by have := hIv.imm _ hs; omega
 have hSD : ¬ S w.heap.size := fun hs => by have := hIv.imm _ hs; omega
 obtain ⟨c2, g1, g2, g3, g4⟩ := rebase hcy hI1 (X2 := fun _ => False) (Same.refl _ w1) (fun b h => h.elim) (.inl hyl)
 have hYS : zt6 P E rec ⟨I.sigY, Y⟩ := hY rec (by rw [hrec]) (by rw [hrec]) (by rw [hrec]) (by rw [hrec]) (by rw [hrec]; have := za.length hd; simpa using this.symm) (by rw [hrec])
 have hyn : YNow P { E with yl := some ⟨I.sigY, Y⟩, lpAt := σ.ob.length } (upd β σ.ob.length (.lpr (w.heap.size + 1) rec)) S (σ.ob ++ [.lp]) w1 := by
  intro Y' hY'
  cases hY'
  exact ⟨_, rec, jh _ _ _, hblk1, hSl, hlw1, hYS.env rfl rfl rfl⟩
 have hall : za (σ.ob ++ [Ob.lp]).length (upd β σ.ob.length (.lpr (w.heap.size + 1) rec)) S w1 (.yld σ.ob.length (z3h mask 0 σ.tm) :: caps) (.func (.yield (w.heap.size + 1)) #[] #[] :: us) := by
  refine ⟨_, _, rfl, ⟨by simp, _, rec, jh _ _ _, rfl, ?_⟩, hc1⟩
  rw [show rec.tmps = a.tmps by rw [hrec]]
  exact z0h 0 hd1
 obtain ⟨d, ob', fr, wr, h1, h2⟩ := zi3 (P := P) (Do := Calls P f (.func (.yield (w.heap.size + 1)) #[] #[] :: us).toArray w1) (fun h g => h.mono g) (g2.toCtxOK.env (E' := { E with yl := some ⟨I.sigY, Y⟩, lpAt := σ.ob.length }) rfl rfl rfl) hyn g3 hall hd1 (l := [⟨I.sig, I.F Y⟩])
  (fun s hs => by
   rw [List.mem_singleton.1 hs]
   intro t u β0 S0 hu c1 hc' hy' _ _ hI' hargs
   exact hE.its f I hIs Y t u β0 S0 w1 _ hu (hc'.env rfl rfl rfl) (fun r hr => hy' r hr) hI' hargs) h
 refine h2.mono fun e w' ⟨v, he, hF, hsm⟩ => ?_
 subst he
 have hl' : w'.heap[w.heap.size + 1]? = some (.loop rec) := (hsm.block _ (by omega) (fun ⟨i, _, hi⟩ => hblk1 i hi)).trans hlw1
 show ∃ jump w₄, (Instr.endLoop (w.heap.size + 1)).run P w' = .ok jump w₄ ∧ _
 have hpn : rec.pending = none := by rw [hrec]
 refine ⟨none, _, by have := run_endLoop (P := P) hl' (by rw [hrec]; exact fun h => by cases h); rw [hpn] at this; exact this, ?_⟩
 obtain ⟨tm', ob'', h3, h4⟩ := zv7 (dst := none) (a := a) h1 hF
 have h4 : Rel c2 tm' ob'' a.tmps.toList w' := h4
 obtain ⟨k1, k2, k3, k4⟩ := g4 h4
 have hlw' : w.heap.size + 1 < w'.heap.size := (Array.getElem?_eq_some_iff.1 hl').1
 have hc0 : c.w0.heap.size ≤ w.heap.size := hIv.same.size
 obtain ⟨β', S', hI4, hd4, hout⟩ := k4 _ (fun b => b = w.heap.size + 1) (zlt w' (w.heap.size + 1) (.loop { rec with state := .exhausted, pending := none })) (fun b e => ⟨by omega, e ▸ hblk1, e ▸ hSl⟩) (fun b hb hm => by
  rw [World.putObj_heap_other (by omega), k2 b hb hm]
  exact hI1.same.block b hb hm)
 refine ⟨⟨tm', ob''.set σ.ob.length .gone⟩, ⟨β', S', hI4.setGone _, by rw [List.length_set]; exact hd4, ?_⟩, h3⟩

 have hsub : ∀ D, (∀ i, D ∉ blks β' ob'' i) → ∀ i, D ∉ blks β' (ob''.set σ.ob.length .gone) i := fun D hD i hi => by
  obtain ⟨o, q1, q2, q3⟩ := zj.1 hi
  rw [List.getElem?_set] at q1
  split at q1
  ·split at q1
   ·simp only [Option.some.injEq] at q1
    subst q1
    cases q2
   ·cases q1
  ·exact hD i (zj.2 ⟨o, q1, q2, q3⟩)
 have hkeep : ∀ D, D < w.heap.size + 1 → (∀ i, D ∉ blks (upd β σ.ob.length (.lpr (w.heap.size + 1) rec)) (σ.ob ++ [Ob.lp]) i) → ¬ S D → (∀ i, D ∉ blks β' (ob''.set σ.ob.length .gone) i) ∧ ¬ S' D ∧ (w'.putObj (w.heap.size + 1) (.loop { rec with state := .exhausted, pending := none })).heap[D]? = w1.heap[D]? := fun D hD q1 q2 => by
  obtain ⟨q3, q4⟩ := hout D (by omega) q1 q2
  refine ⟨hsub D q3, q4, ?_⟩
  rw [World.putObj_heap_other (by omega)]
  exact k1 D (by omega) q1
 obtain ⟨Ds, m1, m2, m3⟩ := hmk
 refine ⟨w.heap.size :: Ds, List.nodup_cons.2 ⟨fun hm => ?_, m1⟩, by simp [m2], fun D hD => ?_⟩
 ·obtain ⟨_, _, _, q⟩ := m3 _ hm
  have := (Array.getElem?_eq_some_iff.1 q).1
  omega
 ·rcases List.mem_cons.1 hD with rfl | hD
  ·obtain ⟨q1, q2, q3⟩ := hkeep _ (by omega) hblkD hSD
   exact ⟨hc0, q1, q2, q3.trans hDw1⟩
  ·obtain ⟨p1, p2, p3, p4⟩ := m3 D hD
   have hDlt : D < w.heap.size := (Array.getElem?_eq_some_iff.1 p4).1
   obtain ⟨q1, q2, q3⟩ := hkeep D (by omega) (fun i hi => by
    obtain ⟨o, h5, h6, h7⟩ := zj.1 hi
    by_cases e : i < σ.ob.length
    ·rw [zri e] at h7
     rw [List.getElem?_append_left e] at h5
     exact p2 i (zj.2 ⟨o, h5, h6, h7⟩)
    ·have := (List.getElem?_eq_some_iff.1 h5).1
     rw [List.length_append, List.length_singleton] at this
     obtain rfl : i = σ.ob.length := by omega
     rw [jh] at h7
     cases h7) p3
   refine ⟨p1, q1, q2, q3.trans ?_⟩
   rw [hsame.block D hDlt (fun h => h)]
   exact p4

theorem z2u (hE : zs4 P E) : ∀ (ann : Ann) {c : Ctx} (hcy : CtxY P E c) (ro : Option Nat) (hro : ro = none ∨ ann.still = true) (code : Code) {R : Type} {σ : St} {a : Act} {w : World} {K : Exit → St → Option R} {r : R}, aRun E c.m0 ann code σ K = some r → RelG ro c σ a w →
  code.wpIn (FR ro) 0 P (fun e a' w' => ∃ σ', RelG ro c σ' a' w' ∧ K e σ' = some r) a w := by
 intro ann
 induction ann with
 | cut ms x ih =>
  intro c hcy ro hro code R σ a w K r h hr
  simp only [aRun] at h
  obtain ⟨o, h1, h2⟩ := Option.bind_eq_some_iff.1 h
  exact wpIn_mono (ih hcy ro hro code h1 hr) fun e a' w' ⟨σ', h3, h4⟩ => wy hcy h4 h3 h2
 | pre s x ih =>
  intro c hcy ro hro code R σ a w K r h hr
  simp only [aRun] at h
  obtain ⟨t, h1, h2⟩ := Option.bind_eq_some_iff.1 h
  exact ih hcy ro hro code h2 (hr.proj hcy h1)
 | own i x ih =>
  intro c hcy ro hro code R σ a w K r h hr
  simp only [aRun] at h
  split at h
  ·rename_i e t l m g hv
   obtain ⟨hb, h⟩ := ya h
   obtain ⟨c2, g1, g2, ⟨β, S, hI, hd⟩, g4⟩ := hr.on hcy
   refine ih hcy ro hro code h (g4 (zbl hI hI.le (getD_some hv (by simp)) rfl rfl (Same.refl _ _) rfl ?_ hd) rfl)
   obtain ⟨h1, v, hs, h2, h3, h4, h5⟩ := obDv hI.obj hv
   rw [h2]
   have hm : m = t.nsl * l.length := by simpa using hb
   subst hm
   exact ⟨rfl, h3, ql.all.1 h4⟩
  ·cases h
 | fz fr x ih =>
  intro c hcy ro hro code R σ a w K r h hr
  simp only [aRun, frz] at h
  split at h
  ·exact ih hcy ro hro code h hr
  ·obtain ⟨c2, g1, g2, ⟨β, S, hI, hd⟩, g4⟩ := hr.on hcy
   exact ih hcy ro hro code h (g4 (z2m hI hI.le hd) rfl)
 | seq x y ihx ihy =>
  intro c hcy ro hro code R σ a w K r h hr
  have h1 : ro = none ∨ x.still = true := hro.imp id fun h => by simp only [Ann.still, Bool.and_eq_true] at h; exact h.1
  have h2 : ro = none ∨ y.still = true := hro.imp id fun h => by simp only [Ann.still, Bool.and_eq_true] at h; exact h.2
  cases code <;> simp only [aRun, reduceCtorEq] at h
  refine wpIn_seq (wpIn_mono (ihx hcy ro h1 _ h hr) fun e a' w' ⟨σ', h3, h4⟩ => ?_)
  cases e with
  | normal => exact ihy hcy ro h2 _ h4 h3
  | _ => exact ⟨σ', h3, h4⟩
 | cond x y ihx ihy =>
  intro c hcy ro hro code R σ a w K r h hr
  have h1 : ro = none ∨ x.still = true := hro.imp id fun h => by simp only [Ann.still, Bool.and_eq_true] at h; exact h.1
  have h2 : ro = none ∨ y.still = true := hro.imp id fun h => by simp only [Ann.still, Bool.and_eq_true] at h; exact h.2
  cases code <;> simp only [aRun, reduceCtorEq] at h
  split at h
  ·rename_i cnd cx cy _ t ht
   have hcv : a.eval cnd = .bool t := by
    obtain ⟨β, S, hI, hd⟩ := hr.rel
    have := RelD.eval hd cnd
    rw [ht] at this
    exact this
   refine wpIn_cond hcv ?_
   cases t with
   | true => rw [cond_true] at h; exact ihx hcy ro h1 _ h hr
   | false => rw [cond_false] at h; exact ihy hcy ro h2 _ h hr
  ·cases h
 | blk x ih =>
  intro c hcy ro hro code R σ a w K r h hr
  cases code <;> simp only [aRun, reduceCtorEq] at h
  rename_i i cx
  refine wpIn_block (wpIn_mono (ih hcy ro hro _ h hr) fun e a' w' ⟨σ', h3, h4⟩ => ?_)
  cases e with
  | exit j =>
   simp only [Exit.inBlock]
   simp only at h4
   split
   ·rename_i hj
    rw [if_pos hj] at h4
    exact ⟨σ', h3, h4⟩
   ·rename_i hj
    rw [if_neg hj] at h4
    exact ⟨σ', h3, h4⟩
  | _ => exact ⟨σ', h3, h4⟩
 | loop hs ms x ih =>
  intro c hcy ro hro code R σ a w K r h hr
  cases code <;> simp only [aRun, reduceCtorEq] at h
  rename_i body
  obtain ⟨t, h1, h2⟩ := Option.bind_eq_some_iff.1 h
  obtain ⟨o, h3, h4⟩ := Option.bind_eq_some_iff.1 h2
  obtain ⟨n, h5⟩ := hE.it h3
  refine wpIn_loop_rounds n ?_
  have hr' : RelG ro c (hs.inj t) a w := hr.proj hcy h1
  clear h1 h h2 h3 hr
  induction n generalizing t a w with
  | zero => cases h5
  | succ n ihn =>
   rw [roundsIn_succ]
   simp only [jd] at h5
   obtain ⟨z, h6, h7⟩ := Option.bind_eq_some_iff.1 h5
   refine wpIn_mono (ih hcy ro hro _ h6 hr') fun e a' w' ⟨σ', h8, h9⟩ => ?_
   cases e with
   | normal =>
    simp only at h9
    obtain ⟨t', h10, h11⟩ := Option.bind_eq_some_iff.1 h9
    simp only [Option.some.injEq] at h11
    subst h11
    exact ihn t' h7 (h8.proj hcy h10)
   | _ =>
    simp only at h9
    obtain ⟨o', h10, h11⟩ := Option.bind_eq_some_iff.1 h9
    simp only [Option.some.injEq] at h11
    subst h11
    simp only [Option.some.injEq] at h7
    subst h7
    exact wy hcy h10 h8 h4
 | unr n x ih =>
  intro c hcy ro hro code R σ a w K r h hr
  cases code <;> simp only [aRun, reduceCtorEq] at h
  rename_i body
  replace hro : ro = none ∨ x.still = true := hro
  refine wpIn_loop_rounds n ?_
  induction n generalizing σ a w with
  | zero => cases h
  | succ n ihn =>
   rw [roundsIn_succ]
   simp only [z3g] at h
   refine wpIn_mono (ih hcy ro hro _ h hr) fun e a' w' ⟨σ', h8, h9⟩ => ?_
   cases e with
   | normal => exact ihn h8 h9
   | _ => exact ⟨σ', h8, h9⟩
 | scp x ih =>
  intro c hcy ro hro code R σ a w K r h hr
  obtain rfl := zhb hro rfl
  cases code <;> simp only [aRun, reduceCtorEq] at h
  refine zrq (wp_scope_straight (wp_mono (zu9 (ih hcy none (.inl rfl) _ h hr)) fun e a' w' ⟨σ', h3, h4⟩ => ?_))
  cases e with
  | goto l => cases h4
  | _ => exact ⟨σ', h3, h4⟩
 | scj l x y ihx ihy =>
  intro c hcy ro hro code R σ a w K r h hr
  obtain rfl := zhb hro rfl
  cases code <;> simp only [aRun, reduceCtorEq] at h
  rename_i cx
  cases hfl : findLabel cx l with
  | none =>
   refine zrq (wp_scope_straight (wp_mono (zu9 (ihx hcy none (.inl rfl) _ h hr)) fun e a' w' ⟨σ', h3, h4⟩ => ?_))
   cases e with
   | goto l' => simp only [hfl, ite_self, reduceCtorEq] at h4
   | _ => exact ⟨σ', h3, h4⟩
  | some rest =>
   refine zrq (wp_scope_jumps l (fun a' w' => ∃ σ', RelG none c σ' a' w' ∧ aRun E c.m0 y rest σ' (fun e' σ'' => match e' with
    | .goto _ => none
    | e' => K e' σ'') = some r) (fun _ _ => 0) hfl (wp_mono (zu9 (ihx hcy none (.inl rfl) _ h hr)) fun e a' w' ⟨σ', h3, h4⟩ => ?_) fun a' w' ⟨σ', h5, h6⟩ => ?_)
   ·cases e with
    | goto l' =>
     simp only [hfl] at h4
     split at h4
     ·rename_i hl
      exact ⟨hl, σ', h3, h4⟩
     ·cases h4
    | _ => exact ⟨σ', h3, h4⟩
   ·refine wp_mono (zu9 (ihy hcy none (.inl rfl) _ h6 h5)) fun e a2 w2 ⟨σ2, h7, h8⟩ => ?_
    cases e with
    | goto l' => cases h8
    | _ => exact ⟨σ2, h7, h8⟩
 | both ms x y ihx ihy =>
  intro c hcy ro hro code R σ a w K r h hr
  have h1' : ro = none ∨ x.still = true := hro.imp id fun h => by simp only [Ann.still, Bool.and_eq_true] at h; exact h.1
  have h2' : ro = none ∨ y.still = true := hro.imp id fun h => by simp only [Ann.still, Bool.and_eq_true] at h; exact h.2
  cases code <;> simp only [aRun, reduceCtorEq] at h
  rename_i cnd cx cy
  split at h
  ·rename_i f hf
   obtain ⟨b, hcv, hb⟩ : ∃ b, a.eval cnd = .bool b ∧ (f = true → b = false) := by
    obtain ⟨β, S, hI, hd⟩ := hr.rel
    have := RelD.eval hd cnd
    rw [hf] at this
    exact this
   refine wpIn_cond hcv ?_
   cases f with
   | true =>
    obtain rfl := hb rfl
    rw [cond_true] at h
    exact ihy hcy ro h2' _ h hr
   | false =>
    rw [cond_false] at h
    obtain ⟨o, h1, h2⟩ := Option.bind_eq_some_iff.1 h
    obtain ⟨o', h3, h4⟩ := Option.bind_eq_some_iff.1 h2
    split at h4
    ·rename_i he
     have he : o = o' := @of_decide_eq_true _ (zgg ms o o') he
     subst he
     cases b with
     | true => exact wpIn_mono (ihx hcy ro h1' _ h1 hr) fun e a' w' ⟨σ', h5, h6⟩ => wy hcy h6 h5 h4
     | false => exact wpIn_mono (ihy hcy ro h2' _ h3 hr) fun e a' w' ⟨σ', h5, h6⟩ => wy hcy h6 h5 h4
    ·cases h4
  ·cases h
 | bse ms xr x y z1 z2 ihr ihx ihy ihz1 ihz2 =>
  intro c hcy ro hro code R σ a w K r h hr
  have hs : ro = none ∨ (xr.still = true ∧ x.still = true ∧ y.still = true ∧ z1.still = true ∧ z2.still = true) := hro.imp id fun h => by simpa only [Ann.still, Bool.and_eq_true] using h
  have s0 : ro = none ∨ xr.still = true := hs.imp id fun h => h.1
  have s1 : ro = none ∨ x.still = true := hs.imp id fun h => h.2.1
  have s2 : ro = none ∨ y.still = true := hs.imp id fun h => h.2.2.1
  have s3 : ro = none ∨ z1.still = true := hs.imp id fun h => h.2.2.2.1
  have s4 : ro = none ∨ z2.still = true := hs.imp id fun h => h.2.2.2.2
  cases code <;> try (simp only [aRun, reduceCtorEq] at h)
  rename_i p d
  cases p <;> try (simp only [aRun, reduceCtorEq] at h)
  rename_i r0 q
  cases q <;> try (simp only [aRun, reduceCtorEq] at h)
  rename_i cnd ca cb
  refine wpIn_seq (wpIn_seq (wpIn_mono (ihr hcy ro s0 _ h hr) fun e a' w' ⟨σ', h3, h4⟩ => ?_))
  cases e with
  | normal =>
   simp only at h4
   split at h4
   ·rename_i f hf
    obtain ⟨b, hcv, hb⟩ : ∃ b, a'.eval cnd = .bool b ∧ (f = true → b = false) := by
     obtain ⟨β, S, hI, hd⟩ := h3.rel
     have := RelD.eval hd cnd
     rw [hf] at this
     exact this
    refine wpIn_cond hcv ?_
    cases f with
    | true =>
     obtain rfl := hb rfl
     rw [cond_true] at h4
     refine wpIn_mono (ihy hcy ro s2 _ h4 h3) fun e a2 w2 ⟨σ2, h5, h6⟩ => ?_
     cases e with
     | normal => exact ihz2 hcy ro s4 _ h6 h5
     | _ => exact ⟨σ2, h5, h6⟩
    | false =>
     rw [cond_false] at h4
     obtain ⟨o, h1, h2⟩ := Option.bind_eq_some_iff.1 h4
     obtain ⟨o', h5, h6⟩ := Option.bind_eq_some_iff.1 h2
     split at h6
     ·rename_i he
      have he : o = o' := @of_decide_eq_true _ (zgg ms o o') he
      subst he
      cases b with
      | true =>
       refine wpIn_mono (ihx hcy ro s1 _ h1 h3) fun e a2 w2 ⟨σ2, h7, h8⟩ => ?_
       cases e with
       | normal => exact wpIn_mono (ihz1 hcy ro s3 _ h8 h7) fun e a3 w3 ⟨σ3, h9, h10⟩ => wy hcy h10 h9 h6
       | _ => exact wy hcy h8 h7 h6
      | false =>
       refine wpIn_mono (ihy hcy ro s2 _ h5 h3) fun e a2 w2 ⟨σ2, h7, h8⟩ => ?_
       cases e with
       | normal => exact wpIn_mono (ihz2 hcy ro s4 _ h8 h7) fun e a3 w3 ⟨σ3, h9, h10⟩ => wy hcy h10 h9 h6
       | _ => exact wy hcy h8 h7 h6
     ·cases h6
   ·cases h4
  | _ => exact ⟨σ', h3, h4⟩
 | drw order W F =>
  intro c hcy ro hro code R σ a w K r h hr
  obtain rfl := zhb hro rfl
  cases code
  case region id ops draw =>
   cases draw with
   | false => simp only [aRun, reduceCtorEq] at h
   | true =>
    simp only [aRun] at h
    split at h
    ·rename_i hb
     simp only [Bool.and_eq_true, List.all_eq_true, decide_eq_true_eq] at hb
     obtain ⟨c2, g1, g2, g3, g4⟩ := hr.on hcy
     exact zrq (zrt hE g2 hE.mixed hb.1.1 (fun _ _ he => by cases he) hb.1.2 hb.2 h g3 rfl fun tm' ob' a' w' h1 h2 h3 => ⟨⟨tm', ob'⟩, g4 h2 h3, h1⟩)
    ·cases h
  all_goals simp only [aRun, reduceCtorEq] at h
 | drt ms order W F =>
  intro c hcy ro hro code R σ a w K r h hr
  obtain rfl := zhb hro rfl
  cases code
  case region id ops draw =>
   cases draw with
   | false => simp only [aRun, reduceCtorEq] at h
   | true =>
    simp only [aRun] at h
    split at h
    ·rename_i hb
     simp only [Bool.and_eq_true, List.all_eq_true, decide_eq_true_eq] at hb
     obtain ⟨o, h1, h2⟩ := Option.bind_eq_some_iff.1 h
     obtain ⟨c2, g1, g2, g3, g4⟩ := hr.on hcy
     exact zrq (wp_mono (zrt hE g2 hE.mixed hb.1.1 (fun o o' he => @of_decide_eq_true _ (zgg ms o o') he) hb.1.2 hb.2 h1 g3 rfl (Q := fun e a' w' => ∃ σ', RelG none c σ' a' w' ∧ zea c.m0 ms e σ' = some o) fun tm' ob' a' w' h3 h4 h5 => ⟨⟨tm', ob'⟩, g4 h4 h5, h3⟩) fun e a' w' ⟨σ', h5, h6⟩ => wy hcy h6 h5 h2)
    ·cases h
  all_goals simp only [aRun, reduceCtorEq] at h
 | rng k mask x y ihx ihy =>
  intro c hcy ro hro code R σ a w K r h hr
  obtain rfl := zhb hro rfl
  cases code <;> simp only [aRun, reduceCtorEq] at h
  rename_i g ps as body
  split at h
  ·rename_i f caps hg hyl hst
   simp only [Bool.and_eq_true] at hst
   split at h
   ·rename_i I hIk
    exact z4a hE hyl hcy hr hg (List.mem_of_getElem? hIk) (fun rec h1 h2 h3 h4 h5 h6 => z03 hE hyl
     (fun {c'} hcy' l {_ _ _ _ _ _} h hr => ihx hcy' (some l) (.inr hst.1) _ h hr) (fun {c'} hcy' l {_ _ _ _ _ _} h hr => ihy hcy' (some l) (.inr hst.2) _ h hr) h1 h2 h3 h4 h5 h6) h
   ·cases h
  ·cases h
 | no =>
  intro c hcy ro hro code R σ a w K r h hr
  cases code
  case region id ops draw =>
   cases draw with
   | true => simp only [aRun, reduceCtorEq] at h
   | false =>
    simp only [aRun] at h
    refine wpIn_region_list ?_
    obtain ⟨c2, g1, g2, g3, g4⟩ := hr.on hcy
    have := zpf hE g2 ro (Q := fun e a' w' => ∃ σ', RelG ro c σ' a' w' ∧ K e σ' = some r) h g3 rfl (fun tm' ob' a' w' h1 h2 h3 => ⟨⟨tm', ob'⟩, g4 h2 h3, h1⟩)
    simpa using this
  case skip => simp only [aRun] at h; exact wpIn_skip ⟨σ, hr, h⟩
  case label l => simp only [aRun] at h; exact wpIn_label ⟨σ, hr, h⟩
  case exit => simp only [aRun] at h; exact wpIn_exit ⟨σ, hr, h⟩
  case ret => simp only [aRun] at h; exact wpIn_ret ⟨σ, hr, h⟩
  case goto => simp only [aRun] at h; exact wpIn_goto ⟨σ, hr, h⟩
  all_goals simp only [aRun, reduceCtorEq] at h

/-! -/
theorem z04 (hE : zs4 P E) (hc : CtxOK E c) {β : Nat → GL} {S : Nat → Prop} {σ : St} {w : World} {tmps : Array Value} (hI : Inv c β S σ.ob w) (hd : za σ.ob.length β S w σ.tm tmps.toList) {rv : ResultVar} {K : D → Option R} {r : R} (h : z54 E σ rv K = some r) :
  ∃ d v, K d = some r ∧ (match rv with | .tmp t => pure (tmps.getD t undef) | .cell a t => do loadVar t (← asAddr (tmps.getD a undef)) : Sem Value).run P w = .ok v w ∧ RelD σ.ob.length β S w d v := by
 have ev : ∀ t, RelD σ.ob.length β S w (σ.tm.getD t .any) (tmps.getD t undef) := fun t => RelD.eval (a := ⟨tmps, []⟩) hd (.tmp t)
 cases rv with
 | tmp t => exact ⟨_, _, h, rfl, ev t⟩
 | cell x t =>
  simp only [z54] at h
  obtain ⟨d, v, h1, h2', h3⟩ := zp7 (P := P) hE.types hc hI h (ev x)
  have h2 := h2' w fun _ _ => rfl
  refine ⟨d, v, h1, ?_, h3⟩
  have hp : ∃ ad, tmps.getD x undef = .pointer (some ad) := by
   have hx := ev x
   cases hy : σ.tm.getD x .any <;> rw [hy] at h hx <;> simp only [z27, reduceCtorEq] at h
   case ptr => rcases hx.2 with ⟨b, _, hv⟩ | ⟨b, u, _, hv⟩ <;> exact ⟨_, hv⟩
   case iptr => obtain ⟨ad, hv, _⟩ := hx; exact ⟨_, hv⟩
   case elt => obtain ⟨_, g, len, cap, _, hv⟩ := hx; exact ⟨_, hv⟩
   case ielt => obtain ⟨_, ⟨q, hv⟩, _⟩ := hx; exact ⟨_, hv⟩
   case gptr => exact ⟨_, hx⟩
  obtain ⟨ad, hp⟩ := hp
  show (do loadVar t (← asAddr (tmps.getD x undef)) : Sem Value).run P w = _
  rw [hp] at h2 ⊢
  simpa [Instr.loadAt, Instr.sureAddr, asAddr] using h2
theorem zya (hE : zs4 P E) (hc : CtxOK E c) {β : Nat → GL} {S : Nat → Prop} {σ : St} {w : World} {tmps : Array Value} (hI : Inv c β S σ.ob w) (hd : za σ.ob.length β S w σ.tm tmps.toList) : ∀ {rvs : List ResultVar} {K : List D → Option R} {r : R}, aRes E σ rvs K = some r →
  ∃ ds us, K ds = some r ∧ (rvs.mapM fun rv => (match rv with | .tmp t => pure (tmps.getD t undef) | .cell a t => do loadVar t (← asAddr (tmps.getD a undef)) : Sem Value)).run P w = .ok us w ∧ za σ.ob.length β S w ds us
 | [], K, r, h => ⟨[], [], h, rfl, rfl⟩
 | rv :: rvs, K, r, h => by
  simp only [aRes] at h
  obtain ⟨d, v, h1, h2, h3⟩ := z04 hE hc hI hd h
  obtain ⟨ds, us, h4, h5, h6⟩ := zya hE hc hI hd h1
  refine ⟨d :: ds, v :: us, h4, ?_, v, us, rfl, h3, h6⟩
  rw [List.mapM_cons, Sem.run_bind, h2]
  simp only [Result.andThen_ok, Sem.run_bind, h5, Sem.run_pure]
theorem z05 {fn : Func} {tmps : Array Value} {w : World} {us : List Value} (h : (fn.results.toList.mapM fun rv => (match rv with | .tmp t => pure (tmps.getD t undef) | .cell a t => do loadVar t (← asAddr (tmps.getD a undef)) : Sem Value)).run P w = .ok us w) :
  (results fn tmps).run P w = .ok (retV us) w := by
 have hm : (fn.results.mapM fun rv => (match rv with | .tmp t => pure (tmps.getD t undef) | .cell a t => do loadVar t (← asAddr (tmps.getD a undef)) : Sem Value)).run P w = .ok us.toArray w := by
  rw [Array.mapM_eq_mapM_toList, Sem.run_map, h]
  rfl
 unfold results
 rw [Sem.run_bind]
 refine (congrArg (Result.andThen · _) hm).trans ?_
 simp only [Result.andThen_ok, Sem.run_pure]
 match us with
 | [] => rfl
 | [u] => rfl
 | u :: v :: us => simp [retV]
theorem zt9 {fn : Func} {tmps : Array Value} {R : Ending → World → Prop} {β : Nat → GL} {S : Nat → Prop} {σ : St} (hfin : ∀ w, Inv c β S σ.ob w → za σ.ob.length β S w σ.tm tmps.toList → ∃ v, (results fn tmps).run P w = .ok v w ∧ R (.returned v) w) :
  ∀ (Ds : List Nat) (w : World), Ds.Nodup → (∀ D, D ∈ Ds → c.w0.heap.size ≤ D ∧ (∀ i, D ∉ blks β σ.ob i) ∧ ¬ S D ∧ w.heap[D]? = some (.deferred (some []))) → Inv c β S σ.ob w → za σ.ob.length β S w σ.tm tmps.toList →
  LeavesInM Fence.wide 0 P fn tmps R (Ds.map fun D => { target := .collected D, args := #[] }) .returning w
 | [], w, _, _, hI, hd => hfin w hI hd
 | D :: Ds, w, hn, hD, hI, hd => by
  obtain ⟨h1, h2, h3, h4⟩ := hD D (List.mem_cons_self ..)
  obtain ⟨hn1, hn2⟩ := List.nodup_cons.1 hn
  obtain ⟨h5, h6⟩ := z68 (zlt w D (.deferred none)) h2 h3 hI (fun hlt => by omega)
  rw [List.map_cons, LeavesInM]
  refine ⟨by simp, .inl ⟨D, _, rfl, run_takeDeferred h4, ?_⟩⟩
  refine zt9 hfin Ds _ hn2 (fun D' hD' => ?_) h5 (za.imp (Nat.le_refl _) (fun _ _ => .refl _) (fun _ h => h) h6 _ hd)
  obtain ⟨g1, g2, g3, g4⟩ := hD D' (List.mem_cons_of_mem _ hD')
  exact ⟨g1, g2, g3, (World.putObj_heap_other fun (e : D' = D) => hn1 (e ▸ hD')).trans g4⟩
theorem zkb (hE : zs4 P E) {E2 : Env} (hg : E2.glob = E.glob) (hg2 : E2.gerr = E.gerr) (hg3 : E2.gint = E.gint) {f : FuncId} {fn : Func} {sig : Sig} {ann : Ann} (hyl : E.yl = none ∨ (E2.yl = E.yl ∧ ∃ r, sig.obs = .lp :: r)) (hf : P.funcs[f]? = some fn) : zh P E2 f ⟨sig, aFn E fn sig ann⟩ := by
 intro t u β0 S0 w vs hF c hc hy hI hargs
 have hc' : CtxY P E c := ⟨hc.env hg hg2 hg3, fun Y hY => by
  rcases hyl with hyl | ⟨hyl, r, hr⟩
  ·rw [hyl] at hY; cases hY
  ·obtain ⟨h0, hz, l, rec, k1, k2, k3, k4, k5⟩ := hy r hr Y (by show E2.yl = some Y; rw [hyl]; exact hY)
   exact ⟨h0, hE.lp0, l, rec, k1, k2, k3, k4, k5.env hg.symm hg2.symm hg3.symm⟩⟩
 simp only [aFn] at hF
 split at hF
 ·rename_i body hb
  have hlen : vs.length = (injP id sig.args t.1).length := (za.length hargs).symm
  refine (callsIn_wide (n := 0)).1 (callsIn_of_wp_marks hf hb trivial ?_ rfl)
  have hr : RelG none c ⟨injP id sig.args t.1 ++ List.replicate (fn.ntmps - (injP id sig.args t.1).length) .skip, injO id sig.obs t.2⟩ { tmps := vs.toArray ++ Array.replicate (fn.ntmps - vs.toArray.size) undef, defers := [] } w := by
   refine ⟨β0, S0, hI, ?_, [], List.nodup_nil, rfl, fun D hD => by cases hD⟩
   simp only [Array.toList_append, List.toList_toArray, Array.toList_replicate, List.size_toArray, hlen, yy]
   exact za.append hargs (za.replicate _)
  refine wpIn_mono (z2u hE ann hc' none (.inl rfl) body hF hr) fun e a' w' ⟨σ', h1, h2⟩ => ?_
  obtain ⟨β, S, hI', hd, Ds, m1, m2, m3⟩ := h1
  have fin : aRes E σ' fn.results.toList (fun ds => zsu sig ds σ'.ob) = some u → LeavesInM Fence.wide 0 P fn a'.tmps (fun e w' => ∃ us, e = .returned (retV us) ∧ Rel c (injP id sig.res u.1) (injO id sig.obs' u.2) us w') a'.defers .returning w' := by
   intro h
   rw [m2]
   refine zt9 (c := c) (σ := σ') (fun w hI hd => ?_) Ds w' m1 m3 hI' hd
   obtain ⟨ds, us, h3, h4, h5⟩ := zya hE hc'.toCtxOK hI hd h
   exact ⟨_, z05 h4, us, rfl, zrr h3 hI h5 rfl⟩
  cases e with
  | normal => exact fin h2
  | ret => exact fin h2
  | _ => cases h2
 ·cases hF
end
end Go.En
