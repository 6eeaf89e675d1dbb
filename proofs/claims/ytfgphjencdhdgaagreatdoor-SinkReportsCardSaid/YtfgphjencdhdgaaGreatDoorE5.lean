/- Text E5 of this seat: written by a program of ours, or by hand; checked by Lean. -/
import Derived.Test.YtfgphjencdhdgaaGreatDoorE4
import Derived.Laws.MakeOwn
import Derived.RangeFuncRecord
import Derived.Laws.OwnMore
import Derived.Laws.IdiomStrings
import Derived.Maps.AppendAt
import Derived.Lib.AppendStr
import Derived.Lib.UnsafeStr
import Derived.Lib.BufferWrite
import Derived.Laws.IdiomCopy
import Derived.Laws.CopyRow
set_option linter.unusedVariables false
set_option linter.unusedSimpArgs false
namespace Go.En
open Go.RowKit

def upd (β : Nat → GL) (n : Nat) (g : GL) (i : Nat) : GL := if i = n then g else β i
theorem zri {β : Nat → GL} {n : Nat} {g : GL} {i : Nat} (h : i < n) : upd β n g i = β i := if_neg (by omega)
theorem jh (β : Nat → GL) (n : Nat) (g : GL) : upd β n g n = g := if_pos rfl
section
variable {P : Program} {E : Env} {c : Ctx} {β : Nat → GL} {S : Nat → Prop} {ob : List Ob} {w w' : World} {R : Type}
theorem Inv.push (hI : Inv c β S ob w) (hm : c.m0 ≤ ob.length) {g : GL} {o : Ob} (hw : Same (fun _ => False) w w') (hb : ∀ b, b ∈ g.blocks → w.heap.size ≤ b ∧ b < w'.heap.size)
  (ho : RelO (ob.length + 1) (upd β ob.length g) S w' g o) : Inv c (upd β ob.length g) S (ob ++ [o]) w' := by
 refine hI.step (fun _ => False) (hw.mono fun _ _ h => h.elim) (by simp) (fun i hi _ => by rw [List.getElem?_append_left hi]) (fun i hi => zri hi) (fun _ h => h) (fun b hb => .inl hb) (fun i o' hi hx => ?_) (fun i b hx hi => ?_)
  (fun i j b hij hx hy => ?_) hm
 ·rcases hx with hx | hx
  ·exact hx.elim
  ·have hi' : i = ob.length := by have := (List.getElem?_eq_some_iff.1 hi).1; simp at this; omega
   subst hi'
   rw [List.getElem?_append_right (Nat.le_refl _)] at hi
   simp only [Nat.sub_self, List.getElem?_cons_zero, Option.some.injEq] at hi
   subst hi
   rw [jh]
   simpa using ho
 ·rcases hx with hx | hx
  ·exact hx.elim
  ·obtain ⟨o', h1, h2, h3⟩ := zj.1 hi
   have hi' : i = ob.length := by have := (List.getElem?_eq_some_iff.1 h1).1; simp at this; omega
   subst hi'
   rw [jh] at h3
   obtain ⟨h4, h5⟩ := hb b h3
   exact ⟨fun hs => by have := hI.imm b hs; omega, h5, .inr h4⟩
 ·intro hi hj
  rcases hx with hx | hx
  ·exact hx.elim
  ·rcases hy with hy | hy
   ·exact hy.elim
   ·obtain ⟨_, h1, _⟩ := zj.1 hi
    obtain ⟨_, h2, _⟩ := zj.1 hj
    have := (List.getElem?_eq_some_iff.1 h1).1
    have := (List.getElem?_eq_some_iff.1 h2).1
    simp at *
    omega
theorem za.push (hI : Inv c β S ob w) {g : GL} {tm : List D} {vs : List Value} (hw : Same (fun _ => False) w w') (h : za ob.length β S w tm vs) : za (ob.length + 1) (upd β ob.length g) S w' tm vs :=
 za.imp (Nat.le_succ _) (fun i hi => .of_eq (zri hi)) (fun _ h => h) (fun b hb => hw.block b (hI.imm b hb) (fun h => h)) tm h

/-! -/
theorem zz0 (hI : Inv c β S ob w) (hm : c.m0 ≤ ob.length) {tm : List D} {vs : List Value} (hd : za ob.length β S w tm vs) {t : TypeId} {cs : List D} {us : Array Value} (hc : za ob.length β S w cs us.toList) :
  Rel c (.ptr ob.length 0 :: tm) (ob ++ [.box t cs]) (.pointer (some ⟨w.heap.size, 0, none⟩) :: vs) (w.alloc (.cells us t)) := by
 have hw := Same.alloc (fun _ => False) w (.cells us t)
 refine ⟨upd β ob.length (.blk w.heap.size), S, hI.push hm hw (fun b hb => ?_) ⟨us.toList, ?_, hc.push hI hw⟩, ?_⟩
 ·simp only [GL.blocks, List.mem_singleton] at hb
  subst hb
  simp
 ·rw [heap_alloc_new]
 ·rw [List.length_append]
  exact ⟨_, vs, rfl, ⟨by simp, .inl ⟨w.heap.size, jh _ _ _, rfl⟩⟩, hd.push hI hw⟩
theorem z56 (hI : Inv c β S ob w) (hm : c.m0 ≤ ob.length) {tm : List D} {vs : List Value} (hd : za ob.length β S w tm vs) {t e : TypeId} :
  Rel c (.ptr ob.length 0 :: tm) (ob ++ [.bld t e []]) (.pointer (some ⟨w.heap.size, 0, none⟩) :: vs) (w.alloc (.cells #[.pointer none, .slice none 0 0] t)) := by
 have hw := Same.alloc (fun _ => False) w (.cells #[.pointer none, .slice none 0 0] t)
 refine ⟨upd β ob.length (.two w.heap.size (.slice none 0 0)), S, hI.push hm hw (fun b hb => ?_) ⟨.pointer none, heap_alloc_new _ _, .inl rfl, ⟨by simp [z61, Lib.strCells], .inl ⟨rfl, rfl⟩⟩, by simp [Value.ownBlock], by simp⟩, ?_⟩
 ·simp [GL.blocks, Value.ownBlock] at hb
  subst hb
  simp
 ·rw [List.length_append]
  exact ⟨_, vs, rfl, ⟨by simp, .inr ⟨w.heap.size, _, jh _ _ _, rfl⟩⟩, hd.push hI hw⟩
theorem z3n (hT : z7 P E) {t : TypeId} (hb : (E.ti t).und.isBad = false) : ∃ z : Value, (Instr.alloc t true (.tuple #[])).run P w = .ok (.pointer (some ⟨w.heap.size, 0, none⟩)) (w.alloc (.cells z.cells t)) ∧ z.cells.toList = (E.ti t).zero := by
 obtain ⟨i, z, h1, h2, h3, _⟩ := hT.info hb
 refine ⟨z, ?_, h3⟩
 simp only [Instr.alloc, zeroValue, typeInfo, Sem.run_bind, run_program, Result.andThen_ok, h1, Sem.run_pure, h2, newVar, newRow]
 rfl
theorem z57 (t : TypeId) (v : Value) : (Instr.box t v).run P w = .ok (.pointer (some ⟨w.heap.size, 0, none⟩)) (w.alloc (.cells v.cells t)) := rfl

/-! -/
theorem zlo (P : Program) (g o : Nat) (t : TypeId) (fz : Nat × Nat) : ∀ (vs : List Value) (i : Nat) (cur : Array Value) (w : World), w.heap[g]? = some (.cells cur t fz) → (fz = (0, 0) ∨ cur.size ≤ fz.1) → o + i + vs.length ≤ cur.size → (∀ v ∈ vs, v.oneCell' = true) →
  (storeCells ⟨g, o, none⟩ vs i).run P w = .ok () (w.setRow g (cur.toList.take (o + i) ++ vs ++ cur.toList.drop (o + i + vs.length)).toArray)
 | [], i, cur, w, hg, _, _, _ => by
  simp only [storeCells, List.append_nil, List.length_nil, Nat.add_zero, List.take_append_drop, Array.toArray_toList]
  rw [setRow_self w g cur t fz hg]
  rfl
 | v :: rest, i, cur, w, hg, hfz, hl, h1 => by
  have hi : o + i < cur.size := by simp at hl; omega
  have hadd : (⟨g, o, none⟩ : Addr).add i = ⟨g, o + i, none⟩ := by unfold Addr.add; split <;> simp_all
  have hcell : w.cell? ⟨g, o + i, none⟩ = some cur[o + i] := by simp [World.cell?, hg, hi]
  have hfro : w.frozen? ⟨g, o + i, none⟩ = false := by
   obtain ⟨lo, hh⟩ := fz
   rcases hfz with hfz | hfz
   ·simp only [Prod.mk.injEq] at hfz
    simp [World.frozen?, hg, hfz.1, hfz.2]
   ·simp only at hfz
    simp [World.frozen?, hg]; omega
  have hst : (store ((⟨g, o, none⟩ : Addr).add i) v).run P w = .ok () (w.setRow g (cur.setIfInBounds (o + i) v)) := by
   rw [hadd, run_store P w _ v _ (h1 v (by simp)), hcell]
   simp [hfro, setCell_eq_setRow w g (o + i) cur t fz v hg]
  have ih := zlo P g o t fz rest (i + 1) (cur.setIfInBounds (o + i) v) (w.setRow g (cur.setIfInBounds (o + i) v)) (setRow_heap w g cur _ t _ hg) (by simpa using hfz) (by simp at hl ⊢; omega) (fun x hx => h1 x (by simp [hx]))
  simp only [storeCells, Sem.run_bind, hst, Result.andThen_ok, ih, setRow_setRow]
  congr 3
  have e := list_seg_step cur.toList (o + i) v rest (by simp at hl ⊢; omega)
  simpa [Array.toList_setIfInBounds, Nat.add_assoc] using e
theorem Same.setRow (w : World) (g : Nat) (cs : Array Value) : Same (fun b => b = g) w (w.setRow g cs) :=
 ⟨rfl, rfl, rfl, by simp [World.setRow], fun b _ hn => setRow_other w g b cs hn⟩
theorem zlp (hT : z7 P E) {t : TypeId} (hb : (E.ti t).und.isBad = false) {g o : Nat} {v : Value} {cur : Array Value} {t' : TypeId} {fz : Nat × Nat} (hg : w.heap[g]? = some (.cells cur t' fz)) (hfz : fz = (0, 0) ∨ cur.size ≤ fz.1)
  (hsz : v.cells.toList.length = (E.ti t).size) (hl : o + v.cells.toList.length ≤ cur.size) (h1 : ∀ u ∈ v.cells.toList, u.oneCell' = true) :
  (Instr.storeAt t (.pointer (some ⟨g, o, none⟩)) v).run P w = .ok () (w.setRow g (cur.toList.take o ++ v.cells.toList ++ cur.toList.drop (o + v.cells.toList.length)).toArray) := by
 have hst := zlo P g o t' fz v.cells.toList 0 cur w hg hfz (by simpa using hl) h1
 simp only [Nat.add_zero] at hst
 simp only [Instr.storeAt, Instr.sureAddr, Sem.run_bind, Sem.run_pure, Result.andThen_ok, storeVar, um hT hb]
 rw [if_neg (by rw [← hsz]; simp)]
 simpa using hst
theorem Inv.turn (hI : Inv c β S ob w) (hm : c.m0 ≤ ob.length) {i : Nat} {o o' : Ob} (hi : ob[i]? = some o) (hl : o.live = true) (hl' : o'.live = true) (hw : Same (fun b => b ∈ (β i).blocks) w w') (hsz : w'.heap.size = w.heap.size)
  (ho : RelO ob.length β S w' (β i) o') : Inv c β S (ob.set i o') w' := by
 have hlt := (List.getElem?_eq_some_iff.1 hi).1
 have hbl : blks β ob i = (β i).blocks := by simp [blks, hi, hl]
 have hset : (ob.set i o')[i]? = some o' := by simp [hlt]
 have hbl' : blks β (ob.set i o') i = (β i).blocks := by simp [blks, hset, hl']
 refine hI.step (fun j => j = i) (hw.mono fun b _ hb => ⟨i, rfl, hbl ▸ hb⟩) (by simp) (fun j hj hn => by rw [List.getElem?_set_ne (fun e => hn e.symm)]) (fun _ _ => rfl) (fun _ h => h) (fun b hb => .inl hb) (fun j q hj hx => ?_) (fun j b hx hj => ?_)
  (fun j k b hjk hx hy => ?_) hm
 ·have e : j = i := by
   rcases hx with hx | hx
   ·exact hx
   ·have := (List.getElem?_eq_some_iff.1 hj).1; simp at this; omega
  subst e
  rw [hset] at hj
  cases hj
  simpa using ho
 ·have e : j = i := by
   rcases hx with hx | hx
   ·exact hx
   ·obtain ⟨_, h1, _⟩ := zj.1 hj
    have := (List.getElem?_eq_some_iff.1 h1).1; simp at this; omega
  subst e
  rw [hbl', ← hbl] at hj
  obtain ⟨h1, h2, _⟩ := hI.own j b hj
  exact ⟨h1, by omega, .inl ⟨j, rfl, hj⟩⟩
 ·intro hj hk
  have e1 : j = i := by
   rcases hx with hx | hx
   ·exact hx
   ·obtain ⟨_, h1, _⟩ := zj.1 hj
    have := (List.getElem?_eq_some_iff.1 h1).1; simp at this; omega
  have e2 : k = i := by
   rcases hy with hy | hy
   ·exact hy
   ·obtain ⟨_, h1, _⟩ := zj.1 hk
    have := (List.getElem?_eq_some_iff.1 h1).1; simp at this; omega
  exact hjk (e1.trans e2.symm)
/-! -/
def frzo (ob : List Ob) (fr : List Nat) (i : Nat) (o : Ob) : Ob := if fr.contains i then .gone else match o with
 | .box t cs => .box t (cs.map (frz1 ob fr))
 | o => o
theorem zcd (ob : List Ob) (fr : List Nat) : ∀ (k : Nat) (os : List Ob) (i : Nat), (frzO ob fr k os)[i]? = (os[i]?).map (frzo ob fr (k + i))
 | k, [], i => by simp [frzO]
 | k, o :: os, 0 => by simp [frzO, frzo]; split <;> rfl
 | k, o :: os, i + 1 => by simp only [frzO, List.getElem?_cons_succ]; rw [zcd ob fr (k + 1) os i, show k + 1 + i = k + (i + 1) by omega]
theorem qq (ob : List Ob) (fr : List Nat) : ∀ (k : Nat) (os : List Ob), (frzO ob fr k os).length = os.length
 | k, [] => rfl
 | k, o :: os => by simp [frzO, qq ob fr (k + 1) os]
theorem zxz (hob : ∀ (i : Nat) (o : Ob), ob[i]? = some o → RelO ob.length β S w (β i) o) {S' : Nat → Prop} (hS : ∀ b, S b → S' b) {fr : List Nat} (hfr : ∀ i, i ∈ fr → ∀ b, b ∈ blks β ob i → S' b) {n : Nat} (hn : ob.length ≤ n) {d : D} {v : Value}
  (h : RelD ob.length β S w d v) : RelD n β S' w (frz1 ob fr d) v := by
 have himp := RelD.imp (n' := n) (β' := β) (S' := S') (w' := w) hn (fun _ _ => .refl _) hS (fun _ _ => rfl) d h
 cases d <;> simp only [frz1] <;> try exact himp
 case vec i =>
  split
  ·rename_i hi
   split
   ·rename_i mk e t l hv
    obtain ⟨h1, u, h2, h3, h4⟩ := ze1 hob hv
    obtain ⟨_, h5, _⟩ := h
    rw [h2] at h5
    injection h5 with h5
    subst h5
    exact h3.imm hS fun b hb => hfr i (by simpa using hi) b (h4 b hb)
   ·rename_i e t l own g hv
    obtain ⟨h1, u, hs, h2, _, h3, h4⟩ := obDv hob hv
    obtain ⟨_, h5, _⟩ := h
    rw [h2] at h5
    injection h5 with h5
    subst h5
    have hb : ∀ b, b ∈ (GL.deep g u hs).blocks → S' b := fun b hb => hfr i (by simpa using hi) b (h4 b hb)
    exact (h3.rowOf hS hb).imm (fun _ h => h) fun b hb' => hb b (List.mem_append_left _ hb')
   ·trivial
  ·exact himp
 case sub =>
  split
  ·trivial
  ·exact himp
 case elt =>
  split
  ·trivial
  ·exact himp
 case iv =>
  split
  ·trivial
  ·exact himp
 case ielt =>
  split
  ·trivial
  ·exact himp
theorem zp8 (hob : ∀ (i : Nat) (o : Ob), ob[i]? = some o → RelO ob.length β S w (β i) o) {S' : Nat → Prop} (hS : ∀ b, S b → S' b) {fr : List Nat} (hfr : ∀ i, i ∈ fr → ∀ b, b ∈ blks β ob i → S' b) {n : Nat} (hn : ob.length ≤ n) : ∀ {ds : List D} {vs : List Value},
  za ob.length β S w ds vs → za n β S' w (ds.map (frz1 ob fr)) vs
 | [], vs, h => h
 | d :: ds, vs, h => by
  obtain ⟨u, us, rfl, h1, h2⟩ := h
  exact ⟨u, us, rfl, zxz hob hS hfr hn h1, zp8 hob hS hfr hn h2⟩
theorem zx0 (hob : ∀ (i : Nat) (o : Ob), ob[i]? = some o → RelO ob.length β S w (β i) o) {S' : Nat → Prop} (hS : ∀ b, S b → S' b) {fr : List Nat} (hfr : ∀ i, i ∈ fr → ∀ b, b ∈ blks β ob i → S' b) {n : Nat} (hn : ob.length ≤ n) {d : D} {v : Value}
  (h : RelD ob.length β S w d v) : RelD n β S' w (frzA ob fr d) v := by
 cases d <;> simp only [frzA] <;> try exact zxz hob hS hfr hn h
 case agg cs =>
  obtain ⟨vs', rfl, h3⟩ := h
  exact ⟨vs', rfl, zp8 hob hS hfr hn h3⟩
theorem zvp (hob : ∀ (i : Nat) (o : Ob), ob[i]? = some o → RelO ob.length β S w (β i) o) {S' : Nat → Prop} (hS : ∀ b, S b → S' b) {fr : List Nat} (hfr : ∀ i, i ∈ fr → ∀ b, b ∈ blks β ob i → S' b) {n : Nat} (hn : ob.length ≤ n) : ∀ {ds : List D} {vs : List Value},
  za ob.length β S w ds vs → za n β S' w (ds.map (frzA ob fr)) vs
 | [], vs, h => h
 | d :: ds, vs, h => by
  obtain ⟨u, us, rfl, h1, h2⟩ := h
  exact ⟨u, us, rfl, zx0 hob hS hfr hn h1, zvp hob hS hfr hn h2⟩
theorem zj9 (hob : ∀ (i : Nat) (o : Ob), ob[i]? = some o → RelO ob.length β S w (β i) o) {S' : Nat → Prop} (hS : ∀ b, S b → S' b) {fr : List Nat} (hfr : ∀ i, i ∈ fr → ∀ b, b ∈ blks β ob i → S' b) {n : Nat} (hn : ob.length ≤ n) : ∀ {ds : List D} {vs : List Value},
  za ob.length β S w ds vs → za n β S' w (ds.map (frzD ob fr)) vs
 | [], vs, h => h
 | d :: ds, vs, h => by
  obtain ⟨u, us, rfl, h1, h2⟩ := h
  refine ⟨u, us, rfl, ?_, zj9 hob hS hfr hn h2⟩
  cases d <;> simp only [frzD] <;> try exact zx0 hob hS hfr hn h1
  case tup cs =>
   obtain ⟨vs', rfl, h3⟩ := h1
   exact ⟨vs', rfl, zvp hob hS hfr hn h3⟩
theorem zpc (hI : Inv c β S ob w) (hm : c.m0 ≤ ob.length) (fr : List Nat) : Inv c β (fun b => S b ∨ ∃ i, i ∈ fr ∧ b ∈ blks β ob i) (frzO ob fr 0 ob) w := by
 have hget : ∀ {i : Nat} {o : Ob}, (frzO ob fr 0 ob)[i]? = some o → ∃ o0, ob[i]? = some o0 ∧ o = frzo ob fr i o0 := by
  intro i o h
  rw [zcd, Nat.zero_add, Option.map_eq_some_iff] at h
  obtain ⟨o0, h1, h2⟩ := h
  exact ⟨o0, h1, h2.symm⟩
 have hlive : ∀ {i : Nat} {o0 : Ob}, (frzo ob fr i o0).live = true → o0.live = true ∧ ¬ i ∈ fr := by
  intro i o0 h
  unfold frzo at h
  split at h
  ·cases h
  ·rename_i hi
   refine ⟨?_, by simpa using hi⟩
   cases o0 <;> first | rfl | exact h
 have hsub : ∀ {i b : Nat}, b ∈ blks β (frzO ob fr 0 ob) i → b ∈ blks β ob i ∧ ¬ i ∈ fr := by
  intro i b h
  obtain ⟨o, h1, h2, h3⟩ := zj.1 h
  obtain ⟨o0, h4, rfl⟩ := hget h1
  obtain ⟨h5, h6⟩ := hlive h2
  exact ⟨zj.2 ⟨o0, h4, h5, h3⟩, h6⟩
 refine hI.step (fun _ => True) (Same.refl _ _) (by rw [qq]; exact Nat.le_refl _) (fun i _ h => (h trivial).elim) (fun _ _ => rfl) (fun b hb => .inl hb) (fun b hb => ?_) (fun i o hi _ => ?_) (fun i b _ hi => ?_) (fun i j b hij _ _ hi hj => ?_)
  hm
 ·rcases hb with hb | ⟨i, hi, hb⟩
  ·exact .inl hb
  ·exact .inr ⟨.inr ⟨i, trivial, hb⟩, (hI.own i b hb).2.1⟩
 ·obtain ⟨o0, h1, rfl⟩ := hget hi
  have h2 := hI.obj i o0 h1
  rw [qq]
  unfold frzo
  split
  ·cases β i <;> trivial
  ·have himp := RelO.imp (β' := β) (S' := fun b => S b ∨ ∃ i, i ∈ fr ∧ b ∈ blks β ob i) (w' := w) (Nat.le_refl _) (fun _ _ => .refl _) (fun _ h => .inl h) (fun _ _ => rfl) (fun _ _ => rfl) h2
   cases o0 with
   | box t cs =>
    cases hb : β i with
    | lpr l rec => rw [hb] at h2; exact h2.elim
    | row v => rw [hb] at h2; exact h2.elim
    | two b v => rw [hb] at h2; exact h2.elim
    | deep g v hs => rw [hb] at h2; exact h2.elim
    | blk b =>
     rw [hb] at h2
     obtain ⟨vs, h3, h4⟩ := h2
     exact ⟨vs, h3, zp8 hI.obj (fun _ h => .inl h) (fun i hi b hb => .inr ⟨i, hi, hb⟩) (Nat.le_refl _) h4⟩
   | _ => exact himp
 ·obtain ⟨h1, h2⟩ := hsub hi
  obtain ⟨h3, h4, h5⟩ := hI.own i b h1
  refine ⟨fun hb => ?_, h4, .inl ⟨i, trivial, h1⟩⟩
  rcases hb with hb | ⟨k, hk, hb⟩
  ·exact h3 hb
  ·by_cases e : k = i
   ·subst e; exact h2 hk
   ·exact hI.sep k i b e hb h1
 ·exact hI.sep i j b hij (hsub hi).1 (hsub hj).1
def RelF (c : Ctx) (fr : List Nat) (ds : List D) (ob : List Ob) (vs : List Value) (w : World) : Prop := match fr with
 | [] => Rel c ds ob vs w
 | _ :: _ => Rel c (ds.map (frzD ob fr)) (frzO ob fr 0 ob) vs w
theorem z2m (hI : Inv c β S ob w) (hm : c.m0 ≤ ob.length) {fr : List Nat} {ds : List D} {vs : List Value} (hd : za ob.length β S w ds vs) : Rel c (ds.map (frzD ob fr)) (frzO ob fr 0 ob) vs w :=
 ⟨β, _, zpc hI hm fr, by rw [qq]; exact zj9 hI.obj (fun _ h => .inl h) (fun i hi b hb => .inr ⟨i, hi, hb⟩) (Nat.le_refl _) hd⟩
theorem zx1 {ob ob1 : List Ob} {fr : List Nat} (h : ∀ j, j ∈ fr → ob1.getD j .gone = ob.getD j .gone) : frz1 ob1 fr = frz1 ob fr := by
 funext d
 cases d <;> simp only [frz1]
 split
 ·rename_i i hi
  rw [h i (by simpa using hi)]
 ·rfl
theorem z2n {ob ob1 : List Ob} {fr : List Nat} (h : ∀ j, j ∈ fr → ob1.getD j .gone = ob.getD j .gone) : frzA ob1 fr = frzA ob fr := by
 funext d
 cases d <;> simp only [frzA, zx1 h]
theorem zsy {ob ob1 : List Ob} {fr : List Nat} (h : ∀ j, j ∈ fr → ob1.getD j .gone = ob.getD j .gone) : frzD ob1 fr = frzD ob fr := by
 funext d
 cases d <;> simp only [frzD, z2n h]
theorem zp9 {ob ob1 : List Ob} {fr : List Nat} (h : ∀ j, j ∈ fr → ob1.getD j .gone = ob.getD j .gone) (os : List Ob) : frzO ob1 fr 0 os = frzO ob fr 0 os := by
 apply List.ext_getElem?
 intro i
 rw [zcd, zcd]
 congr 1
 funext o
 unfold frzo
 rw [zx1 h]
theorem z3o (hI : Inv c β S ob w) (hm : c.m0 ≤ ob.length) {i : Nat} {o o' : Ob} (hi : ob[i]? = some o) (hl : o.live = true) (hl' : o'.live = true) (hbox : ∀ t cs, o' ≠ .box t cs) {fr : List Nat} (hfr : ¬ i ∈ fr) (hw : Same (fun b => b ∈ (β i).blocks) w w')
  (hsz : w'.heap.size = w.heap.size) (ho : RelO ob.length β (fun b => S b ∨ ∃ i, i ∈ fr ∧ b ∈ blks β ob i) w' (β i) o') {ds : List D} {vs : List Value} (hd : za ob.length β S w ds vs) :
  RelF c fr ds (ob.set i o') vs w' := by
 have hlt := (List.getElem?_eq_some_iff.1 hi).1
 have hget : ∀ j, j ∈ fr → (ob.set i o').getD j .gone = ob.getD j .gone := fun j hj => by
  have hne : i ≠ j := fun e => hfr (e ▸ hj)
  rw [List.getD_eq_getElem?_getD, List.getD_eq_getElem?_getD, List.getElem?_set_ne hne]
 cases fr with
 | nil =>
  have hSS : (fun b => S b ∨ ∃ i, i ∈ ([] : List Nat) ∧ b ∈ blks β ob i) = S := by funext b; simp
  rw [hSS] at ho
  refine ⟨β, S, hI.turn hm hi hl hl' hw hsz ho, ?_⟩
  rw [List.length_set]
  refine za.imp (Nat.le_refl _) (fun _ _ => .refl _) (fun _ h => h) (fun b hb => hw.block b (hI.imm b hb) fun hx => ?_) ds hd
  exact (hI.own i b (zj.2 ⟨o, hi, hl, hx⟩)).1 hb
 | cons f fr =>
  have hI2 := zpc hI hm (f :: fr)
  have hd2 := zj9 hI.obj (S' := fun b => S b ∨ ∃ i, i ∈ f :: fr ∧ b ∈ blks β ob i) (fun _ h => .inl h) (fun i hi b hb => .inr ⟨i, hi, hb⟩) (Nat.le_refl _) hd
  have hi2 : (frzO ob (f :: fr) 0 ob)[i]? = some (frzo ob (f :: fr) i o) := by rw [zcd, hi, Nat.zero_add]; rfl
  have hl2 : (frzo ob (f :: fr) i o).live = true := by
   unfold frzo
   rw [if_neg (by simpa using hfr)]
   cases o <;> first | rfl | exact hl
  have hI3 := hI2.turn (o' := o') (by rw [qq]; exact hm) hi2 hl2 hl' hw hsz (by rw [qq]; exact ho)
  have hob : frzO (ob.set i o') (f :: fr) 0 (ob.set i o') = (frzO ob (f :: fr) 0 ob).set i o' := by
   rw [zp9 hget]
   apply List.ext_getElem?
   intro k
   rw [zcd, Nat.zero_add]
   by_cases e : i = k
   ·subst e
    rw [List.getElem?_set_self hlt, List.getElem?_set_self (by rw [qq]; exact hlt)]
    simp only [Option.map_some, Option.some.injEq]
    unfold frzo
    rw [if_neg (by simpa using hfr)]
    cases o' <;> first | rfl | exact absurd rfl (hbox _ _)
   ·rw [List.getElem?_set_ne e, List.getElem?_set_ne e, zcd, Nat.zero_add]
  show Rel c (ds.map (frzD (ob.set i o') (f :: fr))) (frzO (ob.set i o') (f :: fr) 0 (ob.set i o')) vs w'
  rw [hob, zsy hget]
  refine ⟨β, _, hI3, ?_⟩
  rw [List.length_set, qq]
  refine za.imp (Nat.le_refl _) (fun _ _ => .refl _) (fun _ h => h) (fun b hb => hw.block b (hI2.imm b hb) fun hx => ?_) _ hd2
  exact (hI2.own i b (zj.2 ⟨_, hi2, hl2, hx⟩)).1 hb
theorem zbl (hI : Inv c β S ob w) (hm : c.m0 ≤ ob.length) {i : Nat} {o o' : Ob} (hi : ob[i]? = some o) (hl : o.live = true) (hl' : o'.live = true) (hw : Same (fun b => b ∈ (β i).blocks) w w')
  (hsz : w'.heap.size = w.heap.size) (ho : RelO ob.length β S w' (β i) o') {ds : List D} {vs : List Value} (hd : za ob.length β S w ds vs) : Rel c ds (ob.set i o') vs w' := by
 refine ⟨β, S, hI.turn hm hi hl hl' hw hsz ho, ?_⟩
 rw [List.length_set]
 refine za.imp (Nat.le_refl _) (fun _ _ => .refl _) (fun _ h => h) (fun b hb => hw.block b (hI.imm b hb) fun hx => ?_) ds hd
 exact (hI.own i b (zj.2 ⟨o, hi, hl, hx⟩)).1 hb
theorem qj {α : Type} {l m : List α} {a : Nat} (h : a + m.length ≤ l.length) : (l.take a ++ m ++ l.drop (a + m.length)).length = l.length := by simp; omega
theorem xc {α : Type} {l m : List α} {a : Nat} (h : a + m.length ≤ l.length) (j : Nat) : (l.take a ++ m ++ l.drop (a + m.length))[j]? = if a ≤ j ∧ j < a + m.length then m[j - a]? else l[j]? := by
 by_cases h1 : j < a
 ·rw [if_neg (by omega), List.append_assoc, List.getElem?_append_left (by simp; omega), List.getElem?_take, if_pos h1]
 ·by_cases h2 : j < a + m.length
  ·rw [if_pos (by omega), List.getElem?_append_left (by simp; omega), List.getElem?_append_right (by simp; omega)]
   congr 1
   simp; omega
  ·rw [if_neg (by omega), List.getElem?_append_right (by simp; omega), List.getElem?_drop]
   congr 1
   simp; omega
theorem zgk {S' : Nat → Prop} (hob : ∀ (i : Nat) (o : Ob), ob[i]? = some o → RelO ob.length β S w (β i) o) (hS : ∀ b, S b → S' b) {lend : Bool} {t : Ty} {ds : List D} {fr fr' : List Nat} {x : t.T} {vs : List Value}
  (h : ki ob lend t ds fr = some (x, fr')) (hfr : ∀ i, i ∈ fr' → ∀ b, b ∈ blks β ob i → S' b) (hd : za ob.length β S w ds vs) : vs.length = t.size ∧ ImmC S' w t (fun j => vs[j]?) x :=
 let h := zfv hob hS h hfr hd
 ⟨h.1, h.2.1⟩
theorem zlj.store {S S' : Nat → Prop} {w : World} {mk : Bool} {e : TypeId} {ty : Ty} {l : List ty.T} {g len cap : Nat} (h : zlj S w mk e ty (.slice (some ⟨g, 0, none⟩) len cap) l) {k off : Nat} {x y : ty.T} (hx : l[k]? = some x) {qs : List Value} (hoff : off + qs.length ≤ ty.size) :
  ∃ (xs : List Value) (cur : Array Value) (fz : Nat × Nat), xs.length = l.length * ty.size ∧ w.heap[g]? = some (.cells cur e fz) ∧ (fz = (0, 0) ∨ cur.size ≤ fz.1) ∧ k * ty.size + off + qs.length ≤ cur.size ∧
   (∀ (k : Nat) (x : ty.T), l[k]? = some x → ImmC S w ty (fun j => xs[k * ty.size + j]?) x) ∧
   (∀ us : List Value, us.length = ty.size → (∀ j, j < ty.size → xs[k * ty.size + j]? = us[j]?) → (∀ b, S b → S' b) → (∀ b, S' b → (w.setRow g (cur.toList.take (k * ty.size + off) ++ qs ++ cur.toList.drop (k * ty.size + off + qs.length)).toArray).heap[b]? = w.heap[b]?) →
    ImmC S' w ty (fun j => (us.take off ++ qs ++ us.drop (off + qs.length))[j]?) y →
    zlj S' (w.setRow g (cur.toList.take (k * ty.size + off) ++ qs ++ cur.toList.drop (k * ty.size + off + qs.length)).toArray) mk e ty (.slice (some ⟨g, 0, none⟩) len cap) (l.set k y)) := by
 obtain ⟨xs, h3, h4, h5⟩ := h
 have hkl := (List.getElem?_eq_some_iff.1 hx).1
 rcases h3.2 with ⟨hnil, _⟩ | ⟨g', cap', cur, fz, hgv, hg, hfz, hn, hcm, hcs, htk⟩
 ·cases hnil
 ·injection hgv with hgv hgl hgc
  injection hgv with hgv
  injection hgv with hgv
  subst hgv
  subst hgl
  subst hgc
  have hmul := Nat.mul_le_mul_right ty.size (show k + 1 ≤ l.length from hkl)
  have hmul2 := Nat.mul_le_mul_right ty.size hn
  rw [Nat.add_mul] at hmul
  have hin : k * ty.size + off + qs.length ≤ cur.size := by rw [hcs]; omega
  refine ⟨xs, cur, fz, h3.1, hg, hfz.imp id And.right, hin, h5, fun us hus hxus hSS hSb h12 => ?_⟩
  have hcut : cur.toList.length = cap * ty.size := by simpa using hcs
  have hxl := h3.1
  have hin' : k * ty.size + off + qs.length ≤ cur.toList.length := by simpa using hin
  have hxin : k * ty.size + off + qs.length ≤ xs.length := by omega
  refine ⟨xs.take (k * ty.size + off) ++ qs ++ xs.drop (k * ty.size + off + qs.length), ⟨?_, .inr ⟨g, cap, _, fz, by simp, setRow_heap w g cur _ e fz hg, ?_, by simpa using hn, hcm, ?_, ?_⟩⟩, by simpa using h4, ?_⟩
  ·rw [qj hxin, hxl]; simp
  ·rcases hfz with hfz | hfz
   ·exact .inl hfz
   ·refine .inr ⟨hfz.1, ?_⟩
    rw [List.size_toArray, qj hin']
    simpa using hfz.2
  ·rw [List.size_toArray, qj hin', hcut]
  ·apply List.ext_getElem?
   intro j
   rw [List.length_set, List.getElem?_take]
   simp only [List.toList_toArray]
   rw [xc hin', xc hxin]
   have hxj : ∀ j, xs[j]? = if j < l.length * ty.size then cur.toList[j]? else none := by
    intro j
    rw [← htk, List.getElem?_take]
   rw [hxj j]
   by_cases h13 : j < l.length * ty.size
   ·rw [if_pos h13, if_pos h13]
   ·rw [if_neg h13, if_neg h13, if_neg (by omega)]
  ·intro k' x' hk'
   rw [List.getElem?_set] at hk'
   by_cases e : k = k'
   ·subst e
    rw [if_pos rfl, if_pos hkl] at hk'
    cases hk'
    refine ImmC.congr (fun j hj => ?_) (ImmC.imp (fun _ h => h) hSb h12)
    have hj2 : k * ty.size + j < xs.length := by omega
    rw [xc hxin, xc (by rw [hus]; exact hoff)]
    by_cases h14 : off ≤ j ∧ j < off + qs.length
    ·rw [if_pos h14, if_pos (by omega)]
     congr 1; omega
    ·rw [if_neg h14, if_neg (by omega), hxus j hj]
   ·rw [if_neg e] at hk'
    refine ImmC.congr (fun j hj => ?_) (ImmC.imp hSS (fun b hb => hSb b (hSS b hb)) (h5 k' x' hk'))
    have hk'l := (List.getElem?_eq_some_iff.1 hk').1
    have hm1 := Nat.mul_le_mul_right ty.size (show k' + 1 ≤ l.length from hk'l)
    rw [Nat.add_mul] at hm1
    rw [xc hxin, if_neg]
    rcases Nat.lt_or_gt_of_ne e with e1 | e1
    ·have hm2 := Nat.mul_le_mul_right ty.size (show k + 1 ≤ k' from e1)
     rw [Nat.add_mul] at hm2
     omega
    ·have hm2 := Nat.mul_le_mul_right ty.size (show k' + 1 ≤ k from e1)
     rw [Nat.add_mul] at hm2
     omega
theorem zvq {α : Type} (f : α → List Nat) : ∀ {l : List α}, (l.flatMap f).Nodup → ∀ x y, x ∈ l → y ∈ l → x ≠ y → ∀ b, b ∈ f x → b ∈ f y → False
 | [], _, x, _, hx, _, _, _, _, _ => by cases hx
 | a :: l, h, x, y, hx, hy, hxy, b, hbx, hby => by
  rw [List.flatMap_cons, List.nodup_append] at h
  obtain ⟨_, h2, h3⟩ := h
  rcases List.mem_cons.1 hx with hx' | hx'
  ·subst hx'
   rcases List.mem_cons.1 hy with hy' | hy'
   ·exact hxy hy'.symm
   ·exact h3 b hbx b (List.mem_flatMap.2 ⟨y, hy', hby⟩) rfl
  ·rcases List.mem_cons.1 hy with hy' | hy'
   ·subst hy'
    exact h3 b hby b (List.mem_flatMap.2 ⟨x, hx', hbx⟩) rfl
   ·exact zvq f h2 x y hx' hy' hxy b hbx hby
theorem z1y {k k' s a b : Nat} (ha : a < s) (hb : b < s) (h : k * s + a = k' * s + b) : k = k' ∧ a = b := by
 have h1 : (k * s + a) / s = k := by rw [Nat.mul_comm, Nat.mul_add_div (by omega), Nat.div_eq_of_lt ha]; rfl
 have h2 : (k' * s + b) / s = k' := by rw [Nat.mul_comm, Nat.mul_add_div (by omega), Nat.div_eq_of_lt hb]; rfl
 have : k = k' := by rw [← h1, ← h2, h]
 subst this
 exact ⟨rfl, by omega⟩
theorem zg9 {α : Type} (f : α → List Nat) {l l' : List α} (h : l.Sublist l') : (l.flatMap f).Sublist (l'.flatMap f) := by
 induction h with
 | slnil => exact List.Sublist.refl _
 | cons a _ ih => rw [List.flatMap_cons]; exact ih.trans (List.sublist_append_right _ _)
 | cons_cons a _ ih => rw [List.flatMap_cons, List.flatMap_cons]; exact (List.Sublist.refl _).append ih
theorem zgl {p q : Nat} (h : q ≠ p) : ∀ l : List (Nat × Value), (l.filter (fun x => x.1 != p)).lookup q = l.lookup q
 | [] => rfl
 | a :: l => by
  by_cases e : a.1 = p
  ·rw [List.filter_cons_of_neg (by simp [e]), zgl h l, List.lookup_cons, show (q == a.1) = false by simp [e, h]]
  ·rw [List.filter_cons_of_pos (by simp [e]), List.lookup_cons, List.lookup_cons, zgl h l]
theorem zvr {ob : List Ob} : ∀ {t : Ty} {d : D} {fr fr' : List Nat} {y : t.T}, gw ob false t d fr = some (y, fr') → t.size = 1 ∧ ∃ d', t.cells y = [d'] ∧ (∀ e t l, d = .isl e t l → d' = d) ∧
  ∀ (n n' : Nat) (β β' : Nat → GL) (S : Nat → Prop) (w : World) (u : Value), RelD n β S w d u → RelD n' β' S w d' u := by
 intro t d fr fr' y h
 cases t with
 | int k =>
  cases d <;> simp only [gw] at h <;> try cases h
  rename_i k' n
  split at h
  ·rename_i e
   subst e
   simp only [Option.some.injEq, Prod.mk.injEq] at h
   obtain ⟨rfl, rfl⟩ := h
   exact ⟨rfl, _, rfl, fun _ _ _ h => (nomatch h), fun _ _ _ _ _ _ _ h => h⟩
  ·cases h
 | bool =>
  cases d <;> simp only [gw] at h <;> try cases h
  exact ⟨rfl, _, rfl, fun _ _ _ h => (nomatch h), fun _ _ _ _ _ _ _ h => h⟩
 | str =>
  cases d <;> simp only [gw] at h <;> try cases h
  exact ⟨rfl, _, rfl, fun _ _ _ h => (nomatch h), fun _ _ _ _ _ _ _ h => h⟩
 | pair a b => cases d <;> simp [gw] at h
 | err =>
  cases d <;> simp only [gw] at h <;> try cases h
  case ierr.refl => exact ⟨rfl, _, rfl, fun _ _ _ h => (nomatch h), fun _ _ _ _ _ _ _ h => h⟩
  case eint.refl _ _ o =>
   refine ⟨rfl, _, rfl, fun _ _ _ h => (nomatch h), fun _ _ _ _ _ _ u h => ?_⟩
   cases o with
   | none => exact h
   | some n => exact ⟨_, _, h.1⟩
 | eint t k =>
  cases d <;> simp only [gw] at h <;> try cases h
  case ierr b =>
   split at h
   ·cases h
   ·rename_i hb
    simp only [Option.some.injEq, Prod.mk.injEq] at h
    obtain ⟨rfl, rfl⟩ := h
    obtain rfl : b = false := by simpa using hb
    exact ⟨rfl, _, rfl, fun _ _ _ h => (nomatch h), fun _ _ _ _ _ _ u h => h⟩
  case eint t' k' o =>
   split at h
   ·rename_i e
    obtain ⟨rfl, rfl⟩ := e
    simp only [Option.some.injEq, Prod.mk.injEq] at h
    obtain ⟨rfl, rfl⟩ := h
    exact ⟨rfl, _, rfl, fun _ _ _ h => (nomatch h), fun _ _ _ _ _ _ u h => h⟩
   ·cases h
 | slice e t =>
  cases d <;> simp only [gw] at h <;> try cases h
  case isl e' t' l =>
   split at h
   ·rename_i ht
    subst ht
    split at h
    ·rename_i he
     subst he
     simp only [Option.some.injEq, Prod.mk.injEq] at h
     obtain ⟨rfl, rfl⟩ := h
     exact ⟨rfl, _, rfl, fun _ _ _ _ => rfl, fun _ _ _ _ _ _ u h => h⟩
    ·cases h
   ·cases h
  case slice.nsl.refl =>
   refine ⟨rfl, _, rfl, fun _ _ _ h => (nomatch h), fun _ _ _ _ S w u h => ?_⟩
   obtain rfl : u = .slice none 0 0 := h
   exact ⟨none, 0, rfl, Nat.le_refl _, by simp, by simp, fun _ => rfl, fun k x hk => by simp at hk⟩
  all_goals simp at h
theorem zz1 {ob : List Ob} : ∀ {t : Ty} {ds rest : List D} {fr fr' : List Nat} {y : t.T}, xn ob false t ds fr = some (y, rest, fr') → ∃ hd, ds = hd ++ rest ∧ hd.length = t.size ∧
  ∀ (j : Nat) (d : D), hd[j]? = some d → ∃ d', (t.cells y)[j]? = some d' ∧ (∀ e t l, d = .isl e t l → d' = d) ∧ ∀ (n n' : Nat) (β β' : Nat → GL) (S : Nat → Prop) (w : World) (u : Value), RelD n β S w d u → RelD n' β' S w d' u := by
 have one : ∀ (t : Ty) (ds rest : List D) (fr fr' : List Nat) (y : t.T), (match ds with | d :: r => (gw ob false t d fr).bind fun x => some (x.1, r, x.2) | [] => none) = some (y, rest, fr') →
   ∃ hd, ds = hd ++ rest ∧ hd.length = t.size ∧ ∀ (j : Nat) (d : D), hd[j]? = some d → ∃ d', (t.cells y)[j]? = some d' ∧ (∀ e t l, d = .isl e t l → d' = d) ∧ ∀ (n n' : Nat) (β β' : Nat → GL) (S : Nat → Prop) (w : World) (u : Value), RelD n β S w d u → RelD n' β' S w d' u := by
  intro t ds rest fr fr' y h
  cases ds with
  | nil => cases h
  | cons d ds =>
   obtain ⟨z, h1, h2⟩ := Option.bind_eq_some_iff.1 h
   simp only [Option.some.injEq, Prod.mk.injEq] at h2
   obtain ⟨rfl, rfl, rfl⟩ := h2
   obtain ⟨h3, d', h4, h5, h6⟩ := zvr (show gw ob false t d fr = some (z.1, z.2) from h1)
   refine ⟨[d], rfl, h3.symm, fun j d0 hj => ?_⟩
   cases j with
   | zero =>
    simp only [List.getElem?_cons_zero, Option.some.injEq] at hj
    subst hj
    exact ⟨d', by rw [h4]; rfl, h5, h6⟩
   | succ j => simp at hj
 intro t
 induction t with
 | pair a b iha ihb =>
  intro ds rest fr fr' y h
  simp only [xn] at h
  obtain ⟨p, h1, h2⟩ := Option.bind_eq_some_iff.1 h
  obtain ⟨q, h3, h4⟩ := Option.bind_eq_some_iff.1 h2
  simp only [Option.some.injEq, Prod.mk.injEq] at h4
  obtain ⟨rfl, rfl, rfl⟩ := h4
  obtain ⟨hd1, e1, l1, g1⟩ := iha (show xn ob false a ds fr = some (p.1, p.2.1, p.2.2) from h1)
  obtain ⟨hd2, e2, l2, g2⟩ := ihb (show xn ob false b p.2.1 p.2.2 = some (q.1, q.2.1, q.2.2) from h3)
  refine ⟨hd1 ++ hd2, by rw [e1, e2, List.append_assoc], by simp [Ty.size, l1, l2], fun j d hj => ?_⟩
  simp only [Ty.cells]
  rcases Nat.lt_or_ge j hd1.length with hlt | hge
  ·rw [List.getElem?_append_left hlt] at hj
   rw [List.getElem?_append_left (by rw [Ty.cells_length]; omega)]
   exact g1 j d hj
  ·rw [List.getElem?_append_right hge] at hj
   rw [List.getElem?_append_right (by rw [Ty.cells_length]; omega), Ty.cells_length, ← l1]
   exact g2 _ d hj
 | _ =>
  intro ds rest fr fr' y h
  refine one _ ds rest fr fr' y ?_
  cases ds with
  | nil => simp [xn] at h
  | cons d ds => simpa only [xn] using h
theorem zz2 {ob : List Ob} {t : Ty} {ds : List D} {fr fr' : List Nat} {y : t.T} (h : ki ob false t ds fr = some (y, fr')) : ds.length = t.size ∧
  ∀ (j : Nat) (d : D), ds[j]? = some d → ∃ d', (t.cells y)[j]? = some d' ∧ (∀ e t l, d = .isl e t l → d' = d) ∧ ∀ (n n' : Nat) (β β' : Nat → GL) (S : Nat → Prop) (w : World) (u : Value), RelD n β S w d u → RelD n' β' S w d' u := by
 unfold ki at h
 obtain ⟨z, h1, h2⟩ := Option.bind_eq_some_iff.1 h
 split at h2
 ·rename_i hr
  simp only [Option.some.injEq, Prod.mk.injEq] at h2
  obtain ⟨rfl, rfl⟩ := h2
  obtain ⟨hd, e1, l1, g1⟩ := zz1 (show xn ob false t ds fr = some (z.1, z.2.1, z.2.2) from h1)
  rw [hr, List.append_nil] at e1
  subst e1
  exact ⟨l1, g1⟩
 ·cases h2
theorem z3p {t : Ty} {j : Nat} (h : t.mask.getD j false = true) : j < t.size := by
 rw [← Ty.mask_len]
 rcases Nat.lt_or_ge j t.mask.length with h1 | h1
 ·exact h1
 ·rw [List.getD_eq_getElem?_getD, List.getElem?_eq_none h1] at h; cases h
theorem z5v {m : List Bool} {j j' : Nat} (h : m.getD j false = true) (hj : j < j') : (m.take j).countP id < (m.take j').countP id := by
 have hlt : j < m.length := by
  rcases Nat.lt_or_ge j m.length with h1 | h1
  ·exact h1
  ·rw [List.getD_eq_getElem?_getD, List.getElem?_eq_none h1] at h; cases h
 have hb : m[j] = true := by rw [List.getD_eq_getElem?_getD, List.getElem?_eq_getElem hlt] at h; exact h
 have h1 : (m.take (j + 1)).countP id = (m.take j).countP id + 1 := by
  rw [List.take_succ_eq_append_getElem hlt, List.countP_append, hb]; simp
 have h2 : ((m.take j').take (j + 1)).countP id ≤ (m.take j').countP id := List.Sublist.countP_le (List.take_sublist _ _)
 rw [List.take_take, Nat.min_eq_left (by omega)] at h2
 omega
theorem z45 {t : Ty} {k k' j j' : Nat} (hj : t.mask.getD j false = true) (hj' : t.mask.getD j' false = true) (h : lnum t k j = lnum t k' j') : k = k' ∧ j = j' := by
 have h1 := z0v (k := 0) (len := 1) hj (by omega)
 have h2 := z0v (k := 0) (len := 1) hj' (by omega)
 simp only [lnum, Nat.zero_mul, Nat.zero_add, Nat.mul_one] at h1 h2 h
 obtain ⟨e1, e2⟩ := z1y h1 h2 h
 refine ⟨e1, ?_⟩
 rcases Nat.lt_trichotomy j j' with h3 | h3 | h3
 ·have := z5v hj h3; omega
 ·exact h3
 ·have := z5v hj' h3; omega
theorem zrj {t : Ty} {own : Option Nat} {k j : Nat} (h : t.mask.getD j false = false) : wn t own k j = false := by unfold wn; rw [h]; rfl
theorem ze0.store {w : World} {mk : Bool} {e : TypeId} {size g len cap n : Nat} {xs : List Value} (h : ze0 mk w e size (.slice (some ⟨g, 0, none⟩) len cap) n xs) {p : Nat} {qs : List Value} (hp : p + qs.length ≤ n * size) :
  ∃ (cur : Array Value) (fz : Nat × Nat), w.heap[g]? = some (.cells cur e fz) ∧ (fz = (0, 0) ∨ cur.size ≤ fz.1) ∧ p + qs.length ≤ cur.size ∧
   ze0 mk (w.setRow g (cur.toList.take p ++ qs ++ cur.toList.drop (p + qs.length)).toArray) e size (.slice (some ⟨g, 0, none⟩) len cap) n (xs.take p ++ qs ++ xs.drop (p + qs.length)) := by
 rcases h.2 with ⟨hnil, _⟩ | ⟨g', cap', cur, fz, hgv, hg, hfz, hn, hcm, hcs, htk⟩
 ·cases hnil
 ·injection hgv with hgv hgl hgc
  injection hgv with hgv
  injection hgv with hgv
  subst hgv
  subst hgl
  subst hgc
  have hmul2 := Nat.mul_le_mul_right size hn
  have hin : p + qs.length ≤ cur.size := by rw [hcs]; omega
  have hcut : cur.toList.length = cap * size := by simpa using hcs
  have hxl := h.1
  have hin' : p + qs.length ≤ cur.toList.length := by simpa using hin
  have hxin : p + qs.length ≤ xs.length := by omega
  refine ⟨cur, fz, hg, hfz.imp id And.right, hin, ?_, .inr ⟨g, cap, _, fz, rfl, setRow_heap w g cur _ e fz hg, ?_, hn, hcm, ?_, ?_⟩⟩
  ·rw [qj hxin, hxl]
  ·rcases hfz with hfz | hfz
   ·exact .inl hfz
   ·refine .inr ⟨hfz.1, ?_⟩
    rw [List.size_toArray, qj hin']
    simpa using hfz.2
  ·rw [List.size_toArray, qj hin', hcut]
  ·apply List.ext_getElem?
   intro j
   rw [List.getElem?_take]
   simp only [List.toList_toArray]
   rw [xc hin', xc hxin]
   have hxj : ∀ j, xs[j]? = if j < len * size then cur.toList[j]? else none := by
    intro j
    rw [← htk, List.getElem?_take]
   rw [hxj j]
   by_cases h13 : j < len * size
   ·rw [if_pos h13, if_pos h13]
   ·rw [if_neg h13, if_neg h13, if_neg (by omega)]
theorem ql.put {S : Nat → Prop} {w : World} {e : TypeId} {ty : Ty} {own own' : Option Nat} {out out' : Option (Nat × Nat)} {v : Value} {hs hs' : List (Nat × Value)} {l : List ty.T} {k off : Nat} {x y : ty.T} {xs xs' qs : List Value}
  (h1 : ze0 false w e ty.size v l.length xs') (h2 : l.length ≤ maxB)
  (hget : ∀ j, xs'[j]? = if k * ty.size + off ≤ j ∧ j < k * ty.size + off + qs.length then qs[j - (k * ty.size + off)]? else xs[j]?)
  (hx : l[k]? = some x) (hoff : off + qs.length ≤ ty.size)
  (h3 : ∀ (k' : Nat) (x' : ty.T), l[k']? = some x' → ∀ j, j < ty.size → ¬ (out = some (k', j) ∧ ty.mask.getD j false = true) → ∃ d u, (ty.cells x')[j]? = some d ∧ xs[k' * ty.size + j]? = some u ∧ zlk S w (wn ty own k' j) d u (hs.lookup (k' * ty.size + j)))
  (hin : ∀ j, off ≤ j → j < off + qs.length → ∃ d u, (ty.cells y)[j]? = some d ∧ qs[j - off]? = some u ∧ zlk S w (wn ty own' k j) d u (hs'.lookup (k * ty.size + j)))
  (hrow : ∀ j d u, j < ty.size → ¬ (off ≤ j ∧ j < off + qs.length) → (ty.cells x)[j]? = some d → zlk S w (wn ty own k j) d u (hs.lookup (k * ty.size + j)) → ∃ d', (ty.cells y)[j]? = some d' ∧ zlk S w (wn ty own' k j) d' u (hs'.lookup (k * ty.size + j)))
  (hoth : ∀ k' j, k' ≠ k → ty.mask.getD j false = true → wn ty own' k' j = wn ty own k' j ∧ hs'.lookup (k' * ty.size + j) = hs.lookup (k' * ty.size + j))
  (hout : ∀ k' j, ¬ (k' = k ∧ off ≤ j ∧ j < off + qs.length) → out = some (k', j) → out' = some (k', j)) : ql S w e ty own' out' v hs' (l.set k y) := by
 have hkl := (List.getElem?_eq_some_iff.1 hx).1
 refine ⟨xs', by rw [List.length_set]; exact h1, by rw [List.length_set]; exact h2, fun k' x' hk' j hj hno => ?_⟩
 rw [List.getElem?_set] at hk'
 by_cases e1 : k = k'
 ·subst e1
  rw [if_pos rfl, if_pos hkl] at hk'
  cases hk'
  by_cases hw : off ≤ j ∧ j < off + qs.length
  ·obtain ⟨d, u, q1, q2, q3⟩ := hin j hw.1 hw.2
   refine ⟨d, u, q1, ?_, q3⟩
   rw [hget, if_pos (by omega), ← q2]
   congr 1; omega
  ·obtain ⟨d, u, q1, q2, q3⟩ := h3 k x hx j hj (fun h => hno ⟨hout k j (fun h => hw h.2) h.1, h.2⟩)
   obtain ⟨d', q4, q5⟩ := hrow j d u hj hw q1 q3
   exact ⟨d', u, q4, by rw [hget, if_neg (by omega)]; exact q2, q5⟩
 ·rw [if_neg e1] at hk'
  obtain ⟨d, u, q1, q2, q3⟩ := h3 k' x' hk' j hj (fun h => hno ⟨hout k' j (fun h => e1 h.1.symm) h.1, h.2⟩)
  have hnw : ¬ (k * ty.size + off ≤ k' * ty.size + j ∧ k' * ty.size + j < k * ty.size + off + qs.length) := by
   rcases Nat.lt_or_gt_of_ne e1 with e2 | e2
   ·have hm2 := Nat.mul_le_mul_right ty.size (show k + 1 ≤ k' from e2)
    rw [Nat.add_mul] at hm2
    omega
   ·have hm2 := Nat.mul_le_mul_right ty.size (show k' + 1 ≤ k from e2)
    rw [Nat.add_mul] at hm2
    omega
  refine ⟨d, u, q1, by rw [hget, if_neg hnw]; exact q2, ?_⟩
  cases hm : ty.mask.getD j false with
  | false => rw [zrj hm] at q3 ⊢; exact q3
  | true =>
   obtain ⟨q4, q5⟩ := hoth k' j (fun h => e1 h.symm) hm
   rw [q4, q5]
   exact q3
theorem Inv.target (hI : Inv c β S ob w) (hm : c.m0 ≤ ob.length) (J : Nat → Prop) {i : Nat} {o' : Ob} {g' : GL} {ob' : List Ob} (hlen : ob.length ≤ ob'.length) (hlen' : ∀ x, x < ob'.length → x < ob.length ∨ x = i) (hi : ob'[i]? = some o')
  (hJ : ∀ x, x ≠ i → J x → x < ob.length → ob'[x]? = some .gone) (hK : ∀ x, x < ob.length → x ≠ i → ¬ J x → ob'[x]? = ob[x]?) (hs : i < ob.length → (β i).sim g') (hw : Same (fun b => ∃ x, (x = i ∨ J x) ∧ b ∈ blks β ob x) w w')
  (ho : RelO ob'.length (upd β i g') S w' g' o') (hb : ∀ b, b ∈ g'.blocks → b < w'.heap.size ∧ ((∃ x, (x = i ∨ J x) ∧ b ∈ blks β ob x) ∨ w.heap.size ≤ b)) : Inv c (upd β i g') S ob' w' := by
 have hget : ∀ {x : Nat} {q : Ob}, ob'[x]? = some q → ((x = i ∨ J x) ∨ ob.length ≤ x) → (x = i ∧ q = o') ∨ q = .gone := by
  intro x q hx h
  by_cases e : x = i
  ·subst e; rw [hi] at hx; cases hx; exact .inl ⟨rfl, rfl⟩
  ·have hxl : x < ob.length := (hlen' x (List.getElem?_eq_some_iff.1 hx).1).resolve_right e
   rcases h with (h | h) | h
   ·exact absurd h e
   ·rw [hJ x e h hxl] at hx; cases hx; exact .inr rfl
   ·omega
 have hblk : ∀ {x b : Nat}, b ∈ blks (upd β i g') ob' x → ((x = i ∨ J x) ∨ ob.length ≤ x) → x = i ∧ b ∈ g'.blocks := by
  intro x b hx h
  obtain ⟨q, h1, h2, h3⟩ := zj.1 hx
  rcases hget h1 h with ⟨rfl, _⟩ | rfl
  ·rw [jh] at h3; exact ⟨rfl, h3⟩
  ·cases h2
 have hne : ∀ {x : Nat}, x ≠ i → upd β i g' x = β x := fun h => if_neg h
 refine hI.stepS (fun x => x = i ∨ J x) hw hlen (fun x hx hn => hK x hx (fun e => hn (.inl e)) (fun e => hn (.inr e))) (fun x hx => ?_) (fun x hx hn => hne fun e => hn (.inl e)) (fun _ h => h) (fun b hb => .inl hb) (fun x q hx h => ?_) (fun x b h hx => ?_)
  (fun x y b hxy hx hy hbx hby => ?_) hm
 ·by_cases e : x = i
  ·subst e; rw [jh]; exact hs hx
  ·rw [hne e]; exact .refl _
 ·rcases hget hx h with ⟨rfl, rfl⟩ | rfl
  ·rw [jh]; exact ho
  ·cases upd β i g' x <;> trivial
 ·obtain ⟨_, h1⟩ := hblk hx h
  obtain ⟨h2, h3⟩ := hb b h1
  refine ⟨fun hS => ?_, h2, h3⟩
  rcases h3 with ⟨x, _, hx⟩ | h3
  ·exact (hI.own x b hx).1 hS
  ·have := hI.imm b hS; omega
 ·obtain ⟨e1, _⟩ := hblk hbx hx
  obtain ⟨e2, _⟩ := hblk hby hy
  exact hxy (e1.trans e2.symm)
theorem zt1 {t : Ty} {k off : Nat} {own : Option Nat} {K : Option Nat → Option R} {r : R} (h : z0r t k off own K = some r) :
  ∃ own', ((own = none ∧ own' = none) ∨ ∃ m, own = some m ∧ lnum t k off = m ∧ own' = some (m + 1)) ∧ K own' = some r := by
 cases own with
 | none => exact ⟨none, .inl ⟨rfl, rfl⟩, h⟩
 | some m =>
  obtain ⟨hb, h⟩ := ya h
  exact ⟨some (m + 1), .inr ⟨m, rfl, by simpa using hb, rfl⟩, h⟩
theorem zt2 {k off : Nat} {out : Option (Nat × Nat)} {K : Option R} {r : R} (h : zyi k off out K = some r) : (out = none ∨ out = some (k, off)) ∧ K = some r := by
 cases out with
 | none => exact ⟨.inl rfl, h⟩
 | some p =>
  obtain ⟨k', off'⟩ := p
  simp only [zyi] at h
  split at h
  ·rename_i ho
   subst ho
   obtain ⟨hb, h2⟩ := ya h
   have : k = k' := by simpa using hb
   subst this
   exact ⟨.inr rfl, h2⟩
  ·cases h
theorem zp0 (hT : z7 P E) (hI : Inv c β S ob w) (hm : c.m0 ≤ ob.length) {t : TypeId} {q : D} {pv qv : Value} (hb : (E.ti t).und.isBad = false) (hsz : q.cells.length = (E.ti t).size) (hq : RelD ob.length β S w q qv) (hcl : za ob.length β S w q.cells qv.cells.toList) (hone : ∀ u ∈ qv.cells.toList, u.oneCell' = true)
  {i k off g : Nat} {e : TypeId} {ty : Ty} {l : List ty.T} {own : Option Nat} {out : Option (Nat × Nat)} {K : List Ob → List Nat → Option R} {r : R} (hv : ob.getD i .gone = .dv e ty l own g out) (hoff : off + q.cells.length ≤ ty.size) (h : zu4 ob i k off e ty l own g out q K = some r) (hp : RelD ob.length β S w (.elt i k ty.size off) pv)
  {tm : List D} {vs : List Value} (hd' : za ob.length β S w (.skip :: tm) (undef :: vs)) :
  ∃ ob' fr w', K ob' fr = some r ∧ (Instr.storeAt t pv qv).run P w = .ok () w' ∧ RelF c fr (.skip :: tm) ob' (undef :: vs) w' ∧ Same (fun b => ∃ i', i' ∈ [i] ∧ b ∈ blks β ob i') w w' := by
 have hcn := za.length hcl
 rw [hcn] at hoff
 unfold zu4 at h
 obtain ⟨x, hx, hA⟩ := Option.bind_eq_some_iff.1 h
 clear h
 have h := hA
 clear hA
 obtain ⟨h1, v, hs, h2, hnd, ⟨xs, h3, h4, h5⟩, h6⟩ := obDv hI.obj hv
 obtain ⟨h7, gb, len, cap, h8, rfl⟩ := hp
 rw [h2] at h8
 injection h8 with h8
 subst h8
 have hkl := (List.getElem?_eq_some_iff.1 hx).1
 have hmul := Nat.mul_le_mul_right ty.size (show k + 1 ≤ l.length from hkl)
 rw [Nat.add_mul] at hmul
 obtain ⟨cur, fz, c1, c2, c3, c4⟩ := h3.store (p := k * ty.size + off) (qs := qv.cells.toList) (by omega)
 have hrun := zlp hT hb (o := k * ty.size + off) (v := qv) c1 c2 (by omega) c3 hone
 have hwS := Same.setRow w gb (cur.toList.take (k * ty.size + off) ++ qv.cells.toList ++ cur.toList.drop (k * ty.size + off + qv.cells.toList.length)).toArray
 have hsize : (w.setRow gb (cur.toList.take (k * ty.size + off) ++ qv.cells.toList ++ cur.toList.drop (k * ty.size + off + qv.cells.toList.length)).toArray).heap.size = w.heap.size := by simp [World.setRow]
 generalize hw' : w.setRow gb (cur.toList.take (k * ty.size + off) ++ qv.cells.toList ++ cur.toList.drop (k * ty.size + off + qv.cells.toList.length)).toArray = w' at c4 hrun hwS hsize
 have hgb : gb ∈ (GL.deep g (.slice (some ⟨gb, 0, none⟩) len cap) hs).blocks := by simp [GL.blocks, Value.ownBlock]
 have hgbi : gb ∈ blks β ob i := h6 gb hgb
 have hSb : ∀ b', S b' → w'.heap[b']? = w.heap[b']? := fun b' hS => hwS.block b' (hI.imm b' hS) fun e => by
  subst e
  exact (hI.own i b' hgbi).1 hS
 have hhs : ∀ p u, hs.lookup p = some u → ∀ b, b ∈ u.ownBlock.toList → b ≠ gb := fun p u hl b hbu e => by
  simp only [GL.blocks] at hnd
  rw [List.nodup_append] at hnd
  exact hnd.2.2 gb (by simp [Value.ownBlock]) b (List.mem_flatMap.2 ⟨_, ze7 hl, hbu⟩) e.symm
 have hlive : ∀ b', b' ∈ (GL.deep g (.slice (some ⟨gb, 0, none⟩) len cap) hs).blocks → b' < w.heap.size := fun b' hb' => (hI.own i b' (h6 b' hb')).2.1
 have himp : ∀ {o : Bool} {d : D} {u : Value} {p : Nat}, zlk S w o d u (hs.lookup p) → zlk S w' o d u (hs.lookup p) := fun {o d u p} hc => zlk.imp (fun _ h => h) hSb (fun ho b hbu => by
  rw [ho] at hc
  exact hwS.block b (hlive b (zll hc.1 hbu)) (hhs p u hc.1 b hbu)) hc
 have h5' : ∀ (k' : Nat) (x' : ty.T), l[k']? = some x' → ∀ j, j < ty.size → ¬ (out = some (k', j) ∧ ty.mask.getD j false = true) → ∃ d u, (ty.cells x')[j]? = some d ∧ xs[k' * ty.size + j]? = some u ∧ zlk S w' (wn ty own k' j) d u (hs.lookup (k' * ty.size + j)) := fun k' x' hk' j hj hno => by
  obtain ⟨d, u, q1, q2, q3⟩ := h5 k' x' hk' j hj hno
  exact ⟨d, u, q1, q2, himp q3⟩
 have hxin : k * ty.size + off + qv.cells.toList.length ≤ xs.length := by rw [h3.1]; omega
 have hsame : Same (fun b => ∃ i', i' ∈ [i] ∧ b ∈ blks β ob i') w w' := hwS.mono fun b' _ e => ⟨i, List.mem_singleton.2 rfl, by rw [e]; exact hgbi⟩
 have hilt := (List.getElem?_eq_some_iff.1 h1).1

 have leaf : ∀ (J : Nat → Prop) (ob' : List Ob) (y : ty.T) (own' : Option Nat) (e' : TypeId) (t' : Ty) (lst : List t'.T), ¬ J i → ob'.length = ob.length → ob'[i]? = some (.dv e ty (l.set k y) own' (g + 1) none) →
   (∀ x, x ≠ i → J x → x < ob.length → ob'[x]? = some .gone) → (∀ x, x < ob.length → x ≠ i → ¬ J x → ob'[x]? = ob[x]?) → zg6 ty x off (.isl e' t' lst) = some y →
   ((own = none ∧ own' = none) ∨ ∃ m, own = some m ∧ lnum ty k off = m ∧ own' = some (m + 1)) → (out = none ∨ out = some (k, off)) → qv.cells.toList = [qv] → zlj S w' false e' t' qv lst →
   (∀ b, b ∈ qv.ownBlock.toList → ∃ x, x ≠ i ∧ J x ∧ b ∈ blks β ob x) → Rel c (.skip :: tm) ob' (undef :: vs) w' := by
  intro J ob' y own' e' t' lst hJi hlen hi' hJ hK hy hown hout hqc hrow hblk
  obtain ⟨hoff', hcy⟩ := zrd _ _ _ _ _ _ _ hy
  have hl1 : qv.cells.toList.length = 1 := by rw [hqc]; rfl
  let hs' := (k * ty.size + off, qv) :: hs.filter fun z => z.1 != k * ty.size + off
  have hmask : ty.mask.getD off false = true := by
   refine zi1 ty y off e' t' lst ?_
   rw [hcy, List.getElem?_set_self (by rw [Ty.cells_length]; exact hoff')]
  have hl0 : hs'.lookup (k * ty.size + off) = some qv := by
   show List.lookup _ (_ :: _) = _
   rw [List.lookup_cons]; simp
  have hl2 : ∀ p, p ≠ k * ty.size + off → hs'.lookup p = hs.lookup p := fun p hp => by
   show List.lookup _ (_ :: _) = _
   rw [List.lookup_cons, show (p == k * ty.size + off) = false by simpa using hp, zgl hp]
  have ho1 : ∀ k' j, ty.mask.getD j false = true → ¬ (k' = k ∧ j = off) → wn ty own' k' j = wn ty own k' j := by
   intro k' j hm' hne
   rcases hown with ⟨rfl, rfl⟩ | ⟨m, rfl, hmk, rfl⟩
   ·rfl
   ·unfold wn
    rw [hm']
    simp only [Bool.true_and]
    have : lnum ty k' j ≠ m := fun h => hne (z45 hm' hmask (h.trans hmk.symm))
    by_cases h9 : lnum ty k' j < m
    ·rw [decide_eq_true h9, decide_eq_true (by omega)]
    ·rw [decide_eq_false h9, decide_eq_false (by omega)]
  have ho2 : wn ty own' k off = true := by
   rcases hown with ⟨rfl, rfl⟩ | ⟨m, rfl, hmk, rfl⟩
   ·unfold wn; rw [hmask]; rfl
   ·unfold wn; rw [hmask, hmk]; simp
  have hq1 : qv.cells.toList = [qv] := hqc
  have hbl' : ∀ b, b ∈ (GL.deep (g + 1) (.slice (some ⟨gb, 0, none⟩) len cap) hs').blocks → b ∈ qv.ownBlock.toList ∨ b ∈ (GL.deep g (.slice (some ⟨gb, 0, none⟩) len cap) hs).blocks := by
   intro b hb'
   simp only [GL.blocks, hs', List.flatMap_cons] at hb' ⊢
   rcases List.mem_append.1 hb' with hb' | hb'
   ·exact .inr (List.mem_append_left _ hb')
   ·rcases List.mem_append.1 hb' with hb' | hb'
    ·exact .inl hb'
    ·obtain ⟨z, hz, hzb⟩ := List.mem_flatMap.1 hb'
     exact .inr (List.mem_append_right _ (List.mem_flatMap.2 ⟨z, (List.mem_filter.1 hz).1, hzb⟩))
  have hdis : ∀ b, b ∈ qv.ownBlock.toList → b ∉ (GL.deep g (.slice (some ⟨gb, 0, none⟩) len cap) hs).blocks := fun b hb1 hb2 => by
   obtain ⟨z, hz1, _, hz2⟩ := hblk b hb1
   exact hI.sep z i b hz1 hz2 (h6 b hb2)
  have hnd' : (GL.deep (g + 1) (.slice (some ⟨gb, 0, none⟩) len cap) hs').blocks.Nodup := by
   simp only [GL.blocks, hs', List.flatMap_cons] at hnd hdis ⊢
   have hsub := List.Nodup.sublist (List.Sublist.append (List.Sublist.refl (Value.slice (some ⟨gb, 0, none⟩) len cap).ownBlock.toList) (zg9 (fun h : Nat × Value => h.2.ownBlock.toList) (List.filter_sublist (p := fun z : Nat × Value => z.1 != k * ty.size + off) (l := hs)))) hnd
   rw [List.nodup_append] at hsub ⊢
   refine ⟨hsub.1, ?_, fun a ha b hb' => ?_⟩
   ·rw [List.nodup_append]
    refine ⟨zj7 qv, hsub.2.1, fun a ha b hb' e => ?_⟩
    subst e
    obtain ⟨z, hz, hzb⟩ := List.mem_flatMap.1 hb'
    exact hdis a ha (List.mem_append_right _ (List.mem_flatMap.2 ⟨z, (List.mem_filter.1 hz).1, hzb⟩))
   ·rcases List.mem_append.1 hb' with hb' | hb'
    ·intro e; subst e; exact hdis a hb' (List.mem_append_left _ ha)
    ·exact hsub.2.2 a ha b hb'
  have hinv : Inv c (upd β i (.deep (g + 1) (.slice (some ⟨gb, 0, none⟩) len cap) hs')) S ob' w' := by
   refine hI.target hm J (by omega) (fun x hx => .inl (by omega)) hi' hJ hK (fun _ => by rw [h2]; exact ⟨_, _, rfl, Nat.le_succ _, fun e => by omega⟩) (hwS.mono fun b' _ e => ⟨i, .inl rfl, by rw [e]; exact hgbi⟩) ⟨rfl, hnd', ?_⟩ (fun b hb' => ?_)
   ·refine ql.put (own := own) (hs := hs) (out := out) (qs := qv.cells.toList) c4 h4 (fun j => xc hxin j) hx hoff h5' (fun j hj1 hj2 => ?_) (fun j d u hj hnw hdj hc => ?_) (fun k' j hk' hm' => ?_) (fun k' j hnw ho => ?_)
    ·obtain rfl : j = off := by omega
     refine ⟨.isl e' t' lst, qv, by rw [hcy, List.getElem?_set_self (by rw [Ty.cells_length]; exact hoff')], by rw [hqc]; simp, ?_⟩
     rw [ho2]
     exact ⟨hl0, _, _, _, rfl, hrow⟩
    ·have hjo : j ≠ off := by omega
     refine ⟨d, by rw [hcy, List.getElem?_set_ne (fun e => hjo e.symm)]; exact hdj, ?_⟩
     cases hm' : ty.mask.getD j false with
     | false => rw [zrj hm'] at hc ⊢; exact hc
     | true =>
      rw [ho1 k j hm' (fun h => hjo h.2), hl2 _ (by omega)]
      exact hc
    ·refine ⟨ho1 k' j hm' (fun h => hk' h.1), hl2 _ fun e => hk' (z1y (z3p hm') hoff' e).1⟩
    ·rcases hout with rfl | rfl
     ·cases ho
     ·cases ho
      exact absurd ⟨rfl, Nat.le_refl _, by omega⟩ hnw
   ·rcases hbl' b hb' with h9 | h9
    ·obtain ⟨z, hz1, hz2, hz3⟩ := hblk b h9
     exact ⟨by rw [hsize]; exact (hI.own z b hz3).2.1, .inl ⟨z, .inr hz2, hz3⟩⟩
    ·exact ⟨by rw [hsize]; exact hlive b h9, .inl ⟨i, .inl rfl, h6 b h9⟩⟩
  refine ⟨_, S, hinv, ?_⟩
  rw [hlen]
  refine za.imp (Nat.le_refl _) (fun j hj => ?_) (fun _ h => h) hSb _ hd'
  by_cases e1 : j = i
  ·subst e1; rw [jh, h2]; exact ⟨_, _, rfl, Nat.le_succ _, fun e => by omega⟩
  ·rw [show upd β i _ j = β j from if_neg e1]; exact .refl _
 split at h
 ·
  rename_i hmk
  obtain ⟨y, hy, h⟩ := Option.bind_eq_some_iff.1 h
  refine ⟨_, [], w', h, hrun, ?_, hsame⟩
  obtain ⟨g1, g2⟩ := zz2 (show ki ob false ty _ [] = some (y.1, y.2) from hy)
  have hspl : ∀ j, (zd9 (ty.cells x) off q.cells)[j]? = if off ≤ j ∧ j < off + q.cells.length then q.cells[j - off]? else (ty.cells x)[j]? := fun j => xc (by rw [Ty.cells_length]; omega) j
  have hnm : ∀ j, off ≤ j → j < off + q.cells.length → ty.mask.getD j false = false := by
   intro j hj1 hj2
   rw [List.any_eq_false] at hmk
   cases hmj : ty.mask.getD j false with
   | false => rfl
   | true =>
    exfalso
    have hjl : j < ty.mask.length := by rw [Ty.mask_len]; exact z3p hmj
    have : ty.mask[j] ∈ (ty.mask.drop off).take q.cells.length := by
     refine List.mem_iff_getElem?.2 ⟨j - off, ?_⟩
     rw [List.getElem?_take, if_pos (by omega), List.getElem?_drop, show off + (j - off) = j by omega, List.getElem?_eq_getElem hjl]
    have h9 := hmk _ this
    rw [List.getD_eq_getElem?_getD, List.getElem?_eq_getElem hjl] at hmj
    exact h9 hmj
  refine zbl hI hm h1 rfl rfl (hwS.mono fun b' _ e => by rw [h2, e]; exact hgb) hsize ?_ hd'
  rw [h2]
  refine ⟨rfl, hnd, ?_⟩
  refine ql.put (own := own) (hs := hs) (out := out) (qs := qv.cells.toList) c4 h4 (fun j => xc hxin j) hx hoff h5' (fun j hj1 hj2 => ?_) (fun j d u hj hnw hdj hc => ?_) (fun k' j hk' hm' => ⟨rfl, rfl⟩) (fun _ _ _ ho => ho)
  ·have hjq : j - off < q.cells.length := by omega
   obtain ⟨u, r1, r2⟩ := za.get hcl (j - off) _ (List.getElem?_eq_getElem hjq)
   obtain ⟨d', r3, _, r4⟩ := g2 j (q.cells[j - off]) (by rw [hspl, if_pos ⟨hj1, by omega⟩, List.getElem?_eq_getElem hjq])
   refine ⟨d', u, r3, r1, ?_⟩
   rw [zrj (hnm j hj1 (by omega))]
   exact RelD.imp (Nat.le_refl _) (fun i hi => absurd hi (Nat.not_lt_zero _)) (fun _ h => h) hSb _ (r4 _ 0 _ (fun _ => .blk 0) _ _ _ r2)
  ·obtain ⟨d', r3, r5, r4⟩ := g2 j d (by rw [hspl, if_neg (by omega)]; exact hdj)
   refine ⟨d', r3, ?_⟩
   cases ho : wn ty own k j with
   | false => rw [ho] at hc; exact r4 _ _ _ _ _ _ _ hc
   | true =>
    rw [ho] at hc
    obtain ⟨s1, e9, t9, l9, s2, s3⟩ := hc
    exact ⟨s1, e9, t9, l9, (r5 _ _ _ s2).trans s2, s3⟩
 ·rename_i hmk
  split at h
  ·
   rename_i j
   split at h
   ·rename_i e' t' lst hj
    split at h
    ·rename_i hji
     obtain ⟨y, hy, hB⟩ := Option.bind_eq_some_iff.1 h
     obtain ⟨j1, u, j2, j3, j4⟩ := ze1 hI.obj hj
     obtain ⟨j5, j6, A, n', c', j7⟩ := hq
     rw [j2] at j6
     injection j6 with j6
     subst j6
     have hjl := (List.getElem?_eq_some_iff.1 j1).1
     have hqc : u.cells.toList = [u] := by rw [j7]; rfl
     obtain ⟨own', hown, hC⟩ := zt1 hB
     have hout := zt2 hC
     refine ⟨_, [], w', hout.2, hrun, ?_, hsame⟩
     refine leaf (fun x => x = j) _ y own' e' t' lst (fun e => hji e.symm) (by simp) ?_ (fun x _ hxj _ => ?_) (fun x hx hxi hxj => ?_) hy hown hout.1 hqc ?_ (fun b hb9 => ⟨j, hji, rfl, j4 b hb9⟩)
     ·rw [List.getElem?_set_ne hji, List.getElem?_set_self hilt]
     ·rw [hxj, List.getElem?_set_self (by simpa using hjl)]
     ·rw [List.getElem?_set_ne (fun e => hxj e.symm), List.getElem?_set_ne (fun e => hxi e.symm)]
     ·obtain ⟨ys, p1, p2, p3⟩ := j3
      refine ⟨ys, p1.imp fun b hb9 => hwS.block b (hI.own j b (j4 b hb9)).2.1 fun e => ?_, p2, fun k' x' hk' => ImmC.imp (fun _ h => h) hSb (p3 k' x' hk')⟩
      subst e
      exact hI.sep j i b hji (j4 b hb9) hgbi
    ·cases h
   ·cases h
  ·
   split at h
   ·rename_i e' t' lst0 hc0
    obtain ⟨y, hy, hB⟩ := Option.bind_eq_some_iff.1 h
    obtain rfl : qv = .slice none 0 0 := hq
    obtain ⟨own', hown, hC⟩ := zt1 hB
    have hout := zt2 hC
    refine ⟨_, [], w', hout.2, hrun, ?_, hsame⟩
    refine leaf (fun _ => False) _ y own' e' t' [] (fun h => h) (by simp) ?_ (fun x _ hxj _ => hxj.elim) (fun x hx hxi hxj => ?_) hy hown hout.1 rfl ⟨[], ⟨by simp, .inl ⟨rfl, rfl⟩⟩, by simp, fun k' x' hk' => by simp at hk'⟩ (fun b hb9 => by simp [Value.ownBlock] at hb9)
    ·rw [List.getElem?_set_self hilt]
    ·rw [List.getElem?_set_ne (fun e => hxi e.symm)]
   ·cases h
  ·cases h
theorem zw3 (hT : z7 P E) (hI : Inv c β S ob w) (hm : c.m0 ≤ ob.length) {t : TypeId} {q : D} {pv qv : Value} (hb : (E.ti t).und.isBad = false) (hsz : q.cells.length = (E.ti t).size) (hcl : za ob.length β S w q.cells qv.cells.toList) (hone : ∀ u ∈ qv.cells.toList, u.oneCell' = true)
  {i g k off m es o : Nat} {e : TypeId} {ty : Ty} {l : List ty.T} {K : List Ob → List Nat → Option R} {r : R} (hv : ob.getD i .gone = .dv e ty l none g none) (h : zyj ob i k off m es o e ty l g q K = some r) (hp : RelD ob.length β S w (.ielt i g k ty.size off m es o) pv)
  {tm : List D} {vs : List Value} (hd' : za ob.length β S w (.skip :: tm) (undef :: vs)) :
  ∃ ob' fr w', K ob' fr = some r ∧ (Instr.storeAt t pv qv).run P w = .ok () w' ∧ RelF c fr (.skip :: tm) ob' (undef :: vs) w' ∧ Same (fun b => ∃ i', i' ∈ [i] ∧ b ∈ blks β ob i') w w' := by
 have hcn := za.length hcl
 unfold zyj at h
 obtain ⟨x, hx, hA⟩ := Option.bind_eq_some_iff.1 h
 clear h
 cases hc : (ty.cells x)[off]? with
 | none => rw [hc] at hA; cases hA
 | some d0 =>
  rw [hc] at hA
  cases d0 <;> try (cases hA; done)
  rename_i e' t' lst
  dsimp only at hA
  split at hA
  ·rename_i hes
   obtain ⟨rfl, ho⟩ := hes
   rw [hcn] at ho
   obtain ⟨y, hy, hA⟩ := Option.bind_eq_some_iff.1 hA
   obtain ⟨y', hy', hA⟩ := Option.bind_eq_some_iff.1 hA
   obtain ⟨x', hx', hA⟩ := Option.bind_eq_some_iff.1 hA
   have hleaf : zzn ob i g k ty.size off = some (.isl e' t' lst) := by
    unfold zzn
    rw [hv]
    simp [hx, hc]
   obtain ⟨e0, t0, l0, v0, hs, u, h1, h2, _, _, _, h3, h4, h5⟩ := ze8 hI.obj hleaf
   obtain ⟨h6, v1, hs1, h7, h8, h9, h10⟩ := obDv hI.obj hv
   rw [h2] at h7
   injection h7 with _ h7 h7'
   subst h7 h7'
   obtain ⟨h11, _, g2, u2, hs2, h12, h13, h14⟩ := hp
   rw [h2] at h12
   injection h12 with h12 h15 h16
   subst h12 h16
   obtain ⟨b, len, cap, h17, rfl, _⟩ := h14 rfl
   rw [h3] at h17
   injection h17 with h17
   subst h17
   have hoff : off < ty.size := by rw [← Ty.cells_length ty x]; exact (List.getElem?_eq_some_iff.1 hc).1
   have hmem := ze7 h3
   have hbu : b ∈ (Value.slice (some ⟨b, 0, none⟩) len cap).ownBlock.toList := by simp [Value.ownBlock]
   have hbb : b ∈ blks β ob i := h5 b hbu
   obtain ⟨xs, cur, fz, p1, p2, p3, p4, p5, p6⟩ := h4.store (S' := S) (y := y'.1) hy (qs := qv.cells.toList) ho
   obtain ⟨us, s1, s2, s3⟩ := (p5 m y hy).values (n := ob.length) (β := β)
   have hrun := zlp hT hb (o := m * t'.size + o) (v := qv) p2 p3 (by omega) p4 hone
   have hwS := Same.setRow w b (cur.toList.take (m * t'.size + o) ++ qv.cells.toList ++ cur.toList.drop (m * t'.size + o + qv.cells.toList.length)).toArray
   have hSb : ∀ b', S b' → (w.setRow b (cur.toList.take (m * t'.size + o) ++ qv.cells.toList ++ cur.toList.drop (m * t'.size + o + qv.cells.toList.length)).toArray).heap[b']? = w.heap[b']? := fun b' hs' => hwS.block b' (hI.imm b' hs') fun e => by
    subst e
    exact (hI.own i b' hbb).1 hs'
   have hsp : za ob.length β S w (zd9 (t'.cells y) o q.cells) (us.take o ++ qv.cells.toList ++ us.drop (o + qv.cells.toList.length)) := by
    unfold zd9
    rw [hcn]
    exact za.append (za.append (s3.take o) hcl) (s3.drop _)
   have hfr0 : y'.2 = [] := by
    have hz := hy'
    unfold ki at hz
    obtain ⟨z, z1, z2⟩ := Option.bind_eq_some_iff.1 hz
    split at z2
    ·simp only [Option.some.injEq] at z2
     rw [← z2]
     exact zre (show xn ob false t' _ [] = some (z.1, z.2.1, z.2.2) from z1) rfl
    ·cases z2
   obtain ⟨_, h18⟩ := zgk hI.obj (S' := S) (fun _ h => h) (show ki ob false t' _ [] = some (y'.1, y'.2) from hy') (fun i hi => by rw [hfr0] at hi; cases hi) hsp
   have hrow := p6 us s1 s2 (fun _ h => h) hSb h18
   obtain ⟨_, hcx⟩ := zrd _ _ _ _ _ _ _ hx'
   refine ⟨_, [], _, hA, hrun, ?_, hwS.mono fun b' _ e => ⟨i, List.mem_singleton.2 rfl, by rw [e]; exact hbb⟩⟩
   refine zbl hI hm h1 rfl rfl (hwS.mono fun b' _ e => by rw [h2, e]; exact zll h3 hbu) (by simp [World.setRow]) ?_ hd'
   rw [h2]
   obtain ⟨zs, r1, r2, r3⟩ := h9
   have hnb : ∀ p' u', hs.lookup p' = some u' → p' ≠ k * ty.size + off → b ∉ u'.ownBlock.toList := fun p' u' hl hne hx => by
    simp only [GL.blocks] at h8
    rw [List.nodup_append] at h8
    exact zvq (fun h : Nat × Value => h.2.ownBlock.toList) h8.2.1 (p', u') (k * ty.size + off, _) (ze7 hl) hmem (fun e => hne (congrArg Prod.fst e)) b hx hbu
   have hob : b ∉ v0.ownBlock.toList := fun hx => by
    simp only [GL.blocks] at h8
    rw [List.nodup_append] at h8
    exact h8.2.2 b hx b (List.mem_flatMap.2 ⟨_, hmem, hbu⟩) rfl
   have hlive : ∀ b', b' ∈ (GL.deep g v0 hs).blocks → b' < w.heap.size := fun b' hb' => (hI.own i b' (h10 b' hb')).2.1
   refine ⟨rfl, h8, zs, ?_, by simpa using r2, fun k' x2 hk2 j hj hno => ?_⟩
   ·rw [List.length_set]
    exact r1.imp fun b' hb' => hwS.block b' (hlive b' (List.mem_append_left _ hb')) fun e => hob (e ▸ hb')
   ·have other : ∀ (k' : Nat) (x2 : ty.T), l[k']? = some x2 → ∀ j, j < ty.size → k' * ty.size + j ≠ k * ty.size + off → ∃ d u, (ty.cells x2)[j]? = some d ∧ zs[k' * ty.size + j]? = some u ∧ zlk S (w.setRow b (cur.toList.take (m * t'.size + o) ++ qv.cells.toList ++ cur.toList.drop (m * t'.size + o + qv.cells.toList.length)).toArray) (wn ty none k' j) d u (hs.lookup (k' * ty.size + j)) := by
     intro k' x2 hk2 j hj hne
     obtain ⟨d, u, q1, q2, q3⟩ := r3 k' x2 hk2 j hj (by simp)
     refine ⟨d, u, q1, q2, zlk.imp (fun _ h => h) hSb (fun hx b' hb' => ?_) q3⟩
     rw [hx] at q3
     exact hwS.block b' (hlive b' (zll q3.1 hb')) fun e => hnb _ _ q3.1 hne (e ▸ hb')
    rw [List.getElem?_set] at hk2
    by_cases e : k = k'
    ·subst e
     rw [if_pos rfl, if_pos (List.getElem?_eq_some_iff.1 hx).1] at hk2
     cases hk2
     by_cases ej : j = off
     ·subst ej
      obtain ⟨d, u, q1, q2, q3⟩ := r3 k x hx j hj (by simp)
      rw [hc] at q1
      cases q1
      have how : wn ty none k j = true := by
       unfold wn
       rw [zi1 _ _ _ _ _ _ hc]
       rfl
      rw [how] at q3 ⊢
      have hu : u = _ := Option.some.inj (q3.1.symm.trans h3)
      refine ⟨_, u, by rw [hcx, List.getElem?_set_self (by rw [Ty.cells_length]; exact hj)], q2, q3.1, _, _, _, rfl, ?_⟩
      rw [hu]
      exact hrow
     ·obtain ⟨d, u, q1, q2, q3⟩ := other k x hx j hj (by omega)
      exact ⟨d, u, by rw [hcx, List.getElem?_set_ne (fun e => ej e.symm)]; exact q1, q2, q3⟩
    ·rw [if_neg e] at hk2
     exact other k' x2 hk2 j hj fun e2 => e (z1y hj hoff e2).1.symm
  ·cases hA
theorem z47 (hI : Inv c β S ob w) (hm : c.m0 ≤ ob.length) {i : Nat} {e : TypeId} {ty : Ty} {l : List ty.T} (hv : ob.getD i .gone = .vec false e ty l) :
  ∃ v, Inv c (upd β i (.deep 0 v [])) S (ob.set i (.dv e ty l (some 0) 0 none)) w ∧ (∀ x, x < ob.length → (β x).sim (upd β i (.deep 0 v []) x)) ∧ (∀ x b, b ∈ blks (upd β i (.deep 0 v [])) (ob.set i (.dv e ty l (some 0) 0 none)) x → b ∈ blks β ob x) ∧
   (ob.set i (.dv e ty l (some 0) 0 none)).getD i .gone = .dv e ty l (some 0) 0 none := by
 obtain ⟨h1, v, h2, h3, h4⟩ := ze1 hI.obj hv
 have hlt := (List.getElem?_eq_some_iff.1 h1).1
 have hset : (ob.set i (.dv e ty l (some 0) 0 none))[i]? = some (.dv e ty l (some 0) 0 none) := by simp [hlt]
 have hsim : (β i).sim (.deep 0 v []) := by rw [h2]; exact .inr ⟨0, [], rfl⟩
 have hblk : ∀ b, b ∈ (GL.deep 0 v []).blocks → b ∈ blks β ob i := fun b hb => h4 b (by simpa [GL.blocks] using hb)
 refine ⟨v, hI.target hm (fun _ => False) (by simp) (fun x hx => .inl (by simpa using hx)) hset (fun x _ hx _ => hx.elim) (fun x hx hxi _ => by rw [List.getElem?_set_ne (fun e => hxi e.symm)]) (fun _ => hsim) (Same.refl _ _) ⟨rfl, ?_, h3.deep⟩ (fun b hb => ⟨(hI.own i b (hblk b hb)).2.1, .inl ⟨i, .inl rfl, hblk b hb⟩⟩), fun x hx => ?_, fun x b hb => ?_, by rw [List.getD_eq_getElem?_getD, hset]; rfl⟩
 ·simp only [GL.blocks, List.flatMap_nil, List.append_nil]
  exact zj7 v
 ·by_cases e1 : x = i
  ·subst e1; rw [jh]; exact hsim
  ·rw [show upd β i (.deep 0 v []) x = β x from if_neg e1]; exact .refl _
 ·obtain ⟨o, q1, q2, q3⟩ := zj.1 hb
  by_cases e1 : x = i
  ·subst e1
   rw [jh] at q3
   exact hblk b q3
  ·rw [List.getElem?_set_ne (fun e => e1 e.symm)] at q1
   rw [show upd β i (.deep 0 v []) x = β x from if_neg e1] at q3
   exact zj.2 ⟨o, q1, q2, q3⟩
theorem zz3 (hT : z7 P E) (hI : Inv c β S ob w) (hm : c.m0 ≤ ob.length) {t : TypeId} {p q : D} {pv qv : Value} {K : List Ob → List Nat → Option R} {r : R} (h : z28 E ob t p q K = some r) (hp : RelD ob.length β S w p pv) (hq : RelD ob.length β S w q qv)
  {tm : List D} {vs : List Value} (hd : za ob.length β S w tm vs) :
  ∃ ob' fr w', K ob' fr = some r ∧ (Instr.storeAt t pv qv).run P w = .ok () w' ∧ RelF c fr (.skip :: tm) ob' (undef :: vs) w' ∧ Same (fun b => ∃ i, i ∈ rdOf p ∧ b ∈ blks β ob i) w w' := by
 unfold z28 at h
 split at h
 ·rename_i hc
  obtain ⟨hb, hsz, hok⟩ := hc
  have hk : q.known = true := by
   cases q <;> first | rfl | (simp [D.cells, D.cellOk] at hok)
  have hcl := hq.cells hk
  have hcn := za.length hcl
  have hone := za.oneCell hcl (by simpa using hok)
  have hd' : za ob.length β S w (.skip :: tm) (undef :: vs) := ⟨undef, vs, rfl, rfl, hd⟩
  split at h
  ·rename_i i off
   split at h
   ·rename_i t' cs hcs
    split at h
    ·rename_i hle
     obtain ⟨h1, b, us, h2, h3, h4⟩ := z63 hI hcs
     obtain ⟨_, ⟨b', h5, rfl⟩ | ⟨b', u, h5, _⟩⟩ := hp
     ·rw [h2] at h5
      injection h5 with h5
      subst h5
      have hul := za.length h4
      have hle' : off + qv.cells.toList.length ≤ us.length := by omega
      have hrun := zlp hT hb (o := off) (v := qv) h3 (.inl rfl) (by omega) (by simpa using hle') hone
      simp only [List.toList_toArray] at hrun
      refine ⟨_, [], _, h, hrun, ?_, (Same.setRow w b _).mono fun b' _ e => ⟨i, by simp [rdOf], zj.2 ⟨_, h1, rfl, by rw [h2]; simp [GL.blocks, e]⟩⟩⟩
      have hwS := Same.setRow w b (us.take off ++ qv.cells.toList ++ us.drop (off + qv.cells.toList.length)).toArray
      have hSb : ∀ b', S b' → (w.setRow b (us.take off ++ qv.cells.toList ++ us.drop (off + qv.cells.toList.length)).toArray).heap[b']? = w.heap[b']? := fun b' hs => hwS.block b' (hI.imm b' hs) fun e => by
       subst e
       exact (hI.own i b' (zj.2 ⟨_, h1, rfl, by rw [h2]; simp [GL.blocks]⟩)).1 hs
      refine zbl hI hm h1 rfl rfl (hwS.mono fun b' _ e => by rw [h2]; simp [GL.blocks, e]) (by simp [World.setRow]) ?_ hd'
      rw [h2]
      refine ⟨_, setRow_heap w b _ _ t' (0, 0) h3, ?_⟩
      unfold zd9
      rw [hcn]
      exact za.imp (Nat.le_refl _) (fun _ _ => .refl _) (fun _ h => h) hSb _ (za.append (za.append (h4.take off) hcl) (h4.drop _))
     ·rw [h2] at h5; cases h5
    ·cases h
   ·cases h
  ·rename_i i k sz off
   split at h
   ·rename_i mk e ty l hv
    split at h
    ·rename_i hz
     obtain ⟨hz, hoff⟩ := hz
     subst hz
     split at h
     ·rename_i htd
      obtain rfl : mk = false := by
       simp only [toDv, Bool.and_eq_true, Bool.not_eq_true'] at htd
       exact htd.1.2
      obtain ⟨v, t1, t2, t3, t4⟩ := z47 hI hm hv
      have hS0 : ∀ b, S b → w.heap[b]? = w.heap[b]? := fun _ _ => rfl
      obtain ⟨ob', fr, w', g1, g2, g3, g4⟩ := zp0 hT t1 (by simpa using hm) hb hsz (by simpa using RelD.imp (Nat.le_refl _) t2 (fun _ h => h) hS0 _ hq) (by simpa using za.imp (Nat.le_refl _) t2 (fun _ h => h) hS0 _ hcl) hone t4 hoff h (by simpa using RelD.imp (Nat.le_refl _) t2 (fun _ h => h) hS0 _ hp)
       (by simpa using za.imp (Nat.le_refl _) t2 (fun _ h => h) hS0 _ hd')
      exact ⟨ob', fr, w', g1, g2, g3, g4.mono fun b _ ⟨i', h1, h2⟩ => ⟨i', by simpa [rdOf] using h1, t3 _ b h2⟩⟩
     rw [za.length hcl] at hoff
     obtain ⟨x, hx, h⟩ := Option.bind_eq_some_iff.1 h
     obtain ⟨y, hy, h⟩ := Option.bind_eq_some_iff.1 h
     split at h
     ·cases h
     ·rename_i hni
      have hni' : ¬ i ∈ y.2 := by simpa using hni
      obtain ⟨h1, v, h2, ⟨xs, h3, h4, h5⟩, h6⟩ := ze1 hI.obj hv
      obtain ⟨_, g, len, cap, h7, rfl⟩ := hp
      rw [h2] at h7
      injection h7 with h7
      subst h7
      have hkl := (List.getElem?_eq_some_iff.1 hx).1
      obtain ⟨us, h8, h9, h10⟩ := (h5 k x hx).values (n := ob.length) (β := β)
      have hsp : za ob.length β S w (zd9 (ty.cells x) off q.cells) (us.take off ++ qv.cells.toList ++ us.drop (off + qv.cells.toList.length)) := by
       unfold zd9
       rw [hcn]
       exact za.append (za.append (h10.take off) hcl) (h10.drop _)
      obtain ⟨h11, h12⟩ := zgk hI.obj (S' := fun b => S b ∨ ∃ i, i ∈ y.2 ∧ b ∈ blks β ob i) (fun _ h => .inl h) (show ki ob true ty _ [] = some (y.1, y.2) from hy) (fun i hi b hb => .inr ⟨i, hi, hb⟩) hsp
      rcases h3.2 with ⟨hnil, _⟩ | ⟨g', cap', cur, fz, hgv, hg, hfz, hn, hcm, hcs, htk⟩
      ·cases hnil
      ·injection hgv with hgv hgl hgc
       injection hgv with hgv
       injection hgv with hgv
       subst hgv
       subst hgl
       subst hgc
       have hmul := Nat.mul_le_mul_right ty.size (show k + 1 ≤ l.length from hkl)
       have hmul2 := Nat.mul_le_mul_right ty.size hn
       rw [Nat.add_mul] at hmul
       have hin : k * ty.size + off + qv.cells.toList.length ≤ cur.size := by rw [hcs]; omega
       have hrun := zlp hT hb (o := k * ty.size + off) (v := qv) hg (hfz.imp id And.right) (by omega) hin hone
       refine ⟨_, y.2, _, h, hrun, ?_, (Same.setRow w g _).mono fun b' _ e => ⟨i, by simp [rdOf], by rw [e]; exact h6 g (by simp [Value.ownBlock])⟩⟩
       have hwS := Same.setRow w g (cur.toList.take (k * ty.size + off) ++ qv.cells.toList ++ cur.toList.drop (k * ty.size + off + qv.cells.toList.length)).toArray
       have hgb : g ∈ blks β ob i := h6 g (by simp [Value.ownBlock])
       have hSb : ∀ b', (S b' ∨ ∃ i, i ∈ y.2 ∧ b' ∈ blks β ob i) → (w.setRow g (cur.toList.take (k * ty.size + off) ++ qv.cells.toList ++ cur.toList.drop (k * ty.size + off + qv.cells.toList.length)).toArray).heap[b']? = w.heap[b']? := by
        intro b' hs
        have hlt : b' < w.heap.size := by
         rcases hs with hs | ⟨j, _, hj⟩
         ·exact hI.imm b' hs
         ·exact (hI.own j b' hj).2.1
        refine hwS.block b' hlt fun e => ?_
        subst e
        rcases hs with hs | ⟨j, hj, hjb⟩
        ·exact (hI.own i b' hgb).1 hs
        ·exact hI.sep i j b' (fun e => hni' (e ▸ hj)) hgb hjb
       refine z3o hI hm h1 rfl rfl (by simp) hni' (hwS.mono fun b' _ e => by rw [h2]; simp [GL.blocks, Value.ownBlock, e]) (by simp [World.setRow]) ?_ hd'
       rw [h2]
       have hcut : cur.toList.length = cap * ty.size := by simpa using hcs
       have hxl := h3.1
       have hin' : k * ty.size + off + qv.cells.toList.length ≤ cur.toList.length := by simpa using hin
       have hxin : k * ty.size + off + qv.cells.toList.length ≤ xs.length := by omega
       refine ⟨xs.take (k * ty.size + off) ++ qv.cells.toList ++ xs.drop (k * ty.size + off + qv.cells.toList.length), ⟨?_, .inr ⟨g, cap, _, fz, by simp, setRow_heap w g cur _ e fz hg, ?_, by simpa using hn, hcm, ?_, ?_⟩⟩, by simpa using h4, ?_⟩
       ·rw [qj hxin, hxl]; simp
       ·rcases hfz with hfz | hfz
        ·exact .inl hfz
        ·refine .inr ⟨hfz.1, ?_⟩
         rw [List.size_toArray, qj hin']
         simpa using hfz.2
       ·rw [List.size_toArray, qj hin', hcut]
       ·apply List.ext_getElem?
        intro j
        rw [List.length_set, List.getElem?_take]
        simp only [List.toList_toArray]
        rw [xc hin', xc hxin]
        have hxj : ∀ j, xs[j]? = if j < l.length * ty.size then cur.toList[j]? else none := by
         intro j
         rw [← htk, List.getElem?_take]
        rw [hxj j]
        by_cases h13 : j < l.length * ty.size
        ·rw [if_pos h13, if_pos h13]
        ·rw [if_neg h13, if_neg h13, if_neg (by omega)]
       ·intro k' x' hk'
        have hS' := h12
        rw [List.getElem?_set] at hk'
        by_cases e : k = k'
        ·subst e
         rw [if_pos rfl, if_pos hkl] at hk'
         cases hk'
         refine ImmC.congr (fun j hj => ?_) (ImmC.imp (fun _ h => h) hSb h12)
         have hj2 : k * ty.size + j < xs.length := by omega
         rw [xc hxin, xc (by rw [h8]; exact hoff)]
         have hxus : xs[k * ty.size + j]? = us[j]? := h9 j hj
         by_cases h14 : off ≤ j ∧ j < off + qv.cells.toList.length
         ·rw [if_pos h14, if_pos (by omega)]
          congr 1; omega
         ·rw [if_neg h14, if_neg (by omega), hxus]
        ·rw [if_neg e] at hk'
         refine ImmC.congr (fun j hj => ?_) (ImmC.imp (fun _ h => .inl h) (fun b hb => hSb b (.inl hb)) (h5 k' x' hk'))
         have hk'l := (List.getElem?_eq_some_iff.1 hk').1
         have hm1 := Nat.mul_le_mul_right ty.size (show k' + 1 ≤ l.length from hk'l)
         rw [Nat.add_mul] at hm1
         rw [xc hxin, if_neg]
         rcases Nat.lt_or_gt_of_ne e with e1 | e1
         ·have hm2 := Nat.mul_le_mul_right ty.size (show k + 1 ≤ k' from e1)
          rw [Nat.add_mul] at hm2
          omega
         ·have hm2 := Nat.mul_le_mul_right ty.size (show k' + 1 ≤ k from e1)
          rw [Nat.add_mul] at hm2
          omega
    ·cases h
   ·rename_i e ty l own g out hv
    split at h
    ·rename_i hz
     obtain ⟨rfl, hoff⟩ := hz
     exact zp0 hT hI hm hb hsz hq hcl hone hv hoff h hp hd'
    ·cases h
   ·cases h
  ·rename_i i g k sz off m es o
   split at h
   ·rename_i e ty l g' hv
    split at h
    ·rename_i hz
     obtain ⟨rfl, rfl⟩ := hz
     exact zw3 hT hI hm hb hsz hcl hone hv h hp hd'
    ·cases h
   ·cases h
  ·cases h
 ·cases h
/-! -/
theorem z3q (a b : Bs) : ((⟨a.toArray⟩ : ByteArray) == ⟨b.toArray⟩) = (a == b) := by
 show (a.toArray == b.toArray) = (a == b)
 simp
theorem zt3 {et : Ty} {s : Bs} (hs : s.length ≤ maxB) {y : et.T} {v : Value} (hv : v.cells.toList.length = et.size) (hy : ImmC S w et (fun j => v.cells.toList[j]?) y) : ∀ {l : List (Bs × et.T)} {es : List MapEntry} {i : Nat}, zn1 S w .str et l es →
  (Instr.findNow .string (.string ⟨s.toArray⟩) es i = some none ∧ ∀ born, zn1 S w .str et (mput (fun a b => a == b) s y l) (es ++ [⟨.string ⟨s.toArray⟩, v, born⟩])) ∨
  ∃ j e, Instr.findNow .string (.string ⟨s.toArray⟩) es i = some (some (i + j, e.val)) ∧ es[j]? = some e ∧ e.key = .string ⟨s.toArray⟩ ∧ zn1 S w .str et (mput (fun a b => a == b) s y l) (es.modify j fun e => { e with key := .string ⟨s.toArray⟩, val := v })
 | [], es, i, h => by
  obtain rfl : es = [] := h
  exact .inl ⟨rfl, fun born => ⟨_, [], rfl, ⟨⟨rfl, hs⟩, hv, hy⟩, rfl⟩⟩
 | p :: l, es, i, h => by
  obtain ⟨e, r, rfl, h1, h2⟩ := h
  obtain ⟨⟨hk, hkl⟩, h3⟩ := h1
  cases heq : s == p.1 with
  | true =>
   have hsp : s = p.1 := by simpa using heq
   refine .inr ⟨0, e, ?_, rfl, by rw [hk, hsp], ?_⟩
   ·simp [Instr.findNow, hk, Instr.sameNow, z3q, heq]
   ·simp only [mput, heq, cond_true, List.modify_zero_cons]
    exact ⟨_, r, rfl, ⟨⟨rfl, hs⟩, hv, hy⟩, h2⟩
  | false =>
   have hm : mput (fun a b => a == b) s y (p :: l) = p :: mput (fun a b => a == b) s y l := by simp [mput, heq]
   rcases zt3 hs hv hy (i := i + 1) h2 with ⟨g1, g2⟩ | ⟨j, e', g1, g2, g3, g4⟩
   ·refine .inl ⟨?_, fun born => ?_⟩
    ·simp only [Instr.findNow, hk, Instr.sameNow, z3q, heq]
     exact g1
    ·rw [hm]
     exact ⟨e, _, rfl, ⟨⟨hk, hkl⟩, h3⟩, g2 born⟩
   ·refine .inr ⟨j + 1, e', ?_, by simpa using g2, g3, ?_⟩
    ·simp only [Instr.findNow, hk, Instr.sameNow, z3q, heq]
     rw [g1, Nat.add_assoc, Nat.add_comm 1 j]
    ·rw [hm, List.modify_succ_cons]
     exact ⟨e, _, rfl, ⟨⟨hk, hkl⟩, h3⟩, g4⟩
theorem zvs {α β : Type} (eq : α → α → Bool) (k : α) (x : β) : ∀ l : List (α × β), (mput eq k x l).length ≤ l.length + 1
 | [] => by simp [mput]
 | p :: l => by
  simp only [mput]
  cases eq k p.1
  ·simp [zvs eq k x l]
  ·simp
theorem zjd.nil {S : Nat → Prop} {w : World} {b : Nat} {kt t : Ty} (h : w.heap[b]? = some (.map #[] 0)) : zjd S w b kt t [] := by
 unfold zjd
 split
 ·exact ⟨#[], 0, h, [], .refl _, rfl, List.nodup_nil, Nat.zero_le _⟩
 ·exact ⟨⟨#[], 0, h, rfl⟩, Nat.zero_le _⟩
theorem zw4 (hI : Inv c β S ob w) (hm : c.m0 ≤ ob.length) {t : TypeId} {K : D → List Ob → Option R} {r : R} (h : zym E ob t K = some r) {tm : List D} {vs : List Value} (hd : za ob.length β S w tm vs) :
  ∃ d ob' v w', K d ob' = some r ∧ (Instr.makeMap t none).run P w = .ok v w' ∧ Rel c (d :: tm) ob' (v :: vs) w' ∧ Same (fun _ => False) w w' := by
 unfold zym at h
 split at h
 ·split at h
  ·rename_i kt et _ _
   have hw := Same.alloc (fun _ => False) w (.map #[] 0)
   refine ⟨_, _, .map (some w.heap.size), w.alloc (.map #[] 0), h, rfl, ⟨upd β ob.length (.blk w.heap.size), S, hI.push hm hw (fun b hb => ?_) (zjd.nil (heap_alloc_new _ _)), ?_⟩, hw⟩
   ·simp only [GL.blocks, List.mem_singleton] at hb
    subst hb
    simp
   ·rw [List.length_append]
    exact ⟨_, vs, rfl, ⟨by simp, w.heap.size, jh _ _ _, rfl⟩, hd.push hI hw⟩
  ·cases h
 ·cases h
theorem zue (hT : z7 P E) (hI : Inv c β S ob w) (hm : c.m0 ≤ ob.length) {t : TypeId} {i : Nat} {k x : D} {pv kv xv : Value} {K : List Ob → Option R} {r : R} (h : zsr E ob t i k x K = some r) (hp : RelD ob.length β S w (.mapp i) pv) (hk : RelD ob.length β S w k kv) (hx : RelD ob.length β S w x xv)
  {tm : List D} {vs : List Value} (hd : za ob.length β S w tm vs) :
  ∃ ob' w', K ob' = some r ∧ (Instr.mapUpdate t pv kv xv).run P w = .ok () w' ∧ Rel c (.skip :: tm) ob' (undef :: vs) w' ∧ Same (fun b => ∃ j, j ∈ [i] ∧ b ∈ blks β ob j) w w' := by
 have hd' : za ob.length β S w (.skip :: tm) (undef :: vs) := ⟨undef, vs, rfl, rfl, hd⟩
 unfold zsr at h
 split at h
 ·rename_i kt e et l s hu hob
  split at h
  ·rename_i hks
   obtain ⟨y, hy, h⟩ := Option.bind_eq_some_iff.1 h
   obtain ⟨hlt, h⟩ := ya h
   simp only [decide_eq_true_eq] at hlt
   have h1 := getD_some hob (by simp)
   have h2 := hI.obj i _ h1
   obtain ⟨_, b, h3, rfl⟩ := hp
   rw [h3] at h2
   obtain ⟨⟨es, clock, h4, h5⟩, h6⟩ := h2
   obtain ⟨rfl, hsl⟩ := hk
   have hkn : x.known = true := by
    unfold ki at hy
    obtain ⟨z, z1, _⟩ := Option.bind_eq_some_iff.1 hy
    cases x <;> first | rfl | skip
    all_goals
     exfalso
     have hno : ∀ (et : Ty) (d : D) (z : et.T × List D × List Nat), (d = .any ∨ (∃ i ds, d = .yld i ds) ∨ ∃ b ds, d = .nxt b ds) → xn ob false et [d] [] ≠ some z := by
      intro et
      induction et with
      | pair a b iha ihb =>
       intro d z hd hz
       simp only [xn] at hz
       obtain ⟨q, q1, _⟩ := Option.bind_eq_some_iff.1 hz
       exact iha d q hd q1
      | _ =>
       intro d z hd hz
       rcases hd with rfl | ⟨_, _, rfl⟩ | ⟨_, _, rfl⟩ <;> simp [xn, gw] at hz
     exact hno et _ z (by simp) z1
   have hcl := hx.cells hkn
   have hfr0 : y.2 = [] := by
    have hz := hy
    unfold ki at hz
    obtain ⟨z, z1, z2⟩ := Option.bind_eq_some_iff.1 hz
    split at z2
    ·simp only [Option.some.injEq] at z2
     rw [← z2]
     exact zre (show xn ob false et _ [] = some (z.1, z.2.1, z.2.2) from z1) rfl
    ·cases z2
   obtain ⟨hvl, hvi⟩ := zgk hI.obj (S' := S) (fun _ h => h) (show ki ob false et _ [] = some (y.1, y.2) from hy) (fun i hi => by rw [hfr0] at hi; cases hi) hcl
   have hbb : b ∈ blks β ob i := zj.2 ⟨_, h1, rfl, by rw [h3]; simp [GL.blocks]⟩
   have ht := hT.map hu
   have hkt := hT.str hks
   have hwS : ∀ o, Same (fun b' => b' = b) w { w with heap := w.heap.setIfInBounds b o } := fun o =>
    ⟨rfl, rfl, rfl, by simp, fun b' _ hn => (MapKept.heap_set h4).2 b' hn⟩
   have fin : ∀ (es' : Array MapEntry) (clock' : Nat), (Instr.mapUpdate t (.map (some b)) (.string ⟨s.toArray⟩) xv).run P w = .ok () { w with heap := w.heap.setIfInBounds b (.map es' clock') } → zn1 S w .str et (mput (fun a b => a == b) s y.1 l) es'.toList →
     ∃ ob' w', K ob' = some r ∧ (Instr.mapUpdate t (.map (some b)) (.string ⟨s.toArray⟩) xv).run P w = .ok () w' ∧ Rel c (.skip :: tm) ob' (undef :: vs) w' ∧ Same (fun b => ∃ j, j ∈ [i] ∧ b ∈ blks β ob j) w w' := by
    intro es' clock' hrun hents
    have hSb : ∀ b', S b' → ({ w with heap := w.heap.setIfInBounds b (.map es' clock') } : World).heap[b']? = w.heap[b']? := fun b' hs => (hwS _).block b' (hI.imm b' hs) fun e => by
     subst e
     exact (hI.own i b' hbb).1 hs
    refine ⟨_, _, h, hrun, zbl hI hm h1 rfl rfl ((hwS _).mono fun b' _ e => by rw [h3, e]; simp [GL.blocks]) (by simp) ?_ hd', (hwS _).mono fun b' _ e => ⟨i, List.mem_singleton.2 rfl, by rw [e]; exact hbb⟩⟩
    rw [h3]
    exact ⟨⟨es', clock', (MapKept.heap_set h4).1, hents.imp (fun _ h => h) hSb⟩, Nat.le_trans (zvs _ _ _ _) hlt⟩
   rcases zt3 hsl hvl hvi (i := 0) h5 with ⟨g1, g2⟩ | ⟨j, e', g1, g2, g3, g4⟩
   ·refine fin (es.push ⟨.string ⟨s.toArray⟩, xv, clock⟩) (clock + 1) ?_ (by simpa using g2 clock)
    simp [Instr.mapUpdate, run_underlying ht, MapKept.run_getObj_map h4, MapKept.run_checkKey hkt (k := .string ⟨s.toArray⟩) trivial, MapKept.run_findKey hkt g1, MapKept.run_setObj_map _ h4, Result.andThen]
   ·have hj : es[j]? = some e' := by simpa using g2
    rw [Nat.zero_add] at g1
    refine fin (es.modify j fun e => { e with key := .string ⟨s.toArray⟩, val := xv }) clock ?_ (by simpa using g4)
    simp [Instr.mapUpdate, run_underlying ht, MapKept.run_getObj_map h4, MapKept.run_checkKey hkt (k := .string ⟨s.toArray⟩) trivial, MapKept.run_findKey hkt g1, hj, g3, MapKept.run_keyThatStays (d := .string) (k := .string ⟨s.toArray⟩) trivial, MapKept.run_setObj_map _ h4, Result.andThen]
  ·cases h
 ·cases h
/-! -/
theorem zz4 {β : Type} (k : Bs × Bs) (x : β) : ∀ l : List ((Bs × Bs) × β), (insK k x l).Perm ((k, x) :: l)
 | [] => .refl _
 | p :: l => by
  unfold insK
  cases ltK k p.1 with
  | true => exact .refl _
  | false => exact ((zz4 k x l).cons p).trans (.swap _ _ _)
theorem Ent2.append {ik : IntKind} {e : MapEntry} {p : (Bs × Bs) × Int} (he : e.key = .agg #[.string ⟨p.1.1.toArray⟩, .string ⟨p.1.2.toArray⟩] ∧ e.val = .int ik p.2 ∧ Rng ik p.2 ∧ p.1.1.length ≤ maxB ∧ p.1.2.length ≤ maxB) : ∀ {l : List ((Bs × Bs) × Int)} {es : List MapEntry}, Ent2 ik l es → Ent2 ik (l ++ [p]) (es ++ [e])
 | [], es, h => by obtain rfl : es = [] := h; exact ⟨e, [], rfl, he, rfl⟩
 | q :: l, es, h => by obtain ⟨e', r, rfl, h1, h2⟩ := h; exact ⟨e', _, rfl, h1, h2.append he⟩
theorem Ent2.mem {ik : IntKind} {e : MapEntry} : ∀ {l : List ((Bs × Bs) × Int)} {es : List MapEntry}, Ent2 ik l es → e ∈ es → ∃ p, p ∈ l ∧ e.key = .agg #[.string ⟨p.1.1.toArray⟩, .string ⟨p.1.2.toArray⟩] ∧ e.val = .int ik p.2 ∧ Rng ik p.2 ∧ p.1.1.length ≤ maxB ∧ p.1.2.length ≤ maxB
 | [], es, h, he => by obtain rfl : es = [] := h; cases he
 | q :: l, es, h, he => by
  obtain ⟨e', r, rfl, h1, h2⟩ := h
  rcases List.mem_cons.1 he with rfl | he
  ·exact ⟨q, List.mem_cons_self .., h1⟩
  ·obtain ⟨p, hp, h3⟩ := h2.mem he
   exact ⟨p, List.mem_cons_of_mem _ hp, h3⟩
theorem Ent2.mem' {ik : IntKind} {p : (Bs × Bs) × Int} : ∀ {l : List ((Bs × Bs) × Int)} {es : List MapEntry}, Ent2 ik l es → p ∈ l → ∃ e, e ∈ es ∧ e.key = .agg #[.string ⟨p.1.1.toArray⟩, .string ⟨p.1.2.toArray⟩] ∧ e.val = .int ik p.2 ∧ Rng ik p.2 ∧ p.1.1.length ≤ maxB ∧ p.1.2.length ≤ maxB
 | [], es, h, hp => by cases hp
 | q :: l, es, h, hp => by
  obtain ⟨e', r, rfl, h1, h2⟩ := h
  rcases List.mem_cons.1 hp with rfl | hp
  ·exact ⟨e', List.mem_cons_self .., h1⟩
  ·obtain ⟨e, he, h3⟩ := h2.mem' hp
   exact ⟨e, List.mem_cons_of_mem _ he, h3⟩
theorem z3r {x y : Bs × Bs} (h : (Value.agg #[.string ⟨x.1.toArray⟩, .string ⟨x.2.toArray⟩]) = .agg #[.string ⟨y.1.toArray⟩, .string ⟨y.2.toArray⟩]) : x = y := by
 obtain ⟨a, b⟩ := x
 obtain ⟨c, d⟩ := y
 simpa using h
theorem zz5 {β : Type} {k : Bs × Bs} {z : β} : ∀ {l : List ((Bs × Bs) × β)}, (l.map fun p => p.1).Nodup → (∀ p, p ∈ l → p.1 = k → zn0 k z l = p.2) ∧ ((∀ p, p ∈ l → p.1 ≠ k) → zn0 k z l = z)
 | [], _ => ⟨fun p hp => (by cases hp), fun _ => rfl⟩
 | q :: l, h => by
  rw [List.map_cons, List.nodup_cons] at h
  obtain ⟨ih1, ih2⟩ := zz5 (k := k) (z := z) h.2
  refine ⟨fun p hp e => ?_, fun hn => ?_⟩
  ·unfold zn0
   rcases List.mem_cons.1 hp with rfl | hp
   ·rw [show (p.1 == k) = true by simpa using e, cond_true]
   ·have : q.1 ≠ k := fun eq => h.1 (List.mem_map.2 ⟨p, hp, by rw [e, eq]⟩)
    rw [show (q.1 == k) = false by simpa using this, cond_false]
    exact ih1 p hp e
  ·unfold zn0
   rw [show (q.1 == k) = false by simpa using hn q (List.mem_cons_self ..), cond_false]
   exact ih2 fun p hp => hn p (List.mem_cons_of_mem _ hp)
theorem agg2 {n : Nat} {β : Nat → GL} {S : Nat → Prop} {w : World} {a b : Bs} {kv : Value} (h : RelD n β S w (.agg [.str a, .str b]) kv) : kv = .agg #[.string ⟨a.toArray⟩, .string ⟨b.toArray⟩] ∧ a.length ≤ maxB ∧ b.length ≤ maxB := by
 obtain ⟨vs, rfl, h⟩ := h
 obtain ⟨v1, r1, rfl, ⟨rfl, ha⟩, h⟩ := h
 obtain ⟨v2, r2, rfl, ⟨rfl, hb⟩, h⟩ := h
 obtain rfl : r2 = [] := h
 exact ⟨rfl, ha, hb⟩
theorem zx2 {ρ : Operand → D} {op : Op} {K : D → List Ob → List Nat → List Nat → Option R} {r : R} (h : aOpM E ρ ob op K = some r) :
  (∃ t m k x i, op = .insert t m k x ∧ ρ m = .mapp i ∧ zyn E ob t i (ρ k) (ρ x) (fun ob' => K .skip ob' [] [i]) = some r) ∨ ∃ t m k i, op = .lookup t m k false ∧ ρ m = .mapp i ∧ zyo E ob t i (ρ k) (fun d => K d ob [] []) = some r := by
 unfold aOpM at h
 split at h
 ·split at h
  ·rename_i hx
   exact .inl ⟨_, _, _, _, _, rfl, hx, h⟩
  ·cases h
 ·split at h
  ·rename_i hx
   exact .inr ⟨_, _, _, _, rfl, hx, h⟩
  ·cases h
 ·cases h
theorem zyw (hT : z7 P E) (hI : Inv c β S ob w) (hm : c.m0 ≤ ob.length) {t : TypeId} {i : Nat} {k x : D} {pv kv xv : Value} {K : List Ob → Option R} {r : R} (h : zyn E ob t i k x K = some r) (hp : RelD ob.length β S w (.mapp i) pv) (hk : RelD ob.length β S w k kv) (hx : RelD ob.length β S w x xv)
  {tm : List D} {vs : List Value} (hd : za ob.length β S w tm vs) :
  ∃ ob' w', K ob' = some r ∧ (Instr.mapUpdate t pv kv xv).run P w = .ok () w' ∧ Rel c (.skip :: tm) ob' (undef :: vs) w' ∧ Same (fun b => ∃ j, j ∈ [i] ∧ b ∈ blks β ob j) w w' := by
 have hd' : za ob.length β S w (.skip :: tm) (undef :: vs) := ⟨undef, vs, rfl, rfl, hd⟩
 unfold zyn at h
 split at h
 ·rename_i k0 e0 ik l a b ik' n hu hob
  split at h
  ·rename_i hcond
   obtain ⟨hk2, rfl⟩ := hcond
   obtain ⟨hg, h⟩ := ya h
   simp only [Bool.and_eq_true, decide_eq_true_eq, List.all_eq_true, Bool.not_eq_true', beq_eq_false_iff_ne, ne_eq] at hg
   obtain ⟨hlt, hfresh⟩ := hg
   have h1 := getD_some hob (by simp)
   have h2 := hI.obj i _ h1
   obtain ⟨_, b', h3, rfl⟩ := hp
   rw [h3] at h2
   obtain ⟨es, clock, h4, l', q2, q3, q4, q5⟩ : zjd S w b' (.pair .str .str) (.int ik') l := h2
   obtain ⟨rfl, hla, hlb⟩ := agg2 hk
   obtain ⟨rfl, hxr⟩ := hx
   have ht := hT.map hu
   have KL := (hT.keys t hk2).law _ _ ht
   obtain ⟨kl, hkl⟩ := (hT.keys t hk2).is _ _ ht a b hla hlb
   have hbb : b' ∈ blks β ob i := zj.2 ⟨_, h1, rfl, by rw [h3]; simp [GL.blocks]⟩
   have hwS : ∀ o, Same (fun b => b = b') w { w with heap := w.heap.setIfInBounds b' o } := fun o =>
    ⟨rfl, rfl, rfl, by simp, fun b _ hn => (MapKept.heap_set h4).2 b hn⟩
   have hfind : (Instr.findKey k0 (.agg #[.string ⟨a.toArray⟩, .string ⟨b.toArray⟩]) es.toList).run P w = .ok none w := by
    rcases KL.find w hkl es.toList (fun e he => by
     obtain ⟨p, _, hk, _, _, hp1, hp2⟩ := q3.mem he
     rw [hk]
     exact (hT.keys t hk2).is _ _ ht _ _ hp1 hp2) with ⟨h1, _⟩ | ⟨j, e, _, h2, h3⟩
    ·exact h1
    ·obtain ⟨p, hp, hk, _⟩ := q3.mem (List.mem_of_getElem? h2)
     rw [hk] at h3
     exact absurd (z3r (x := p.1) (y := (a, b)) h3) (hfresh p (q2.mem_iff.1 hp))
   have hSb : ∀ bb, S bb → ({ w with heap := w.heap.setIfInBounds b' (.map (es.push ⟨.agg #[.string ⟨a.toArray⟩, .string ⟨b.toArray⟩], .int ik' n, clock⟩) (clock + 1)) } : World).heap[bb]? = w.heap[bb]? := fun bb hs => (hwS _).block bb (hI.imm bb hs) fun e => by
    subst e
    exact (hI.own i bb hbb).1 hs
   refine ⟨_, { w with heap := w.heap.setIfInBounds b' (.map (es.push ⟨.agg #[.string ⟨a.toArray⟩, .string ⟨b.toArray⟩], .int ik' n, clock⟩) (clock + 1)) }, h, ?_, zbl hI hm h1 rfl rfl ((hwS _).mono fun bb _ e => by rw [h3, e]; simp [GL.blocks]) (by simp) ?_ hd', (hwS _).mono fun bb _ e => ⟨i, List.mem_singleton.2 rfl, by rw [e]; exact hbb⟩⟩
   ·simp [Instr.mapUpdate, run_underlying ht, MapKept.run_getObj_map h4, KL.check w _ hkl, hfind, MapKept.run_setObj_map _ h4, Result.andThen]
   ·rw [h3]
    have hpm : (insK (a, b) n l).Perm (((a, b), n) :: l) := zz4 _ _ _
    show zjd S _ b' (.pair .str .str) (.int ik') (insK (a, b) n l)
    refine ⟨es.push ⟨.agg #[.string ⟨a.toArray⟩, .string ⟨b.toArray⟩], .int ik' n, clock⟩, clock + 1, (MapKept.heap_set h4).1, l' ++ [((a, b), n)], ?_, ?_, ?_, ?_⟩
    ·exact (List.perm_append_comm.trans (q2.cons _)).trans hpm.symm
    ·rw [Array.toList_push]
     exact q3.append ⟨rfl, rfl, hxr, hla, hlb⟩
    ·refine ((hpm.map fun p => p.1).nodup_iff).2 ?_
     rw [List.map_cons, List.nodup_cons]
     refine ⟨fun hmem => ?_, q4⟩
     obtain ⟨p, hp, e⟩ := List.mem_map.1 hmem
     exact hfresh p hp e
    ·rw [hpm.length_eq, List.length_cons]; exact hlt
  ·cases h
 ·cases h
theorem zyx (hT : z7 P E) (hI : Inv c β S ob w) {t : TypeId} {i : Nat} {k : D} {pv kv : Value} {K : D → Option R} {r : R} (h : zyo E ob t i k K = some r) (hp : RelD ob.length β S w (.mapp i) pv) (hk : RelD ob.length β S w k kv) :
  ∃ d v, K d = some r ∧ (Instr.lookup t pv kv false).run P w = .ok v w ∧ RelD ob.length β S w d v := by
 unfold zyo at h
 split at h
 ·rename_i k0 e0 ik l a b hu hob
  split at h
  ·rename_i ik' hie
   split at h
   ·rename_i hcond
    obtain ⟨hk2, rfl⟩ := hcond
    have h1 := getD_some hob (by simp)
    have h2 := hI.obj i _ h1
    obtain ⟨_, b', h3, rfl⟩ := hp
    rw [h3] at h2
    obtain ⟨es, clock, h4, l', q2, q3, q4, q5⟩ : zjd S w b' (.pair .str .str) (.int ik') l := h2
    obtain ⟨rfl, hla, hlb⟩ := agg2 hk
    have ht := hT.map hu
    have KL := (hT.keys t hk2).law _ _ ht
    obtain ⟨kl, hkl⟩ := (hT.keys t hk2).is _ _ ht a b hla hlb
    obtain ⟨inf, hi1, hi2⟩ := (hT.keys t hk2).zero _ _ _ ht (hT.int hie)
    have hz : (zeroValue e0).run P w = .ok (.int ik' 0) w := by
     simp only [zeroValue, typeInfo, Sem.run_bind, run_program, Result.andThen_ok, hi1, Sem.run_pure, hi2]
    have hmg := zz5 (k := (a, b)) (z := (0 : Int)) q4
    rcases KL.find w hkl es.toList (fun e he => by
     obtain ⟨p, _, hk, _, _, hp1, hp2⟩ := q3.mem he
     rw [hk]
     exact (hT.keys t hk2).is _ _ ht _ _ hp1 hp2) with ⟨g1, g2⟩ | ⟨j, e, g1, g2, g3⟩
    ·refine ⟨_, .int ik' 0, h, by simp [Instr.lookup, run_underlying ht, MapKept.run_getObj_map h4, KL.check w _ hkl, g1, hz, Result.andThen], ?_⟩
     rw [hmg.2 fun p hp e => ?_]
     ·exact ⟨rfl, by cases ik' <;> rfl⟩
     ·obtain ⟨e', he', hk', _⟩ := q3.mem' (q2.mem_iff.2 hp)
      rw [e] at hk'
      exact g2 e' he' hk'
    ·obtain ⟨p, hp, hk', hv, hr, _, _⟩ := q3.mem (List.mem_of_getElem? g2)
     rw [hk'] at g3
     have hpe := z3r (x := p.1) (y := (a, b)) g3
     refine ⟨_, .int ik' p.2, h, by simp [Instr.lookup, run_underlying ht, MapKept.run_getObj_map h4, KL.check w _ hkl, g1, hv, Result.andThen], ?_⟩
     rw [hmg.1 p (q2.mem_iff.1 hp) hpe]
     exact ⟨rfl, hr⟩
   ·cases h
  ·cases h
 ·cases h
/-! -/
theorem Inv.move (hI : Inv c β S ob w) (hm : c.m0 ≤ ob.length) {i : Nat} {o o' : Ob} {g : GL} (hi : ob[i]? = some o) (hl : o.live = true) (hw : Same (fun b => b ∈ (β i).blocks) w w')
  (hb : ∀ b, b ∈ g.blocks → (b ∈ (β i).blocks ∨ w.heap.size ≤ b) ∧ b < w'.heap.size) (ho : RelO (ob.length + 1) (upd β ob.length g) S w' g o') : Inv c (upd β ob.length g) S (ob.set i .gone ++ [o']) w' := by
 have hlt := (List.getElem?_eq_some_iff.1 hi).1
 have hbl : blks β ob i = (β i).blocks := by simp [blks, hi, hl]
 have hlast : ∀ {j : Nat} {q : Ob}, (ob.set i .gone ++ [o'])[j]? = some q → (j = i ∨ ob.length ≤ j) → (j = i ∧ q = .gone) ∨ (j = ob.length ∧ q = o') := by
  intro j q hj hx
  rcases hx with rfl | hx
  ·rw [List.getElem?_append_left (by simpa using hlt), List.getElem?_set_self hlt] at hj
   cases hj; exact .inl ⟨rfl, rfl⟩
  ·have : j = ob.length := by have := (List.getElem?_eq_some_iff.1 hj).1; simp at this; omega
   subst this
   rw [List.getElem?_append_right (by simp)] at hj
   simp at hj
   exact .inr ⟨rfl, hj.symm⟩
 have hbk : ∀ {j b : Nat}, b ∈ blks (upd β ob.length g) (ob.set i .gone ++ [o']) j → (j = i ∨ ob.length ≤ j) → j = ob.length ∧ b ∈ g.blocks := by
  intro j b hb hx
  obtain ⟨q, h1, h2, h3⟩ := zj.1 hb
  rcases hlast h1 hx with ⟨rfl, rfl⟩ | ⟨rfl, rfl⟩
  ·cases h2
  ·rw [jh] at h3; exact ⟨rfl, h3⟩
 refine hI.step (fun j => j = i) (hw.mono fun b _ hb => ⟨i, rfl, hbl ▸ hb⟩) (by simp) (fun j hj hn => by rw [List.getElem?_append_left (by simpa using hj), List.getElem?_set_ne (fun e => hn e.symm)]) (fun j hj => zri hj) (fun _ h => h) (fun b hb => .inl hb) (fun j q hj hx => ?_) (fun j b hx hj => ?_)
  (fun j k b hjk hx hy hj hk => ?_) hm
 ·rcases hlast hj hx with ⟨rfl, rfl⟩ | ⟨rfl, rfl⟩
  ·cases upd β ob.length g j <;> trivial
  ·rw [jh]; simpa using ho
 ·obtain ⟨rfl, h1⟩ := hbk hj hx
  obtain ⟨h2, h3⟩ := hb b h1
  refine ⟨fun hs => ?_, h3, ?_⟩
  ·rcases h2 with h2 | h2
   ·exact (hI.own i b (hbl ▸ h2)).1 hs
   ·have := hI.imm b hs; omega
  ·rcases h2 with h2 | h2
   ·exact .inl ⟨i, rfl, hbl ▸ h2⟩
   ·exact .inr h2
 ·obtain ⟨rfl, _⟩ := hbk hj hx
  obtain ⟨rfl, _⟩ := hbk hk hy
  exact hjk rfl
theorem zyy (hI : Inv c β S ob w) (hm : c.m0 ≤ ob.length) {i : Nat} {o o' : Ob} {v : Value} (hi : ob[i]? = some o) (hl : o.live = true) (hw : Same (fun b => b ∈ (β i).blocks) w w')
  (hb : ∀ b, b ∈ v.ownBlock.toList → (b ∈ (β i).blocks ∨ w.heap.size ≤ b) ∧ b < w'.heap.size) (ho : RelO (ob.length + 1) (upd β ob.length (.row v)) S w' (.row v) o') (hv : ∃ A l c, v = .slice A l c) {tm : List D} {vs : List Value} (hd : za ob.length β S w tm vs) :
  Rel c (.vec ob.length :: tm) (ob.set i .gone ++ [o']) (v :: vs) w' := by
 refine ⟨_, S, hI.move (g := .row v) hm hi hl hw hb ho, ?_⟩
 rw [List.length_append, List.length_set]
 refine ⟨v, vs, rfl, ⟨by simp, by rw [jh]; rfl, hv⟩, za.imp (by simp) (fun i hi => .of_eq (zri hi)) (fun _ h => h) (fun b hb => hw.block b (hI.imm b hb) fun hx => ?_) tm hd⟩
 exact (hI.own i b (zj.2 ⟨o, hi, hl, hx⟩)).1 hb
theorem zlq (hI : Inv c β S ob w) (hm : c.m0 ≤ ob.length) {o' : Ob} {v : Value} (hw : Same (fun _ => False) w w')
  (hb : ∀ b, b ∈ v.ownBlock.toList → w.heap.size ≤ b ∧ b < w'.heap.size) (ho : RelO (ob.length + 1) (upd β ob.length (.row v)) S w' (.row v) o') (hv : ∃ A l c, v = .slice A l c) {tm : List D} {vs : List Value} (hd : za ob.length β S w tm vs) :
  Rel c (.vec ob.length :: tm) (ob ++ [o']) (v :: vs) w' := by
 refine ⟨_, S, hI.push (g := .row v) hm hw hb ho, ?_⟩
 rw [List.length_append]
 exact ⟨v, vs, rfl, ⟨by simp, by rw [jh]; rfl, hv⟩, hd.push hI hw⟩
theorem zvt {t : Ty} {l l' : List t.T} {xs ys : List Value} (hx : xs.length = l.length * t.size) (h : ∀ (k : Nat) (x : t.T), l[k]? = some x → ImmC S w t (fun j => xs[k * t.size + j]?) x) (h' : ∀ (k : Nat) (x : t.T), l'[k]? = some x → ImmC S w t (fun j => ys[k * t.size + j]?) x) :
  ∀ (k : Nat) (x : t.T), (l ++ l')[k]? = some x → ImmC S w t (fun j => (xs ++ ys)[k * t.size + j]?) x := by
 intro k x hk
 by_cases hlt : k < l.length
 ·rw [List.getElem?_append_left hlt] at hk
  refine ImmC.congr (fun j hj => ?_) (h k x hk)
  have := Nat.mul_le_mul_right t.size (show k + 1 ≤ l.length from hlt)
  rw [Nat.add_mul] at this
  rw [List.getElem?_append_left (by omega)]
 ·rw [List.getElem?_append_right (by omega)] at hk
  refine ImmC.congr (fun j hj => ?_) (h' _ x hk)
  have e : k * t.size = l.length * t.size + (k - l.length) * t.size := by rw [← Nat.add_mul]; congr 1; omega
  rw [List.getElem?_append_right (by omega)]
  congr 1; omega
theorem zp1 (hT : z7 P E) (hI : Inv c β S ob w) (hm : c.m0 ≤ ob.length) {t ty : TypeId} {p q : D} {pv qv : Value} {K : D → List Ob → Option R} {r : R} (h : zu5 E ob t p q K = some r) (hp : RelD ob.length β S w p pv) (hq : RelD ob.length β S w q qv)
  {tm : List D} {vs : List Value} (hd : za ob.length β S w tm vs) :
  ∃ d ob' v w', K d ob' = some r ∧ (Builtin.append_ #[t, t] ty #[pv, qv]).run P w = .ok v w' ∧ Rel c (d :: tm) ob' (v :: vs) w' ∧ Same (fun b => ∃ i, i ∈ zvc p ∧ b ∈ blks β ob i) w w' := by
 unfold zu5 at h
 split at h
 ·rename_i e hu
  split at h
  ·rename_i y hy
   obtain ⟨news, hnews, h⟩ := Option.bind_eq_some_iff.1 h
   obtain ⟨hu1, hu2⟩ := hT.slice hu
   obtain ⟨_, hys, hyb, hyz⟩ := hT.tyOf hy
   obtain ⟨it, z, hi1, hi2, hi3, hi4, hi5⟩ := hT.info hu2
   obtain ⟨A, cap, cs, rfl, hn1, hn2, hn3, hn4, hn5, hn6⟩ := zrh hI hnews hq

   have law : ∀ (v : Value) (l : List y.T) (xs : List Value), w.ownsRow 0 e y.size v l.length xs → (l.length + news.length) * (E.ti e).bytes ≤ maxB →
     ∃ v' w', (Builtin.append_ #[t, t] ty #[v, .slice A news.length cap]).run P w = .ok v' w' ∧ w'.ownsRow 0 e y.size v' (l.length + news.length) (xs ++ cs) ∧ w.grownBy w' v.ownBlock ∧ (v'.ownBlock = v.ownBlock ∨ v'.ownBlock = some w.heap.size) := by
    intro v l xs hown hfit
    cases A with
    | none =>
     have h0 := hn2 rfl
     subst h0
     have hz : news.length = 0 ∨ 0 < news.length := by omega
     have hnl : news = [] := by
      cases news with
      | nil => rfl
      | cons x _ =>
       have := zln hI hnews hq
       obtain ⟨A, cap, h1, h2, _⟩ := this
       simp only [Option.some.injEq] at h1
       injection h1 with _ _ h1
       subst h1
       simp at h2
     subst hnl
     have hcs : cs = [] := List.eq_nil_of_length_eq_zero (by simpa using hn3)
     subst hcs
     refine ⟨v, w, ?_, by simpa using hown, ⟨rfl, rfl, rfl, Nat.le_refl _, fun _ _ _ => rfl⟩, .inl rfl⟩
     simpa using run_append_owned_none (P := P) w 0 t ty e it y.size hu1 hi1 v l.length xs hown
    | some ad =>
     have hb1 : l.length + news.length ≤ maxB := Nat.le_trans (Nat.le_mul_of_pos_right _ hyb) hfit
     obtain ⟨v', w', h1, h2, h3, _, h4⟩ := run_append_own_at (P := P) w 0 t ty e it z y.size (E.ti e).bytes hu1 hi1 hi2 (by rw [hi4, hys]) hi5 (by rw [← Array.length_toList, hi3, hyz, hys]) y.size_pos
      v l.length xs hown ad news.length cap cs hn3 (hn5 ad rfl) hn4 (by simp only [maxB, maxLen] at *; omega) (by simpa [maxB] using hfit) (Nat.zero_le _)
     exact ⟨v', w', h1, h2, h3, h4⟩
   have shape : ∀ {v : Value} {n : Nat} {xs : List Value} {w : World}, w.ownsRow 0 e y.size v n xs → ∃ A l c, v = .slice A l c := by
    intro v n xs w hown
    rcases hown.2 with ⟨rfl, _⟩ | ⟨g, cap, cur, rfl, _⟩ <;> exact ⟨_, _, _, rfl⟩
   have blocks : ∀ {v : Value} {n : Nat} {xs : List Value} {w : World}, w.ownsRow 0 e y.size v n xs → ∀ b, b ∈ v.ownBlock.toList → b < w.heap.size := by
    intro v n xs w hown b hb
    exact (hown.lt b (by simpa using hb)).2
   have h63 : ∀ {n : Nat}, n * (E.ti e).bytes ≤ maxB → n ≤ maxB := fun h => Nat.le_trans (Nat.le_mul_of_pos_right _ hyb) h
   split at h
   ·obtain ⟨hb, h⟩ := ya h
    simp only [fits, decide_eq_true_eq] at hb
    obtain rfl : pv = _ := hp
    obtain ⟨v', w', h1, h2, h3, h4⟩ := law (.slice none 0 0) [] [] (World.ownsRow_nil w 0 e y.size) (by simpa using hb)
    simp only [List.length_nil, Nat.zero_add, List.nil_append] at h2
    refine ⟨_, _, v', w', h, h1, zlq (o' := .vec false e y news) hI hm ((Same.of_grown h3).mono fun _ _ h => (nomatch h)) (fun b hb => ⟨?_, blocks h2 b hb⟩) ⟨cs, ze0.of_own h2, h63 hb, fun k x hk => ImmC.imp (fun _ h => h) (fun b hb => h3.block b (hI.imm b hb) (by simp [Value.ownBlock])) (hn6 k x hk)⟩ (shape h2) hd, (Same.of_grown h3).mono fun _ _ h => (nomatch h)⟩
    rcases h4 with h4 | h4 <;> rw [h4] at hb
    ·simp [Value.ownBlock] at hb
    ·simp at hb; omega
   ·split at h
    ·rename_i e' t' l hv
     split at h
     ·rename_i ht
      subst ht
      split at h
      ·rename_i he
       obtain ⟨rfl, hother⟩ := he
       obtain ⟨hb, h⟩ := ya h
       simp only [fits, decide_eq_true_eq] at hb
       obtain ⟨h1, v, h2, ⟨xs, h3, h4, h5⟩, h6⟩ := ze1 hI.obj hv
       obtain ⟨h7, h8, _⟩ := hp
       rw [h2] at h8
       injection h8 with h8
       subst h8
       obtain ⟨v', w', h9, h10, h11, h12⟩ := law v l xs h3.own hb
       have hSw : ∀ b, S b → w'.heap[b]? = w.heap[b]? := fun b hb => h11.block b (hI.imm b hb) fun e => (hI.own _ b (h6 b (by rw [← e]; simp))).1 hb
       refine ⟨_, _, v', w', h, h9, zyy (o' := .vec false _ t' (l ++ news)) hI hm h1 rfl ((Same.of_grown h11).mono fun b _ e => by rw [h2]; simp [GL.blocks, e]) (fun b hb => ⟨?_, blocks h10 b hb⟩) ⟨xs ++ cs, ?_, ?_, ?_⟩ (shape h10) hd, (Same.of_grown h11).mono fun b _ e => ⟨_, List.mem_singleton.2 rfl, h6 b (by rw [e]; simp)⟩⟩
       ·rcases h12 with h12 | h12 <;> rw [h12] at hb
        ·left; rw [h2]; exact hb
        ·right; simp at hb; omega
       ·have := ze0.of_own h10
        rw [List.length_append]; exact this
       ·rw [List.length_append]; exact h63 hb
       ·exact fun k x hk => ImmC.imp (fun _ h => h) hSw (zvt h3.1 h5 hn6 k x hk)
      ·cases h
     ·cases h
    ·cases h
   ·cases h
  ·cases h
 ·cases h
theorem zrk {Q : Type} (hI : Inv c β S ob w) (hm : c.m0 ≤ ob.length) {d : D} {v : Value} {K : List Ob → Option Q} {r : Q} (h : zyk ob d K = some r) (hd : RelD ob.length β S w d v) :
  ∃ ob1 β1, K ob1 = some r ∧ ob1.length = ob.length + 1 ∧ Inv c β1 S ob1 w ∧ (∀ i, i < ob.length → (β i).sim (β1 i)) ∧ RelD (ob.length + 1) β1 S w (.vec ob.length) v ∧
   (∀ j b, b ∈ blks β1 ob1 j → (j < ob.length ∧ b ∈ blks β ob j) ∨ (j = ob.length ∧ ∃ i, i ∈ zvc d ∧ b ∈ blks β ob i)) := by
 cases d <;> simp only [zyk, reduceCtorEq] at h
 rename_i i g k sz off
 split at h
 ·rename_i e ty l g' hv
  split at h
  ·rename_i hg
   obtain ⟨rfl, rfl⟩ := hg
   obtain ⟨x, hx, h⟩ := Option.bind_eq_some_iff.1 h
   split at h
   ·rename_i e' t' lst hc
    have hleaf : zzn ob i g' k ty.size off = some (.isl e' t' lst) := by
     unfold zzn
     rw [hv]
     simp [hx, hc]
    obtain ⟨e0, t0, l0, v0, hs, u, h1, h2, hsz, hoff, hmask, h3, h4, h5⟩ := ze8 hI.obj hleaf
    obtain ⟨h6, v1, hs1, h7, h8, h9, h10⟩ := obDv hI.obj hv
    rw [h2] at h7
    injection h7 with _ h7 h7'
    subst h7 h7'
    obtain ⟨h11, _, g2, u2, hs2, h12, h13, h14⟩ := hd
    rw [h2] at h12
    injection h12 with h12 h15 h16
    subst h12 h16
    have h17 := (h14 rfl).1
    rw [h3] at h17
    injection h17 with h17
    subst h17
    have hoff' : off < ty.size := by rw [← Ty.cells_length ty x]; exact (List.getElem?_eq_some_iff.1 hc).1
    let hs' := hs.filter fun q => q.1 != k * ty.size + off
    have hmem := ze7 h3
    have hsub : ∀ b, b ∈ (GL.deep (g' + 1) v0 hs').blocks → b ∈ (GL.deep g' v0 hs).blocks ∧ b ∉ u.ownBlock.toList := by
     intro b hb
     simp only [GL.blocks] at hb h8 ⊢
     rw [List.nodup_append] at h8
     rcases List.mem_append.1 hb with hb | hb
     ·exact ⟨List.mem_append_left _ hb, fun hx => h8.2.2 b hb b (List.mem_flatMap.2 ⟨_, hmem, hx⟩) rfl⟩
     ·obtain ⟨q, hq, hqb⟩ := List.mem_flatMap.1 hb
      obtain ⟨hq1, hq2⟩ := List.mem_filter.1 hq
      refine ⟨List.mem_append_right _ (List.mem_flatMap.2 ⟨q, hq1, hqb⟩), fun hx => ?_⟩
      exact zvq (fun h : Nat × Value => h.2.ownBlock.toList) h8.2.1 q (k * ty.size + off, u) hq1 hmem (fun e => by rw [e] at hq2; simp at hq2) b hqb hx
    have hnd : (GL.deep (g' + 1) v0 hs').blocks.Nodup := by
     simp only [GL.blocks] at h8 ⊢
     refine List.Nodup.sublist (List.Sublist.append (List.Sublist.refl _) ?_) h8
     exact zg9 _ List.filter_sublist
    have hlt : i < ob.length := h11
    have hget : ∀ j, (ob.set i (.dv e ty l none (g' + 1) (some (k, off))) ++ [.vec false e' t' lst])[j]? = if j = i then some (.dv e ty l none (g' + 1) (some (k, off))) else if j = ob.length then some (.vec false e' t' lst) else ob[j]? := by
     intro j
     by_cases hji : j = i
     ·subst hji
      rw [if_pos rfl, List.getElem?_append_left (by simpa using hlt), List.getElem?_set_self hlt]
     ·rw [if_neg hji]
      by_cases hjl : j = ob.length
      ·subst hjl
       rw [if_pos rfl, List.getElem?_append_right (by simp)]
       simp
      ·rw [if_neg hjl]
       rcases Nat.lt_or_ge j ob.length with h | h
       ·rw [List.getElem?_append_left (by simpa using h), List.getElem?_set_ne (fun e => hji e.symm)]
       ·rw [List.getElem?_eq_none (by simp; omega), List.getElem?_eq_none h]
    let β1 : Nat → GL := fun j => if j = i then .deep (g' + 1) v0 hs' else if j = ob.length then .row u else β j
    have b1 : β1 i = .deep (g' + 1) v0 hs' := if_pos rfl
    have b2 : β1 ob.length = .row u := by show (if _ then _ else _) = _; rw [if_neg (by omega), if_pos rfl]
    have b3 : ∀ j, j < ob.length → j ≠ i → β1 j = β j := fun j hj hn => by show (if _ then _ else _) = _; rw [if_neg hn, if_neg (by omega)]
    have bi : blks β ob i = (GL.deep g' v0 hs).blocks := by simp [blks, h1, Ob.live, h2]
    have hbl : ∀ j b, (j = i ∨ ob.length ≤ j) → b ∈ blks β1 (ob.set i (.dv e ty l none (g' + 1) (some (k, off))) ++ [.vec false e' t' lst]) j → (j = i ∧ b ∈ (GL.deep (g' + 1) v0 hs').blocks) ∨ (j = ob.length ∧ b ∈ u.ownBlock.toList) := by
     intro j b hj hb
     obtain ⟨o, q1, q2, q3⟩ := zj.1 hb
     rw [hget] at q1
     rcases hj with rfl | hj
     ·rw [b1] at q3; exact .inl ⟨rfl, q3⟩
     ·by_cases hjl : j = ob.length
      ·subst hjl; rw [b2] at q3; exact .inr ⟨rfl, q3⟩
      ·rw [if_neg (by omega), if_neg hjl, List.getElem?_eq_none hj] at q1; cases q1
    have hvb : ∀ b, b ∈ u.ownBlock.toList → b ∈ blks β ob i := h5
    refine ⟨_, β1, h, by simp, hI.stepS (fun j => j = i) (Same.refl _ _) (by simp) (fun j hj hn => ?_) (fun j hj => ?_) (fun j hj hn => b3 j hj hn) (fun _ h => h) (fun b hb => .inl hb) (fun j o ho hx => ?_) (fun j b hx hb => ?_) (fun j j' b hjj hx hx' hb hb' => ?_) hm, fun j hj => ?_, ⟨by omega, by rw [b2]; rfl, h4.isSlice⟩, fun j b hb => ?_⟩
    ·rw [hget, if_neg hn, if_neg (by omega)]
    ·by_cases e1 : j = i
     ·subst e1; rw [h2, b1]; exact ⟨_, _, rfl, Nat.le_succ _, fun e => by omega⟩
     ·rw [b3 j hj e1]; exact .refl _
    ·rw [hget] at ho
     rcases hx with rfl | hx
     ·rw [if_pos rfl] at ho
      cases ho
      rw [b1]
      refine ⟨rfl, hnd, ?_⟩
      obtain ⟨xs, p1, p2, p3⟩ := h9
      refine ⟨xs, p1, p2, fun k' x' hk' j' hj' hno => ?_⟩
      obtain ⟨d0, u0, p4, p5, p6⟩ := p3 k' x' hk' j' hj' (by simp)
      refine ⟨d0, u0, p4, p5, ?_⟩
      cases ho2 : wn ty none k' j' with
      | false => rw [ho2] at p6; exact p6
      | true =>
       rw [ho2] at p6
       have hm2 : ty.mask.getD j' false = true := by
        unfold wn at ho2
        simpa using ho2
       have hne : k' * ty.size + j' ≠ k * ty.size + off := fun e => by
        obtain ⟨rfl, rfl⟩ := z1y hj' hoff' e
        exact hno ⟨rfl, hm2⟩
       exact ⟨by rw [zgl hne]; exact p6.1, p6.2⟩
     ·by_cases hjl : j = ob.length
      ·subst hjl
       rw [if_neg (by omega), if_pos rfl] at ho
       cases ho
       rw [b2]
       exact h4
      ·rw [if_neg (by omega), if_neg hjl, List.getElem?_eq_none hx] at ho; cases ho
    ·rcases hbl j b hx hb with ⟨_, q⟩ | ⟨_, q⟩
     ·have := (hsub b q).1
      rw [← bi] at this
      exact ⟨(hI.own i b this).1, (hI.own i b this).2.1, .inl ⟨i, rfl, this⟩⟩
     ·have := hvb b q
      exact ⟨(hI.own i b this).1, (hI.own i b this).2.1, .inl ⟨i, rfl, this⟩⟩
    ·rcases hbl j b hx hb with ⟨e1, q⟩ | ⟨e1, q⟩ <;> rcases hbl j' b hx' hb' with ⟨e2, q'⟩ | ⟨e2, q'⟩
     ·exact hjj (e1.trans e2.symm)
     ·exact (hsub b q).2 q'
     ·exact (hsub b q').2 q
     ·exact hjj (e1.trans e2.symm)
    ·by_cases e1 : j = i
     ·subst e1; rw [h2, b1]; exact ⟨_, _, rfl, Nat.le_succ _, fun e => by omega⟩
     ·rw [b3 j hj e1]; exact .refl _
    ·by_cases hx : j = i ∨ ob.length ≤ j
     ·rcases hbl j b hx hb with ⟨e1, q⟩ | ⟨e1, q⟩
      ·left
       subst e1
       exact ⟨hlt, by rw [bi]; exact (hsub b q).1⟩
      ·exact .inr ⟨e1, i, List.mem_singleton.2 rfl, hvb b q⟩
     ·left
      have hjl : j < ob.length := by omega
      refine ⟨hjl, ?_⟩
      obtain ⟨o, q1, q2, q3⟩ := zj.1 hb
      rw [hget, if_neg (fun e => hx (.inl e)), if_neg (by omega)] at q1
      rw [b3 j hjl (fun e => hx (.inl e))] at q3
      exact zj.2 ⟨o, q1, q2, q3⟩
   ·cases h
  ·cases h
 ·cases h
theorem zpd : ∀ (t : Ty) (x : t.T), (t.cells x).all D.cellOk = true
 | .pair a b, x => by simp only [Ty.cells, List.all_append, Bool.and_eq_true]; exact ⟨zpd a x.1, zpd b x.2⟩
 | .int _, x => rfl
 | .bool, x => rfl
 | .str, x => rfl
 | .slice _ _, x => rfl
 | .err, x => rfl
 | .eint _ _, x => rfl
theorem z2o (hT : z7 P E) {t ty e : TypeId} {y : Ty} (hu : (E.ti t).und = .slice e) (hy : (E.ti e).ty = some y) {v : Value} {n m cap : Nat} {A : Option Addr} {xs cs : List Value} (hown : w.ownsRow 0 e y.size v n xs) (hn : A = none → cap = 0 ∧ m = 0) (hcl : cs.length = m * y.size)
  (hcell : ∀ ad, A = some ad → ∀ (j : Nat) (u : Value), cs[j]? = some u → w.cell? (ad.add j) = some u) (hone : ∀ u, u ∈ cs → u.oneCell' = true) (hfit : (n + m) * (E.ti e).bytes ≤ maxB) :
  ∃ v' w', (Builtin.append_ #[t, t] ty #[v, .slice A m cap]).run P w = .ok v' w' ∧ w'.ownsRow 0 e y.size v' (n + m) (xs ++ cs) ∧ w.grownBy w' v.ownBlock ∧ (v'.ownBlock = v.ownBlock ∨ v'.ownBlock = some w.heap.size) := by
 obtain ⟨hu1, hu2⟩ := hT.slice hu
 obtain ⟨_, hys, hyb, hyz⟩ := hT.tyOf hy
 obtain ⟨it, z, hi1, hi2, hi3, hi4, hi5⟩ := hT.info hu2
 cases A with
 | none =>
  obtain ⟨rfl, rfl⟩ := hn rfl
  have hcs : cs = [] := List.eq_nil_of_length_eq_zero (by simpa using hcl)
  subst hcs
  refine ⟨v, w, ?_, by simpa using hown, ⟨rfl, rfl, rfl, Nat.le_refl _, fun _ _ _ => rfl⟩, .inl rfl⟩
  simpa using run_append_owned_none (P := P) w 0 t ty e it y.size hu1 hi1 v n xs hown
 | some ad =>
  have hb1 : n + m ≤ maxB := Nat.le_trans (Nat.le_mul_of_pos_right _ hyb) hfit
  obtain ⟨v', w', h1, h2, h3, _, h4⟩ := run_append_own_at (P := P) w 0 t ty e it z y.size (E.ti e).bytes hu1 hi1 hi2 (by rw [hi4, hys]) hi5 (by rw [← Array.length_toList, hi3, hyz, hys]) y.size_pos
   v n xs hown ad m cap cs hcl (hcell ad rfl) hone (by simp only [maxB, maxLen] at *; omega) (by simpa [maxB] using hfit) (Nat.zero_le _)
  exact ⟨v', w', h1, h2, h3, h4⟩
theorem ql.oneCell {S : Nat → Prop} {e : TypeId} {t : Ty} {l : List t.T} {own : Option Nat} {hs : List (Nat × Value)} {xs : List Value} (hl : xs.length = l.length * t.size)
  (h : ∀ (k : Nat) (x : t.T), l[k]? = some x → ∀ j, j < t.size → ¬ ((none : Option (Nat × Nat)) = some (k, j) ∧ t.mask.getD j false = true) → ∃ d u, (t.cells x)[j]? = some d ∧ xs[k * t.size + j]? = some u ∧ zlk S w (wn t own k j) d u (hs.lookup (k * t.size + j))) :
  ∀ u, u ∈ xs → u.oneCell' = true := by
 intro u hu
 obtain ⟨p, hp⟩ := List.getElem?_of_mem hu
 have hpl := (List.getElem?_eq_some_iff.1 hp).1
 rw [hl] at hpl
 have hs0 := t.size_pos
 have hk : p / t.size < l.length := Nat.div_lt_of_lt_mul (by rw [Nat.mul_comm]; exact hpl)
 have hj : p % t.size < t.size := Nat.mod_lt _ hs0
 obtain ⟨d, u', q1, q2, q3⟩ := h _ _ (List.getElem?_eq_getElem hk) _ hj (by simp)
 have e1 : p / t.size * t.size + p % t.size = p := by rw [Nat.mul_comm]; exact Nat.div_add_mod p t.size
 rw [e1, hp] at q2
 cases q2
 cases ho : wn t own (p / t.size) (p % t.size) with
 | true =>
  rw [ho] at q3
  obtain ⟨_, _, _, _, _, hr⟩ := q3
  obtain ⟨A, n, c, rfl⟩ := hr.isSlice
  rfl
 | false =>
  rw [ho] at q3
  have hd : d.cellOk = true := List.all_eq_true.1 (zpd t _) d (List.mem_of_getElem? q1)
  have hds : za 0 (fun _ => .blk 0) S w [d] [u] := ⟨u, [], rfl, q3, rfl⟩
  exact za.oneCell hds (by simp [hd]) u (by simp)
theorem zz6 {L p : Nat} {u : Value} (h : p < L) : ∀ {l : List (Nat × Value)}, l.lookup p = some u → (l.filter (fun z => decide (z.1 < L))).lookup p = some u
 | [], hl => by simp at hl
 | a :: l, hl => by
  by_cases e : p = a.1
  ·rw [List.filter_cons_of_pos (by simp; omega), List.lookup_cons]
   rw [List.lookup_cons] at hl
   simpa [e] using hl
  ·rw [List.lookup_cons, show (p == a.1) = false by simpa using e] at hl
   have := zz6 h hl
   by_cases e2 : a.1 < L
   ·rw [List.filter_cons_of_pos (by simp; omega), List.lookup_cons, show (p == a.1) = false by simpa using e]; exact this
   ·rw [List.filter_cons_of_neg (by simp; omega)]; exact this
theorem zvu {L p : Nat} (h : L ≤ p) : ∀ {l : List (Nat × Value)}, (l.filter (fun z => decide (z.1 < L))).lookup p = none
 | [] => rfl
 | a :: l => by
  by_cases e2 : a.1 < L
  ·rw [List.filter_cons_of_pos (by simp; omega), List.lookup_cons, show (p == a.1) = false by simp; omega]; exact zvu h
  ·rw [List.filter_cons_of_neg (by simp; omega)]; exact zvu h
theorem zt4 {L p : Nat} : ∀ {l : List (Nat × Value)}, (l.map (fun z => (z.1 + L, z.2))).lookup (p + L) = l.lookup p
 | [] => rfl
 | a :: l => by
  rw [List.map_cons, List.lookup_cons, List.lookup_cons, zt4]
  by_cases e : p = a.1
  ·simp [e]
  ·rw [show (p == a.1) = false by simpa using e, show (p + L == a.1 + L) = false by simp; omega]
theorem zsz (p : Nat) : ∀ {l l' : List (Nat × Value)}, (l ++ l').lookup p = (l.lookup p).or (l'.lookup p)
 | [], l' => by simp
 | a :: l, l' => by
  rw [List.cons_append, List.lookup_cons, List.lookup_cons]
  by_cases e : p = a.1
  ·simp [e]
  ·rw [show (p == a.1) = false by simpa using e]; exact zsz p
def zw5 (L : Nat) (hs hs2 : List (Nat × Value)) : List (Nat × Value) := hs.filter (fun z => decide (z.1 < L)) ++ hs2.map (fun z => (z.1 + L, z.2))
theorem zz7 {L : Nat} {hs hs2 : List (Nat × Value)} {b : Nat} (h : b ∈ (zw5 L hs hs2).flatMap (fun h => h.2.ownBlock.toList)) : b ∈ hs.flatMap (fun h => h.2.ownBlock.toList) ∨ b ∈ hs2.flatMap (fun h => h.2.ownBlock.toList) := by
 unfold zw5 at h
 rw [List.flatMap_append] at h
 rcases List.mem_append.1 h with h | h
 ·exact .inl ((zg9 (fun h : Nat × Value => h.2.ownBlock.toList) List.filter_sublist).subset h)
 ·right
  rw [List.flatMap_map] at h
  exact h
theorem z0y {L : Nat} {hs hs2 : List (Nat × Value)} (h1 : (hs.flatMap (fun h => h.2.ownBlock.toList)).Nodup) (h2 : (hs2.flatMap (fun h => h.2.ownBlock.toList)).Nodup) (h3 : ∀ b, b ∈ hs.flatMap (fun h => h.2.ownBlock.toList) → b ∉ hs2.flatMap (fun h => h.2.ownBlock.toList)) :
  ((zw5 L hs hs2).flatMap (fun h => h.2.ownBlock.toList)).Nodup := by
 unfold zw5
 rw [List.flatMap_append, List.nodup_append]
 refine ⟨List.Nodup.sublist (zg9 (fun h : Nat × Value => h.2.ownBlock.toList) List.filter_sublist) h1, by rw [List.flatMap_map]; exact h2, fun a ha b hb e => ?_⟩
 subst e
 rw [List.flatMap_map] at hb
 exact h3 a ((zg9 (fun h : Nat × Value => h.2.ownBlock.toList) List.filter_sublist).subset ha) hb
theorem zvv (hT : z7 P E) (hI : Inv c β S ob w) (hm : c.m0 ≤ ob.length) {t ty e : TypeId} {y : Ty} {s : D} {j : Nat} {sv qv : Value} (hu : (E.ti t).und = .slice e) (hy : (E.ti e).ty = some y) {K : D → List Ob → Option R} {r : R} (h : zvd E ob e y s j K = some r) (hp : RelD ob.length β S w s sv) (hq : RelD ob.length β S w (.vec j) qv)
  {tm : List D} {vs : List Value} (hd : za ob.length β S w tm vs) :
  ∃ d ob' v w', K d ob' = some r ∧ (Builtin.append_ #[t, t] ty #[sv, qv]).run P w = .ok v w' ∧ Rel c (d :: tm) ob' (v :: vs) w' ∧ Same (fun b => ∃ i, i ∈ zvc s ∧ b ∈ blks β ob i) w w' := by
 have hyb := (hT.tyOf hy).2.2.1
 have dv : ∀ {i : Nat} {l : List y.T} {u : Value}, z1p ob e y i = some l → RelD ob.length β S w (.vec i) u → ∃ g hs o, ob[i]? = some o ∧ o.live = true ∧ β i = .deep g u hs ∧ (GL.deep g u hs).blocks.Nodup ∧ ql S w e y none none u hs l ∧ ∀ b, b ∈ (GL.deep g u hs).blocks → b ∈ blks β ob i := by
  intro i l u h1 h2
  unfold z1p at h1
  split at h1
  ·rename_i e' t' l' g' hv
   split at h1
   ·rename_i ht
    subst ht
    split at h1
    ·rename_i he
     subst he
     simp only [Option.some.injEq] at h1
     subst h1
     obtain ⟨k1, v, hs, k2, k3, k4, k5⟩ := obDv hI.obj hv
     obtain ⟨_, k6, _⟩ := h2
     rw [k2] at k6
     injection k6 with k6
     subst k6
     exact ⟨g', hs, _, k1, rfl, k2, k3, k4, k5⟩
    ·cases h1
   ·cases h1
  ·cases h1
 unfold zvd at h
 obtain ⟨news, hnews, hA⟩ := Option.bind_eq_some_iff.1 h
 clear h
 have h := hA
 clear hA
 obtain ⟨gj, hsj, oj, j1, j0, j2, j3, ⟨ys, j4, j5, j6⟩, j7⟩ := dv hnews hq
 have hjl := (List.getElem?_eq_some_iff.1 j1).1

 have main : ∀ (l : List y.T) (hs : List (Nat × Value)) (gi : Nat) (J : Nat → Prop) (ob' : List Ob), ql S w e y none none sv hs l → (GL.deep gi sv hs).blocks.Nodup → (∀ b, b ∈ (GL.deep gi sv hs).blocks → ∃ x, x ≠ j ∧ J x ∧ x ∈ zvc s ∧ b ∈ blks β ob x) → J j → (l.length + news.length) * (E.ti e).bytes ≤ maxB →
   K (.vec ob.length) ob' = some r → ob'.length = ob.length + 1 → ob'[ob.length]? = some (.dv e y (l ++ news) none 0 none) → (∀ x, J x → x < ob.length → ob'[x]? = some .gone) → (∀ x, x < ob.length → ¬ J x → ob'[x]? = ob[x]?) →
   ∃ d ob' v w', K d ob' = some r ∧ (Builtin.append_ #[t, t] ty #[sv, qv]).run P w = .ok v w' ∧ Rel c (d :: tm) ob' (v :: vs) w' ∧ Same (fun b => ∃ i, i ∈ zvc s ∧ b ∈ blks β ob i) w w' := by
  intro l hs gi J ob' ⟨xs, i4, i5, i6⟩ hnd hblk hJj hfit hK hlen hnew hJ hKe
  obtain ⟨A, cap, hqv, hA, hcell⟩ : ∃ A cap, qv = .slice A news.length cap ∧ (A = none → cap = 0 ∧ news.length = 0) ∧ ∀ ad, A = some ad → ∀ (p : Nat) (u : Value), ys[p]? = some u → w.cell? (ad.add p) = some u := by
   rcases j4.2 with ⟨rfl, h0⟩ | ⟨g, cap, cur, fz, rfl, q2, q3, q4, q5, q6, q7⟩
   ·exact ⟨none, 0, by rw [h0], fun _ => ⟨rfl, h0⟩, fun ad h => (nomatch h)⟩
   ·refine ⟨_, cap, rfl, fun h => (nomatch h), fun ad h p u hu => ?_⟩
    cases h
    rw [Addr.add_lit, Nat.zero_add, j4.cell (g := g) (by simp [Value.ownBlock]) p (by rw [← j4.1]; exact (List.getElem?_eq_some_iff.1 hu).1)]
    exact hu
  obtain ⟨v', w', h9, h10, h11, h12⟩ := z2o (ty := ty) hT hu hy i4.own hA j4.1 hcell (ql.oneCell (e := e) j4.1 j6) hfit
  rw [← hqv] at h9
  have hwS := Same.of_grown h11
  have hvb : ∀ b, sv.ownBlock = some b → b ∈ (GL.deep gi sv hs).blocks := fun b hb => List.mem_append_left _ (by simp [hb])
  have hSb : ∀ b', S b' → w'.heap[b']? = w.heap[b']? := fun b' hS => hwS.block b' (hI.imm b' hS) fun e => by
   obtain ⟨x, _, _, _, hx⟩ := hblk b' (hvb b' e)
   exact (hI.own x b' hx).1 hS
  have hkeep : ∀ b, b ∈ hs.flatMap (fun h => h.2.ownBlock.toList) ∨ b ∈ hsj.flatMap (fun h => h.2.ownBlock.toList) → b < w.heap.size ∧ w'.heap[b]? = w.heap[b]? ∧ sv.ownBlock ≠ some b := by
   intro b hb
   have hne : sv.ownBlock ≠ some b := by
    intro e
    rcases hb with hb | hb
    ·simp only [GL.blocks] at hnd
     rw [List.nodup_append] at hnd
     exact hnd.2.2 b (by simp [e]) b hb rfl
    ·obtain ⟨x, hx1, _, _, hx2⟩ := hblk b (hvb b e)
     exact hI.sep x j b hx1 hx2 (j7 b (List.mem_append_right _ hb))
   have hlt : b < w.heap.size := by
    rcases hb with hb | hb
    ·obtain ⟨x, _, _, _, hx⟩ := hblk b (List.mem_append_right _ hb)
     exact (hI.own x b hx).2.1
    ·exact (hI.own j b (j7 b (List.mem_append_right _ hb))).2.1
   exact ⟨hlt, hwS.block b hlt hne, hne⟩
  have hblo : ∀ {l : List (Nat × Value)} {p : Nat} {u : Value} {b : Nat}, l.lookup p = some u → b ∈ u.ownBlock.toList → b ∈ l.flatMap (fun h => h.2.ownBlock.toList) := fun hl hb => List.mem_flatMap.2 ⟨_, ze7 hl, hb⟩
  have hvb' : ∀ b, b ∈ v'.ownBlock.toList → sv.ownBlock = some b ∨ b = w.heap.size := by
   intro b hb
   rcases h12 with h12 | h12 <;> rw [h12] at hb
   ·exact .inl (by simpa using hb)
   ·exact .inr (by simp at hb; exact hb)
  have hlt' : ∀ b, b ∈ v'.ownBlock.toList → b < w'.heap.size := fun b hb => (h10.lt b (by simpa using hb)).2
  have hdisj : ∀ b, b ∈ hs.flatMap (fun h => h.2.ownBlock.toList) → b ∉ hsj.flatMap (fun h => h.2.ownBlock.toList) := fun b hb hb' => by
   obtain ⟨x, hx1, _, _, hx2⟩ := hblk b (List.mem_append_right _ hb)
   exact hI.sep x j b hx1 hx2 (j7 b (List.mem_append_right _ hb'))
  have hnd' : (GL.deep 0 v' (zw5 (l.length * y.size) hs hsj)).blocks.Nodup := by
   simp only [GL.blocks] at hnd j3 ⊢
   rw [List.nodup_append] at hnd j3 ⊢
   refine ⟨zj7 v', z0y hnd.2.1 j3.2.1 hdisj, fun a ha b hb e => ?_⟩
   subst e
   obtain ⟨q1, _, q2⟩ := hkeep a (zz7 hb)
   rcases hvb' a ha with h | h
   ·exact q2 h
   ·omega
  have hdeep : ql S w' e y none none v' (zw5 (l.length * y.size) hs hsj) (l ++ news) := by
   refine ⟨xs ++ ys, by rw [List.length_append]; exact ze0.of_own h10, by rw [List.length_append]; exact Nat.le_trans (Nat.le_mul_of_pos_right _ hyb) hfit, fun k x hk q hq _ => ?_⟩
   by_cases hlt : k < l.length
   ·rw [List.getElem?_append_left hlt] at hk
    have := Nat.mul_le_mul_right y.size (show k + 1 ≤ l.length from hlt)
    rw [Nat.add_mul] at this
    obtain ⟨d, u, q1, q2, q3⟩ := i6 k x hk q hq (by simp)
    refine ⟨d, u, q1, by rw [List.getElem?_append_left (by rw [i4.1]; omega)]; exact q2, ?_⟩
    refine zlk.imp (fun _ h => h) hSb (h := (zw5 (l.length * y.size) hs hsj).lookup (k * y.size + q)) (w := w) (fun ho b hb => ?_) ?_
    ·rw [ho] at q3
     exact (hkeep b (.inl (hblo q3.1 hb))).2.1
    ·cases ho : wn y none k q with
     | false => rw [ho] at q3; exact q3
     | true =>
      rw [ho] at q3
      refine ⟨?_, q3.2⟩
      unfold zw5
      rw [zsz, zz6 (by omega) q3.1]
      rfl
   ·rw [List.getElem?_append_right (by omega)] at hk
    obtain ⟨d, u, q1, q2, q3⟩ := j6 _ x hk q hq (by simp)
    have e2 : k * y.size = l.length * y.size + (k - l.length) * y.size := by rw [← Nat.add_mul]; congr 1; omega
    have e3 : k * y.size + q = ((k - l.length) * y.size + q) + l.length * y.size := by omega
    refine ⟨d, u, q1, ?_, ?_⟩
    ·rw [List.getElem?_append_right (by rw [i4.1]; omega), ← q2, i4.1]
     congr 1; omega
    ·have eo : wn y none k q = wn y none (k - l.length) q := rfl
     rw [eo, e3]
     refine zlk.imp (fun _ h => h) hSb (w := w) (fun ho b hb => ?_) ?_
     ·rw [ho] at q3
      exact (hkeep b (.inr (hblo q3.1 hb))).2.1
     ·cases ho : wn y none (k - l.length) q with
      | false => rw [ho] at q3; exact q3
      | true =>
       rw [ho] at q3
       refine ⟨?_, q3.2⟩
       unfold zw5
       rw [zsz, zvu (by omega), zt4]
       simpa using q3.1
  have hsame : Same (fun b => ∃ i, i ∈ zvc s ∧ b ∈ blks β ob i) w w' := hwS.mono fun b _ e => by
   obtain ⟨x, _, _, hx1, hx2⟩ := hblk b (hvb b e)
   exact ⟨x, hx1, hx2⟩
  refine ⟨_, _, v', w', hK, h9, ⟨_, S, hI.target hm J (i := ob.length) (g' := .deep 0 v' (zw5 (l.length * y.size) hs hsj)) (by omega) (fun x hx => by omega) hnew (fun x _ hx hxl => hJ x hx hxl) (fun x hx _ hn => hKe x hx hn) (fun h => absurd h (Nat.lt_irrefl _)) (hwS.mono fun b _ e => ?_) ⟨rfl, hnd', hdeep⟩ (fun b hb => ?_), ?_⟩, hsame⟩
  ·obtain ⟨x, _, hx1, _, hx2⟩ := hblk b (hvb b e)
   exact ⟨x, .inr hx1, hx2⟩
  ·simp only [GL.blocks] at hb
   rcases List.mem_append.1 hb with hb | hb
   ·refine ⟨hlt' b hb, ?_⟩
    rcases hvb' b hb with h | h
    ·obtain ⟨x, _, hx1, _, hx2⟩ := hblk b (hvb b h)
     exact .inl ⟨x, .inr hx1, hx2⟩
    ·exact .inr (by omega)
   ·have hj := zz7 hb
    refine ⟨Nat.lt_of_lt_of_le (hkeep b hj).1 hwS.size, .inl ?_⟩
    rcases hj with h | h
    ·obtain ⟨x, _, hx1, _, hx2⟩ := hblk b (List.mem_append_right _ h)
     exact ⟨x, .inr hx1, hx2⟩
    ·exact ⟨j, .inr hJj, j7 b (List.mem_append_right _ h)⟩
  ·rw [hlen]
   refine ⟨v', vs, rfl, ⟨by omega, by rw [jh]; rfl, ?_⟩, za.imp (by omega) (fun x hx => .of_eq (zri hx)) (fun _ h => h) hSb _ hd⟩
   rcases h10.2 with ⟨rfl, _⟩ | ⟨g, cap, cur, rfl, _⟩ <;> exact ⟨_, _, _, rfl⟩
 split at h
 ·obtain ⟨hb, h⟩ := ya h
  simp only [fits, decide_eq_true_eq] at hb
  obtain rfl : sv = .slice none 0 0 := hp
  refine main [] [] 0 (fun x => x = j) _ ⟨[], ⟨by simp, .inl ⟨rfl, rfl⟩⟩, by simp, fun k x hk => by simp at hk⟩ (by simp [GL.blocks, Value.ownBlock]) (fun b hb => by simp [GL.blocks, Value.ownBlock] at hb) rfl (by simpa using hb) h (by simp) ?_ (fun x hx hxl => ?_) (fun x hx hn => ?_)
  ·rw [List.getElem?_append_right (by simp)]; simp
  ·subst hx
   rw [List.getElem?_append_left (by simpa using hxl), List.getElem?_set_self hxl]
  ·rw [List.getElem?_append_left (by simpa using hx), List.getElem?_set_ne (fun e => hn e.symm)]
 ·rename_i i
  split at h
  ·rename_i hij
   obtain ⟨l, hl, h⟩ := Option.bind_eq_some_iff.1 h
   obtain ⟨hb, h⟩ := ya h
   simp only [fits, decide_eq_true_eq] at hb
   obtain ⟨gi, hsi, oi, i1, i0, i2, i3, i4, i7⟩ := dv hl hp
   have hil := (List.getElem?_eq_some_iff.1 i1).1
   refine main l hsi gi (fun x => x = i ∨ x = j) _ i4 i3 (fun b hb => ⟨i, hij, .inl rfl, List.mem_singleton.2 rfl, i7 b hb⟩) (.inr rfl) hb h (by simp) ?_ (fun x hx hxl => ?_) (fun x hx hn => ?_)
   ·rw [List.getElem?_append_right (by simp)]; simp
   ·rw [List.getElem?_append_left (by simpa using hxl)]
    by_cases e1 : x = j
    ·subst e1; rw [List.getElem?_set_self (by simpa using hxl)]
    ·rw [List.getElem?_set_ne (fun e => e1 e.symm)]
     obtain rfl := hx.resolve_right e1
     rw [List.getElem?_set_self hxl]
   ·rw [List.getElem?_append_left (by simpa using hx), List.getElem?_set_ne (fun e => hn (.inr e.symm)), List.getElem?_set_ne (fun e => hn (.inl e.symm))]
  ·cases h
 ·cases h
theorem zyz (hT : z7 P E) (hI : Inv c β S ob w) (hm : c.m0 ≤ ob.length) {t ty : TypeId} {p q : D} {pv qv : Value} {K : D → List Ob → Option R} {r : R} (h : z0t E ob t p q K = some r) (hp : RelD ob.length β S w p pv) (hq : RelD ob.length β S w q qv)
  {tm : List D} {vs : List Value} (hd : za ob.length β S w tm vs) :
  ∃ d ob' v w', K d ob' = some r ∧ (Builtin.append_ #[t, t] ty #[pv, qv]).run P w = .ok v w' ∧ Rel c (d :: tm) ob' (v :: vs) w' ∧ Same (fun b => ∃ i, i ∈ zvc p ∧ b ∈ blks β ob i) w w' := by
 unfold z0t at h
 split at h
 ·obtain ⟨ob1, β1, h1, h2, h3, h4, h5, h6⟩ := zrk hI hm h hp
  have hS : ∀ b, S b → w.heap[b]? = w.heap[b]? := fun _ _ => rfl
  have hq' := RelD.imp (n' := ob1.length) (β' := β1) (w' := w) (by omega) h4 (fun _ h => h) hS _ hq
  have hd' := za.imp (n' := ob1.length) (β' := β1) (w' := w) (by omega) h4 (fun _ h => h) hS _ hd
  rw [← h2] at h5
  obtain ⟨d, ob', v, w', g1, g2, g3, g4⟩ := zp1 (ty := ty) hT h3 (by omega) h1 h5 hq' hd'
  refine ⟨d, ob', v, w', g1, g2, g3, g4.mono fun b _ ⟨i, hi, hb⟩ => ?_⟩
  rw [List.mem_singleton.1 hi] at hb
  rcases h6 _ b hb with ⟨h7, _⟩ | ⟨_, h8⟩
  ·omega
  ·exact h8
 ·split at h
  ·rename_i j hj
   have hxv : q = .vec j := by
    unfold isDv at hj
    split at hj
    ·split at hj
     ·simp only [Option.some.injEq] at hj; rw [hj]
     ·cases hj
    ·cases hj
   subst hxv
   split at h
   ·rename_i e hu
    split at h
    ·rename_i y hy
     exact zvv hT hI hm hu hy h hp hq hd
    ·cases h
   ·cases h
  ·exact zp1 hT hI hm h hp hq hd
theorem z1z (hI : Inv c β S ob w) (hm : c.m0 ≤ ob.length) {i : Nat} {o : Ob} (hi : ob[i]? = some o) (hl : o.live = true) (hw : Same (fun b => b ∈ (β i).blocks) w w') {tm : List D} {vs : List Value} (hd : za ob.length β S w tm vs) :
  Rel c tm (ob.set i .gone) vs w' := by
 have hlt := (List.getElem?_eq_some_iff.1 hi).1
 have hbl : blks β ob i = (β i).blocks := by simp [blks, hi, hl]
 have hg : ∀ {j : Nat} {q : Ob}, (ob.set i .gone)[j]? = some q → (j = i ∨ ob.length ≤ j) → q = .gone := by
  intro j q hj hx
  rcases hx with rfl | hx
  ·rw [List.getElem?_set_self hlt] at hj; cases hj; rfl
  ·have := (List.getElem?_eq_some_iff.1 hj).1; simp at this; omega
 have hbk : ∀ {j b : Nat}, b ∈ blks β (ob.set i .gone) j → (j = i ∨ ob.length ≤ j) → False := by
  intro j b hb hx
  obtain ⟨q, h1, h2, h3⟩ := zj.1 hb
  rw [hg h1 hx] at h2
  cases h2
 refine ⟨β, S, hI.step (fun j => j = i) (hw.mono fun b _ hb => ⟨i, rfl, hbl ▸ hb⟩) (by simp) (fun j hj hn => List.getElem?_set_ne (fun e => hn e.symm)) (fun _ _ => rfl) (fun _ h => h) (fun b hb => .inl hb) (fun j q hj hx => ?_) (fun j b hx hj => (hbk hj hx).elim)
  (fun j k b hjk hx hy hj hk => (hbk hj hx).elim) hm, ?_⟩
 ·rw [hg hj hx]; cases β j <;> trivial
 ·rw [List.length_set]
  exact za.imp (Nat.le_refl _) (fun _ _ => .refl _) (fun _ h => h) (fun b hb => hw.block b (hI.imm b hb) fun hx => (hI.own i b (zj.2 ⟨o, hi, hl, hx⟩)).1 hb) tm hd
theorem zs0 (w : World) (t u ty e : TypeId) (i : TypeInfo) (ht : P.underlying t = some (.slice e)) (hu : P.underlying u = some .string) (hi : P.info? e = some i) (hz : i.zero = some (.int .u8 0))
  (hsize : i.size = 1) (hby : i.bytes = 1) (v : Value) (n : Nat) (xs : List Value) (hown : w.ownsRow 0 e 1 v n xs) (s : ByteArray) (h63 : n + s.size ≤ maxLen) (hbytes : n + s.size ≤ 140737488355328) :
  ∃ v' w', (Builtin.append_ #[t, u] ty #[v, .string s]).run P w = .ok v' w' ∧ w'.ownsRow 0 e 1 v' (n + s.size) (xs ++ Lib.strCells s) ∧ w.grownBy w' v.ownBlock ∧ (v'.ownBlock = v.ownBlock ∨ ∀ b, b ∈ v'.ownBlock.toList → w.heap.size ≤ b) := by
 obtain ⟨v', w', h1, h2, h3, _⟩ := Lib.run_append_own_string (P := P) w 0 t u ty e i ht hu hi hz hsize hby v n xs hown s h63 hbytes (Nat.zero_le _)
 refine ⟨v', w', h1, h2, h3, ?_⟩
 rcases hown.2 with ⟨rfl, rfl⟩ | ⟨g, cap, cur, rfl, hbg, hg, hnc, hcm, hcs, htake⟩
 ·right
  have hown' : w.ownsRow w.heap.size e 1 (.slice none 0 0) 0 xs := ⟨hown.1, .inl ⟨rfl, rfl⟩⟩
  obtain ⟨v2, w2, e1, e2, _⟩ := Lib.run_append_own_string (P := P) w w.heap.size t u ty e i ht hu hi hz hsize hby _ 0 xs hown' s h63 hbytes (Nat.le_refl _)
  rw [h1] at e1
  injection e1 with e1 e1'
  subst e1; subst e1'
  intro b hb
  exact (e2.lt b (by simpa using hb)).1
 ·by_cases hroom : n + s.size ≤ cap
  ·left
   have hr := Lib.run_append_room_string (P := P) w t u ty e i ht hu hi hsize g n cap cur hg s hroom (by simpa using (by omega : n + s.size ≤ cap * 1) |> fun h => by rw [hcs]; exact h)
   rw [h1] at hr
   injection hr with hr _
   rw [hr]; rfl
  ·right
   have hxl : xs.length = n := by simpa using hown.1
   have holds : ∀ j u, xs[j]? = some u → w.cell? ((⟨g, 0, none⟩ : Addr).add j) = some u := by
    intro j u hj
    have := ze0.cell (ze0.of_own hown) (g := g) rfl j (by have := (List.getElem?_eq_some_iff.1 hj).1; omega)
    rw [Addr.add_lit, Nat.zero_add, this, hj]
   have hr := Lib.run_append_grow_string (P := P) w t u ty e i (.int .u8 0) ht hu hi hz ⟨g, 0, none⟩ n cap xs (by rw [hsize]; simpa using hxl) holds s (by omega) (by simp only [maxLen] at h63; omega) (by rw [hby]; exact growslice_fits (by omega) (by omega))
   rw [h1] at hr
   injection hr with hr _
   rw [hr]
   intro b hb
   simp [Value.ownBlock] at hb
   omega
theorem z3s {n : Int} (h : Rng .u8 n) : ((UInt8.ofNat n.toNat).toNat : Int) = n := by
 have h' : IntKind.u8.min ≤ n ∧ n ≤ IntKind.u8.max := by simpa [Rng, Lit.wf] using h
 have h1 : (0 : Int) ≤ n := h'.1
 have h2 : n ≤ 255 := h'.2
 rw [UInt8.toNat_ofNat']
 omega
theorem zvw {S : Nat → Prop} {w : World} {s : Bs} : ∀ (k : Nat) (x : Int), (ofBs s)[k]? = some x → ImmC S w (.int .u8) (fun j => (Lib.strCells ⟨s.toArray⟩)[k * 1 + j]?) x := by
 intro k x hk
 rw [ofBs, List.getElem?_map] at hk
 cases hs : s[k]? with
 | none => rw [hs] at hk; cases hk
 | some b =>
  rw [hs] at hk
  simp only [Option.map_some, Option.some.injEq] at hk
  subst hk
  refine ⟨?_, zys b⟩
  simp [Lib.strCells, hs]
theorem zw6 (hT : z7 P E) (hI : Inv c β S ob w) (hm : c.m0 ≤ ob.length) {t t' ty : TypeId} {p q : D} {pv qv : Value} {K : D → List Ob → Option R} {r : R} (h : zyl E ob t t' p q K = some r) (hp : RelD ob.length β S w p pv) (hq : RelD ob.length β S w q qv)
  {tm : List D} {vs : List Value} (hd : za ob.length β S w tm vs) :
  ∃ d ob' v w', K d ob' = some r ∧ (Builtin.append_ #[t, t'] ty #[pv, qv]).run P w = .ok v w' ∧ Rel c (d :: tm) ob' (v :: vs) w' ∧ Same (fun b => ∃ i, i ∈ zvc p ∧ b ∈ blks β ob i) w w' := by
 unfold zyl at h
 split at h
 ·rename_i e b hu hu'
  obtain ⟨rfl, hqs⟩ := hq
  split at h
  ·rename_i hue hd1
   have hd1' := of_decide_eq_true hd1
   obtain ⟨hu1, hu2⟩ := hT.slice hu
   obtain ⟨it, hi1, hi2, hi4, hi5⟩ := hT.byte hue
   have law : ∀ (v : Value) (l : List Int) (xs : List Value), w.ownsRow 0 e 1 v l.length xs → l.length + b.length ≤ maxB → ∃ v' w', (Builtin.append_ #[t, t'] ty #[v, .string ⟨b.toArray⟩]).run P w = .ok v' w' ∧ w'.ownsRow 0 e 1 v' (l.length + b.length) (xs ++ Lib.strCells ⟨b.toArray⟩) ∧ w.grownBy w' v.ownBlock ∧ (v'.ownBlock = v.ownBlock ∨ ∀ b, b ∈ v'.ownBlock.toList → w.heap.size ≤ b) := by
    intro v l xs hown hb
    have := zs0 (P := P) w t t' ty e it hu1 (hT.str hu') hi1 hi2 (by rw [hi4]; exact hd1'.1) (by rw [hi5]; exact hd1'.2) v l.length xs hown ⟨b.toArray⟩ (by simp only [ByteArray.size, List.size_toArray]; simp only [maxB, maxLen] at *; omega) (by simp only [ByteArray.size, List.size_toArray]; simpa [maxB] using hb)
    simpa only [ByteArray.size, List.size_toArray] using this
   have shape : ∀ {v : Value} {n : Nat} {xs : List Value} {w : World}, w.ownsRow 0 e 1 v n xs → ∃ A l c, v = .slice A l c := by
    intro v n xs w hown
    rcases hown.2 with ⟨rfl, _⟩ | ⟨g, cap, cur, rfl, _⟩ <;> exact ⟨_, _, _, rfl⟩
   have blocks : ∀ {v : Value} {n : Nat} {xs : List Value} {w : World}, w.ownsRow 0 e 1 v n xs → ∀ b, b ∈ v.ownBlock.toList → b < w.heap.size := by
    intro v n xs w hown b hb
    exact (hown.lt b (by simpa using hb)).2
   have hlen : (ofBs b).length = b.length := by simp [ofBs]
   split at h
   ·obtain ⟨hb, h⟩ := ya h
    simp only [fits, decide_eq_true_eq, Nat.mul_one] at hb
    obtain rfl : pv = _ := hp
    obtain ⟨v', w', h1, h2, h3, h4⟩ := law (.slice none 0 0) [] [] (World.ownsRow_nil w 0 e 1) (by simpa using hb)
    simp only [List.length_nil, Nat.zero_add, List.nil_append] at h2
    refine ⟨_, _, v', w', h, h1, zlq (o' := .vec false e (.int .u8) (ofBs b)) hI hm ((Same.of_grown h3).mono fun _ _ h => (nomatch h)) (fun b hb => ⟨?_, blocks h2 b hb⟩) ⟨_, ze0.of_own (by rw [hlen]; exact h2), by rw [hlen]; exact hb, fun k x hk => zvw k x hk⟩ (shape h2) hd, (Same.of_grown h3).mono fun _ _ h => (nomatch h)⟩
    rcases h4 with h4 | h4
    ·rw [h4] at hb; simp [Value.ownBlock] at hb
    ·exact h4 b hb
   ·split at h
    ·rename_i i e' l hv
     split at h
     ·rename_i he
      subst he
      obtain ⟨hb, h⟩ := ya h
      simp only [fits, decide_eq_true_eq, Nat.mul_one] at hb
      obtain ⟨h1, v, h2, ⟨xs, h3, h4, h5⟩, h6⟩ := ze1 hI.obj hv
      obtain ⟨h7, h8, _⟩ := hp
      rw [h2] at h8
      injection h8 with h8
      subst h8
      obtain ⟨v', w', h9, h10, h11, h12⟩ := law v l xs h3.own hb
      have hSw : ∀ b, S b → w'.heap[b]? = w.heap[b]? := fun b hb => h11.block b (hI.imm b hb) fun e => (hI.own _ b (h6 b (by rw [← e]; simp))).1 hb
      refine ⟨_, _, v', w', h, h9, zyy (o' := .vec false _ (.int .u8) (l ++ ofBs b)) hI hm h1 rfl ((Same.of_grown h11).mono fun b _ e => by rw [h2]; simp [GL.blocks, e]) (fun b hb => ⟨?_, blocks h10 b hb⟩) ⟨xs ++ Lib.strCells ⟨b.toArray⟩, ?_, ?_, ?_⟩ (shape h10) hd, (Same.of_grown h11).mono fun b _ e => ⟨_, List.mem_singleton.2 rfl, h6 b (by rw [e]; simp)⟩⟩
      ·rcases h12 with h12 | h12
       ·left; rw [h2]; rw [h12] at hb; exact hb
       ·exact .inr (h12 b hb)
      ·have := ze0.of_own h10
       rw [List.length_append, hlen]; exact this
      ·rw [List.length_append, hlen]; exact hb
      ·exact fun k x hk => ImmC.imp (fun _ h => h) hSw (zvt (t := .int .u8) h3.1 h5 (fun k x hk => zvw k x hk) k x hk)
     ·cases h
    ·cases h
   ·cases h
  ·cases h
 ·cases h
theorem zrl (hT : z7 P E) {pt it ty e : TypeId} (hp : P.underlying pt = some (.pointer e)) (hb : (E.ti e).und.isBad = false) (hs : (E.ti e).size = 1) {mk : Bool} {v : Value} {l : List Int} {xs : List Value} {q : Option Addr} (h : ze0 mk w e 1 v l.length xs)
  (hx : ∀ k x, l[k]? = some x → ImmC S w (.int .u8) (fun j => xs[k * 1 + j]?) x) (hl : l.length ≤ maxB) {A : Option Addr} {len cap : Nat} (hv : v = .slice A len cap) (hq : cap ≠ 0 → q = A) :
  ∃ w', (Builtin.unsafeString_ #[pt, it] ty #[.pointer q, .int .i64 l.length]).run P w = .ok (.string ⟨(toBs l).toArray⟩) w' ∧ Same (fun b => b ∈ v.ownBlock.toList) w w' := by
 cases l with
 | nil => exact ⟨w, Lib.run_unsafeString_none (P := P) w pt it ty q, Same.refl _ _⟩
 | cons x0 l0 =>
  generalize hll : x0 :: l0 = l at *
  have hne : l ≠ [] := by rw [← hll]; simp
  rcases h.2 with ⟨_, h0⟩ | ⟨g, cap', cur, fz, hv', hg, _, hnc, hcm, hcs, htake⟩
  ·exact absurd (List.eq_nil_of_length_eq_zero h0) hne
  ·rw [hv] at hv'
   injection hv' with hA hlen hcap
   subst hA; subst hlen; subst hcap
   have hpos : 0 < l.length := List.length_pos_iff.2 hne
   obtain rfl := hq (by omega)
   have hbs : (toBs l).length = l.length := by simp [toBs]
   obtain ⟨it', z, hi1, hi2, hi3, hi4, hi5⟩ := hT.info hb
   have hrun := Lib.run_unsafeString_row (P := P) w pt it ty e hp (by simp [Program.cellsOf, hi1, hi4, hs]) g cur.size (by simp [World.shape?, hg]) (toBs l) (by intro e0; rw [← List.length_eq_zero_iff, hbs] at e0; omega) (by rw [hbs]; omega) (by rw [hbs]; simp only [maxB] at hl; omega) (by
    intro j x hj
    rw [toBs, List.getElem?_map] at hj
    cases hy : l[j]? with
    | none => rw [hy] at hj; cases hj
    | some y =>
     rw [hy] at hj
     simp only [Option.map_some, Option.some.injEq] at hj
     have h1 := hx j y hy
     have h2 := h1.1
     have h3 := h1.2
     rw [Addr.add_lit, Nat.zero_add, h.cell (g := g) (by rw [hv]; rfl) j (by have := (List.getElem?_eq_some_iff.1 hy).1; omega)]
     simp only [Nat.mul_one, Nat.add_zero] at h2
     rw [h2, ← hj, z3s h3])
   rw [hbs] at hrun
   refine ⟨_, hrun, ?_⟩
   rw [hv]
   unfold World.freeze
   split
   ·exact Same.refl _ _
   ·refine ⟨rfl, rfl, rfl, by simp, fun b hb hn => ?_⟩
    simp only [Value.ownBlock, Option.mem_toList, Option.mem_def, Option.some.injEq] at hn
    simp only [Array.getElem?_modify]
    split
    ·rename_i e; exact absurd e hn
    ·rfl
theorem zz8 (hT : z7 P E) {dT sT ty e : TypeId} (hu : P.underlying dT = some (.slice e)) (hb : (E.ti e).und.isBad = false) (hs : (E.ti e).size = 1) {v : Value} {l : List Int} {xs : List Value} (h : w.ownsRow 0 e 1 v l.length xs)
  (hx : ∀ k x, l[k]? = some x → ImmC S w (.int .u8) (fun j => xs[k * 1 + j]?) x) {b : Bs} (hle : b.length ≤ l.length) {A : Option Addr} {len cap : Nat} (hv : v = .slice A len cap) :
  ∃ w' xs', (Builtin.copy_ #[dT, sT] ty #[v, .string ⟨b.toArray⟩]).run P w = .ok (.int .i64 b.length) w' ∧ Same (fun b => b ∈ v.ownBlock.toList) w w' ∧ w'.heap.size = w.heap.size ∧ w'.ownsRow 0 e 1 v l.length xs' ∧
   ∀ k x, (ofBs b ++ l.drop b.length)[k]? = some x → ImmC S w (.int .u8) (fun j => xs'[k * 1 + j]?) x := by
 obtain ⟨it', z, hi1, hi2, hi3, hi4, hi5⟩ := hT.info hb
 have hsz : (P.info? e).map (·.size) = some 1 := by rw [hi1]; simp [hi4, hs]
 have hxl : xs.length = l.length := by simpa using h.1
 rcases h.2 with ⟨rfl, h0⟩ | ⟨g, cap', cur, rfl, hbg, hg, hnc, hcm, hcs, htake⟩
 ·have hb0 : b = [] := List.eq_nil_of_length_eq_zero (by omega)
  subst hb0
  have hl0 : l = [] := List.eq_nil_of_length_eq_zero h0
  subst hl0
  refine ⟨w, xs, ?_, Same.refl _ _, rfl, h, fun k x hk => by simp [ofBs] at hk⟩
  simp [Builtin.copy_, run_underlying hu, Builtin.lenOf, Builtin.firstCells, sizeOf, typeInfo, hi1, hi4, hs, goInt]
 ·have hr := Lib.run_copy_row_string (P := P) w dT sT ty e g 0 l.length cap' ⟨b.toArray⟩ cur e hu hsz hg (by simpa [ByteArray.size] using hle) (by simp only [ByteArray.size, List.size_toArray]; omega)
  simp only [ByteArray.size, List.size_toArray, Nat.zero_add, List.take_zero, List.nil_append] at hr
  have hbc : (Lib.byteCells b).length = b.length := Lib.byteCells_length _
  refine ⟨_, Lib.byteCells b ++ xs.drop b.length, hr, ?_, by simp, ⟨by simp [hbc, hxl]; omega, .inr ⟨g, cap', _, rfl, hbg, setRow_heap w g cur _ e _ hg, hnc, hcm, ?_, ?_⟩⟩, fun k x hk => ?_⟩
  ·exact (Same.setRow w g _).mono fun b' _ hb' => by simp [Value.ownBlock, hb']
  ·simp only [List.size_toArray, List.length_append, List.length_drop, Array.length_toList, hbc]; omega
  ·have ht : cur.toList.take l.length = xs := by simpa using htake
   simp only [Nat.mul_one]
   rw [← ht, List.drop_take, List.take_append, hbc, List.take_of_length_le (by omega)]
  ·by_cases hkb : k < b.length
   ·rw [List.getElem?_append_left (by simpa [ofBs] using hkb)] at hk
    have := zvw (S := S) (w := w) k x hk
    refine ImmC.congr (fun j hj => ?_) this
    simp only [Ty.size] at hj
    obtain rfl : j = 0 := by omega
    rw [List.getElem?_append_left (by simp [hbc]; omega)]
    simp [Lib.byteCells, Lib.strCells]
   ·rw [List.getElem?_append_right (by simp [ofBs]; omega)] at hk
    simp only [ofBs, List.length_map, List.getElem?_drop] at hk
    rw [show b.length + (k - b.length) = k by omega] at hk
    refine ImmC.congr (fun j hj => ?_) (hx k x hk)
    rw [List.getElem?_append_right (by omega), List.getElem?_drop]
    congr 1; omega
/-! -/
theorem z0z {w : World} {g n : Nat} {C : Array Value} {e : TypeId} (hg : w.heap[g]? = some (.cells C e (0, 0))) : (w.freeze ⟨g, n, none⟩ 1).heap[g]? = some (.cells C e (n, n + 1)) := by
 unfold World.freeze
 rw [if_neg (by decide)]
 simp [Array.getElem?_modify, hg]
theorem Same.freeze (w : World) (g n : Nat) : Same (fun b => b = g) w (w.freeze ⟨g, n, none⟩ 1) := by
 unfold World.freeze
 rw [if_neg (by decide)]
 refine ⟨rfl, rfl, rfl, by simp, fun b _ hn => ?_⟩
 simp [Array.getElem?_modify]
 intro e
 exact absurd e.symm hn
theorem z00 (w : World) (g n : Nat) : (w.freeze ⟨g, n, none⟩ 1).heap.size = w.heap.size := by
 unfold World.freeze
 rw [if_neg (by decide)]
 simp
theorem z01 (hT : z7 P E) (hI : Inv c β S ob w) (hm : c.m0 ≤ ob.length) {s t : TypeId} {i : Nat} {pv : Value} {K : D → List Ob → Option R} {r : R} (h : z50 E ob s t i K = some r) (hp : RelD ob.length β S w (.vec i) pv)
  {tm : List D} {vs : List Value} (hd : za ob.length β S w tm vs) :
  ∃ d ob' v w', K d ob' = some r ∧ (convert s t pv).run P w = .ok v w' ∧ Rel c (d :: tm) ob' (v :: vs) w' ∧ Same (fun b => b ∈ blks β ob i) w w' := by
 unfold z50 at h
 split at h
 ·rename_i e e' l hu hv
  split at h
  ·rename_i he
   split at h
   ·rename_i hst
    subst hst
    obtain ⟨hne, h⟩ := ya h
    obtain ⟨h1, v, h2, ⟨xs, h3, h4, h5⟩, h6⟩ := ze1 hI.obj hv
    obtain ⟨hlt, h8, _⟩ := hp
    rw [h2] at h8
    injection h8 with h8
    subst h8
    rcases h3.2 with ⟨_, h0⟩ | ⟨g, cap, cur, fz, rfl, hg, hfz, hnc, hcm, hcs, htk⟩
    ·rw [List.eq_nil_of_length_eq_zero h0] at hne
     cases hne
    ·have hfz0 : fz = (0, 0) := by
      rcases hfz with h | ⟨h, _⟩
      ·exact h
      ·cases h
     subst hfz0
     have hgb : g ∈ blks β ob i := h6 g (by simp [Value.ownBlock])
     have hsm : Same (fun b => b ∈ (β i).blocks) w (w.freeze ⟨g, cur.size, none⟩ 1) := (Same.freeze w g _).mono fun b _ hb => by rw [h2, hb]; simp [GL.blocks, Value.ownBlock]
     have hSw : ∀ b, S b → (w.freeze ⟨g, cur.size, none⟩ 1).heap[b]? = w.heap[b]? := fun b hb => (Same.freeze w g cur.size).block b (hI.imm b hb) fun e => (hI.own _ b (e ▸ hgb)).1 hb
     obtain ⟨hs1, _⟩ := hT.slice hu
     have hsh : w.shape? g = some (e', cur.size) := by unfold World.shape?; rw [hg]
     refine ⟨_, _, .slice (some ⟨g, 0, none⟩) l.length cap, _, h, ?_, zbl (ds := .vec i :: tm) (o' := .vec true e' (.int .u8) l) hI hm h1 rfl rfl hsm (z00 _ _ _) ?_ ⟨_, _, rfl, ⟨hlt, by rw [h2]; rfl, _, _, _, rfl⟩, hd⟩, (Same.freeze w g _).mono fun b _ hb => by rw [hb]; exact hgb⟩
     ·simp [convert, run_underlying hs1, run_underlying (hT.int he), markStringish, hsh]
     ·rw [h2]
      exact ⟨xs, ⟨h3.1, .inr ⟨g, cap, cur, _, rfl, z0z hg, .inr ⟨rfl, Nat.le_refl _⟩, hnc, hcm, hcs, htk⟩⟩, h4, fun k x hk => ImmC.imp (fun _ h => h) hSw (h5 k x hk)⟩
   ·cases h
  ·cases h
 ·cases h
theorem z10 (k : IntKind) (l : List Int) : ∀ (old : List Int) (j q : Nat) (x : Int), old[q]? = some x → (mixA k l j old)[q]? = some (.int k ((l[j + q]?).getD x))
 | [], j, q, x, h => by simp at h
 | o :: os, j, 0, x, h => by
  simp only [List.getElem?_cons_zero, Option.some.injEq] at h
  subst h
  rfl
 | o :: os, j, q + 1, x, h => by
  simp only [List.getElem?_cons_succ] at h
  have := z10 k l os (j + 1) q x h
  rw [mixA, List.getElem?_cons_succ, this]
  congr 4
  omega
theorem zvx (k : IntKind) (l : List Int) : ∀ (old : List Int) (j : Nat), (mixA k l j old).length = old.length
 | [], _ => rfl
 | o :: os, j => by simp [mixA, zvx k l os]
theorem zz9 (hT : z7 P E) (hI : Inv c β S ob w) (hm : c.m0 ≤ ob.length) {t t' ty e e' : TypeId} {i off m n : Nat} {y : D} {pv qv : Value} {K : D → List Ob → Option R} {r : R} (hu : (E.ti t).und = .slice e) (h : z3a E ob e e' i off m n y K = some r)
  (hp : RelD ob.length β S w (.asl i off m n) pv) (hq : RelD ob.length β S w y qv) {tm : List D} {vs : List Value} (hd : za ob.length β S w tm vs) :
  ∃ d ob' v w', K d ob' = some r ∧ (Builtin.copy_ #[t, t'] ty #[pv, qv]).run P w = .ok v w' ∧ Rel c (d :: tm) ob' (v :: vs) w' ∧ Same (fun b => b ∈ blks β ob i) w w' := by
 unfold z3a at h
 split at h
 ·rename_i tb cs k hbx hk
  split at h
  ·rename_i hc
   obtain ⟨rfl, hm1, rfl, hs1, hoth⟩ := hc
   obtain ⟨old, h1, h2⟩ := Option.bind_eq_some_iff.1 h
   obtain ⟨l, h3, h4⟩ := Option.bind_eq_some_iff.1 h2
   obtain ⟨tb', cs', hbx', hlen, b, us, hβ, hg, hcs, hb, hol, hcell⟩ := zvh hI.obj h1
   rw [hbx] at hbx'
   cases hbx'
   obtain ⟨_, _, _, b', hβ', rfl⟩ := hp
   rw [hβ] at hβ'
   injection hβ' with hβ'
   subst hβ'
   obtain ⟨A, cap, xs, rfl, hl1, hA, hxl, hone, hxs, himm⟩ := zrh hI h3 hq
   have hxl : xs.length = l.length := by simpa [Ty.size] using hxl
   have hbad : (E.ti e').und.isBad = false := by rw [hk]; rfl
   obtain ⟨it, z, hi1, hi2, hi3, hi4, hi5⟩ := hT.info hbad
   have hsz : (P.info? e').map (·.size) = some 1 := by rw [hi1]; simp [hi4, hs1]
   obtain ⟨hu1, _⟩ := hT.slice hu
   have hi0 := getD_some hbx (by simp)
   have hcl := za.length hcs
   have hmix := zvx k l old 0

   have hx : ∀ (j : Nat) (u : Value), xs[j]? = some u → ∃ x, l[j]? = some x ∧ u = .int k x ∧ Rng k x := fun j u hj => by
    have hjl : j < l.length := by rw [← hxl]; exact (List.getElem?_eq_some_iff.1 hj).1
    have := himm j _ (List.getElem?_eq_getElem hjl)
    obtain ⟨h5, h6⟩ := this
    simp only [Ty.size, Nat.mul_one, Nat.add_zero] at h5
    rw [hj] at h5
    cases h5
    exact ⟨_, List.getElem?_eq_getElem hjl, rfl, h6⟩
   have hmn : mn (l.length : Int) (n : Int) = ((Nat.min l.length n : Nat) : Int) := by
    unfold mn
    by_cases h5 : (n : Int) < (l.length : Int)
    ·rw [if_pos h5]; congr 1; exact (Nat.min_eq_right (by omega)).symm
    ·rw [if_neg h5]; congr 1; exact (Nat.min_eq_left (by omega)).symm
   rw [hmn] at h4
   have hrng : Rng .i64 ((Nat.min l.length n : Nat) : Int) := zvo _ (Nat.le_trans (Nat.min_le_left _ _) hl1)

   have hrel : ∀ ws : List Value, ws.length = us.length → (∀ q, q < us.length → ¬ (off ≤ q ∧ q < off + Nat.min l.length n) → ws[q]? = us[q]?) → (∀ j, j < Nat.min l.length n → ws[off + j]? = xs[j]?) → za ob.length β S w (zd9 cs off (mixA k l 0 old)) ws := by
    intro ws hw1 hw2 hw3
    have hsp : off + (mixA k l 0 old).length ≤ cs.length := by rw [hmix, hol]; exact hlen
    refine za.mk (by unfold zd9; rw [qj hsp, hcl, hw1]) fun q d v hdq hvq => ?_
    unfold zd9 at hdq
    rw [xc hsp] at hdq
    have hqu : q < us.length := by rw [← hw1]; exact (List.getElem?_eq_some_iff.1 hvq).1
    split at hdq
    ·rename_i hq1
     rw [hmix, hol] at hq1
     have hqo : q - off < old.length := by omega
     rw [z10 k l old 0 (q - off) _ (List.getElem?_eq_getElem hqo), Nat.zero_add] at hdq
     cases hdq
     obtain ⟨h5, h6⟩ := hcell (q - off) _ (List.getElem?_eq_getElem hqo)
     rw [show off + (q - off) = q by omega] at h5
     by_cases hqm : q < off + Nat.min l.length n
     ·have h7 := hw3 (q - off) (by omega)
      rw [show off + (q - off) = q by omega, hvq] at h7
      obtain ⟨x, h8, h9, h10⟩ := hx _ _ h7.symm
      rw [h8, h9]
      exact ⟨rfl, h10⟩
     ·have h7 := hw2 q hqu (by omega)
      rw [hvq, h5] at h7
      cases h7
      have hmn2 : ¬ q - off < l.length := by
       have h8 : ¬ q - off < Nat.min l.length n := by omega
       intro h9
       exact h8 (Nat.lt_min.2 ⟨h9, by omega⟩)
      rw [List.getElem?_eq_none (by omega)]
      exact ⟨rfl, h6⟩
    ·rename_i hq1
     rw [hmix, hol] at hq1
     have h7 := hw2 q hqu (fun h8 => hq1 ⟨h8.1, by have : Nat.min l.length n ≤ n := Nat.min_le_right l.length n; omega⟩)
     rw [hvq] at h7
     obtain ⟨v', h8, h9⟩ := za.get hcs q d hdq
     rw [← h7] at h8
     cases h8
     exact h9
   by_cases hz : Nat.min l.length n = 0
   ·refine ⟨_, _, _, w, h4, run_copy_none w t t' ty e' (some ⟨b, off, none⟩) A n n l.length cap hu1 hsz hz, zbl (ds := .int .i64 _ :: tm) (o' := .box tb (zd9 cs off (mixA k l 0 old))) hI hm hi0 rfl rfl (Same.refl _ _) rfl ?_ ⟨_, _, rfl, ⟨by rw [hz]; rfl, hrng⟩, hd⟩, Same.refl _ _⟩
    rw [hβ]
    exact ⟨us, hg, hrel us rfl (fun _ _ _ => rfl) (fun j hj => by omega)⟩
   ·cases A with
    | none =>
     have := hA rfl
     exfalso
     apply hz
     have hsrc : ImmC (fun b => b < w.heap.size) w (.slice e' (.int k)) (fun _ => some (.slice none l.length cap)) l := zln hI h3 hq
     obtain ⟨A', cap', h5, h6, _⟩ := hsrc
     injection h5 with h5
     injection h5 with _ _ h5
     have : l.length = 0 := by omega
     rw [this]
     exact Nat.zero_min _
    | some ad =>
     have hxt : (xs.take (Nat.min l.length n)).length = Nat.min l.length n := by
      rw [List.length_take, hxl]
      exact Nat.min_eq_left (Nat.min_le_left _ _)
     have hrun := run_copy_row (P := P) w t t' ty e' b off n n ad l.length cap us.toArray tb (xs.take (Nat.min l.length n)) hu1 hsz hg hxt (fun j v hj => by
      rw [List.getElem?_take] at hj
      split at hj
      ·exact hxs ad rfl j v hj
      ·cases hj) (by rw [hxt, List.size_toArray, ← hcl]; have : Nat.min l.length n ≤ n := Nat.min_le_right l.length n; omega) (fun v hv => hone v (List.mem_of_mem_take hv))
     rw [hxt] at hrun
     have hsm : Same (fun b => b ∈ (β i).blocks) w (w.setRow b (us.take off ++ xs.take (Nat.min l.length n) ++ us.drop (off + Nat.min l.length n)).toArray) := (Same.setRow w b _).mono fun b' _ hb' => by rw [hβ, hb']; simp [GL.blocks]
     have hSw : ∀ b', S b' → (w.setRow b (us.take off ++ xs.take (Nat.min l.length n) ++ us.drop (off + Nat.min l.length n)).toArray).heap[b']? = w.heap[b']? := fun b' hb' => (Same.setRow w b _).block b' (hI.imm b' hb') fun e => (hI.own _ b' (e ▸ hb)).1 hb'
     refine ⟨_, _, _, _, h4, hrun, zbl (ds := .int .i64 _ :: tm) (o' := .box tb (zd9 cs off (mixA k l 0 old))) hI hm hi0 rfl rfl hsm (by simp [World.setRow]) ?_ ⟨_, _, rfl, ⟨rfl, hrng⟩, hd⟩, (Same.setRow w b _).mono fun b' _ hb' => by rw [hb']; exact hb⟩
     rw [hβ]
     have hfit : off + (xs.take (Nat.min l.length n)).length ≤ us.length := by rw [hxt, ← hcl]; have : Nat.min l.length n ≤ n := Nat.min_le_right l.length n; omega
     have hsl := qj hfit
     rw [hxt] at hsl
     refine ⟨_, setRow_heap w b _ _ tb _ hg, za.imp (Nat.le_refl _) (fun _ _ => .refl _) (fun _ h => h) hSw _ (hrel _ hsl (fun q hq hn => ?_) (fun j hj => ?_))⟩
     ·have := xc hfit q
      rw [hxt] at this
      rw [this, if_neg hn]
     ·have := xc hfit (off + j)
      rw [hxt] at this
      rw [this, if_pos (by omega), Nat.add_sub_cancel_left, List.getElem?_take, if_pos hj]
  ·cases h
 ·cases h
theorem z11 {z : Array Value} {n : Nat} (hz : 0 < z.size) : ∀ i, i < n → (madeCells z n).toList[i]? = z.toList[i % z.size]? := by
 intro i hi
 have h : i % z.size < z.size := Nat.mod_lt _ hz
 simp [madeCells, hi, h]
theorem zuf (hT : z7 P E) (hI : Inv c β S ob w) (hm : c.m0 ≤ ob.length) {t : TypeId} {p q : D} {pv qv : Value} {K : D → List Ob → Option R} {r : R} (h : zsq E ob t p q K = some r) (hp : RelD ob.length β S w p pv) (hq : RelD ob.length β S w q qv)
  {tm : List D} {vs : List Value} (hd : za ob.length β S w tm vs) :
  ∃ d ob' v w', K d ob' = some r ∧ (Instr.makeSlice t pv qv).run P w = .ok v w' ∧ Rel c (d :: tm) ob' (v :: vs) w' ∧ Same (fun _ => False) w w' := by
 unfold zsq at h
 split at h
 ·rename_i e k n k' n' hu
  split at h
  ·rename_i y hy
   obtain ⟨z, hz, hz2⟩ := Option.bind_eq_some_iff.1 h
   obtain ⟨hb, hK⟩ := ya hz2
   simp only [Bool.and_eq_true, decide_eq_true_eq, beq_iff_eq, fits] at hb
   obtain ⟨⟨h0, hnn⟩, hfit⟩ := hb
   subst hnn
   obtain ⟨hu1, hu2⟩ := hT.slice hu
   obtain ⟨_, hys, hyb, hyz⟩ := hT.tyOf hy
   obtain ⟨it, zv, hi1, hi2, hi3, hi4, hi5⟩ := hT.info hu2
   obtain ⟨rfl, _⟩ := hp
   obtain ⟨rfl, _⟩ := hq
   obtain ⟨m, rfl⟩ : ∃ m : Nat, n = (m : Int) := ⟨n.toNat, (Int.toNat_of_nonneg h0).symm⟩
   simp only [Int.toNat_natCast] at hK hfit
   have hm1 : m ≤ maxB := Nat.le_trans (Nat.le_mul_of_pos_right _ hyb) hfit
   obtain ⟨w', h1, h2, h3⟩ := run_make_full (P := P) w 0 t e it zv y.size hu1 hi1 hi2 (by rw [hi4, hys]) k k' m (by rw [hi5]; simp only [maxB] at hfit; rw [Nat.mul_comm]; omega) (by simp only [maxB, maxLen] at *; omega) (Nat.zero_le _)
   have hsm : Same (fun _ => False) w w' := (Same.of_grown h3).mono fun _ _ h => (nomatch h)
   have hzs : zv.cells.size = y.size := by rw [← Array.length_toList, hi3, hyz, hys]
   have hzc : ImmC S w y (fun j => zv.cells.toList[j]?) z.1 := by
    have hrel := za.const (n := 0) (β := fun _ => .blk 0) (S := S) (w := w) (E.ti e).zero
    have := zfv (ob := []) (β := fun _ => .blk 0) (S := S) (S' := S) (by simp) (fun _ h => h) (show ki [] false y _ [] = some (z.1, z.2) from hz) (fun i _ b hb => by simp [blks] at hb) hrel
    rw [hi3]
    exact this.2.1
   refine ⟨_, _, _, w', hK, h1, zlq (o' := .vec false e y (List.replicate m z.1)) hI hm hsm (fun b hb => ?_) ⟨_, ze0.of_own (by simpa using h2), by simpa using hm1, fun j x hj => ?_⟩ ⟨_, _, _, rfl⟩ hd, hsm⟩
   ·have := (h2.lt b (by simpa using hb)).2
    simp [Value.ownBlock] at hb
    subst hb
    exact ⟨Nat.le_refl _, this⟩
   ·rw [List.getElem?_replicate] at hj
    split at hj
    ·rename_i hjm
     simp only [Option.some.injEq] at hj
     subst hj
     have hpos := y.size_pos
     refine ImmC.congr (fun i hi => ?_) (ImmC.imp (fun _ h => h) (fun b hb => hsm.block b (hI.imm b hb) (fun h => h)) hzc)
     rw [z11 (by omega) _ (by
      have : (j + 1) * y.size ≤ m * y.size := Nat.mul_le_mul_right _ hjm
      rw [Nat.add_mul] at this; omega), hzs]
     congr 1
     rw [Nat.add_comm, Nat.add_mul_mod_self_right, Nat.mod_eq_of_lt hi]
    ·cases hj
  ·cases h
 ·cases h
theorem zvy (hT : z7 P E) (hI : Inv c β S ob w) (hm : c.m0 ≤ ob.length) {t : TypeId} {p q : D} {pv qv : Value} {K : D → List Ob → Option R} {r : R} (h : zvf E ob t q K = some r) (hp : ∃ k, pv = .int k 0) (hq : RelD ob.length β S w q qv)
  {tm : List D} {vs : List Value} (hd : za ob.length β S w tm vs) :
  ∃ d ob' v w', K d ob' = some r ∧ (Instr.makeSlice t pv qv).run P w = .ok v w' ∧ Rel c (d :: tm) ob' (v :: vs) w' ∧ Same (fun _ => False) w w' := by
 unfold zvf at h
 split at h
 ·rename_i e k n hu
  split at h
  ·rename_i y hy
   obtain ⟨hb, hK⟩ := ya h
   simp only [Bool.and_eq_true, decide_eq_true_eq, fits] at hb
   obtain ⟨h0, hfit⟩ := hb
   obtain ⟨hu1, hu2⟩ := hT.slice hu
   obtain ⟨_, hys, hyb, hyz⟩ := hT.tyOf hy
   obtain ⟨it, zv, hi1, hi2, hi3, hi4, hi5⟩ := hT.info hu2
   obtain ⟨k', rfl⟩ := hp
   obtain ⟨rfl, _⟩ := hq
   obtain ⟨m, rfl⟩ : ∃ m : Nat, n = (m : Int) := ⟨n.toNat, (Int.toNat_of_nonneg h0).symm⟩
   simp only [Int.toNat_natCast] at hfit
   have hm1 : m ≤ maxB := Nat.le_trans (Nat.le_mul_of_pos_right _ hyb) hfit
   obtain ⟨w', h1, h2, h3⟩ := run_make_own (P := P) w 0 t e it zv y.size hu1 hi1 hi2 (by rw [hi4, hys]) k' k m (by rw [hi5]; simp only [maxB] at hfit; rw [Nat.mul_comm]; omega) (by simp only [maxB, maxLen] at *; omega) (Nat.zero_le _)
   have hsm : Same (fun _ => False) w w' := (Same.of_grown h3).mono fun _ _ h => (nomatch h)
   refine ⟨_, _, _, w', hK, h1, zlq (o' := .vec false e y []) hI hm hsm (fun b hb => ?_) ⟨[], ze0.of_own (by simpa using h2), by simp, fun j x hj => by simp at hj⟩ ⟨_, _, _, rfl⟩ hd, hsm⟩
   have := (h2.lt b (by simpa using hb)).2
   simp [Value.ownBlock] at hb
   subst hb
   exact ⟨Nat.le_refl _, this⟩
  ·cases h
 ·cases h
/-! -/
theorem z64 {α : Type} {l : List α} {lo hi k : Nat} {z x : α} (h1 : lo ≤ hi) (h2 : hi ≤ l.length) (h : (l.take lo ++ List.replicate (hi - lo) z ++ l.drop hi)[k]? = some x) : (k < lo ∧ l[k]? = some x) ∨ (lo ≤ k ∧ k < hi ∧ x = z) ∨ (hi ≤ k ∧ l[k]? = some x) := by
 have e : (l.take lo).length = lo := by simp; omega
 by_cases a : k < lo
 ·rw [List.append_assoc, List.getElem?_append_left (by omega), List.getElem?_take, if_pos a] at h
  exact .inl ⟨a, h⟩
 ·by_cases b : k < hi
  ·rw [List.getElem?_append_left (by simp; omega), List.getElem?_append_right (by omega), e, List.getElem?_replicate, if_pos (by omega)] at h
   simp only [Option.some.injEq] at h
   exact .inr (.inl ⟨by omega, b, h.symm⟩)
  ·rw [List.getElem?_append_right (by simp; omega), List.getElem?_drop] at h
   refine .inr (.inr ⟨by omega, ?_⟩)
   rw [← h]
   congr 1
   simp; omega
theorem z0a (hT : z7 P E) (hI : Inv c β S ob w) (hm : c.m0 ≤ ob.length) {t ty : TypeId} {p : D} {pv : Value} {K : D → List Ob → List Nat → Option R} {r : R} (h : z3e E ob t p K = some r) (hp : RelD ob.length β S w p pv)
  {tm : List D} {vs : List Value} (hd : za ob.length β S w tm vs) :
  ∃ d ob' wr v w', K d ob' wr = some r ∧ (Builtin.clear_ #[t] ty #[pv]).run P w = .ok v w' ∧ Rel c (d :: tm) ob' (v :: vs) w' ∧ Same (fun b => ∃ i, i ∈ wr ∧ b ∈ blks β ob i) w w' := by
 unfold z3e at h
 split at h
 ·rename_i e i lo hi sz hu
  split at h
  ·rename_i e' y l hv
   split at h
   ·rename_i hc
    obtain ⟨rfl, rfl, hsz, hbad⟩ := hc
    obtain ⟨z, hz, hK⟩ := Option.bind_eq_some_iff.1 h
    obtain ⟨h1, v, h2, ⟨xs, h3, h4, h5⟩, h6⟩ := ze1 hI.obj hv
    obtain ⟨hlt, hle, A, len, cap, c', A', hβ, hhi, rfl, hcc, hcm, hnil, hA⟩ := hp
    rw [h2] at hβ
    injection hβ with hβ
    subst hβ
    obtain ⟨hu1, hu2⟩ := hT.slice hu
    obtain ⟨it, zv, hi1, hi2, hi3, hi4, hi5⟩ := hT.info hu2
    have hlen : len = l.length := by
     rcases h3.2 with ⟨g, g0⟩ | ⟨g, cap, cur, fz, g, _⟩
     ·injection g with _ g _; omega
     ·injection g
    subst hlen
    by_cases hn : hi - lo = 0
    ·have hloh : lo = hi := by omega
     have hdata : l.take lo ++ List.replicate (hi - lo) z.1 ++ l.drop hi = l := by
      rw [hn, List.replicate_zero, List.append_nil, hloh, List.take_append_drop]
     rw [hdata] at hK
     have hset : ob.set i (.vec false e' y l) = ob := by
      apply List.ext_getElem?
      intro k
      rw [List.getElem?_set]
      split
      ·rename_i e
       subst e
       first | exact h1.symm | (rw [if_pos hlt]; exact h1.symm)
      ·rfl
     rw [hset] at hK
     refine ⟨_, _, _, .tuple #[], w, hK, ?_, ⟨β, S, hI, _, _, rfl, ⟨[], rfl, rfl⟩, hd⟩, Same.refl _ _⟩
     rw [hn]
     simp only [Builtin.clear_]
     cases A' with
     | none => simp [run_underlying hu1, Sem.run_bind]
     | some a => simp [run_underlying hu1, Sem.run_bind]
    ·have hlo : lo < hi := by omega
     rcases h3.2 with ⟨hnv, h0⟩ | ⟨g, cap', cur, fz, hgv, hg, hfz, hnc, hcm', hcs, htk⟩
     ·injection hnv with _ hnv _; omega
     ·injection hgv with hgv hgl hgc
      subst hgv
      subst hgc
      have hA' := hA hlo
      simp only [Option.map_some, Addr.add_lit, Nat.zero_add] at hA'
      subst hA'
      have hpos := y.size_pos
      have hrel := za.const (n := 0) (β := fun _ => .blk 0) (S := S) (w := w) (E.ti e').zero
      have hzc : ImmC S w y (fun j => zv.cells.toList[j]?) z.1 := by
       have := zfv (ob := []) (β := fun _ => .blk 0) (S := S) (S' := S) (by simp) (fun _ h => h) (show ki [] false y _ [] = some (z.1, z.2) from hz) (fun i _ b hb => by simp [blks] at hb) hrel
       rw [hi3]
       exact this.2.1
      have hys : zv.cells.toList.length = y.size := by
       have := zfv (ob := []) (β := fun _ => .blk 0) (S := S) (S' := S) (by simp) (fun _ h => h) (show ki [] false y _ [] = some (z.1, z.2) from hz) (fun i _ b hb => by simp [blks] at hb) hrel
       rw [hi3]
       exact this.1
      have hone : ∀ u, u ∈ zv.cells.toList → u.oneCell' = true := by
       have := za.cells (n := 0) (β := fun _ => .blk 0) hys hzc
       exact za.oneCell this (zpd _ _)
      have hzs : zv.cells.size = y.size := by rw [← Array.length_toList, hys]
      generalize hzz : (madeCells zv.cells ((hi - lo) * y.size)).toList = zs
      have hzl : zs.length = (hi - lo) * y.size := by rw [← hzz, Array.length_toList, size_madeCells]
      have hmade : ∀ j, j < (hi - lo) * y.size → zs[j]? = zv.cells.toList[j % y.size]? := fun j hj => by
       rw [← hzz, z11 (by omega) _ hj, hzs]
      have hzone : ∀ u, u ∈ zs → u.oneCell' = true := fun u hu => by
       obtain ⟨j, hj⟩ := List.mem_iff_getElem?.1 hu
       have hjl := (List.getElem?_eq_some_iff.1 hj).1
       rw [hmade j (by omega)] at hj
       exact hone u (List.mem_of_getElem? hj)
      have hmul : lo * y.size + (hi - lo) * y.size = hi * y.size := by rw [← Nat.add_mul]; congr 1; omega
      have hmul2 : hi * y.size ≤ l.length * y.size := Nat.mul_le_mul_right _ hhi
      have hmul3 : l.length * y.size ≤ cap * y.size := Nat.mul_le_mul_right _ hnc
      have hfz' : fz = (0, 0) ∨ cur.size ≤ fz.1 := hfz.imp id And.right
      have hin : lo * y.size + zs.length ≤ cur.size := by omega
      have hst := zlo P g (lo * y.size) e' fz zs 0 cur w hg hfz' (by simpa using hin) hzone
      simp only [Nat.add_zero] at hst
      have hrun : (Builtin.clear_ #[t] ty #[.slice (some ⟨g, lo * y.size, none⟩) (hi - lo) c']).run P w = .ok (.tuple #[]) (w.setRow g (cur.toList.take (lo * y.size) ++ zs ++ cur.toList.drop (lo * y.size + zs.length)).toArray) := by
       have hzcell : (Builtin.zeroCells zv.cells (hi - lo)).toList = zs := by rw [← hzz]; simp only [Builtin.zeroCells, madeCells, hzs]
       obtain ⟨q, hq⟩ : ∃ q, hi - lo = q + 1 := ⟨hi - lo - 1, by omega⟩
       rw [hq] at hzcell ⊢
       simp only [Builtin.clear_]
       simp [run_underlying hu1, Sem.run_bind, zeroValue, typeInfo, run_program, hi1, hi2, hzcell, hst]
      refine ⟨_, _, _, _, _, hK, hrun, ?_, (Same.setRow w g _).mono fun b' _ e => ⟨i, List.mem_singleton.2 rfl, by rw [e]; exact h6 g (by simp [Value.ownBlock])⟩⟩
      have hgb : g ∈ blks β ob i := h6 g (by simp [Value.ownBlock])
      have hwS := Same.setRow w g (cur.toList.take (lo * y.size) ++ zs ++ cur.toList.drop (lo * y.size + zs.length)).toArray
      have hSb : ∀ b', S b' → (w.setRow g (cur.toList.take (lo * y.size) ++ zs ++ cur.toList.drop (lo * y.size + zs.length)).toArray).heap[b']? = w.heap[b']? := fun b' hs => hwS.block b' (hI.imm b' hs) fun e => (hI.own i b' (e ▸ hgb)).1 hs
      refine zbl (ds := .tup [] :: tm) hI hm h1 rfl rfl (hwS.mono fun b' _ e => by rw [h2]; simp [GL.blocks, Value.ownBlock, e]) (by simp [World.setRow]) ?_ ⟨_, _, rfl, ⟨[], rfl, rfl⟩, hd⟩
      rw [h2]
      have hxl := h3.1
      have hcut : cur.toList.length = cap * y.size := by simpa using hcs
      have hin' : lo * y.size + zs.length ≤ cur.toList.length := by omega
      have hxin : lo * y.size + zs.length ≤ xs.length := by omega
      have hlen' : (l.take lo ++ List.replicate (hi - lo) z.1 ++ l.drop hi).length = l.length := by simp; omega
      refine ⟨xs.take (lo * y.size) ++ zs ++ xs.drop (lo * y.size + zs.length), ⟨?_, .inr ⟨g, cap, _, fz, by rw [hlen'], setRow_heap w g cur _ e' fz hg, ?_, by rw [hlen']; exact hnc, hcm', ?_, ?_⟩⟩, by rw [hlen']; exact h4, ?_⟩
      ·rw [qj hxin, hxl, hlen']
      ·rcases hfz with hfz | hfz
       ·exact .inl hfz
       ·cases hfz.1
      ·rw [List.size_toArray, qj hin', hcut]
      ·apply List.ext_getElem?
       intro j
       rw [hlen', List.getElem?_take]
       simp only [List.toList_toArray]
       rw [xc hin', xc hxin]
       have hxj : ∀ j, xs[j]? = if j < l.length * y.size then cur.toList[j]? else none := by
        intro j
        rw [← htk, List.getElem?_take]
       rw [hxj j]
       by_cases h13 : j < l.length * y.size
       ·rw [if_pos h13, if_pos h13]
       ·rw [if_neg h13, if_neg h13, if_neg (by omega)]
      ·intro k x hk
       rcases z64 hle hhi hk with ⟨h7, h8⟩ | ⟨h7, h8, rfl⟩ | ⟨h7, h8⟩
       ·refine ImmC.congr (fun j hj => ?_) (ImmC.imp (fun _ h => h) hSb (h5 k x h8))
        have hm1 := Nat.mul_le_mul_right y.size (show k + 1 ≤ lo from h7)
        rw [Nat.add_mul] at hm1
        rw [xc hxin, if_neg (by omega)]
       ·refine ImmC.congr (fun j hj => ?_) (ImmC.imp (fun _ h => h) hSb hzc)
        have hm1 := Nat.mul_le_mul_right y.size (show k + 1 ≤ hi from h8)
        have hm2 := Nat.mul_le_mul_right y.size h7
        rw [Nat.add_mul] at hm1
        rw [xc hxin, if_pos (by omega), hmade _ (by omega)]
        congr 1
        have : k * y.size + j - lo * y.size = j + (k - lo) * y.size := by rw [Nat.sub_mul]; omega
        rw [this, Nat.add_mul_mod_self_right, Nat.mod_eq_of_lt hj]
       ·refine ImmC.congr (fun j hj => ?_) (ImmC.imp (fun _ h => h) hSb (h5 k x h8))
        have hm1 := Nat.mul_le_mul_right y.size h7
        rw [xc hxin, if_neg (by omega)]
   ·cases h
  ·cases h
 ·cases h
/-! -/
theorem z58 (hI : Inv c β S ob w) (hm : c.m0 ≤ ob.length) {tm : List D} {vs : List Value} (hd : za ob.length β S w tm vs) {s : Bs} (hs : s.length ≤ maxB) :
  Rel c (.ptr ob.length 0 :: tm) (ob ++ [.sit s 0]) (.pointer (some ⟨w.heap.size, 0, none⟩) :: vs) (w.alloc (.stringIter ⟨s.toArray⟩ 0)) := by
 have hw := Same.alloc (fun _ => False) w (.stringIter ⟨s.toArray⟩ 0)
 refine ⟨upd β ob.length (.blk w.heap.size), S, hI.push hm hw (fun b hb => ?_) ⟨World.alloc_heap_new w _, hs⟩, ?_⟩
 ·simp only [GL.blocks, List.mem_singleton] at hb
  subst hb
  simp
 ·rw [List.length_append]
  exact ⟨_, vs, rfl, ⟨by simp, .inl ⟨w.heap.size, jh _ _ _, rfl⟩⟩, hd.push hI hw⟩
theorem z3t (s : ByteArray) (i : Nat) : (Utf8.decode s i).1 ≤ 2147483647 := by
 have hg : ∀ k, (s.get! k).toNat < 256 := fun k => (s.get! k).toNat_lt
 unfold Utf8.decode
 have h0 := hg (i + 0)
 have h1 := hg (i + 1)
 have h2 := hg (i + 2)
 have h3 := hg (i + 3)
 dsimp only
 split
 ·simp only; omega
 ·split
  ·split
   ·simp only; omega
   ·simp only [Utf8.runeError]; omega
  ·split
   ·split
    ·simp only; omega
    ·simp only [Utf8.runeError]; omega
   ·split
    ·split
     ·simp only; omega
     ·simp only [Utf8.runeError]; omega
    ·simp only [Utf8.runeError]; omega
theorem z3u {b : Nat} {s : Bs} {pos : Nat} {ty : TypeId} (hb : w.heap[b]? = some (.stringIter ⟨s.toArray⟩ pos)) (hs : s.length ≤ maxB) : ∃ v w', (Instr.next (.pointer (some ⟨b, 0, none⟩)) true ty).run P w = .ok v w' ∧ Same (fun b' => b' = b) w w' ∧ w'.heap.size = w.heap.size ∧
  w'.heap[b]? = some (.stringIter ⟨s.toArray⟩ (zli s pos)) ∧ ∀ n β S w', RelD n β S w' (.nxt (decide (pos < s.length)) [.int .i64 pos, .int .i32 (zzs s pos)]) v := by
 have hsz : (⟨s.toArray⟩ : ByteArray).size = s.length := by simp [ByteArray.size]
 by_cases hlt : pos < s.length
 ·refine ⟨.tuple #[.bool true, goInt pos, .int .i32 (Utf8.decode ⟨s.toArray⟩ pos).1], w.putObj b (.stringIter ⟨s.toArray⟩ (pos + (Utf8.decode ⟨s.toArray⟩ pos).2)), ?_, ⟨rfl, rfl, rfl, by simp, fun b' _ hn => World.putObj_heap_other hn⟩, by simp, ?_, fun n β S w' => ⟨fun _ => ⟨[goInt pos, .int .i32 (Utf8.decode ⟨s.toArray⟩ pos).1], rfl, ?_⟩, fun h => by simp [hlt] at h⟩⟩
  ·simp only [Instr.next]
   simp [Sem.run_bind, getObj, setObj, Sem.run, hb, Result.andThen, hsz, hlt, World.putObj]
  ·rw [World.putObj_heap_same (Array.getElem?_eq_some_iff.1 hb).1]
   simp [zli, hlt]
  ·refine ⟨_, _, rfl, ⟨rfl, zvo _ (by omega)⟩, _, _, rfl, ⟨rfl, zxv ⟨?_, ?_⟩⟩, rfl⟩
   ·show (-2147483648 : Int) ≤ _; simp only [zzs]; omega
   ·show _ ≤ (2147483647 : Int); have := z3t ⟨s.toArray⟩ pos; simp only [zzs]; omega
 ·refine ⟨.tuple #[.bool false], w, ?_, Same.refl _ _, rfl, by simp [zli, hlt, hb], fun n β S w' => ⟨fun h => by simp [hlt] at h, fun _ => rfl⟩⟩
  simp only [Instr.next]
  simp [Sem.run_bind, getObj, Sem.run, hb, Result.andThen, hsz, hlt]
end
end Go.En
