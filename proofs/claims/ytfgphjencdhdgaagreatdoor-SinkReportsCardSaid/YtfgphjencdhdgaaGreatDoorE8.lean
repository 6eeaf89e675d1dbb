/- Text E8 of this seat: written by a program of ours, or by hand; checked by Lean. -/
import Derived.Test.YtfgphjencdhdgaaGreatDoorE7
import Derived.Still
import Derived.Tactics
set_option linter.unusedVariables false
set_option linter.unusedSimpArgs false
namespace Go.En
open Go.RowKit
theorem z0e {R : Type} {r : R} {K : FuncId → Option R} : ∀ {fs : List FuncId} {k : Nat}, selR k fs K = some r → ∃ g, fs[k]? = some g ∧ K g = some r
 | [], k, h => by simp [selR] at h
 | f :: fs, k, h => by
  unfold selR at h
  cases k with
  | zero => exact ⟨f, rfl, h⟩
  | succ k =>
   obtain ⟨g, h1, h2⟩ := z0e (fs := fs) (k := k) h
   exact ⟨g, by simpa using h1, h2⟩

structure zs4 (P : Program) (E : Env) : Prop where
 types : z7 P E
 calls : ∀ g s, s ∈ E.call g → zh P E g s
 mixed : P.follows .mixedOrders = true
 ext : ∀ f, E.ext f = some .indexByte → ∀ (s : ByteArray) (n : Int) (w : World), (callFunc f #[.string s, .int .u8 n]).run P w = .ok (.value (.int .i64 (Lib.indexByte s.data.toList n.toNat.toUInt8))) w
 it : ∀ {α β : Type} {f : α → Option (α ⊕ β)} {a : α} {b : β}, E.it f a = some b → ∃ n, jd f n a = some b
 lp0 : E.lpAt = 0
 its : ∀ f I, I ∈ E.its f → ∀ Y : I.sigY.In → Option I.sigY.Out, zh P { E with yl := some ⟨I.sigY, Y⟩ } f ⟨I.sig, I.F Y⟩
 enters : ∀ g, (E.call g ≠ [] ∨ E.its g ≠ []) → ∃ fn, P.funcs[g]? = some fn ∧ (fn.name == "runtime.NumGoroutine") = false ∧ fn.body.isNone = false
def z34 (P : Program) (o : Oper) (a : Act) (w : World) (Φ : Value → World → Prop) : Prop :=
 ∀ (next : Act → World → Prop) (Q : Exit → Act → World → Prop), (∀ v w', Φ v w' → next (a.put o.dst v) w') → o.wp P a w next Q
section
variable {P : Program} {E : Env} {c : Ctx} {β : Nat → GL} {S : Nat → Prop} {ob : List Ob} {w w' : World} {R : Type} {o : Oper} {a : Act} {Φ : Value → World → Prop}
theorem zb {v : Value} (h : (execOp a.eval o).run P w = .ok (.value v) w') (hv : Φ v w') : z34 P o a w Φ := fun next Q hn => by
 unfold Oper.wp
 rw [h]
 exact hn v w' hv
theorem zs5 (h : (execOp a.eval o).run P w = .ok .skip w') (hv : Φ undef w') : z34 P o a w Φ := fun next Q hn => by
 unfold Oper.wp
 rw [h]
 exact hn undef w' hv
theorem zx8 {f : FuncId} {args : Array Value} (h : (execOp a.eval o).run P w = .ok (.enter f args) w) (hv : Calls P f args w fun e w' => ∃ v, e = .returned v ∧ Φ v w') : z34 P o a w Φ := fun next Q hn => by
 unfold Oper.wp
 rw [h]
 exact hv.mono fun e w' ⟨v, he, hφ⟩ => by subst he; exact hn v w' hφ
theorem za.evals {n : Nat} {tm : List D} (h : za n β S w tm a.tmps.toList) : ∀ (xs : List Operand), za n β S w (xs.map (evD tm)) (xs.map a.eval)
 | [] => rfl
 | x :: xs => ⟨_, _, rfl, RelD.eval h x, za.evals h xs⟩
theorem zcy {tm : List D} {n : Nat} (h : za n β S w tm a.tmps.toList) (x : Option Operand) : zyu (x.map (evD tm)) (x.map a.eval) := by
 cases x with
 | none => trivial
 | some x => exact ⟨n, β, S, w, RelD.eval h x⟩
theorem zeb {f : FuncId} {fn : Func} {args : Array Value} (hf : P.funcs[f]? = some fn) (hn : (fn.name == "runtime.NumGoroutine") = false) (hb : fn.body.isNone = false) : (callFunc f args).run P w = .ok (.enter f args) w := by
 have h1 : ¬ fn.name = "runtime.NumGoroutine" := by simpa using hn
 have h2 : ¬ fn.body = none := by cases h : fn.body with
  | none => rw [h] at hb; cases hb
  | some _ => simp
 simp [callFunc, hf, h1, h2]
theorem zls {f : Int → Int → Int} {p q d : D} (h : z1q f p q = some d) : ∃ k x y, p = .int k x ∧ q = .int k y ∧ d = .int k (f x y) := by
 unfold z1q at h
 split at h
 ·rename_i k x k' y
  split at h
  ·rename_i e
   subst e
   simp only [Option.some.injEq] at h
   exact ⟨k, x, y, rfl, rfl, h.symm⟩
  ·cases h
 ·cases h
theorem zu8 {n : Nat} {tm : List D} (h : za n β S w tm a.tmps.toList) (xs : Array Operand) : ∃ vs, (xs.map a.eval) = vs.toArray ∧ za n β S w (xs.toList.map (evD tm)) vs :=
 ⟨xs.toList.map a.eval, by apply Array.ext'; simp, za.evals h _⟩
theorem zt8 : ∀ (l : List UInt8) (c : UInt8), Lib.indexByte l c ≤ l.length
 | [], c => by simp [Lib.indexByte]
 | b :: l, c => by
  have := zt8 l c
  unfold Lib.indexByte
  split
  ·simp only [List.length_cons]; omega
  ·split
   ·simp only [List.length_cons]; omega
   ·simp only [List.length_cons]; omega
theorem zy3 (l : List UInt8) (c : UInt8) (h : l.length ≤ maxB) : Rng .i64 (Lib.indexByte l c) := by
 have h1 := Lib.indexByte_ge l c
 have h2 := zt8 l c
 refine zxv ⟨?_, ?_⟩
 ·show (-9223372036854775808 : Int) ≤ _; omega
 ·show _ ≤ (9223372036854775807 : Int); simp only [maxB] at h; omega
theorem z0f (hE : zs4 P E) (hcy : CtxY P E c) (hI : Inv c β S ob w) {tm : List D} (hd : za ob.length β S w tm a.tmps.toList) {K : D → List Ob → List Nat → List Nat → Option R} {r : R} (h : aOp E (evD tm) ob o.type o.op K = some r) :
  ∃ d ob' fr wr, K d ob' fr wr = some r ∧ z34 P o a w fun v w' => RelF c fr (d :: tm) ob' (v :: a.tmps.toList) w' ∧ Same (fun b => ∃ i, i ∈ wr ∧ b ∈ blks β ob i) w w' := by
 have hT := hE.types
 have hc := hcy.toCtxOK
 have hm := hI.le
 have ev := fun x => RelD.eval hd x
 have keep : ∀ {d : D} {v : Value}, RelD ob.length β S w d v → RelF c [] (d :: tm) ob (v :: a.tmps.toList) w ∧ Same (fun b => ∃ i, i ∈ ([] : List Nat) ∧ b ∈ blks β ob i) w w := fun h => ⟨⟨β, S, hI, _, _, rfl, h, hd⟩, Same.refl _ _⟩
 generalize ho : o.op = op at h
 unfold aOp at h
 split at h
 ·exact ⟨_, _, _, _, h, zb (by simp [execOp, ho]) (keep (ev _))⟩
 ·exact ⟨_, _, _, _, h, zb (by simp [execOp, ho]) (keep (ev _))⟩
 ·rename_i cnd x y
  split at h
  ·rename_i b hb
   have hcv : a.eval cnd = .bool b := by have := ev cnd; rw [hb] at this; exact this
   have hx := ev x
   have hy := ev y
   split at h
   ·rename_i y' z' e1 e2
    rw [e1] at hx
    rw [e2] at hy
    cases b
    ·exact ⟨_, _, _, _, h, zb (v := a.eval y) (by simp [execOp, ho, hcv, asBool]) (keep hy)⟩
    ·exact ⟨_, _, _, _, h, zb (v := a.eval x) (by simp [execOp, ho, hcv, asBool]) (keep hx)⟩
   ·rename_i k y' k' z' e1 e2
    split at h
    ·rename_i hk
     subst hk
     rw [e1] at hx
     rw [e2] at hy
     cases b
     ·exact ⟨_, _, _, _, h, zb (v := a.eval y) (by simp [execOp, ho, hcv, asBool]) (keep hy)⟩
     ·exact ⟨_, _, _, _, h, zb (v := a.eval x) (by simp [execOp, ho, hcv, asBool]) (keep hx)⟩
    ·cases h
   ·rename_i y' z' e1 e2
    rw [e1] at hx
    rw [e2] at hy
    cases b
    ·exact ⟨_, _, _, _, h, zb (v := a.eval y) (by simp [execOp, ho, hcv, asBool]) (keep hy)⟩
    ·exact ⟨_, _, _, _, h, zb (v := a.eval x) (by simp [execOp, ho, hcv, asBool]) (keep hx)⟩
   ·cases b
    ·exact ⟨_, _, _, _, h, zb (v := a.eval y) (by simp [execOp, ho, hcv, asBool]) (keep hy)⟩
    ·exact ⟨_, _, _, _, h, zb (v := a.eval x) (by simp [execOp, ho, hcv, asBool]) (keep hx)⟩
  ·cases h

 ·rename_i t
  split at h
  ·cases h
  ·rename_i hb
   obtain ⟨z, h1, h2⟩ := z3n (P := P) (w := w) hT (t := t) (by simpa using hb)
   split at h
   ·rename_i e hbl
    have hz := hT.bldOf (by simpa using hb) hbl
    have hzc : z.cells = #[.pointer none, .slice none 0 0] := by
     apply Array.ext'
     rw [h2, hz]
    rw [hzc] at h1
    exact ⟨_, _, _, _, h, zb (w' := w.alloc (.cells #[.pointer none, .slice none 0 0] t)) (by simp only [execOp, ho, Sem.run_bind, h1, Result.andThen_ok, Sem.run_pure]) ⟨z56 hI hm hd, Same.alloc _ _ _⟩⟩
   ·refine ⟨_, _, _, _, h, zb (w' := w.alloc (.cells z.cells t)) (by simp only [execOp, ho, Sem.run_bind, h1, Result.andThen_ok, Sem.run_pure]) ⟨zz0 hI hm hd ?_, Same.alloc _ _ _⟩⟩
    rw [h2]
    exact za.const _

 ·rename_i t x
  split at h
  ·rename_i hok
   have hk : (evD tm x).known = true := by
    cases hx : evD tm x <;> first | rfl | (rw [hx] at hok; simp [D.cells, D.cellOk] at hok)
   exact ⟨_, _, _, _, h, zb (by simp only [execOp, ho, Sem.run_bind, z57, Result.andThen_ok, Sem.run_pure]) ⟨zz0 hI hm hd (RelD.cells (ev x) hk), Same.alloc _ _ _⟩⟩
  ·cases h

 ·rename_i t ps
  obtain ⟨d, v, h1, h2, h3⟩ := zt0 (P := P) (vs := ps.map fun (i, x) => (i, a.eval x)) hT h (by simp [Function.comp_def]) (by
   have := za.evals hd (ps.toList.map (·.2))
   simpa [Function.comp_def, List.map_map] using this)
  exact ⟨_, _, _, _, h1, zb (by simp only [execOp, ho, Sem.run_bind, h2 w, Result.andThen_ok, Sem.run_pure]) (keep h3)⟩

 ·rename_i t n ps
  obtain ⟨d, ob', fr, v, w1, h1, h2, h3, hsm⟩ := zs2 (P := P) (pvs := ps.map fun (i, x) => (i, a.eval x)) hT hI hm h (by simp [Function.comp_def]) (by
   have := za.evals hd (ps.toList.map (·.2))
   simpa [Function.comp_def, List.map_map] using this) hd
  exact ⟨_, _, _, _, h1, zb (by simp only [execOp, ho, Sem.run_bind, h2, Result.andThen_ok, Sem.run_pure]) ⟨h3, hsm.mono fun _ _ h => h.elim⟩⟩

 ·rename_i t x
  obtain ⟨d, v, h1, h2, h3⟩ := zp7 (P := P) hT hc hI h (ev x)
  exact ⟨_, _, _, _, h1, zb (by simp only [execOp, ho, Sem.run_bind, h2 w (fun _ _ => rfl), Result.andThen_ok, Sem.run_pure]) (keep h3)⟩

 ·rename_i t x v
  obtain ⟨ob', fr, w1, h1, h2, h3⟩ := zz3 (P := P) hT hI hm h (ev x) (ev v) hd
  exact ⟨_, _, _, _, h1, zs5 (by simp only [execOp, ho, Sem.run_bind, h2, Result.andThen_ok, Sem.run_pure]) ⟨h3.1, h3.2.mono fun b _ ⟨i, hi, hb⟩ => ⟨i, List.mem_append_left _ hi, hb⟩⟩⟩

 ·rename_i x
  have hx := ev x
  split at h
  ·rename_i i off he
   rw [he] at hx
   have hx' := hx
   rcases hx.2 with ⟨b, _, hv⟩ | ⟨b, u, _, hv⟩ <;> exact ⟨_, _, _, _, h, zb (v := a.eval x) (by simp [execOp, ho, hv]) (keep hx')⟩
  ·rename_i t y off he
   rw [he] at hx
   obtain ⟨ad, hv, _⟩ := id hx
   exact ⟨_, _, _, _, h, zb (v := a.eval x) (by simp [execOp, ho, hv]) (keep hx)⟩
  ·rename_i i k sz off he
   rw [he] at hx
   obtain ⟨_, g, len, cap, _, hv⟩ := id hx
   exact ⟨_, _, _, _, h, zb (v := a.eval x) (by simp [execOp, ho, hv]) (keep hx)⟩
  ·rename_i i g k sz off n es o' he
   rw [he] at hx
   obtain ⟨_, ⟨q, hv⟩, _⟩ := id hx
   exact ⟨_, _, _, _, h, zb (v := a.eval x) (by simp [execOp, ho, hv]) (keep hx)⟩
  ·rename_i g off he
   rw [he] at hx
   have hv := id hx
   exact ⟨_, _, _, _, h, zb (v := a.eval x) (by simp [execOp, ho, show a.eval x = _ from hv]) (keep hx)⟩
  ·rename_i f fi ca he
   rw [he] at hx
   obtain ⟨vs, us, hv, _⟩ := id hx
   exact ⟨_, _, _, _, h, zb (v := a.eval x) (by simp [execOp, ho, hv]) (keep hx)⟩
  ·cases h

 ·rename_i op t x y yt
  obtain ⟨d, v, h1, h2, h3⟩ := zxx (P := P) hT hI hd h
  exact ⟨_, _, _, _, h1, zb (by simp only [execOp, ho]; rw [Sem.run_bind, h2 w]; rfl) (keep h3)⟩

 ·rename_i t x
  have hx := ev x
  split at h
  ·rename_i k k' n hu he
   rw [he] at hx
   split at h
   ·rename_i hk
    subst hk
    exact ⟨_, _, _, _, h, zb (v := .iface t (a.eval x)) (by simp [execOp, ho, Instr.makeInterface, run_underlying (hT.int hu)]) (keep ⟨by rw [hx.1], hx.2⟩)⟩
   ·cases h
  ·rename_i e i off hu he
   exact ⟨_, _, _, _, h, zb (v := .iface t (a.eval x)) (by simp [execOp, ho, Instr.makeInterface, run_underlying (hT.pointee hu)]) (keep ⟨t, a.eval x, rfl⟩)⟩
  ·cases h

 ·rename_i t x y
  split at h
  ·rename_i hx
   have hx0 : ∃ k, a.eval x = .int k 0 := by
    unfold z5t at hx
    split at hx
    ·exact ⟨_, rfl⟩
    ·cases hx
   obtain ⟨d, ob', v, w1, h1, h2, h3, hsm⟩ := zvy (P := P) (p := evD tm x) hT hI hm h hx0 (ev y) hd
   exact ⟨_, _, _, _, h1, zb (by simp only [execOp, ho, Sem.run_bind, h2, Result.andThen_ok, Sem.run_pure]) ⟨h3, hsm.mono fun _ _ h => h.elim⟩⟩
  ·obtain ⟨d, ob', v, w1, h1, h2, h3, hsm⟩ := zuf (P := P) hT hI hm h (ev x) (ev y) hd
   exact ⟨_, _, _, _, h1, zb (by simp only [execOp, ho, Sem.run_bind, h2, Result.andThen_ok, Sem.run_pure]) ⟨h3, hsm.mono fun _ _ h => h.elim⟩⟩

 ·rename_i t
  obtain ⟨d, ob', v, w1, h1, h2, h3, hsm⟩ := zw4 (P := P) hI hm h hd
  exact ⟨_, _, _, _, h1, zb (by simp only [execOp, ho, Option.map_none, Sem.run_bind, h2, Result.andThen_ok, Sem.run_pure]) ⟨h3, hsm.mono fun _ _ h => h.elim⟩⟩

 ·rename_i t m k x
  split at h
  ·rename_i i hx
   have hp := ev m
   rw [hx] at hp
   obtain ⟨ob', w1, h1, h2, h3, hsm⟩ := zue (P := P) hT hI hm h hp (ev k) (ev x) hd
   exact ⟨_, _, _, _, h1, zs5 (by simp only [execOp, ho, Sem.run_bind, h2, Result.andThen_ok, Sem.run_pure]) ⟨h3, hsm⟩⟩
  ·cases h

 ·rename_i t x
  split at h
  ·rename_i b hb
   have hv : a.eval x = .bool b := by have := ev x; rw [hb] at this; exact this
   exact ⟨_, _, _, _, h, zb (v := .bool (!b)) (by simp [execOp, ho, hv, Op.unary]) (keep rfl)⟩
  ·cases h
 ·rename_i t x
  split at h
  ·rename_i k n hb
   have hv : a.eval x = .int k n ∧ Rng k n := by have := ev x; rw [hb] at this; exact this
   exact ⟨_, _, _, _, h, zb (v := .int k (k.wrap (0 - n))) (by simp [execOp, ho, hv.1, Op.unary, Op.intArith]) (keep ⟨rfl, zcc _ _⟩)⟩
  ·cases h
 ·rename_i t x
  split at h
  ·rename_i k n hb
   have hv : a.eval x = .int k n ∧ Rng k n := by have := ev x; rw [hb] at this; exact this
   exact ⟨_, _, _, _, h, zb (v := .int k (k.wrap ((BitVec.ofInt k.bits (xorC k) ^^^ BitVec.ofInt k.bits n).toNat : Int))) (by simp [execOp, ho, hv.1, Op.unary, Op.intBits, xorC]) (keep ⟨rfl, zcc _ _⟩)⟩
  ·cases h

 ·rename_i t x
  split at h
  ·rename_i s hu hx
   have hv : a.eval x = .string ⟨s.toArray⟩ ∧ s.length ≤ maxB := by have := ev x; rw [hx] at this; exact this
   refine ⟨_, _, _, _, h, zb (v := .pointer (some ⟨w.heap.size, 0, none⟩)) (w' := w.alloc (.stringIter ⟨s.toArray⟩ 0)) ?_ ⟨z58 hI hm hd hv.2, Same.alloc _ _ _⟩⟩
   simp only [execOp, ho, hv.1, Instr.range, Sem.run_bind, run_underlying (hT.str hu), Result.andThen_ok, Sem.run_pure, run_newObj_alloc]
  ·cases h

 ·rename_i x
  split at h
  ·rename_i i hx
   split at h
   ·rename_i s pos hob
    have hv := ev x
    rw [hx] at hv
    obtain ⟨hlt, hv⟩ := hv
    have ho1 := getD_some hob (by simp)
    have ho2 := hI.obj i _ ho1
    obtain ⟨b, hβ, hpv⟩ : ∃ b, β i = .blk b ∧ a.eval x = .pointer (some ⟨b, 0, none⟩) := by
     rcases hv with ⟨b, h1, h2⟩ | ⟨b, u, h1, h2⟩
     ·exact ⟨b, h1, h2⟩
     ·rw [h1] at ho2; exact ho2.elim
    rw [hβ] at ho2
    obtain ⟨hheap, hsl⟩ := ho2
    obtain ⟨v, w', h1, h2, h3, h4, h5⟩ := z3u (P := P) (ty := o.type) hheap hsl
    refine ⟨_, _, _, _, h, zb (v := v) (w' := w') ?_ ⟨?_, h2.mono fun b' _ e => ⟨i, List.mem_singleton.2 rfl, zj.2 ⟨_, ho1, rfl, by rw [hβ, e]; exact List.mem_singleton.2 rfl⟩⟩⟩⟩
    ·simp only [execOp, ho, hpv, Sem.run_bind, h1, Result.andThen_ok, Sem.run_pure]
    ·refine zbl (ds := .nxt _ _ :: tm) (o' := .sit s (zli s pos)) hI hm ho1 rfl rfl (h2.mono fun b' _ e => by rw [hβ, e]; exact List.mem_singleton.2 rfl) h3 ?_ ⟨_, _, rfl, h5 _ _ _ _, hd⟩
     rw [hβ]
     exact ⟨h4, hsl⟩
   ·cases h
  ·cases h

 ·rename_i s t x
  split at h
  ·rename_i i e0 hv hu0
   have hx := ev x
   rw [hv] at hx
   obtain ⟨d, ob', v, w1, h1, h2, h3, hsm⟩ := z01 (P := P) hT hI hm h hx hd
   exact ⟨_, _, _, _, h1, zb (by simp only [execOp, ho, Sem.run_bind, h2, Result.andThen_ok, Sem.run_pure]) ⟨h3, hsm.mono fun b _ hb => ⟨i, List.mem_singleton.2 rfl, hb⟩⟩⟩
  by_cases hu : ∃ e, (E.ti t).und = .slice e
  ·obtain ⟨e, hu⟩ := hu
   obtain ⟨d, ob', v, w1, h1, h2, h3, hsm⟩ := zqa (P := P) hT hI hm hu h (ev x) hd
   exact ⟨_, _, _, _, h1, zb (by simp only [execOp, ho, Sem.run_bind, h2, Result.andThen_ok, Sem.run_pure]) ⟨h3, hsm.mono fun _ _ h => h.elim⟩⟩
  ·obtain ⟨d, v, h1, h2, h3⟩ := zw2 (P := P) hT hI (fun e he => hu ⟨e, he⟩) h (ev x)
   exact ⟨_, _, _, _, h1, zb (by simp only [execOp, ho, Sem.run_bind, h2, Result.andThen_ok, Sem.run_pure]) (keep h3)⟩

 ·rename_i f fi ca
  split at h
  ·obtain ⟨vs, h1, h2⟩ := zu8 hd fi
   obtain ⟨us, h3, h4⟩ := zu8 hd ca
   exact ⟨_, _, _, _, h, zb (by simp only [execOp, ho, Instr.makeFunc, Sem.run_bind, Sem.run_pure, Result.andThen_ok, h1, h3]) (keep ⟨vs, us, rfl, h2, h4⟩)⟩
  ·cases h

 ·rename_i t x lo hi
  split at h
  ·rename_i g hv
   have hx := ev x
   rw [hv] at hx
   obtain ⟨d, v, h1, h2, h3⟩ := zrg (P := P) hT hc hI h hx (zcy hd lo) (zcy hd hi)
   exact ⟨_, _, _, _, h1, zb (by simp only [execOp, ho, Sem.run_bind, Option.map_none, h2 w, Result.andThen_ok, Sem.run_pure]) (keep h3)⟩
  by_cases hv : ∃ i, evD tm x = .vec i
  ·obtain ⟨i, hv⟩ := hv
   rw [hv] at h
   have hx := ev x
   rw [hv] at hx
   obtain ⟨d, ob', v, h1, h2, h3⟩ := zv2 (P := P) hT hI hm h hx (zcy hd lo) (zcy hd hi) hd
   exact ⟨_, _, _, _, h1, zb (by simp only [execOp, ho, Sem.run_bind, Option.map_none, h2, Result.andThen_ok, Sem.run_pure]) ⟨h3, Same.refl _ _⟩⟩
  ·obtain ⟨d, v, h1, h2, h3⟩ := zmu (P := P) (ob := ob) (w := w) hT hI (fun i hi => hv ⟨i, hi⟩) h (ev x) (zcy hd lo) (zcy hd hi)
   exact ⟨_, _, _, _, h1, zb (by simp only [execOp, ho, Sem.run_bind, Option.map_none, h2 w, Result.andThen_ok, Sem.run_pure]) (keep h3)⟩

 ·rename_i t x f
  obtain ⟨d, v, h1, h2, h3⟩ := zms (P := P) hT h (ev x)
  exact ⟨_, _, _, _, h1, zb (by simp only [execOp, ho, Sem.run_bind, h2 w, Result.andThen_ok, Sem.run_pure]) (keep h3)⟩

 ·rename_i t x f
  split at h
  ·rename_i off u cs hf hx
   have hv := ev x
   rw [hx] at hv
   obtain ⟨d, v, h1, h2, h3⟩ := ztz (P := P) hT hf h hv
   exact ⟨_, _, _, _, h1, zb (by simp only [execOp, ho, Sem.run_bind, h2 w, Result.andThen_ok, Sem.run_pure]) (keep h3)⟩
  ·cases h

 ·rename_i t x i
  obtain ⟨d, v, h1, h2, h3⟩ := zmv (P := P) hT hc hI h (ev x) (ev i)
  exact ⟨_, _, _, _, h1, zb (by simp only [execOp, ho, Sem.run_bind, h2 w, Result.andThen_ok, Sem.run_pure]) (keep h3)⟩

 ·rename_i t x i
  obtain ⟨d, v, h1, h2, h3⟩ := zty (P := P) hT h (ev x) (ev i)
  exact ⟨_, _, _, _, h1, zb (by simp only [execOp, ho, Sem.run_bind, h2 w, Result.andThen_ok, Sem.run_pure]) (keep h3)⟩

 ·rename_i x i
  split at h
  ·rename_i ds hx
   split at h
   ·rename_i d hi
    have hv := ev x
    rw [hx] at hv
    obtain ⟨vs, hv, h1⟩ := hv
    obtain ⟨v, h2, h3⟩ := za.get h1 i d hi
    exact ⟨_, _, _, _, h, zb (by simp [execOp, ho, hv, Instr.extract, h2]) (keep h3)⟩
   ·cases h
  ·rename_i b ds hx
   have hv := ev x
   rw [hx] at hv
   split at h
   ·cases b with
    | true =>
     obtain ⟨vs, h1, h2⟩ := hv.1 rfl
     exact ⟨_, _, _, _, h, zb (v := .bool true) (by simp [execOp, ho, h1, Instr.extract]) (keep rfl)⟩
    | false =>
     have h1 := hv.2 rfl
     exact ⟨_, _, _, _, h, zb (v := .bool false) (by simp [execOp, ho, h1, Instr.extract]) (keep rfl)⟩
   ·split at h
    ·rename_i d hi
     obtain ⟨hb, h⟩ := ya h
     obtain ⟨vs, h1, h2⟩ := hv.1 hb
     obtain ⟨v, h3, h4⟩ := za.get h2 _ d hi
     exact ⟨_, _, _, _, h, zb (by simp [execOp, ho, h1, Instr.extract, h3]) (keep h4)⟩
    ·cases h
  ·cases h

 ·rename_i x t
  split at h
  ·rename_i i hx
   have hp := ev x
   rw [hx] at hp
   obtain ⟨d, v, h1, h2, h3⟩ := z0x (P := P) (ty := o.type) hT hI h hp
   exact ⟨_, _, _, _, h1, zb (by simp only [execOp, ho, resolve, Sem.run_bind, Sem.run_pure, Result.andThen_ok, invoke, builtin]; simp [h2]) (keep h3)⟩
  obtain ⟨d, v, h1, h2, h3⟩ := zxy (P := P) (ty := o.type) hT hI h (ev x)
  exact ⟨_, _, _, _, h1, zb (by simp only [execOp, ho, resolve, Sem.run_bind, Sem.run_pure, Result.andThen_ok, invoke, builtin]; simp [h2 w]) (keep h3)⟩

 ·rename_i x y ts
  split at h
  ·rename_i d hxy
   obtain ⟨k, m, n, h1, h2, rfl⟩ := zls hxy
   have hx : a.eval x = .int k m ∧ Rng k m := by have := ev x; rw [h1] at this; exact this
   have hy : a.eval y = .int k n ∧ Rng k n := by have := ev y; rw [h2] at this; exact this
   refine ⟨_, _, _, _, h, zb (v := .int k (mn m n)) ?_ (keep ⟨rfl, ?_⟩)⟩
   ·simp only [execOp, ho, resolve, Sem.run_bind, Sem.run_pure, Result.andThen_ok, invoke, builtin, Builtin.min_]
    simp [hx.1, hy.1, Builtin.min2, mn]
   ·unfold mn; split
    ·exact hy.2
    ·exact hx.2
  ·cases h
 ·rename_i x y ts
  split at h
  ·rename_i d hxy
   obtain ⟨k, m, n, h1, h2, rfl⟩ := zls hxy
   have hx : a.eval x = .int k m ∧ Rng k m := by have := ev x; rw [h1] at this; exact this
   have hy : a.eval y = .int k n ∧ Rng k n := by have := ev y; rw [h2] at this; exact this
   refine ⟨_, _, _, _, h, zb (v := .int k (mx m n)) ?_ (keep ⟨rfl, ?_⟩)⟩
   ·simp only [execOp, ho, resolve, Sem.run_bind, Sem.run_pure, Result.andThen_ok, invoke, builtin, Builtin.max_]
    simp [hx.1, hy.1, Builtin.max2, mx]
   ·unfold mx; split
    ·exact hy.2
    ·exact hx.2
  ·cases h

 ·rename_i x t
  obtain ⟨d, ob', wr, v, w1, h1, h2, h3, hsm⟩ := z0a (P := P) (ty := o.type) hT hI hm h (ev x) hd
  exact ⟨_, _, _, _, h1, zb (by simp only [execOp, ho, resolve, Sem.run_bind, Sem.run_pure, Result.andThen_ok, invoke, builtin]; simp [h2]) ⟨h3, hsm⟩⟩

 ·rename_i x y t t'
  split at h
  ·rename_i e
   subst e
   obtain ⟨d, ob', v, w1, h1, h2, h3⟩ := zyz (P := P) (ty := o.type) hT hI hm h (ev x) (ev y) hd
   exact ⟨_, _, _, _, h1, zb (by simp only [execOp, ho, resolve, Sem.run_bind, Sem.run_pure, Result.andThen_ok, invoke, builtin]; simp [h2]) h3⟩
  ·obtain ⟨d, ob', v, w1, h1, h2, h3⟩ := zw6 (P := P) (ty := o.type) hT hI hm h (ev x) (ev y) hd
   exact ⟨_, _, _, _, h1, zb (by simp only [execOp, ho, resolve, Sem.run_bind, Sem.run_pure, Result.andThen_ok, invoke, builtin]; simp [h2]) h3⟩

 ·rename_i x ts
  have hx := ev x
  split at h
  ·rename_i e hu he
   rw [he] at hx
   have hv : a.eval x = .slice none 0 0 := hx
   refine ⟨_, _, _, _, h, zb (v := .pointer none) ?_ (keep rfl)⟩
   have := Lib.run_unsafeSliceData_nil (P := P) w ts o.type 0 0
   simp only [execOp, ho, resolve, Sem.run_bind, Sem.run_pure, Result.andThen_ok, invoke, builtin]; simp [hv, this]
  ·rename_i e i hu he
   rw [he] at hx
   obtain ⟨h7, h8, A, len, cap, h9⟩ := hx
   split at h
   ·rename_i mk e' ty l hv
    obtain ⟨h1, v, h2, ⟨xs, h3, h4, h5⟩, h6⟩ := ze1 hI.obj hv
    rw [h2] at h8
    injection h8 with h8
    rw [h8, h9] at h3
    have hsame : ∀ b, b < w.heap.size → ∀ obj, (w.alloc obj).heap[b]? = w.heap[b]? := fun b hb obj => (Same.alloc (fun _ => False) w obj).block b hb (fun h => h)
    have hsdp : ∀ {w1 : World} {q : Option Addr}, (cap ≠ 0 → q = A) → (execOp a.eval o).run P w = .ok (.value (.pointer q)) w1 → Same (fun _ => False) w w1 → ∃ d ob' fr wr, K d ob' fr wr = some r ∧ z34 P o a w fun v w' => RelF c fr (d :: tm) ob' (v :: a.tmps.toList) w' ∧ Same (fun b => ∃ i, i ∈ wr ∧ b ∈ blks β ob i) w w' := by
     intro w1 q hq hrun hsm
     refine ⟨_, _, _, _, h, zb hrun ⟨⟨β, S, hI.step (fun _ => False) (hsm.mono fun _ _ h => h.elim) (Nat.le_refl _) (fun _ _ _ => rfl) (fun _ _ => rfl) (fun _ h => h) (fun b hb => .inl hb) (fun i o' hi hx => ?_) (fun i b hx hi => ?_) (fun i j b _ hx _ hi _ => ?_) hm, _, _, rfl, ⟨h7, A, len, cap, q, by rw [h2, h8, h9]; rfl, rfl, hq⟩, ?_⟩, hsm.mono fun _ _ h => h.elim⟩⟩
     ·rcases hx with hx | hx
      ·exact hx.elim
      ·have := (List.getElem?_eq_some_iff.1 hi).1; omega
     ·rcases hx with hx | hx
      ·exact hx.elim
      ·obtain ⟨_, h, _⟩ := zj.1 hi; have := (List.getElem?_eq_some_iff.1 h).1; omega
     ·rcases hx with hx | hx
      ·exact hx.elim
      ·obtain ⟨_, h, _⟩ := zj.1 hi; have := (List.getElem?_eq_some_iff.1 h).1; omega
     ·exact za.imp (Nat.le_refl _) (fun _ _ => .refl _) (fun _ h => h) (fun b hb => hsm.block b (hI.imm b hb) (fun h => h)) _ hd
    rcases h3.2 with ⟨h0, _⟩ | ⟨g, cap', cur, fz, h0, hg, _⟩
    ·injection h0 with hA hlen hcap
     subst hA; subst hlen; subst hcap
     refine hsdp (q := none) (fun hh => absurd rfl hh) ?_ (Same.refl _ _)
     have := Lib.run_unsafeSliceData_nil (P := P) w ts o.type 0 0
     simp only [execOp, ho, resolve, Sem.run_bind, Sem.run_pure, Result.andThen_ok, invoke, builtin]; simp [h9, this]
    ·injection h0 with hA hlen hcap
     subst hA; subst hlen; subst hcap
     by_cases hc0 : cap = 0
     ·subst hc0
      refine hsdp (fun hh => absurd rfl hh) (w1 := w.alloc (.view ⟨g, 0, none⟩ (P.pointee o.type))) (q := some ⟨w.heap.size, 0, none⟩) ?_ (Same.alloc _ _ _)
      have := Lib.run_unsafeSliceData_zero (P := P) w ts o.type (P.pointee o.type) (hT.pointee hu) ⟨g, 0, none⟩ l.length (e', cur.size) (by simp [World.shape?, hg])
      simp only [execOp, ho, resolve, Sem.run_bind, Sem.run_pure, Result.andThen_ok, invoke, builtin]; simp [h9, this]
     ·refine hsdp (fun _ => rfl) ?_ (Same.refl _ _)
      have := Lib.run_unsafeSliceData_row (P := P) w ts o.type ⟨g, 0, none⟩ l.length cap hc0
      simp only [execOp, ho, resolve, Sem.run_bind, Sem.run_pure, Result.andThen_ok, invoke, builtin]; simp [h9, this]
   ·cases h
  ·cases h

 ·rename_i x y t t'
  have hx := ev x
  have hy := ev y
  split at h
  ·rename_i e n hu e1 e2
   rw [e1] at hx
   rw [e2] at hy
   have hv : a.eval x = .pointer none := hx
   obtain ⟨hn, h⟩ := ya h
   have hn : n = 0 := by simpa using hn
   subst hn
   refine ⟨_, _, _, _, h, zb (v := .string .empty) ?_ (keep ⟨rfl, Nat.zero_le _⟩)⟩
   have := Lib.run_unsafeString_none (P := P) w t t' o.type none
   simp only [execOp, ho, resolve, Sem.run_bind, Sem.run_pure, Result.andThen_ok, invoke, builtin]; simp [hv, hy.1, this]
  ·rename_i e'' i n hu e1 e2
   rw [e1] at hx
   rw [e2] at hy
   obtain ⟨h7, A, len, cap, q, h8, h9, h10⟩ := hx
   split at h
   ·rename_i mk e l hv
    split at h
    ·rename_i hn
     obtain ⟨he, hb, hs⟩ := hn
     obtain ⟨hn, h⟩ := ya h
     have hn : n = (l.length : Int) := by simpa using hn
     subst he
     obtain ⟨h1, v, h2, ⟨xs, h3, h4, h5⟩, h6⟩ := ze1 hI.obj hv
     rw [h2] at h8
     injection h8 with h8
     obtain ⟨w1, hr, hsm⟩ := zrl (P := P) (S := S) (pt := t) (it := t') (ty := o.type) hT (hT.ptr hu) hb hs h3 h5 h4 h8 h10
     have hsm' : Same (fun b => b ∈ (β i).blocks) w w1 := hsm.mono fun b _ hb => by rw [h2]; exact hb
     refine ⟨_, _, _, _, h, zb (v := .string ⟨(toBs l).toArray⟩) ?_ ⟨?_, hsm.mono fun b _ hb => ⟨i, List.mem_singleton.2 rfl, h6 b hb⟩⟩⟩
     ·simp only [execOp, ho, resolve, Sem.run_bind, Sem.run_pure, Result.andThen_ok, invoke, builtin]; simp [h9, hy.1, hn, hr]
     ·exact z1z hI hm h1 rfl hsm' ⟨_, _, rfl, ⟨rfl, by simpa [toBs] using h4⟩, hd⟩
    ·cases h
   ·cases h
  ·rename_i e'' i n hu e1 e2
   rw [e1] at hx
   rw [e2] at hy
   obtain ⟨h7, g, len, cap, h8, h9⟩ := hx
   split at h
   ·rename_i mk e l hv
    split at h
    ·rename_i hn
     obtain ⟨he, hb, hs⟩ := hn
     obtain ⟨hn, h⟩ := ya h
     have hn : n = (l.length : Int) := by simpa using hn
     subst he
     obtain ⟨h1, v, h2, ⟨xs, h3, h4, h5⟩, h6⟩ := ze1 hI.obj hv
     rw [h2] at h8
     injection h8 with h8
     obtain ⟨w1, hr, hsm⟩ := zrl (P := P) (S := S) (pt := t) (it := t') (ty := o.type) hT (hT.ptr hu) hb hs h3 h5 h4 h8 (fun _ => rfl)
     have hsm' : Same (fun b => b ∈ (β i).blocks) w w1 := hsm.mono fun b _ hb => by rw [h2]; exact hb
     refine ⟨_, _, _, _, h, zb (v := .string ⟨(toBs l).toArray⟩) ?_ ⟨?_, hsm.mono fun b _ hb => ⟨i, List.mem_singleton.2 rfl, h6 b hb⟩⟩⟩
     ·simp only [Nat.zero_mul, Nat.zero_add, Nat.add_zero] at h9
      simp only [execOp, ho, resolve, Sem.run_bind, Sem.run_pure, Result.andThen_ok, invoke, builtin]; simp [h9, hy.1, hn, hr]
     ·exact z1z hI hm h1 rfl hsm' ⟨_, _, rfl, ⟨rfl, by simpa [toBs] using h4⟩, hd⟩
    ·cases h
   ·cases h
  ·cases h

 ·rename_i x y t t'
  have hx := ev x
  have hy := ev y
  split at h
  ·rename_i e'' i s hu hu' e1 e2
   rw [e1] at hx
   rw [e2] at hy
   obtain ⟨h7, h8, A, len, cap, h9⟩ := hx
   split at h
   ·rename_i e l hv
    split at h
    ·rename_i hn
     obtain ⟨he, hb, hs⟩ := hn
     subst he
     obtain ⟨hle, h⟩ := ya h
     obtain ⟨h1, v, h2, ⟨xs, h3, h4, h5⟩, h6⟩ := ze1 hI.obj hv
     rw [h2] at h8
     injection h8 with h8
     obtain ⟨w1, xs', h10, h11, h12, h13, h14⟩ := zz8 (P := P) (S := S) (dT := t) (sT := t') (ty := o.type) hT (hT.slice hu).1 hb hs h3.own h5 (of_decide_eq_true hle) (h8.trans h9)
     have hsm' : Same (fun b => b ∈ (β i).blocks) w w1 := h11.mono fun b _ hb => by rw [h2]; exact hb
     have hle' := of_decide_eq_true hle
     have hSw : ∀ b, S b → w1.heap[b]? = w.heap[b]? := fun b hb => h11.block b (hI.imm b hb) fun e => (hI.own _ b (h6 b e)).1 hb
     refine ⟨_, _, _, _, h, zb (v := .int .i64 s.length) ?_ ⟨?_, h11.mono fun b _ hb => ⟨i, List.mem_singleton.2 rfl, h6 b hb⟩⟩⟩
     ·simp only [execOp, ho, resolve, Sem.run_bind, Sem.run_pure, Result.andThen_ok, invoke, builtin]; rw [h8] at h10; simp [hy.1, h10]
     ·refine zbl (ds := .int .i64 s.length :: tm) (o' := .vec false e'' (.int .u8) (ofBs s ++ l.drop s.length)) hI hm h1 rfl rfl hsm' h12 ?_ ⟨_, _, rfl, ⟨rfl, zvo _ hy.2⟩, hd⟩
      rw [h2]
      refine ⟨xs', ?_, ?_, fun k x hk => ImmC.imp (fun _ h => h) hSw (h14 k x hk)⟩
      ·have := ze0.of_own h13
       simp only [List.length_append, ofBs, List.length_map, List.length_drop]
       rw [show s.length + (l.length - s.length) = l.length by omega]
       exact this
      ·simp only [List.length_append, ofBs, List.length_map, List.length_drop]
       omega
    ·cases h
   ·cases h
  ·rename_i e e' i off m n hu hu' e1
   rw [e1] at hx
   obtain ⟨d, ob', v, w1, h1, h2, h3, hsm⟩ := zz9 (P := P) (t' := t') (ty := o.type) hT hI hm hu h hx hy hd
   exact ⟨_, _, _, _, h1, zb (by simp only [execOp, ho, resolve, Sem.run_bind, Sem.run_pure, Result.andThen_ok, invoke, builtin]; simp [h2]) ⟨h3, hsm.mono fun b _ hb => ⟨i, List.mem_singleton.2 rfl, hb⟩⟩⟩
  ·cases h

 ·rename_i f args ts
  split at h
  ·rename_i g first caps hf
   have hv := ev f
   rw [hf] at hv
   obtain ⟨vs, us, hv, h1, h2⟩ := hv
   have hds := za.append (za.append h1 (za.evals hd args.toList)) h2
   have harg : vs.toArray ++ args.map a.eval ++ us.toArray = (vs ++ args.toList.map a.eval ++ us).toArray := by
    apply Array.ext'; simp
   split at h
   case h_2 hext =>
    split at h
    ·rename_i s n hds'
     rw [hds'] at hds
     obtain ⟨u1, us1, e1, ⟨rfl, h3⟩, u2, us2, e2, ⟨rfl, h4⟩, e3⟩ := hds
     obtain rfl : us2 = [] := e3
     subst e2
     refine ⟨_, _, _, _, h, zb (v := .int .i64 (Lib.indexByte s n.toNat.toUInt8)) ?_ (keep ⟨rfl, zy3 _ _ h3⟩)⟩
     simp only [execOp, ho, resolve, hv, Deferred.ofValue, Sem.run_bind, Sem.run_pure, Result.andThen_ok, invoke, harg, e1]
     exact hE.ext g hext ⟨s.toArray⟩ n w
    ·cases h
   obtain ⟨d, ob', fr, wr, h3, h4⟩ := zt7 (P := P) hcy hE.lp0 hI (f := g) hds hd (hE.calls g) h
   have hne : E.call g ≠ [] := fun e => by rw [e] at h; exact zx7 h
   obtain ⟨fn, h5, h6, h7⟩ := hE.enters g (.inl hne)
   refine ⟨d, ob', fr, wr, h3, zx8 (f := g) (args := (vs ++ args.toList.map a.eval ++ us).toArray) ?_ h4⟩
   simp only [execOp, ho, resolve, hv, Deferred.ofValue, Sem.run_bind, Sem.run_pure, Result.andThen_ok, invoke, harg]
   exact zeb h5 h6 h7
  ·rename_i k fs first caps hf
   have hv0 := ev f
   rw [hf] at hv0
   obtain ⟨g, hg, h⟩ := z0e h
   obtain ⟨vs, us, hv, h1, h2⟩ := hv0.1 g hg
   have hds := za.append (za.append h1 (za.evals hd args.toList)) h2
   have harg : vs.toArray ++ args.map a.eval ++ us.toArray = (vs ++ args.toList.map a.eval ++ us).toArray := by
    apply Array.ext'; simp
   split at h
   ·obtain ⟨d, ob', fr, wr, h3, h4⟩ := zt7 (P := P) hcy hE.lp0 hI (f := g) hds hd (hE.calls g) h
    have hne : E.call g ≠ [] := fun e => by rw [e] at h; exact zx7 h
    obtain ⟨fn, h5, h6, h7⟩ := hE.enters g (.inl hne)
    refine ⟨d, ob', fr, wr, h3, zx8 (f := g) (args := (vs ++ args.toList.map a.eval ++ us).toArray) ?_ h4⟩
    simp only [execOp, ho, resolve, hv, Deferred.ofValue, Sem.run_bind, Sem.run_pure, Result.andThen_ok, invoke, harg]
    exact zeb h5 h6 h7
   ·cases h
  ·cases h

 ·rcases zx2 h with ⟨t, m, k, x, i, he, hx, h⟩ | ⟨t, m, k, i, he, hx, h⟩
  ·rw [he] at ho
   have hp := ev m
   rw [hx] at hp
   obtain ⟨ob', w1, h1, h2, h3, hsm⟩ := zyw (P := P) hT hI hm h hp (ev k) (ev x) hd
   exact ⟨_, _, _, _, h1, zs5 (by simp only [execOp, ho, Sem.run_bind, h2, Result.andThen_ok, Sem.run_pure]) ⟨h3, hsm⟩⟩
  ·rw [he] at ho
   have hp := ev m
   rw [hx] at hp
   obtain ⟨d, v, h1, h2, h3⟩ := zyx (P := P) hT hI h hp (ev k)
   exact ⟨_, _, _, _, h1, zb (by simp only [execOp, ho, Sem.run_bind, h2, Result.andThen_ok, Sem.run_pure]) (keep h3)⟩
end
end Go.En
