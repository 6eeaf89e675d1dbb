/- Text E10 of this seat: written by a program of ours, or by hand; checked by Lean. -/
import Derived.Test.YtfgphjencdhdgaaGreatDoorE8
import Derived.OrdersHeld
set_option linter.unusedVariables false
set_option linter.unusedSimpArgs false
namespace Go.En
open Go.RowKit

/-! -/
theorem zlu : ∀ {es : List Edge} {i : Nat}, (ze6 es).testBit i = true ↔ ∃ e, e ∈ es ∧ Region.binds .any e = true ∧ e.on = i
 | [], i => by simp [ze6]
 | e :: es, i => by
  simp only [ze6]
  split
  ·rename_i h
   rw [Nat.testBit_or, Bool.or_eq_true, zlu, Nat.testBit_two_pow]
   constructor
   ·rintro (h1 | ⟨x, h1, h2, h3⟩)
    ·exact ⟨e, List.mem_cons_self .., h, by simpa using h1⟩
    ·exact ⟨x, List.mem_cons_of_mem _ h1, h2, h3⟩
   ·rintro ⟨x, h1, h2, h3⟩
    rcases List.mem_cons.1 h1 with rfl | h1
    ·exact .inl (by simpa using h3)
    ·exact .inr ⟨x, h1, h2, h3⟩
  ·rename_i h
   rw [zlu]
   constructor
   ·rintro ⟨x, h1, h2, h3⟩
    exact ⟨x, List.mem_cons_of_mem _ h1, h2, h3⟩
   ·rintro ⟨x, h1, h2, h3⟩
    rcases List.mem_cons.1 h1 with rfl | h1
    ·exact absurd h2 h
    ·exact ⟨x, h1, h2, h3⟩
theorem z5b {m L : Nat} : m &&& L = m ↔ ∀ i, m.testBit i = true → L.testBit i = true := by
 constructor
 ·intro h i hi
  rw [← h, Nat.testBit_and, Bool.and_eq_true] at hi
  exact hi.2
 ·intro h
  apply Nat.eq_of_testBit_eq
  intro i
  rw [Nat.testBit_and]
  cases hm : m.testBit i with
  | false => rfl
  | true => rw [h i hm]; rfl
structure Rep (n L : Nat) (listed : Array Bool) : Prop where
 size : listed.size = n
 bit : ∀ j, j < n → listed.getD j true = L.testBit j
 high : ∀ j, L.testBit j = true → j < n
theorem Rep.getF {n L : Nat} {listed : Array Bool} (h : Rep n L listed) (j : Nat) : listed.getD j false = L.testBit j := by
 by_cases hj : j < n
 ·rw [← h.bit j hj]
  simp [h.size, hj]
 ·have h1 : L.testBit j = false := by
   cases hx : L.testBit j with
   | false => rfl
   | true => exact absurd (h.high j hx) hj
  rw [h1]
  simp [h.size, hj]
theorem Rep.set {n L k : Nat} {listed : Array Bool} (h : Rep n L listed) (hk : k < n) : Rep n (L ||| 2 ^ k) (listed.setIfInBounds k true) := by
 refine ⟨by simp [h.size], fun j hj => ?_, fun j hj => ?_⟩
 ·rw [Nat.testBit_or, Nat.testBit_two_pow]
  by_cases e : k = j
  ·subst e
   have : (listed.setIfInBounds k true).getD k true = true := by simp [h.size, hj]
   rw [this]; simp
  ·rw [getD_set_ne true e, h.bit j hj]
   simp [e]
 ·rw [Nat.testBit_or, Bool.or_eq_true, Nat.testBit_two_pow] at hj
  rcases hj with hj | hj
  ·exact h.high j hj
  ·have : k = j := by simpa using hj
   omega
section
variable {ops : Array Oper} {L : Nat} {listed : Array Bool}
theorem zv5 (hr : Rep ops.size L listed) {j : Nat} {o : Oper} (ho : ops[j]? = some o) : j ∈ Region.ready .any ops listed ↔ L.testBit j = false ∧ ze6 o.after.toList &&& L = ze6 o.after.toList := by
 rw [mem_ready]
 have hj := (Array.getElem?_eq_some_iff.1 ho).1
 rw [hr.bit j hj, z5b]
 constructor
 ·rintro ⟨h1, o', ho', h2⟩
  rw [ho] at ho'
  cases ho'
  refine ⟨h1, fun i hi => ?_⟩
  obtain ⟨e, h3, h4, h5⟩ := zlu.1 hi
  rw [← h5, ← hr.getF]
  exact h2 e (by simpa using h3) h4
 ·rintro ⟨h1, h2⟩
  refine ⟨h1, o, ho, fun e he hb => ?_⟩
  rw [hr.getF]
  exact h2 _ (zlu.2 ⟨e, by simpa using he, hb, rfl⟩)
def zrs (ops : Array Oper) : List Nat := ops.toList.map fun o => ze6 o.after.toList
theorem zyb {hs : List Nat} : ∀ {ms : List Nat} {j0 : Nat}, z2i L hs j0 ms = true → ∀ (j m : Nat), ms[j]? = some m → j0 + j ∈ hs ∨ L.testBit (j0 + j) = true ∨ ¬ (m &&& L = m)
 | [], _, _, j, m, hj => by simp at hj
 | x :: ms, j0, h, j, m, hj => by
  simp only [z2i, Bool.and_eq_true, Bool.or_eq_true, beq_iff_eq, Bool.not_eq_true', beq_eq_false_iff_ne, List.contains_iff_mem] at h
  cases j with
  | zero =>
   simp only [List.getElem?_cons_zero, Option.some.injEq] at hj
   subst hj
   rcases h.1 with (h1 | h1) | h1
   ·exact .inl h1
   ·exact .inr (.inl h1)
   ·exact .inr (.inr h1)
  | succ j =>
   have := zyb h.2 j m (by simpa using hj)
   rwa [show j0 + 1 + j = j0 + (j + 1) by omega] at this
theorem zyc (hr : Rep ops.size L listed) {hs : List Nat} (h : z2i L hs 0 (zrs ops) = true) {j : Nat} (hj : j ∈ Region.ready .any ops listed) : j ∈ hs := by
 obtain ⟨_, o, ho, _⟩ := mem_ready.1 hj
 obtain ⟨h1, h2⟩ := (zv5 hr ho).1 hj
 have hm : (zrs ops)[j]? = some (ze6 o.after.toList) := by
  unfold zrs
  rw [List.getElem?_map, Array.getElem?_toList, ho]; rfl
 have := zyb h j _ hm
 rw [Nat.zero_add] at this
 rcases this with h3 | h3 | h3
 ·exact h3
 ·rw [h1] at h3; cases h3
 ·exact absurd h2 h3
theorem zyd {k : Nat} {o : Oper} : ∀ {xs : List Oper} {ms : List Nat} {j0 : Nat}, z3f ops L k o j0 xs ms = true → ∀ (j : Nat) (x : Oper) (m : Nat), xs[j]? = some x → ms[j]? = some m → j0 + j = k ∨ L.testBit (j0 + j) = true ∨ m.testBit k = true ∨ o.apart ops x = true
 | [], ms, j0, h, j, x, m, hx, hm => by simp at hx
 | y :: xs, [], j0, h, j, x, m, hx, hm => by simp at hm
 | y :: xs, n :: ms, j0, h, j, x, m, hx, hm => by
  simp only [z3f, Bool.and_eq_true, Bool.or_eq_true, beq_iff_eq] at h
  cases j with
  | zero =>
   simp only [List.getElem?_cons_zero, Option.some.injEq] at hx hm
   subst hx; subst hm
   rcases h.1 with ((h1 | h1) | h1) | h1
   ·exact .inl h1
   ·exact .inr (.inl h1)
   ·exact .inr (.inr (.inl h1))
   ·exact .inr (.inr (.inr h1))
  | succ j =>
   have := zyd h.2 j x m (by simpa using hx) (by simpa using hm)
   rwa [show j0 + 1 + j = j0 + (j + 1) by omega] at this
theorem z4b (hr : Rep ops.size L listed) {k : Nat} {o : Oper} (h : z3f ops L k o 0 ops.toList (zrs ops) = true) (j : Nat) (oj : Oper) (hj : ops[j]? = some oj) (hne : j ≠ k) (hun : listed.getD j true = false) (hno : ∀ e ∈ oj.after, Region.binds .any e = true → e.on ≠ k) :
  o.apart ops oj = true := by
 have hm : (zrs ops)[j]? = some (ze6 oj.after.toList) := by
  unfold zrs
  rw [List.getElem?_map, Array.getElem?_toList, hj]; rfl
 have := zyd h j oj _ (by rw [Array.getElem?_toList]; exact hj) hm
 rw [Nat.zero_add] at this
 rcases this with h1 | h1 | h1 | h1
 ·exact absurd h1 hne
 ·rw [hr.bit j (Array.getElem?_eq_some_iff.1 hj).1] at hun
  rw [hun] at h1; cases h1
 ·obtain ⟨e, h2, h3, h4⟩ := zlu.1 h1
  exact absurd h4 (hno e (by simpa using h2) h3)
 ·exact h1
end

/-! -/
section
variable {P : Program} {ops : Array Oper} {Q : Exit → Act → World → Prop} {md : Region.Mode} {T : Nat → World → World → Prop}
def zv6 (P : Program) (md : Region.Mode) (ops : Array Oper) (Q : Exit → Act → World → Prop) (T : Nat → World → World → Prop) : Nat → Array Bool → Act → World → Prop
 | 0, listed, a, w => Region.ready md ops listed = [] ∧ Q .normal a w
 | fuel + 1, listed, a, w =>
  (Region.ready md ops listed = [] → Q .normal a w) ∧
  ∀ i ∈ Region.ready md ops listed, wpOp P ops Q i (fun a' w' => T i w w' ∧ zv6 P md ops Q T fuel (listed.setIfInBounds i true) a' w') a w
theorem zye : ∀ (fuel : Nat) (listed : Array Bool) (a : Act) (w : World), zv6 P md ops Q T fuel listed a w → wpAny P md ops Q fuel listed a w
 | 0, _, _, _, h => h
 | fuel + 1, _, _, _, h => ⟨h.1, fun i hi => wpOp_mono (fun a' w' h' => zye fuel _ a' w' h'.2) (h.2 i hi)⟩
theorem zua {U : World → World → Prop} (hrefl : ∀ j w, T j w w) (urefl : ∀ w, U w w) (htrans : ∀ a b c, U a b → U b c → U a c) {i : Nat} {oi : Oper} {v : Value} (hi : ops[i]? = some oi) (hsel : ∀ (j : Nat) (o : Oper) cs b, ops[j]? = some o → o.op ≠ .select cs b)
  (hTU : ∀ j oj, ops[j]? = some oj → (∀ e ∈ oj.after, Region.binds md e = true → e.on ≠ i) → ∀ a b, T j a b → U a b)
  (hQ : ∀ c a w, Q (.panic c) (a.put oi.dst v) w → Q (.panic c) a w) :
  ∀ (fuel : Nat) (listed : Array Bool) (a : Act) (w : World),
   (∀ j oj, ops[j]? = some oj → j ≠ i → listed.getD j true = false → (∀ e ∈ oj.after, Region.binds md e = true → e.on ≠ i) → oi.apart ops oj = true) →
   i ∈ Region.ready md ops listed → YieldsIf P ops (U w) oi v a →
   zv6 P md ops Q T fuel (listed.setIfInBounds i true) (a.put oi.dst v) w → zv6 P md ops Q T (fuel + 1) listed a w := by
 intro fuel
 induction fuel with
 | zero =>
  intro listed a w _ hr hy H
  refine ⟨fun h => (by rw [h] at hr; cases hr), fun j hj => ?_⟩
  by_cases hji : j = i
  ·subst hji; exact hy.wpOp hi (urefl w) ⟨hrefl _ w, H⟩
  ·have := ready_mono hj hji
   rw [H.1] at this
   cases this
 | succ fuel ih =>
  intro listed a w hfree hr hy H
  refine ⟨fun h => (by rw [h] at hr; cases hr), fun j hj => ?_⟩
  by_cases hji : j = i
  ·subst hji; exact hy.wpOp hi (urefl w) ⟨hrefl _ w, H⟩
  ·have h1 := H.2 j (ready_mono hj hji)
   obtain ⟨hjun, oj, hoj, hall⟩ := mem_ready.1 hj
   have hnot : ∀ e ∈ oj.after, Region.binds md e = true → e.on ≠ i := fun e he hb heq => by
    have h1 := hall e he hb
    have h0 := (mem_ready.1 hr).1
    rw [heq] at h1
    rcases Nat.lt_or_ge i listed.size with h' | h'
    ·simp [h'] at h0 h1; rw [h0] at h1; cases h1
    ·simp [Array.getElem?_eq_none h'] at h1
   have h2 := wpOp_putIf hoj (hfree j oj hoj hji hjun hnot) (fun cs b => hsel i oi cs b hi) (fun cs b => hsel j oj cs b hoj) hQ hy h1
   have hfree' : ∀ k ok, ops[k]? = some ok → k ≠ i → (listed.setIfInBounds j true).getD k true = false →
     (∀ e ∈ ok.after, Region.binds md e = true → e.on ≠ i) → oi.apart ops ok = true := fun k ok hk hki hun hno => by
    refine hfree k ok hk hki ?_ hno
    by_cases hjk : j = k
    ·subst hjk; exact hjun
    ·rw [getD_set_ne true hjk] at hun; exact hun
   refine wpOp_mono (fun a' w' h3 => ⟨h3.2.1, ih (listed.setIfInBounds j true) a' w' hfree' (ready_mono hr (Ne.symm hji)) ?_ ?_⟩) h2
   ·rcases h3.1 with ⟨h4, h5⟩ | h4
    ·exact .inl ⟨h4, fun w'' ht => h5 w'' (htrans _ _ _ (hTU j oj hoj hnot _ _ h3.2.1) ht)⟩
    ·exact .inr h4
   ·rw [Array.setIfInBounds_comm _ _ hji]
    exact h3.2.2
end
/-! -/
section
variable {P : Program} {E : Env} {c : Ctx} {R : Type}
theorem z5c (a : Act) (d : Option Tmp) (v : Value) : (a.put d v).tmps.toList = match d with | some i => a.tmps.toList.set i v | none => a.tmps.toList := by
 cases d <;> simp [Act.put]
theorem zfc (a : Act) (d : Option Tmp) (v : Value) : (a.put d v).defers = a.defers := by cases d <;> rfl
theorem Rel.put {d : D} {v : Value} {tm : List D} {ob : List Ob} {a : Act} {w : World} (h : Rel c (d :: tm) ob (v :: a.tmps.toList) w) (dst : Option Tmp) : Rel c (putD tm dst d) ob (a.put dst v).tmps.toList w := by
 obtain ⟨β, S, hI, u, us, h1, h2, h3⟩ := h
 simp only [List.cons.injEq] at h1
 obtain ⟨rfl, rfl⟩ := h1
 rw [z5c]
 cases dst with
 | none => exact ⟨β, S, hI, h3⟩
 | some i => exact ⟨β, S, hI, za.set h3 i d v h2⟩
theorem zv7 {fr : List Nat} {d : D} {v : Value} {tm : List D} {ob : List Ob} {a : Act} {w : World} {dst : Option Tmp} {K : List D → List Ob → Option R} {r : R} (h : frz fr (putD tm dst d) ob K = some r) (hr : RelF c fr (d :: tm) ob (v :: a.tmps.toList) w) :
  ∃ tm' ob', K tm' ob' = some r ∧ Rel c tm' ob' (a.put dst v).tmps.toList w := by
 cases fr with
 | nil => exact ⟨_, _, h, Rel.put hr dst⟩
 | cons f fr =>
  refine ⟨_, _, h, ?_⟩
  have := Rel.put (a := a) (tm := tm.map (frzD ob (f :: fr))) hr dst
  cases dst with
  | none => exact this
  | some i =>
   simp only [putD, List.map_set] at this ⊢
   exact this
theorem Rel.known {tm : List D} {ob : List Ob} {a : Act} {w : World} (h : Rel c tm ob a.tmps.toList w) {s : Nat} {b : Bool} (hs : tm.getD s .any = .bool b) : a.tmps[s]? = some (.bool b) ∧ Rel c (tm.set s (.bool b)) ob a.tmps.toList w := by
 obtain ⟨β, S, hI, hd⟩ := h
 have h1 := getD_some hs (by simp)
 obtain ⟨v, h2, h3⟩ := za.get hd s _ h1
 obtain rfl : v = .bool b := h3
 refine ⟨by simpa using h2, β, S, hI, ?_⟩
 have := za.set hd s (.bool b) (.bool b) rfl
 have he : a.tmps.toList.set s (.bool b) = a.tmps.toList := by
  apply List.ext_getElem?
  intro i
  rw [List.getElem?_set]
  split
  ·rename_i e
   subst e
   split
   ·exact h2.symm
   ·rename_i hl
    rw [List.getElem?_eq_none (by omega)]
  ·rfl
 rwa [he] at this
theorem Rel.skipped {tm : List D} {ob : List Ob} {a : Act} {w : World} (h : Rel c tm ob a.tmps.toList w) {s : Nat} (hs : tm.getD s .any = .skip) : a.tmps[s]? = some undef := by
 obtain ⟨β, S, hI, hd⟩ := h
 have h1 := getD_some hs (by simp)
 obtain ⟨v, h2, h3⟩ := za.get hd s _ h1
 obtain rfl : v = undef := h3
 simpa using h2
theorem Rel.putSkip {tm : List D} {ob : List Ob} {a : Act} {w : World} (h : Rel c tm ob a.tmps.toList w) (dst : Option Tmp) : Rel c (putD tm dst .skip) ob (a.put dst undef).tmps.toList w := by
 obtain ⟨β, S, hI, hd⟩ := h
 exact Rel.put (d := .skip) (v := undef) ⟨β, S, hI, _, _, rfl, rfl, hd⟩ dst

/-! -/
theorem zpg {o : Ob} (h : o.alive = true) : o.live = true := by cases o <;> first | rfl | cases h
theorem zy4 {o : Ob} (h : o.alive = true) : o.isDv = false := by cases o <;> first | rfl | cases h
theorem GL.kin.eq {a b : GL} (h : a.kin b) (hb : ∀ g v hs, b ≠ .deep g v hs) : b = a := by
 cases a
 case deep g v hs => obtain ⟨g', hs', h⟩ := h; exact absurd h (hb _ _ _)
 case row v =>
  rcases h with h | ⟨g', hs', h⟩
  ·exact h
  ·exact absurd h (hb _ _ _)
 all_goals exact h
theorem Inv.keepEq {c : Ctx} {β : Nat → GL} {S : Nat → Prop} {ob : List Ob} {w : World} (hI : Inv c β S ob w) {i : Nat} (hi : i < c.m0) (ha : (ob.getD i .gone).live = true) (hd : (ob.getD i .gone).isDv = false) : β i = c.β0 i := by
 refine (hI.keep i hi).eq fun g v hs e => ?_
 have h1 : ob[i]? = some (ob.getD i .gone) := getD_some rfl (by rintro e; rw [e] at ha; cases ha)
 have h2 := hI.obj i _ h1
 rw [e] at h2
 cases h3 : ob.getD i .gone with
 | gone => rw [h3] at ha; cases ha
 | dv _ _ _ _ _ _ => rw [h3] at hd; cases hd
 | _ => rw [h3] at h2; exact h2
theorem z0i (hE : zs4 P E) (hc : CtxOK E c) {β : Nat → GL} {S : Nat → Prop} {ob : List Ob} {w : World} {o : Oper} {a : Act} (hI : Inv c β S ob w) {tm : List D} (hd : za ob.length β S w tm a.tmps.toList) {W : List Nat} (hst : zp6 E (evD tm) W o.op = true)
  (hal : ∀ i, i ∈ W → (ob.getD i .gone).alive = true) {K : D → List Ob → List Nat → List Nat → Option R} {r : R} (h : aOp E (evD tm) ob o.type o.op K = some r) :
  ∃ d v, K d ob [] [] = some r ∧ RelD ob.length β S w d v ∧ ∀ w' : World, (∀ rd, ldRd (evD tm) o.op = some rd → ∀ b, b < w.heap.size → (¬ ∃ i, i ∈ W ∧ b ∈ (β i).blocks) → (rd = [] ∨ ∃ i, i ∈ rd ∧ b ∈ blks β ob i) → w'.heap[b]? = w.heap[b]?) → (execOp a.eval o).run P w' = .ok (.value v) w' := by
 have hT := hE.types
 have hm := hI.le
 have ev := fun x => RelD.eval hd x
 have hlive : ∀ i, i ∈ W → ∀ b, b ∈ (β i).blocks → b ∈ blks β ob i := fun i hi b hb => by
  have := hal i hi
  have h1 : ob[i]? = some (ob.getD i .gone) := getD_some rfl (by rintro e; rw [e] at this; cases this)
  exact zj.2 ⟨_, h1, zpg this, hb⟩
 generalize ho : o.op = op at h hst
 unfold aOp at h
 split at h
 ·exact ⟨_, _, h, ev _, fun w' _ => by simp [execOp, ho]⟩
 ·exact ⟨_, _, h, ev _, fun w' _ => by simp [execOp, ho]⟩
 ·rename_i cnd x y
  split at h
  ·rename_i b hb
   have hcv : a.eval cnd = .bool b := by have := ev cnd; rw [hb] at this; exact this
   have hx := ev x
   have hy := ev y
   split at h
   ·rename_i y' z' e1 e2
    rw [e1] at hx
    rw [e2] at hy
    cases b
    ·exact ⟨_, a.eval y, h, hy, fun w' _ => by simp [execOp, ho, hcv, asBool]⟩
    ·exact ⟨_, a.eval x, h, hx, fun w' _ => by simp [execOp, ho, hcv, asBool]⟩
   ·rename_i k y' k' z' e1 e2
    split at h
    ·rename_i hk
     subst hk
     rw [e1] at hx
     rw [e2] at hy
     cases b
     ·exact ⟨_, a.eval y, h, hy, fun w' _ => by simp [execOp, ho, hcv, asBool]⟩
     ·exact ⟨_, a.eval x, h, hx, fun w' _ => by simp [execOp, ho, hcv, asBool]⟩
    ·cases h
   ·rename_i y' z' e1 e2
    rw [e1] at hx
    rw [e2] at hy
    cases b
    ·exact ⟨_, a.eval y, h, hy, fun w' _ => by simp [execOp, ho, hcv, asBool]⟩
    ·exact ⟨_, a.eval x, h, hx, fun w' _ => by simp [execOp, ho, hcv, asBool]⟩
   ·cases b
    ·exact ⟨_, a.eval y, h, hy, fun w' _ => by simp [execOp, ho, hcv, asBool]⟩
    ·exact ⟨_, a.eval x, h, hx, fun w' _ => by simp [execOp, ho, hcv, asBool]⟩
  ·cases h
 ·cases hst
 ·cases hst

 ·rename_i t ps
  obtain ⟨d, v, h1, h2, h3⟩ := zt0 (P := P) (vs := ps.map fun (i, x) => (i, a.eval x)) hT h (by simp [Function.comp_def]) (by
   have := za.evals hd (ps.toList.map (·.2))
   simpa [Function.comp_def, List.map_map] using this)
  exact ⟨_, _, h1, h3, fun w' _ => by simp only [execOp, ho, Sem.run_bind, h2 w', Result.andThen_ok, Sem.run_pure]⟩
 ·cases hst

 ·rename_i t x
  obtain ⟨d, v, h1, h2, h3⟩ := zp7 (P := P) hT hc hI h (ev x)
  refine ⟨_, _, h1, h3, fun w' hw0 => ?_⟩
  have hw := hw0 _ rfl
  have hall : ∀ b, (S b ∧ rdOf (evD tm x) = [] ∨ ∃ i, i ∈ rdOf (evD tm x) ∧ b ∈ blks β ob i) → w'.heap[b]? = w.heap[b]? := ?_
  ·simp only [execOp, ho, Sem.run_bind, h2 w' hall, Result.andThen_ok, Sem.run_pure]
  intro b hb
  rcases hb with ⟨hb, hr0⟩ | ⟨i, hi, hb⟩
  ·exact hw b (hI.imm b hb) (fun ⟨j, hj, hx⟩ => (hI.own j b (hlive j hj b hx)).1 hb) (.inl hr0)
  ·refine hw b (hI.own i b hb).2.1 (fun ⟨j, hj, hx⟩ => ?_) (.inr ⟨i, hi, hb⟩)
   simp only [zp6, List.all_eq_true, Bool.not_eq_true', List.contains_eq_mem, decide_eq_false_iff_not] at hst
   have hij : i ≠ j := fun e => hst i hi (e ▸ hj)
   exact hI.sep i j b hij hb (hlive j hj b hx)
 ·cases hst

 ·rename_i x
  have hx := ev x
  split at h
  ·rename_i i off he
   rw [he] at hx
   have hx' := hx
   rcases hx.2 with ⟨b, _, hv⟩ | ⟨b, u, _, hv⟩ <;> exact ⟨_, a.eval x, h, hx', fun w' _ => by simp [execOp, ho, hv]⟩
  ·rename_i t y off he
   rw [he] at hx
   obtain ⟨ad, hv, _⟩ := id hx
   exact ⟨_, a.eval x, h, hx, fun w' _ => by simp [execOp, ho, hv]⟩
  ·rename_i i k sz off he
   rw [he] at hx
   obtain ⟨_, g, len, cap, _, hv⟩ := id hx
   exact ⟨_, a.eval x, h, hx, fun w' _ => by simp [execOp, ho, hv]⟩
  ·rename_i i g k sz off n es o' he
   rw [he] at hx
   obtain ⟨_, ⟨q, hv⟩, _⟩ := id hx
   exact ⟨_, a.eval x, h, hx, fun w' _ => by simp [execOp, ho, hv]⟩
  ·rename_i g off he
   rw [he] at hx
   have hv := id hx
   exact ⟨_, a.eval x, h, hx, fun w' _ => by simp [execOp, ho, show a.eval x = _ from hv]⟩
  ·rename_i f fi ca he
   rw [he] at hx
   obtain ⟨vs, us, hv, _⟩ := id hx
   exact ⟨_, a.eval x, h, hx, fun w' _ => by simp [execOp, ho, hv]⟩
  ·cases h

 ·rename_i op t x y yt
  obtain ⟨d, v, h1, h2, h3⟩ := zxx (P := P) hT hI hd h
  exact ⟨_, _, h1, h3, fun w' _ => by simp only [execOp, ho]; rw [Sem.run_bind, h2 w']; rfl⟩

 ·rename_i t x
  have hx := ev x
  split at h
  ·rename_i k k' n hu he
   rw [he] at hx
   split at h
   ·rename_i hk
    subst hk
    exact ⟨_, .iface t (a.eval x), h, ⟨by rw [hx.1], hx.2⟩, fun w' _ => by simp [execOp, ho, Instr.makeInterface, run_underlying (hT.int hu)]⟩
   ·cases h
  ·rename_i e i off hu he
   exact ⟨_, .iface t (a.eval x), h, ⟨t, a.eval x, rfl⟩, fun w' _ => by simp [execOp, ho, Instr.makeInterface, run_underlying (hT.pointee hu)]⟩
  ·cases h
 ·cases hst
 ·cases hst
 ·cases hst

 ·rename_i t x
  split at h
  ·rename_i b hb
   have hv : a.eval x = .bool b := by have := ev x; rw [hb] at this; exact this
   exact ⟨_, .bool (!b), h, rfl, fun w' _ => by simp [execOp, ho, hv, Op.unary]⟩
  ·cases h
 ·rename_i t x
  split at h
  ·rename_i k n hb
   have hv : a.eval x = .int k n ∧ Rng k n := by have := ev x; rw [hb] at this; exact this
   exact ⟨_, .int k (k.wrap (0 - n)), h, ⟨rfl, zcc _ _⟩, fun w' _ => by simp [execOp, ho, hv.1, Op.unary, Op.intArith]⟩
  ·cases h
 ·rename_i t x
  split at h
  ·rename_i k n hb
   have hv : a.eval x = .int k n ∧ Rng k n := by have := ev x; rw [hb] at this; exact this
   exact ⟨_, .int k (k.wrap ((BitVec.ofInt k.bits (xorC k) ^^^ BitVec.ofInt k.bits n).toNat : Int)), h, ⟨rfl, zcc _ _⟩, fun w' _ => by simp [execOp, ho, hv.1, Op.unary, Op.intBits, xorC]⟩
  ·cases h
 ·cases hst
 ·cases hst

 ·rename_i s t x
  simp only [zp6] at hst
  split at hst
  ·rename_i k1 k2 hu hu'
   split at h
   ·rename_i hu0
    rw [hu'] at hu0
    cases hu0
   unfold zo8 at h
   rw [hu, hu'] at h
   simp only at h
   split at h
   ·rename_i k n he1 he2 hp
    cases he2
    have hx := ev x
    rw [hp] at hx
    obtain ⟨hv, _⟩ := hx
    exact ⟨_, _, h, ⟨rfl, zcc _ _⟩, fun w' _ => by simp [execOp, ho, hv, convert, run_underlying (hT.int hu), run_underlying (hT.int hu'), Conv.intToInt]⟩
   all_goals first | cases h | (rename_i e1 e2; cases e1)
  ·cases hst

 ·rename_i f fi ca
  split at h
  ·obtain ⟨vs, h1, h2⟩ := zu8 hd fi
   obtain ⟨us, h3, h4⟩ := zu8 hd ca
   exact ⟨_, _, h, ⟨vs, us, rfl, h2, h4⟩, fun w' _ => by simp only [execOp, ho, Instr.makeFunc, Sem.run_bind, Sem.run_pure, Result.andThen_ok, h1, h3]⟩
  ·cases h

 ·rename_i t x lo hi
  split at h
  ·rename_i g hv
   have hx := ev x
   rw [hv] at hx
   obtain ⟨d, v, h1, h2, h3⟩ := zrg (P := P) hT hc hI h hx (zcy hd lo) (zcy hd hi)
   exact ⟨_, _, h1, h3, fun w' _ => by simp only [execOp, ho, Sem.run_bind, Option.map_none, h2 w', Result.andThen_ok, Sem.run_pure]⟩
  by_cases hv : ∃ i, evD tm x = .vec i
  ·obtain ⟨i, hv⟩ := hv
   simp only [zp6, hv] at hst
   cases hst
  ·obtain ⟨d, v, h1, h2, h3⟩ := zmu (P := P) (ob := ob) (w := w) hT hI (fun i hi => hv ⟨i, hi⟩) h (ev x) (zcy hd lo) (zcy hd hi)
   exact ⟨_, _, h1, h3, fun w' _ => by simp only [execOp, ho, Sem.run_bind, Option.map_none, h2 w', Result.andThen_ok, Sem.run_pure]⟩

 ·rename_i t x f
  obtain ⟨d, v, h1, h2, h3⟩ := zms (P := P) hT h (ev x)
  exact ⟨_, _, h1, h3, fun w' _ => by simp only [execOp, ho, Sem.run_bind, h2 w', Result.andThen_ok, Sem.run_pure]⟩

 ·rename_i t x f
  split at h
  ·rename_i off u cs hf hx
   have hv := ev x
   rw [hx] at hv
   obtain ⟨d, v, h1, h2, h3⟩ := ztz (P := P) hT hf h hv
   exact ⟨_, _, h1, h3, fun w' _ => by simp only [execOp, ho, Sem.run_bind, h2 w', Result.andThen_ok, Sem.run_pure]⟩
  ·cases h

 ·rename_i t x i
  obtain ⟨d, v, h1, h2, h3⟩ := zmv (P := P) hT hc hI h (ev x) (ev i)
  exact ⟨_, _, h1, h3, fun w' _ => by simp only [execOp, ho, Sem.run_bind, h2 w', Result.andThen_ok, Sem.run_pure]⟩

 ·rename_i t x i
  obtain ⟨d, v, h1, h2, h3⟩ := zty (P := P) hT h (ev x) (ev i)
  exact ⟨_, _, h1, h3, fun w' _ => by simp only [execOp, ho, Sem.run_bind, h2 w', Result.andThen_ok, Sem.run_pure]⟩

 ·rename_i x i
  split at h
  ·rename_i ds hx
   split at h
   ·rename_i d hi
    have hv := ev x
    rw [hx] at hv
    obtain ⟨vs, hv, h1⟩ := hv
    obtain ⟨v, h2, h3⟩ := za.get h1 i d hi
    exact ⟨_, _, h, h3, fun w' _ => by simp [execOp, ho, hv, Instr.extract, h2]⟩
   ·cases h
  ·rename_i b ds hx
   have hv := ev x
   rw [hx] at hv
   split at h
   ·cases b with
    | true =>
     obtain ⟨vs, h1, h2⟩ := hv.1 rfl
     exact ⟨_, .bool true, h, rfl, fun w' _ => by simp [execOp, ho, h1, Instr.extract]⟩
    | false =>
     have h1 := hv.2 rfl
     exact ⟨_, .bool false, h, rfl, fun w' _ => by simp [execOp, ho, h1, Instr.extract]⟩
   ·split at h
    ·rename_i d hi
     obtain ⟨hb, h⟩ := ya h
     obtain ⟨vs, h1, h2⟩ := hv.1 hb
     obtain ⟨v, h3, h4⟩ := za.get h2 _ d hi
     exact ⟨_, _, h, h4, fun w' _ => by simp [execOp, ho, h1, Instr.extract, h3]⟩
    ·cases h
  ·cases h

 ·rename_i x t
  split at h
  ·rename_i i hx
   simp only [zp6, hx, Bool.false_eq_true] at hst
  obtain ⟨d, v, h1, h2, h3⟩ := zxy (P := P) (ty := o.type) hT hI h (ev x)
  exact ⟨_, _, h1, h3, fun w' _ => by simp only [execOp, ho, resolve, Sem.run_bind, Sem.run_pure, Result.andThen_ok, invoke, builtin]; simp [h2 w']⟩

 ·rename_i x y ts
  split at h
  ·rename_i d hxy
   obtain ⟨k, m, n, h1, h2, rfl⟩ := zls hxy
   have hx : a.eval x = .int k m ∧ Rng k m := by have := ev x; rw [h1] at this; exact this
   have hy : a.eval y = .int k n ∧ Rng k n := by have := ev y; rw [h2] at this; exact this
   refine ⟨_, .int k (mn m n), h, ⟨rfl, ?_⟩, fun w' _ => ?_⟩
   ·unfold mn; split
    ·exact hy.2
    ·exact hx.2
   ·simp only [execOp, ho, resolve, Sem.run_bind, Sem.run_pure, Result.andThen_ok, invoke, builtin, Builtin.min_]
    simp [hx.1, hy.1, Builtin.min2, mn]
  ·cases h
 ·rename_i x y ts
  split at h
  ·rename_i d hxy
   obtain ⟨k, m, n, h1, h2, rfl⟩ := zls hxy
   have hx : a.eval x = .int k m ∧ Rng k m := by have := ev x; rw [h1] at this; exact this
   have hy : a.eval y = .int k n ∧ Rng k n := by have := ev y; rw [h2] at this; exact this
   refine ⟨_, .int k (mx m n), h, ⟨rfl, ?_⟩, fun w' _ => ?_⟩
   ·unfold mx; split
    ·exact hy.2
    ·exact hx.2
   ·simp only [execOp, ho, resolve, Sem.run_bind, Sem.run_pure, Result.andThen_ok, invoke, builtin, Builtin.max_]
    simp [hx.1, hy.1, Builtin.max2, mx]
  ·cases h
 all_goals first | cases hst | cases h | (rcases zx2 h with ⟨_, _, _, _, _, he, _⟩ | ⟨_, _, _, _, he, _⟩ <;> (rw [he] at hst; cases hst))
def OldT (β0 : Nat → GL) (W : List Nat) (w w' : World) : Prop := w.heap.size ≤ w'.heap.size ∧ ∀ b, b < w.heap.size → (¬ ∃ i, i ∈ W ∧ b ∈ (β0 i).blocks) → w'.heap[b]? = w.heap[b]?
theorem OldT.refl (β0 : Nat → GL) (W : List Nat) (w : World) : OldT β0 W w w := ⟨Nat.le_refl _, fun _ _ _ => rfl⟩
theorem OldT.trans {β0 : Nat → GL} {W : List Nat} (a b c : World) (h : OldT β0 W a b) (h' : OldT β0 W b c) : OldT β0 W a c :=
 ⟨Nat.le_trans h.1 h'.1, fun x hx hn => (h'.2 x (Nat.lt_of_lt_of_le hx h.1) hn).trans (h.2 x hx hn)⟩
theorem OldT.mono {β0 : Nat → GL} {W W' : List Nat} (h : ∀ i, i ∈ W → i ∈ W') {a b : World} (ht : OldT β0 W a b) : OldT β0 W' a b :=
 ⟨ht.1, fun x hx hn => ht.2 x hx fun ⟨i, hi, hb⟩ => hn ⟨i, h i hi, hb⟩⟩
def z5d (β0 : Nat → GL) (R : List Nat) (w w' : World) : Prop := w.heap.size ≤ w'.heap.size ∧ ∀ b, b < w.heap.size → (∃ i, i ∈ R ∧ b ∈ (β0 i).blocks) → w'.heap[b]? = w.heap[b]?
theorem z5d.refl (β0 : Nat → GL) (R : List Nat) (w : World) : z5d β0 R w w := ⟨Nat.le_refl _, fun _ _ _ => rfl⟩
def zpj (β0 : Nat → GL) (W F : List (Nat × List Nat)) (j : Nat) (w w' : World) : Prop := match F.lookup j with
 | some keep => z5d β0 keep w w'
 | none => OldT β0 ((W.lookup j).getD []) w w'
theorem zpj.refl (β0 : Nat → GL) (W F : List (Nat × List Nat)) (j : Nat) (w : World) : zpj β0 W F j w w := by
 unfold zpj
 split
 ·exact z5d.refl _ _ _
 ·exact OldT.refl _ _ _
theorem zfd {j : Nat} {l : List Nat} : ∀ {W : List (Nat × List Nat)}, W.lookup j = some l → (j, l) ∈ W
 | [], h => by cases h
 | (a, b) :: W, h => by
  rw [List.lookup_cons] at h
  split at h
  ·rename_i e
   cases h
   rw [show j = a by simpa using e]
   exact List.mem_cons_self
  ·exact List.mem_cons_of_mem _ (zfd h)
theorem z4c {ops : Array Oper} {W : List (Nat × List Nat)} {k j : Nat} {oj : Oper} (hj : ops[j]? = some oj) (hno : ∀ e ∈ oj.after, Region.binds .any e = true → e.on ≠ k) : ∀ i, i ∈ (W.lookup j).getD [] → i ∈ wOf ops W k := by
 intro i hi
 cases hl : W.lookup j with
 | none => rw [hl] at hi; simp at hi
 | some l =>
  rw [hl] at hi
  unfold wOf
  refine List.mem_flatMap.2 ⟨(j, l), List.mem_filter.2 ⟨zfd hl, ?_⟩, hi⟩
  simp only [hj, Bool.not_eq_true']
  cases hb : (ze6 oj.after.toList).testBit k with
  | false => rfl
  | true =>
   obtain ⟨e, h1, h2, h3⟩ := zlu.1 hb
   exact absurd h3 (hno e (by simpa using h1) h2)
theorem z6a {ops : Array Oper} {W : List (Nat × List Nat)} {k i : Nat} (h : i ∈ wOf ops W k) : ∃ p, p ∈ W ∧ i ∈ p.2 := by
 unfold wOf at h
 obtain ⟨p, h1, h2⟩ := List.mem_flatMap.1 h
 exact ⟨p, (List.mem_filter.1 h1).1, h2⟩
theorem zv8 {ops : Array Oper} {j k : Nat} {oj : Oper} (h : zxr ops j k = true) (hj : ops[j]? = some oj) (hno : ∀ e ∈ oj.after, Region.binds .any e = true → e.on ≠ k) : False := by
 unfold zxr at h
 simp only [hj] at h
 obtain ⟨e, h2, h3, h4⟩ := zlu.1 h
 exact hno e (by simpa using h2) h3 h4
def zw7 (β0 : Nat → GL) (W rd : List Nat) (w w' : World) : Prop := w.heap.size ≤ w'.heap.size ∧ ∀ b, b < w.heap.size → (¬ ∃ i, i ∈ W ∧ b ∈ (β0 i).blocks) → (∃ i, i ∈ rd ∧ b ∈ (β0 i).blocks) → w'.heap[b]? = w.heap[b]?
theorem zw7.refl (β0 : Nat → GL) (W rd : List Nat) (w : World) : zw7 β0 W rd w w := ⟨Nat.le_refl _, fun _ _ _ _ => rfl⟩
theorem zw7.trans {β0 : Nat → GL} {W rd : List Nat} (a b c : World) (h : zw7 β0 W rd a b) (h' : zw7 β0 W rd b c) : zw7 β0 W rd a c :=
 ⟨Nat.le_trans h.1 h'.1, fun x hx hn hr => (h'.2 x (Nat.lt_of_lt_of_le hx h.1) hn hr).trans (h.2 x hx hn hr)⟩
theorem z5e {ops : Array Oper} {ob : List Ob} {W F : List (Nat × List Nat)} {β0 : Nat → GL} {k : Nat} {rd : List Nat} (h : fOK ops ob F k (some rd) = true) :
  (∀ j oj, ops[j]? = some oj → (∀ e ∈ oj.after, Region.binds .any e = true → e.on ≠ k) → ∀ a b, zpj β0 W F j a b → OldT β0 (wOf ops W k) a b) ∨
  ((∃ i, i ∈ rd) ∧ (∀ i, i ∈ rd → (ob.getD i .gone).alive = true) ∧ (∃ p, p ∈ F ∧ ∀ i, i ∈ rd → i ∈ p.2) ∧ ∀ j oj, ops[j]? = some oj → (∀ e ∈ oj.after, Region.binds .any e = true → e.on ≠ k) → ∀ a b, zpj β0 W F j a b → zw7 β0 (wOf ops W k) rd a b) := by
 simp only [fOK, Bool.or_eq_true, Bool.and_eq_true, List.all_eq_true, Bool.not_eq_true', List.contains_eq_mem, decide_eq_true_eq] at h
 have hA : (∀ p, p ∈ F → zxr ops p.1 k = true) → ∀ j oj, ops[j]? = some oj → (∀ e ∈ oj.after, Region.binds .any e = true → e.on ≠ k) → ∀ a b, zpj β0 W F j a b → OldT β0 (wOf ops W k) a b := by
  intro h j oj hj hno a b ht
  unfold zpj at ht
  split at ht
  ·rename_i keep hl
   exact (zv8 (h _ (zfd hl)) hj hno).elim
  ·exact OldT.mono (z4c hj hno) ht
 by_cases hall : ∀ p, p ∈ F → zxr ops p.1 k = true
 ·exact .inl (hA hall)
 rcases h with h | ⟨⟨h1, h2⟩, h3⟩
 ·exact absurd h hall
 ·obtain ⟨p, hp⟩ := Classical.not_forall.1 hall
  obtain ⟨hp, hpw⟩ := Classical.not_imp.1 hp
  refine .inr ⟨?_, h2, ⟨p, hp, (h3 p hp).resolve_left hpw⟩, fun j oj hj hno a b ht => ?_⟩
  ·cases rd with
   | nil => simp at h1
   | cons i r => exact ⟨i, List.mem_cons_self ..⟩
  ·unfold zpj at ht
   split at ht
   ·rename_i keep hl
    rcases h3 _ (zfd hl) with h4 | h4
    ·exact (zv8 h4 hj hno).elim
    ·exact ⟨ht.1, fun x hx _ ⟨i, hi, hb⟩ => ht.2 x hx ⟨i, h4 i hi, hb⟩⟩
   ·have := OldT.mono (z4c hj hno) ht
    exact ⟨this.1, fun x hx hn _ => this.2 x hx hn⟩
theorem z4d {ops : Array Oper} {W F : List (Nat × List Nat)} {eq : R → R → Bool} (heq : ∀ o o', eq o o' = true → o = o') {tm : List D} {ob : List Ob} {K : List D → List Ob → Option R} {r : R} {n L : Nat} {listed : Array Bool} (hrep : Rep ops.size L listed) :
  ∀ {t : Ord} {hs : List Nat}, zrc E ops W F eq t tm ob K = some r → chkO ops (zrs ops) t (n + 1) L hs = true → (∀ k t', t ≠ .step k true t') →
  (∀ p, p ∈ t.alts → (zzu E ops W F p.1 false tm ob fun tm' ob' => zrc E ops W F eq p.2 tm' ob' K) = some r ∧ L.testBit p.1 = false ∧ (∃ o, ops[p.1]? = some o ∧ ze6 o.after.toList &&& L = ze6 o.after.toList) ∧ chkO ops (zrs ops) p.2 n (L ||| 2 ^ p.1) [] = true) ∧
  ∀ j, j ∈ Region.ready .any ops listed → j ∈ hs ∨ ∃ t', (j, t') ∈ t.alts := by
 have hmk : ∀ {k : Nat} {o : Oper}, ops[k]? = some o → (zrs ops)[k]? = some (ze6 o.after.toList) := by
  intro k o ho
  unfold zrs
  rw [List.getElem?_map, Array.getElem?_toList, ho]; rfl
 intro t
 induction t with
 | done => intro hs h hk _; simp [chkO] at hk
 | step k st t ih =>
  intro hs h hk hne
  cases st with
  | true => exact absurd rfl (hne k t)
  | false =>
   simp only [chkO] at hk
   split at hk
   ·rename_i o m n' ho hm hn
    cases hn
    rw [hmk ho] at hm
    cases hm
    simp only [Bool.and_eq_true, Bool.not_eq_true', beq_iff_eq] at hk
    obtain ⟨⟨⟨hk1, hk2⟩, hk3⟩, hk4⟩ := hk
    refine ⟨fun p hp => ?_, fun j hj => ?_⟩
    ·simp only [Ord.alts, List.mem_singleton] at hp
     subst hp
     exact ⟨h, hk1, ⟨o, ho, hk2⟩, hk4⟩
    ·rcases List.mem_cons.1 (zyc hrep hk3 hj) with rfl | h1
     ·exact .inr ⟨t, by simp [Ord.alts]⟩
     ·exact .inl h1
   ·cases hk
 | alt k t u iht ihu =>
  intro hs h hk _
  simp only [zrc] at h
  obtain ⟨o1, h1, h2⟩ := Option.bind_eq_some_iff.1 h
  obtain ⟨o2, h3, h4⟩ := Option.bind_eq_some_iff.1 h2
  split at h4
  ·rename_i he
   obtain rfl := heq _ _ he
   cases h4
   simp only [chkO] at hk
   split at hk
   ·rename_i o m n' ho hm hn
    cases hn
    rw [hmk ho] at hm
    cases hm
    simp only [Bool.and_eq_true, Bool.not_eq_true', beq_iff_eq] at hk
    obtain ⟨⟨⟨hk1, hk2⟩, hk3⟩, hk4⟩ := hk
    have hu := ihu h3 hk4 (by
     rintro k' t' rfl
     simp only [chkO] at hk4
     split at hk4
     ·simp at hk4
     ·cases hk4)
    refine ⟨fun p hp => ?_, fun j hj => ?_⟩
    ·rcases List.mem_cons.1 hp with rfl | hp
     ·exact ⟨h1, hk1, ⟨o, ho, hk2⟩, hk3⟩
     ·exact hu.1 p hp
    ·rcases hu.2 j hj with h5 | ⟨t', h5⟩
     ·rcases List.mem_cons.1 h5 with rfl | h5
      ·exact .inr ⟨t, List.mem_cons_self ..⟩
      ·exact .inl h5
     ·exact .inr ⟨t', List.mem_cons_of_mem _ h5⟩
   ·cases hk
  ·cases h4
theorem z06 {df : List Deferred} (hE : zs4 P E) (hcy : CtxY P E c) {ops : Array Oper} (hs : Region.noSelect ops = true) {W : List (Nat × List Nat)} (hW : ∀ p, p ∈ W → ∀ i, i ∈ p.2 → i < c.m0) {F : List (Nat × List Nat)} (hF : ∀ p, p ∈ F → ∀ i, i ∈ p.2 → i < c.m0) {eq : R → R → Bool} (heq : ∀ o o', eq o o' = true → o = o') {Q : Exit → Act → World → Prop} (hQp : ∀ ch a w, ¬ Q (.panic ch) a w) :
  ∀ {n : Nat} {t : Ord} {tm : List D} {ob : List Ob} {L : Nat} {listed : Array Bool} {a : Act} {w : World} {K : List D → List Ob → Option R} {r : R}, zrc E ops W F eq t tm ob K = some r → chkO ops (zrs ops) t n L [] = true → Rep ops.size L listed →
  Rel c tm ob a.tmps.toList w → a.defers = df → (∀ tm' ob' a' w', K tm' ob' = some r → Rel c tm' ob' a'.tmps.toList w' → a'.defers = df → Q .normal a' w') → zv6 P .any ops Q (zpj c.β0 W F) n listed a w := by
 have hF0 := hF
 clear hF
 intro n
 induction n with
 | zero =>
  intro t tm ob L listed a w K r h hk hrep hr hdf hQ
  cases t with
  | done =>
   refine ⟨?_, hQ _ _ _ _ h hr hdf⟩
   simp only [chkO, Bool.and_eq_true] at hk
   apply List.eq_nil_iff_forall_not_mem.2
   intro j hj
   have := zyc hrep hk.2 hj
   simp at this
  | step k st t => simp only [chkO] at hk; split at hk <;> simp_all
  | alt k t u => simp only [chkO] at hk; split at hk <;> simp_all
 | succ n ih =>
  intro t tm ob L listed a w K r h hk hrep hr hdf hQ

  have one : ∀ (k : Nat) (st : Bool) (t' : Ord) (o : Oper), ops[k]? = some o → (zzu E ops W F k st tm ob fun tm' ob' => zrc E ops W F eq t' tm' ob' K) = some r → chkO ops (zrs ops) t' n (L ||| 2 ^ k) [] = true →
    (∀ G : Prop, (Region.wanted o (yielded ops a.tmps) = false → zv6 P .any ops Q (zpj c.β0 W F) n (listed.setIfInBounds k true) (a.put o.dst undef) w → G) →
     (∀ {tm : List D}, Rel c tm ob a.tmps.toList w → Region.wanted o (yielded ops a.tmps) = true → (match st with
      | true => if zp6 E (evD tm) (wOf ops W k) o.op && (wOf ops W k).all (fun i => (ob.getD i .gone).alive) && fOK ops ob F k (ldRd (evD tm) o.op) then aOp E (evD tm) ob o.type o.op fun d _ _ _ => zrc E ops W F eq t' (putD tm o.dst d) ob K else none
      | false => aOp E (evD tm) ob o.type o.op fun d ob' fr wr => if wrOK ob W F k wr then frz fr (putD tm o.dst d) ob' fun tm' ob'' => zrc E ops W F eq t' tm' ob'' K else none) = some r → G) → G) := by
   intro k st t' o ho h hk4 G no go
   have hkn := (Array.getElem?_eq_some_iff.1 ho).1
   have hrep' := hrep.set hkn
   simp only [zzu, ho] at h
   split at h
   ·rename_i hg
    exact go hr (by simp [Region.wanted, hg]) h
   ·rename_i j want hg
    split at h
    ·cases h
    ·rename_i s hs'
     split at h
     ·rename_i x hx
      obtain ⟨h1, h2⟩ := hr.known hx
      have hy : yielded ops a.tmps j = some x := by simp only [yielded, hs', Option.bind_some, h1]
      have hw : Region.wanted o (yielded ops a.tmps) = (x == want) := by
       simp only [Region.wanted, hg, hy]
       cases x <;> cases want <;> rfl
      cases hxw : x == want with
      | true =>
       obtain rfl : x = want := by simpa using hxw
       rw [hxw, cond_true] at h
       exact go h2 (by rw [hw, hxw]) h
      | false =>
       rw [hxw, cond_false] at h
       have hxn : x = !want := by revert hxw; cases x <;> cases want <;> simp
       rw [hxn] at h2
       exact no (by rw [hw, hxw]) (ih h hk4 hrep' (h2.putSkip o.dst) (by rw [zfc]; exact hdf) hQ)
     ·rename_i hx
      have h1 := hr.skipped hx
      have hy : yielded ops a.tmps j = none := by simp only [yielded, hs', Option.bind_some, h1]; rfl
      have hw : Region.wanted o (yielded ops a.tmps) = false := by simp [Region.wanted, hg, hy]
      exact no hw (ih h hk4 hrep' (hr.putSkip o.dst) (by rw [zfc]; exact hdf) hQ)
     ·cases h
  have βk : ∀ {β : Nat → GL} {S : Nat → Prop}, Inv c β S ob w → ∀ k i, (i ∈ wOf ops W k ∨ i ∈ (W.lookup k).getD []) → (ob.getD i .gone).live = true → (ob.getD i .gone).isDv = false → β i = c.β0 i := by
   intro β S hI k i hi
   refine hI.keepEq ?_
   rcases hi with hi | hi
   ·obtain ⟨p, hp, hip⟩ := z6a hi
    exact hW p hp i hip
   ·cases hl : W.lookup k with
    | none => rw [hl] at hi; simp at hi
    | some l => exact hW _ (zfd hl) i (by simpa [hl] using hi)

  have ways : (∀ k t', t ≠ .step k true t') → zv6 P .any ops Q (zpj c.β0 W F) (n + 1) listed a w := by
   intro hne
   obtain ⟨h1, h2⟩ := z4d heq hrep h hk hne
   have hsome : ∃ p, p ∈ t.alts := by
    cases t with
    | done => simp [chkO] at hk
    | alt k t u => exact ⟨_, List.mem_cons_self ..⟩
    | step k st t =>
     cases st with
     | true => exact absurd rfl (hne k t)
     | false => exact ⟨(k, t), by simp [Ord.alts]⟩
   refine ⟨fun h0 => ?_, fun j hj => ?_⟩
   ·obtain ⟨p, hp⟩ := hsome
    obtain ⟨_, h3, ⟨o, h4, h5⟩, _⟩ := h1 p hp
    have := (zv5 hrep h4).2 ⟨h3, h5⟩
    rw [h0] at this
    cases this
   ·rcases h2 j hj with h3 | ⟨t', h3⟩
    ·simp at h3
    ·obtain ⟨h4, h5, ⟨o, ho, h6⟩, hk4⟩ := h1 _ h3
     simp only at h4 h5 ho h6 hk4
     have hrep' := hrep.set (Array.getElem?_eq_some_iff.1 ho).1
     refine one j false t' o ho h4 hk4 _ (fun hw H => ?_) (fun {tm} hr hw g => ?_)
     ·unfold wpOp
      simp only [ho, hw, Bool.false_eq_true, if_false]
      exact ⟨zpj.refl _ _ _ _ _, H⟩
     ·obtain ⟨β, S, hI, hd⟩ := id hr
      unfold wpOp
      simp only [ho, hw, if_true]
      simp only at g
      obtain ⟨d, ob', fr, wr, g1, g2⟩ := z0f hE hcy hI hd g
      refine .inl (g2 _ Q fun v w' ⟨hF, hsm⟩ => ?_)
      split at g1
      ·rename_i hwr
       refine ⟨?_, ?_⟩
       ·unfold wrOK at hwr
        unfold zpj
        cases hl : F.lookup j with
        | some keep =>
         simp only [hl, List.all_eq_true, List.contains_eq_mem, decide_eq_false_iff_not, Bool.and_eq_true, Bool.not_eq_true'] at hwr
         refine ⟨hsm.size, fun b hb ⟨i, hi, hx⟩ => hsm.block b hb fun ⟨i', hi', hx'⟩ => ?_⟩
         obtain ⟨hal, hnw⟩ := hwr i hi
         have hlv := zpg hal
         rw [← hI.keepEq (hF0 _ (zfd hl) i hi) hlv (zy4 hal)] at hx
         have h1 : ob[i]? = some (ob.getD i .gone) := getD_some rfl (by rintro e; rw [e] at hlv; cases hlv)
         exact hI.sep i i' b (fun e => hnw (e ▸ hi')) (zj.2 ⟨_, h1, hlv, hx⟩) hx'
        | none =>
         simp only [hl, List.all_eq_true, List.contains_eq_mem, decide_eq_true_eq, Bool.and_eq_true, Bool.not_eq_true'] at hwr
         refine ⟨hsm.size, fun b hb hn => hsm.block b hb fun ⟨i, hi, hx⟩ => hn ⟨i, (hwr i hi).1, ?_⟩⟩
         obtain ⟨o', ho1, ho2, hx⟩ := zj.1 hx
         rw [← βk hI j i (.inr (hwr i hi).1) (by rw [List.getD_eq_getElem?_getD, ho1]; exact ho2) (hwr i hi).2]
         exact hx
       ·obtain ⟨tm', ob'', g3, g4⟩ := zv7 (a := a) g1 hF
        exact ih g3 hk4 hrep' g4 (by rw [zfc]; exact hdf) hQ
      ·cases g1
  cases t with
  | done => simp [chkO] at hk
  | alt k t u => exact ways (fun _ _ h => by cases h)
  | step k st t =>
   cases st with
   | false => exact ways (fun _ _ h => by cases h)
   | true =>
    simp only [chkO] at hk
    split at hk
    ·rename_i o m n' ho hm hn
     cases hn
     have hmk : (zrs ops)[k]? = some (ze6 o.after.toList) := by
      unfold zrs
      rw [List.getElem?_map, Array.getElem?_toList, ho]; rfl
     rw [hmk] at hm
     cases hm
     simp only [Bool.and_eq_true, Bool.not_eq_true', beq_iff_eq] at hk
     obtain ⟨⟨⟨hk1, hk2⟩, _, hk3⟩, hk4⟩ := hk
     have hready : k ∈ Region.ready .any ops listed := (zv5 hrep ho).2 ⟨hk1, hk2⟩
     have hrep' := hrep.set (Array.getElem?_eq_some_iff.1 ho).1
     simp only [zrc] at h
     refine one k true t o ho h hk4 _ (fun hw H => ?_) (fun {tm} hr hw g => ?_)
     ·exact zua (U := fun _ _ => True) (fun _ => zpj.refl _ _ _ _) (fun _ => trivial) (fun _ _ _ _ _ => trivial) ho (Region.noSelect_spec hs) (fun _ _ _ _ _ _ _ => trivial) (fun ch a w hq => absurd hq (hQp _ _ _)) _ _ _ _ (fun j oj hj hne hun hno => z4b hrep hk3 j oj hj hne hun hno) hready (.inr ⟨hw, rfl⟩) H
     ·obtain ⟨β, S, hI, hd⟩ := id hr
      simp only at g
      split at g
      ·rename_i hst
       simp only [Bool.and_eq_true] at hst
       obtain ⟨⟨hst, hal⟩, hfo⟩ := hst
       have hal' := List.all_eq_true.1 hal
       obtain ⟨d, v, h1, h2, h3⟩ := z0i hE hcy.toCtxOK hI hd hst hal' g
       have hβW : ∀ i, i ∈ wOf ops W k → β i = c.β0 i := fun i hi => βk hI k i (.inl hi) (zpg (hal' i hi)) (zy4 (hal' i hi))
       have fin := fun (U : World → World → Prop) u1 u2 u3 (u4 : ∀ w', U w w' → (execOp a.eval o).run P w' = .ok (.value v) w') =>
        zua (U := U) (v := v) (fun _ => zpj.refl _ _ _ _) u1 u2 ho (Region.noSelect_spec hs) u3 (fun ch a w hq => absurd hq (hQp _ _ _)) _ _ _ _ (fun j oj hj hne hun hno => z4b hrep hk3 j oj hj hne hun hno) hready (.inl ⟨hw, u4⟩)
         (ih h1 hk4 hrep' (Rel.put (d := d) (v := v) ⟨β, S, hI, _, _, rfl, h2, hd⟩ o.dst) (by rw [zfc]; exact hdf) hQ)
       cases hrd : ldRd (evD tm) o.op with
       | none => exact fin (fun _ _ => True) (fun _ => trivial) (fun _ _ _ _ _ => trivial) (fun _ _ _ _ _ _ _ => trivial) (fun w' _ => h3 w' fun rd hr => by rw [hrd] at hr; cases hr)
       | some rd =>
        rw [hrd] at hfo
        rcases z5e (W := W) (β0 := c.β0) hfo with hU | ⟨⟨i0, hi0⟩, hrl, ⟨p, hp, hpr⟩, hU⟩
        ·refine fin (OldT c.β0 (wOf ops W k)) (OldT.refl _ _) OldT.trans hU (fun w' ht => h3 w' fun rd' _ b hb hn _ => ht.2 b hb fun ⟨i, hi, hx⟩ => hn ⟨i, hi, by rw [hβW i hi]; exact hx⟩)
        ·refine fin (zw7 c.β0 (wOf ops W k) rd) (zw7.refl _ _ _) zw7.trans hU (fun w' ht => h3 w' fun rd' hr' b hb hn hx => ?_)
         cases hrd.symm.trans hr'
         refine ht.2 b hb (fun ⟨i, hi, hx⟩ => hn ⟨i, hi, by rw [hβW i hi]; exact hx⟩) ?_
         rcases hx with hx | ⟨i, hi, hx⟩
         ·rw [hx] at hi0; cases hi0
         ·obtain ⟨o', _, _, hx⟩ := zj.1 hx
          exact ⟨i, hi, by rw [← hI.keepEq (hF0 p hp i (hpr i hi)) (zpg (hrl i hi)) (zy4 (hrl i hi))]; exact hx⟩
      ·cases g
    ·cases hk
theorem Inv.drew {β : Nat → GL} {S : Nat → Prop} {ob : List Ob} {w : World} (h : Inv c β S ob w) : Inv { c with m0 := ob.length, β0 := β } β S ob { w with drawn := w.drawn + 1 } :=
 ⟨fun i o ho => RelO.imp (w := w) (w' := { w with drawn := w.drawn + 1 }) (Nat.le_refl _) (fun _ _ => .refl _) (fun _ h => h) (fun _ _ => rfl) (fun _ _ => rfl) (h.obj i o ho), h.sep, h.own, h.imm, h.s0, h.s1,
  ⟨h.same.os, h.same.tape, h.same.output, h.same.size, h.same.block⟩, fun _ _ => GL.kin.refl _, Nat.le_refl _⟩
theorem zrt {df : List Deferred} (hE : zs4 P E) (hcy : CtxY P E c) (hm : P.follows .mixedOrders = true) {id : Nat} {ops : Array Oper} {order : Ord} {W F : List (Nat × List Nat)} (ho : z40 ops order = true) {eq : R → R → Bool} (heq : ∀ o o', eq o o' = true → o = o') {tm : List D} {ob : List Ob} (hW : ∀ p, p ∈ W → ∀ i, i ∈ p.2 → i < ob.length) (hF : ∀ p, p ∈ F → ∀ i, i ∈ p.2 → i < ob.length) {a : Act} {w : World} {K : List D → List Ob → Option R} {r : R}
  (h : zrc E ops W F eq order tm ob K = some r) (hr : Rel c tm ob a.tmps.toList w) (hdf : a.defers = df) {Q : Exit → Act → World → Prop} (hQ : ∀ tm' ob' a' w', K tm' ob' = some r → Rel c tm' ob' a'.tmps.toList w' → a'.defers = df → Q .normal a' w') :
  (Code.region id ops true).wp P Q a w := by
 obtain ⟨β, S, hI, hd⟩ := hr
 simp only [z40, Bool.and_eq_true] at ho
 obtain ⟨h1, h3⟩ := ho
 refine wp_mono (Q := fun e a' w' => ∃ tm' ob', e = .normal ∧ K tm' ob' = some r ∧ Rel c tm' ob' a'.tmps.toList w' ∧ a'.defers = df) (wp_region_any hm (zye (T := zpj β W F) _ _ _ _ ?_)) fun e a' w' ⟨tm', ob', he, h4, h5, h6⟩ => by
  subst he
  exact hQ _ _ _ _ h4 h5 h6
 refine z06 (c := { c with m0 := ob.length, β0 := β }) hE ⟨⟨hcy.disj, hcy.glob, hcy.gerr, hcy.gint⟩, hcy.yc.rebase hI⟩ h1 hW hF heq (fun ch a w ⟨_, _, he, _⟩ => by cases he) h h3 ?_ ⟨β, S, hI.drew, ?_⟩ hdf ?_
 ·exact ⟨by simp, fun j hj => by simp [hj], fun j hj => by simp at hj⟩
 ·exact za.imp (w := w) (w' := { w with drawn := w.drawn + 1 }) (Nat.le_refl _) (fun _ _ => .refl _) (fun _ h => h) (fun _ _ => rfl) _ hd
 ·intro tm' ob' a' w' h4 ⟨β', S', hI', hd'⟩ h5
  have hle : c.m0 ≤ ob'.length := Nat.le_trans hI.le hI'.le
  exact ⟨tm', ob', rfl, h4, ⟨β', S', ⟨hI'.obj, hI'.sep, hI'.own, hI'.imm, hI'.s0, hI'.s1, hI'.same, fun j hj => (hI.keep j hj).trans (hI'.keep j (Nat.lt_of_lt_of_le hj hI.le)), hle⟩, hd'⟩, h5⟩
end
end Go.En
