/- Text E7 of this seat: written by a program of ours, or by hand; checked by Lean. -/
import Derived.Test.YtfgphjencdhdgaaGreatDoorE6
import Derived.RangeFuncLeaves
import Derived.RangeFuncRecord
import Derived.RangeFuncSeq
set_option linter.unusedVariables false
set_option linter.unusedSimpArgs false
namespace Go.En
open Go.RowKit

/-! -/
theorem ImmC.free {S S' : Nat → Prop} {w w' : World} : ∀ {t : Ty} {g : Nat → Option Value} {x : t.T}, t.flat = true → ImmC S w t g x → ImmC S' w' t g x
 | .int _, _, _, _, h => h
 | .bool, _, _, _, h => h
 | .str, _, _, _, h => h
 | .err, _, _, _, h => h
 | .eint _ _, _, _, _, h => h
 | .pair a b, g, x, hf, h => by
  simp only [Ty.flat, Bool.and_eq_true] at hf
  exact ⟨ImmC.free hf.1 h.1, ImmC.free hf.2 h.2⟩
 | .slice _ _, _, _, hf, _ => by cases hf
section
variable {S S' : Nat → Prop} {w w' : World} {n n' : Nat} {β β' : Nat → GL} {ren : Nat → Nat}
theorem zn1.free {S S' : Nat → Prop} {w w' : World} {kt t : Ty} (hf : t.flat = true) : ∀ {l : List (kt.T × t.T)} {es : List MapEntry}, zn1 S w kt t l es → zn1 S' w' kt t l es
 | [], es, h => h
 | p :: l, es, h => by
  obtain ⟨e, r, h1, ⟨h2, h3, h4⟩, h5⟩ := h
  exact ⟨e, r, h1, ⟨h2, h3, ImmC.free hf h4⟩, zn1.free hf h5⟩
theorem zjd.free {S S' : Nat → Prop} {w w' : World} {b : Nat} {kt t : Ty} (hf : t.flat = true) (hb : w'.heap[b]? = w.heap[b]?) {l : List (kt.T × t.T)} (h : zjd S w b kt t l) : zjd S' w' b kt t l := by
 unfold zjd at h ⊢
 split at h
 ·obtain ⟨es, clock, h1, h2⟩ := h
  exact ⟨es, clock, hb.trans h1, h2⟩
 ·obtain ⟨⟨es, clock, h1, h2⟩, h3⟩ := h
  exact ⟨⟨es, clock, hb.trans h1, h2.free hf⟩, h3⟩
theorem za.cellsOf {t : Ty} {x : t.T} {ds : List D} {vs : List Value} (h : za n β S w (t.cells x ++ ds) vs) : ∃ us ws, vs = us ++ ws ∧ us.length = t.size ∧ ImmC S w t (fun j => us[j]?) x ∧ za n β S w ds ws := by
 obtain ⟨us, ws, rfl, h1, h2⟩ := za.split h
 exact ⟨us, ws, rfl, (za.length h1).symm.trans (t.cells_length x), za.uncells h1, h2⟩
theorem zro (hr : ∀ j, j < n → ren j < n' ∧ (β j).bs (β' (ren j))) : ∀ {ps : List (Nat × Nat)} {vs : List Value}, za n β S w (ps.map fun p => .ptr p.1 p.2) vs → za n' β' S' w' (ps.map fun p => .ptr (ren p.1) p.2) vs
 | [], vs, h => h
 | p :: ps, vs, h => by
  obtain ⟨u, us, rfl, h1, h2⟩ := h
  exact ⟨u, us, rfl, ⟨(hr _ h1.1).1, (hr _ h1.1).2.or h1.2⟩, zro hr h2⟩
theorem ur (hr : ∀ j, j < n → ren j < n' ∧ (β j).bs (β' (ren j))) (hw : ∀ b, S b → w'.heap[b]? = w.heap[b]?) : ∀ {ps : List Pat} {x : zib ps} {vs : List Value}, ((∀ b, S b → S' b) ∨ ps.all Pat.flat = true) →
  za n β S w (injP id ps x) vs → za n' β' S' w' (injP ren ps x) vs
 | [], x, vs, hf, h => h
 | p :: ps, x, vs, hf, h => by
  have hf2 : (∀ b, S b → S' b) ∨ ps.all Pat.flat = true := hf.imp id fun h => by simp only [List.all_cons, Bool.and_eq_true] at h; exact h.2
  have imm : ∀ {t : Ty} {g : Nat → Option Value} {z : t.T}, ((∀ b, S b → S' b) ∨ t.flat = true) → ImmC S w t g z → ImmC S' w' t g z := by
   intro t g z ht hz
   rcases ht with ht | ht
   ·exact ImmC.imp ht hw hz
   ·exact ImmC.free ht hz
  cases p <;> simp only [injP] at h ⊢
  case ty t =>
   have ht : (∀ b, S b → S' b) ∨ t.flat = true := hf.imp id fun h => by simp only [List.all_cons, Bool.and_eq_true] at h; exact h.1
   obtain ⟨us, ws, rfl, h1, h2, h3⟩ := za.cellsOf h
   exact za.append (za.cells h1 (imm ht h2)) (ur hr hw hf2 h3)
  case cells t =>
   have ht : (∀ b, S b → S' b) ∨ t.flat = true := hf.imp id fun h => by simp only [List.all_cons, Bool.and_eq_true] at h; exact h.1
   obtain ⟨us, ws, rfl, h1, h2, h3⟩ := za.cellsOf h
   exact za.append (za.cells h1 (imm ht h2)) (ur hr hw hf2 h3)
  case agg t =>
   have ht : (∀ b, S b → S' b) ∨ t.flat = true := hf.imp id fun h => by simp only [List.all_cons, Bool.and_eq_true] at h; exact h.1
   obtain ⟨u, us, rfl, ⟨cs, rfl, h1⟩, h2⟩ := h
   have h3 := za.length h1
   rw [t.cells_length] at h3
   exact ⟨_, us, rfl, ⟨cs, rfl, za.cells h3.symm (imm ht (za.uncells h1))⟩, ur hr hw hf2 h2⟩
  case aggn k =>
   obtain ⟨u, us, rfl, ⟨cs, rfl, h1⟩, h2⟩ := h
   have h3 := ur hr hw hf2 (by have := za.append h1 h2; rwa [List.take_append_drop] at this)
   have l1 := za.length h1
   have l2 := za.length h2
   simp only [List.length_take, List.length_drop] at l1 l2
   have e1 : (cs ++ us).take k = cs := by
    by_cases hk : k ≤ (injP id ps x).length
    ·rw [List.take_append_of_le_length (by omega), List.take_of_length_le (by omega)]
    ·have : us = [] := List.eq_nil_of_length_eq_zero (by omega)
     subst this
     rw [List.append_nil, List.take_of_length_le (by omega)]
   have e2 : (cs ++ us).drop k = us := by
    by_cases hk : k ≤ (injP id ps x).length
    ·rw [show k = cs.length by omega, List.drop_left]
    ·have : us = [] := List.eq_nil_of_length_eq_zero (by omega)
     subst this
     rw [List.append_nil, List.drop_eq_nil_of_le (by omega)]
   exact ⟨_, us, rfl, ⟨cs, rfl, by have := h3.take k; rwa [e1] at this⟩, by have := h3.drop k; rwa [e2] at this⟩
  case yldn q k =>
   obtain ⟨u, us, rfl, ⟨hq, l, rec, hl, rfl, h1⟩, h2⟩ := h
   generalize hcs : rec.tmps.toList = cs at h1
   have h3 := ur hr hw hf2 (by have := za.append h1 h2; rwa [List.take_append_drop] at this)
   have l1 := za.length h1
   have l2 := za.length h2
   simp only [List.length_take, List.length_drop] at l1 l2
   have e1 : (cs ++ us).take k = cs := by
    by_cases hk : k ≤ (injP id ps x).length
    ·rw [List.take_append_of_le_length (by omega), List.take_of_length_le (by omega)]
    ·have : us = [] := List.eq_nil_of_length_eq_zero (by omega)
     subst this
     rw [List.append_nil, List.take_of_length_le (by omega)]
   have e2 : (cs ++ us).drop k = us := by
    by_cases hk : k ≤ (injP id ps x).length
    ·rw [show k = cs.length by omega, List.drop_left]
    ·have : us = [] := List.eq_nil_of_length_eq_zero (by omega)
     subst this
     rw [List.append_nil, List.drop_eq_nil_of_le (by omega)]
   exact ⟨_, us, rfl, ⟨(hr q hq).1, l, rec, (hr q hq).2.lpr _ _ hl, rfl, by rw [hcs]; have := h3.take k; rwa [e1] at this⟩, by have := h3.drop k; rwa [e2] at this⟩
  case vec j =>
   obtain ⟨u, us, rfl, ⟨h1, h2, h3⟩, h4⟩ := h
   exact ⟨u, us, rfl, ⟨(hr j h1).1, (hr j h1).2.hdr.trans h2, h3⟩, ur hr hw hf2 h4⟩
  case ptr j o =>
   obtain ⟨u, us, rfl, ⟨h1, h2⟩, h4⟩ := h
   exact ⟨u, us, rfl, ⟨(hr j h1).1, (hr j h1).2.or h2⟩, ur hr hw hf2 h4⟩
  case bsl j m =>
   obtain ⟨u, us, rfl, ⟨h1, b, h2, h3⟩, h4⟩ := h
   exact ⟨u, us, rfl, ⟨(hr j h1).1, b, (hr j h1).2.blk _ h2, h3⟩, ur hr hw hf2 h4⟩
  case mapp j =>
   obtain ⟨u, us, rfl, ⟨h1, b, h2, h3⟩, h4⟩ := h
   exact ⟨u, us, rfl, ⟨(hr j h1).1, b, (hr j h1).2.blk _ h2, h3⟩, ur hr hw hf2 h4⟩
  case np j o =>
   obtain ⟨u, us, rfl, ⟨h1, h2⟩, h4⟩ := h
   exact ⟨u, us, rfl, ⟨(hr j h1).1, h2.elim .inl fun h => .inr ((hr j h1).2.or h)⟩, ur hr hw hf2 h4⟩
  case sub j sz =>
   obtain ⟨u, us, rfl, ⟨h1, g1, A, len, cap, c, A', g2, g3⟩, h4⟩ := h
   exact ⟨u, us, rfl, ⟨(hr j h1).1, g1, A, len, cap, c, A', (hr j h1).2.hdr.trans g2, g3⟩, ur hr hw hf2 h4⟩
  case fn f fi ca =>
   obtain ⟨u, us, rfl, ⟨a, b, rfl, h1, h2⟩, h4⟩ := h
   exact ⟨_, us, rfl, ⟨a, b, rfl, zro hr h1, zro hr h2⟩, ur hr hw hf2 h4⟩
  case fsel fs fi ca =>
   obtain ⟨u, us, rfl, h0, h4⟩ := h
   refine ⟨_, us, rfl, ⟨fun f hf => ?_, h0.2⟩, ur hr hw hf2 h4⟩
   obtain ⟨a, b, e, h1, h2⟩ := h0.1 f hf
   exact ⟨a, b, e, zro hr h1, zro hr h2⟩
  all_goals
   obtain ⟨u, us, rfl, h1, h4⟩ := h
   exact ⟨u, us, rfl, h1, ur hr hw hf2 h4⟩
theorem z13 (ren : Nat → Nat) : ∀ (ps : List OPat) (x : zaa ps) (j : Nat) (o : Ob), (injO id ps x)[j]? = some o → ∃ o', (injO ren ps x)[j]? = some o' ∧ o'.live = o.live
 | [], x, j, o, h => by simp [injO] at h
 | p :: ps, x, j, o, h => by
  cases j with
  | zero =>
   cases p <;> simp only [injO, List.getElem?_cons_zero, Option.some.injEq] at h ⊢ <;> subst h <;> exact ⟨_, rfl, rfl⟩
  | succ j =>
   cases p <;> simp only [injO, List.getElem?_cons_succ] at h ⊢ <;> exact z13 ren ps _ j o h
theorem zv3 : ∀ {t : Ty}, t.flat = true → ∀ j, t.mask.getD j false = false
 | .pair a b, h, j => by
  simp only [Ty.flat, Bool.and_eq_true] at h
  simp only [Ty.mask, List.getD_eq_getElem?_getD]
  rcases Nat.lt_or_ge j a.size with hlt | hge
  ·rw [List.getElem?_append_left (by rw [Ty.mask_len]; exact hlt), ← List.getD_eq_getElem?_getD]
   exact zv3 h.1 j
  ·rw [List.getElem?_append_right (by rw [Ty.mask_len]; exact hge), ← List.getD_eq_getElem?_getD]
   exact zv3 h.2 _
 | .slice _ _, h, _ => by cases h
 | .int _, _, j | .bool, _, j | .str, _, j | .err, _, j | .eint _ _, _, j => by cases j <;> simp [Ty.mask]
theorem ql.renS {e : TypeId} {t : Ty} {own : Option Nat} {out : Option (Nat × Nat)} {g : Nat} {v : Value} {hs : List (Nat × Value)} {l : List t.T} (hf : (∀ b, S b → S' b) ∨ t.flat = true) (hw : ∀ b, S b → w'.heap[b]? = w.heap[b]?)
  (hg : ∀ b, b ∈ (GL.deep g v hs).blocks → w'.heap[b]? = w.heap[b]?) (h : ql S w e t own out v hs l) : ql S' w' e t own out v hs l := by
 rcases hf with hf | hf
 ·exact h.imp hf hw hg
 ·obtain ⟨xs, h1, h2, h3⟩ := h
  refine ⟨xs, h1.imp (fun b hb => hg b (List.mem_append_left _ hb)), h2, fun k x hk j hj ho => ?_⟩
  obtain ⟨d, u, h4, h5, h6⟩ := h3 k x hk j hj ho
  refine ⟨d, u, h4, h5, ?_⟩
  have hm := zv3 hf j
  have ho' : wn t own k j = false := by unfold wn; rw [hm]; rfl
  rw [ho'] at h6 ⊢
  have hni : ∀ e0 t0 l0, d ≠ .isl e0 t0 l0 := fun e0 t0 l0 hd => by
   subst hd
   rw [zi1 _ _ _ _ _ _ h4] at hm
   cases hm
  have hdat : ∀ (t : Ty) (x : t.T) (j : Nat) (d : D), (t.cells x)[j]? = some d → (∀ e0 t0 l0, d ≠ .isl e0 t0 l0) → RelD 0 (fun _ => .blk 0) S w d u → RelD 0 (fun _ => .blk 0) S' w' d u := by
   intro t
   induction t with
   | pair a b iha ihb =>
    intro x j d hj hn hd
    simp only [Ty.cells] at hj
    rcases Nat.lt_or_ge j a.size with hlt | hge
    ·rw [List.getElem?_append_left (by rw [Ty.cells_length]; exact hlt)] at hj
     exact iha _ _ _ hj hn hd
    ·rw [List.getElem?_append_right (by rw [Ty.cells_length]; exact hge)] at hj
     exact ihb _ _ _ hj hn hd
   | slice e0 t0 ih =>
    intro x j d hj hn hd
    cases j with
    | zero => simp only [Ty.cells, List.getElem?_cons_zero, Option.some.injEq] at hj; exact absurd hj.symm (hn _ _ _)
    | succ j => simp [Ty.cells] at hj
   | _ =>
    intro x j d hj hn hd
    cases j with
    | zero => simp only [Ty.cells, List.getElem?_cons_zero, Option.some.injEq] at hj; subst hj; exact hd
    | succ j => simp [Ty.cells] at hj
  exact hdat t x j d h4 hni h6
theorem z3z : ∀ {t : Ty}, t.lflat = true → ∀ (x : t.T) (j : Nat) (e : TypeId) (t' : Ty) (l : List t'.T), (t.cells x)[j]? = some (.isl e t' l) → t'.flat = true := by
 intro t
 induction t with
 | pair a b iha ihb =>
  intro hf x j e t' l hj
  simp only [Ty.lflat, Bool.and_eq_true] at hf
  simp only [Ty.cells] at hj
  rcases Nat.lt_or_ge j a.size with hlt | hge
  ·rw [List.getElem?_append_left (by rw [Ty.cells_length]; exact hlt)] at hj
   exact iha hf.1 _ _ _ _ _ hj
  ·rw [List.getElem?_append_right (by rw [Ty.cells_length]; exact hge)] at hj
   exact ihb hf.2 _ _ _ _ _ hj
 | slice e0 t0 ih =>
  intro hf x j e t' l hj
  cases j with
  | zero => simp only [Ty.cells, List.getElem?_cons_zero, Option.some.injEq] at hj; cases hj; exact hf
  | succ j => simp [Ty.cells] at hj
 | _ =>
  intro hf x j e t' l hj
  cases j with
  | zero => simp [Ty.cells] at hj
  | succ j => simp [Ty.cells] at hj
theorem ql.renO {e : TypeId} {t : Ty} {g : Nat} {v : Value} {hs : List (Nat × Value)} {l : List t.T} (hf : t.lflat = true)
  (hg : ∀ b, b ∈ (GL.deep g v hs).blocks → w'.heap[b]? = w.heap[b]?) (h : ql S w e t none none v hs l) : ql S' w' e t none none v hs l := by
 obtain ⟨xs, h1, h2, h3⟩ := h
 refine ⟨xs, h1.imp (fun b hb => hg b (List.mem_append_left _ hb)), h2, fun k x hk j hj ho => ?_⟩
 obtain ⟨d, u, h4, h5, h6⟩ := h3 k x hk j hj ho
 refine ⟨d, u, h4, h5, ?_⟩
 cases hm : t.mask.getD j false with
 | true =>
  have ho' : wn t none k j = true := by unfold wn; rw [hm]; rfl
  rw [ho'] at h6 ⊢
  obtain ⟨g1, e', t', lst, rfl, ys, g2, g3, g4⟩ := h6
  have hfl := z3z hf x j e' t' lst h4
  exact ⟨g1, e', t', lst, rfl, ys, g2.imp (fun b hb => hg b (zll g1 hb)), g3, fun k' x' hk' => ImmC.free hfl (g4 k' x' hk')⟩
 | false =>
  have ho' : wn t none k j = false := by unfold wn; rw [hm]; rfl
  rw [ho'] at h6 ⊢
  have hni : ∀ e0 t0 l0, d ≠ .isl e0 t0 l0 := fun e0 t0 l0 hd => by
   subst hd
   rw [zi1 _ _ _ _ _ _ h4] at hm
   cases hm
  have hdat : ∀ (t : Ty) (x : t.T) (j : Nat) (d : D), (t.cells x)[j]? = some d → (∀ e0 t0 l0, d ≠ .isl e0 t0 l0) → RelD 0 (fun _ => .blk 0) S w d u → RelD 0 (fun _ => .blk 0) S' w' d u := by
   intro t
   induction t with
   | pair a b iha ihb =>
    intro x j d hj hn hd
    simp only [Ty.cells] at hj
    rcases Nat.lt_or_ge j a.size with hlt | hge
    ·rw [List.getElem?_append_left (by rw [Ty.cells_length]; exact hlt)] at hj
     exact iha _ _ _ hj hn hd
    ·rw [List.getElem?_append_right (by rw [Ty.cells_length]; exact hge)] at hj
     exact ihb _ _ _ hj hn hd
   | slice e0 t0 ih =>
    intro x j d hj hn hd
    cases j with
    | zero => simp only [Ty.cells, List.getElem?_cons_zero, Option.some.injEq] at hj; exact absurd hj.symm (hn _ _ _)
    | succ j => simp [Ty.cells] at hj
   | _ =>
    intro x j d hj hn hd
    cases j with
    | zero => simp only [Ty.cells, List.getElem?_cons_zero, Option.some.injEq] at hj; subst hj; exact hd
    | succ j => simp [Ty.cells] at hj
  exact hdat t x j d h4 hni h6
theorem z14 (hr : ∀ j, j < n → ren j < n' ∧ (β j).bs (β' (ren j))) (hw : ∀ b, S b → w'.heap[b]? = w.heap[b]?) {g : GL} (hg : ∀ b, b ∈ g.blocks → w'.heap[b]? = w.heap[b]?) : ∀ {ps : List OPat} {x : zaa ps} {j : Nat} {o o' : Ob},
  ((∀ b, S b → S' b) ∨ ps.all OPat.flat = true) → (injO id ps x)[j]? = some o → (injO ren ps x)[j]? = some o' → RelO n β S w g o → RelO n' β' S' w' g o'
 | [], x, j, o, o', hf, h, h', hR => by simp [injO] at h
 | p :: ps, x, j, o, o', hf, h, h', hR => by
  have hf2 : (∀ b, S b → S' b) ∨ ps.all OPat.flat = true := hf.imp id fun h => by simp only [List.all_cons, Bool.and_eq_true] at h; exact h.2
  have hf1 : (∀ b, S b → S' b) ∨ p.flat = true := hf.imp id fun h => by simp only [List.all_cons, Bool.and_eq_true] at h; exact h.1
  cases j with
  | succ j => cases p <;> simp only [injO, List.getElem?_cons_succ] at h h' <;> exact z14 hr hw hg hf2 h h' hR
  | zero =>
   cases p <;> simp only [injO, List.getElem?_cons_zero, Option.some.injEq] at h h' <;> subst h <;> subst h'
   case box t cs =>
    cases g with
    | row v => exact hR.elim
    | two b v => exact hR.elim
    | lpr l rec => exact hR.elim
    | deep g v hs => exact hR.elim
    | blk b =>
     obtain ⟨vs, h1, h2⟩ := hR
     exact ⟨vs, (hg b (by simp [GL.blocks])).trans h1, ur hr hw hf1 h2⟩
   case vec mk e t =>
    cases g with
    | blk b => exact hR.elim
    | two b v => exact hR.elim
    | lpr l rec => exact hR.elim
    | deep g v hs => exact hR.elim
    | row v =>
     obtain ⟨xs, h1, h2, h3⟩ := hR
     refine ⟨xs, h1.imp hg, h2, fun k z hk => ?_⟩
     rcases hf1 with hf1 | hf1
     ·exact ImmC.imp hf1 hw (h3 k z hk)
     ·exact ImmC.free hf1 (h3 k z hk)
   case dv e t =>
    cases g with
    | blk b => exact hR.elim
    | two b v => exact hR.elim
    | lpr l rec => exact hR.elim
    | row v => exact hR.elim
    | deep g v hs => exact ⟨hR.1, hR.2.1, ql.renS hf1 hw hg hR.2.2⟩
   case dvo e t =>
    cases g with
    | blk b => exact hR.elim
    | two b v => exact hR.elim
    | lpr l rec => exact hR.elim
    | row v => exact hR.elim
    | deep g v hs =>
     rcases hf1 with hf1 | hf1
     ·exact ⟨hR.1, hR.2.1, ql.renS (.inl hf1) hw hg hR.2.2⟩
     ·exact ⟨hR.1, hR.2.1, ql.renO hf1 hg hR.2.2⟩
   case bld T e =>
    cases g with
    | blk b => exact hR.elim
    | row v => exact hR.elim
    | lpr l rec => exact hR.elim
    | deep g v hs => exact hR.elim
    | two b v =>
     obtain ⟨p, h1, h2, h3, h4⟩ := hR
     exact ⟨p, (hg b (by simp [GL.blocks])).trans h1, h2, ztx h3 (fun b' hb' => hg b' (by simp [GL.blocks] at hb' ⊢; exact .inr hb')), h4⟩
   case gone => cases g <;> trivial
   case mp kt t =>
    cases g with
    | blk b =>
     rcases hf1 with hf1 | hf1
     ·exact zjd.imp hf1 hw (hg b (by simp [GL.blocks])) hR
     ·exact zjd.free (by simp only [OPat.flat, Bool.and_eq_true] at hf1; exact hf1.2) (hg b (by simp [GL.blocks])) hR
    | lpr l rec => exact hR.elim
    | deep g v hs => exact hR.elim
    | row v => exact hR.elim
    | two b v => exact hR.elim
   case sit =>
    cases g with
    | blk b => exact ⟨(hg b (by simp [GL.blocks])).trans hR.1, hR.2⟩
    | lpr l rec => exact hR.elim
    | deep g v hs => exact hR.elim
    | row v => exact hR.elim
    | two b v => exact hR.elim
   case lp =>
    cases g with
    | lpr l rec => trivial
    | deep g v hs => exact hR.elim
    | blk b => exact hR.elim
    | row v => exact hR.elim
    | two b v => exact hR.elim
end

/-! -/
theorem zfb {full : List (Nat × Nat)} : ∀ {rho : List (Nat × Nat)} {i j : Nat}, zra full rho i = some j → full.lookup j = some i
 | [], i, j, h => by cases h
 | p :: ps, i, j, h => by
  simp only [zra] at h
  split at h
  ·rename_i e
   simp only [Option.some.injEq] at h
   subst h
   exact e.2
  ·exact zfb h
theorem zs3 {full : List (Nat × Nat)} : ∀ {rho : List (Nat × Nat)} {i : Nat}, zra full rho i = none → ∀ j, (j, i) ∈ rho → full.lookup j ≠ some i
 | [], i, h, j, hm => by cases hm
 | p :: ps, i, h, j, hm => by
  simp only [zra] at h
  split at h
  ·cases h
  ·rename_i e
   rcases List.mem_cons.1 hm with rfl | hm
   ·exact fun hx => e ⟨rfl, hx⟩
   ·exact zs3 h j hm
theorem qf (rho : List (Nat × Nat)) (os : List Ob) : ∀ (k : Nat) (l : List Ob), (setO rho os k l).length = l.length
 | k, [] => rfl
 | k, o :: l => by simp [setO, qf rho os (k + 1) l]
theorem zpe (rho : List (Nat × Nat)) (os : List Ob) : ∀ (k : Nat) (l : List Ob) (i : Nat), (setO rho os k l)[i]? = (l[i]?).map fun o => match zra rho rho (k + i) with | some j => z0s o (os.getD j .gone) | none => o
 | k, [], i => by simp [setO]
 | k, o :: l, 0 => by
  simp only [setO, List.getElem?_cons_zero, Nat.add_zero, Option.map_some]
  cases zra rho rho k <;> rfl
 | k, o :: l, i + 1 => by
  simp only [setO, List.getElem?_cons_succ]
  rw [zpe rho os (k + 1) l i, show k + 1 + i = k + (i + 1) by omega]

/-! -/
def retV : List Value → Value
 | [v] => v
 | vs => .tuple vs.toArray
def zt6 (P : Program) (E : Env) (rec : Loop) (Y : zf6) : Prop := rec.state = .ready ∧ rec.pending = none ∧
 ∀ (t : Y.sig.In) (u : Y.sig.Out) (β0 : Nat → GL) (S0 : Nat → Prop) (w : World) (l : Nat) (vs : List Value), Y.F t = some u →
  let c : Ctx := ⟨w, fun b => ∃ j, b ∈ blks β0 (injO id Y.sig.obs t.2) j, S0, Y.sig.obs.length, β0⟩
  CtxOK E c → w.heap[l]? = some (.loop rec) → ¬ c.M l → ¬ S0 l → Inv c β0 S0 (injO id Y.sig.obs t.2) w → za Y.sig.obs.length β0 S0 w (injP id Y.sig.args t.1) (rec.tmps.toList ++ vs) →
  YieldAt Fence.wide 0 P l vs.toArray w fun e w' => ∃ us, e = .returned (retV us) ∧ Rel c (injP id Y.sig.res u.1) (injO id Y.sig.obs' u.2) us w'
theorem CtxOK.env {E E' : Env} {c : Ctx} (hc : CtxOK E c) (hg : E.glob = E'.glob) (hg2 : E.gerr = E'.gerr) (hg3 : E.gint = E'.gint) : CtxOK E' c :=
 ⟨hc.disj, fun g t vs h => hc.glob g t vs (by rw [hg]; exact h), fun g h => hc.gerr g (by rw [hg2]; exact h), fun g h => hc.gint g (by rw [hg3]; exact h)⟩
theorem zt6.env {P : Program} {E E' : Env} {rec : Loop} {Y : zf6} (h : zt6 P E rec Y) (hg : E'.glob = E.glob) (hg2 : E'.gerr = E.gerr) (hg3 : E'.gint = E.gint) : zt6 P E' rec Y :=
 ⟨h.1, h.2.1, fun t u β0 S0 w l vs hu hc => h.2.2 t u β0 S0 w l vs hu (hc.env hg hg2 hg3)⟩
def YCtx (P : Program) (E : Env) (c : Ctx) : Prop := ∀ Y, E.yl = some Y → 0 < c.m0 ∧ E.lpAt = 0 ∧ ∃ l rec, c.β0 0 = .lpr l rec ∧ ¬ c.M l ∧ ¬ c.S0 l ∧ c.w0.heap[l]? = some (.loop rec) ∧ zt6 P E rec Y
theorem YCtx.rebase {P : Program} {E : Env} {c : Ctx} {β : Nat → GL} {S : Nat → Prop} {ob : List Ob} {w : World} (hy : YCtx P E c) (hI : Inv c β S ob w) : YCtx P E { c with m0 := ob.length, β0 := β } := by
 intro Y hY
 obtain ⟨h0, hz, l, rec, h1, h2⟩ := hy Y hY
 exact ⟨Nat.lt_of_lt_of_le h0 hI.le, hz, l, rec, (hI.keep 0 h0).bs.lpr _ _ h1, h2⟩
def YNow (P : Program) (E : Env) (β : Nat → GL) (S : Nat → Prop) (ob : List Ob) (w : World) : Prop := ∀ Y, E.yl = some Y → ∃ l rec, β E.lpAt = .lpr l rec ∧ (∀ i, l ∉ blks β ob i) ∧ ¬ S l ∧ w.heap[l]? = some (.loop rec) ∧ zt6 P E rec Y
structure CtxY (P : Program) (E : Env) (c : Ctx) : Prop extends CtxOK E c where
 yc : YCtx P E c
theorem YCtx.now {P : Program} {E : Env} {c : Ctx} {β : Nat → GL} {S : Nat → Prop} {ob : List Ob} {w : World} (hy : YCtx P E c) (hI : Inv c β S ob w) : YNow P E β S ob w := by
 intro Y hY
 obtain ⟨h0, hz, l, rec, h1, h2, h3, h4, h5⟩ := hy Y hY
 have hl : l < c.w0.heap.size := (Array.getElem?_eq_some_iff.1 h4).1
 refine ⟨l, rec, by rw [hz]; exact (hI.keep 0 h0).bs.lpr _ _ h1, fun i hi => ?_, fun hs => ?_, (hI.same.block l hl h2).trans h4, h5⟩
 ·rcases (hI.own i l hi).2.2 with h | h
  ·exact h2 h
  ·omega
 ·rcases hI.s1 l hs with h | h | h
  ·exact h3 h
  ·exact h2 h
  ·omega
def zh (P : Program) (E : Env) (f : FuncId) (s : zf6) : Prop :=
 ∀ (t : s.sig.In) (u : s.sig.Out) (β0 : Nat → GL) (S0 : Nat → Prop) (w : World) (vs : List Value), s.F t = some u →
  let c : Ctx := ⟨w, fun b => ∃ j, b ∈ blks β0 (injO id s.sig.obs t.2) j, S0, s.sig.obs.length, β0⟩
  CtxOK E c → (∀ r, s.sig.obs = .lp :: r → YCtx P { E with lpAt := 0 } c) → Inv c β0 S0 (injO id s.sig.obs t.2) w → za s.sig.obs.length β0 S0 w (injP id s.sig.args t.1) vs →
  Calls P f vs.toArray w fun e w' => ∃ us, e = .returned (retV us) ∧ Rel c (injP id s.sig.res u.1) (injO id s.sig.obs' u.2) us w'
section
variable {P : Program} {E : Env} {c : Ctx} {β : Nat → GL} {S : Nat → Prop} {ob : List Ob} {w w' : World} {R : Type}
theorem zu7 {rho : List (Nat × Nat)} {m n j i : Nat} (h : rho.lookup j = some i) : renC rho m n j = i := by simp [renC, h]
theorem zy1 {rho : List (Nat × Nat)} {m n j : Nat} (h : rho.lookup j = none) : renC rho m n j = n + (j - m) := by simp [renC, h]
def zv4 : GL → GL → GL
 | .deep g _ _, .deep _ v hs => .deep (g + 1) v hs
 | _, b => b
theorem z2q {b b' : GL} (h : b.kin b') : b.sim (zv4 b b') := by
 cases b
 case deep g v hs =>
  obtain ⟨g', hs', rfl⟩ := h
  exact ⟨g + 1, hs', rfl, Nat.le_succ _, fun e => by omega⟩
 case row v =>
  rcases h with rfl | ⟨g', hs', rfl⟩
  ·exact .inl rfl
  ·exact .inr ⟨g', hs', rfl⟩
 all_goals exact h
theorem z30 (b b' : GL) : b'.bs (zv4 b b') := by
 cases b <;> cases b' <;> first
  | exact (GL.kin.refl _).bs
  | exact ⟨rfl, fun _ h => (nomatch h), fun _ _ h => (nomatch h), fun _ _ h => (nomatch h)⟩
theorem z66 (p : OPat) (l : Nat) (r : Loop) : rb p (.lpr l r) = .lpr l r := by cases p <;> rfl
theorem zy2 (b b' : GL) : (zv4 b b').blocks = b'.blocks := by
 cases b <;> cases b' <;> rfl
theorem z2r (o o1 : Ob) : (z0s o o1).live = o1.live := by
 cases o <;> cases o1 <;> rfl
theorem z32 {n n0 : Nat} {β β0 : Nat → GL} {S S0 : Nat → Prop} {w w0 : World} {b b' : GL} {o o1 : Ob} (hl : o.live = true) (h : RelO n0 β0 S0 w0 b o) (h1 : RelO n β S w b' o1) : RelO n β S w (zv4 b b') (z0s o o1) := by
 cases o
 case dv e t l own g out =>
  cases b <;> try exact h.elim
  obtain ⟨rfl, _⟩ := h
  cases b' <;> cases o1 <;> first | exact h1 | exact h1.elim | exact ⟨rfl, h1.2.1, h1.2.2⟩
 case gone => cases hl
 all_goals
  have e : zv4 b b' = b' := by
   cases b <;> first | rfl | exact h.elim
  rw [e]
  cases o1 <;> exact h1
theorem z15 (hI : Inv c β S ob w) {rho : List (Nat × Nat)} {m0 : Nat} {β0 : Nat → GL} {S0 : Nat → Prop} {os0 : List Ob} {ps : List OPat} {u : zaa ps}
  (hinj : ∀ j j' i, rho.lookup j = some i → rho.lookup j' = some i → j = j') (hkeys : ∀ j i, rho.lookup j = some i → j < m0 ∧ i < ob.length) (hall : ∀ j, j < m0 → ∃ i o, rho.lookup j = some i ∧ ob[i]? = some o ∧ o.live = true ∧ (β i).kin (β0 j))
  (hblk : ∀ j i b, rho.lookup j = some i → b ∈ blks β0 os0 j → b ∈ blks β ob i) (hos0 : os0.length = m0) (hle : m0 ≤ ps.length) (hS0 : ∀ b, S b → S0 b)
  {β' : Nat → GL} {S' : Nat → Prop} (hC : Inv ⟨w, fun b => ∃ j, b ∈ blks β0 os0 j, S0, m0, β0⟩ β' S' (injO id ps u) w') (hf : (∀ b, S0 b → S b) ∨ ps.all OPat.flat = true) :
  ∃ β1 S1, Inv c β1 S1 (setO rho (injO (renC rho m0 ob.length) ps u) 0 ob ++ (injO (renC rho m0 ob.length) ps u).drop m0) w' ∧ (∀ i, i < ob.length → (β i).sim (β1 i)) ∧ (∀ b, S b → S1 b ∧ w'.heap[b]? = w.heap[b]?) ∧
   (∀ j, j < ps.length → renC rho m0 ob.length j < ob.length + (ps.length - m0) ∧ (β' j).bs (β1 (renC rho m0 ob.length j))) ∧ ((∀ b, S0 b → S b) → ∀ b, S' b → S1 b) := by
 have hch : ∃ S1 : Nat → Prop, (∀ b, S b → S1 b) ∧ (∀ b, S1 b → S' b) ∧ (∀ b, S1 b → S b ∨ S0 b → S1 b) ∧ ((∀ b, S' b → S1 b) ∧ (∀ b, S0 b → S b) ∨ ps.all OPat.flat = true ∧ ∀ b, S1 b → S b) ∧ ((∀ b, S0 b → S b) → ∀ b, S' b → S1 b) := by
  have hSS : ∀ b, S b → S' b := fun b hb => hC.s0 b (hS0 b hb)
  by_cases h : ∀ b, S0 b → S b
  ·exact ⟨S', hSS, fun _ h => h, fun _ h _ => h, .inl ⟨fun _ h => h, h⟩, fun _ _ h => h⟩
  ·rcases hf with hf | hf
   ·exact absurd hf h
   ·exact ⟨S, fun _ h => h, hSS, fun _ h _ => h, .inr ⟨hf, fun _ h => h⟩, fun hx => absurd hx h⟩
 obtain ⟨S1, hS1, hS1', _, hfl, hlast⟩ := hch
 let β1 : Nat → GL := fun i => if i < ob.length then (match zra rho rho i with | some j => zv4 (β i) (β' j) | none => β i) else β' (m0 + (i - ob.length))
 have hβn : ∀ i, i < ob.length → ¬ (∃ j, rho.lookup j = some i) → β1 i = β i := fun i hi hn => by
  show (if i < ob.length then _ else _) = _
  rw [if_pos hi]
  cases hj : zra rho rho i with
  | none => rfl
  | some j => exact absurd ⟨j, zfb hj⟩ hn
 have hβl : ∀ j i, rho.lookup j = some i → β1 i = zv4 (β i) (β' j) := fun j i hl => by
  show (if i < ob.length then _ else _) = _
  rw [if_pos (hkeys j i hl).2]
  cases hj : zra rho rho i with
  | none => exact absurd hl (zs3 hj j (zcb hl))
  | some j' => rw [hinj j' j i (zfb hj) hl]
 have hkin : ∀ j i, rho.lookup j = some i → (β i).kin (β' j) := fun j i hl => by
  obtain ⟨i', o, h1, _, _, h2⟩ := hall j (hkeys j i hl).1
  rw [hl] at h1
  cases h1
  exact h2.trans (hC.keep j (hkeys j i hl).1)
 have hβ1 : ∀ i, i < ob.length → (β i).sim (β1 i) := fun i hi => by
  by_cases hx : ∃ j, rho.lookup j = some i
  ·obtain ⟨j, hj⟩ := hx
   rw [hβl j i hj]
   exact z2q (hkin j i hj)
  ·rw [hβn i hi hx]
   exact .refl _
 have hnewj : ∀ j, j < ps.length → ¬ j < m0 → renC rho m0 ob.length j = ob.length + (j - m0) ∧ β1 (renC rho m0 ob.length j) = β' j := by
  intro j hj hjm
  have h1 : rho.lookup j = none := by
   cases h : rho.lookup j with
   | none => rfl
   | some i => exact absurd (hkeys j i h).1 hjm
  rw [zy1 h1]
  refine ⟨rfl, ?_⟩
  show (if ob.length + (j - m0) < ob.length then _ else _) = _
  rw [if_neg (by omega)]
  congr 1; omega
 have hren : ∀ j, j < ps.length → renC rho m0 ob.length j < ob.length + (ps.length - m0) ∧ (β' j).bs (β1 (renC rho m0 ob.length j)) := by
  intro j hj
  by_cases hjm : j < m0
  ·obtain ⟨i, o, h1, _⟩ := hall j hjm
   obtain ⟨_, h3⟩ := hkeys j i h1
   rw [zu7 h1, hβl j i h1]
   exact ⟨by omega, z30 _ _⟩
  ·obtain ⟨h1, h2⟩ := hnewj j hj hjm
   rw [h2, h1]
   exact ⟨by omega, (GL.kin.refl _).bs⟩
 have hrenb : ∀ j, j < ps.length → (β1 (renC rho m0 ob.length j)).blocks = (β' j).blocks := by
  intro j hj
  by_cases hjm : j < m0
  ·obtain ⟨i, o, h1, _⟩ := hall j hjm
   rw [zu7 h1, hβl j i h1, zy2]
  ·rw [(hnewj j hj hjm).2]
 have hlen1 : (injO (renC rho m0 ob.length) ps u).length = ps.length := yy _ _ _
 have hlen0 : (injO id ps u).length = ps.length := yy _ _ _
 generalize hos1 : injO (renC rho m0 ob.length) ps u = os1 at *
 generalize hos : injO id ps u = os at *
 have hl1 : (setO rho os1 0 ob ++ os1.drop m0).length = ob.length + (ps.length - m0) := by
  rw [List.length_append, qf, List.length_drop, hlen1]
 have get1 : ∀ {i : Nat} {o' : Ob}, (setO rho os1 0 ob ++ os1.drop m0)[i]? = some o' → (∃ j o1, i = renC rho m0 ob.length j ∧ j < ps.length ∧ os1[j]? = some o1 ∧ ((¬ j < m0 ∧ o' = o1) ∨ ∃ o, rho.lookup j = some i ∧ ob[i]? = some o ∧ o' = z0s o o1)) ∨ (i < ob.length ∧ (∀ j, rho.lookup j ≠ some i) ∧ ob[i]? = some o') := by
  intro i o' h
  by_cases hi : i < ob.length
  ·rw [List.getElem?_append_left (by rw [qf]; exact hi), zpe, Nat.zero_add, List.getElem?_eq_getElem hi, Option.map_some] at h
   split at h
   ·rename_i j hj
    have h3 := zfb hj
    obtain ⟨h1, h2⟩ := hkeys j i h3
    rw [List.getD_eq_getElem?_getD, List.getElem?_eq_getElem (by omega)] at h
    refine .inl ⟨j, _, (zu7 h3).symm, by omega, List.getElem?_eq_getElem (by omega), .inr ⟨_, h3, List.getElem?_eq_getElem hi, ?_⟩⟩
    simp only [Option.getD_some, Option.some.injEq] at h
    exact h.symm
   ·rename_i hj
    refine .inr ⟨hi, fun j hx => zs3 hj j (zcb hx) hx, ?_⟩
    rw [List.getElem?_eq_getElem hi]
    exact h
  ·rw [List.getElem?_append_right (by rw [qf]; omega), qf, List.getElem?_drop] at h
   have hj := (List.getElem?_eq_some_iff.1 h).1
   have h1 : rho.lookup (m0 + (i - ob.length)) = none := by
    cases h : rho.lookup (m0 + (i - ob.length)) with
    | none => rfl
    | some k => have := (hkeys _ k h).1; omega
   exact .inl ⟨m0 + (i - ob.length), o', by rw [zy1 h1]; omega, by omega, h, .inl ⟨by omega, rfl⟩⟩
 have hI1 : ∀ {i : Nat}, ((∃ j, rho.lookup j = some i) ∨ ob.length ≤ i) → ¬ (i < ob.length ∧ ∀ j, rho.lookup j ≠ some i) := by
  intro i h ⟨h1, h2⟩
  rcases h with ⟨j, h⟩ | h
  ·exact h2 j h
  ·omega
 have old : ∀ {j : Nat} {o' : Ob}, os1[j]? = some o' → ∃ o, os[j]? = some o ∧ o'.live = o.live := by
  intro j o' h
  have hj := (List.getElem?_eq_some_iff.1 h).1
  obtain ⟨o, ho⟩ : ∃ o, os[j]? = some o := ⟨_, List.getElem?_eq_getElem (by omega)⟩
  obtain ⟨o2, h1, h2⟩ := z13 (renC rho m0 ob.length) ps u j o (by rw [hos]; exact ho)
  rw [hos1, h] at h1
  cases h1
  exact ⟨o, ho, h2⟩
 have back : ∀ {i b : Nat}, ((∃ j, rho.lookup j = some i) ∨ ob.length ≤ i) → b ∈ blks β1 (setO rho os1 0 ob ++ os1.drop m0) i → ∃ j, i = renC rho m0 ob.length j ∧ b ∈ blks β' os j := by
  intro i b hx hb
  obtain ⟨o', h1, h2, h3⟩ := zj.1 hb
  rcases get1 h1 with ⟨j, o1, h4, h5, h6, h9⟩ | ⟨h4, h5, _⟩
  ·obtain ⟨o, h7, h8⟩ := old h6
   have hlo : o1.live = true := by
    rcases h9 with ⟨_, rfl⟩ | ⟨o2, _, _, rfl⟩
    ·exact h2
    ·rwa [z2r] at h2
   refine ⟨j, h4, zj.2 ⟨o, h7, h8 ▸ hlo, ?_⟩⟩
   rw [h4, hrenb j h5] at h3
   exact h3
  ·exact absurd ⟨h4, h5⟩ (hI1 hx)
 have hM : ∀ {b : Nat}, (∃ j, b ∈ blks β0 os0 j) → ∃ i, (∃ j, rho.lookup j = some i) ∧ b ∈ blks β ob i := by
  rintro b ⟨j, hb⟩
  obtain ⟨o, h1, _⟩ := zj.1 hb
  obtain ⟨i, o2, h2, _⟩ := hall j (by have := (List.getElem?_eq_some_iff.1 h1).1; omega)
  exact ⟨i, ⟨j, h2⟩, hblk j i b h2 hb⟩
 refine ⟨β1, S1, ?_, hβ1, fun b hb => ⟨hS1 b hb, hC.same.block b (hI.imm b hb) fun hx => ?_⟩, hren, hlast⟩
 ·refine hI.stepS (fun i => ∃ j, rho.lookup j = some i) (hC.same.mono fun b _ hb => hM hb) (by rw [hl1]; omega) (fun i hi hn => ?_) hβ1 hβn hS1 (fun b hb => ?_) (fun i o' hi hx => ?_) (fun i b hx hb => ?_) (fun i i' b hii hx hx' hb hb' => ?_) hI.le
  ·rw [List.getElem?_append_left (by rw [qf]; exact hi), zpe, Nat.zero_add]
   cases hj : zra rho rho i with
   | none => simp
   | some j => exact absurd ⟨j, zfb hj⟩ hn
  ·rcases hfl with ⟨h1, h2⟩ | ⟨_, h2⟩
   ·rcases hC.s1 b (hS1' b hb) with h3 | h3 | h3
    ·exact .inl (h2 b h3)
    ·exact .inr ⟨.inr (hM h3), hC.imm b (hS1' b hb)⟩
    ·exact .inr ⟨.inl h3, hC.imm b (hS1' b hb)⟩
   ·exact .inl (h2 b hb)
  ·rcases get1 hi with ⟨j, o1, h4, h5, h6, h9⟩ | ⟨h4, h5, _⟩
   ·obtain ⟨o, h7, _⟩ := old h6
    have hR : RelO (setO rho os1 0 ob ++ os1.drop m0).length β1 S1 w' (β' j) o1 := ?_
    ·rcases h9 with ⟨hjm, rfl⟩ | ⟨o2, h10, h11, rfl⟩
     ·rw [h4, (hnewj j h5 hjm).2]
      exact hR
     ·obtain ⟨i', o3, h12, h13, h14, _⟩ := hall j (hkeys j _ h10).1
      rw [h10] at h12
      cases h12
      rw [h11] at h13
      cases h13
      rw [hβl j _ h10]
      exact z32 h14 (hI.obj _ _ h11) hR
    rw [hl1]
    refine z14 (n := os.length) (S := S') (w := w') (ren := renC rho m0 ob.length) (ps := ps) (x := u) (j := j) (fun k hk => hren k (by omega)) (fun _ _ => rfl) (fun _ _ => rfl) (hfl.imp (·.1) (·.1)) (by rw [hos]; exact h7) (by rw [hos1]; exact h6) (hC.obj j o h7)
   ·exact absurd ⟨h4, h5⟩ (hI1 hx)
  ·obtain ⟨j, _, h2⟩ := back hx hb
   obtain ⟨h3, h4, h5⟩ := hC.own j b h2
   exact ⟨fun h => h3 (hS1' b h), h4, h5.imp hM id⟩
  ·obtain ⟨j, h1, h2⟩ := back hx hb
   obtain ⟨j', h3, h4⟩ := back hx' hb'
   exact hC.sep j j' b (fun e => hii (by rw [h1, h3, e])) h2 h4
 ·obtain ⟨i, _, h⟩ := hM hx
  exact (hI.own i b h).1 hb
/-! -/
def D.free1 (fr : List Nat) : D → Bool
 | .vec i | .sub i _ _ _ | .elt i _ _ _ | .iv i _ _ _ _ | .ielt i _ _ _ _ _ _ _ => !fr.contains i
 | .tup _ => false
 | _ => true
def D.free (fr : List Nat) : D → Bool
 | .agg cs => cs.all (D.free1 fr)
 | d => d.free1 fr
theorem zx3 {fr : List Nat} {d : D} (h : d.free fr = true) : d.free1 fr = true := by
 cases d <;> first | exact h | rfl
theorem z0c {fr : List Nat} {d : D} (h : d.free1 fr = true) : frz1 ob fr d = d := by
 cases d <;> simp only [frz1] <;> simp only [D.free1, Bool.not_eq_true'] at h <;> rw [if_neg (by rw [h]; simp)]
theorem zx4 {fr : List Nat} {ds : List D} (h : ∀ d, d ∈ ds → d.free1 fr = true) : ds.map (frz1 ob fr) = ds :=
 (List.map_congr_left (g := id) fun d hd => z0c (h d hd)).trans (List.map_id ds)
theorem z0d {fr : List Nat} {d : D} (h : d.free fr = true) : frzA ob fr d = d := by
 cases d <;> simp only [frzA] <;> try exact z0c h
 rw [zx4 fun d hd => List.all_eq_true.1 h d hd]
theorem z33 {fr : List Nat} {d : D} (h : d.free fr = true) : frzD ob fr d = d := by
 cases d <;> simp only [frzD] <;> try exact z0d h
 cases h
theorem zka {fr : List Nat} : ∀ {t : Ty} {x : t.T} {d : D}, d ∈ t.cells x → d.free1 fr = true ∧ d.free fr = true
 | .int _, x, d, h => by simp only [Ty.cells, List.mem_singleton] at h; subst h; exact ⟨rfl, rfl⟩
 | .bool, x, d, h => by simp only [Ty.cells, List.mem_singleton] at h; subst h; exact ⟨rfl, rfl⟩
 | .str, x, d, h => by simp only [Ty.cells, List.mem_singleton] at h; subst h; exact ⟨rfl, rfl⟩
 | .err, x, d, h => by simp only [Ty.cells, List.mem_singleton] at h; subst h; exact ⟨rfl, rfl⟩
 | .eint _ _, x, d, h => by simp only [Ty.cells, List.mem_singleton] at h; subst h; exact ⟨rfl, rfl⟩
 | .slice _ _, x, d, h => by simp only [Ty.cells, List.mem_singleton] at h; subst h; exact ⟨rfl, rfl⟩
 | .pair a b, x, d, h => by
  simp only [Ty.cells, List.mem_append] at h
  rcases h with h | h
  ·exact zka h
  ·exact zka h
theorem zbw {ren : Nat → Nat} {fr : List Nat} (hr : ∀ j, fr.contains (ren j) = false) : ∀ {ps : List Pat} {x : zib ps} {d : D}, d ∈ injP ren ps x → d.free fr = true
 | [], x, d, h => by cases h
 | p :: ps, x, d, h => by
  cases p <;> simp only [injP, List.mem_append, List.mem_cons] at h
  case ty t => exact h.elim (fun h => (zka h).2) (fun h => zbw hr h)
  case cells t => exact h.elim (fun h => (zka h).2) (fun h => zbw hr h)
  case agg t =>
   rcases h with rfl | h
   ·exact List.all_eq_true.2 fun d hd => (zka hd).1
   ·exact zbw hr h
  case aggn k =>
   rcases h with rfl | h
   ·exact List.all_eq_true.2 fun d hd => zx3 (zbw hr (List.mem_of_mem_take hd))
   ·exact zbw hr (List.mem_of_mem_drop h)
  case yldn q k =>
   rcases h with rfl | h
   ·rfl
   ·exact zbw hr (List.mem_of_mem_drop h)
  case sub j sz =>
   rcases h with rfl | h
   ·simp only [D.free, D.free1]; rw [hr]; rfl
   ·exact zbw hr h
  case vec j =>
   rcases h with rfl | h
   ·simp only [D.free, D.free1]; rw [hr]; rfl
   ·exact zbw hr h
  all_goals
   rcases h with rfl | h
   ·rfl
   ·exact zbw hr h
theorem zrp {ren : Nat → Nat} {fr : List Nat} (hr : ∀ j, fr.contains (ren j) = false) {i : Nat} (hi : fr.contains i = false) : ∀ {ps : List OPat} {x : zaa ps} {o : Ob}, o ∈ injO ren ps x → frzo ob fr i o = o
 | [], x, o, h => by cases h
 | p :: ps, x, o, h => by
  cases p <;> simp only [injO, List.mem_cons] at h
  case box t cs =>
   rcases h with rfl | h
   ·unfold frzo
    rw [if_neg (by rw [hi]; exact Bool.false_ne_true)]
    simp only
    rw [zx4 fun d hd => zx3 (zbw hr hd)]
   ·exact zrp hr hi h
  all_goals
   rcases h with rfl | h
   ·unfold frzo
    rw [if_neg (by rw [hi]; exact Bool.false_ne_true)]
   ·exact zrp hr hi h
theorem zx5 {fr : List Nat} {i : Nat} (hi : fr.contains i = false) {a o : Ob} : frzo ob fr i (z0s a o) = z0s (frzo ob fr i a) (frzo ob fr i o) := by
 unfold frzo
 rw [if_neg (by rw [hi]; exact Bool.false_ne_true), if_neg (by rw [hi]; exact Bool.false_ne_true), if_neg (by rw [hi]; exact Bool.false_ne_true)]
 cases a <;> cases o <;> rfl
theorem zx6 (ren : Nat → Nat) : ∀ {ps : List OPat} {x : zaa ps} {o : Ob}, ps.all OPat.alive = true → o ∈ injO ren ps x → o.live = true
 | [], x, o, h, hm => by cases hm
 | p :: ps, x, o, h, hm => by
  simp only [List.all_cons, Bool.and_eq_true] at h
  cases p <;> simp only [injO, List.mem_cons] at hm
  case gone => cases h.1
  all_goals
   rcases hm with rfl | hm
   ·rfl
   ·exact zx6 ren h.2 hm
theorem z16 {n : Nat} {ds : List D} {us : List Value} (h : za n β S w ds us) : RelD n β S w (oneD ds) (retV us) := by
 match ds, us, h with
 | [], _, h => cases h; exact ⟨[], rfl, rfl⟩
 | [d], us, h =>
  obtain ⟨u, us, rfl, h1, h2⟩ := h
  cases h2
  exact h1
 | d :: e :: ds, us, h =>
  have h' := h
  obtain ⟨u, us, rfl, h1, h2⟩ := h
  obtain ⟨v, us, rfl, h3, h4⟩ := h2
  exact ⟨_, rfl, h'⟩
theorem z49 {ob : List Ob} {fr : List Nat} {ds : List D} (h : ∀ d, d ∈ ds → d.free fr = true) : frzD ob fr (oneD ds) = oneD ds := by
 match ds with
 | [] => rfl
 | [d] => exact z33 (h d (List.mem_singleton.2 rfl))
 | d :: e :: ds =>
  simp only [oneD, frzD]
  rw [(List.map_congr_left (f := frzA ob fr) (g := id) fun d hd => z0d (h d hd)).trans (List.map_id _)]
def z67 (P : Program) (E : Env) (s : zf6) (β : Nat → GL) (S : Nat → Prop) (ob : List Ob) (w : World) (vs : List Value) (Do : (Ending → World → Prop) → Prop) : Prop :=
 ∀ (t : s.sig.In) (u : s.sig.Out) (β0 : Nat → GL) (S0 : Nat → Prop), s.F t = some u →
  let c : Ctx := ⟨w, fun b => ∃ j, b ∈ blks β0 (injO id s.sig.obs t.2) j, S0, s.sig.obs.length, β0⟩
  CtxOK E c → (∀ r, s.sig.obs = .lp :: r → YCtx P { E with lpAt := 0 } c) → (∀ b, c.M b → ∃ i, b ∈ blks β ob i) → (∀ b, S0 b → S b ∨ ∃ i, b ∈ blks β ob i) → Inv c β0 S0 (injO id s.sig.obs t.2) w → za s.sig.obs.length β0 S0 w (injP id s.sig.args t.1) vs →
  Do fun e w' => ∃ us, e = .returned (retV us) ∧ Rel c (injP id s.sig.res u.1) (injO id s.sig.obs' u.2) us w'
theorem zi3 {Do : (Ending → World → Prop) → Prop} (hmono : ∀ {A B : Ending → World → Prop}, Do A → (∀ e w', A e w' → B e w') → Do B) (hc : CtxOK E c) (hyn : YNow P E β S ob w) (hI : Inv c β S ob w) {ds : List D} {vs : List Value} {K : D → List Ob → List Nat → List Nat → Option R} {r : R} (hd : za ob.length β S w ds vs) {tm : List D} {us0 : List Value} (ht : za ob.length β S w tm us0) :
  ∀ {l : List zf6}, (∀ s, s ∈ l → z67 P E s β S ob w vs Do) → zud E ob ds K l = some r →
  ∃ d ob' fr wr, K d ob' fr wr = some r ∧ Do fun e w' => ∃ v, e = .returned v ∧ RelF c fr (d :: tm) ob' (v :: us0) w' ∧ Same (fun b => ∃ i, i ∈ wr ∧ b ∈ blks β ob i) w w'
 | [], _, h => by cases h
 | s :: l, hs, h => by
  have rest := zi3 hmono hc hyn hI (K := K) (r := r) hd ht (l := l) (fun s hm => hs s (List.mem_cons_of_mem _ hm))
  simp only [zud] at h
  split at h
  ·exact rest h
  ·rename_i x hx
   split at h
   ·exact rest h
   ·rename_i y hy
    split at h
    ·rename_i hcond
     simp only [Bool.and_eq_true, List.isEmpty_iff, decide_eq_true_eq, List.all_eq_true, Bool.not_eq_true', List.any_eq_false, beq_iff_eq] at hcond
     obtain ⟨⟨⟨⟨⟨hlp, hnil⟩, hin⟩, halive⟩, hle⟩, hfrs⟩ := hcond
     obtain ⟨u, hu, hK⟩ := Option.bind_eq_some_iff.1 h
     have hx' : zt ob true s.sig.args ds ⟨[], [], []⟩ = some (x.1, x.2) := hx
     have hy' : jj ob true 0 s.sig.obs x.2 = some (y.1, y.2) := hy
     generalize hm : y.2 = m at *
     have st := (ye hx').trans (zn hy')
     have hinj : m.Inj := st.inj ⟨fun j j' i h => by simp at h, fun j h => by simp at h⟩
     have hfr1 : ∀ i, i ∈ m.fr → i < ob.length ∧ ∀ j, m.rho.lookup j ≠ some i := fun i hi => ⟨(hfrs i hi).1, fun j hj => (hfrs i hi).2 _ (zcb hj) rfl⟩
     have hI0 : Inv { c with m0 := 0 } β S ob w := ⟨hI.obj, hI.sep, hI.own, hI.imm, hI.s0, hI.s1, hI.same, fun j hj => absurd hj (Nat.not_lt_zero _), Nat.zero_le _⟩
     let S0 : Nat → Prop := fun b => S b ∨ ∃ i, i ∈ m.fr ∧ b ∈ blks β ob i
     obtain ⟨hIm, htg⟩ := zvm hI0 (S' := S0) hy' hin hinj (fun _ h => .inl h) (fun _ h => h) (fun i hi b hb => .inr ⟨i, hi, hb⟩) (fun i j o' hi hj _ => absurd hj ((hfr1 i hi).2 j))
      (fun j hj => absurd hj (Nat.not_lt_zero _)) (Nat.zero_le _)
     have hargs := zw hI.obj (S' := S0) (fun _ h => .inl h) hx' (htg.mono (zn hy').le) hd
     have hgd : ∀ (k : Nat) (p : OPat), s.sig.obs[k]? = some p → s.sig.obs.getD k .gone = p := fun k p hk => by rw [List.getD_eq_getElem?_getD, hk]; rfl
     have hobs := zn4 hI.obj (S' := S0) (fun _ h => .inl h) hy' htg (fun k p i hk hl => by
      rw [Nat.zero_add] at hl ⊢
      simp only [zf7, hl, hgd k p hk]) (fun k p hk hl => by rw [hnil] at hl; cases hl)
     generalize hos0 : injO id s.sig.obs y.1 = os0 at *
     have hlen0 : os0.length = s.sig.obs.length := by rw [← hos0]; exact yy _ _ _
     have hall : ∀ j, j < s.sig.obs.length → ∃ i o, m.rho.lookup j = some i ∧ ob[i]? = some o ∧ o.live = true ∧ (β i).kin (zf7 s.sig.obs β m j) ∧ (zf7 s.sig.obs β m j).blocks = (β i).blocks := by
      intro j hj
      obtain ⟨o', ho'⟩ : ∃ o', os0[j]? = some o' := ⟨_, List.getElem?_eq_getElem (by omega)⟩
      have hl : o'.live = true := zx6 id (by simpa using halive) (by rw [hos0]; exact List.mem_of_getElem? ho')
      have := hobs j o' ho'
      rw [Nat.zero_add] at this
      rcases this.2 hl with ⟨i, o, h1, h2, h3, h4⟩ | ⟨h1, _⟩
      ·exact ⟨i, o, h1, h2, h3, by simp only [zf7, h1]; exact z1t _ _, h4⟩
      ·rw [hnil] at h1; cases h1
     have hkey : ∀ j i, m.rho.lookup j = some i → j < s.sig.obs.length ∧ i < ob.length := by
      intro j i hj
      have h1 := (Mt.inside_spec hin).2.1 j i hj
      obtain ⟨i', o, h2, h3, _⟩ := hall j h1
      rw [hj] at h2
      cases h2
      exact ⟨h1, (List.getElem?_eq_some_iff.1 h3).1⟩
     have hblk : ∀ j i b, m.rho.lookup j = some i → b ∈ blks (zf7 s.sig.obs β m) os0 j → b ∈ blks β ob i := by
      intro j i b hj hb
      obtain ⟨o', h1, h2, h3⟩ := zj.1 hb
      obtain ⟨i', o, h4, h5, h6, _, h7⟩ := hall j (hkey j i hj).1
      rw [hj] at h4
      cases h4
      exact zj.2 ⟨o, h5, h6, by rw [← h7]; exact h3⟩
     let c' : Ctx := ⟨w, fun b => ∃ j, b ∈ blks (zf7 s.sig.obs β m) os0 j, S0, s.sig.obs.length, zf7 s.sig.obs β m⟩
     have hI' : Inv c' (zf7 s.sig.obs β m) S0 os0 w := ⟨hIm.obj, hIm.sep, fun i b hb => ⟨(hIm.own i b hb).1, (hIm.own i b hb).2.1, .inl ⟨i, hb⟩⟩, hIm.imm, fun _ h => h, fun _ h => .inl h, Same.refl _ _, fun _ _ => GL.kin.refl _, by rw [hlen0]; exact Nat.le_refl _⟩
     have hc' : CtxOK E c' := ⟨fun b hb => ⟨fun ⟨j, hj⟩ => (hIm.own j b hj).1 hb, hIm.imm b hb⟩, fun g t vs hg => ⟨.inl (hI.s0 g (hc.glob g t vs hg).1), z1u hc hI hg⟩, fun g hg => by
      obtain ⟨h1, v, t0, fr, h2, h3⟩ := hc.gerr g hg
      obtain ⟨h4, h5⟩ := hc.disj g h1
      exact ⟨.inl (hI.s0 g h1), v, t0, fr, (hI.same.block g h5 h4).trans h2, h3⟩, fun g hg => by
      obtain ⟨h1, m', h2⟩ := hc.gint g hg
      obtain ⟨h4, h5⟩ := hc.disj g h1
      exact ⟨.inl (hI.s0 g h1), m', (World.cell?_of_block (hI.same.block g h5 h4)).trans h2⟩⟩
     have hcall := hs s (List.mem_cons_self ..) (x.1, y.1) u (zf7 s.sig.obs β m) S0 hu
     simp only [hos0] at hcall
     have hMb : ∀ b, c'.M b → ∃ i, b ∈ blks β ob i := fun b ⟨j, hb⟩ => by
      obtain ⟨o', h1, _⟩ := zj.1 hb
      have hj : j < s.sig.obs.length := by have := (List.getElem?_eq_some_iff.1 h1).1; omega
      obtain ⟨i, o, h2, _⟩ := hall j hj
      exact ⟨i, hblk j i b h2 hb⟩
     have hSb : ∀ b, S0 b → S b ∨ ∃ i, b ∈ blks β ob i := fun b hb => hb.imp id fun ⟨i, _, h⟩ => ⟨i, h⟩
     have hyc' : ∀ r, s.sig.obs = .lp :: r → YCtx P { E with lpAt := 0 } c' := by
      intro r hr Y hY
      obtain ⟨l, rec, g1, g2, g3, g4, g5⟩ := hyn Y hY
      have h0 : 0 < s.sig.obs.length := by rw [hr]; simp
      rw [hr] at hlp
      have hlp' : m.rho.lookup 0 = some E.lpAt := by simpa [lpOk] using hlp
      refine ⟨h0, rfl, l, rec, ?_, fun h => ?_, fun h => ?_, g4, g5.env rfl rfl rfl⟩
      ·show zf7 s.sig.obs β m 0 = _
       simp only [zf7, hlp', g1]
       exact z66 _ _ _
      ·obtain ⟨i, hi⟩ := hMb l h
       exact g2 i hi
      ·rcases hSb l h with h | ⟨i, hi⟩
       ·exact g3 h
       ·exact g2 i hi
     have hcall := hcall hc' hyc' hMb hSb hI' hargs
     have hSS0 : ∀ b, S b → S0 b := fun _ h => .inl h
     have hwr : ∀ {w' : World}, Same c'.M w w' → Same (fun b => ∃ i, i ∈ m.rho.map (·.2) ∧ b ∈ blks β ob i) w w' := fun h => h.mono fun b _ ⟨j, hb⟩ => by
      obtain ⟨o', h1, _⟩ := zj.1 hb
      have hj : j < s.sig.obs.length := by have := (List.getElem?_eq_some_iff.1 h1).1; omega
      obtain ⟨i, o, h2, _⟩ := hall j hj
      exact ⟨i, List.mem_map.2 ⟨(j, i), zcb h2, rfl⟩, hblk j i b h2 hb⟩
     by_cases hdir : (m.fr = [] ∨ s.sig.flat = true)
     ·have hfr0 : (if s.sig.flat = true then [] else m.fr) = [] := by
       rcases hdir with h | h
       ·rw [h]; split <;> rfl
       ·rw [if_pos h]
      rw [hfr0] at hK
      have hflO : (∀ b, S0 b → S b) ∨ s.sig.obs'.all OPat.flat = true := by
       rcases hdir with h | h
       ·left
        rintro b (hb | ⟨i, hi, _⟩)
        ·exact hb
        ·rw [h] at hi; cases hi
       ·right
        simp only [Sig.flat, Bool.and_eq_true] at h
        exact h.2
      refine ⟨_, _, _, _, hK, hmono hcall fun e w' ⟨us, he, β', S', hC, hres⟩ => ⟨_, he, ?_, hwr hC.same⟩⟩
      obtain ⟨β1, S1, h1, h2, h3, h4, h5⟩ := z15 (ps := s.sig.obs') (u := u.2) hI hinj.1 hkey (fun j hj => let ⟨i, o, a, b, c, d⟩ := hall j hj; ⟨i, o, a, b, c, d.1⟩) hblk hlen0 hle hSS0 hC hflO
      refine ⟨β1, S1, h1, retV us, us0, rfl, z16 ?_, za.imp ?_ h2 (fun b hb => (h3 b hb).1) (fun b hb => (h3 b hb).2) tm ht⟩
      ·rw [List.length_append, qf, List.length_drop, yy]
       refine ur (n := (injO id s.sig.obs' u.2).length) (S := S') (w := w') (fun j hj => h4 j (by rwa [yy] at hj)) (fun _ _ => rfl) ?_ hres
       rcases hdir with h | h
       ·left
        refine h5 ?_
        rintro b (hb | ⟨i, hi, _⟩)
        ·exact hb
        ·rw [h] at hi; cases hi
       ·right
        simp only [Sig.flat, Bool.and_eq_true] at h
        exact h.1
      ·rw [List.length_append, qf]; omega
     ·have hnf : ¬ (m.fr = []) := fun h => hdir (.inl h)
      have hnflat : ¬ (s.sig.flat = true) := fun h => hdir (.inr h)
      rw [if_neg hnflat] at hK
      have hfrc : ∀ {i : Nat}, m.fr.contains i = true → i ∈ m.fr := fun h => List.contains_iff_mem.1 h
      have hnc : ∀ {i : Nat}, ¬ i ∈ m.fr → m.fr.contains i = false := fun {i} h => by
       cases hx : m.fr.contains i with
       | false => rfl
       | true => exact absurd (hfrc hx) h
      have hren : ∀ j, m.fr.contains (renC m.rho s.sig.obs.length ob.length j) = false := by
       intro j
       refine hnc fun hx => ?_
       cases hj : m.rho.lookup j with
       | some i => rw [zu7 hj] at hx; exact (hfr1 i hx).2 j hj
       | none => rw [zy1 hj] at hx; have := (hfr1 _ hx).1; omega
      have hI2 := zpc hI hI.le m.fr
      have hd2 := zj9 hI.obj (S' := S0) (fun _ h => .inl h) (fun i hi b hb => .inr ⟨i, hi, hb⟩) (Nat.le_refl _) ht
      have hblk2 : ∀ j i b, m.rho.lookup j = some i → b ∈ blks (zf7 s.sig.obs β m) os0 j → b ∈ blks β (frzO ob m.fr 0 ob) i := by
       intro j i b hj hb
       obtain ⟨o, h1, h2, h3⟩ := zj.1 (hblk j i b hj hb)
       refine zj.2 ⟨frzo ob m.fr i o, by rw [zcd, h1, Nat.zero_add]; rfl, ?_, h3⟩
       have hni : m.fr.contains i = false := hnc fun hx => (hfr1 i hx).2 j hj
       unfold frzo
       rw [if_neg (by rw [hni]; exact Bool.false_ne_true)]
       cases o <;> first | rfl | exact h2
      have hlf : (frzO ob m.fr 0 ob).length = ob.length := qq ..
      refine ⟨_, _, _, _, hK, hmono hcall fun e w' ⟨us, he, β', S', hC, hres⟩ => ⟨_, he, ?_, hwr hC.same⟩⟩
      obtain ⟨β1, S1, h1, h2, h3, h4, h5⟩ := z15 (ps := s.sig.obs') (u := u.2) hI2 hinj.1 (by rw [hlf]; exact hkey) (fun j hj => by
       obtain ⟨i, o, a, b, c, d⟩ := hall j hj
       refine ⟨i, frzo ob m.fr i o, a, by rw [zcd, b, Nat.zero_add]; rfl, ?_, d.1⟩
       have hni : m.fr.contains i = false := hnc fun hx => (hfr1 i hx).2 j a
       unfold frzo
       rw [if_neg (by rw [hni]; exact Bool.false_ne_true)]
       cases o <;> first | rfl | exact c) hblk2 hlen0 hle (fun _ h => h) hC (.inl fun _ h => h)
      rw [hlf] at h1 h2 h4
      generalize hos1 : injO (renC m.rho s.sig.obs.length ob.length) s.sig.obs' u.2 = os1 at *
      have hget : ∀ j, j ∈ m.fr → (setO m.rho os1 0 ob ++ os1.drop s.sig.obs.length).getD j .gone = ob.getD j .gone := by
       intro j hj
       obtain ⟨h6, h7⟩ := hfr1 j hj
       rw [List.getD_eq_getElem?_getD, List.getD_eq_getElem?_getD, List.getElem?_append_left (by rw [qf]; exact h6), zpe, Nat.zero_add]
       cases hr : zra m.rho m.rho j with
       | none => simp
       | some k => exact absurd (zfb hr) (h7 k)
      have hmem : ∀ {j : Nat} {o : Ob}, os1[j]? = some o → o ∈ injO (renC m.rho s.sig.obs.length ob.length) s.sig.obs' u.2 := fun h => by rw [hos1]; exact List.mem_of_getElem? h
      have hob : frzO (setO m.rho os1 0 ob ++ os1.drop s.sig.obs.length) m.fr 0 (setO m.rho os1 0 ob ++ os1.drop s.sig.obs.length) = setO m.rho os1 0 (frzO ob m.fr 0 ob) ++ os1.drop s.sig.obs.length := by
       rw [zp9 hget]
       apply List.ext_getElem?
       intro i
       rw [zcd, Nat.zero_add]
       by_cases hi : i < ob.length
       ·rw [List.getElem?_append_left (by rw [qf]; exact hi), List.getElem?_append_left (by rw [qf, hlf]; exact hi), zpe, zpe, zcd]
        simp only [Nat.zero_add, List.getElem?_eq_getElem hi, Option.map_some, Option.some.injEq]
        cases hr : zra m.rho m.rho i with
        | none => rfl
        | some j =>
         have hl := zfb hr
         have hni : m.fr.contains i = false := hnc fun hx => (hfr1 i hx).2 j hl
         simp only
         cases ho : os1[j]? with
         | none =>
          rw [List.getD_eq_getElem?_getD, ho, zx5 hni]
          congr 1
          unfold frzo
          rw [if_neg (by rw [hni]; exact Bool.false_ne_true)]
          rfl
         | some o =>
          rw [List.getD_eq_getElem?_getD, ho, zx5 hni]
          congr 1
          exact zrp hren hni (hmem ho)
       ·rw [List.getElem?_append_right (by rw [qf]; omega), List.getElem?_append_right (by rw [qf, hlf]; omega), qf, qf, hlf]
        cases ho : (os1.drop s.sig.obs.length)[i - ob.length]? with
        | none => rfl
        | some o =>
         rw [List.getElem?_drop] at ho
         simp only [Option.map_some, Option.some.injEq]
         exact zrp hren (hnc fun hx => by have := (hfr1 i hx).1; omega) (hmem ho)
      have hdone : frzD ob m.fr (oneD (injP (renC m.rho s.sig.obs.length ob.length) s.sig.res u.1)) = oneD (injP (renC m.rho s.sig.obs.length ob.length) s.sig.res u.1) := z49 fun d hd => zbw hren hd
      have hfin : Rel c ((oneD (injP (renC m.rho s.sig.obs.length ob.length) s.sig.res u.1) :: tm).map (frzD (setO m.rho os1 0 ob ++ os1.drop s.sig.obs.length) m.fr)) (frzO (setO m.rho os1 0 ob ++ os1.drop s.sig.obs.length) m.fr 0 (setO m.rho os1 0 ob ++ os1.drop s.sig.obs.length)) (retV us :: us0) w' := by
       rw [hob, zsy hget, List.map_cons, hdone]
       refine ⟨β1, S1, h1, retV us, us0, rfl, z16 ?_, za.imp ?_ h2 (fun b hb => (h3 b hb).1) (fun b hb => (h3 b hb).2) _ hd2⟩
       ·rw [List.length_append, qf, hlf, List.length_drop, ← hos1, yy]
        exact ur (n := (injO id s.sig.obs' u.2).length) (S := S') (w := w') (fun j hj => h4 j (by rwa [yy] at hj)) (fun _ _ => rfl) (.inl (h5 fun _ h => h)) hres
       ·rw [List.length_append, qf, hlf]; omega
      cases hfe : m.fr with
      | nil => exact absurd hfe hnf
      | cons a b => rw [hfe] at hfin; exact hfin
    ·exact rest h
theorem zqb (hc : CtxY P E c) (hl : E.lpAt = 0) (hI : Inv c β S ob w) {f : FuncId} {ds : List D} {vs : List Value} {K : D → List Ob → List Nat → List Nat → Option R} {r : R} (hd : za ob.length β S w ds vs) {tm : List D} {us0 : List Value} (ht : za ob.length β S w tm us0)
  {l : List zf6} (hs : ∀ s, s ∈ l → zh P E f s) (h : zud E ob ds K l = some r) :
  ∃ d ob' fr wr, K d ob' fr wr = some r ∧ Calls P f vs.toArray w fun e w' => ∃ v, e = .returned v ∧ RelF c fr (d :: tm) ob' (v :: us0) w' ∧ Same (fun b => ∃ i, i ∈ wr ∧ b ∈ blks β ob i) w w' :=
 zi3 (Do := Calls P f vs.toArray w) (fun h g => h.mono g) hc.toCtxOK (hc.yc.now hI) hI hd ht (fun s hm t u β0 S0 hu hc' hy' _ _ hI' ha => hs s hm t u β0 S0 w vs hu hc' hy' hI' ha) h
theorem zt7 (hc : CtxY P E c) (hl : E.lpAt = 0) (hI : Inv c β S ob w) {f : FuncId} {ds : List D} {vs : List Value} {K : D → List Ob → List Nat → List Nat → Option R} {r : R} (hd : za ob.length β S w ds vs) {tm : List D} {us0 : List Value} (ht : za ob.length β S w tm us0)
  {l : List zf6} (hs : ∀ s, s ∈ l → zh P E f s) (h : zxq E ob ds K l = some r) :
  ∃ d ob' fr wr, K d ob' fr wr = some r ∧ Calls P f vs.toArray w fun e w' => ∃ v, e = .returned v ∧ RelF c fr (d :: tm) ob' (v :: us0) w' ∧ Same (fun b => ∃ i, i ∈ wr ∧ b ∈ blks β ob i) w w' := by
 unfold zxq at h
 split at h
 ·split at h
  ·obtain ⟨u, us, rfl, hu, hus⟩ := hd
   obtain ⟨ob1, β1, h1, h2, h3, h4, h5, h6⟩ := zrk hI hI.le h hu
   have hS : ∀ b, S b → w.heap[b]? = w.heap[b]? := fun _ _ => rfl
   have hus' := za.imp (n' := ob1.length) (β' := β1) (w' := w) (by omega) h4 (fun _ h => h) hS _ hus
   have ht' := za.imp (n' := ob1.length) (β' := β1) (w' := w) (by omega) h4 (fun _ h => h) hS _ ht
   rw [← h2] at h5
   obtain ⟨d, ob', fr, wr, g1, g2⟩ := zqb hc hl h3 (f := f) (ds := .vec ob.length :: _) (vs := u :: us) ⟨u, us, rfl, h5, hus'⟩ ht' hs h1
   refine ⟨d, ob', fr, _, g1, g2.mono fun e w' ⟨v, q1, q2, q3⟩ => ⟨v, q1, q2, q3.mono fun b _ ⟨j, hj, hb⟩ => ?_⟩⟩
   rcases h6 j b hb with ⟨_, h8⟩ | ⟨_, i, hi, h8⟩
   ·exact ⟨j, List.mem_append_right _ hj, h8⟩
   ·exact ⟨i, List.mem_append_left _ hi, h8⟩
  ·exact zqb hc hl hI hd ht hs h
 ·exact zqb hc hl hI hd ht hs h
theorem zx7 {ds : List D} {K : D → List Ob → List Nat → List Nat → Option R} {r : R} (h : zxq E ob ds K [] = some r) : False := by
 unfold zxq at h
 split at h
 ·split at h
  ·rename_i hx
   simp [z1o] at hx
  ·cases h
 ·cases h
end
end Go.En
