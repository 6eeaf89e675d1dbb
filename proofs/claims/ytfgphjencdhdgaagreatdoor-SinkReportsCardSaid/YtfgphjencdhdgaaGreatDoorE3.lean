/- Text E3 of this seat: written by a program of ours, or by hand; checked by Lean. -/
import Derived.Test.YtfgphjencdhdgaaGreatDoorE2
set_option linter.unusedVariables false
namespace Go.En
open Go.RowKit

/-! -/
def Ob.live : Ob → Bool
 | .gone => false
 | _ => true
def blks (β : Nat → GL) (ob : List Ob) (i : Nat) : List Nat := match ob[i]? with
 | some o => if o.live then (β i).blocks else []
 | none => []
def ze0 (mk : Bool) (w : World) (e : TypeId) (size : Nat) (v : Value) (n : Nat) (xs : List Value) : Prop :=
 xs.length = n * size ∧ ((v = .slice none 0 0 ∧ n = 0) ∨ ∃ g cap cur fz, v = .slice (some ⟨g, 0, none⟩) n cap ∧ w.heap[g]? = some (.cells cur e fz) ∧
  (fz = (0, 0) ∨ (mk = true ∧ cur.size ≤ fz.1)) ∧ n ≤ cap ∧ cap ≤ maxLen ∧ cur.size = cap * size ∧ cur.toList.take (n * size) = xs)
theorem ze0.own {w : World} {e : TypeId} {size : Nat} {v : Value} {n : Nat} {xs : List Value} (h : ze0 false w e size v n xs) : w.ownsRow 0 e size v n xs := by
 refine ⟨h.1, ?_⟩
 rcases h.2 with h | ⟨g, cap, cur, fz, h1, h2, h3, h4, h5, h6, h7⟩
 ·exact .inl h
 ·refine .inr ⟨g, cap, cur, h1, Nat.zero_le _, ?_, h4, h5, h6, h7⟩
  rcases h3 with rfl | ⟨h3, _⟩
  ·exact h2
  ·cases h3
theorem ze0.of_own {w : World} {b : Nat} {e : TypeId} {size : Nat} {v : Value} {n : Nat} {xs : List Value} (h : w.ownsRow b e size v n xs) : ze0 false w e size v n xs := by
 refine ⟨h.1, ?_⟩
 rcases h.2 with h | ⟨g, cap, cur, h1, h2, h3, h4, h5, h6, h7⟩
 ·exact .inl h
 ·exact .inr ⟨g, cap, cur, (0, 0), h1, h3, .inl rfl, h4, h5, h6, h7⟩
theorem ze0.imp {w w' : World} {mk : Bool} {e : TypeId} {size : Nat} {v : Value} {n : Nat} {xs : List Value} (h : ze0 mk w e size v n xs) (hw : ∀ b, b ∈ v.ownBlock.toList → w'.heap[b]? = w.heap[b]?) : ze0 mk w' e size v n xs := by
 refine ⟨h.1, ?_⟩
 rcases h.2 with h | ⟨g, cap, cur, fz, rfl, h2, h3⟩
 ·exact .inl h
 ·exact .inr ⟨g, cap, cur, fz, rfl, (hw g (by simp [Value.ownBlock])).trans h2, h3⟩
theorem ze0.cell {w : World} {mk : Bool} {e : TypeId} {size : Nat} {v : Value} {n : Nat} {xs : List Value} (h : ze0 mk w e size v n xs) {g : Nat} (hg : v.ownBlock = some g) (j : Nat) (hj : j < n * size) : w.cell? ⟨g, j, none⟩ = xs[j]? := by
 rcases h.2 with ⟨rfl, _⟩ | ⟨g', cap, cur, fz, rfl, h2, h3, h4, h5, h6, h7⟩
 ·simp [Value.ownBlock] at hg
 ·simp [Value.ownBlock] at hg
  subst hg
  rw [← h7, List.getElem?_take, if_pos hj]
  simp [World.cell?, h2]
def z61 (s : Bs) : List Value := Lib.strCells ⟨s.toArray⟩
def keyV : (t : Ty) → t.T → Value → Prop
 | .str, s, v => v = .string ⟨s.toArray⟩ ∧ s.length ≤ maxB
 | _, _, _ => False
section
variable (n : Nat) (β : Nat → GL) (S : Nat → Prop) (w : World)
def EntV (kt t : Ty) (p : kt.T × t.T) (e : MapEntry) : Prop := keyV kt p.1 e.key ∧ e.val.cells.toList.length = t.size ∧ ImmC S w t (fun j => e.val.cells.toList[j]?) p.2
def zn1 (kt t : Ty) : List (kt.T × t.T) → List MapEntry → Prop
 | [], es => es = []
 | p :: l, es => ∃ e r, es = e :: r ∧ EntV S w kt t p e ∧ zn1 kt t l r
def Ent2 (ik : IntKind) : List ((Bs × Bs) × Int) → List MapEntry → Prop
 | [], es => es = []
 | p :: l, es => ∃ e r, es = e :: r ∧ (e.key = .agg #[.string ⟨p.1.1.toArray⟩, .string ⟨p.1.2.toArray⟩] ∧ e.val = .int ik p.2 ∧ Rng ik p.2 ∧ p.1.1.length ≤ maxB ∧ p.1.2.length ≤ maxB) ∧ Ent2 ik l r
def zjd (b : Nat) : (kt t : Ty) → List (kt.T × t.T) → Prop
 | .pair .str .str, .int ik, l => ∃ es clock, w.heap[b]? = some (.map es clock) ∧ ∃ l' : List ((Bs × Bs) × Int), l'.Perm l ∧ Ent2 ik l' es.toList ∧ (l.map fun p => p.1).Nodup ∧ l.length ≤ maxB
 | kt, t, l => (∃ es clock, w.heap[b]? = some (.map es clock) ∧ zn1 S w kt t l es.toList) ∧ l.length ≤ maxB
def zlj (mk : Bool) (e : TypeId) (t : Ty) (v : Value) (l : List t.T) : Prop :=
 ∃ xs, ze0 mk w e t.size v l.length xs ∧ l.length ≤ maxB ∧ ∀ (k : Nat) (x : t.T), l[k]? = some x → ImmC S w t (fun j => xs[k * t.size + j]?) x
def zlk (own : Bool) (d : D) (u : Value) (h : Option Value) : Prop := match own with
 | true => h = some u ∧ ∃ e t l, d = .isl e t l ∧ zlj S w false e t u l
 | false => RelD 0 (fun _ => .blk 0) S w d u
def wn (t : Ty) (own : Option Nat) (k j : Nat) : Bool := t.mask.getD j false && match own with
 | none => true
 | some m => decide (lnum t k j < m)
def ql (e : TypeId) (t : Ty) (own : Option Nat) (out : Option (Nat × Nat)) (v : Value) (hs : List (Nat × Value)) (l : List t.T) : Prop :=
 ∃ xs, ze0 false w e t.size v l.length xs ∧ l.length ≤ maxB ∧ ∀ (k : Nat) (x : t.T), l[k]? = some x → ∀ j, j < t.size → ¬ (out = some (k, j) ∧ t.mask.getD j false = true) →
  ∃ d u, (t.cells x)[j]? = some d ∧ xs[k * t.size + j]? = some u ∧ zlk S w (wn t own k j) d u (hs.lookup (k * t.size + j))
def RelO : GL → Ob → Prop
 | .blk b, .box t cs => ∃ vs : List Value, w.heap[b]? = some (.cells vs.toArray t (0, 0)) ∧ za n β S w cs vs
 | .row v, .vec mk e t l => zlj S w mk e t v l
 | .two b v, .bld T e s => ∃ p, w.heap[b]? = some (.cells #[p, v] T (0, 0)) ∧ (p = .pointer none ∨ p = .pointer (some ⟨b, 0, none⟩)) ∧ w.ownsRowF 0 e 1 v s.length (z61 s) ∧ v.ownBlock ≠ some b ∧ s.length ≤ maxB
 | .blk b, .sit s pos => w.heap[b]? = some (.stringIter ⟨s.toArray⟩ pos) ∧ s.length ≤ maxB
 | .blk b, .mp kt t l => zjd S w b kt t l
 | .lpr _ _, .lp => True
 | .deep g v hs, .dv e t l own g' out => g' = g ∧ (GL.deep g v hs).blocks.Nodup ∧ ql S w e t own out v hs l
 | _, .gone => True
 | _, _ => False
end
theorem ztx {w w' : World} {b : Nat} {e : TypeId} {size : Nat} {v : Value} {n : Nat} {xs : List Value} (h : w.ownsRowF b e size v n xs) (hw : ∀ b, b ∈ v.ownBlock.toList → w'.heap[b]? = w.heap[b]?) : w'.ownsRowF b e size v n xs := by
 refine ⟨h.1, ?_⟩
 rcases h.2 with h | ⟨g, cap, cur, fz, rfl, h1, h2, h3⟩
 ·exact .inl h
 ·exact .inr ⟨g, cap, cur, fz, rfl, h1, (hw g (by simp [Value.ownBlock])).trans h2, h3⟩
theorem zlk.imp {S S' : Nat → Prop} {w w' : World} (hS : ∀ b, S b → S' b) (hw : ∀ b, S b → w'.heap[b]? = w.heap[b]?) {own : Bool} {d : D} {u : Value} {h : Option Value}
  (hg : own = true → ∀ b, b ∈ u.ownBlock.toList → w'.heap[b]? = w.heap[b]?) (hc : zlk S w own d u h) : zlk S' w' own d u h := by
 cases own with
 | false => exact RelD.imp (Nat.le_refl _) (fun i hi => absurd hi (Nat.not_lt_zero _)) hS hw d hc
 | true =>
  obtain ⟨h1, e, t, l, h2, xs, h3, h4, h5⟩ := hc
  exact ⟨h1, e, t, l, h2, xs, h3.imp (hg rfl), h4, fun k x hk => ImmC.imp hS hw (h5 k x hk)⟩
theorem ze7 {l : List (Nat × Value)} {j : Nat} {v : Value} (h : l.lookup j = some v) : (j, v) ∈ l := by
 induction l with
 | nil => simp at h
 | cons p l ih =>
  by_cases e : j = p.1
  ·rw [List.lookup_cons, show (j == p.1) = true by simpa using e] at h
   simp only [Option.some.injEq] at h
   subst h
   rw [e]
   exact List.mem_cons_self ..
  ·rw [List.lookup_cons, show (j == p.1) = false by simpa using e] at h
   exact List.mem_cons_of_mem _ (ih h)
theorem zll {g : Nat} {v : Value} {hs : List (Nat × Value)} {p : Nat} {u : Value} {b : Nat} (h : hs.lookup p = some u) (hb : b ∈ u.ownBlock.toList) : b ∈ (GL.deep g v hs).blocks := by
 unfold GL.blocks
 exact List.mem_append_right _ (List.mem_flatMap.2 ⟨_, ze7 h, hb⟩)
theorem ql.imp {S S' : Nat → Prop} {w w' : World} (hS : ∀ b, S b → S' b) (hw : ∀ b, S b → w'.heap[b]? = w.heap[b]?) {e : TypeId} {t : Ty} {own : Option Nat} {out : Option (Nat × Nat)} {g : Nat} {v : Value} {hs : List (Nat × Value)} {l : List t.T}
  (hg : ∀ b, b ∈ (GL.deep g v hs).blocks → w'.heap[b]? = w.heap[b]?) (h : ql S w e t own out v hs l) : ql S' w' e t own out v hs l := by
 obtain ⟨xs, h1, h2, h3⟩ := h
 refine ⟨xs, h1.imp (fun b hb => hg b (List.mem_append_left _ hb)), h2, fun k x hk j hj ho => ?_⟩
 obtain ⟨d, u, h4, h5, h6⟩ := h3 k x hk j hj ho
 refine ⟨d, u, h4, h5, zlk.imp hS hw (fun hx b hb => ?_) h6⟩
 rw [hx] at h6
 exact hg b (zll h6.1 hb)
theorem Ty.mask_len : ∀ t : Ty, t.mask.length = t.size
 | .pair a b => by simp [Ty.mask, Ty.size, Ty.mask_len a, Ty.mask_len b]
 | .int _ | .bool | .str | .slice _ _ | .err | .eint _ _ => rfl
theorem zi1 : ∀ (t : Ty) (x : t.T) (j : Nat) (e : TypeId) (t' : Ty) (l : List t'.T), (t.cells x)[j]? = some (.isl e t' l) → t.mask.getD j false = true := by
 intro t
 induction t with
 | pair a b iha ihb =>
  intro x j e t' l hj
  simp only [Ty.cells] at hj
  simp only [Ty.mask, List.getD_eq_getElem?_getD]
  rcases Nat.lt_or_ge j a.size with hlt | hge
  ·rw [List.getElem?_append_left (by rw [Ty.cells_length]; exact hlt)] at hj
   rw [List.getElem?_append_left (by rw [Ty.mask_len]; exact hlt), ← List.getD_eq_getElem?_getD]
   exact iha _ _ _ _ _ hj
  ·rw [List.getElem?_append_right (by rw [Ty.cells_length]; exact hge), Ty.cells_length] at hj
   rw [List.getElem?_append_right (by rw [Ty.mask_len]; exact hge), Ty.mask_len, ← List.getD_eq_getElem?_getD]
   exact ihb _ _ _ _ _ hj
 | slice e0 t0 ih =>
  intro x j e t' l hj
  cases j with
  | zero => rfl
  | succ j => simp [Ty.cells] at hj
 | _ =>
  intro x j e t' l hj
  cases j with
  | zero => simp [Ty.cells] at hj
  | succ j => simp [Ty.cells] at hj
theorem zrd : ∀ (t : Ty) (x y : t.T) (off : Nat) (e : TypeId) (t' : Ty) (l : List t'.T), zg6 t x off (.isl e t' l) = some y → off < t.size ∧ t.cells y = (t.cells x).set off (.isl e t' l) := by
 intro t
 induction t with
 | pair a b iha ihb =>
  intro x y off e t' l h
  simp only [zg6] at h
  split at h
  ·rename_i hlt
   obtain ⟨z, h1, h2⟩ := Option.bind_eq_some_iff.1 h
   cases h2
   obtain ⟨h3, h4⟩ := iha _ _ _ _ _ _ h1
   refine ⟨by simp only [Ty.size]; omega, ?_⟩
   simp only [Ty.cells]
   rw [h4, List.set_append_left _ _ (by rw [Ty.cells_length]; exact h3)]
  ·rename_i hge
   obtain ⟨z, h1, h2⟩ := Option.bind_eq_some_iff.1 h
   cases h2
   obtain ⟨h3, h4⟩ := ihb _ _ _ _ _ _ h1
   refine ⟨by simp only [Ty.size]; omega, ?_⟩
   simp only [Ty.cells]
   rw [h4, List.set_append_right _ _ (by rw [Ty.cells_length]; omega), Ty.cells_length]
 | slice e0 t0 ih =>
  intro x y off e t' l h
  cases off with
  | zero =>
   simp only [zg6] at h
   split at h
   ·rename_i ht
    subst ht
    split at h
    ·rename_i he
     subst he
     cases h
     exact ⟨by simp [Ty.size], rfl⟩
    ·cases h
   ·cases h
  | succ off => simp [zg6] at h
 | _ =>
  intro x y off e t' l h
  simp [zg6] at h
theorem z1r : ∀ (t : Ty) (x : t.T) (j : Nat), t.mask.getD j false = true → ∃ e t' l, (t.cells x)[j]? = some (.isl e t' l) := by
 intro t
 induction t with
 | pair a b iha ihb =>
  intro x j hj
  simp only [Ty.mask, List.getD_eq_getElem?_getD] at hj
  simp only [Ty.cells]
  rcases Nat.lt_or_ge j a.size with hlt | hge
  ·rw [List.getElem?_append_left (by rw [Ty.cells_length]; exact hlt)]
   rw [List.getElem?_append_left (by rw [Ty.mask_len]; exact hlt), ← List.getD_eq_getElem?_getD] at hj
   exact iha _ _ hj
  ·rw [List.getElem?_append_right (by rw [Ty.cells_length]; exact hge), Ty.cells_length]
   rw [List.getElem?_append_right (by rw [Ty.mask_len]; exact hge), Ty.mask_len, ← List.getD_eq_getElem?_getD] at hj
   exact ihb _ _ hj
 | slice e0 t0 ih =>
  intro x j hj
  cases j with
  | zero => exact ⟨_, _, _, rfl⟩
  | succ j => simp [Ty.mask] at hj
 | _ =>
  intro x j hj
  cases j with
  | zero => simp [Ty.mask] at hj
  | succ j => simp [Ty.mask] at hj
theorem z0v {t : Ty} {k j len : Nat} (hj : t.mask.getD j false = true) (hk : k < len) : lnum t k j < t.nsl * len := by
 have h1 : (t.mask.take j).countP id < t.nsl := by
  unfold Ty.nsl
  rw [List.getD_eq_getElem?_getD] at hj
  have hlt : j < t.mask.length := by
   rcases Nat.lt_or_ge j t.mask.length with h | h
   ·exact h
   ·rw [List.getElem?_eq_none h] at hj; cases hj
  rw [List.getElem?_eq_getElem hlt] at hj
  have e : t.mask = t.mask.take j ++ t.mask[j] :: t.mask.drop (j + 1) := by rw [← List.drop_eq_getElem_cons hlt, List.take_append_drop]
  conv => rhs; rw [e]
  rw [List.countP_append, List.countP_cons]
  simp only [Option.getD_some] at hj
  simp only [hj, id_eq, if_true]
  omega
 unfold lnum
 have := Nat.mul_le_mul_left t.nsl (show k + 1 ≤ len from hk)
 rw [Nat.mul_add, Nat.mul_comm t.nsl k] at this
 omega
theorem z3j {t : Ty} {k j len : Nat} (hk : k < len) : wn t (some (t.nsl * len)) k j = wn t none k j := by
 unfold wn
 cases hj : t.mask.getD j false with
 | false => rfl
 | true => simp only [Bool.true_and]; exact decide_eq_true (z0v hj hk)
theorem ql.all {S : Nat → Prop} {w : World} {e : TypeId} {t : Ty} {out : Option (Nat × Nat)} {v : Value} {hs : List (Nat × Value)} {l : List t.T} : ql S w e t (some (t.nsl * l.length)) out v hs l ↔ ql S w e t none out v hs l := by
 constructor <;>
 ·rintro ⟨xs, h1, h2, h3⟩
  refine ⟨xs, h1, h2, fun k x hk j hj ho => ?_⟩
  obtain ⟨d, u, h4, h5, h6⟩ := h3 k x hk j hj ho
  have hkl := (List.getElem?_eq_some_iff.1 hk).1
  rw [z3j hkl] at *
  exact ⟨d, u, h4, h5, h6⟩
theorem zlj.deep {S : Nat → Prop} {w : World} {e : TypeId} {t : Ty} {v : Value} {l : List t.T} (h : zlj S w false e t v l) : ql S w e t (some 0) none v [] l := by
 obtain ⟨xs, h1, h2, h3⟩ := h
 refine ⟨xs, h1, h2, fun k x hk j hj ho => ?_⟩
 have hkl : k < l.length := (List.getElem?_eq_some_iff.1 hk).1
 have hxl : k * t.size + t.size ≤ xs.length := by
  rw [h1.1]
  have := Nat.mul_le_mul_right t.size (show k + 1 ≤ l.length from hkl)
  rw [Nat.add_mul] at this
  omega
 have hr : za 0 (fun _ => .blk 0) S w (t.cells x) ((xs.drop (k * t.size)).take t.size) := by
  refine za.cells (by simp; omega) (ImmC.congr (fun j hj => ?_) (h3 k x hk))
  rw [List.getElem?_take, if_pos hj, List.getElem?_drop]
 have hjl : j < (t.cells x).length := by rw [Ty.cells_length]; exact hj
 obtain ⟨u, h4, h5⟩ := za.get hr j _ (List.getElem?_eq_getElem hjl)
 refine ⟨_, u, List.getElem?_eq_getElem hjl, ?_, ?_⟩
 ·rw [List.getElem?_take, if_pos hj, List.getElem?_drop] at h4
  exact h4
 ·have : wn t (some 0) k j = false := by unfold wn; simp
  rw [this]
  exact h5
theorem zj7 (v : Value) : v.ownBlock.toList.Nodup := by
 cases v.ownBlock <;> simp
theorem zn1.imp {S S' : Nat → Prop} {w w' : World} (hS : ∀ b, S b → S' b) (hw : ∀ b, S b → w'.heap[b]? = w.heap[b]?) {kt t : Ty} : ∀ {l : List (kt.T × t.T)} {es : List MapEntry}, zn1 S w kt t l es → zn1 S' w' kt t l es
 | [], es, h => h
 | p :: l, es, h => by
  obtain ⟨e, r, h1, ⟨h2, h3, h4⟩, h5⟩ := h
  exact ⟨e, r, h1, ⟨h2, h3, ImmC.imp hS hw h4⟩, zn1.imp hS hw h5⟩
theorem zn1.len {S : Nat → Prop} {w : World} {kt t : Ty} : ∀ {l : List (kt.T × t.T)} {es : List MapEntry}, zn1 S w kt t l es → es.length = l.length
 | [], es, h => by obtain rfl : es = [] := h; rfl
 | p :: l, es, h => by obtain ⟨e, r, rfl, _, h⟩ := h; simp [zn1.len h]
theorem Ent2.len {ik : IntKind} : ∀ {l : List ((Bs × Bs) × Int)} {es : List MapEntry}, Ent2 ik l es → es.length = l.length
 | [], es, h => by obtain rfl : es = [] := h; rfl
 | p :: l, es, h => by obtain ⟨e, r, rfl, _, h⟩ := h; simp [Ent2.len h]
theorem zjd.imp {S S' : Nat → Prop} {w w' : World} (hS : ∀ b, S b → S' b) (hw : ∀ b, S b → w'.heap[b]? = w.heap[b]?) {b : Nat} (hb : w'.heap[b]? = w.heap[b]?) {kt t : Ty} {l : List (kt.T × t.T)} (h : zjd S w b kt t l) : zjd S' w' b kt t l := by
 unfold zjd at h ⊢
 split at h
 ·obtain ⟨es, clock, h1, h2⟩ := h
  exact ⟨es, clock, hb.trans h1, h2⟩
 ·rename_i kt t l hno
  obtain ⟨⟨es, clock, h1, h2⟩, h3⟩ := h
  exact ⟨⟨es, clock, hb.trans h1, h2.imp hS hw⟩, h3⟩
theorem RelO.imp {n n' : Nat} {β β' : Nat → GL} {S S' : Nat → Prop} {w w' : World} (hn : n ≤ n') (hβ : ∀ i, i < n → (β i).sim (β' i)) (hS : ∀ b, S b → S' b) (hw : ∀ b, S b → w'.heap[b]? = w.heap[b]?)
  {g : GL} {o : Ob} (hg : ∀ b, b ∈ g.blocks → w'.heap[b]? = w.heap[b]?) (h : RelO n β S w g o) : RelO n' β' S' w' g o := by
 cases g <;> cases o <;> simp only [RelO] at h ⊢ <;> try exact h
 case blk.box b t cs =>
  obtain ⟨vs, h1, h2⟩ := h
  exact ⟨vs, (hg b (by simp [GL.blocks])).trans h1, za.imp hn hβ hS hw cs h2⟩
 case row.vec v mk e t l =>
  obtain ⟨xs, h1, h2, h3⟩ := h
  exact ⟨xs, h1.imp hg, h2, fun k x hk => ImmC.imp hS hw (h3 k x hk)⟩
 case deep.dv g v hs e t l own g' out => exact ⟨h.1, h.2.1, ql.imp hS hw hg h.2.2⟩
 case blk.mp b kt t l =>
  exact h.imp hS hw (hg b (by simp [GL.blocks]))
 case blk.sit b s pos => exact ⟨(hg b (by simp [GL.blocks])).trans h.1, h.2⟩
 case two.bld b v T e s =>
  obtain ⟨p, h1, h2, h3, h4⟩ := h
  exact ⟨p, (hg b (by simp [GL.blocks])).trans h1, h2, ztx h3 (fun b' hb' => hg b' (by simp [GL.blocks] at hb' ⊢; exact .inr hb')), h4⟩

/-! -/
structure Ctx where
 w0 : World
 M : Nat → Prop
 S0 : Nat → Prop
 m0 : Nat
 β0 : Nat → GL
structure Inv (c : Ctx) (β : Nat → GL) (S : Nat → Prop) (ob : List Ob) (w : World) : Prop where
 obj : ∀ (i : Nat) (o : Ob), ob[i]? = some o → RelO ob.length β S w (β i) o
 sep : ∀ i j b, i ≠ j → b ∈ blks β ob i → b ∉ blks β ob j
 own : ∀ i b, b ∈ blks β ob i → ¬ S b ∧ b < w.heap.size ∧ (c.M b ∨ c.w0.heap.size ≤ b)
 imm : ∀ b, S b → b < w.heap.size
 s0 : ∀ b, c.S0 b → S b
 s1 : ∀ b, S b → c.S0 b ∨ c.M b ∨ c.w0.heap.size ≤ b
 same : Same c.M c.w0 w
 keep : ∀ (j : Nat), j < c.m0 → (c.β0 j).kin (β j)
 le : c.m0 ≤ ob.length
def Rel (c : Ctx) (ds : List D) (ob : List Ob) (vs : List Value) (w : World) : Prop :=
 ∃ β S, Inv c β S ob w ∧ za ob.length β S w ds vs
theorem zj {β : Nat → GL} {ob : List Ob} {i b : Nat} : b ∈ blks β ob i ↔ ∃ o, ob[i]? = some o ∧ o.live = true ∧ b ∈ (β i).blocks := by
 unfold blks
 cases h : ob[i]? with
 | none => simp
 | some o => cases hl : o.live <;> simp [hl]
theorem Inv.stepS {c : Ctx} {β β' : Nat → GL} {S S' : Nat → Prop} {ob ob' : List Ob} {w w' : World} (h : Inv c β S ob w) (I : Nat → Prop)
  (hw : Same (fun b => ∃ i, I i ∧ b ∈ blks β ob i) w w') (hlen : ob.length ≤ ob'.length)
  (hkeep : ∀ i, i < ob.length → ¬ I i → ob'[i]? = ob[i]?) (hβ : ∀ i, i < ob.length → (β i).sim (β' i)) (hβ1 : ∀ i, i < ob.length → ¬ I i → β' i = β i)
  (hS : ∀ b, S b → S' b) (hS' : ∀ b, S' b → S b ∨ ((w.heap.size ≤ b ∨ ∃ i, I i ∧ b ∈ blks β ob i) ∧ b < w'.heap.size))
  (hnew : ∀ (i : Nat) (o : Ob), ob'[i]? = some o → (I i ∨ ob.length ≤ i) → RelO ob'.length β' S' w' (β' i) o)
  (hblk : ∀ i b, (I i ∨ ob.length ≤ i) → b ∈ blks β' ob' i → ¬ S' b ∧ b < w'.heap.size ∧ ((∃ i, I i ∧ b ∈ blks β ob i) ∨ w.heap.size ≤ b))
  (hsep : ∀ i j b, i ≠ j → (I i ∨ ob.length ≤ i) → (I j ∨ ob.length ≤ j) → b ∈ blks β' ob' i → b ∉ blks β' ob' j)
  (hm : c.m0 ≤ ob.length) : Inv c β' S' ob' w' := by
 have hSw : ∀ b, S b → w'.heap[b]? = w.heap[b]? := fun b hb => hw.block b (h.imm b hb) fun ⟨i, _, hi⟩ => (h.own i b hi).1 hb
 have hold : ∀ i, i < ob.length → ¬ I i → blks β' ob' i = blks β ob i := fun i hi hn => by simp only [blks, hkeep i hi hn, hβ1 i hi hn]
 have hlt : ∀ {i b}, b ∈ blks β' ob' i → ¬ (I i ∨ ob.length ≤ i) → b ∈ blks β ob i ∧ i < ob.length := fun {i b} hb hn => by
  have h1 : ¬ I i := fun x => hn (.inl x)
  have h2 : i < ob.length := Nat.lt_of_not_le fun x => hn (.inr x)
  exact ⟨hold i h2 h1 ▸ hb, h2⟩
 refine ⟨fun i o hi => ?_, fun i j b hij hi hj => ?_, fun i b hi => ?_, fun b hb => ?_, fun b hb => hS b (h.s0 b hb), fun b hb => ?_, ?_, fun j hj => (h.keep j hj).trans (hβ j (Nat.lt_of_lt_of_le hj hm)).kin, Nat.le_trans hm hlen⟩
 ·by_cases hx : I i ∨ ob.length ≤ i
  ·exact hnew i o hi hx
  ·have h1 : ¬ I i := fun x => hx (.inl x)
   have h2 : i < ob.length := Nat.lt_of_not_le fun x => hx (.inr x)
   rw [hkeep i h2 h1] at hi
   rw [hβ1 i h2 h1]
   cases ho : o.live with
   | false => cases o <;> simp [Ob.live] at ho; cases β i <;> trivial
   | true =>
    refine RelO.imp hlen hβ hS hSw (fun b hb => hw.block b ?_ ?_) (h.obj i o hi)
    ·exact (h.own i b (zj.2 ⟨o, hi, ho, hb⟩)).2.1
    ·rintro ⟨k, hk, hkb⟩
     exact h.sep i k b (fun e => h1 (e ▸ hk)) (zj.2 ⟨o, hi, ho, hb⟩) hkb
 ·by_cases hx : I i ∨ ob.length ≤ i <;> by_cases hy : I j ∨ ob.length ≤ j
  ·exact hsep i j b hij hx hy hi hj
  ·obtain ⟨h1, h2⟩ := hlt hj hy
   rcases (hblk i b hx hi).2.2 with ⟨k, hk, hkb⟩ | h3
   ·exact h.sep j k b (fun e => hy (.inl (e ▸ hk))) h1 hkb
   ·exact Nat.lt_irrefl _ (Nat.lt_of_lt_of_le (h.own j b h1).2.1 h3)
  ·obtain ⟨h1, h2⟩ := hlt hi hx
   rcases (hblk j b hy hj).2.2 with ⟨k, hk, hkb⟩ | h3
   ·exact h.sep i k b (fun e => hx (.inl (e ▸ hk))) h1 hkb
   ·exact Nat.lt_irrefl _ (Nat.lt_of_lt_of_le (h.own i b h1).2.1 h3)
  ·exact h.sep i j b hij (hlt hi hx).1 (hlt hj hy).1
 ·by_cases hx : I i ∨ ob.length ≤ i
  ·obtain ⟨h1, h2, h3⟩ := hblk i b hx hi
   refine ⟨h1, h2, ?_⟩
   rcases h3 with ⟨k, hk, hkb⟩ | h3
   ·exact (h.own k b hkb).2.2
   ·exact .inr (Nat.le_trans h.same.size h3)
  ·obtain ⟨h1, h2⟩ := hlt hi hx
   obtain ⟨h3, h4, h5⟩ := h.own i b h1
   refine ⟨fun hs => ?_, Nat.lt_of_lt_of_le h4 hw.size, h5⟩
   rcases hS' b hs with h6 | ⟨h6 | ⟨k, hk, hkb⟩, _⟩
   ·exact h3 h6
   ·omega
   ·exact h.sep i k b (fun e => hx (.inl (e ▸ hk))) h1 hkb
 ·rcases hS' b hb with h1 | h1
  ·exact Nat.lt_of_lt_of_le (h.imm b h1) hw.size
  ·exact h1.2
 ·rcases hS' b hb with h1 | ⟨h1 | ⟨k, hk, hkb⟩, _⟩
  ·exact h.s1 b h1
  ·exact .inr (.inr (Nat.le_trans h.same.size h1))
  ·exact .inr (h.own k b hkb).2.2
 ·refine h.same.trans hw (fun _ x => x) fun b hb ⟨k, hk, hkb⟩ => ?_
  rcases (h.own k b hkb).2.2 with h2 | h2
  ·exact h2
  ·omega

theorem Inv.step {c : Ctx} {β β' : Nat → GL} {S S' : Nat → Prop} {ob ob' : List Ob} {w w' : World} (h : Inv c β S ob w) (I : Nat → Prop)
  (hw : Same (fun b => ∃ i, I i ∧ b ∈ blks β ob i) w w') (hlen : ob.length ≤ ob'.length)
  (hkeep : ∀ i, i < ob.length → ¬ I i → ob'[i]? = ob[i]?) (hβ : ∀ i, i < ob.length → β' i = β i)
  (hS : ∀ b, S b → S' b) (hS' : ∀ b, S' b → S b ∨ ((w.heap.size ≤ b ∨ ∃ i, I i ∧ b ∈ blks β ob i) ∧ b < w'.heap.size))
  (hnew : ∀ (i : Nat) (o : Ob), ob'[i]? = some o → (I i ∨ ob.length ≤ i) → RelO ob'.length β' S' w' (β' i) o)
  (hblk : ∀ i b, (I i ∨ ob.length ≤ i) → b ∈ blks β' ob' i → ¬ S' b ∧ b < w'.heap.size ∧ ((∃ i, I i ∧ b ∈ blks β ob i) ∨ w.heap.size ≤ b))
  (hsep : ∀ i j b, i ≠ j → (I i ∨ ob.length ≤ i) → (I j ∨ ob.length ≤ j) → b ∈ blks β' ob' i → b ∉ blks β' ob' j)
  (hm : c.m0 ≤ ob.length) : Inv c β' S' ob' w' :=
 h.stepS I hw hlen hkeep (fun i hi => .of_eq (hβ i hi)) (fun i hi _ => hβ i hi) hS hS' hnew hblk hsep hm

/-! -/
theorem zlj.imm {S S' : Nat → Prop} {w : World} {mk : Bool} {e e' : TypeId} {t : Ty} {v : Value} {l : List t.T} (h : zlj S w mk e t v l) (hS : ∀ b, S b → S' b) (hb : ∀ b, b ∈ v.ownBlock.toList → S' b) :
  ImmC S' w (.slice e' t) (fun _ => some v) l := by
 obtain ⟨xs, h1, h2, h3⟩ := h
 rcases h1.2 with ⟨rfl, h0⟩ | ⟨g, cap, cur, fz, rfl, h4, h5, h6, h7, h8, h9⟩
 ·obtain rfl : l = [] := List.eq_nil_of_length_eq_zero h0
  exact ⟨none, 0, rfl, Nat.le_refl _, by simp, by simp, fun _ => rfl, fun k x hk => by simp at hk⟩
 ·refine ⟨_, cap, rfl, h6, h2, h7, (fun h => nomatch h), fun k x hk => ⟨⟨g, 0, none⟩, rfl, hb g (by simp [Value.ownBlock]), ?_⟩⟩
  have hkl : k < l.length := (List.getElem?_eq_some_iff.1 hk).1
  refine ImmC.congr (fun j hj => ?_) (ImmC.imp hS (fun _ _ => rfl) (h3 k x hk))
  have hlt : k * t.size + j < l.length * t.size := by
   have := Nat.mul_le_mul_right t.size (show k + 1 ≤ l.length from hkl)
   rw [Nat.add_mul] at this
   omega
  rw [← h1.cell (g := g) (by simp [Value.ownBlock]) _ hlt]
  congr 1
  unfold Addr.add
  split <;> simp_all
theorem zlj.sub {S S' : Nat → Prop} {w : World} {mk : Bool} {e e' : TypeId} {t : Ty} {A : Option Addr} {len cap : Nat} {l : List t.T} (h : zlj S w mk e t (.slice A len cap) l) (hS : ∀ b, S b → S' b)
  (hb : ∀ b, b ∈ (Value.slice A len cap).ownBlock.toList → S' b) {lo hi c : Nat} {A' : Option Addr} (h1 : lo ≤ hi) (h2 : hi ≤ len) (h3 : hi - lo ≤ c) (h4 : c ≤ maxLen) (h0 : A' = none → c = 0)
  (h5 : lo < hi → A' = A.map fun a => a.add (lo * t.size)) : ImmC S' w (.slice e' t) (fun _ => some (.slice A' (hi - lo) c)) ((l.drop lo).take (hi - lo)) := by
 obtain ⟨xs, g1, g2, g3⟩ := h
 have hlen : len = l.length := by
  rcases g1.2 with ⟨g, g0⟩ | ⟨g, cap, cur, fz, g, _⟩
  ·injection g with _ g _; omega
  ·injection g
 have hll : ((l.drop lo).take (hi - lo)).length = hi - lo := by simp; omega
 refine ⟨A', c, by rw [hll], by omega, by omega, h4, h0, fun k x hk => ?_⟩
 have hkl : k < hi - lo := by rw [← hll]; exact (List.getElem?_eq_some_iff.1 hk).1
 rcases g1.2 with ⟨g, g0⟩ | ⟨g, cap, cur, fz, gv, g4, g5, g6, g7, g8, g9⟩
 ·omega
 ·injection gv with gA gl gc
  subst gA
  have hA := h5 (by omega)
  refine ⟨_, hA, by rw [zfu]; exact hb g (by simp [Value.ownBlock]), ?_⟩
  have hx : l[lo + k]? = some x := by
   rw [List.getElem?_take, if_pos hkl, List.getElem?_drop] at hk
   exact hk
  refine ImmC.congr (fun j hj => ?_) (ImmC.imp hS (fun _ _ => rfl) (g3 _ x hx))
  have hlt : (lo + k) * t.size + j < l.length * t.size := by
   have := Nat.mul_le_mul_right t.size (show lo + k + 1 ≤ l.length by omega)
   rw [Nat.add_mul (lo + k)] at this
   omega
  rw [← g1.cell (g := g) (by simp [Value.ownBlock]) _ hlt, Addr.add_add]
  congr 1
  have : lo * t.size + (k * t.size + j) = (lo + k) * t.size + j := by rw [Nat.add_mul]; omega
  rw [this]
  unfold Addr.add
  split <;> simp_all

/-! -/
def Mt.le (m m' : Mt) : Prop := (∀ j i, m.rho.lookup j = some i → m'.rho.lookup j = some i) ∧ (∀ j, j ∈ m.nils → j ∈ m'.nils) ∧ (∀ i, i ∈ m.fr → i ∈ m'.fr)
theorem Mt.le.refl (m : Mt) : m.le m := ⟨fun _ _ h => h, fun _ h => h, fun _ h => h⟩
theorem Mt.le.trans {a b c : Mt} (h : a.le b) (h' : b.le c) : a.le c := ⟨fun j i x => h'.1 j i (h.1 j i x), fun j x => h'.2.1 j (h.2.1 j x), fun j x => h'.2.2 j (h.2.2 j x)⟩
theorem Mt.assign_le {m m' : Mt} {j i : Nat} (h : m.assign j i = some m') : m.le m' ∧ m'.rho.lookup j = some i ∧ m'.fr = m.fr := by
 unfold Mt.assign at h
 split at h
 ·rename_i i' hi
  split at h
  ·rename_i e
   cases h
   exact ⟨.refl _, by rw [hi, e], rfl⟩
  ·cases h
 ·rename_i hn
  split at h
  ·cases h
  ·cases h
   refine ⟨⟨fun j' i' hj => ?_, fun _ h => h, fun _ h => h⟩, by simp, rfl⟩
   by_cases e : j' = j
   ·subst e; rw [hn] at hj; cases hj
   ·simp only [List.lookup_cons]; have : (j' == j) = false := by simpa using e
    rw [this]; exact hj
theorem Mt.nil_le {m m' : Mt} {j : Nat} (h : m.nil j = some m') : m.le m' ∧ j ∈ m'.nils ∧ m'.fr = m.fr := by
 unfold Mt.nil at h
 split at h
 ·cases h
 ·cases h
  exact ⟨⟨fun _ _ h => h, fun _ h => List.mem_cons_of_mem _ h, fun _ h => h⟩, List.mem_cons_self .., rfl⟩
theorem Mt.ptrs_le : ∀ {ps : List (Nat × Nat)} {ds : List D} {m m' : Mt}, m.ptrs ps ds = some m' → m.le m' ∧ m'.fr = m.fr
 | [], [], m, m', h => by simp only [Mt.ptrs, Option.some.injEq] at h; subst h; exact ⟨.refl _, rfl⟩
 | [], _ :: _, m, m', h => by simp [Mt.ptrs] at h
 | p :: ps, [], m, m', h => by simp [Mt.ptrs] at h
 | p :: ps, d :: ds, m, m', h => by
  cases d <;> simp only [Mt.ptrs] at h <;> try cases h
  split at h
  ·obtain ⟨m1, h1, h2⟩ := Option.bind_eq_some_iff.1 h
   have h3 := Mt.assign_le h1
   have h4 := Mt.ptrs_le h2
   exact ⟨h3.1.trans h4.1, h4.2.trans h3.2.2⟩
  ·cases h
theorem zcb {l : List (Nat × Nat)} {j i : Nat} (h : l.lookup j = some i) : (j, i) ∈ l := by
 induction l with
 | nil => simp at h
 | cons p l ih =>
  by_cases e : j = p.1
  ·rw [List.lookup_cons, show (j == p.1) = true by simpa using e] at h
   simp only [Option.some.injEq] at h
   subst h
   rw [e]
   exact List.mem_cons_self ..
  ·rw [List.lookup_cons, show (j == p.1) = false by simpa using e] at h
   exact List.mem_cons_of_mem _ (ih h)
def Mt.Inj (m : Mt) : Prop := (∀ j j' i, m.rho.lookup j = some i → m.rho.lookup j' = some i → j = j') ∧ ∀ j, j ∈ m.nils → m.rho.lookup j = none
structure Mt.Step (lend : Bool) (m m' : Mt) : Prop where
 le : m.le m'
 fr : lend = false → m'.fr = m.fr
 inj : m.Inj → m'.Inj
theorem Mt.Step.refl (lend : Bool) (m : Mt) : Mt.Step lend m m := ⟨.refl _, fun _ => rfl, fun h => h⟩
theorem Mt.Step.trans {lend : Bool} {a b c : Mt} (h : Mt.Step lend a b) (h' : Mt.Step lend b c) : Mt.Step lend a c := ⟨h.le.trans h'.le, fun x => (h'.fr x).trans (h.fr x), fun x => h'.inj (h.inj x)⟩
theorem Mt.Step.withFr {lend : Bool} {m : Mt} {fr : List Nat} (h : ∀ i, i ∈ m.fr → i ∈ fr) (h' : lend = false → fr = m.fr) : Mt.Step lend m { m with fr := fr } := ⟨⟨fun _ _ h => h, fun _ h => h, h⟩, h', fun h => h⟩
theorem Mt.assign_step {lend : Bool} {m m' : Mt} {j i : Nat} (h : m.assign j i = some m') : Mt.Step lend m m' := by
 refine ⟨(Mt.assign_le h).1, fun _ => (Mt.assign_le h).2.2, fun hi => ?_⟩
 unfold Mt.assign at h
 split at h
 ·split at h
  ·cases h; exact hi
  ·cases h
 ·rename_i hn
  split at h
  ·cases h
  ·rename_i hx
   cases h
   simp only [Bool.or_eq_true, List.any_eq_true, not_or, not_exists, not_and] at hx
   have hno : ∀ j', m.rho.lookup j' ≠ some i := fun j' hj' => hx.1 _ (zcb hj') (by simp)
   have hc : ∀ j' k, ((j, i) :: m.rho).lookup j' = some k → (j' = j ∧ k = i) ∨ m.rho.lookup j' = some k := by
    intro j' k hk
    by_cases e : j' = j
    ·rw [List.lookup_cons, show (j' == j) = true by simpa using e] at hk
     simp only [Option.some.injEq] at hk
     exact .inl ⟨e, hk.symm⟩
    ·rw [List.lookup_cons, show (j' == j) = false by simpa using e] at hk
     exact .inr hk
   refine ⟨fun j1 j2 k h1 h2 => ?_, fun j1 h1 => ?_⟩
   case refine_2 =>
    by_cases e : j1 = j
    ·subst e
     exact absurd (by simpa using h1) hx.2
    ·show List.lookup j1 ((j, i) :: m.rho) = none
     rw [List.lookup_cons, show (j1 == j) = false by simpa using e]
     exact hi.2 j1 h1
   rcases hc _ _ h1 with ⟨e1, f1⟩ | g1 <;> rcases hc _ _ h2 with ⟨e2, f2⟩ | g2
   ·rw [e1, e2]
   ·exact absurd (f1 ▸ g2) (hno _)
   ·exact absurd (f2 ▸ g1) (hno _)
   ·exact hi.1 j1 j2 k g1 g2
theorem Mt.nil_step {lend : Bool} {m m' : Mt} {j : Nat} (h : m.nil j = some m') : Mt.Step lend m m' := by
 refine ⟨(Mt.nil_le h).1, fun _ => (Mt.nil_le h).2.2, fun hi => ?_⟩
 unfold Mt.nil at h
 split at h
 ·cases h
 ·rename_i hn
  cases h
  refine ⟨hi.1, fun j' hj' => ?_⟩
  rcases List.mem_cons.1 hj' with rfl | hj'
  ·exact hn
  ·exact hi.2 j' hj'
theorem Mt.ptrs_step {lend : Bool} : ∀ {ps : List (Nat × Nat)} {ds : List D} {m m' : Mt}, m.ptrs ps ds = some m' → Mt.Step lend m m'
 | [], [], m, m', h => by simp only [Mt.ptrs, Option.some.injEq] at h; subst h; exact .refl _ _
 | [], _ :: _, m, m', h => by simp [Mt.ptrs] at h
 | p :: ps, [], m, m', h => by simp [Mt.ptrs] at h
 | p :: ps, d :: ds, m, m', h => by
  cases d <;> simp only [Mt.ptrs] at h <;> try cases h
  split at h
  ·obtain ⟨m1, h1, h2⟩ := Option.bind_eq_some_iff.1 h
   exact (Mt.assign_step h1).trans (Mt.ptrs_step h2)
  ·cases h
section
variable {ob : List Ob} {lend : Bool}
theorem zyp : ∀ {t : Ty} {d : D} {fr fr' : List Nat} {x : t.T}, gw ob lend t d fr = some (x, fr') → lend = false → fr' = fr := by
 intro t d fr fr' x h hl
 subst hl
 cases t <;> cases d <;> simp only [gw, zyh] at h <;> (repeat' split at h) <;> (try cases h) <;> (try simp only [Option.some.injEq, Prod.mk.injEq] at h) <;>
  (try (obtain ⟨_, rfl⟩ := h)) <;> first | rfl | simp_all
theorem z1s : ∀ {t : Ty} {d : D} {fr fr' : List Nat} {x : t.T}, gw ob lend t d fr = some (x, fr') → ∀ i, i ∈ fr → i ∈ fr' := by
 intro t d fr fr' x h
 cases t <;> cases d <;> simp only [gw, zyh] at h <;> (repeat' split at h) <;> (try cases h) <;> (try simp only [Option.some.injEq, Prod.mk.injEq] at h) <;>
  (try (rw [Option.bind_eq_some_iff] at h; obtain ⟨y, _, h⟩ := h)) <;> (try simp only [Option.some.injEq, Prod.mk.injEq] at h) <;>
  (try (obtain ⟨_, rfl⟩ := h)) <;> intro i hi <;> first | exact hi | exact List.mem_cons_of_mem _ hi
theorem getD_some {α : Type} {l : List α} {i : Nat} {d x : α} (h : l.getD i d = x) (hx : x ≠ d) : l[i]? = some x := by
 rw [List.getD_eq_getElem?_getD] at h
 cases hl : l[i]? with
 | none => rw [hl] at h; exact absurd h.symm hx
 | some y => rw [hl] at h; simp only [Option.getD_some] at h; rw [h]
section
variable {β : Nat → GL} {S S' : Nat → Prop} {w : World}
theorem ze1 (hob : ∀ (i : Nat) (o : Ob), ob[i]? = some o → RelO ob.length β S w (β i) o) {i : Nat} {mk : Bool} {e : TypeId} {t : Ty} {l : List t.T} (h : ob.getD i .gone = .vec mk e t l) :
  ob[i]? = some (.vec mk e t l) ∧ ∃ v, β i = .row v ∧ zlj S w mk e t v l ∧ ∀ b, b ∈ v.ownBlock.toList → b ∈ blks β ob i := by
 have h1 := getD_some h (by simp)
 have h2 := hob i _ h1
 refine ⟨h1, ?_⟩
 cases hb : β i with
 | lpr l rec => rw [hb] at h2; exact h2.elim
 | blk b => rw [hb] at h2; exact h2.elim
 | two b v => rw [hb] at h2; exact h2.elim
 | deep g v hs => rw [hb] at h2; exact h2.elim
 | row v =>
  rw [hb] at h2
  exact ⟨v, rfl, h2, fun b hb' => zj.2 ⟨_, h1, rfl, by rw [hb]; exact hb'⟩⟩
theorem z5u (hob : ∀ (i : Nat) (o : Ob), ob[i]? = some o → RelO ob.length β S w (β i) o) {i : Nat} {t : TypeId} {cs : List D} (h : ob.getD i .gone = .box t cs) :
  ob[i]? = some (.box t cs) ∧ ∃ b, β i = .blk b ∧ (∃ vs : List Value, w.heap[b]? = some (.cells vs.toArray t (0, 0)) ∧ za ob.length β S w cs vs) ∧ b ∈ blks β ob i := by
 have h1 := getD_some h (by simp)
 have h2 := hob i _ h1
 refine ⟨h1, ?_⟩
 cases hb : β i with
 | lpr l rec => rw [hb] at h2; exact h2.elim
 | row v => rw [hb] at h2; exact h2.elim
 | two b v => rw [hb] at h2; exact h2.elim
 | deep g v hs => rw [hb] at h2; exact h2.elim
 | blk b =>
  rw [hb] at h2
  exact ⟨b, rfl, h2, zj.2 ⟨_, h1, rfl, by rw [hb]; simp [GL.blocks]⟩⟩
theorem obDv (hob : ∀ (i : Nat) (o : Ob), ob[i]? = some o → RelO ob.length β S w (β i) o) {i : Nat} {e : TypeId} {t : Ty} {l : List t.T} {own : Option Nat} {g : Nat} {out : Option (Nat × Nat)} (h : ob.getD i .gone = .dv e t l own g out) :
  ob[i]? = some (.dv e t l own g out) ∧ ∃ v hs, β i = .deep g v hs ∧ (GL.deep g v hs).blocks.Nodup ∧ ql S w e t own out v hs l ∧ ∀ b, b ∈ (GL.deep g v hs).blocks → b ∈ blks β ob i := by
 have h1 := getD_some h (by simp)
 have h2 := hob i _ h1
 refine ⟨h1, ?_⟩
 cases hb : β i with
 | lpr l rec => rw [hb] at h2; exact h2.elim
 | blk b => rw [hb] at h2; exact h2.elim
 | two b v => rw [hb] at h2; exact h2.elim
 | row v => rw [hb] at h2; exact h2.elim
 | deep g' v hs =>
  rw [hb] at h2
  obtain ⟨rfl, h3, h4⟩ := h2
  exact ⟨v, hs, rfl, h3, h4, fun b hb' => zj.2 ⟨_, h1, rfl, by rw [hb]; exact hb'⟩⟩
theorem zzv (i g k sz : Nat) : ∀ (ds : List D) (j0 j : Nat) (d : D), (zw1 i g k sz j0 ds)[j]? = some d → ∃ d0, ds[j]? = some d0 ∧ ((∃ e t l, d0 = .isl e t l) ∧ d = .iv i g k sz (j0 + j) ∨ (∀ e t l, d0 ≠ .isl e t l) ∧ d = d0)
 | [], j0, j, d, h => by simp [zw1] at h
 | d0 :: ds, j0, 0, d, h => by
  refine ⟨d0, rfl, ?_⟩
  cases d0 <;> simp only [zw1, List.getElem?_cons_zero, Option.some.injEq] at h <;> subst h
  case isl e t l => exact .inl ⟨⟨e, t, l, rfl⟩, rfl⟩
  all_goals exact .inr ⟨fun _ _ _ h => (nomatch h), rfl⟩
 | d0 :: ds, j0, j + 1, d, h => by
  have : (zw1 i g k sz (j0 + 1) ds)[j]? = some d := by
   cases d0 <;> simpa only [zw1, List.getElem?_cons_succ] using h
  obtain ⟨d1, h1, h2⟩ := zzv i g k sz ds (j0 + 1) j d this
  refine ⟨d1, by simpa using h1, ?_⟩
  rwa [show j0 + 1 + j = j0 + (j + 1) by omega] at h2
theorem zzw (i g k sz : Nat) : ∀ (ds : List D) (j0 : Nat), (zw1 i g k sz j0 ds).length = ds.length
 | [], _ => rfl
 | d :: ds, j0 => by cases d <;> simp [zw1, zzw i g k sz ds]
theorem zyq : ∀ (ds : List D) (j : Nat) (d : D), (anyC ds)[j]? = some d → ∃ d0, ds[j]? = some d0 ∧ ((∃ e t l, d0 = .isl e t l) ∧ d = .any ∨ (∀ e t l, d0 ≠ .isl e t l) ∧ d = d0)
 | [], j, d, h => by simp [anyC] at h
 | d0 :: ds, 0, d, h => by
  refine ⟨d0, rfl, ?_⟩
  cases d0 <;> simp only [anyC, List.getElem?_cons_zero, Option.some.injEq] at h <;> subst h
  case isl e t l => exact .inl ⟨⟨e, t, l, rfl⟩, rfl⟩
  all_goals exact .inr ⟨fun _ _ _ h => (nomatch h), rfl⟩
 | d0 :: ds, j + 1, d, h => by
  have : (anyC ds)[j]? = some d := by
   cases d0 <;> simpa only [anyC, List.getElem?_cons_succ] using h
  obtain ⟨d1, h1, h2⟩ := zyq ds j d this
  exact ⟨d1, by simpa using h1, h2⟩
theorem zyr : ∀ (ds : List D), (anyC ds).length = ds.length
 | [] => rfl
 | d :: ds => by cases d <;> simp [anyC, zyr ds]
theorem zlj.isSlice {S : Nat → Prop} {w : World} {mk : Bool} {e : TypeId} {t : Ty} {v : Value} {l : List t.T} (h : zlj S w mk e t v l) : ∃ A n c, v = .slice A n c := by
 obtain ⟨xs, h1, _⟩ := h
 rcases h1.2 with ⟨rfl, _⟩ | ⟨g, cap, cur, fz, rfl, _⟩
 ·exact ⟨_, _, _, rfl⟩
 ·exact ⟨_, _, _, rfl⟩
theorem ql.kin {S : Nat → Prop} {w : World} {e : TypeId} {t : Ty} {l : List t.T} {own : Option Nat} {out : Option (Nat × Nat)} {v : Value} {hs : List (Nat × Value)} {k : Nat} {x : t.T} (h : ql S w e t own out v hs l) (hk : l[k]? = some x) : KIn k v := by
 obtain ⟨xs, h1, _⟩ := h
 have := (List.getElem?_eq_some_iff.1 hk).1
 rcases h1.2 with ⟨rfl, h0⟩ | ⟨g, cap, cur, fz, rfl, _⟩
 ·omega
 ·exact ⟨_, _, _, rfl, this⟩
theorem ql.cells {n : Nat} {S : Nat → Prop} {e : TypeId} {t : Ty} {l : List t.T} {own : Option Nat} {out : Option (Nat × Nat)} {g : Nat} {v : Value} {hs : List (Nat × Value)} {k : Nat} {x : t.T} {ds : List D} (h : ql S w e t own out v hs l) (hk : l[k]? = some x) (hl : ds.length = t.size)
  (hd : ∀ j d u, j < t.size → ds[j]? = some d → (t.mask.getD j false = false → (t.cells x)[j]? = some d) ∧ (t.mask.getD j false = true → d = .any ∨ (out ≠ some (k, j) ∧ ∀ d0, (t.cells x)[j]? = some d0 → zlk S w (wn t own k j) d0 u (hs.lookup (k * t.size + j)) → RelD n β S w d u))) :
  ∃ xs, ze0 false w e t.size v l.length xs ∧ za n β S w ds ((xs.drop (k * t.size)).take t.size) := by
 obtain ⟨xs, h1, h2, h3⟩ := h
 refine ⟨xs, h1, ?_⟩
 have hkl : k < l.length := (List.getElem?_eq_some_iff.1 hk).1
 have hxl : k * t.size + t.size ≤ xs.length := by
  rw [h1.1]
  have := Nat.mul_le_mul_right t.size (show k + 1 ≤ l.length from hkl)
  rw [Nat.add_mul] at this
  omega
 refine za.mk (by rw [hl]; simp; omega) fun j d u hdj hu => ?_
 have hj : j < t.size := by rw [← hl]; exact (List.getElem?_eq_some_iff.1 hdj).1
 obtain ⟨q1, q2⟩ := hd j d u hj hdj
 rw [List.getElem?_take, if_pos hj, List.getElem?_drop] at hu
 cases hm : t.mask.getD j false with
 | false =>
  obtain ⟨d0, u0, h4, h5, h6⟩ := h3 k x hk j hj (fun hx => by rw [hm] at hx; cases hx.2)
  rw [q1 hm] at h4
  cases h4
  rw [h5] at hu
  cases hu
  have : wn t own k j = false := by unfold wn; rw [hm]; rfl
  rw [this] at h6
  exact RelD.imp (Nat.zero_le _) (fun i hi => absurd hi (Nat.not_lt_zero _)) (fun _ h => h) (fun _ _ => rfl) _ h6
 | true =>
  rcases q2 hm with rfl | ⟨q3, q4⟩
  ·trivial
  ·obtain ⟨d0, u0, h4, h5, h6⟩ := h3 k x hk j hj (fun hx => q3 hx.1)
   rw [h5] at hu
   cases hu
   exact q4 d0 h4 h6
theorem ql.rowOf {S S' : Nat → Prop} {e : TypeId} {t : Ty} {l : List t.T} {own : Option Nat} {g : Nat} {v : Value} {hs : List (Nat × Value)} (h : ql S w e t own none v hs l) (hS : ∀ b, S b → S' b) (hb : ∀ b, b ∈ (GL.deep g v hs).blocks → S' b) : zlj S' w false e t v l := by
 obtain ⟨xs, h1, h2, h3⟩ := h
 refine ⟨xs, h1, h2, fun k x hk => ?_⟩
 have hkl : k < l.length := (List.getElem?_eq_some_iff.1 hk).1
 have hxl : k * t.size + t.size ≤ xs.length := by
  rw [h1.1]
  have := Nat.mul_le_mul_right t.size (show k + 1 ≤ l.length from hkl)
  rw [Nat.add_mul] at this
  omega
 have hr : za 0 (fun _ => .blk 0) S' w (t.cells x) ((xs.drop (k * t.size)).take t.size) := by
  refine za.mk (by rw [Ty.cells_length]; simp; omega) fun j d u hd hu => ?_
  have hj : j < t.size := by rw [← Ty.cells_length t x]; exact (List.getElem?_eq_some_iff.1 hd).1
  obtain ⟨d', u', h4, h5, h6⟩ := h3 k x hk j hj (by simp)
  rw [h4] at hd
  cases hd
  rw [List.getElem?_take, if_pos hj, List.getElem?_drop, h5] at hu
  cases hu
  cases ho : wn t own k j with
  | false =>
   rw [ho] at h6
   exact RelD.imp (Nat.le_refl _) (fun i _ => .refl _) hS (fun _ _ => rfl) _ h6
  | true =>
   rw [ho] at h6
   obtain ⟨h7, e', t', lst, rfl, h8⟩ := h6
   exact h8.imm hS fun b hb' => hb b (zll h7 hb')
 refine ImmC.congr (fun j hj => ?_) (za.uncells hr)
 rw [List.getElem?_take, if_pos hj, List.getElem?_drop]
theorem ze8 (hob : ∀ (i : Nat) (o : Ob), ob[i]? = some o → RelO ob.length β S w (β i) o) {i g k sz off : Nat} {e : TypeId} {t : Ty} {lst : List t.T} (h : zzn ob i g k sz off = some (.isl e t lst)) :
  ∃ e0 t0 l v hs u, ob[i]? = some (.dv e0 t0 l none g none) ∧ β i = .deep g v hs ∧ sz = t0.size ∧ off < t0.size ∧ t0.mask.getD off false = true ∧ hs.lookup (k * sz + off) = some u ∧ zlj S w false e t u lst ∧ ∀ b, b ∈ u.ownBlock.toList → b ∈ blks β ob i := by
 unfold zzn at h
 split at h
 ·rename_i e0 t0 l g' hd
  split at h
  ·rename_i hg
   obtain ⟨rfl, rfl⟩ := hg
   obtain ⟨x, hx, hc⟩ := Option.bind_eq_some_iff.1 h
   obtain ⟨h1, v, hs, h2, h3, ⟨xs, h4, h5, h6⟩, h7⟩ := obDv hob hd
   have hoff : off < t0.size := by rw [← Ty.cells_length t0 x]; exact (List.getElem?_eq_some_iff.1 hc).1
   obtain ⟨d, u, h8, h9, h10⟩ := h6 k x hx off hoff (by simp)
   rw [hc] at h8
   cases h8
   have hm : t0.mask.getD off false = true := zi1 t0 x off e t lst hc
   have ho : wn t0 none k off = true := by unfold wn; rw [hm]; rfl
   rw [ho] at h10
   obtain ⟨h11, e', t', lst', h12, h13⟩ := h10
   cases h12
   exact ⟨e0, t0, l, v, hs, u, h1, h2, rfl, hoff, hm, h11, h13, fun b hb => h7 b (zll h11 hb)⟩
  ·cases h
 ·cases h
theorem zzx : ∀ {t : Ty} {off : Nat} {e : TypeId} {t' : Ty} {f : t.T → List t'.T}, ztw t off = some ⟨e, t', f⟩ → ∀ x, (t.cells x)[off]? = some (.isl e t' (f x)) := by
 intro t
 induction t with
 | pair a b iha ihb =>
  intro off e t' f h x
  simp only [ztw] at h
  simp only [Ty.cells]
  split at h
  ·rename_i hlt
   split at h
   ·rename_i e1 t1 f1 h1
    cases h
    rw [List.getElem?_append_left (by rw [Ty.cells_length]; exact hlt)]
    exact iha h1 x.1
   ·cases h
  ·rename_i hge
   split at h
   ·rename_i e1 t1 f1 h1
    cases h
    rw [List.getElem?_append_right (by rw [Ty.cells_length]; omega), Ty.cells_length]
    exact ihb h1 x.2
   ·cases h
 | slice e0 t0 ih =>
  intro off e t' f h x
  cases off with
  | zero => simp only [ztw, Option.some.injEq] at h; cases h; rfl
  | succ off => simp [ztw] at h
 | _ => intro off e t' f h x; simp [ztw] at h
theorem zpa (hob : ∀ (i : Nat) (o : Ob), ob[i]? = some o → RelO ob.length β S w (β i) o) {i g k sz off : Nat} {Q : Type} {K : TypeId → (t : Ty) → List t.T → Option Q} {r : Q} (hk : ∀ v hs, β i = .deep g v hs → KIn k v) (h : zyh ob i g k sz off K = some r) :
  ∃ e t lst, zzn ob i g k sz off = some (.isl e t lst) ∧ K e t lst = some r := by
 unfold zyh at h
 split at h
 ·rename_i e0 t0 l g' hd
  split at h
  ·rename_i hg
   obtain ⟨rfl, rfl⟩ := hg
   split at h
   ·rename_i e t' f hf
    obtain ⟨h1, v, hs, h2, h3, ⟨xs, h4, h5, h6⟩, h7⟩ := obDv hob hd
    obtain ⟨A, len, cap, rfl, hkl⟩ := hk v hs h2
    have hlen : len = l.length := by
     rcases h4.2 with ⟨g, g0⟩ | ⟨g, cap, cur, fz, g, _⟩
     ·injection g with _ g _; omega
     ·injection g
    subst hlen
    rw [List.getElem?_eq_getElem hkl] at h
    refine ⟨e, t', f l[k], ?_, h⟩
    unfold zzn
    rw [hd]
    simp only [and_self, if_true, List.getElem?_eq_getElem hkl, Option.bind_some]
    exact zzx hf _
   ·cases h
  ·cases h
 ·cases h
theorem zpz {n : Nat} {k : IntKind} : ∀ {ds : List D} {vs : List Value} {l : List Int}, zq8 k ds = some l → za n β S w ds vs → ds.length = l.length ∧ ∀ (j : Nat) (x : Int), l[j]? = some x → vs[j]? = some (.int k x) ∧ Rng k x
 | [], vs, l, h, hd => by
  simp only [zq8, Option.some.injEq] at h
  subst h
  exact ⟨rfl, fun j x hj => by simp at hj⟩
 | d :: ds, vs, l, h, hd => by
  cases d <;> simp only [zq8] at h <;> try cases h
  rename_i k' x
  split at h
  ·rename_i e
   subst e
   obtain ⟨l', h1, h2⟩ := Option.bind_eq_some_iff.1 h
   simp only [Option.some.injEq] at h2
   subst h2
   obtain ⟨u, us, rfl, ⟨rfl, h4⟩, h5⟩ := hd
   obtain ⟨h6, h7⟩ := zpz h1 h5
   refine ⟨by simp [h6], fun j y hj => ?_⟩
   cases j with
   | zero => simp only [List.getElem?_cons_zero, Option.some.injEq] at hj ⊢; subst hj; exact ⟨rfl, h4⟩
   | succ j => simp only [List.getElem?_cons_succ] at hj ⊢; exact h7 j y hj
  ·cases h
theorem zvh (hob : ∀ (i : Nat) (o : Ob), ob[i]? = some o → RelO ob.length β S w (β i) o) {k : IntKind} {i off m : Nat} {l : List Int} (h : z26 ob k i off m = some l) :
  ∃ t cs, ob.getD i .gone = .box t cs ∧ off + m ≤ cs.length ∧ ∃ (b : Nat) (vs : List Value), β i = .blk b ∧ w.heap[b]? = some (.cells vs.toArray t (0, 0)) ∧ za ob.length β S w cs vs ∧ b ∈ blks β ob i ∧ l.length = m ∧
   ∀ (j : Nat) (x : Int), l[j]? = some x → vs[off + j]? = some (.int k x) ∧ Rng k x := by
 unfold z26 at h
 cases hb : ob.getD i .gone with
 | box t cs =>
  rw [hb] at h
  simp only at h
  split at h
  ·rename_i hl
   obtain ⟨_, b, h2, ⟨vs, h3, h4⟩, h5⟩ := z5u hob hb
   obtain ⟨h6, h7⟩ := zpz h ((h4.drop off).take m)
   refine ⟨t, cs, rfl, hl, b, vs, h2, h3, h4, h5, ?_, fun j x hj => ?_⟩
   ·rw [← h6]; simp; omega
   ·obtain ⟨h8, h9⟩ := h7 j x hj
    rw [List.getElem?_take] at h8
    split at h8
    ·rw [List.getElem?_drop] at h8; exact ⟨h8, h9⟩
    ·cases h8
  ·cases h
 | vec mk e t l => rw [hb] at h; cases h
 | dv e t l own g out => rw [hb] at h; cases h
 | bld T e s => rw [hb] at h; cases h
 | lp => rw [hb] at h; cases h
 | sit s p => rw [hb] at h; cases h
 | mp kt t l => rw [hb] at h; cases h
 | gone => rw [hb] at h; cases h
theorem zvi (hob : ∀ (i : Nat) (o : Ob), ob[i]? = some o → RelO ob.length β S w (β i) o) {t : Ty} {i off m n : Nat} {l : List t.T} {v : Value} (h : zso ob t i off m n = some l) (hd : RelD ob.length β S w (.asl i off m n) v) :
  t.size = 1 ∧ ∃ b, v = .slice (some ⟨b, off, none⟩) l.length m ∧ l.length ≤ m ∧ m ≤ maxB ∧ b ∈ blks β ob i ∧
   ∃ xs : List Value, xs.length = l.length ∧ (∀ (j : Nat) (u : Value), xs[j]? = some u → w.cell? ⟨b, off + j, none⟩ = some u ∧ u.oneCell' = true) ∧ ∀ (j : Nat) (x : t.T), l[j]? = some x → ImmC S w t (fun q => xs[j * t.size + q]?) x := by
 cases t with
 | int k =>
  simp only [zso] at h
  obtain ⟨l', h1, h2⟩ := Option.bind_eq_some_iff.1 h
  simp only [Option.some.injEq] at h2
  subst h2
  obtain ⟨t', cs, _, h3, b, vs, h4, h5, h6, h7, h8, h9⟩ := zvh hob h1
  obtain ⟨_, hn, hm, b', h10, rfl⟩ := hd
  rw [h4] at h10
  injection h10 with h10
  subst h10
  have hln : (l'.take n).length = n := by rw [List.length_take]; omega
  refine ⟨rfl, b, by rw [hln], by rw [hln]; exact hn, hm, h7, (l'.take n).map (fun x => .int k x), by simp, fun j u hj => ?_, fun j x hj => ?_⟩
  ·rw [List.getElem?_map] at hj
   cases hx : (l'.take n)[j]? with
   | none => rw [hx] at hj; cases hj
   | some x =>
    rw [hx] at hj
    cases hj
    rw [List.getElem?_take] at hx
    split at hx
    ·obtain ⟨h11, _⟩ := h9 j x hx
     refine ⟨?_, rfl⟩
     simp only [World.cell?, h5]
     simpa using h11
    ·cases hx
  ·rw [List.getElem?_take] at hj
   split at hj
   ·rename_i hjn
    refine ⟨?_, (h9 j x hj).2⟩
    simp only [Ty.size, Nat.mul_one, Nat.add_zero, List.getElem?_map, List.getElem?_take, if_pos hjn, hj]
    rfl
   ·cases hj
 | bool => simp [zso] at h
 | str => simp [zso] at h
 | pair a b => simp [zso] at h
 | slice e t => simp [zso] at h
 | err => simp [zso] at h
 | eint t k => simp [zso] at h
theorem z42 {t : Ty} {i off m n : Nat} {l : List t.T} (h : zso ob t i off m n = some l) : i < ob.length := by
 rcases Nat.lt_or_ge i ob.length with h1 | h1
 ·exact h1
 ·exfalso
  cases t <;> simp only [zso] at h <;> try cases h
  have : ob.getD i .gone = .gone := by rw [List.getD_eq_getElem?_getD, List.getElem?_eq_none h1]; rfl
  rw [z26, this] at h
  cases h
theorem zzy (hob : ∀ (i : Nat) (o : Ob), ob[i]? = some o → RelO ob.length β S w (β i) o) {t : Ty} {i off m n : Nat} {l : List t.T} {v : Value} (h : zso ob t i off m n = some l) (hd : RelD ob.length β S w (.asl i off m n) v)
  (hS : ∀ b, S b → S' b) (hb : ∀ b, b ∈ blks β ob i → S' b) (e : TypeId) : ImmC S' w (.slice e t) (fun _ => some v) l := by
 obtain ⟨h1, b, rfl, h2, h3, h4, xs, h5, h6, h7⟩ := zvi hob h hd
 refine ⟨_, m, rfl, h2, by omega, by simp only [maxB, maxLen] at *; omega, fun hA => (nomatch hA), fun k x hk => ⟨_, rfl, hb b h4, ?_⟩⟩
 refine ImmC.congr (fun j hj => ?_) (ImmC.imp hS (fun _ _ => rfl) (h7 k x hk))
 have hkl := (List.getElem?_eq_some_iff.1 hk).1
 have hj0 : k * t.size + j < xs.length := by rw [h5, h1]; omega
 rw [Addr.add_lit, List.getElem?_eq_getElem hj0]
 exact (h6 _ _ (List.getElem?_eq_getElem hj0)).1
theorem zvj (hob : ∀ (i : Nat) (o : Ob), ob[i]? = some o → RelO ob.length β S w (β i) o) (hS : ∀ b, S b → S' b) : ∀ {t : Ty} {d : D} {fr fr' : List Nat} {x : t.T} {v : Value},
  gw ob lend t d fr = some (x, fr') → (∀ i, i ∈ fr' → ∀ b, b ∈ blks β ob i → S' b) → RelD ob.length β S w d v → ImmC S' w t (fun _ => some v) x ∧ t.size = 1 ∧ (lend = false → fr' = fr) := by
 intro t d fr fr' x v h hfr hd
 cases t with
 | int k =>
  cases d <;> simp only [gw] at h <;> try cases h
  rename_i k' n
  split at h
  ·rename_i e
   subst e
   simp only [Option.some.injEq, Prod.mk.injEq] at h
   obtain ⟨rfl, rfl⟩ := h
   obtain ⟨rfl, h2⟩ := hd
   exact ⟨⟨rfl, h2⟩, rfl, fun _ => rfl⟩
  ·cases h
 | bool =>
  cases d <;> simp only [gw] at h <;> try cases h
  exact ⟨congrArg some hd, rfl, fun _ => rfl⟩
 | str =>
  cases d <;> simp only [gw] at h <;> try cases h
  obtain ⟨rfl, h2⟩ := hd
  exact ⟨⟨rfl, h2⟩, rfl, fun _ => rfl⟩
 | pair a b => cases d <;> simp [gw] at h
 | err =>
  cases d <;> simp only [gw] at h <;> try cases h
  case ierr.refl => exact ⟨⟨v, rfl, hd⟩, rfl, fun _ => rfl⟩
  case eint.refl _ _ o =>
   refine ⟨⟨v, rfl, ?_⟩, rfl, fun _ => rfl⟩
   cases o with
   | none => exact hd
   | some n => exact ⟨_, _, hd.1⟩
 | eint t k =>
  cases d <;> simp only [gw] at h <;> try cases h
  case ierr b =>
   split at h
   ·cases h
   ·rename_i hb
    simp only [Option.some.injEq, Prod.mk.injEq] at h
    obtain ⟨rfl, rfl⟩ := h
    obtain rfl : b = false := by simpa using hb
    exact ⟨⟨v, rfl, hd⟩, rfl, fun _ => rfl⟩
  case eint t' k' o =>
   split at h
   ·rename_i e
    obtain ⟨rfl, rfl⟩ := e
    simp only [Option.some.injEq, Prod.mk.injEq] at h
    obtain ⟨rfl, rfl⟩ := h
    exact ⟨⟨v, rfl, hd⟩, rfl, fun _ => rfl⟩
   ·cases h
 | slice e t =>
  cases d <;> simp only [gw] at h <;> try cases h
  case isl e' t' l =>
   split at h
   ·rename_i ht
    subst ht
    split at h
    ·simp only [Option.some.injEq, Prod.mk.injEq] at h
     obtain ⟨rfl, rfl⟩ := h
     exact ⟨ImmC.imp (t := .slice e t') (g := fun _ => some v) (x := l) hS (fun _ _ => rfl) hd, rfl, fun _ => rfl⟩
    ·cases h
   ·cases h
  case slice.nsl.refl =>
   obtain rfl : v = .slice none 0 0 := hd
   exact ⟨⟨none, 0, rfl, Nat.le_refl _, by simp, by simp, fun _ => rfl, fun k x hk => by simp at hk⟩, rfl, fun _ => rfl⟩
  case vec i =>
   split at h
   ·rename_i hl
    split at h
    ·rename_i mk e' t' l hv
     split at h
     ·rename_i ht
      subst ht
      split at h
      ·simp only [Option.some.injEq, Prod.mk.injEq] at h
       obtain ⟨rfl, rfl⟩ := h
       obtain ⟨h1, u, h2, h3, h4⟩ := ze1 hob hv
       obtain ⟨_, h5, _⟩ := hd
       rw [h2] at h5
       injection h5 with h5
       subst h5
       exact ⟨h3.imm hS fun b hb => hfr i (List.mem_cons_self ..) b (h4 b hb), rfl, fun hx => by rw [hx] at hl; cases hl⟩
      ·cases h
     ·cases h
    ·rename_i e' t' l own g hv
     split at h
     ·rename_i ht
      subst ht
      split at h
      ·simp only [Option.some.injEq, Prod.mk.injEq] at h
       obtain ⟨rfl, rfl⟩ := h
       obtain ⟨h1, u, hs, h2, _, h3, h4⟩ := obDv hob hv
       obtain ⟨_, h5, _⟩ := hd
       rw [h2] at h5
       injection h5 with h5
       subst h5
       have hb : ∀ b, b ∈ (GL.deep g u hs).blocks → S' b := fun b hb => hfr i (List.mem_cons_self ..) b (h4 b hb)
       exact ⟨(h3.rowOf hS hb).imm (fun _ h => h) fun b hb' => hb b (List.mem_append_left _ hb'), rfl, fun hx => by rw [hx] at hl; cases hl⟩
      ·cases h
     ·cases h
    ·cases h
   ·cases h
  case iv i g k sz off =>
   split at h
   ·rename_i hl
    obtain ⟨_, _, g', u', hs', h6, h7, h8⟩ := hd
    obtain ⟨e', t', l, hv, h⟩ := zpa hob (fun v hs hb => by
     rw [h6] at hb
     injection hb with hb1 hb2 hb3
     subst hb1 hb2
     exact (h8 rfl).2) h
    split at h
    ·rename_i ht
     subst ht
     split at h
     ·simp only [Option.some.injEq, Prod.mk.injEq] at h
      obtain ⟨rfl, rfl⟩ := h
      obtain ⟨e0, t0, l0, v0, hs, u, h1, h2, _, _, _, h3, h4, h5⟩ := ze8 hob hv
      rw [h2] at h6
      injection h6 with h6 h9 h10
      subst h6 h10
      have := (h8 rfl).1
      rw [h3] at this
      injection this with this
      subst this
      exact ⟨h4.imm hS fun b hb => hfr i (List.mem_cons_self ..) b (h5 b hb), rfl, fun hx => by rw [hx] at hl; cases hl⟩
     ·cases h
    ·cases h
   ·cases h
  case sub i lo hi sz =>
   split at h
   ·rename_i hl
    split at h
    ·rename_i mk e' t' l hv
     split at h
     ·rename_i ht
      subst ht
      split at h
      ·rename_i hz
       simp only [Option.some.injEq, Prod.mk.injEq] at h
       obtain ⟨rfl, rfl⟩ := h
       obtain ⟨h1, u, h2, h3, h4⟩ := ze1 hob hv
       obtain ⟨_, h5, A, len, cap, c, A', h6, h7, rfl, h8, h9, h0, h10⟩ := hd
       rw [h2] at h6
       injection h6 with h6
       subst h6
       rw [hz.2] at h10
       exact ⟨h3.sub hS (fun b hb => hfr i (List.mem_cons_self ..) b (h4 b hb)) h5 h7 h8 h9 h0 h10, rfl, fun hx => by rw [hx] at hl; cases hl⟩
      ·cases h
     ·cases h
    ·cases h
   ·cases h
  case asl i off m n =>
   split at h
   ·rename_i hl
    obtain ⟨l, h1, h2⟩ := Option.bind_eq_some_iff.1 h
    simp only [Option.some.injEq, Prod.mk.injEq] at h2
    obtain ⟨rfl, rfl⟩ := h2
    exact ⟨zzy hob h1 hd hS (fun b hb => hfr i (List.mem_cons_self ..) b hb) e, rfl, fun hx => by rw [hx] at hl; cases hl⟩
   ·cases h
theorem zn2 : ∀ {t : Ty} {ds rest : List D} {fr fr' : List Nat} {x : t.T}, xn ob lend t ds fr = some (x, rest, fr') → ∀ i, i ∈ fr → i ∈ fr' := by
 intro t
 induction t with
 | pair a b iha ihb =>
  intro ds rest fr fr' x h
  simp only [xn] at h
  obtain ⟨y, h1, h2⟩ := Option.bind_eq_some_iff.1 h
  obtain ⟨z, h3, h4⟩ := Option.bind_eq_some_iff.1 h2
  simp only [Option.some.injEq, Prod.mk.injEq] at h4
  obtain ⟨rfl, rfl, rfl⟩ := h4
  exact fun i hi => ihb h3 i (iha h1 i hi)
 | _ =>
  intro ds rest fr fr' x h
  cases ds with
  | nil => simp [xn] at h
  | cons d ds =>
   simp only [xn] at h
   obtain ⟨y, h1, h2⟩ := Option.bind_eq_some_iff.1 h
   simp only [Option.some.injEq, Prod.mk.injEq] at h2
   obtain ⟨rfl, rfl, rfl⟩ := h2
   exact z1s h1
theorem zre : ∀ {t : Ty} {ds rest : List D} {fr fr' : List Nat} {x : t.T}, xn ob lend t ds fr = some (x, rest, fr') → lend = false → fr' = fr := by
 intro t
 induction t with
 | pair a b iha ihb =>
  intro ds rest fr fr' x h hl
  simp only [xn] at h
  obtain ⟨y, h1, h2⟩ := Option.bind_eq_some_iff.1 h
  obtain ⟨z, h3, h4⟩ := Option.bind_eq_some_iff.1 h2
  simp only [Option.some.injEq, Prod.mk.injEq] at h4
  obtain ⟨rfl, rfl, rfl⟩ := h4
  exact (ihb h3 hl).trans (iha h1 hl)
 | _ =>
  intro ds rest fr fr' x h hl
  cases ds with
  | nil => simp [xn] at h
  | cons d ds =>
   simp only [xn] at h
   obtain ⟨y, h1, h2⟩ := Option.bind_eq_some_iff.1 h
   simp only [Option.some.injEq, Prod.mk.injEq] at h2
   obtain ⟨rfl, rfl, rfl⟩ := h2
   exact zyp h1 hl
theorem zn3 (hob : ∀ (i : Nat) (o : Ob), ob[i]? = some o → RelO ob.length β S w (β i) o) (hS : ∀ b, S b → S' b) : ∀ {t : Ty} {ds rest : List D} {fr fr' : List Nat} {x : t.T} {vs : List Value},
  xn ob lend t ds fr = some (x, rest, fr') → (∀ i, i ∈ fr' → ∀ b, b ∈ blks β ob i → S' b) → za ob.length β S w ds vs →
  ∃ us ws, vs = us ++ ws ∧ us.length = t.size ∧ ImmC S' w t (fun j => us[j]?) x ∧ za ob.length β S w rest ws ∧ (lend = false → fr' = fr) := by
 have one : ∀ (t : Ty) (ds rest : List D) (fr fr' : List Nat) (x : t.T) (vs : List Value), (match ds with | d :: r => (gw ob lend t d fr).bind fun x => some (x.1, r, x.2) | [] => none) = some (x, rest, fr') →
   (∀ i, i ∈ fr' → ∀ b, b ∈ blks β ob i → S' b) → za ob.length β S w ds vs →
   ∃ us ws, vs = us ++ ws ∧ us.length = t.size ∧ ImmC S' w t (fun j => us[j]?) x ∧ za ob.length β S w rest ws ∧ (lend = false → fr' = fr) := by
  intro t ds rest fr fr' x vs h hfr hd
  cases ds with
  | nil => cases h
  | cons d ds =>
   obtain ⟨y, h1, h2⟩ := Option.bind_eq_some_iff.1 h
   simp only [Option.some.injEq, Prod.mk.injEq] at h2
   obtain ⟨rfl, rfl, rfl⟩ := h2
   obtain ⟨u, us, rfl, h3, h4⟩ := hd
   obtain ⟨h5, h6, h7⟩ := zvj hob hS h1 hfr h3
   refine ⟨[u], us, rfl, h6.symm, ImmC.congr (fun j (hj : j < t.size) => ?_) h5, h4, h7⟩
   obtain rfl : j = 0 := by omega
   rfl
 intro t
 induction t with
 | pair a b iha ihb =>
  intro ds rest fr fr' x vs h hfr hd
  simp only [xn] at h
  obtain ⟨y, h1, h2⟩ := Option.bind_eq_some_iff.1 h
  obtain ⟨z, h3, h4⟩ := Option.bind_eq_some_iff.1 h2
  simp only [Option.some.injEq, Prod.mk.injEq] at h4
  obtain ⟨rfl, rfl, rfl⟩ := h4
  obtain ⟨us, ws, rfl, h5, h6, h7, h8⟩ := iha h1 (fun i hi => hfr i (zn2 h3 i hi)) hd
  obtain ⟨us', ws', rfl, h9, h10, h11, h12⟩ := ihb h3 hfr h7
  refine ⟨us ++ us', ws', by simp, by simp [Ty.size, h5, h9], ⟨ImmC.congr (fun j hj => ?_) h6, ImmC.congr (fun j hj => ?_) h10⟩, h11, fun hl => (h12 hl).trans (h8 hl)⟩
  ·show (us ++ us')[j]? = us[j]?
   rw [List.getElem?_append_left (by omega)]
  ·show (us ++ us')[a.size + j]? = us'[j]?
   rw [List.getElem?_append_right (by omega), h5]; congr 1; omega
 | _ =>
  intro ds rest fr fr' x vs h hfr hd
  refine one _ ds rest fr fr' x vs ?_ hfr hd
  cases ds with
  | nil => simp [xn] at h
  | cons d ds => simpa only [xn] using h
theorem zfv (hob : ∀ (i : Nat) (o : Ob), ob[i]? = some o → RelO ob.length β S w (β i) o) (hS : ∀ b, S b → S' b) {t : Ty} {ds : List D} {fr fr' : List Nat} {x : t.T} {vs : List Value}
  (h : ki ob lend t ds fr = some (x, fr')) (hfr : ∀ i, i ∈ fr' → ∀ b, b ∈ blks β ob i → S' b) (hd : za ob.length β S w ds vs) :
  vs.length = t.size ∧ ImmC S' w t (fun j => vs[j]?) x ∧ (lend = false → fr' = fr) ∧ (∀ i, i ∈ fr → i ∈ fr') := by
 unfold ki at h
 obtain ⟨y, h1, h2⟩ := Option.bind_eq_some_iff.1 h
 split at h2
 ·rename_i hr
  simp only [Option.some.injEq, Prod.mk.injEq] at h2
  obtain ⟨rfl, rfl⟩ := h2
  obtain ⟨us, ws, rfl, h5, h6, h7, h8⟩ := zn3 hob hS (show xn ob lend t ds fr = some (y.1, y.2.1, y.2.2) from h1) hfr hd
  rw [hr] at h7
  obtain rfl : ws = [] := h7
  rw [List.append_nil]
  exact ⟨h5, h6, h8, zn2 (show xn ob lend t ds fr = some (y.1, y.2.1, y.2.2) from h1)⟩
 ·cases h2
structure Tgt (β β' : Nat → GL) (ob : List Ob) (S' : Nat → Prop) (n' : Nat) (m : Mt) : Prop where
 rho : ∀ j i, m.rho.lookup j = some i → j < n' ∧ (β i).bs (β' j)
 nils : ∀ j, j ∈ m.nils → j < n' ∧ (β' j).hdr = some (.slice none 0 0)
 fr : ∀ i, i ∈ m.fr → ∀ b, b ∈ blks β ob i → S' b
theorem Tgt.mono {β β' : Nat → GL} {ob : List Ob} {S' : Nat → Prop} {n' : Nat} {m m' : Mt} (h : Tgt β β' ob S' n' m') (hle : m.le m') : Tgt β β' ob S' n' m :=
 ⟨fun j i x => h.rho j i (hle.1 j i x), fun j x => h.nils j (hle.2.1 j x), fun i x => h.fr i (hle.2.2 i x)⟩
theorem z2j {f : FuncId} {d : D} {s : Bs} (h : z5z f d = some s) : d = .fn f [.str s] [] := by
 unfold z5z at h
 split at h
 ·split at h
  ·rename_i e
   simp only [Option.some.injEq] at h
   subst e
   subst h
   rfl
  ·cases h
 ·cases h
theorem zxs : ∀ {fs : List FuncId} {f : FuncId} {k : Nat}, zzo fs f = some k → fs[k]? = some f
 | [], f, k, h => by simp [zzo] at h
 | g :: r, f, k, h => by
  unfold zzo at h
  split at h
  ·rename_i e
   cases h
   simp [e]
  ·obtain ⟨j, h1, rfl⟩ := Option.map_eq_some_iff.1 h
   simpa using zxs h1
theorem z3k {m m' : Mt} {fs : List FuncId} {fi ca : List (Nat × Nat)} {d : D} {k : Nat} (h : selM m fs fi ca d = some (k, m')) : Mt.Step lend m m' := by
 unfold selM at h
 split at h
 ·obtain ⟨j, _, h⟩ := Option.bind_eq_some_iff.1 h
  obtain ⟨m1, h1, h⟩ := Option.bind_eq_some_iff.1 h
  obtain ⟨m2, h2, h⟩ := Option.bind_eq_some_iff.1 h
  simp only [Option.some.injEq, Prod.mk.injEq] at h
  obtain ⟨_, rfl⟩ := h
  exact (Mt.ptrs_step h1).trans (Mt.ptrs_step h2)
 ·simp only [Option.some.injEq, Prod.mk.injEq] at h
  obtain ⟨_, rfl⟩ := h
  exact .refl _ _
 ·split at h
  ·obtain ⟨m1, h1, h⟩ := Option.bind_eq_some_iff.1 h
   obtain ⟨m2, h2, h⟩ := Option.bind_eq_some_iff.1 h
   simp only [Option.some.injEq, Prod.mk.injEq] at h
   obtain ⟨_, rfl⟩ := h
   exact (Mt.ptrs_step h1).trans (Mt.ptrs_step h2)
  ·cases h
 ·cases h
theorem ye : ∀ {ps : List Pat} {ds : List D} {m m' : Mt} {x : zib ps}, zt ob lend ps ds m = some (x, m') → Mt.Step lend m m'
 | [], [], m, m', x, h => by simp only [zt, Option.some.injEq, Prod.mk.injEq] at h; obtain ⟨_, rfl⟩ := h; exact .refl _ _
 | [], _ :: _, m, m', x, h => by simp [zt] at h
 | p :: ps, ds, m, m', x, h => by
  cases p
  case cells t =>
   cases ds <;> simp only [zt] at h <;>
   ·obtain ⟨y, h1, h2⟩ := Option.bind_eq_some_iff.1 h
    obtain ⟨z, h3, h4⟩ := Option.bind_eq_some_iff.1 h2
    simp only [Option.some.injEq, Prod.mk.injEq] at h4
    obtain ⟨_, rfl⟩ := h4
    exact (Mt.Step.withFr (zn2 h1) (zre h1)).trans (ye h3)
  all_goals cases ds with
   | nil => simp [zt] at h
   | cons d ds => ?_
  case ty t =>
   simp only [zt] at h
   obtain ⟨y, h1, h2⟩ := Option.bind_eq_some_iff.1 h
   obtain ⟨z, h3, h4⟩ := Option.bind_eq_some_iff.1 h2
   simp only [Option.some.injEq, Prod.mk.injEq] at h4
   obtain ⟨_, rfl⟩ := h4
   exact (Mt.Step.withFr (z1s h1) (zyp h1)).trans (ye h3)
  case agg t =>
   cases d <;> simp only [zt] at h <;> try cases h
   obtain ⟨y, h1, h2⟩ := Option.bind_eq_some_iff.1 h
   obtain ⟨z, h3, h4⟩ := Option.bind_eq_some_iff.1 h2
   simp only [Option.some.injEq, Prod.mk.injEq] at h4
   obtain ⟨_, rfl⟩ := h4
   unfold ki at h1
   obtain ⟨u, h5, h6⟩ := Option.bind_eq_some_iff.1 h1
   split at h6
   ·simp only [Option.some.injEq] at h6
    subst h6
    have h7 := show xn ob lend t _ _ = some (u.1, u.2.1, u.2.2) from h5
    exact (Mt.Step.withFr (zn2 h7) (zre h7)).trans (ye h3)
   ·cases h6
  case aggn k =>
   cases d <;> simp only [zt] at h <;> try cases h
   split at h
   ·exact ye h
   ·cases h
  case yldn j k =>
   cases d <;> simp only [zt] at h <;> try cases h
   split at h
   ·obtain ⟨m1, h1, h2⟩ := Option.bind_eq_some_iff.1 h; exact (Mt.assign_step h1).trans (ye h2)
   ·cases h
  case vec j =>
   cases d <;> simp only [zt] at h <;> try cases h
   case vec i => obtain ⟨m1, h1, h2⟩ := Option.bind_eq_some_iff.1 h; exact (Mt.assign_step h1).trans (ye h2)
   case nsl => obtain ⟨m1, h1, h2⟩ := Option.bind_eq_some_iff.1 h; exact (Mt.nil_step h1).trans (ye h2)
  case ptr j o =>
   cases d <;> simp only [zt] at h <;> try cases h
   split at h
   ·obtain ⟨m1, h1, h2⟩ := Option.bind_eq_some_iff.1 h; exact (Mt.assign_step h1).trans (ye h2)
   ·cases h
  case bsl j o =>
   cases d <;> simp only [zt] at h <;> try cases h
   split at h
   ·obtain ⟨m1, h1, h2⟩ := Option.bind_eq_some_iff.1 h; exact (Mt.assign_step h1).trans (ye h2)
   ·cases h
  case gptr j o =>
   cases d <;> simp only [zt] at h <;> try cases h
   split at h
   ·exact ye h
   ·cases h
  case mapp j =>
   cases d <;> simp only [zt] at h <;> try cases h
   obtain ⟨m1, h1, h2⟩ := Option.bind_eq_some_iff.1 h
   exact (Mt.assign_step h1).trans (ye h2)
  case fn f fi ca =>
   cases d <;> simp only [zt] at h <;> try cases h
   split at h
   ·obtain ⟨m1, h1, h2⟩ := Option.bind_eq_some_iff.1 h
    obtain ⟨m2, h3, h4⟩ := Option.bind_eq_some_iff.1 h2
    exact (Mt.ptrs_step h1).trans ((Mt.ptrs_step h3).trans (ye h4))
   ·cases h
  case any => simp only [zt] at h; exact ye h
  case sub j sz =>
   cases d <;> simp only [zt] at h <;> try cases h
   split at h
   ·obtain ⟨m1, h1, h2⟩ := Option.bind_eq_some_iff.1 h
    obtain ⟨z, h3, h4⟩ := Option.bind_eq_some_iff.1 h2
    simp only [Option.some.injEq, Prod.mk.injEq] at h4
    obtain ⟨_, rfl⟩ := h4
    exact (Mt.assign_step h1).trans (ye h3)
   ·cases h
  case fns f =>
   simp only [zt] at h
   obtain ⟨y, h1, h2⟩ := Option.bind_eq_some_iff.1 h
   obtain ⟨z, h3, h4⟩ := Option.bind_eq_some_iff.1 h2
   simp only [Option.some.injEq, Prod.mk.injEq] at h4
   obtain ⟨_, rfl⟩ := h4
   exact ye h3
  case fsel fs fi ca =>
   simp only [zt] at h
   obtain ⟨y, h1, h2⟩ := Option.bind_eq_some_iff.1 h
   obtain ⟨z, h3, h4⟩ := Option.bind_eq_some_iff.1 h2
   simp only [Option.some.injEq, Prod.mk.injEq] at h4
   obtain ⟨_, rfl⟩ := h4
   exact (z3k (k := y.1) h1).trans (ye h3)
  case np j o =>
   cases d <;> simp only [zt] at h <;> try cases h
   case np i o' =>
    split at h
    ·obtain ⟨m1, h1, h2⟩ := Option.bind_eq_some_iff.1 h; exact (Mt.assign_step h1).trans (ye h2)
    ·cases h
   case nilp =>
    split at h
    ·exact ye h
    ·cases h
   case ptr i o =>
    split at h
    ·obtain ⟨m1, h1, h2⟩ := Option.bind_eq_some_iff.1 h; exact (Mt.assign_step h1).trans (ye h2)
    ·cases h
  all_goals
   cases d <;> simp only [zt] at h <;> try cases h
   exact ye h
theorem vh {ps : List Pat} {ds : List D} {m m' : Mt} {x : zib ps} (h : zt ob lend ps ds m = some (x, m')) : m.le m' := (ye h).le
theorem ze9 {β' : Nat → GL} {n' : Nat} : ∀ {ps : List (Nat × Nat)} {ds : List D} {m m' : Mt} {vs : List Value}, m.ptrs ps ds = some m' → Tgt β β' ob S' n' m' → za ob.length β S w ds vs →
  za n' β' S' w (ps.map fun p => .ptr p.1 p.2) vs
 | [], [], m, m', vs, h, ht, hd => hd
 | [], _ :: _, m, m', vs, h, ht, hd => by simp [Mt.ptrs] at h
 | p :: ps, [], m, m', vs, h, ht, hd => by simp [Mt.ptrs] at h
 | p :: ps, d :: ds, m, m', vs, h, ht, hd => by
  cases d <;> simp only [Mt.ptrs] at h <;> try cases h
  rename_i i o
  split at h
  ·rename_i ho
   obtain ⟨m1, h1, h2⟩ := Option.bind_eq_some_iff.1 h
   obtain ⟨u, us, rfl, h3, h4⟩ := hd
   have h5 := Mt.assign_le h1
   obtain ⟨h6, h7⟩ := (ht.mono (Mt.ptrs_le h2).1).rho _ _ h5.2.1
   refine ⟨u, us, rfl, ⟨h6, ?_⟩, ze9 h2 ht h4⟩
   rw [← ho]
   exact h7.or h3.2
  ·cases h
theorem zw {β' : Nat → GL} {n' : Nat} (hob : ∀ (i : Nat) (o : Ob), ob[i]? = some o → RelO ob.length β S w (β i) o) (hS : ∀ b, S b → S' b) : ∀ {ps : List Pat} {ds : List D} {m m' : Mt} {x : zib ps} {vs : List Value},
  zt ob lend ps ds m = some (x, m') → Tgt β β' ob S' n' m' → za ob.length β S w ds vs → za n' β' S' w (injP id ps x) vs
 | [], [], m, m', x, vs, h, ht, hd => hd
 | [], _ :: _, m, m', x, vs, h, ht, hd => by simp [zt] at h
 | p :: ps, ds, m, m', x, vs, h, ht, hd => by
  cases p
  case cells t =>
   have h' : ((xn ob lend t ds m.fr).bind fun x => (zt ob lend ps x.2.1 { m with fr := x.2.2 }).bind fun y => some ((x.1, y.1), y.2)) = some (x, m') := by
    cases ds <;> simpa only [zt] using h
   obtain ⟨y, h1, h2⟩ := Option.bind_eq_some_iff.1 h'
   obtain ⟨z, h3, h4⟩ := Option.bind_eq_some_iff.1 h2
   simp only [Option.some.injEq, Prod.mk.injEq] at h4
   obtain ⟨rfl, rfl⟩ := h4
   have hle := vh (show zt ob lend ps _ _ = some (z.1, z.2) from h3)
   obtain ⟨us, ws, rfl, h5, h6, h7, _⟩ := zn3 hob hS (show xn ob lend t ds m.fr = some (y.1, y.2.1, y.2.2) from h1) (fun i hi => ht.fr i (hle.2.2 i hi)) hd
   exact za.append (za.cells h5 h6) (zw hob hS (show zt ob lend ps _ _ = some (z.1, z.2) from h3) ht h7)
  all_goals cases ds with
   | nil => simp [zt] at h
   | cons d ds => ?_
  all_goals obtain ⟨u, us, rfl, h3, h4⟩ := hd
  case ty t =>
   simp only [zt] at h
   obtain ⟨y, h1, h2⟩ := Option.bind_eq_some_iff.1 h
   obtain ⟨z, h5, h6⟩ := Option.bind_eq_some_iff.1 h2
   simp only [Option.some.injEq, Prod.mk.injEq] at h6
   obtain ⟨rfl, rfl⟩ := h6
   have hle := vh (show zt ob lend ps _ _ = some (z.1, z.2) from h5)
   obtain ⟨h7, h8, _⟩ := zvj hob hS (show gw ob lend t d m.fr = some (y.1, y.2) from h1) (fun i hi => ht.fr i (hle.2.2 i hi)) h3
   refine za.append (vs := [u]) (za.cells h8.symm (ImmC.congr (fun j hj => ?_) h7)) (zw hob hS (show zt ob lend ps _ _ = some (z.1, z.2) from h5) ht h4)
   obtain rfl : j = 0 := by omega
   rfl
  case agg t =>
   cases d <;> simp only [zt] at h <;> try cases h
   rename_i cs
   obtain ⟨y, h1, h2⟩ := Option.bind_eq_some_iff.1 h
   obtain ⟨z, h5, h6⟩ := Option.bind_eq_some_iff.1 h2
   simp only [Option.some.injEq, Prod.mk.injEq] at h6
   obtain ⟨rfl, rfl⟩ := h6
   have hle := vh (show zt ob lend ps _ _ = some (z.1, z.2) from h5)
   obtain ⟨vs', rfl, h9⟩ := h3
   obtain ⟨h7, h8, _⟩ := zfv hob hS (show ki ob lend t cs m.fr = some (y.1, y.2) from h1) (fun i hi => ht.fr i (hle.2.2 i hi)) h9
   exact ⟨_, us, rfl, ⟨vs', rfl, za.cells h7 h8⟩, zw hob hS (show zt ob lend ps _ _ = some (z.1, z.2) from h5) ht h4⟩
  case aggn k =>
   cases d <;> simp only [zt] at h <;> try cases h
   rename_i cs
   split at h
   ·rename_i hk
    obtain ⟨vs', rfl, h9⟩ := h3
    have h10 := zw hob hS h ht (za.append h9 h4)
    have hl := za.length h9
    refine ⟨_, us, rfl, ⟨vs', rfl, ?_⟩, ?_⟩
    ·have := h10.take k
     rwa [List.take_left' (by omega)] at this
    ·have := h10.drop k
     rwa [List.drop_left' (by omega)] at this
   ·cases h
  case yldn j k =>
   cases d <;> simp only [zt] at h <;> try cases h
   rename_i i cs
   split at h
   ·rename_i hk
    obtain ⟨m1, h1, h2⟩ := Option.bind_eq_some_iff.1 h
    obtain ⟨h5, l, rec, h11, rfl, h9⟩ := h3
    obtain ⟨h6, h7⟩ := (ht.mono (vh h2)).rho _ _ (Mt.assign_le h1).2.1
    have h10 := zw hob hS h2 ht (za.append h9 h4)
    have hl := za.length h9
    refine ⟨_, us, rfl, ⟨h6, l, rec, h7.lpr _ _ h11, rfl, ?_⟩, ?_⟩
    ·have := h10.take k
     rwa [List.take_left' (by omega)] at this
    ·have := h10.drop k
     rwa [List.drop_left' (by omega)] at this
   ·cases h
  case vec j =>
   cases d <;> simp only [zt] at h <;> try cases h
   case vec i =>
    obtain ⟨m1, h1, h2⟩ := Option.bind_eq_some_iff.1 h
    obtain ⟨h6, h7⟩ := (ht.mono (vh h2)).rho _ _ (Mt.assign_le h1).2.1
    exact ⟨u, us, rfl, ⟨h6, h7.hdr.trans h3.2.1, h3.2.2⟩, zw hob hS h2 ht h4⟩
   case nsl =>
    obtain ⟨m1, h1, h2⟩ := Option.bind_eq_some_iff.1 h
    obtain ⟨h6, h7⟩ := (ht.mono (vh h2)).nils _ (Mt.nil_le h1).2.1
    obtain rfl : u = .slice none 0 0 := h3
    exact ⟨_, us, rfl, ⟨h6, h7, _, _, _, rfl⟩, zw hob hS h2 ht h4⟩
  case ptr j o =>
   cases d <;> simp only [zt] at h <;> try cases h
   rename_i i o'
   split at h
   ·rename_i ho
    obtain ⟨m1, h1, h2⟩ := Option.bind_eq_some_iff.1 h
    obtain ⟨h6, h7⟩ := (ht.mono (vh h2)).rho _ _ (Mt.assign_le h1).2.1
    refine ⟨u, us, rfl, ⟨h6, ?_⟩, zw hob hS h2 ht h4⟩
    simp only [id_eq]
    rw [← ho]
    exact h7.or h3.2
   ·cases h
  case bsl j o =>
   cases d <;> simp only [zt] at h <;> try cases h
   rename_i i o'
   split at h
   ·rename_i ho
    obtain ⟨m1, h1, h2⟩ := Option.bind_eq_some_iff.1 h
    obtain ⟨h6, h7⟩ := (ht.mono (vh h2)).rho _ _ (Mt.assign_le h1).2.1
    refine ⟨u, us, rfl, ⟨h6, ?_⟩, zw hob hS h2 ht h4⟩
    simp only [id_eq]
    rw [← ho]
    obtain ⟨b, e, hv⟩ := h3.2
    exact ⟨b, h7.blk _ e, hv⟩
   ·cases h
  case mapp j =>
   cases d <;> simp only [zt] at h <;> try cases h
   rename_i i
   obtain ⟨m1, h1, h2⟩ := Option.bind_eq_some_iff.1 h
   obtain ⟨h6, h7⟩ := (ht.mono (vh h2)).rho _ _ (Mt.assign_le h1).2.1
   refine ⟨u, us, rfl, ⟨h6, ?_⟩, zw hob hS h2 ht h4⟩
   simp only [id_eq]
   obtain ⟨b, e, hv⟩ := h3.2
   exact ⟨b, h7.blk _ e, hv⟩
  case gptr j o =>
   cases d <;> simp only [zt] at h <;> try cases h
   split at h
   ·rename_i ho
    refine ⟨u, us, rfl, ?_, zw hob hS h ht h4⟩
    rw [← ho.1, ← ho.2]
    exact h3
   ·cases h
  case fn f fi ca =>
   cases d <;> simp only [zt] at h <;> try cases h
   split at h
   ·rename_i ho
    obtain ⟨m1, h1, h2⟩ := Option.bind_eq_some_iff.1 h
    obtain ⟨m2, h5, h6⟩ := Option.bind_eq_some_iff.1 h2
    obtain ⟨vs1, us1, rfl, h7, h8⟩ := h3
    have ht2 := ht.mono (vh h6)
    refine ⟨_, us, rfl, ⟨vs1, us1, by rw [ho], ?_, ?_⟩, zw hob hS h6 ht h4⟩
    ·exact ze9 h1 (ht2.mono (Mt.ptrs_le h5).1) h7
    ·exact ze9 h5 ht2 h8
   ·cases h
  case any => simp only [zt] at h; exact ⟨u, us, rfl, trivial, zw hob hS h ht h4⟩
  case sub j sz =>
   cases d <;> simp only [zt] at h <;> try cases h
   split at h
   ·rename_i hsz
    subst hsz
    obtain ⟨m1, h1, h2⟩ := Option.bind_eq_some_iff.1 h
    obtain ⟨z, h5, h6⟩ := Option.bind_eq_some_iff.1 h2
    simp only [Option.some.injEq, Prod.mk.injEq] at h6
    obtain ⟨rfl, rfl⟩ := h6
    have h5' := show zt ob lend ps ds m1 = some (z.1, z.2) from h5
    obtain ⟨h6, h7⟩ := (ht.mono (vh h5')).rho _ _ (Mt.assign_le h1).2.1
    obtain ⟨_, g1, A, len, cap, c, A', g2, g3⟩ := h3
    exact ⟨u, us, rfl, ⟨h6, g1, A, len, cap, c, A', h7.hdr.trans g2, g3⟩, zw hob hS h5' ht h4⟩
   ·cases h
  case fns f =>
   simp only [zt] at h
   obtain ⟨y, h1, h2⟩ := Option.bind_eq_some_iff.1 h
   obtain ⟨z, h5, h6⟩ := Option.bind_eq_some_iff.1 h2
   simp only [Option.some.injEq, Prod.mk.injEq] at h6
   obtain ⟨rfl, rfl⟩ := h6
   obtain rfl := z2j h1
   exact ⟨_, us, rfl, h3, zw hob hS h5 ht h4⟩
  case fsel fs fi ca =>
   simp only [zt] at h
   obtain ⟨⟨k, mk⟩, h1, h2⟩ := Option.bind_eq_some_iff.1 h
   obtain ⟨z, h5, h6⟩ := Option.bind_eq_some_iff.1 h2
   simp only [Option.some.injEq, Prod.mk.injEq] at h6
   obtain ⟨rfl, rfl⟩ := h6
   refine ⟨_, us, rfl, ?_, zw hob hS h5 ht h4⟩
   have ht2 := ht.mono (vh h5)
   unfold selM at h1
   split at h1
   ·obtain ⟨j, hj, h1⟩ := Option.bind_eq_some_iff.1 h1
    obtain ⟨m1, g1, h1⟩ := Option.bind_eq_some_iff.1 h1
    obtain ⟨m2, g2, h1⟩ := Option.bind_eq_some_iff.1 h1
    simp only [Option.some.injEq, Prod.mk.injEq] at h1
    obtain ⟨rfl, rfl⟩ := h1
    obtain ⟨vs1, us1, rfl, h7, h8⟩ := h3
    have hg := zxs hj
    refine ⟨fun f hf => ?_, fun hn => by rw [hg] at hn; cases hn⟩
    rw [hg] at hf
    cases hf
    exact ⟨vs1, us1, rfl, ze9 g1 (ht2.mono (Mt.ptrs_le g2).1) h7, ze9 g2 ht2 h8⟩
   ·simp only [Option.some.injEq, Prod.mk.injEq] at h1
    obtain ⟨rfl, rfl⟩ := h1
    exact ⟨fun f hf => by simp at hf, fun _ => h3⟩
   ·split at h1
    ·rename_i e
     obtain ⟨m1, g1, h1⟩ := Option.bind_eq_some_iff.1 h1
     obtain ⟨m2, g2, h1⟩ := Option.bind_eq_some_iff.1 h1
     simp only [Option.some.injEq, Prod.mk.injEq] at h1
     obtain ⟨rfl, rfl⟩ := h1
     subst e
     refine ⟨fun f hf => ?_, h3.2⟩
     obtain ⟨vs1, us1, e1, h7, h8⟩ := h3.1 f hf
     exact ⟨vs1, us1, e1, ze9 g1 (ht2.mono (Mt.ptrs_le g2).1) h7, ze9 g2 ht2 h8⟩
    ·cases h1
   ·cases h1
  case np j o =>
   cases d <;> simp only [zt] at h <;> try cases h
   case np i o' =>
    split at h
    ·rename_i ho
     subst ho
     obtain ⟨m1, h1, h2⟩ := Option.bind_eq_some_iff.1 h
     obtain ⟨h6, h7⟩ := (ht.mono (vh h2)).rho _ _ (Mt.assign_le h1).2.1
     exact ⟨u, us, rfl, ⟨h6, h3.2.elim .inl fun h => .inr (h7.or h)⟩, zw hob hS h2 ht h4⟩
    ·cases h
   case nilp =>
    split at h
    ·rename_i i hi
     obtain ⟨h6, h7⟩ := (ht.mono (vh h)).rho _ _ hi
     exact ⟨u, us, rfl, ⟨h6, .inl h3⟩, zw hob hS h ht h4⟩
    ·cases h
   case ptr i o =>
    split at h
    ·rename_i ho
     subst ho
     obtain ⟨m1, h1, h2⟩ := Option.bind_eq_some_iff.1 h
     obtain ⟨h6, h7⟩ := (ht.mono (vh h2)).rho _ _ (Mt.assign_le h1).2.1
     obtain ⟨h8, ⟨b, h9, h10⟩ | ⟨b, v, h9, h10⟩⟩ := h3
     ·exact ⟨u, us, rfl, ⟨h6, .inr (.inl ⟨b, h7.blk _ h9, h10⟩)⟩, zw hob hS h2 ht h4⟩
     ·exact ⟨u, us, rfl, ⟨h6, .inr (.inr ⟨b, v, h7.two _ _ h9, h10⟩)⟩, zw hob hS h2 ht h4⟩
    ·cases h
  all_goals
   cases d <;> simp only [zt] at h <;> try cases h
   exact ⟨u, us, rfl, h3, zw hob hS h ht h4⟩
theorem zvk {α : Type} {b : Bool} {x : Option α} {r : α} (h : _root_.cond b x none = some r) : b = true ∧ x = some r := by
 cases b
 ·cases h
 ·exact ⟨rfl, h⟩
theorem zn : ∀ {ps : List OPat} {j : Nat} {m m' : Mt} {x : zaa ps}, jj ob lend j ps m = some (x, m') → Mt.Step lend m m'
 | [], j, m, m', x, h => by simp only [jj, Option.some.injEq, Prod.mk.injEq] at h; obtain ⟨_, rfl⟩ := h; exact .refl _ _
 | p :: ps, j, m, m', x, h => by
  cases p <;> simp only [jj] at h
  case gone => exact zn h
  case box t cs =>
   split at h
   ·split at h
    ·split at h
     ·obtain ⟨y, h1, h2⟩ := Option.bind_eq_some_iff.1 h
      obtain ⟨z, h3, h4⟩ := Option.bind_eq_some_iff.1 h2
      simp only [Option.some.injEq, Prod.mk.injEq] at h4
      obtain ⟨_, rfl⟩ := h4
      exact (ye (show zt ob lend cs _ m = some (y.1, y.2) from h1)).trans (zn h3)
     ·cases h
    ·cases h
   ·cases h
  case vec mk e t =>
   split at h
   ·split at h
    ·split at h
     ·split at h
      ·obtain ⟨z, h3, h4⟩ := Option.bind_eq_some_iff.1 h
       simp only [Option.some.injEq, Prod.mk.injEq] at h4
       obtain ⟨_, rfl⟩ := h4
       exact zn h3
      ·cases h
     ·cases h
    ·cases h
   ·split at h
    ·obtain ⟨z, h3, h4⟩ := Option.bind_eq_some_iff.1 h
     simp only [Option.some.injEq, Prod.mk.injEq] at h4
     obtain ⟨_, rfl⟩ := h4
     exact zn h3
    ·cases h
  case dv e t =>
   split at h
   ·split at h
    ·split at h
     ·split at h
      ·obtain ⟨z, h3, h4⟩ := Option.bind_eq_some_iff.1 h
       simp only [Option.some.injEq, Prod.mk.injEq] at h4
       obtain ⟨_, rfl⟩ := h4
       exact zn h3
      ·cases h
     ·cases h
    ·split at h
     ·split at h
      ·obtain ⟨z, h3, h4⟩ := Option.bind_eq_some_iff.1 h
       simp only [Option.some.injEq, Prod.mk.injEq] at h4
       obtain ⟨_, rfl⟩ := h4
       exact zn h3
      ·cases h
     ·cases h
    ·cases h
   ·split at h
    ·obtain ⟨z, h3, h4⟩ := Option.bind_eq_some_iff.1 h
     simp only [Option.some.injEq, Prod.mk.injEq] at h4
     obtain ⟨_, rfl⟩ := h4
     exact zn h3
    ·cases h
  case dvo e t =>
   split at h
   ·split at h
    ·split at h
     ·split at h
      ·obtain ⟨z, h3, h4⟩ := Option.bind_eq_some_iff.1 h
       simp only [Option.some.injEq, Prod.mk.injEq] at h4
       obtain ⟨_, rfl⟩ := h4
       exact zn h3
      ·cases h
     ·cases h
    ·split at h
     ·split at h
      ·obtain ⟨_, h⟩ := zvk h
       obtain ⟨z, h3, h4⟩ := Option.bind_eq_some_iff.1 h
       simp only [Option.some.injEq, Prod.mk.injEq] at h4
       obtain ⟨_, rfl⟩ := h4
       exact zn h3
      ·cases h
     ·cases h
    ·cases h
   ·split at h
    ·obtain ⟨z, h3, h4⟩ := Option.bind_eq_some_iff.1 h
     simp only [Option.some.injEq, Prod.mk.injEq] at h4
     obtain ⟨_, rfl⟩ := h4
     exact zn h3
    ·cases h
  case bld T e =>
   split at h
   ·split at h
    ·split at h
     ·cases h
     ·obtain ⟨z, h3, h4⟩ := Option.bind_eq_some_iff.1 h
      simp only [Option.some.injEq, Prod.mk.injEq] at h4
      obtain ⟨_, rfl⟩ := h4
      exact zn h3
    ·cases h
   ·cases h
  case mp kt t =>
   split at h
   ·split at h
    ·split at h
     ·obtain ⟨z, h3, h4⟩ := Option.bind_eq_some_iff.1 h
      simp only [Option.some.injEq, Prod.mk.injEq] at h4
      obtain ⟨_, rfl⟩ := h4
      exact zn h3
     ·cases h
    ·cases h
   ·cases h
  case lp =>
   split at h
   ·split at h
    ·exact zn h
    ·cases h
   ·cases h
  case sit =>
   split at h
   ·split at h
    ·obtain ⟨z, h3, h4⟩ := Option.bind_eq_some_iff.1 h
     simp only [Option.some.injEq, Prod.mk.injEq] at h4
     obtain ⟨_, rfl⟩ := h4
     exact zn h3
    ·cases h
   ·cases h
theorem zvl {i : Nat} {o : Ob} (h : ob.getD i .gone = o) (ho : o.live = true) : ob[i]? = some o := getD_some h (by rintro rfl; cases ho)
def rb : OPat → GL → GL
 | .dv _ _, .row v => .deep 0 v []
 | .dv _ _, .deep _ v hs => .deep 0 v hs
 | .dvo _ _, .row v => .deep 0 v []
 | .dvo _ _, .deep _ v hs => .deep 0 v hs
 | _, b => b
theorem z1t (p : OPat) (b : GL) : b.kin (rb p b) := by
 cases p <;> cases b <;> first | exact GL.kin.refl _ | exact .inr ⟨0, [], rfl⟩ | exact ⟨0, _, rfl⟩
theorem z62 (p : OPat) (b : GL) : (rb p b).blocks = b.blocks := by
 cases p <;> cases b <;> simp [rb, GL.blocks]
theorem zn4 {β' : Nat → GL} {n' : Nat} (hob : ∀ (i : Nat) (o : Ob), ob[i]? = some o → RelO ob.length β S w (β i) o) (hS : ∀ b, S b → S' b) : ∀ {ps : List OPat} {j : Nat} {m m' : Mt} {x : zaa ps},
  jj ob lend j ps m = some (x, m') → Tgt β β' ob S' n' m' → (∀ k p i, ps[k]? = some p → m'.rho.lookup (j + k) = some i → β' (j + k) = rb p (β i)) → (∀ k p, ps[k]? = some p → j + k ∈ m'.nils → β' (j + k) = rb p (.row (.slice none 0 0))) → ∀ (k : Nat) (o' : Ob), (injO id ps x)[k]? = some o' →
   RelO n' β' S' w (β' (j + k)) o' ∧ (o'.live = true → (∃ i o, m'.rho.lookup (j + k) = some i ∧ ob[i]? = some o ∧ o.live = true ∧ (β' (j + k)).blocks = (β i).blocks) ∨ (j + k ∈ m'.nils ∧ (β' (j + k)).blocks = []))
 | [], j, m, m', x, h, ht, hrb, hnl, k, o', ho' => by simp [injO] at ho'
 | p :: ps, j, m, m', x, h, ht, hrb, hnl, k, o', ho' => by
  have hrb0 : ∀ i, m'.rho.lookup j = some i → β' j = rb p (β i) := fun i hi => hrb 0 p i (by simp) (by simpa using hi)
  have hnl0 : j ∈ m'.nils → β' j = rb p (.row (.slice none 0 0)) := fun hi => hnl 0 p (by simp) (by simpa using hi)
  have tail : ∀ {m1 : Mt} {y : zaa ps}, jj ob lend (j + 1) ps m1 = some (y, m') → ∀ k o', (injO id ps y)[k]? = some o' →
    RelO n' β' S' w (β' (j + (k + 1))) o' ∧ (o'.live = true → (∃ i o, m'.rho.lookup (j + (k + 1)) = some i ∧ ob[i]? = some o ∧ o.live = true ∧ (β' (j + (k + 1))).blocks = (β i).blocks) ∨ (j + (k + 1) ∈ m'.nils ∧ (β' (j + (k + 1))).blocks = [])) := by
   intro m1 y hy k o' ho'
   have := zn4 hob hS hy ht (fun k q i hq hl => by
    have := hrb (k + 1) q i (by simpa using hq) (by rwa [show j + (k + 1) = j + 1 + k by omega])
    rwa [show j + 1 + k = j + (k + 1) by omega]) (fun k q hq hl => by
    have := hnl (k + 1) q (by simpa using hq) (by rwa [show j + (k + 1) = j + 1 + k by omega])
    rwa [show j + 1 + k = j + (k + 1) by omega]) k o' ho'
   rwa [show j + 1 + k = j + (k + 1) by omega] at this
  cases p <;> simp only [jj] at h
  case gone =>
   cases k with
   | zero => simp only [injO, List.getElem?_cons_zero, Option.some.injEq] at ho'; subst ho'; exact ⟨by cases β' (j + 0) <;> trivial, fun hx => by cases hx⟩
   | succ k => exact tail h k o' (by simpa [injO] using ho')
  case box t cs =>
   split at h
   ·rename_i i hi
    split at h
    ·rename_i t' ds hd
     split at h
     ·rename_i ht'
      subst ht'
      obtain ⟨y, h1, h2⟩ := Option.bind_eq_some_iff.1 h
      obtain ⟨z, h3, h4⟩ := Option.bind_eq_some_iff.1 h2
      simp only [Option.some.injEq, Prod.mk.injEq] at h4
      obtain ⟨rfl, rfl⟩ := h4
      have h3' := show jj ob lend (j + 1) ps y.2 = some (z.1, z.2) from h3
      cases k with
      | succ k => exact tail h3' k o' (by simpa [injO] using ho')
      | zero =>
       simp only [injO, List.getElem?_cons_zero, Option.some.injEq] at ho'
       subst ho'
       have h1' := show zt ob lend cs ds m = some (y.1, y.2) from h1
       have hle := (ye h1').le.trans (zn h3').le
       have hlk := hle.1 j i hi
       have hβ : β' j = β i := hrb0 i hlk
       have hl := zvl hd rfl
       refine ⟨?_, fun _ => .inl ⟨i, _, hlk, hl, rfl, by rw [Nat.add_zero, hβ]⟩⟩
       have ho := hob i _ hl
       rw [Nat.add_zero, hβ]
       cases hb : β i with
       | lpr l rec => rw [hb] at ho; exact ho.elim
       | deep g v hs => rw [hb] at ho; exact ho.elim
       | row v => rw [hb] at ho; exact ho.elim
       | two b v => rw [hb] at ho; exact ho.elim
       | blk b =>
        rw [hb] at ho
        obtain ⟨vs, h5, h6⟩ := ho
        exact ⟨vs, h5, zw hob hS h1' (ht.mono (zn h3').le) h6⟩
     ·cases h
    ·cases h
   ·cases h
  case vec mk e t =>
   split at h
   ·rename_i i hi
    split at h
    ·rename_i mk' e' t' l hd
     split at h
     ·rename_i ht'
      subst ht'
      split at h
      ·rename_i he
       obtain ⟨rfl, rfl⟩ := he
       obtain ⟨z, h3, h4⟩ := Option.bind_eq_some_iff.1 h
       simp only [Option.some.injEq, Prod.mk.injEq] at h4
       obtain ⟨rfl, rfl⟩ := h4
       have h3' := show jj ob lend (j + 1) ps m = some (z.1, z.2) from h3
       cases k with
       | succ k => exact tail h3' k o' (by simpa [injO] using ho')
       | zero =>
        simp only [injO, List.getElem?_cons_zero, Option.some.injEq] at ho'
        subst ho'
        have hlk := (zn h3').le.1 j i hi
        have hβ : β' j = β i := hrb0 i hlk
        obtain ⟨hl, v, hv, hr, hbl⟩ := ze1 hob hd
        refine ⟨?_, fun _ => .inl ⟨i, _, hlk, hl, rfl, by rw [Nat.add_zero, hβ]⟩⟩
        rw [Nat.add_zero, hβ, hv]
        obtain ⟨xs, h5, h6, h7⟩ := hr
        exact ⟨xs, h5, h6, fun k x hk => ImmC.imp hS (fun _ _ => rfl) (h7 k x hk)⟩
      ·cases h
     ·cases h
    ·cases h
   ·split at h
    ·rename_i hn
     obtain ⟨z, h3, h4⟩ := Option.bind_eq_some_iff.1 h
     simp only [Option.some.injEq, Prod.mk.injEq] at h4
     obtain ⟨rfl, rfl⟩ := h4
     have h3' := show jj ob lend (j + 1) ps m = some (z.1, z.2) from h3
     cases k with
     | succ k => exact tail h3' k o' (by simpa [injO] using ho')
     | zero =>
      simp only [injO, List.getElem?_cons_zero, Option.some.injEq] at ho'
      subst ho'
      have hnm : j ∈ m.nils := by simpa using hn.1
      have hnm' := (zn h3').le.2.1 j hnm
      have hβ : β' j = .row (.slice none 0 0) := hnl0 hnm'
      refine ⟨?_, fun _ => .inr ⟨hnm', by rw [Nat.add_zero, hβ]; rfl⟩⟩
      rw [Nat.add_zero, hβ]
      exact ⟨[], ⟨by simp, .inl ⟨rfl, rfl⟩⟩, by simp, fun k x hk => by simp at hk⟩
    ·cases h
  case dv e t =>
   have fromDv : ∀ {i : Nat} {l : List t.T} {own : Option Nat} {g : Nat}, m'.rho.lookup j = some i → ob.getD i .gone = .dv e t l own g none → RelO n' β' S' w (β' (j + 0)) (.dv e t l (some (own.getD (t.nsl * l.length))) 0 none) ∧ ((Ob.dv e t l (some (own.getD (t.nsl * l.length))) 0 none).live = true → (∃ i o, m'.rho.lookup (j + 0) = some i ∧ ob[i]? = some o ∧ o.live = true ∧ (β' (j + 0)).blocks = (β i).blocks) ∨ (j + 0 ∈ m'.nils ∧ (β' (j + 0)).blocks = [])) := by
    intro i l own g hlk hd
    have hβ := hrb0 i hlk
    obtain ⟨hl, v, hs, h2, h3, h4, h5⟩ := obDv hob hd
    rw [h2] at hβ
    have hβ : β' j = .deep 0 v hs := hβ
    refine ⟨?_, fun _ => .inl ⟨i, _, hlk, hl, rfl, by rw [Nat.add_zero, hβ, h2]; rfl⟩⟩
    rw [Nat.add_zero, hβ]
    refine ⟨rfl, h3, ?_⟩
    have h4' := ql.imp hS (fun _ _ => rfl) (g := g) (fun _ _ => rfl) h4
    cases own with
    | none => exact ql.all.2 h4'
    | some k => exact h4'
   split at h
   ·rename_i i hi
    split at h
    ·rename_i e' t' l own g hd
     split at h
     ·rename_i ht'
      subst ht'
      split at h
      ·rename_i he
       subst he
       obtain ⟨z, h3, h4⟩ := Option.bind_eq_some_iff.1 h
       simp only [Option.some.injEq, Prod.mk.injEq] at h4
       obtain ⟨rfl, rfl⟩ := h4
       have h3' := show jj ob lend (j + 1) ps m = some (z.1, z.2) from h3
       cases k with
       | succ k => exact tail h3' k o' (by simpa [injO] using ho')
       | zero =>
        simp only [injO, List.getElem?_cons_zero, Option.some.injEq] at ho'
        subst ho'
        exact fromDv ((zn h3').le.1 j i hi) hd
      ·cases h
     ·cases h
    ·rename_i e' t' l hd
     split at h
     ·rename_i ht'
      subst ht'
      split at h
      ·rename_i he
       subst he
       obtain ⟨z, h3, h4⟩ := Option.bind_eq_some_iff.1 h
       simp only [Option.some.injEq, Prod.mk.injEq] at h4
       obtain ⟨rfl, rfl⟩ := h4
       have h3' := show jj ob lend (j + 1) ps m = some (z.1, z.2) from h3
       cases k with
       | succ k => exact tail h3' k o' (by simpa [injO] using ho')
       | zero =>
        simp only [injO, List.getElem?_cons_zero, Option.some.injEq] at ho'
        subst ho'
        have hlk := (zn h3').le.1 j i hi
        have hβ := hrb0 i hlk
        obtain ⟨hl, v, hv, hr, hbl⟩ := ze1 hob hd
        rw [hv] at hβ
        have hβ : β' j = .deep 0 v [] := hβ
        refine ⟨?_, fun _ => .inl ⟨i, _, hlk, hl, rfl, by rw [Nat.add_zero, hβ, hv]; simp [GL.blocks]⟩⟩
        rw [Nat.add_zero, hβ]
        obtain ⟨xs, h5, h6, h7⟩ := hr
        exact ⟨rfl, by simpa [GL.blocks] using zj7 v, zlj.deep ⟨xs, h5, h6, fun k x hk => ImmC.imp hS (fun _ _ => rfl) (h7 k x hk)⟩⟩
      ·cases h
     ·cases h
    ·cases h
   ·split at h
    ·rename_i hn
     obtain ⟨z, h3, h4⟩ := Option.bind_eq_some_iff.1 h
     simp only [Option.some.injEq, Prod.mk.injEq] at h4
     obtain ⟨rfl, rfl⟩ := h4
     have h3' := show jj ob lend (j + 1) ps m = some (z.1, z.2) from h3
     cases k with
     | succ k => exact tail h3' k o' (by simpa [injO] using ho')
     | zero =>
      simp only [injO, List.getElem?_cons_zero, Option.some.injEq] at ho'
      subst ho'
      have hnm' := (zn h3').le.2.1 j (by simpa using hn)
      have hβ : β' j = .deep 0 (.slice none 0 0) [] := hnl0 hnm'
      refine ⟨?_, fun _ => .inr ⟨hnm', by rw [Nat.add_zero, hβ]; rfl⟩⟩
      rw [Nat.add_zero, hβ]
      exact ⟨rfl, List.nodup_nil, [], ⟨by simp, .inl ⟨rfl, rfl⟩⟩, by simp, fun k x hk => by simp at hk⟩
    ·cases h
  case dvo e t =>
   have fromDv : ∀ {i : Nat} {l : List t.T} {own : Option Nat} {g : Nat}, m'.rho.lookup j = some i → ob.getD i .gone = .dv e t l own g none → (own = none ∨ own = some (t.nsl * l.length)) → RelO n' β' S' w (β' (j + 0)) (.dv e t l none 0 none) ∧ ((Ob.dv e t l none 0 none).live = true → (∃ i o, m'.rho.lookup (j + 0) = some i ∧ ob[i]? = some o ∧ o.live = true ∧ (β' (j + 0)).blocks = (β i).blocks) ∨ (j + 0 ∈ m'.nils ∧ (β' (j + 0)).blocks = [])) := by
    intro i l own g hlk hd hown
    have hβ := hrb0 i hlk
    obtain ⟨hl, v, hs, h2, h3, h4, h5⟩ := obDv hob hd
    rw [h2] at hβ
    have hβ : β' j = .deep 0 v hs := hβ
    refine ⟨?_, fun _ => .inl ⟨i, _, hlk, hl, rfl, by rw [Nat.add_zero, hβ, h2]; rfl⟩⟩
    rw [Nat.add_zero, hβ]
    refine ⟨rfl, h3, ?_⟩
    have h4' := ql.imp hS (fun _ _ => rfl) (g := g) (fun _ _ => rfl) h4
    rcases hown with rfl | rfl
    ·exact h4'
    ·exact ql.all.1 h4'
   split at h
   ·rename_i i hi
    split at h
    ·rename_i e' t' l g hd
     split at h
     ·rename_i ht'
      subst ht'
      split at h
      ·rename_i he
       subst he
       obtain ⟨z, h3, h4⟩ := Option.bind_eq_some_iff.1 h
       simp only [Option.some.injEq, Prod.mk.injEq] at h4
       obtain ⟨rfl, rfl⟩ := h4
       have h3' := show jj ob lend (j + 1) ps m = some (z.1, z.2) from h3
       cases k with
       | succ k => exact tail h3' k o' (by simpa [injO] using ho')
       | zero =>
        simp only [injO, List.getElem?_cons_zero, Option.some.injEq] at ho'
        subst ho'
        exact fromDv ((zn h3').le.1 j i hi) hd (.inl rfl)
      ·cases h
     ·cases h
    ·rename_i e' t' l k0 g hd
     split at h
     ·rename_i ht'
      subst ht'
      split at h
      ·rename_i he
       subst he
       obtain ⟨hk0, h⟩ := zvk h
       obtain ⟨z, h3, h4⟩ := Option.bind_eq_some_iff.1 h
       simp only [Option.some.injEq, Prod.mk.injEq] at h4
       obtain ⟨rfl, rfl⟩ := h4
       have h3' := show jj ob lend (j + 1) ps m = some (z.1, z.2) from h3
       cases k with
       | succ k => exact tail h3' k o' (by simpa [injO] using ho')
       | zero =>
        simp only [injO, List.getElem?_cons_zero, Option.some.injEq] at ho'
        subst ho'
        exact fromDv ((zn h3').le.1 j i hi) hd (.inr (congrArg some (beq_iff_eq.1 hk0)))
      ·cases h
     ·cases h
    ·cases h
   ·split at h
    ·rename_i hn
     obtain ⟨z, h3, h4⟩ := Option.bind_eq_some_iff.1 h
     simp only [Option.some.injEq, Prod.mk.injEq] at h4
     obtain ⟨rfl, rfl⟩ := h4
     have h3' := show jj ob lend (j + 1) ps m = some (z.1, z.2) from h3
     cases k with
     | succ k => exact tail h3' k o' (by simpa [injO] using ho')
     | zero =>
      simp only [injO, List.getElem?_cons_zero, Option.some.injEq] at ho'
      subst ho'
      have hnm' := (zn h3').le.2.1 j (by simpa using hn)
      have hβ : β' j = .deep 0 (.slice none 0 0) [] := hnl0 hnm'
      refine ⟨?_, fun _ => .inr ⟨hnm', by rw [Nat.add_zero, hβ]; rfl⟩⟩
      rw [Nat.add_zero, hβ]
      exact ⟨rfl, List.nodup_nil, [], ⟨by simp, .inl ⟨rfl, rfl⟩⟩, by simp, fun k x hk => by simp at hk⟩
    ·cases h
  case bld T e =>
   split at h
   ·rename_i i hi
    split at h
    ·rename_i T' e' s hd
     split at h
     ·cases h
     ·rename_i he
      obtain ⟨rfl, rfl⟩ : T' = T ∧ e' = e := ⟨Decidable.byContradiction fun x => he (.inl x), Decidable.byContradiction fun x => he (.inr x)⟩
      obtain ⟨z, h3, h4⟩ := Option.bind_eq_some_iff.1 h
      simp only [Option.some.injEq, Prod.mk.injEq] at h4
      obtain ⟨rfl, rfl⟩ := h4
      have h3' := show jj ob lend (j + 1) ps m = some (z.1, z.2) from h3
      cases k with
      | succ k => exact tail h3' k o' (by simpa [injO] using ho')
      | zero =>
       simp only [injO, List.getElem?_cons_zero, Option.some.injEq] at ho'
       subst ho'
       have hlk := (zn h3').le.1 j i hi
       have hβ : β' j = β i := hrb0 i hlk
       have hl := zvl hd rfl
       refine ⟨?_, fun _ => .inl ⟨i, _, hlk, hl, rfl, by rw [Nat.add_zero, hβ]⟩⟩
       have ho := hob i _ hl
       rw [Nat.add_zero, hβ]
       cases hb : β i with
       | lpr l rec => rw [hb] at ho; exact ho.elim
       | deep g v hs => rw [hb] at ho; exact ho.elim
       | row v => rw [hb] at ho; exact ho.elim
       | blk b => rw [hb] at ho; exact ho.elim
       | two b v => rw [hb] at ho; exact ho
    ·cases h
   ·cases h
  case sit =>
   split at h
   ·rename_i i hi
    split at h
    ·rename_i s0 p0 hd
     obtain ⟨z, h3, h4⟩ := Option.bind_eq_some_iff.1 h
     simp only [Option.some.injEq, Prod.mk.injEq] at h4
     obtain ⟨rfl, rfl⟩ := h4
     have h3' := show jj ob lend (j + 1) ps m = some (z.1, z.2) from h3
     cases k with
     | succ k => exact tail h3' k o' (by simpa [injO] using ho')
     | zero =>
      simp only [injO, List.getElem?_cons_zero, Option.some.injEq] at ho'
      subst ho'
      have hlk := (zn h3').le.1 j i hi
      have hβ : β' j = β i := hrb0 i hlk
      have hl := zvl hd rfl
      refine ⟨?_, fun _ => .inl ⟨i, _, hlk, hl, rfl, by rw [Nat.add_zero, hβ]⟩⟩
      have ho := hob i _ hl
      rw [Nat.add_zero, hβ]
      cases hb : β i with
      | row v => rw [hb] at ho; exact ho.elim
      | lpr l rec => rw [hb] at ho; exact ho.elim
      | deep g v hs => rw [hb] at ho; exact ho.elim
      | two b v => rw [hb] at ho; exact ho.elim
      | blk b => rw [hb] at ho; exact ho
    ·cases h
   ·cases h
  case mp kt t =>
   split at h
   ·rename_i i hi
    split at h
    ·rename_i kt' t' l0 hd
     split at h
     ·rename_i hkt
      obtain ⟨rfl, rfl⟩ := hkt
      obtain ⟨z, h3, h4⟩ := Option.bind_eq_some_iff.1 h
      simp only [Option.some.injEq, Prod.mk.injEq] at h4
      obtain ⟨rfl, rfl⟩ := h4
      have h3' := show jj ob lend (j + 1) ps m = some (z.1, z.2) from h3
      cases k with
      | succ k => exact tail h3' k o' (by simpa [injO] using ho')
      | zero =>
       simp only [injO, List.getElem?_cons_zero, Option.some.injEq] at ho'
       subst ho'
       have hlk := (zn h3').le.1 j i hi
       have hβ : β' j = β i := hrb0 i hlk
       have hl := zvl hd rfl
       refine ⟨?_, fun _ => .inl ⟨i, _, hlk, hl, rfl, by rw [Nat.add_zero, hβ]⟩⟩
       have ho := hob i _ hl
       rw [Nat.add_zero, hβ]
       cases hb : β i with
       | row v => rw [hb] at ho; exact ho.elim
       | lpr l rec => rw [hb] at ho; exact ho.elim
       | deep g v hs => rw [hb] at ho; exact ho.elim
       | two b v => rw [hb] at ho; exact ho.elim
       | blk b =>
        rw [hb] at ho
        exact zjd.imp hS (fun _ _ => rfl) rfl ho
     ·cases h
    ·cases h
   ·cases h
  case lp =>
   split at h
   ·rename_i i hi
    split at h
    ·rename_i hd
     cases k with
     | succ k => exact tail h k o' (by simpa [injO] using ho')
     | zero =>
      simp only [injO, List.getElem?_cons_zero, Option.some.injEq] at ho'
      subst ho'
      have hlk := (zn h).le.1 j i hi
      have hβ : β' j = β i := hrb0 i hlk
      have hl := zvl hd rfl
      refine ⟨?_, fun _ => .inl ⟨i, _, hlk, hl, rfl, by rw [Nat.add_zero, hβ]⟩⟩
      have ho := hob i _ hl
      rw [Nat.add_zero, hβ]
      cases hb : β i with
      | row v => rw [hb] at ho; exact ho.elim
      | blk b => rw [hb] at ho; exact ho.elim
      | two b v => rw [hb] at ho; exact ho.elim
      | deep g v hs => rw [hb] at ho; exact ho.elim
      | lpr l rec => trivial
    ·cases h
   ·cases h
end
end
theorem yy (ren : Nat → Nat) : ∀ (ps : List OPat) (x : zaa ps), (injO ren ps x).length = ps.length
 | [], _ => rfl
 | .box _ _ :: r, x => by simp [injO, yy ren r]
 | .vec _ _ _ :: r, x => by simp [injO, yy ren r]
 | .dv _ _ :: r, x => by simp [injO, yy ren r]
 | .dvo _ _ :: r, x => by simp [injO, yy ren r]
 | .bld _ _ :: r, x => by simp [injO, yy ren r]
 | .sit :: r, x => by simp [injO, yy ren r]
 | .mp _ _ :: r, x => by simp [injO, yy ren r]
 | .lp :: r, x => by simp [injO, yy ren r]
 | .gone :: r, x => by simp [injO, yy ren r]
theorem zxt {m0 j i : Nat} {os : List OPat} (h : (idM m0 os).rho.lookup j = some i) : i = j ∧ j < m0 := by
 have := zcb h
 simp only [idM, List.mem_map, List.mem_filter, List.mem_range, Prod.mk.injEq] at this
 obtain ⟨a, ⟨h1, _⟩, h2, h3⟩ := this
 omega
theorem z3l (m0 : Nat) (os : List OPat) : (idM m0 os).Inj := ⟨fun j j' i h h' => by rw [← (zxt h).1, ← (zxt h').1], fun j h => by simp [idM] at h⟩
def zf7 (os : List OPat) (β : Nat → GL) (m : Mt) (j : Nat) : GL := match m.rho.lookup j with
 | some i => rb (os.getD j .gone) (β i)
 | none => if m.nils.contains j then rb (os.getD j .gone) (.row (.slice none 0 0)) else β j
theorem zxu {os : List OPat} {β : Nat → GL} {m : Mt} {m0 j : Nat} (h : m.fixes m0 = true) (hj : j < m0) : (β j).kin (zf7 os β m j) := by
 simp only [Mt.fixes, Bool.and_eq_true, List.all_eq_true, Bool.or_eq_true, decide_eq_true_eq, beq_iff_eq] at h
 unfold zf7
 split
 ·rename_i i hl
  rcases h.1 _ (zcb hl) with h1 | h1
  ·simp only at h1; omega
  ·simp only at h1; rw [h1]; exact z1t _ _
 ·split
  ·rename_i hc
   have := h.2 j (by simpa using hc)
   omega
  ·exact GL.kin.refl _
theorem Mt.inside_spec {m : Mt} {m0 n : Nat} (h : m.inside m0 n = true) : m0 ≤ n ∧ (∀ j i, m.rho.lookup j = some i → j < n) ∧ ∀ j, j ∈ m.nils → j < n := by
 simp only [Mt.inside, Bool.and_eq_true, List.all_eq_true, Bool.or_eq_true, decide_eq_true_eq] at h
 refine ⟨h.2, fun j i hj => ?_, h.1.2⟩
 have := h.1.1 _ (zcb hj)
 have := h.2
 simp only at *
 omega
theorem zvm {c : Ctx} {β : Nat → GL} {S S' : Nat → Prop} {ob : List Ob} {w : World} (hI : Inv c β S ob w) {ps : List OPat} {m m1 : Mt} {y : zaa ps} {lend : Bool} {m0 : Nat}
  (ho : jj ob lend 0 ps m1 = some (y, m)) (hin : m.inside m0 ps.length = true) (hinj : m.Inj)
  (hS : ∀ b, S b → S' b) (hS' : ∀ b, S' b → S b ∨ ∃ i, i ∈ m.fr ∧ b ∈ blks β ob i) (hfr : ∀ i, i ∈ m.fr → ∀ b, b ∈ blks β ob i → S' b)
  (hno : ∀ i j o', i ∈ m.fr → m.rho.lookup j = some i → (injO id ps y)[j]? = some o' → o'.live = false)
  (hkeep : ∀ j, j < c.m0 → (β j).kin (zf7 ps β m j)) (hc0 : c.m0 ≤ ps.length) :
  Inv c (zf7 ps β m) S' (injO id ps y) w ∧ Tgt β (zf7 ps β m) ob S' ps.length m := by
 obtain ⟨hm0, hrl, hnl⟩ := Mt.inside_spec hin
 have ht : Tgt β (zf7 ps β m) ob S' ps.length m := by
  refine ⟨fun j i h => ⟨hrl j i h, by simp only [zf7, h]; exact (z1t _ _).bs⟩, fun j h => ⟨hnl j h, ?_⟩, hfr⟩
  simp only [zf7, hinj.2 j h, show m.nils.contains j = true from by simpa using h, if_true]
  exact (z1t _ _).bs.hdr
 have hgd : ∀ (k : Nat) (p : OPat), ps[k]? = some p → ps.getD k .gone = p := fun k p hk => by rw [List.getD_eq_getElem?_getD, hk]; rfl
 refine ⟨?_, ht⟩
 have hsnd := zn4 (n' := ps.length) (β' := zf7 ps β m) hI.obj hS ho ht (fun k p i hk hl => by
  rw [Nat.zero_add] at hl ⊢
  simp only [zf7, hl, hgd k p hk]) (fun k p hk hl => by
  rw [Nat.zero_add] at hl ⊢
  simp only [zf7, hinj.2 k hl, show m.nils.contains k = true from by simpa using hl, if_true, hgd k p hk])
 simp only [Nat.zero_add] at hsnd
 have hblk : ∀ {j b}, b ∈ blks (zf7 ps β m) (injO id ps y) j → ∃ i o', m.rho.lookup j = some i ∧ b ∈ blks β ob i ∧ (injO id ps y)[j]? = some o' ∧ o'.live = true := by
  intro j b hb
  obtain ⟨o', h1, h2, h3⟩ := zj.1 hb
  rcases (hsnd j o' h1).2 h2 with ⟨i, o, h4, h5, h6, h7⟩ | h4
  ·exact ⟨i, o', h4, zj.2 ⟨o, h5, h6, by rw [← h7]; exact h3⟩, h1, h2⟩
  ·rw [h4.2] at h3; simp at h3
 refine ⟨fun j o' hj => ?_, fun i j b hij hi hj => ?_, fun j b hj => ?_, fun b hb => ?_, fun b hb => hS b (hI.s0 b hb), fun b hb => ?_, hI.same, fun j hj => ?_, by rw [yy]; exact hc0⟩
 ·have := (hsnd j o' hj).1
  rwa [yy]
 ·obtain ⟨i1, o1, h1, h2, _⟩ := hblk hi
  obtain ⟨i2, o2, h3, h4, _⟩ := hblk hj
  by_cases e : i1 = i2
  ·subst e; exact hij (hinj.1 i j i1 h1 h3)
  ·exact hI.sep i1 i2 b e h2 h4
 ·obtain ⟨i, o', h1, h2, h3, h4⟩ := hblk hj
  obtain ⟨h5, h6⟩ := hI.own i b h2
  refine ⟨fun hb => ?_, h6⟩
  rcases hS' b hb with h7 | ⟨k, hk, hkb⟩
  ·exact h5 h7
  ·by_cases e : k = i
   ·subst e
    rw [hno k j o' hk h1 h3] at h4
    cases h4
   ·exact hI.sep k i b e hkb h2
 ·rcases hS' b hb with h1 | ⟨i, _, h1⟩
  ·exact hI.imm b h1
  ·exact (hI.own i b h1).2.1
 ·rcases hS' b hb with h1 | ⟨i, _, h1⟩
  ·exact hI.s1 b h1
  ·exact .inr (hI.own i b h1).2.2
 ·exact (hI.keep j hj).trans (hkeep j hj)
theorem zcu.proj_rel {c : Ctx} {s : zcu} {σ : St} {t : s.T} {vs : List Value} {w : World} (h : s.proj c.m0 σ = some t) (hr : Rel c σ.tm σ.ob vs w) : Rel c (s.inj t).tm (s.inj t).ob vs w := by
 obtain ⟨β, S, hI, hd⟩ := hr
 unfold zcu.proj at h
 obtain ⟨x, h1, h2⟩ := Option.bind_eq_some_iff.1 h
 obtain ⟨y, h3, h4⟩ := Option.bind_eq_some_iff.1 h2
 split at h4
 ·rename_i hin
  simp only [Option.some.injEq] at h4
  subst h4
  simp only [Bool.and_eq_true] at hin
  have h1' := show zt σ.ob false s.tm σ.tm (idM c.m0 s.ob) = some (x.1, x.2) from h1
  have h3' := show jj σ.ob false 0 s.ob x.2 = some (y.1, y.2) from h3
  have st := (ye h1').trans (zn h3')
  have hfr : y.2.fr = [] := (st.fr rfl).trans rfl
  obtain ⟨hI', ht⟩ := zvm hI h3' hin.1 (st.inj (z3l _ _)) (S' := S) (fun _ h => h) (fun b hb => .inl hb) (fun i hi => by rw [hfr] at hi; cases hi) (fun i j o' hi => by rw [hfr] at hi; cases hi)
   (fun j hj => zxu hin.2 hj) (Mt.inside_spec hin.1).1
  refine ⟨_, S, hI', ?_⟩
  have := zw hI.obj (fun _ h => h) h1' (ht.mono (zn h3').le) hd
  simpa [zcu.inj, yy] using this
 ·cases h4
end Go.En
