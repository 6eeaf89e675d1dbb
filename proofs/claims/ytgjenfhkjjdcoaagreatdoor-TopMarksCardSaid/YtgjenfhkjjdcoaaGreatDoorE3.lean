/- Text E3 of this seat: written by a program of ours, or by hand; checked by Lean. -/
import Derived.Test.YtgjenfhkjjdcoaaGreatDoorE2
set_option linter.unusedVariables false
namespace Go.En
open Go.RowKit

/-! -/
def Ob.live : Ob → Bool
  | .gone => false
  | _ => true
def blks (β : Nat → GL) (ob : List Ob) (i : Nat) : List Nat := match ob[i]? with
  | some o => if o.live then (β i).blocks else []
  | none => []
def RowAt (mk : Bool) (w : World) (e : TypeId) (size : Nat) (v : Value) (n : Nat) (xs : List Value) : Prop :=
  xs.length = n * size ∧ ((v = .slice none 0 0 ∧ n = 0) ∨ ∃ g cap cur fz, v = .slice (some ⟨g, 0, none⟩) n cap ∧ w.heap[g]? = some (.cells cur e fz) ∧
    (fz = (0, 0) ∨ (mk = true ∧ cur.size ≤ fz.1)) ∧ n ≤ cap ∧ cap ≤ maxLen ∧ cur.size = cap * size ∧ cur.toList.take (n * size) = xs)
theorem RowAt.own {w : World} {e : TypeId} {size : Nat} {v : Value} {n : Nat} {xs : List Value} (h : RowAt false w e size v n xs) : w.ownsRow 0 e size v n xs := by
  refine ⟨h.1, ?_⟩
  rcases h.2 with h | ⟨g, cap, cur, fz, h1, h2, h3, h4, h5, h6, h7⟩
  · exact .inl h
  · refine .inr ⟨g, cap, cur, h1, Nat.zero_le _, ?_, h4, h5, h6, h7⟩
    rcases h3 with rfl | ⟨h3, _⟩
    · exact h2
    · cases h3
theorem RowAt.of_own {w : World} {b : Nat} {e : TypeId} {size : Nat} {v : Value} {n : Nat} {xs : List Value} (h : w.ownsRow b e size v n xs) : RowAt false w e size v n xs := by
  refine ⟨h.1, ?_⟩
  rcases h.2 with h | ⟨g, cap, cur, h1, h2, h3, h4, h5, h6, h7⟩
  · exact .inl h
  · exact .inr ⟨g, cap, cur, (0, 0), h1, h3, .inl rfl, h4, h5, h6, h7⟩
theorem RowAt.imp {w w' : World} {mk : Bool} {e : TypeId} {size : Nat} {v : Value} {n : Nat} {xs : List Value} (h : RowAt mk w e size v n xs) (hw : ∀ b, b ∈ v.ownBlock.toList → w'.heap[b]? = w.heap[b]?) : RowAt mk w' e size v n xs := by
  refine ⟨h.1, ?_⟩
  rcases h.2 with h | ⟨g, cap, cur, fz, rfl, h2, h3⟩
  · exact .inl h
  · exact .inr ⟨g, cap, cur, fz, rfl, (hw g (by simp [Value.ownBlock])).trans h2, h3⟩
theorem RowAt.cell {w : World} {mk : Bool} {e : TypeId} {size : Nat} {v : Value} {n : Nat} {xs : List Value} (h : RowAt mk w e size v n xs) {g : Nat} (hg : v.ownBlock = some g) (j : Nat) (hj : j < n * size) : w.cell? ⟨g, j, none⟩ = xs[j]? := by
  rcases h.2 with ⟨rfl, _⟩ | ⟨g', cap, cur, fz, rfl, h2, h3, h4, h5, h6, h7⟩
  · simp [Value.ownBlock] at hg
  · simp [Value.ownBlock] at hg
    subst hg
    rw [← h7, List.getElem?_take, if_pos hj]
    simp [World.cell?, h2]
def strVs (s : Bs) : List Value := Lib.strCells ⟨s.toArray⟩
section
variable (n : Nat) (β : Nat → GL) (S : Nat → Prop) (w : World)
def RowOf (mk : Bool) (e : TypeId) (t : Ty) (v : Value) (l : List t.T) : Prop :=
  ∃ xs, RowAt mk w e t.size v l.length xs ∧ l.length ≤ maxB ∧ ∀ (k : Nat) (x : t.T), l[k]? = some x → ImmC S w t (fun j => xs[k * t.size + j]?) x
def RelO : GL → Ob → Prop
  | .blk b, .box t cs => ∃ vs : List Value, w.heap[b]? = some (.cells vs.toArray t (0, 0)) ∧ RelDs n β S w cs vs
  | .row v, .vec mk e t l => RowOf S w mk e t v l
  | .two b v, .bld T e s => ∃ p, w.heap[b]? = some (.cells #[p, v] T (0, 0)) ∧ (p = .pointer none ∨ p = .pointer (some ⟨b, 0, none⟩)) ∧ w.ownsRowF 0 e 1 v s.length (strVs s) ∧ v.ownBlock ≠ some b ∧ s.length ≤ maxB
  | .blk b, .sit s pos => w.heap[b]? = some (.stringIter ⟨s.toArray⟩ pos) ∧ s.length ≤ maxB
  | .lpr _ _, .lp => True
  | _, .gone => True
  | _, _ => False
end
theorem ownsRowF_imp {w w' : World} {b : Nat} {e : TypeId} {size : Nat} {v : Value} {n : Nat} {xs : List Value} (h : w.ownsRowF b e size v n xs) (hw : ∀ b, b ∈ v.ownBlock.toList → w'.heap[b]? = w.heap[b]?) : w'.ownsRowF b e size v n xs := by
  refine ⟨h.1, ?_⟩
  rcases h.2 with h | ⟨g, cap, cur, fz, rfl, h1, h2, h3⟩
  · exact .inl h
  · exact .inr ⟨g, cap, cur, fz, rfl, h1, (hw g (by simp [Value.ownBlock])).trans h2, h3⟩
theorem RelO.imp {n n' : Nat} {β β' : Nat → GL} {S S' : Nat → Prop} {w w' : World} (hn : n ≤ n') (hβ : ∀ i, i < n → β' i = β i) (hS : ∀ b, S b → S' b) (hw : ∀ b, S b → w'.heap[b]? = w.heap[b]?)
    {g : GL} {o : Ob} (hg : ∀ b, b ∈ g.blocks → w'.heap[b]? = w.heap[b]?) (h : RelO n β S w g o) : RelO n' β' S' w' g o := by
  cases g <;> cases o <;> simp only [RelO] at h ⊢ <;> try exact h
  case blk.box b t cs =>
    obtain ⟨vs, h1, h2⟩ := h
    exact ⟨vs, (hg b (by simp [GL.blocks])).trans h1, RelDs.imp hn hβ hS hw cs h2⟩
  case row.vec v mk e t l =>
    obtain ⟨xs, h1, h2, h3⟩ := h
    exact ⟨xs, h1.imp hg, h2, fun k x hk => ImmC.imp hS hw (h3 k x hk)⟩
  case blk.sit b s pos => exact ⟨(hg b (by simp [GL.blocks])).trans h.1, h.2⟩
  case two.bld b v T e s =>
    obtain ⟨p, h1, h2, h3, h4⟩ := h
    exact ⟨p, (hg b (by simp [GL.blocks])).trans h1, h2, ownsRowF_imp h3 (fun b' hb' => hg b' (by simp [GL.blocks] at hb' ⊢; exact .inr hb')), h4⟩

/-! -/
structure Ctx where
  w0 : World
  M : Nat → Prop
  S0 : Nat → Prop
  m0 : Nat
  β0 : Nat → GL
structure Inv (c : Ctx) (β : Nat → GL) (S : Nat → Prop) (ob : List Ob) (w : World) : Prop where
  obj : ∀ (i : Nat) (o : Ob), ob[i]? = some o → RelO ob.length β S w (β i) o
  sep : ∀ i j b, i ≠ j → b ∈ blks β ob i → b ∉ blks β ob j
  own : ∀ i b, b ∈ blks β ob i → ¬ S b ∧ b < w.heap.size ∧ (c.M b ∨ c.w0.heap.size ≤ b)
  imm : ∀ b, S b → b < w.heap.size
  s0 : ∀ b, c.S0 b → S b
  s1 : ∀ b, S b → c.S0 b ∨ c.M b ∨ c.w0.heap.size ≤ b
  same : Same c.M c.w0 w
  keep : ∀ (j : Nat), j < c.m0 → β j = c.β0 j
  le : c.m0 ≤ ob.length
def Rel (c : Ctx) (ds : List D) (ob : List Ob) (vs : List Value) (w : World) : Prop :=
  ∃ β S, Inv c β S ob w ∧ RelDs ob.length β S w ds vs
theorem mem_blks {β : Nat → GL} {ob : List Ob} {i b : Nat} : b ∈ blks β ob i ↔ ∃ o, ob[i]? = some o ∧ o.live = true ∧ b ∈ (β i).blocks := by
  unfold blks
  cases h : ob[i]? with
  | none => simp
  | some o => cases hl : o.live <;> simp [hl]
theorem Inv.step {c : Ctx} {β β' : Nat → GL} {S S' : Nat → Prop} {ob ob' : List Ob} {w w' : World} (h : Inv c β S ob w) (I : Nat → Prop)
    (hw : Same (fun b => ∃ i, I i ∧ b ∈ blks β ob i) w w') (hlen : ob.length ≤ ob'.length)
    (hkeep : ∀ i, i < ob.length → ¬ I i → ob'[i]? = ob[i]?) (hβ : ∀ i, i < ob.length → β' i = β i)
    (hS : ∀ b, S b → S' b) (hS' : ∀ b, S' b → S b ∨ ((w.heap.size ≤ b ∨ ∃ i, I i ∧ b ∈ blks β ob i) ∧ b < w'.heap.size))
    (hnew : ∀ (i : Nat) (o : Ob), ob'[i]? = some o → (I i ∨ ob.length ≤ i) → RelO ob'.length β' S' w' (β' i) o)
    (hblk : ∀ i b, (I i ∨ ob.length ≤ i) → b ∈ blks β' ob' i → ¬ S' b ∧ b < w'.heap.size ∧ ((∃ i, I i ∧ b ∈ blks β ob i) ∨ w.heap.size ≤ b))
    (hsep : ∀ i j b, i ≠ j → (I i ∨ ob.length ≤ i) → (I j ∨ ob.length ≤ j) → b ∈ blks β' ob' i → b ∉ blks β' ob' j)
    (hm : c.m0 ≤ ob.length) : Inv c β' S' ob' w' := by
  have hSw : ∀ b, S b → w'.heap[b]? = w.heap[b]? := fun b hb => hw.block b (h.imm b hb) fun ⟨i, _, hi⟩ => (h.own i b hi).1 hb
  have hold : ∀ i, i < ob.length → ¬ I i → blks β' ob' i = blks β ob i := fun i hi hn => by simp only [blks, hkeep i hi hn, hβ i hi]
  have hlt : ∀ {i b}, b ∈ blks β' ob' i → ¬ (I i ∨ ob.length ≤ i) → b ∈ blks β ob i ∧ i < ob.length := fun {i b} hb hn => by
    have h1 : ¬ I i := fun x => hn (.inl x)
    have h2 : i < ob.length := Nat.lt_of_not_le fun x => hn (.inr x)
    exact ⟨hold i h2 h1 ▸ hb, h2⟩
  refine ⟨fun i o hi => ?_, fun i j b hij hi hj => ?_, fun i b hi => ?_, fun b hb => ?_, fun b hb => hS b (h.s0 b hb), fun b hb => ?_, ?_, fun j hj => (hβ j (Nat.lt_of_lt_of_le hj hm)).trans (h.keep j hj), Nat.le_trans hm hlen⟩
  · by_cases hx : I i ∨ ob.length ≤ i
    · exact hnew i o hi hx
    · have h1 : ¬ I i := fun x => hx (.inl x)
      have h2 : i < ob.length := Nat.lt_of_not_le fun x => hx (.inr x)
      rw [hkeep i h2 h1] at hi
      rw [hβ i h2]
      cases ho : o.live with
      | false => cases o <;> simp [Ob.live] at ho; cases β i <;> trivial
      | true =>
        refine RelO.imp hlen hβ hS hSw (fun b hb => hw.block b ?_ ?_) (h.obj i o hi)
        · exact (h.own i b (mem_blks.2 ⟨o, hi, ho, hb⟩)).2.1
        · rintro ⟨k, hk, hkb⟩
          exact h.sep i k b (fun e => h1 (e ▸ hk)) (mem_blks.2 ⟨o, hi, ho, hb⟩) hkb
  · by_cases hx : I i ∨ ob.length ≤ i <;> by_cases hy : I j ∨ ob.length ≤ j
    · exact hsep i j b hij hx hy hi hj
    · obtain ⟨h1, h2⟩ := hlt hj hy
      rcases (hblk i b hx hi).2.2 with ⟨k, hk, hkb⟩ | h3
      · exact h.sep j k b (fun e => hy (.inl (e ▸ hk))) h1 hkb
      · exact Nat.lt_irrefl _ (Nat.lt_of_lt_of_le (h.own j b h1).2.1 h3)
    · obtain ⟨h1, h2⟩ := hlt hi hx
      rcases (hblk j b hy hj).2.2 with ⟨k, hk, hkb⟩ | h3
      · exact h.sep i k b (fun e => hx (.inl (e ▸ hk))) h1 hkb
      · exact Nat.lt_irrefl _ (Nat.lt_of_lt_of_le (h.own i b h1).2.1 h3)
    · exact h.sep i j b hij (hlt hi hx).1 (hlt hj hy).1
  · by_cases hx : I i ∨ ob.length ≤ i
    · obtain ⟨h1, h2, h3⟩ := hblk i b hx hi
      refine ⟨h1, h2, ?_⟩
      rcases h3 with ⟨k, hk, hkb⟩ | h3
      · exact (h.own k b hkb).2.2
      · exact .inr (Nat.le_trans h.same.size h3)
    · obtain ⟨h1, h2⟩ := hlt hi hx
      obtain ⟨h3, h4, h5⟩ := h.own i b h1
      refine ⟨fun hs => ?_, Nat.lt_of_lt_of_le h4 hw.size, h5⟩
      rcases hS' b hs with h6 | ⟨h6 | ⟨k, hk, hkb⟩, _⟩
      · exact h3 h6
      · omega
      · exact h.sep i k b (fun e => hx (.inl (e ▸ hk))) h1 hkb
  · rcases hS' b hb with h1 | h1
    · exact Nat.lt_of_lt_of_le (h.imm b h1) hw.size
    · exact h1.2
  · rcases hS' b hb with h1 | ⟨h1 | ⟨k, hk, hkb⟩, _⟩
    · exact h.s1 b h1
    · exact .inr (.inr (Nat.le_trans h.same.size h1))
    · exact .inr (h.own k b hkb).2.2
  · refine h.same.trans hw (fun _ x => x) fun b hb ⟨k, hk, hkb⟩ => ?_
    rcases (h.own k b hkb).2.2 with h2 | h2
    · exact h2
    · omega

/-! -/
theorem RowOf.imm {S S' : Nat → Prop} {w : World} {mk : Bool} {e e' : TypeId} {t : Ty} {v : Value} {l : List t.T} (h : RowOf S w mk e t v l) (hS : ∀ b, S b → S' b) (hb : ∀ b, b ∈ v.ownBlock.toList → S' b) :
    ImmC S' w (.slice e' t) (fun _ => some v) l := by
  obtain ⟨xs, h1, h2, h3⟩ := h
  rcases h1.2 with ⟨rfl, h0⟩ | ⟨g, cap, cur, fz, rfl, h4, h5, h6, h7, h8, h9⟩
  · obtain rfl : l = [] := List.eq_nil_of_length_eq_zero h0
    exact ⟨none, 0, rfl, Nat.le_refl _, by simp, by simp, fun _ => rfl, fun k x hk => by simp at hk⟩
  · refine ⟨_, cap, rfl, h6, h2, h7, (fun h => nomatch h), fun k x hk => ⟨⟨g, 0, none⟩, rfl, hb g (by simp [Value.ownBlock]), ?_⟩⟩
    have hkl : k < l.length := (List.getElem?_eq_some_iff.1 hk).1
    refine ImmC.congr (fun j hj => ?_) (ImmC.imp hS (fun _ _ => rfl) (h3 k x hk))
    have hlt : k * t.size + j < l.length * t.size := by
      have := Nat.mul_le_mul_right t.size (show k + 1 ≤ l.length from hkl)
      rw [Nat.add_mul] at this
      omega
    rw [← h1.cell (g := g) (by simp [Value.ownBlock]) _ hlt]
    congr 1
    unfold Addr.add
    split <;> simp_all
theorem RowOf.sub {S S' : Nat → Prop} {w : World} {mk : Bool} {e e' : TypeId} {t : Ty} {A : Option Addr} {len cap : Nat} {l : List t.T} (h : RowOf S w mk e t (.slice A len cap) l) (hS : ∀ b, S b → S' b)
    (hb : ∀ b, b ∈ (Value.slice A len cap).ownBlock.toList → S' b) {lo hi c : Nat} {A' : Option Addr} (h1 : lo ≤ hi) (h2 : hi ≤ len) (h3 : hi - lo ≤ c) (h4 : c ≤ maxLen) (h0 : A' = none → c = 0)
    (h5 : lo < hi → A' = A.map fun a => a.add (lo * t.size)) : ImmC S' w (.slice e' t) (fun _ => some (.slice A' (hi - lo) c)) ((l.drop lo).take (hi - lo)) := by
  obtain ⟨xs, g1, g2, g3⟩ := h
  have hlen : len = l.length := by
    rcases g1.2 with ⟨g, g0⟩ | ⟨g, cap, cur, fz, g, _⟩
    · injection g with _ g _; omega
    · injection g
  have hll : ((l.drop lo).take (hi - lo)).length = hi - lo := by simp; omega
  refine ⟨A', c, by rw [hll], by omega, by omega, h4, h0, fun k x hk => ?_⟩
  have hkl : k < hi - lo := by rw [← hll]; exact (List.getElem?_eq_some_iff.1 hk).1
  rcases g1.2 with ⟨g, g0⟩ | ⟨g, cap, cur, fz, gv, g4, g5, g6, g7, g8, g9⟩
  · omega
  · injection gv with gA gl gc
    subst gA
    have hA := h5 (by omega)
    refine ⟨_, hA, by rw [add_block]; exact hb g (by simp [Value.ownBlock]), ?_⟩
    have hx : l[lo + k]? = some x := by
      rw [List.getElem?_take, if_pos hkl, List.getElem?_drop] at hk
      exact hk
    refine ImmC.congr (fun j hj => ?_) (ImmC.imp hS (fun _ _ => rfl) (g3 _ x hx))
    have hlt : (lo + k) * t.size + j < l.length * t.size := by
      have := Nat.mul_le_mul_right t.size (show lo + k + 1 ≤ l.length by omega)
      rw [Nat.add_mul (lo + k)] at this
      omega
    rw [← g1.cell (g := g) (by simp [Value.ownBlock]) _ hlt, Addr.add_add]
    congr 1
    have : lo * t.size + (k * t.size + j) = (lo + k) * t.size + j := by rw [Nat.add_mul]; omega
    rw [this]
    unfold Addr.add
    split <;> simp_all

/-! -/
def Mt.le (m m' : Mt) : Prop := (∀ j i, m.rho.lookup j = some i → m'.rho.lookup j = some i) ∧ (∀ j, j ∈ m.nils → j ∈ m'.nils) ∧ (∀ i, i ∈ m.fr → i ∈ m'.fr)
theorem Mt.le.refl (m : Mt) : m.le m := ⟨fun _ _ h => h, fun _ h => h, fun _ h => h⟩
theorem Mt.le.trans {a b c : Mt} (h : a.le b) (h' : b.le c) : a.le c := ⟨fun j i x => h'.1 j i (h.1 j i x), fun j x => h'.2.1 j (h.2.1 j x), fun j x => h'.2.2 j (h.2.2 j x)⟩
theorem Mt.assign_le {m m' : Mt} {j i : Nat} (h : m.assign j i = some m') : m.le m' ∧ m'.rho.lookup j = some i ∧ m'.fr = m.fr := by
  unfold Mt.assign at h
  split at h
  · rename_i i' hi
    split at h
    · rename_i e
      cases h
      exact ⟨.refl _, by rw [hi, e], rfl⟩
    · cases h
  · rename_i hn
    split at h
    · cases h
    · cases h
      refine ⟨⟨fun j' i' hj => ?_, fun _ h => h, fun _ h => h⟩, by simp, rfl⟩
      by_cases e : j' = j
      · subst e; rw [hn] at hj; cases hj
      · simp only [List.lookup_cons]; have : (j' == j) = false := by simpa using e
        rw [this]; exact hj
theorem Mt.nil_le {m m' : Mt} {j : Nat} (h : m.nil j = some m') : m.le m' ∧ j ∈ m'.nils ∧ m'.fr = m.fr := by
  unfold Mt.nil at h
  split at h
  · cases h
  · cases h
    exact ⟨⟨fun _ _ h => h, fun _ h => List.mem_cons_of_mem _ h, fun _ h => h⟩, List.mem_cons_self .., rfl⟩
theorem Mt.ptrs_le : ∀ {ps : List (Nat × Nat)} {ds : List D} {m m' : Mt}, m.ptrs ps ds = some m' → m.le m' ∧ m'.fr = m.fr
  | [], [], m, m', h => by simp only [Mt.ptrs, Option.some.injEq] at h; subst h; exact ⟨.refl _, rfl⟩
  | [], _ :: _, m, m', h => by simp [Mt.ptrs] at h
  | p :: ps, [], m, m', h => by simp [Mt.ptrs] at h
  | p :: ps, d :: ds, m, m', h => by
    cases d <;> simp only [Mt.ptrs] at h <;> try cases h
    split at h
    · obtain ⟨m1, h1, h2⟩ := Option.bind_eq_some_iff.1 h
      have h3 := Mt.assign_le h1
      have h4 := Mt.ptrs_le h2
      exact ⟨h3.1.trans h4.1, h4.2.trans h3.2.2⟩
    · cases h
theorem lookup_mem {l : List (Nat × Nat)} {j i : Nat} (h : l.lookup j = some i) : (j, i) ∈ l := by
  induction l with
  | nil => simp at h
  | cons p l ih =>
    by_cases e : j = p.1
    · rw [List.lookup_cons, show (j == p.1) = true by simpa using e] at h
      simp only [Option.some.injEq] at h
      subst h
      rw [e]
      exact List.mem_cons_self ..
    · rw [List.lookup_cons, show (j == p.1) = false by simpa using e] at h
      exact List.mem_cons_of_mem _ (ih h)
def Mt.Inj (m : Mt) : Prop := (∀ j j' i, m.rho.lookup j = some i → m.rho.lookup j' = some i → j = j') ∧ ∀ j, j ∈ m.nils → m.rho.lookup j = none
structure Mt.Step (lend : Bool) (m m' : Mt) : Prop where
  le : m.le m'
  fr : lend = false → m'.fr = m.fr
  inj : m.Inj → m'.Inj
theorem Mt.Step.refl (lend : Bool) (m : Mt) : Mt.Step lend m m := ⟨.refl _, fun _ => rfl, fun h => h⟩
theorem Mt.Step.trans {lend : Bool} {a b c : Mt} (h : Mt.Step lend a b) (h' : Mt.Step lend b c) : Mt.Step lend a c := ⟨h.le.trans h'.le, fun x => (h'.fr x).trans (h.fr x), fun x => h'.inj (h.inj x)⟩
theorem Mt.Step.withFr {lend : Bool} {m : Mt} {fr : List Nat} (h : ∀ i, i ∈ m.fr → i ∈ fr) (h' : lend = false → fr = m.fr) : Mt.Step lend m { m with fr := fr } := ⟨⟨fun _ _ h => h, fun _ h => h, h⟩, h', fun h => h⟩
theorem Mt.assign_step {lend : Bool} {m m' : Mt} {j i : Nat} (h : m.assign j i = some m') : Mt.Step lend m m' := by
  refine ⟨(Mt.assign_le h).1, fun _ => (Mt.assign_le h).2.2, fun hi => ?_⟩
  unfold Mt.assign at h
  split at h
  · split at h
    · cases h; exact hi
    · cases h
  · rename_i hn
    split at h
    · cases h
    · rename_i hx
      cases h
      simp only [Bool.or_eq_true, List.any_eq_true, not_or, not_exists, not_and] at hx
      have hno : ∀ j', m.rho.lookup j' ≠ some i := fun j' hj' => hx.1 _ (lookup_mem hj') (by simp)
      have hc : ∀ j' k, ((j, i) :: m.rho).lookup j' = some k → (j' = j ∧ k = i) ∨ m.rho.lookup j' = some k := by
        intro j' k hk
        by_cases e : j' = j
        · rw [List.lookup_cons, show (j' == j) = true by simpa using e] at hk
          simp only [Option.some.injEq] at hk
          exact .inl ⟨e, hk.symm⟩
        · rw [List.lookup_cons, show (j' == j) = false by simpa using e] at hk
          exact .inr hk
      refine ⟨fun j1 j2 k h1 h2 => ?_, fun j1 h1 => ?_⟩
      case refine_2 =>
        by_cases e : j1 = j
        · subst e
          exact absurd (by simpa using h1) hx.2
        · show List.lookup j1 ((j, i) :: m.rho) = none
          rw [List.lookup_cons, show (j1 == j) = false by simpa using e]
          exact hi.2 j1 h1
      rcases hc _ _ h1 with ⟨e1, f1⟩ | g1 <;> rcases hc _ _ h2 with ⟨e2, f2⟩ | g2
      · rw [e1, e2]
      · exact absurd (f1 ▸ g2) (hno _)
      · exact absurd (f2 ▸ g1) (hno _)
      · exact hi.1 j1 j2 k g1 g2
theorem Mt.nil_step {lend : Bool} {m m' : Mt} {j : Nat} (h : m.nil j = some m') : Mt.Step lend m m' := by
  refine ⟨(Mt.nil_le h).1, fun _ => (Mt.nil_le h).2.2, fun hi => ?_⟩
  unfold Mt.nil at h
  split at h
  · cases h
  · rename_i hn
    cases h
    refine ⟨hi.1, fun j' hj' => ?_⟩
    rcases List.mem_cons.1 hj' with rfl | hj'
    · exact hn
    · exact hi.2 j' hj'
theorem Mt.ptrs_step {lend : Bool} : ∀ {ps : List (Nat × Nat)} {ds : List D} {m m' : Mt}, m.ptrs ps ds = some m' → Mt.Step lend m m'
  | [], [], m, m', h => by simp only [Mt.ptrs, Option.some.injEq] at h; subst h; exact .refl _ _
  | [], _ :: _, m, m', h => by simp [Mt.ptrs] at h
  | p :: ps, [], m, m', h => by simp [Mt.ptrs] at h
  | p :: ps, d :: ds, m, m', h => by
    cases d <;> simp only [Mt.ptrs] at h <;> try cases h
    split at h
    · obtain ⟨m1, h1, h2⟩ := Option.bind_eq_some_iff.1 h
      exact (Mt.assign_step h1).trans (Mt.ptrs_step h2)
    · cases h
section
variable {ob : List Ob} {lend : Bool}
theorem getTy_fr : ∀ {t : Ty} {d : D} {fr fr' : List Nat} {x : t.T}, getTy ob lend t d fr = some (x, fr') → lend = false → fr' = fr := by
  intro t d fr fr' x h hl
  subst hl
  cases t <;> cases d <;> simp only [getTy] at h <;> (repeat' split at h) <;> (try cases h) <;> (try simp only [Option.some.injEq, Prod.mk.injEq] at h) <;>
    (try (obtain ⟨_, rfl⟩ := h)) <;> first | rfl | simp_all
theorem getTy_le : ∀ {t : Ty} {d : D} {fr fr' : List Nat} {x : t.T}, getTy ob lend t d fr = some (x, fr') → ∀ i, i ∈ fr → i ∈ fr' := by
  intro t d fr fr' x h
  cases t <;> cases d <;> simp only [getTy] at h <;> (repeat' split at h) <;> (try cases h) <;> (try simp only [Option.some.injEq, Prod.mk.injEq] at h) <;>
    (try (rw [Option.bind_eq_some_iff] at h; obtain ⟨y, _, h⟩ := h)) <;> (try simp only [Option.some.injEq, Prod.mk.injEq] at h) <;>
    (try (obtain ⟨_, rfl⟩ := h)) <;> intro i hi <;> first | exact hi | exact List.mem_cons_of_mem _ hi
theorem getD_some {α : Type} {l : List α} {i : Nat} {d x : α} (h : l.getD i d = x) (hx : x ≠ d) : l[i]? = some x := by
  rw [List.getD_eq_getElem?_getD] at h
  cases hl : l[i]? with
  | none => rw [hl] at h; exact absurd h.symm hx
  | some y => rw [hl] at h; simp only [Option.getD_some] at h; rw [h]
section
variable {β : Nat → GL} {S S' : Nat → Prop} {w : World}
theorem obVec (hob : ∀ (i : Nat) (o : Ob), ob[i]? = some o → RelO ob.length β S w (β i) o) {i : Nat} {mk : Bool} {e : TypeId} {t : Ty} {l : List t.T} (h : ob.getD i .gone = .vec mk e t l) :
    ob[i]? = some (.vec mk e t l) ∧ ∃ v, β i = .row v ∧ RowOf S w mk e t v l ∧ ∀ b, b ∈ v.ownBlock.toList → b ∈ blks β ob i := by
  have h1 := getD_some h (by simp)
  have h2 := hob i _ h1
  refine ⟨h1, ?_⟩
  cases hb : β i with
  | lpr l rec => rw [hb] at h2; exact h2.elim
  | blk b => rw [hb] at h2; exact h2.elim
  | two b v => rw [hb] at h2; exact h2.elim
  | row v =>
    rw [hb] at h2
    exact ⟨v, rfl, h2, fun b hb' => mem_blks.2 ⟨_, h1, rfl, by rw [hb]; exact hb'⟩⟩
theorem obBoxA (hob : ∀ (i : Nat) (o : Ob), ob[i]? = some o → RelO ob.length β S w (β i) o) {i : Nat} {t : TypeId} {cs : List D} (h : ob.getD i .gone = .box t cs) :
    ob[i]? = some (.box t cs) ∧ ∃ b, β i = .blk b ∧ (∃ vs : List Value, w.heap[b]? = some (.cells vs.toArray t (0, 0)) ∧ RelDs ob.length β S w cs vs) ∧ b ∈ blks β ob i := by
  have h1 := getD_some h (by simp)
  have h2 := hob i _ h1
  refine ⟨h1, ?_⟩
  cases hb : β i with
  | lpr l rec => rw [hb] at h2; exact h2.elim
  | row v => rw [hb] at h2; exact h2.elim
  | two b v => rw [hb] at h2; exact h2.elim
  | blk b =>
    rw [hb] at h2
    exact ⟨b, rfl, h2, mem_blks.2 ⟨_, h1, rfl, by rw [hb]; simp [GL.blocks]⟩⟩
theorem cellInts_sound {n : Nat} {k : IntKind} : ∀ {ds : List D} {vs : List Value} {l : List Int}, cellInts k ds = some l → RelDs n β S w ds vs → ds.length = l.length ∧ ∀ (j : Nat) (x : Int), l[j]? = some x → vs[j]? = some (.int k x) ∧ Rng k x
  | [], vs, l, h, hd => by
    simp only [cellInts, Option.some.injEq] at h
    subst h
    exact ⟨rfl, fun j x hj => by simp at hj⟩
  | d :: ds, vs, l, h, hd => by
    cases d <;> simp only [cellInts] at h <;> try cases h
    rename_i k' x
    split at h
    · rename_i e
      subst e
      obtain ⟨l', h1, h2⟩ := Option.bind_eq_some_iff.1 h
      simp only [Option.some.injEq] at h2
      subst h2
      obtain ⟨u, us, rfl, ⟨rfl, h4⟩, h5⟩ := hd
      obtain ⟨h6, h7⟩ := cellInts_sound h1 h5
      refine ⟨by simp [h6], fun j y hj => ?_⟩
      cases j with
      | zero => simp only [List.getElem?_cons_zero, Option.some.injEq] at hj ⊢; subst hj; exact ⟨rfl, h4⟩
      | succ j => simp only [List.getElem?_cons_succ] at hj ⊢; exact h7 j y hj
    · cases h
theorem readA_sound (hob : ∀ (i : Nat) (o : Ob), ob[i]? = some o → RelO ob.length β S w (β i) o) {k : IntKind} {i off m : Nat} {l : List Int} (h : readA ob k i off m = some l) :
    ∃ t cs, ob.getD i .gone = .box t cs ∧ off + m ≤ cs.length ∧ ∃ (b : Nat) (vs : List Value), β i = .blk b ∧ w.heap[b]? = some (.cells vs.toArray t (0, 0)) ∧ RelDs ob.length β S w cs vs ∧ b ∈ blks β ob i ∧ l.length = m ∧
      ∀ (j : Nat) (x : Int), l[j]? = some x → vs[off + j]? = some (.int k x) ∧ Rng k x := by
  unfold readA at h
  cases hb : ob.getD i .gone with
  | box t cs =>
    rw [hb] at h
    simp only at h
    split at h
    · rename_i hl
      obtain ⟨_, b, h2, ⟨vs, h3, h4⟩, h5⟩ := obBoxA hob hb
      obtain ⟨h6, h7⟩ := cellInts_sound h ((h4.drop off).take m)
      refine ⟨t, cs, rfl, hl, b, vs, h2, h3, h4, h5, ?_, fun j x hj => ?_⟩
      · rw [← h6]; simp; omega
      · obtain ⟨h8, h9⟩ := h7 j x hj
        rw [List.getElem?_take] at h8
        split at h8
        · rw [List.getElem?_drop] at h8; exact ⟨h8, h9⟩
        · cases h8
    · cases h
  | vec mk e t l => rw [hb] at h; cases h
  | bld T e s => rw [hb] at h; cases h
  | lp => rw [hb] at h; cases h
  | sit s p => rw [hb] at h; cases h
  | gone => rw [hb] at h; cases h
theorem readT_sound (hob : ∀ (i : Nat) (o : Ob), ob[i]? = some o → RelO ob.length β S w (β i) o) {t : Ty} {i off m n : Nat} {l : List t.T} {v : Value} (h : readT ob t i off m n = some l) (hd : RelD ob.length β S w (.asl i off m n) v) :
    t.size = 1 ∧ ∃ b, v = .slice (some ⟨b, off, none⟩) l.length m ∧ l.length ≤ m ∧ m ≤ maxB ∧ b ∈ blks β ob i ∧
      ∃ xs : List Value, xs.length = l.length ∧ (∀ (j : Nat) (u : Value), xs[j]? = some u → w.cell? ⟨b, off + j, none⟩ = some u ∧ u.oneCell' = true) ∧ ∀ (j : Nat) (x : t.T), l[j]? = some x → ImmC S w t (fun q => xs[j * t.size + q]?) x := by
  cases t with
  | int k =>
    simp only [readT] at h
    obtain ⟨l', h1, h2⟩ := Option.bind_eq_some_iff.1 h
    simp only [Option.some.injEq] at h2
    subst h2
    obtain ⟨t', cs, _, h3, b, vs, h4, h5, h6, h7, h8, h9⟩ := readA_sound hob h1
    obtain ⟨_, hn, hm, b', h10, rfl⟩ := hd
    rw [h4] at h10
    injection h10 with h10
    subst h10
    have hln : (l'.take n).length = n := by rw [List.length_take]; omega
    refine ⟨rfl, b, by rw [hln], by rw [hln]; exact hn, hm, h7, (l'.take n).map (fun x => .int k x), by simp, fun j u hj => ?_, fun j x hj => ?_⟩
    · rw [List.getElem?_map] at hj
      cases hx : (l'.take n)[j]? with
      | none => rw [hx] at hj; cases hj
      | some x =>
        rw [hx] at hj
        cases hj
        rw [List.getElem?_take] at hx
        split at hx
        · obtain ⟨h11, _⟩ := h9 j x hx
          refine ⟨?_, rfl⟩
          simp only [World.cell?, h5]
          simpa using h11
        · cases hx
    · rw [List.getElem?_take] at hj
      split at hj
      · rename_i hjn
        refine ⟨?_, (h9 j x hj).2⟩
        simp only [Ty.size, Nat.mul_one, Nat.add_zero, List.getElem?_map, List.getElem?_take, if_pos hjn, hj]
        rfl
      · cases hj
  | bool => simp [readT] at h
  | str => simp [readT] at h
  | pair a b => simp [readT] at h
  | slice e t => simp [readT] at h
  | err => simp [readT] at h
  | eint t k => simp [readT] at h
theorem readT_lt {t : Ty} {i off m n : Nat} {l : List t.T} (h : readT ob t i off m n = some l) : i < ob.length := by
  rcases Nat.lt_or_ge i ob.length with h1 | h1
  · exact h1
  · exfalso
    cases t <;> simp only [readT] at h <;> try cases h
    have : ob.getD i .gone = .gone := by rw [List.getD_eq_getElem?_getD, List.getElem?_eq_none h1]; rfl
    rw [readA, this] at h
    cases h
theorem readT_imm (hob : ∀ (i : Nat) (o : Ob), ob[i]? = some o → RelO ob.length β S w (β i) o) {t : Ty} {i off m n : Nat} {l : List t.T} {v : Value} (h : readT ob t i off m n = some l) (hd : RelD ob.length β S w (.asl i off m n) v)
    (hS : ∀ b, S b → S' b) (hb : ∀ b, b ∈ blks β ob i → S' b) (e : TypeId) : ImmC S' w (.slice e t) (fun _ => some v) l := by
  obtain ⟨h1, b, rfl, h2, h3, h4, xs, h5, h6, h7⟩ := readT_sound hob h hd
  refine ⟨_, m, rfl, h2, by omega, by simp only [maxB, maxLen] at *; omega, fun hA => (nomatch hA), fun k x hk => ⟨_, rfl, hb b h4, ?_⟩⟩
  refine ImmC.congr (fun j hj => ?_) (ImmC.imp hS (fun _ _ => rfl) (h7 k x hk))
  have hkl := (List.getElem?_eq_some_iff.1 hk).1
  have hj0 : k * t.size + j < xs.length := by rw [h5, h1]; omega
  rw [Addr.add_lit, List.getElem?_eq_getElem hj0]
  exact (h6 _ _ (List.getElem?_eq_getElem hj0)).1
theorem getTy_sound (hob : ∀ (i : Nat) (o : Ob), ob[i]? = some o → RelO ob.length β S w (β i) o) (hS : ∀ b, S b → S' b) : ∀ {t : Ty} {d : D} {fr fr' : List Nat} {x : t.T} {v : Value},
    getTy ob lend t d fr = some (x, fr') → (∀ i, i ∈ fr' → ∀ b, b ∈ blks β ob i → S' b) → RelD ob.length β S w d v → ImmC S' w t (fun _ => some v) x ∧ t.size = 1 ∧ (lend = false → fr' = fr) := by
  intro t d fr fr' x v h hfr hd
  cases t with
  | int k =>
    cases d <;> simp only [getTy] at h <;> try cases h
    rename_i k' n
    split at h
    · rename_i e
      subst e
      simp only [Option.some.injEq, Prod.mk.injEq] at h
      obtain ⟨rfl, rfl⟩ := h
      obtain ⟨rfl, h2⟩ := hd
      exact ⟨⟨rfl, h2⟩, rfl, fun _ => rfl⟩
    · cases h
  | bool =>
    cases d <;> simp only [getTy] at h <;> try cases h
    exact ⟨congrArg some hd, rfl, fun _ => rfl⟩
  | str =>
    cases d <;> simp only [getTy] at h <;> try cases h
    obtain ⟨rfl, h2⟩ := hd
    exact ⟨⟨rfl, h2⟩, rfl, fun _ => rfl⟩
  | pair a b => cases d <;> simp [getTy] at h
  | err =>
    cases d <;> simp only [getTy] at h <;> try cases h
    case ierr.refl => exact ⟨⟨v, rfl, hd⟩, rfl, fun _ => rfl⟩
    case eint.refl _ _ o =>
      refine ⟨⟨v, rfl, ?_⟩, rfl, fun _ => rfl⟩
      cases o with
      | none => exact hd
      | some n => exact ⟨_, _, hd.1⟩
  | eint t k =>
    cases d <;> simp only [getTy] at h <;> try cases h
    case ierr b =>
      split at h
      · cases h
      · rename_i hb
        simp only [Option.some.injEq, Prod.mk.injEq] at h
        obtain ⟨rfl, rfl⟩ := h
        obtain rfl : b = false := by simpa using hb
        exact ⟨⟨v, rfl, hd⟩, rfl, fun _ => rfl⟩
    case eint t' k' o =>
      split at h
      · rename_i e
        obtain ⟨rfl, rfl⟩ := e
        simp only [Option.some.injEq, Prod.mk.injEq] at h
        obtain ⟨rfl, rfl⟩ := h
        exact ⟨⟨v, rfl, hd⟩, rfl, fun _ => rfl⟩
      · cases h
  | slice e t =>
    cases d <;> simp only [getTy] at h <;> try cases h
    case isl e' t' l =>
      split at h
      · rename_i ht
        subst ht
        split at h
        · simp only [Option.some.injEq, Prod.mk.injEq] at h
          obtain ⟨rfl, rfl⟩ := h
          exact ⟨ImmC.imp (t := .slice e t') (g := fun _ => some v) (x := l) hS (fun _ _ => rfl) hd, rfl, fun _ => rfl⟩
        · cases h
      · cases h
    case slice.nsl.refl =>
      obtain rfl : v = .slice none 0 0 := hd
      exact ⟨⟨none, 0, rfl, Nat.le_refl _, by simp, by simp, fun _ => rfl, fun k x hk => by simp at hk⟩, rfl, fun _ => rfl⟩
    case vec i =>
      split at h
      · rename_i hl
        split at h
        · rename_i mk e' t' l hv
          split at h
          · rename_i ht
            subst ht
            split at h
            · simp only [Option.some.injEq, Prod.mk.injEq] at h
              obtain ⟨rfl, rfl⟩ := h
              obtain ⟨h1, u, h2, h3, h4⟩ := obVec hob hv
              obtain ⟨_, h5, _⟩ := hd
              rw [h2] at h5
              injection h5 with h5
              subst h5
              exact ⟨h3.imm hS fun b hb => hfr i (List.mem_cons_self ..) b (h4 b hb), rfl, fun hx => by rw [hx] at hl; cases hl⟩
            · cases h
          · cases h
        · cases h
      · cases h
    case sub i lo hi sz =>
      split at h
      · rename_i hl
        split at h
        · rename_i mk e' t' l hv
          split at h
          · rename_i ht
            subst ht
            split at h
            · rename_i hz
              simp only [Option.some.injEq, Prod.mk.injEq] at h
              obtain ⟨rfl, rfl⟩ := h
              obtain ⟨h1, u, h2, h3, h4⟩ := obVec hob hv
              obtain ⟨_, h5, A, len, cap, c, A', h6, h7, rfl, h8, h9, h0, h10⟩ := hd
              rw [h2] at h6
              injection h6 with h6
              subst h6
              rw [hz.2] at h10
              exact ⟨h3.sub hS (fun b hb => hfr i (List.mem_cons_self ..) b (h4 b hb)) h5 h7 h8 h9 h0 h10, rfl, fun hx => by rw [hx] at hl; cases hl⟩
            · cases h
          · cases h
        · cases h
      · cases h
    case asl i off m n =>
      split at h
      · rename_i hl
        obtain ⟨l, h1, h2⟩ := Option.bind_eq_some_iff.1 h
        simp only [Option.some.injEq, Prod.mk.injEq] at h2
        obtain ⟨rfl, rfl⟩ := h2
        exact ⟨readT_imm hob h1 hd hS (fun b hb => hfr i (List.mem_cons_self ..) b hb) e, rfl, fun hx => by rw [hx] at hl; cases hl⟩
      · cases h
theorem getTys_le : ∀ {t : Ty} {ds rest : List D} {fr fr' : List Nat} {x : t.T}, getTys ob lend t ds fr = some (x, rest, fr') → ∀ i, i ∈ fr → i ∈ fr' := by
  intro t
  induction t with
  | pair a b iha ihb =>
    intro ds rest fr fr' x h
    simp only [getTys] at h
    obtain ⟨y, h1, h2⟩ := Option.bind_eq_some_iff.1 h
    obtain ⟨z, h3, h4⟩ := Option.bind_eq_some_iff.1 h2
    simp only [Option.some.injEq, Prod.mk.injEq] at h4
    obtain ⟨rfl, rfl, rfl⟩ := h4
    exact fun i hi => ihb h3 i (iha h1 i hi)
  | _ =>
    intro ds rest fr fr' x h
    cases ds with
    | nil => simp [getTys] at h
    | cons d ds =>
      simp only [getTys] at h
      obtain ⟨y, h1, h2⟩ := Option.bind_eq_some_iff.1 h
      simp only [Option.some.injEq, Prod.mk.injEq] at h2
      obtain ⟨rfl, rfl, rfl⟩ := h2
      exact getTy_le h1
theorem getTys_fr : ∀ {t : Ty} {ds rest : List D} {fr fr' : List Nat} {x : t.T}, getTys ob lend t ds fr = some (x, rest, fr') → lend = false → fr' = fr := by
  intro t
  induction t with
  | pair a b iha ihb =>
    intro ds rest fr fr' x h hl
    simp only [getTys] at h
    obtain ⟨y, h1, h2⟩ := Option.bind_eq_some_iff.1 h
    obtain ⟨z, h3, h4⟩ := Option.bind_eq_some_iff.1 h2
    simp only [Option.some.injEq, Prod.mk.injEq] at h4
    obtain ⟨rfl, rfl, rfl⟩ := h4
    exact (ihb h3 hl).trans (iha h1 hl)
  | _ =>
    intro ds rest fr fr' x h hl
    cases ds with
    | nil => simp [getTys] at h
    | cons d ds =>
      simp only [getTys] at h
      obtain ⟨y, h1, h2⟩ := Option.bind_eq_some_iff.1 h
      simp only [Option.some.injEq, Prod.mk.injEq] at h2
      obtain ⟨rfl, rfl, rfl⟩ := h2
      exact getTy_fr h1 hl
theorem getTys_sound (hob : ∀ (i : Nat) (o : Ob), ob[i]? = some o → RelO ob.length β S w (β i) o) (hS : ∀ b, S b → S' b) : ∀ {t : Ty} {ds rest : List D} {fr fr' : List Nat} {x : t.T} {vs : List Value},
    getTys ob lend t ds fr = some (x, rest, fr') → (∀ i, i ∈ fr' → ∀ b, b ∈ blks β ob i → S' b) → RelDs ob.length β S w ds vs →
    ∃ us ws, vs = us ++ ws ∧ us.length = t.size ∧ ImmC S' w t (fun j => us[j]?) x ∧ RelDs ob.length β S w rest ws ∧ (lend = false → fr' = fr) := by
  have one : ∀ (t : Ty) (ds rest : List D) (fr fr' : List Nat) (x : t.T) (vs : List Value), (match ds with | d :: r => (getTy ob lend t d fr).bind fun x => some (x.1, r, x.2) | [] => none) = some (x, rest, fr') →
      (∀ i, i ∈ fr' → ∀ b, b ∈ blks β ob i → S' b) → RelDs ob.length β S w ds vs →
      ∃ us ws, vs = us ++ ws ∧ us.length = t.size ∧ ImmC S' w t (fun j => us[j]?) x ∧ RelDs ob.length β S w rest ws ∧ (lend = false → fr' = fr) := by
    intro t ds rest fr fr' x vs h hfr hd
    cases ds with
    | nil => cases h
    | cons d ds =>
      obtain ⟨y, h1, h2⟩ := Option.bind_eq_some_iff.1 h
      simp only [Option.some.injEq, Prod.mk.injEq] at h2
      obtain ⟨rfl, rfl, rfl⟩ := h2
      obtain ⟨u, us, rfl, h3, h4⟩ := hd
      obtain ⟨h5, h6, h7⟩ := getTy_sound hob hS h1 hfr h3
      refine ⟨[u], us, rfl, h6.symm, ImmC.congr (fun j (hj : j < t.size) => ?_) h5, h4, h7⟩
      obtain rfl : j = 0 := by omega
      rfl
  intro t
  induction t with
  | pair a b iha ihb =>
    intro ds rest fr fr' x vs h hfr hd
    simp only [getTys] at h
    obtain ⟨y, h1, h2⟩ := Option.bind_eq_some_iff.1 h
    obtain ⟨z, h3, h4⟩ := Option.bind_eq_some_iff.1 h2
    simp only [Option.some.injEq, Prod.mk.injEq] at h4
    obtain ⟨rfl, rfl, rfl⟩ := h4
    obtain ⟨us, ws, rfl, h5, h6, h7, h8⟩ := iha h1 (fun i hi => hfr i (getTys_le h3 i hi)) hd
    obtain ⟨us', ws', rfl, h9, h10, h11, h12⟩ := ihb h3 hfr h7
    refine ⟨us ++ us', ws', by simp, by simp [Ty.size, h5, h9], ⟨ImmC.congr (fun j hj => ?_) h6, ImmC.congr (fun j hj => ?_) h10⟩, h11, fun hl => (h12 hl).trans (h8 hl)⟩
    · show (us ++ us')[j]? = us[j]?
      rw [List.getElem?_append_left (by omega)]
    · show (us ++ us')[a.size + j]? = us'[j]?
      rw [List.getElem?_append_right (by omega), h5]; congr 1; omega
  | _ =>
    intro ds rest fr fr' x vs h hfr hd
    refine one _ ds rest fr fr' x vs ?_ hfr hd
    cases ds with
    | nil => simp [getTys] at h
    | cons d ds => simpa only [getTys] using h
theorem getRow_sound (hob : ∀ (i : Nat) (o : Ob), ob[i]? = some o → RelO ob.length β S w (β i) o) (hS : ∀ b, S b → S' b) {t : Ty} {ds : List D} {fr fr' : List Nat} {x : t.T} {vs : List Value}
    (h : getRow ob lend t ds fr = some (x, fr')) (hfr : ∀ i, i ∈ fr' → ∀ b, b ∈ blks β ob i → S' b) (hd : RelDs ob.length β S w ds vs) :
    vs.length = t.size ∧ ImmC S' w t (fun j => vs[j]?) x ∧ (lend = false → fr' = fr) ∧ (∀ i, i ∈ fr → i ∈ fr') := by
  unfold getRow at h
  obtain ⟨y, h1, h2⟩ := Option.bind_eq_some_iff.1 h
  split at h2
  · rename_i hr
    simp only [Option.some.injEq, Prod.mk.injEq] at h2
    obtain ⟨rfl, rfl⟩ := h2
    obtain ⟨us, ws, rfl, h5, h6, h7, h8⟩ := getTys_sound hob hS (show getTys ob lend t ds fr = some (y.1, y.2.1, y.2.2) from h1) hfr hd
    rw [hr] at h7
    obtain rfl : ws = [] := h7
    rw [List.append_nil]
    exact ⟨h5, h6, h8, getTys_le (show getTys ob lend t ds fr = some (y.1, y.2.1, y.2.2) from h1)⟩
  · cases h2
structure Tgt (β β' : Nat → GL) (ob : List Ob) (S' : Nat → Prop) (n' : Nat) (m : Mt) : Prop where
  rho : ∀ j i, m.rho.lookup j = some i → j < n' ∧ β' j = β i
  nils : ∀ j, j ∈ m.nils → j < n' ∧ β' j = .row (.slice none 0 0)
  fr : ∀ i, i ∈ m.fr → ∀ b, b ∈ blks β ob i → S' b
theorem Tgt.mono {β β' : Nat → GL} {ob : List Ob} {S' : Nat → Prop} {n' : Nat} {m m' : Mt} (h : Tgt β β' ob S' n' m') (hle : m.le m') : Tgt β β' ob S' n' m :=
  ⟨fun j i x => h.rho j i (hle.1 j i x), fun j x => h.nils j (hle.2.1 j x), fun i x => h.fr i (hle.2.2 i x)⟩
theorem fnsOf_some {f : FuncId} {d : D} {s : Bs} (h : fnsOf f d = some s) : d = .fn f [.str s] [] := by
  unfold fnsOf at h
  split at h
  · split at h
    · rename_i e
      simp only [Option.some.injEq] at h
      subst e
      subst h
      rfl
    · cases h
  · cases h
theorem matchP_step : ∀ {ps : List Pat} {ds : List D} {m m' : Mt} {x : PatsT ps}, matchP ob lend ps ds m = some (x, m') → Mt.Step lend m m'
  | [], [], m, m', x, h => by simp only [matchP, Option.some.injEq, Prod.mk.injEq] at h; obtain ⟨_, rfl⟩ := h; exact .refl _ _
  | [], _ :: _, m, m', x, h => by simp [matchP] at h
  | p :: ps, ds, m, m', x, h => by
    cases p
    case cells t =>
      cases ds <;> simp only [matchP] at h <;>
      · obtain ⟨y, h1, h2⟩ := Option.bind_eq_some_iff.1 h
        obtain ⟨z, h3, h4⟩ := Option.bind_eq_some_iff.1 h2
        simp only [Option.some.injEq, Prod.mk.injEq] at h4
        obtain ⟨_, rfl⟩ := h4
        exact (Mt.Step.withFr (getTys_le h1) (getTys_fr h1)).trans (matchP_step h3)
    all_goals cases ds with
      | nil => simp [matchP] at h
      | cons d ds => ?_
    case ty t =>
      simp only [matchP] at h
      obtain ⟨y, h1, h2⟩ := Option.bind_eq_some_iff.1 h
      obtain ⟨z, h3, h4⟩ := Option.bind_eq_some_iff.1 h2
      simp only [Option.some.injEq, Prod.mk.injEq] at h4
      obtain ⟨_, rfl⟩ := h4
      exact (Mt.Step.withFr (getTy_le h1) (getTy_fr h1)).trans (matchP_step h3)
    case agg t =>
      cases d <;> simp only [matchP] at h <;> try cases h
      obtain ⟨y, h1, h2⟩ := Option.bind_eq_some_iff.1 h
      obtain ⟨z, h3, h4⟩ := Option.bind_eq_some_iff.1 h2
      simp only [Option.some.injEq, Prod.mk.injEq] at h4
      obtain ⟨_, rfl⟩ := h4
      unfold getRow at h1
      obtain ⟨u, h5, h6⟩ := Option.bind_eq_some_iff.1 h1
      split at h6
      · simp only [Option.some.injEq] at h6
        subst h6
        have h7 := show getTys ob lend t _ _ = some (u.1, u.2.1, u.2.2) from h5
        exact (Mt.Step.withFr (getTys_le h7) (getTys_fr h7)).trans (matchP_step h3)
      · cases h6
    case aggn k =>
      cases d <;> simp only [matchP] at h <;> try cases h
      split at h
      · exact matchP_step h
      · cases h
    case yldn j k =>
      cases d <;> simp only [matchP] at h <;> try cases h
      split at h
      · obtain ⟨m1, h1, h2⟩ := Option.bind_eq_some_iff.1 h; exact (Mt.assign_step h1).trans (matchP_step h2)
      · cases h
    case vec j =>
      cases d <;> simp only [matchP] at h <;> try cases h
      case vec i => obtain ⟨m1, h1, h2⟩ := Option.bind_eq_some_iff.1 h; exact (Mt.assign_step h1).trans (matchP_step h2)
      case nsl => obtain ⟨m1, h1, h2⟩ := Option.bind_eq_some_iff.1 h; exact (Mt.nil_step h1).trans (matchP_step h2)
    case ptr j o =>
      cases d <;> simp only [matchP] at h <;> try cases h
      split at h
      · obtain ⟨m1, h1, h2⟩ := Option.bind_eq_some_iff.1 h; exact (Mt.assign_step h1).trans (matchP_step h2)
      · cases h
    case bsl j o =>
      cases d <;> simp only [matchP] at h <;> try cases h
      split at h
      · obtain ⟨m1, h1, h2⟩ := Option.bind_eq_some_iff.1 h; exact (Mt.assign_step h1).trans (matchP_step h2)
      · cases h
    case gptr j o =>
      cases d <;> simp only [matchP] at h <;> try cases h
      split at h
      · exact matchP_step h
      · cases h
    case fn f fi ca =>
      cases d <;> simp only [matchP] at h <;> try cases h
      split at h
      · obtain ⟨m1, h1, h2⟩ := Option.bind_eq_some_iff.1 h
        obtain ⟨m2, h3, h4⟩ := Option.bind_eq_some_iff.1 h2
        exact (Mt.ptrs_step h1).trans ((Mt.ptrs_step h3).trans (matchP_step h4))
      · cases h
    case any => simp only [matchP] at h; exact matchP_step h
    case sub j sz =>
      cases d <;> simp only [matchP] at h <;> try cases h
      split at h
      · obtain ⟨m1, h1, h2⟩ := Option.bind_eq_some_iff.1 h
        obtain ⟨z, h3, h4⟩ := Option.bind_eq_some_iff.1 h2
        simp only [Option.some.injEq, Prod.mk.injEq] at h4
        obtain ⟨_, rfl⟩ := h4
        exact (Mt.assign_step h1).trans (matchP_step h3)
      · cases h
    case fns f =>
      simp only [matchP] at h
      obtain ⟨y, h1, h2⟩ := Option.bind_eq_some_iff.1 h
      obtain ⟨z, h3, h4⟩ := Option.bind_eq_some_iff.1 h2
      simp only [Option.some.injEq, Prod.mk.injEq] at h4
      obtain ⟨_, rfl⟩ := h4
      exact matchP_step h3
    case np j o =>
      cases d <;> simp only [matchP] at h <;> try cases h
      case np i o' =>
        split at h
        · obtain ⟨m1, h1, h2⟩ := Option.bind_eq_some_iff.1 h; exact (Mt.assign_step h1).trans (matchP_step h2)
        · cases h
      case nilp =>
        split at h
        · exact matchP_step h
        · cases h
      case ptr i o =>
        split at h
        · obtain ⟨m1, h1, h2⟩ := Option.bind_eq_some_iff.1 h; exact (Mt.assign_step h1).trans (matchP_step h2)
        · cases h
    all_goals
      cases d <;> simp only [matchP] at h <;> try cases h
      exact matchP_step h
theorem matchP_le {ps : List Pat} {ds : List D} {m m' : Mt} {x : PatsT ps} (h : matchP ob lend ps ds m = some (x, m')) : m.le m' := (matchP_step h).le
theorem ptrs_sound {β' : Nat → GL} {n' : Nat} : ∀ {ps : List (Nat × Nat)} {ds : List D} {m m' : Mt} {vs : List Value}, m.ptrs ps ds = some m' → Tgt β β' ob S' n' m' → RelDs ob.length β S w ds vs →
    RelDs n' β' S' w (ps.map fun p => .ptr p.1 p.2) vs
  | [], [], m, m', vs, h, ht, hd => hd
  | [], _ :: _, m, m', vs, h, ht, hd => by simp [Mt.ptrs] at h
  | p :: ps, [], m, m', vs, h, ht, hd => by simp [Mt.ptrs] at h
  | p :: ps, d :: ds, m, m', vs, h, ht, hd => by
    cases d <;> simp only [Mt.ptrs] at h <;> try cases h
    rename_i i o
    split at h
    · rename_i ho
      obtain ⟨m1, h1, h2⟩ := Option.bind_eq_some_iff.1 h
      obtain ⟨u, us, rfl, h3, h4⟩ := hd
      have h5 := Mt.assign_le h1
      obtain ⟨h6, h7⟩ := (ht.mono (Mt.ptrs_le h2).1).rho _ _ h5.2.1
      refine ⟨u, us, rfl, ⟨h6, ?_⟩, ptrs_sound h2 ht h4⟩
      rw [h7, ← ho]
      exact h3.2
    · cases h
theorem matchP_sound {β' : Nat → GL} {n' : Nat} (hob : ∀ (i : Nat) (o : Ob), ob[i]? = some o → RelO ob.length β S w (β i) o) (hS : ∀ b, S b → S' b) : ∀ {ps : List Pat} {ds : List D} {m m' : Mt} {x : PatsT ps} {vs : List Value},
    matchP ob lend ps ds m = some (x, m') → Tgt β β' ob S' n' m' → RelDs ob.length β S w ds vs → RelDs n' β' S' w (injP id ps x) vs
  | [], [], m, m', x, vs, h, ht, hd => hd
  | [], _ :: _, m, m', x, vs, h, ht, hd => by simp [matchP] at h
  | p :: ps, ds, m, m', x, vs, h, ht, hd => by
    cases p
    case cells t =>
      have h' : ((getTys ob lend t ds m.fr).bind fun x => (matchP ob lend ps x.2.1 { m with fr := x.2.2 }).bind fun y => some ((x.1, y.1), y.2)) = some (x, m') := by
        cases ds <;> simpa only [matchP] using h
      obtain ⟨y, h1, h2⟩ := Option.bind_eq_some_iff.1 h'
      obtain ⟨z, h3, h4⟩ := Option.bind_eq_some_iff.1 h2
      simp only [Option.some.injEq, Prod.mk.injEq] at h4
      obtain ⟨rfl, rfl⟩ := h4
      have hle := matchP_le (show matchP ob lend ps _ _ = some (z.1, z.2) from h3)
      obtain ⟨us, ws, rfl, h5, h6, h7, _⟩ := getTys_sound hob hS (show getTys ob lend t ds m.fr = some (y.1, y.2.1, y.2.2) from h1) (fun i hi => ht.fr i (hle.2.2 i hi)) hd
      exact RelDs.append (RelDs.cells h5 h6) (matchP_sound hob hS (show matchP ob lend ps _ _ = some (z.1, z.2) from h3) ht h7)
    all_goals cases ds with
      | nil => simp [matchP] at h
      | cons d ds => ?_
    all_goals obtain ⟨u, us, rfl, h3, h4⟩ := hd
    case ty t =>
      simp only [matchP] at h
      obtain ⟨y, h1, h2⟩ := Option.bind_eq_some_iff.1 h
      obtain ⟨z, h5, h6⟩ := Option.bind_eq_some_iff.1 h2
      simp only [Option.some.injEq, Prod.mk.injEq] at h6
      obtain ⟨rfl, rfl⟩ := h6
      have hle := matchP_le (show matchP ob lend ps _ _ = some (z.1, z.2) from h5)
      obtain ⟨h7, h8, _⟩ := getTy_sound hob hS (show getTy ob lend t d m.fr = some (y.1, y.2) from h1) (fun i hi => ht.fr i (hle.2.2 i hi)) h3
      refine RelDs.append (vs := [u]) (RelDs.cells h8.symm (ImmC.congr (fun j hj => ?_) h7)) (matchP_sound hob hS (show matchP ob lend ps _ _ = some (z.1, z.2) from h5) ht h4)
      obtain rfl : j = 0 := by omega
      rfl
    case agg t =>
      cases d <;> simp only [matchP] at h <;> try cases h
      rename_i cs
      obtain ⟨y, h1, h2⟩ := Option.bind_eq_some_iff.1 h
      obtain ⟨z, h5, h6⟩ := Option.bind_eq_some_iff.1 h2
      simp only [Option.some.injEq, Prod.mk.injEq] at h6
      obtain ⟨rfl, rfl⟩ := h6
      have hle := matchP_le (show matchP ob lend ps _ _ = some (z.1, z.2) from h5)
      obtain ⟨vs', rfl, h9⟩ := h3
      obtain ⟨h7, h8, _⟩ := getRow_sound hob hS (show getRow ob lend t cs m.fr = some (y.1, y.2) from h1) (fun i hi => ht.fr i (hle.2.2 i hi)) h9
      exact ⟨_, us, rfl, ⟨vs', rfl, RelDs.cells h7 h8⟩, matchP_sound hob hS (show matchP ob lend ps _ _ = some (z.1, z.2) from h5) ht h4⟩
    case aggn k =>
      cases d <;> simp only [matchP] at h <;> try cases h
      rename_i cs
      split at h
      · rename_i hk
        obtain ⟨vs', rfl, h9⟩ := h3
        have h10 := matchP_sound hob hS h ht (RelDs.append h9 h4)
        have hl := RelDs.length h9
        refine ⟨_, us, rfl, ⟨vs', rfl, ?_⟩, ?_⟩
        · have := h10.take k
          rwa [List.take_left' (by omega)] at this
        · have := h10.drop k
          rwa [List.drop_left' (by omega)] at this
      · cases h
    case yldn j k =>
      cases d <;> simp only [matchP] at h <;> try cases h
      rename_i i cs
      split at h
      · rename_i hk
        obtain ⟨m1, h1, h2⟩ := Option.bind_eq_some_iff.1 h
        obtain ⟨h5, l, rec, h11, rfl, h9⟩ := h3
        obtain ⟨h6, h7⟩ := (ht.mono (matchP_le h2)).rho _ _ (Mt.assign_le h1).2.1
        have h10 := matchP_sound hob hS h2 ht (RelDs.append h9 h4)
        have hl := RelDs.length h9
        refine ⟨_, us, rfl, ⟨h6, l, rec, h7.trans h11, rfl, ?_⟩, ?_⟩
        · have := h10.take k
          rwa [List.take_left' (by omega)] at this
        · have := h10.drop k
          rwa [List.drop_left' (by omega)] at this
      · cases h
    case vec j =>
      cases d <;> simp only [matchP] at h <;> try cases h
      case vec i =>
        obtain ⟨m1, h1, h2⟩ := Option.bind_eq_some_iff.1 h
        obtain ⟨h6, h7⟩ := (ht.mono (matchP_le h2)).rho _ _ (Mt.assign_le h1).2.1
        exact ⟨u, us, rfl, ⟨h6, h7.trans h3.2.1, h3.2.2⟩, matchP_sound hob hS h2 ht h4⟩
      case nsl =>
        obtain ⟨m1, h1, h2⟩ := Option.bind_eq_some_iff.1 h
        obtain ⟨h6, h7⟩ := (ht.mono (matchP_le h2)).nils _ (Mt.nil_le h1).2.1
        obtain rfl : u = .slice none 0 0 := h3
        exact ⟨_, us, rfl, ⟨h6, h7, _, _, _, rfl⟩, matchP_sound hob hS h2 ht h4⟩
    case ptr j o =>
      cases d <;> simp only [matchP] at h <;> try cases h
      rename_i i o'
      split at h
      · rename_i ho
        obtain ⟨m1, h1, h2⟩ := Option.bind_eq_some_iff.1 h
        obtain ⟨h6, h7⟩ := (ht.mono (matchP_le h2)).rho _ _ (Mt.assign_le h1).2.1
        refine ⟨u, us, rfl, ⟨h6, ?_⟩, matchP_sound hob hS h2 ht h4⟩
        simp only [id_eq]
        rw [h7, ← ho]
        exact h3.2
      · cases h
    case bsl j o =>
      cases d <;> simp only [matchP] at h <;> try cases h
      rename_i i o'
      split at h
      · rename_i ho
        obtain ⟨m1, h1, h2⟩ := Option.bind_eq_some_iff.1 h
        obtain ⟨h6, h7⟩ := (ht.mono (matchP_le h2)).rho _ _ (Mt.assign_le h1).2.1
        refine ⟨u, us, rfl, ⟨h6, ?_⟩, matchP_sound hob hS h2 ht h4⟩
        simp only [id_eq]
        rw [h7, ← ho]
        exact h3.2
      · cases h
    case gptr j o =>
      cases d <;> simp only [matchP] at h <;> try cases h
      split at h
      · rename_i ho
        refine ⟨u, us, rfl, ?_, matchP_sound hob hS h ht h4⟩
        rw [← ho.1, ← ho.2]
        exact h3
      · cases h
    case fn f fi ca =>
      cases d <;> simp only [matchP] at h <;> try cases h
      split at h
      · rename_i ho
        obtain ⟨m1, h1, h2⟩ := Option.bind_eq_some_iff.1 h
        obtain ⟨m2, h5, h6⟩ := Option.bind_eq_some_iff.1 h2
        obtain ⟨vs1, us1, rfl, h7, h8⟩ := h3
        have ht2 := ht.mono (matchP_le h6)
        refine ⟨_, us, rfl, ⟨vs1, us1, by rw [ho], ?_, ?_⟩, matchP_sound hob hS h6 ht h4⟩
        · exact ptrs_sound h1 (ht2.mono (Mt.ptrs_le h5).1) h7
        · exact ptrs_sound h5 ht2 h8
      · cases h
    case any => simp only [matchP] at h; exact ⟨u, us, rfl, trivial, matchP_sound hob hS h ht h4⟩
    case sub j sz =>
      cases d <;> simp only [matchP] at h <;> try cases h
      split at h
      · rename_i hsz
        subst hsz
        obtain ⟨m1, h1, h2⟩ := Option.bind_eq_some_iff.1 h
        obtain ⟨z, h5, h6⟩ := Option.bind_eq_some_iff.1 h2
        simp only [Option.some.injEq, Prod.mk.injEq] at h6
        obtain ⟨rfl, rfl⟩ := h6
        have h5' := show matchP ob lend ps ds m1 = some (z.1, z.2) from h5
        obtain ⟨h6, h7⟩ := (ht.mono (matchP_le h5')).rho _ _ (Mt.assign_le h1).2.1
        obtain ⟨_, g1, A, len, cap, c, A', g2, g3⟩ := h3
        exact ⟨u, us, rfl, ⟨h6, g1, A, len, cap, c, A', h7.trans g2, g3⟩, matchP_sound hob hS h5' ht h4⟩
      · cases h
    case fns f =>
      simp only [matchP] at h
      obtain ⟨y, h1, h2⟩ := Option.bind_eq_some_iff.1 h
      obtain ⟨z, h5, h6⟩ := Option.bind_eq_some_iff.1 h2
      simp only [Option.some.injEq, Prod.mk.injEq] at h6
      obtain ⟨rfl, rfl⟩ := h6
      obtain rfl := fnsOf_some h1
      exact ⟨_, us, rfl, h3, matchP_sound hob hS h5 ht h4⟩
    case np j o =>
      cases d <;> simp only [matchP] at h <;> try cases h
      case np i o' =>
        split at h
        · rename_i ho
          subst ho
          obtain ⟨m1, h1, h2⟩ := Option.bind_eq_some_iff.1 h
          obtain ⟨h6, h7⟩ := (ht.mono (matchP_le h2)).rho _ _ (Mt.assign_le h1).2.1
          refine ⟨u, us, rfl, ⟨h6, ?_⟩, matchP_sound hob hS h2 ht h4⟩
          simp only [id_eq]
          rw [h7]
          exact h3.2
        · cases h
      case nilp =>
        split at h
        · rename_i i hi
          obtain ⟨h6, h7⟩ := (ht.mono (matchP_le h)).rho _ _ hi
          exact ⟨u, us, rfl, ⟨h6, .inl h3⟩, matchP_sound hob hS h ht h4⟩
        · cases h
      case ptr i o =>
        split at h
        · rename_i ho
          subst ho
          obtain ⟨m1, h1, h2⟩ := Option.bind_eq_some_iff.1 h
          obtain ⟨h6, h7⟩ := (ht.mono (matchP_le h2)).rho _ _ (Mt.assign_le h1).2.1
          obtain ⟨h8, ⟨b, h9, h10⟩ | ⟨b, v, h9, h10⟩⟩ := h3
          · exact ⟨u, us, rfl, ⟨h6, .inr (.inl ⟨b, h7.trans h9, h10⟩)⟩, matchP_sound hob hS h2 ht h4⟩
          · exact ⟨u, us, rfl, ⟨h6, .inr (.inr ⟨b, v, h7.trans h9, h10⟩)⟩, matchP_sound hob hS h2 ht h4⟩
        · cases h
    all_goals
      cases d <;> simp only [matchP] at h <;> try cases h
      exact ⟨u, us, rfl, h3, matchP_sound hob hS h ht h4⟩
theorem matchO_step : ∀ {ps : List OPat} {j : Nat} {m m' : Mt} {x : OPatsT ps}, matchO ob lend j ps m = some (x, m') → Mt.Step lend m m'
  | [], j, m, m', x, h => by simp only [matchO, Option.some.injEq, Prod.mk.injEq] at h; obtain ⟨_, rfl⟩ := h; exact .refl _ _
  | p :: ps, j, m, m', x, h => by
    cases p <;> simp only [matchO] at h
    case gone => exact matchO_step h
    case box t cs =>
      split at h
      · split at h
        · split at h
          · obtain ⟨y, h1, h2⟩ := Option.bind_eq_some_iff.1 h
            obtain ⟨z, h3, h4⟩ := Option.bind_eq_some_iff.1 h2
            simp only [Option.some.injEq, Prod.mk.injEq] at h4
            obtain ⟨_, rfl⟩ := h4
            exact (matchP_step (show matchP ob lend cs _ m = some (y.1, y.2) from h1)).trans (matchO_step h3)
          · cases h
        · cases h
      · cases h
    case vec mk e t =>
      split at h
      · split at h
        · split at h
          · split at h
            · obtain ⟨z, h3, h4⟩ := Option.bind_eq_some_iff.1 h
              simp only [Option.some.injEq, Prod.mk.injEq] at h4
              obtain ⟨_, rfl⟩ := h4
              exact matchO_step h3
            · cases h
          · cases h
        · cases h
      · split at h
        · obtain ⟨z, h3, h4⟩ := Option.bind_eq_some_iff.1 h
          simp only [Option.some.injEq, Prod.mk.injEq] at h4
          obtain ⟨_, rfl⟩ := h4
          exact matchO_step h3
        · cases h
    case bld T e =>
      split at h
      · split at h
        · split at h
          · cases h
          · obtain ⟨z, h3, h4⟩ := Option.bind_eq_some_iff.1 h
            simp only [Option.some.injEq, Prod.mk.injEq] at h4
            obtain ⟨_, rfl⟩ := h4
            exact matchO_step h3
        · cases h
      · cases h
    case lp =>
      split at h
      · split at h
        · exact matchO_step h
        · cases h
      · cases h
    case sit =>
      split at h
      · split at h
        · obtain ⟨z, h3, h4⟩ := Option.bind_eq_some_iff.1 h
          simp only [Option.some.injEq, Prod.mk.injEq] at h4
          obtain ⟨_, rfl⟩ := h4
          exact matchO_step h3
        · cases h
      · cases h
theorem ob_live {i : Nat} {o : Ob} (h : ob.getD i .gone = o) (ho : o.live = true) : ob[i]? = some o := getD_some h (by rintro rfl; cases ho)
theorem matchO_sound {β' : Nat → GL} {n' : Nat} (hob : ∀ (i : Nat) (o : Ob), ob[i]? = some o → RelO ob.length β S w (β i) o) (hS : ∀ b, S b → S' b) : ∀ {ps : List OPat} {j : Nat} {m m' : Mt} {x : OPatsT ps},
    matchO ob lend j ps m = some (x, m') → Tgt β β' ob S' n' m' → ∀ (k : Nat) (o' : Ob), (injO id ps x)[k]? = some o' →
      RelO n' β' S' w (β' (j + k)) o' ∧ (o'.live = true → (∃ i o, m'.rho.lookup (j + k) = some i ∧ ob[i]? = some o ∧ o.live = true ∧ β' (j + k) = β i) ∨ (j + k ∈ m'.nils ∧ β' (j + k) = .row (.slice none 0 0)))
  | [], j, m, m', x, h, ht, k, o', ho' => by simp [injO] at ho'
  | p :: ps, j, m, m', x, h, ht, k, o', ho' => by
    have tail : ∀ {m1 : Mt} {y : OPatsT ps}, matchO ob lend (j + 1) ps m1 = some (y, m') → ∀ k o', (injO id ps y)[k]? = some o' →
        RelO n' β' S' w (β' (j + (k + 1))) o' ∧ (o'.live = true → (∃ i o, m'.rho.lookup (j + (k + 1)) = some i ∧ ob[i]? = some o ∧ o.live = true ∧ β' (j + (k + 1)) = β i) ∨ (j + (k + 1) ∈ m'.nils ∧ β' (j + (k + 1)) = .row (.slice none 0 0))) := by
      intro m1 y hy k o' ho'
      have := matchO_sound hob hS hy ht k o' ho'
      rwa [show j + 1 + k = j + (k + 1) by omega] at this
    cases p <;> simp only [matchO] at h
    case gone =>
      cases k with
      | zero => simp only [injO, List.getElem?_cons_zero, Option.some.injEq] at ho'; subst ho'; exact ⟨by cases β' (j + 0) <;> trivial, fun hx => by cases hx⟩
      | succ k => exact tail h k o' (by simpa [injO] using ho')
    case box t cs =>
      split at h
      · rename_i i hi
        split at h
        · rename_i t' ds hd
          split at h
          · rename_i ht'
            subst ht'
            obtain ⟨y, h1, h2⟩ := Option.bind_eq_some_iff.1 h
            obtain ⟨z, h3, h4⟩ := Option.bind_eq_some_iff.1 h2
            simp only [Option.some.injEq, Prod.mk.injEq] at h4
            obtain ⟨rfl, rfl⟩ := h4
            have h3' := show matchO ob lend (j + 1) ps y.2 = some (z.1, z.2) from h3
            cases k with
            | succ k => exact tail h3' k o' (by simpa [injO] using ho')
            | zero =>
              simp only [injO, List.getElem?_cons_zero, Option.some.injEq] at ho'
              subst ho'
              have h1' := show matchP ob lend cs ds m = some (y.1, y.2) from h1
              have hle := (matchP_step h1').le.trans (matchO_step h3').le
              have hlk := hle.1 j i hi
              obtain ⟨hjn, hβ⟩ := ht.rho j i hlk
              have hl := ob_live hd rfl
              refine ⟨?_, fun _ => .inl ⟨i, _, hlk, hl, rfl, hβ⟩⟩
              have ho := hob i _ hl
              rw [Nat.add_zero, hβ]
              cases hb : β i with
              | lpr l rec => rw [hb] at ho; exact ho.elim
              | row v => rw [hb] at ho; exact ho.elim
              | two b v => rw [hb] at ho; exact ho.elim
              | blk b =>
                rw [hb] at ho
                obtain ⟨vs, h5, h6⟩ := ho
                exact ⟨vs, h5, matchP_sound hob hS h1' (ht.mono (matchO_step h3').le) h6⟩
          · cases h
        · cases h
      · cases h
    case vec mk e t =>
      split at h
      · rename_i i hi
        split at h
        · rename_i mk' e' t' l hd
          split at h
          · rename_i ht'
            subst ht'
            split at h
            · rename_i he
              obtain ⟨rfl, rfl⟩ := he
              obtain ⟨z, h3, h4⟩ := Option.bind_eq_some_iff.1 h
              simp only [Option.some.injEq, Prod.mk.injEq] at h4
              obtain ⟨rfl, rfl⟩ := h4
              have h3' := show matchO ob lend (j + 1) ps m = some (z.1, z.2) from h3
              cases k with
              | succ k => exact tail h3' k o' (by simpa [injO] using ho')
              | zero =>
                simp only [injO, List.getElem?_cons_zero, Option.some.injEq] at ho'
                subst ho'
                have hlk := (matchO_step h3').le.1 j i hi
                obtain ⟨hjn, hβ⟩ := ht.rho j i hlk
                obtain ⟨hl, v, hv, hr, hbl⟩ := obVec hob hd
                refine ⟨?_, fun _ => .inl ⟨i, _, hlk, hl, rfl, hβ⟩⟩
                rw [Nat.add_zero, hβ, hv]
                obtain ⟨xs, h5, h6, h7⟩ := hr
                exact ⟨xs, h5, h6, fun k x hk => ImmC.imp hS (fun _ _ => rfl) (h7 k x hk)⟩
            · cases h
          · cases h
        · cases h
      · split at h
        · rename_i hn
          obtain ⟨z, h3, h4⟩ := Option.bind_eq_some_iff.1 h
          simp only [Option.some.injEq, Prod.mk.injEq] at h4
          obtain ⟨rfl, rfl⟩ := h4
          have h3' := show matchO ob lend (j + 1) ps m = some (z.1, z.2) from h3
          cases k with
          | succ k => exact tail h3' k o' (by simpa [injO] using ho')
          | zero =>
            simp only [injO, List.getElem?_cons_zero, Option.some.injEq] at ho'
            subst ho'
            have hnm : j ∈ m.nils := by simpa using hn.1
            have hnm' := (matchO_step h3').le.2.1 j hnm
            obtain ⟨hjn, hβ⟩ := ht.nils j hnm'
            refine ⟨?_, fun _ => .inr ⟨hnm', by rw [Nat.add_zero, hβ]⟩⟩
            rw [Nat.add_zero, hβ]
            exact ⟨[], ⟨by simp, .inl ⟨rfl, rfl⟩⟩, by simp, fun k x hk => by simp at hk⟩
        · cases h
    case bld T e =>
      split at h
      · rename_i i hi
        split at h
        · rename_i T' e' s hd
          split at h
          · cases h
          · rename_i he
            obtain ⟨rfl, rfl⟩ : T' = T ∧ e' = e := ⟨Decidable.byContradiction fun x => he (.inl x), Decidable.byContradiction fun x => he (.inr x)⟩
            obtain ⟨z, h3, h4⟩ := Option.bind_eq_some_iff.1 h
            simp only [Option.some.injEq, Prod.mk.injEq] at h4
            obtain ⟨rfl, rfl⟩ := h4
            have h3' := show matchO ob lend (j + 1) ps m = some (z.1, z.2) from h3
            cases k with
            | succ k => exact tail h3' k o' (by simpa [injO] using ho')
            | zero =>
              simp only [injO, List.getElem?_cons_zero, Option.some.injEq] at ho'
              subst ho'
              have hlk := (matchO_step h3').le.1 j i hi
              obtain ⟨hjn, hβ⟩ := ht.rho j i hlk
              have hl := ob_live hd rfl
              refine ⟨?_, fun _ => .inl ⟨i, _, hlk, hl, rfl, hβ⟩⟩
              have ho := hob i _ hl
              rw [Nat.add_zero, hβ]
              cases hb : β i with
              | lpr l rec => rw [hb] at ho; exact ho.elim
              | row v => rw [hb] at ho; exact ho.elim
              | blk b => rw [hb] at ho; exact ho.elim
              | two b v => rw [hb] at ho; exact ho
        · cases h
      · cases h
    case sit =>
      split at h
      · rename_i i hi
        split at h
        · rename_i s0 p0 hd
          obtain ⟨z, h3, h4⟩ := Option.bind_eq_some_iff.1 h
          simp only [Option.some.injEq, Prod.mk.injEq] at h4
          obtain ⟨rfl, rfl⟩ := h4
          have h3' := show matchO ob lend (j + 1) ps m = some (z.1, z.2) from h3
          cases k with
          | succ k => exact tail h3' k o' (by simpa [injO] using ho')
          | zero =>
            simp only [injO, List.getElem?_cons_zero, Option.some.injEq] at ho'
            subst ho'
            have hlk := (matchO_step h3').le.1 j i hi
            obtain ⟨hjn, hβ⟩ := ht.rho j i hlk
            have hl := ob_live hd rfl
            refine ⟨?_, fun _ => .inl ⟨i, _, hlk, hl, rfl, hβ⟩⟩
            have ho := hob i _ hl
            rw [Nat.add_zero, hβ]
            cases hb : β i with
            | row v => rw [hb] at ho; exact ho.elim
            | lpr l rec => rw [hb] at ho; exact ho.elim
            | two b v => rw [hb] at ho; exact ho.elim
            | blk b => rw [hb] at ho; exact ho
        · cases h
      · cases h
    case lp =>
      split at h
      · rename_i i hi
        split at h
        · rename_i hd
          cases k with
          | succ k => exact tail h k o' (by simpa [injO] using ho')
          | zero =>
            simp only [injO, List.getElem?_cons_zero, Option.some.injEq] at ho'
            subst ho'
            have hlk := (matchO_step h).le.1 j i hi
            obtain ⟨hjn, hβ⟩ := ht.rho j i hlk
            have hl := ob_live hd rfl
            refine ⟨?_, fun _ => .inl ⟨i, _, hlk, hl, rfl, hβ⟩⟩
            have ho := hob i _ hl
            rw [Nat.add_zero, hβ]
            cases hb : β i with
            | row v => rw [hb] at ho; exact ho.elim
            | blk b => rw [hb] at ho; exact ho.elim
            | two b v => rw [hb] at ho; exact ho.elim
            | lpr l rec => trivial
        · cases h
      · cases h
end
end
theorem injO_length (ren : Nat → Nat) : ∀ (ps : List OPat) (x : OPatsT ps), (injO ren ps x).length = ps.length
  | [], _ => rfl
  | .box _ _ :: r, x => by simp [injO, injO_length ren r]
  | .vec _ _ _ :: r, x => by simp [injO, injO_length ren r]
  | .bld _ _ :: r, x => by simp [injO, injO_length ren r]
  | .sit :: r, x => by simp [injO, injO_length ren r]
  | .lp :: r, x => by simp [injO, injO_length ren r]
  | .gone :: r, x => by simp [injO, injO_length ren r]
theorem idM_lookup {m0 j i : Nat} {os : List OPat} (h : (idM m0 os).rho.lookup j = some i) : i = j ∧ j < m0 := by
  have := lookup_mem h
  simp only [idM, List.mem_map, List.mem_filter, List.mem_range, Prod.mk.injEq] at this
  obtain ⟨a, ⟨h1, _⟩, h2, h3⟩ := this
  omega
theorem idM_inj (m0 : Nat) (os : List OPat) : (idM m0 os).Inj := ⟨fun j j' i h h' => by rw [← (idM_lookup h).1, ← (idM_lookup h').1], fun j h => by simp [idM] at h⟩
def remap (β : Nat → GL) (m : Mt) (j : Nat) : GL := match m.rho.lookup j with
  | some i => β i
  | none => if m.nils.contains j then .row (.slice none 0 0) else β j
theorem fixes_keep {β : Nat → GL} {m : Mt} {m0 j : Nat} (h : m.fixes m0 = true) (hj : j < m0) : remap β m j = β j := by
  simp only [Mt.fixes, Bool.and_eq_true, List.all_eq_true, Bool.or_eq_true, decide_eq_true_eq, beq_iff_eq] at h
  unfold remap
  split
  · rename_i i hl
    rcases h.1 _ (lookup_mem hl) with h1 | h1
    · simp only at h1; omega
    · simp only at h1; rw [h1]
  · split
    · rename_i hc
      have := h.2 j (by simpa using hc)
      omega
    · rfl
theorem Mt.inside_spec {m : Mt} {m0 n : Nat} (h : m.inside m0 n = true) : m0 ≤ n ∧ (∀ j i, m.rho.lookup j = some i → j < n) ∧ ∀ j, j ∈ m.nils → j < n := by
  simp only [Mt.inside, Bool.and_eq_true, List.all_eq_true, Bool.or_eq_true, decide_eq_true_eq] at h
  refine ⟨h.2, fun j i hj => ?_, h.1.2⟩
  have := h.1.1 _ (lookup_mem hj)
  have := h.2
  simp only at *
  omega
theorem match_rel {c : Ctx} {β : Nat → GL} {S S' : Nat → Prop} {ob : List Ob} {w : World} (hI : Inv c β S ob w) {ps : List OPat} {m m1 : Mt} {y : OPatsT ps} {lend : Bool} {m0 : Nat}
    (ho : matchO ob lend 0 ps m1 = some (y, m)) (hin : m.inside m0 ps.length = true) (hinj : m.Inj)
    (hS : ∀ b, S b → S' b) (hS' : ∀ b, S' b → S b ∨ ∃ i, i ∈ m.fr ∧ b ∈ blks β ob i) (hfr : ∀ i, i ∈ m.fr → ∀ b, b ∈ blks β ob i → S' b)
    (hno : ∀ i j o', i ∈ m.fr → m.rho.lookup j = some i → (injO id ps y)[j]? = some o' → o'.live = false)
    (hkeep : ∀ j, j < c.m0 → remap β m j = β j) (hc0 : c.m0 ≤ ps.length) :
    Inv c (remap β m) S' (injO id ps y) w ∧ Tgt β (remap β m) ob S' ps.length m := by
  obtain ⟨hm0, hrl, hnl⟩ := Mt.inside_spec hin
  have ht : Tgt β (remap β m) ob S' ps.length m := by
    refine ⟨fun j i h => ⟨hrl j i h, by simp [remap, h]⟩, fun j h => ⟨hnl j h, ?_⟩, hfr⟩
    simp [remap, hinj.2 j h, h]
  refine ⟨?_, ht⟩
  have hsnd := matchO_sound (n' := ps.length) (β' := remap β m) hI.obj hS ho ht
  simp only [Nat.zero_add] at hsnd
  have hblk : ∀ {j b}, b ∈ blks (remap β m) (injO id ps y) j → ∃ i o', m.rho.lookup j = some i ∧ b ∈ blks β ob i ∧ (injO id ps y)[j]? = some o' ∧ o'.live = true := by
    intro j b hb
    obtain ⟨o', h1, h2, h3⟩ := mem_blks.1 hb
    rcases (hsnd j o' h1).2 h2 with ⟨i, o, h4, h5, h6, h7⟩ | h4
    · exact ⟨i, o', h4, mem_blks.2 ⟨o, h5, h6, h7 ▸ h3⟩, h1, h2⟩
    · rw [h4.2] at h3; simp [GL.blocks, Value.ownBlock] at h3
  refine ⟨fun j o' hj => ?_, fun i j b hij hi hj => ?_, fun j b hj => ?_, fun b hb => ?_, fun b hb => hS b (hI.s0 b hb), fun b hb => ?_, hI.same, fun j hj => ?_, by rw [injO_length]; exact hc0⟩
  · have := (hsnd j o' hj).1
    rwa [injO_length]
  · obtain ⟨i1, o1, h1, h2, _⟩ := hblk hi
    obtain ⟨i2, o2, h3, h4, _⟩ := hblk hj
    by_cases e : i1 = i2
    · subst e; exact hij (hinj.1 i j i1 h1 h3)
    · exact hI.sep i1 i2 b e h2 h4
  · obtain ⟨i, o', h1, h2, h3, h4⟩ := hblk hj
    obtain ⟨h5, h6⟩ := hI.own i b h2
    refine ⟨fun hb => ?_, h6⟩
    rcases hS' b hb with h7 | ⟨k, hk, hkb⟩
    · exact h5 h7
    · by_cases e : k = i
      · subst e
        rw [hno k j o' hk h1 h3] at h4
        cases h4
      · exact hI.sep k i b e hkb h2
  · rcases hS' b hb with h1 | ⟨i, _, h1⟩
    · exact hI.imm b h1
    · exact (hI.own i b h1).2.1
  · rcases hS' b hb with h1 | ⟨i, _, h1⟩
    · exact hI.s1 b h1
    · exact .inr (hI.own i b h1).2.2
  · rw [hkeep j hj]
    exact hI.keep j hj
theorem Shape.proj_rel {c : Ctx} {s : Shape} {σ : St} {t : s.T} {vs : List Value} {w : World} (h : s.proj c.m0 σ = some t) (hr : Rel c σ.tm σ.ob vs w) : Rel c (s.inj t).tm (s.inj t).ob vs w := by
  obtain ⟨β, S, hI, hd⟩ := hr
  unfold Shape.proj at h
  obtain ⟨x, h1, h2⟩ := Option.bind_eq_some_iff.1 h
  obtain ⟨y, h3, h4⟩ := Option.bind_eq_some_iff.1 h2
  split at h4
  · rename_i hin
    simp only [Option.some.injEq] at h4
    subst h4
    simp only [Bool.and_eq_true] at hin
    have h1' := show matchP σ.ob false s.tm σ.tm (idM c.m0 s.ob) = some (x.1, x.2) from h1
    have h3' := show matchO σ.ob false 0 s.ob x.2 = some (y.1, y.2) from h3
    have st := (matchP_step h1').trans (matchO_step h3')
    have hfr : y.2.fr = [] := (st.fr rfl).trans rfl
    obtain ⟨hI', ht⟩ := match_rel hI h3' hin.1 (st.inj (idM_inj _ _)) (S' := S) (fun _ h => h) (fun b hb => .inl hb) (fun i hi => by rw [hfr] at hi; cases hi) (fun i j o' hi => by rw [hfr] at hi; cases hi)
      (fun j hj => fixes_keep hin.2 hj) (Mt.inside_spec hin.1).1
    refine ⟨_, S, hI', ?_⟩
    have := matchP_sound hI.obj (fun _ h => h) h1' (ht.mono (matchO_step h3').le) hd
    simpa [Shape.inj, injO_length] using this
  · cases h4
end Go.En
