/- Text E11 of this seat: written by a program of ours, or by hand; checked by Lean. -/
import Derived.Test.YtfgphjencdhdgaaGreatDoorE9
import Derived.Laws.Externs
set_option linter.unusedVariables false
set_option linter.unusedSimpArgs false
namespace Go.En
open Go.RowKit

section
variable {P : Program} {E : Env}
theorem zh.less {f : FuncId} {sig : Sig} {F G : sig.In → Option sig.Out} (h : zh P E f ⟨sig, F⟩) (hG : ∀ t u, G t = some u → F t = some u) : zh P E f ⟨sig, G⟩ :=
 fun t u β0 S0 w vs ht => h t u β0 S0 w vs (hG t u ht)
theorem zh.env {E' : Env} {f : FuncId} {s : zf6} (h : zh P E f s) (hg : E'.glob = E.glob) (hg2 : E'.gerr = E.gerr) (hg3 : E'.gint = E.gint) (hyl : E.yl = none ∨ E'.yl = E.yl) : zh P E' f s := by
 intro t u β0 S0 w vs ht c hc hy
 refine h t u β0 S0 w vs ht (hc.env hg hg2 hg3) fun r hr Y hY => ?_
 rcases hyl with hyl | hyl
 ·rw [show E.yl = some Y from hY] at hyl
  cases hyl
 ·obtain ⟨h0, hz, l, rec, k1, k2, k3, k4, k5⟩ := hy r hr Y (hyl.trans hY)
  exact ⟨h0, rfl, l, rec, k1, k2, k3, k4, k5.env hg.symm hg2.symm hg3.symm⟩
theorem zh.rc {f : FuncId} {sig : Sig} {V : Ev} (hV : V.OK) {G : Nat → sig.In → Option sig.Out} (h : ∀ n, zh P E f ⟨sig, G n⟩) : zh P E f ⟨sig, V.rc G⟩ := by
 intro t u β0 S0 w vs ht
 obtain ⟨n, hn⟩ := hV.rc ht
 exact h n t u β0 S0 w vs hn
theorem zh.none {f : FuncId} {sig : Sig} : zh P E f ⟨sig, fun _ => none⟩ := fun t u β0 S0 w vs ht => by cases ht
theorem z4e {l : List (FuncId × List zf6)} (hl : l = []) : ∀ g s, s ∈ ((l.lookup g).getD []) → zh P E g s := by
 subst hl
 intro g s h
 simp at h
theorem xz {k : FuncId} {cs : List zf6} {l : List (FuncId × List zf6)} (h1 : ∀ s, s ∈ cs → zh P E k s) (h2 : ∀ g s, s ∈ ((l.lookup g).getD []) → zh P E g s) : ∀ g s, s ∈ ((((k, cs) :: l).lookup g).getD []) → zh P E g s := by
 intro g s h
 by_cases e : g = k
 ·subst e
  simp only [List.lookup_cons, beq_self_eq_true, Option.getD_some] at h
  exact h1 s h
 ·rw [List.lookup_cons, show (g == k) = false by simpa using e] at h
  exact h2 g s h
def zru (P : Program) (E : Env) (f : FuncId) (I : zq9) : Prop := ∀ Y : I.sigY.In → Option I.sigY.Out, zh P { E with yl := some ⟨I.sigY, Y⟩ } f ⟨I.sig, I.F Y⟩
theorem z4f {k : FuncId} : ∀ I, I ∈ ([] : List zq9) → zru P E k I := fun I h => by cases h
theorem z17 {k : FuncId} {I : zq9} {l : List zq9} (h : zru P E k I) (h' : ∀ I, I ∈ l → zru P E k I) : ∀ J, J ∈ I :: l → zru P E k J := fun J hJ => by
 rcases List.mem_cons.1 hJ with rfl | hJ
 ·exact h
 ·exact h' J hJ
theorem zs6 : ∀ f I, I ∈ ((([] : List (FuncId × List zq9)).lookup f).getD []) → zru P E f I := fun f I h => by simp at h
theorem z18 {k : FuncId} {cs : List zq9} {l : List (FuncId × List zq9)} (h1 : ∀ I, I ∈ cs → zru P E k I) (h2 : ∀ f I, I ∈ ((l.lookup f).getD []) → zru P E f I) : ∀ f I, I ∈ ((((k, cs) :: l).lookup f).getD []) → zru P E f I := by
 intro g s h
 by_cases e : g = k
 ·subst e
  simp only [List.lookup_cons, beq_self_eq_true, Option.getD_some] at h
  exact h1 s h
 ·rw [List.lookup_cons, show (g == k) = false by simpa using e] at h
  exact h2 g s h
def zv9 (P : Program) (g : FuncId) : Bool := match P.funcs[g]? with
 | some fn => !(fn.name == "runtime.NumGoroutine") && !fn.body.isNone
 | none => false
theorem zrv {α : Type _} {l : List (FuncId × List α)} (h : l.all (fun p => zv9 P p.1) = true) : ∀ g, ((l.lookup g).getD []) ≠ [] → ∃ fn, P.funcs[g]? = some fn ∧ (fn.name == "runtime.NumGoroutine") = false ∧ fn.body.isNone = false := by
 intro g hg
 induction l with
 | nil => simp at hg
 | cons p l ih =>
  simp only [List.all_cons, Bool.and_eq_true] at h
  by_cases e : g = p.1
  ·subst e
   have := h.1
   unfold zv9 at this
   split at this
   ·rename_i fn hf
    simp only [Bool.and_eq_true, Bool.not_eq_true'] at this
    exact ⟨fn, hf, this.1, this.2⟩
   ·cases this
  ·rw [show p = (p.1, p.2) from rfl, List.lookup_cons, show (g == p.1) = false by simpa using e] at hg
   exact ih h.2 hg

theorem zcz {k : FuncId} : ∀ s, s ∈ ([] : List zf6) → zh P E k s := fun s h => by cases h
theorem vi {k : FuncId} {c : zf6} {cs : List zf6} (h : zh P E k c) (h' : ∀ s, s ∈ cs → zh P E k s) : ∀ s, s ∈ c :: cs → zh P E k s := fun s hs => by
 rcases List.mem_cons.1 hs with rfl | hs
 ·exact h
 ·exact h' s hs
theorem z6b : ∀ t, ([] : List TypeId).contains t = true → EqTy P t := fun t h => by simp at h
theorem zy5 {u : TypeId} {l : List TypeId} (h : EqTy P u) (h' : ∀ t, l.contains t = true → EqTy P t) : ∀ t, (u :: l).contains t = true → EqTy P t := fun t ht => by
 by_cases e : t = u
 ·subst e; exact h
 ·refine h' t ?_
  simpa [e] using ht
def z2v (P : Program) (f : FuncId) (x : Ext) : Prop := x = .indexByte → ∀ (s : ByteArray) (n : Int) (w : World), (callFunc f #[.string s, .int .u8 n]).run P w = .ok (.value (.int .i64 (Lib.indexByte s.data.toList n.toNat.toUInt8))) w
theorem z5f : ∀ t, ([] : List TypeId).contains t = true → Key2 P t := fun t h => by simp at h
theorem z4g {u : TypeId} {l : List TypeId} (h : Key2 P u) (h' : ∀ t, l.contains t = true → Key2 P t) : ∀ t, (u :: l).contains t = true → Key2 P t := fun t ht => by
 by_cases e : t = u
 ·subst e; exact h
 ·refine h' t ?_
  simpa [e] using ht
theorem z5g : ∀ f x, ([] : List (FuncId × Ext)).lookup f = some x → z2v P f x := fun f x h => by simp at h
theorem z4h {k : FuncId} {x : Ext} {l : List (FuncId × Ext)} (h : z2v P k x) (h' : ∀ f x, l.lookup f = some x → z2v P f x) : ∀ f y, ((k, x) :: l).lookup f = some y → z2v P f y := fun f y hf => by
 by_cases e : f = k
 ·subst e
  rw [List.lookup_cons_self] at hf
  cases hf
  exact h
 ·rw [List.lookup_cons, show (f == k) = false by simpa using e] at hf
  exact h' f y hf
theorem zy6 {f : FuncId} {fn : Func} (hf : P.funcs[f]? = some fn) (h1 : (fn.name == "runtime.NumGoroutine") = false) (h2 : fn.body.isNone = true) (h3 : Extern.findNext fn = none) (h4 : Extern.find fn = some Extern.BytealgIndexByte.indexByte) : z2v P f .indexByte := fun _ s n w => by
 rw [run_callFunc_extern hf h1 h2 h3 h4, Lib.run_indexByteString]
 rfl

/-! -/
def bufD (ren : Nat → Nat) : Pat → D
 | .vec j => .vec (ren j)
 | _ => .nsl
theorem zwa {f T : Nat} (hfresh : ∀ (b : Nat) (w : World), w.cell? ⟨b, 0, none⟩ = some (.pointer none) → w.shape? b = some (T, 2) → w.frozen? ⟨b, 0, none⟩ = false →
   Calls P f #[.pointer (some ⟨b, 0, none⟩)] w fun e w' => e = .returned (.tuple #[]) ∧ w' = w.setCell ⟨b, 0, none⟩ (.pointer (some ⟨b, 0, none⟩)))
  (hused : ∀ (b : Nat) (w : World), w.cell? ⟨b, 0, none⟩ = some (.pointer (some ⟨b, 0, none⟩)) → Calls P f #[.pointer (some ⟨b, 0, none⟩)] w fun e w' => e = .returned (.tuple #[]) ∧ w' = w)
  {p0 p2 : Pat} (hp2 : (p2 = .vec 1 ∨ p2 = .nsl) ∧ (p0 = .np 0 0 ∨ p0 = .nilp ∨ p0 = .ptr 0 0)) {rest : List OPat} {F : (Sig.mk [.ptr 0 0] (.box T [p0, p2] :: rest) [] (.box T [.ptr 0 0, p2] :: rest)).In → Option (Sig.mk [.ptr 0 0] (.box T [p0, p2] :: rest) [] (.box T [.ptr 0 0, p2] :: rest)).Out}
  (hF : ∀ t u, F t = some u → ∀ ren, injO ren (.box T [.ptr 0 0, p2] :: rest) u.2 = .box T [.ptr (ren 0) 0, bufD ren p2] :: (injO ren (.box T [p0, p2] :: rest) t.2).tail) :
  zh P E f ⟨⟨[.ptr 0 0], .box T [p0, p2] :: rest, [], .box T [.ptr 0 0, p2] :: rest⟩, F⟩ := by
 intro t u β0 S0 w vs ht c hc _ hI hargs
 have hob : ∃ os d0, injO id (.box T [p0, p2] :: rest) t.2 = .box T [d0, bufD id p2] :: os ∧ (d0 = .np 0 0 ∨ d0 = .nilp ∨ d0 = .ptr 0 0) := by
  rcases hp2 with ⟨rfl | rfl, rfl | rfl | rfl⟩
  ·exact ⟨_, .np 0 0, rfl, .inl rfl⟩
  ·exact ⟨_, .nilp, rfl, .inr (.inl rfl)⟩
  ·exact ⟨_, .ptr 0 0, rfl, .inr (.inr rfl)⟩
  ·exact ⟨_, .np 0 0, rfl, .inl rfl⟩
  ·exact ⟨_, .nilp, rfl, .inr (.inl rfl)⟩
  ·exact ⟨_, .ptr 0 0, rfl, .inr (.inr rfl)⟩
 obtain ⟨os, d0, hob, hd0⟩ := hob
 have hob' := hF t u ht id
 rw [hob] at hob'
 simp only [List.tail_cons, id_eq] at hob'
 have hI' : Inv c β0 S0 (.box T [d0, bufD id p2] :: os) w := hob ▸ hI
 obtain ⟨u0, us, rfl, ⟨h1, h2⟩, h3⟩ := hargs
 obtain rfl : us = [] := h3
 have h4 := hI'.obj 0 _ rfl
 obtain ⟨b, h5, rfl⟩ : ∃ b, β0 0 = .blk b ∧ u0 = .pointer (some ⟨b, 0, none⟩) := by
  rcases h2 with ⟨b, h5, h6⟩ | ⟨b, v, h5, h6⟩
  ·exact ⟨b, h5, h6⟩
  ·rw [show β0 0 = .two b v from h5] at h4; exact h4.elim
 rw [h5] at h4
 obtain ⟨cs, h6, v0, cs1, rfl, h7, v1, cs2, rfl, h8, h9⟩ := h4
 obtain rfl : cs2 = [] := h9
 have hcell : w.cell? ⟨b, 0, none⟩ = some v0 := by simp [World.cell?, h6]
 have hbl : ∀ b', b' = b → b' ∈ (β0 0).blocks := fun b' e => by rw [h5, e]; exact List.mem_singleton.2 rfl
 have fin : ∀ {w' : World}, Same (fun b' => b' ∈ (β0 0).blocks) w w' → w'.heap.size = w.heap.size → w'.heap[b]? = some (.cells #[.pointer (some ⟨b, 0, none⟩), v1] T (0, 0)) →
   Rel c [] (injO id (.box T [.ptr 0 0, p2] :: rest) u.2) [] w' := by
  intro w' hs hsz hh
  rw [hob']
  refine zbl (i := 0) (o' := .box T [.ptr 0 0, bufD id p2]) hI' hI'.le rfl rfl rfl hs hsz ?_ (ds := []) (vs := []) rfl
  rw [h5]
  refine ⟨[.pointer (some ⟨b, 0, none⟩), v1], hh, _, _, rfl, ⟨by simp, .inl ⟨b, h5, rfl⟩⟩, _, _, rfl, ?_, rfl⟩
  refine RelD.imp (Nat.le_refl _) (fun _ _ => .refl _) (fun _ h => h) (fun b' hb' => hs.block b' (hI'.imm b' hb') fun hx => (hI'.own 0 b' (zj.2 ⟨_, rfl, rfl, hx⟩)).1 hb') _ h8
 have hcases : v0 = .pointer none ∨ v0 = .pointer (some ⟨b, 0, none⟩) := by
  rcases hd0 with rfl | rfl | rfl
  ·obtain ⟨_, h10⟩ := h7
   rcases h10 with h10 | ⟨b', h10, h11⟩ | ⟨b', v, h10, h11⟩
   ·exact .inl h10
   ·rw [h5] at h10; cases h10; exact .inr h11
   ·rw [h5] at h10; cases h10
  ·exact .inl h7
  ·obtain ⟨_, ⟨b', h10, h11⟩ | ⟨b', v, h10, h11⟩⟩ := h7
   ·rw [h5] at h10; cases h10; exact .inr h11
   ·rw [h5] at h10; cases h10
 rcases hcases with rfl | rfl
 ·refine (hfresh b w hcell (by simp [World.shape?, h6]) (by simp [World.frozen?, h6])).mono ?_
  rintro e w' ⟨rfl, rfl⟩
  refine ⟨[], rfl, fin ⟨rfl, rfl, rfl, by simp [World.setCell], fun b' hb' hn => ?_⟩ (by simp [World.setCell]) ?_⟩
  ·simp only [World.setCell, Array.getElem?_modify]
   split
   ·rename_i e; exact absurd (hbl b' e.symm) hn
   ·rfl
  ·simp [World.setCell, Array.getElem?_modify, h6]
 ·refine (hused b w hcell).mono ?_
  rintro e w' ⟨rfl, rfl⟩
  exact ⟨[], rfl, fin (Same.refl _ _) rfl h6⟩
/-! -/
theorem za.set_at {n : Nat} {β : Nat → GL} {S : Nat → Prop} {w : World} : ∀ {ds : List D} {vs : List Value} {k : Nat} {d : D} {v : Value}, za n β S w ds vs → RelD n β S w d v → za n β S w (ds.set k d) (vs.set k v)
 | [], vs, k, d, v, h, hv => by obtain rfl : vs = [] := h; cases k <;> exact rfl
 | d0 :: ds, vs, 0, d, v, h, hv => by
  obtain ⟨u, us, rfl, h1, h2⟩ := h
  exact ⟨v, us, rfl, hv, h2⟩
 | d0 :: ds, vs, k + 1, d, v, h, hv => by
  obtain ⟨u, us, rfl, h1, h2⟩ := h
  exact ⟨u, us.set k v, rfl, h1, za.set_at h2 hv⟩
theorem z2w {f T n off : Nat} (hfresh : ∀ (b : Nat) (w : World), w.cell? ⟨b, off, none⟩ = some (.pointer none) → w.shape? b = some (T, n) → w.frozen? ⟨b, off, none⟩ = false →
   Calls P f #[.pointer (some ⟨b, off, none⟩)] w fun e w' => e = .returned (.tuple #[]) ∧ w' = w.setCell ⟨b, off, none⟩ (.pointer (some ⟨b, off, none⟩)))
  (hused : ∀ (b : Nat) (w : World), w.cell? ⟨b, off, none⟩ = some (.pointer (some ⟨b, off, none⟩)) → Calls P f #[.pointer (some ⟨b, off, none⟩)] w fun e w' => e = .returned (.tuple #[]) ∧ w' = w)
  {ps ps' : List Pat} {rest : List OPat} {F : (Sig.mk [.ptr 0 off] (.box T ps :: rest) [] (.box T ps' :: rest)).In → Option (Sig.mk [.ptr 0 off] (.box T ps :: rest) [] (.box T ps' :: rest)).Out}
  (hin : ∀ t : (Sig.mk [.ptr 0 off] (.box T ps :: rest) [] (.box T ps' :: rest)).In, (injP id ps t.2.1).length = n ∧ ∃ d0, (injP id ps t.2.1)[off]? = some d0 ∧ (d0 = .np 0 off ∨ d0 = .nilp ∨ d0 = .ptr 0 off))
  (hF : ∀ t u, F t = some u → injP id ps' u.2.1 = (injP id ps t.2.1).set off (.ptr 0 off) ∧ u.2.2 = t.2.2) :
  zh P E f ⟨⟨[.ptr 0 off], .box T ps :: rest, [], .box T ps' :: rest⟩, F⟩ := by
 intro t u β0 S0 w vs ht c hc _ hI hargs
 obtain ⟨hn, d0, hoff, hd0⟩ := hin t
 obtain ⟨hu1, hu2⟩ := hF t u ht
 have hI' : Inv c β0 S0 (.box T (injP id ps t.2.1) :: injO id rest t.2.2) w := hI
 obtain ⟨u0, us, rfl, ⟨h1, h2⟩, h3⟩ := hargs
 obtain rfl : us = [] := h3
 have h4 := hI'.obj 0 _ rfl
 obtain ⟨b, h5, rfl⟩ : ∃ b, β0 0 = .blk b ∧ u0 = .pointer (some ⟨b, off, none⟩) := by
  rcases h2 with ⟨b, h5, h6⟩ | ⟨b, v, h5, h6⟩
  ·exact ⟨b, h5, h6⟩
  ·rw [show β0 0 = .two b v from h5] at h4; exact h4.elim
 rw [h5] at h4
 obtain ⟨cs, h6, h7⟩ := h4
 obtain ⟨v0, h8, h9⟩ := h7.get off d0 hoff
 have hlen : cs.length = n := by rw [← h7.length, hn]
 have hcell : w.cell? ⟨b, off, none⟩ = some v0 := by simp [World.cell?, h6, h8]
 have hbl : ∀ b', b' = b → b' ∈ (β0 0).blocks := fun b' e => by rw [h5, e]; exact List.mem_singleton.2 rfl
 have fin : ∀ {w' : World}, Same (fun b' => b' ∈ (β0 0).blocks) w w' → w'.heap.size = w.heap.size → w'.heap[b]? = some (.cells (cs.set off (.pointer (some ⟨b, off, none⟩))).toArray T (0, 0)) →
   Rel c [] (injO id (.box T ps' :: rest) u.2) [] w' := by
  intro w' hs hsz hh
  have e : injO id (.box T ps' :: rest) u.2 = .box T ((injP id ps t.2.1).set off (.ptr 0 off)) :: injO id rest t.2.2 := by
   show Ob.box T (injP id ps' u.2.1) :: injO id rest u.2.2 = _
   rw [hu1, hu2]
  rw [e]
  refine zbl (i := 0) (o' := .box T ((injP id ps t.2.1).set off (.ptr 0 off))) hI' hI'.le rfl rfl rfl hs hsz ?_ (ds := []) (vs := []) rfl
  rw [h5]
  refine ⟨cs.set off (.pointer (some ⟨b, off, none⟩)), hh, za.set_at ?_ ⟨by simp, .inl ⟨b, h5, rfl⟩⟩⟩
  exact za.imp (Nat.le_refl _) (fun _ _ => .refl _) (fun _ h => h) (fun b' hb' => hs.block b' (hI'.imm b' hb') fun hx => (hI'.own 0 b' (zj.2 ⟨_, rfl, rfl, hx⟩)).1 hb') _ h7
 have hcases : v0 = .pointer none ∨ v0 = .pointer (some ⟨b, off, none⟩) := by
  rcases hd0 with rfl | rfl | rfl
  ·obtain ⟨_, h10⟩ := h9
   rcases h10 with h10 | ⟨b', h10, h11⟩ | ⟨b', v, h10, h11⟩
   ·exact .inl h10
   ·rw [h5] at h10; cases h10; exact .inr h11
   ·rw [h5] at h10; cases h10
  ·exact .inl h9
  ·obtain ⟨_, ⟨b', h10, h11⟩ | ⟨b', v, h10, h11⟩⟩ := h9
   ·rw [h5] at h10; cases h10; exact .inr h11
   ·rw [h5] at h10; cases h10
 rcases hcases with rfl | rfl
 ·refine (hfresh b w hcell (by simp [World.shape?, h6, hlen]) (by simp [World.frozen?, h6])).mono ?_
  rintro e w' ⟨rfl, rfl⟩
  refine ⟨[], rfl, fin ⟨rfl, rfl, rfl, by simp [World.setCell], fun b' hb' hn => ?_⟩ (by simp [World.setCell]) ?_⟩
  ·simp only [World.setCell, Array.getElem?_modify]
   split
   ·rename_i e; exact absurd (hbl b' e.symm) hn
   ·rfl
  ·simp [World.setCell, Array.getElem?_modify, h6]
 ·refine (hused b w hcell).mono ?_
  rintro e w' ⟨rfl, rfl⟩
  refine ⟨[], rfl, fin (Same.refl _ _) rfl ?_⟩
  have : cs.set off (.pointer (some ⟨b, off, none⟩)) = cs := by
   apply List.ext_getElem? 
   intro k
   by_cases e : off = k
   ·subst e; rw [List.getElem?_set_self (List.getElem?_eq_some_iff.1 h8).1, h8]
   ·rw [List.getElem?_set_ne e]
  rw [this]; exact h6
end
end Go.En
