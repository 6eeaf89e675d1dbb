/- Text E14 of this seat: written by a program of ours, or by hand; checked by Lean. -/
import Derived.Test.YtfgphjencdhdgaaGreatDoorE11
import Derived.Sort.Grow
import Derived.Shelf.Strings.Search2
import Derived.Shelf.Strings.SlTrimAscii
import Derived.Shelf.Strings.Count
import Derived.Shelf.Strconv.Itoa3
import Derived.Shelf.Strings.OnBuilder
set_option linter.unusedVariables false
set_option linter.unusedSimpArgs false
namespace Go.En
open Go.RowKit Go.Proofs Go.Shelf Go.Sort

section
variable {P : Program} {E : Env}
theorem zh.given {f : FuncId} {args res : List Pat} {F : (Sig.mk args [] res []).In → Option (Sig.mk args [] res []).Out}
  (h : ∀ (t : zib args) (u : zib res), F (t, ()) = some (u, ()) → ∀ (β0 : Nat → GL) (S0 : Nat → Prop) (w : World) (vs : List Value), (∀ g, E.gint g = true → ∃ m, w.cell? ⟨g, 0, Option.none⟩ = some (.int .i64 m)) →
   (∀ g t vs, E.glob g = some (t, vs) → ∃ t' fr, w.heap[g]? = some (.cells vs.toArray t' fr)) → za 0 β0 S0 w (injP id args t) vs →
   Calls P f vs.toArray w fun e w' => ∃ us, e = .returned (retV us) ∧ Below w.heap.size w w' ∧ za 0 β0 S0 w' (injP id res u) us) : zh P E f ⟨⟨args, [], res, []⟩, F⟩ := by
 intro t u β0 S0 w vs hF c hc _ hI hargs
 obtain ⟨t, ⟨⟩⟩ := t
 obtain ⟨u, ⟨⟩⟩ := u
 refine (h t u hF β0 S0 w vs (fun g hg => (hc.gint g hg).2) (fun g t vs hg => (hc.glob g t vs hg).2) hargs).mono ?_
 rintro e w' ⟨us, rfl, hB, hr⟩
 refine ⟨us, rfl, β0, S0, ?_, hr⟩
 have hs : Same c.M w w' := (Same.of_below hB).mono fun _ _ h => h.elim
 exact ⟨fun i o ho => by simp [injO] at ho, fun i j b _ hb => by simp [injO, blks] at hb, fun i b hb => by simp [injO, blks] at hb, fun b hb => Nat.lt_of_lt_of_le (hI.imm b hb) hB.size, fun b hb => hb, fun b hb => .inl hb, hs, fun _ _ => GL.kin.refl _, Nat.le_refl _⟩
theorem z07 (s sub : List UInt8) : -1 ≤ Lib.index s sub ∧ Lib.index s sub ≤ s.length := by
 refine ⟨Lib.index_ge s sub, ?_⟩
 induction s with
 | nil => unfold Lib.index; split <;> simp
 | cons b s ih =>
  unfold Lib.index
  simp only [List.length_cons]
  split
  ·omega
  ·split
   ·omega
   ·omega
theorem z4k {n : Int} (h0 : -9223372036854775808 ≤ n) (h1 : n ≤ 9223372036854775807) : Rng .i64 n := by
 simp only [Rng, Lit.wf, IntKind.min, IntKind.max, IntKind.signed, IntKind.bits]
 simp
 omega
theorem z2y {n : Int} (h : Rng .i64 n) : -9223372036854775808 ≤ n ∧ n ≤ 9223372036854775807 := by
 simp only [Rng, Lit.wf, IntKind.min, IntKind.max, IntKind.signed, IntKind.bits] at h
 simp at h
 omega
/-! -/
def z4l (t : (Bs × Bs × Unit) × Unit) : Option ((Int × Unit) × Unit) := bif decide (t.1.1.length < 4294967281) then some ((Lib.index t.1.1 t.1.2.1, ()), ()) else none
theorem z08 {ρ : Ren} (L : Lays.n219 P ρ) (hg : E.gint (ρ.g 1) = true) : zh P E (ρ.f 219) ⟨⟨[.ty .str, .ty .str], [], [.ty (.int .i64)], []⟩, z4l⟩ := by
 refine zh.given fun t u hF β0 S0 w vs hint _ hr => ?_
 obtain ⟨s, sub, ⟨⟩⟩ := t
 obtain ⟨_, _, rfl, ⟨rfl, h1⟩, _, _, rfl, ⟨rfl, h2⟩, rfl⟩ := hr
 simp only at h1 h2
 unfold z4l at hF
 cases hl : decide (s.length < 4294967281) with
 | false => simp only [hl, cond_false, reduceCtorEq] at hF
 | true =>
  simp only [hl, cond_true, Option.some.injEq, Prod.mk.injEq, and_true] at hF
  subst hF
  obtain ⟨m, hm⟩ := hint _ hg
  refine (Any.stringslite_Index L ⟨s.toArray⟩ ⟨sub.toArray⟩ m w (by simpa [ByteArray.size] using of_decide_eq_true hl) hm).mono ?_
  rintro e w' ⟨rfl, rfl⟩
  have h3 := z07 s sub
  unfold maxB at h1
  exact ⟨[_], rfl, Below.refl _ _, _, [], rfl, ⟨rfl, z4k (by omega) (by omega)⟩, rfl⟩
/-! -/
def z6e (t : (Bs × Bs × Unit) × Unit) : Option ((Bs × Unit) × Unit) := bif decide (t.1.2.1.length < 1000) && t.1.2.1.all (fun b => decide (b.toNat < 128)) then some ((Lib.trimS t.1.1 t.1.2.1, ()), ()) else none
theorem zuc {α : Type} (p : α → Bool) (l : List α) : (l.dropWhile p).length ≤ l.length := by
 induction l with
 | nil => simp
 | cons a l ih => simp only [List.dropWhile_cons]; split <;> simp <;> omega
theorem z5h (s cs : Bs) : (Lib.trimS s cs).length ≤ s.length := by
 unfold Lib.trimS Lib.trimLeftS Lib.trimRightS
 refine Nat.le_trans (zuc _ _) ?_
 rw [List.length_reverse]
 refine Nat.le_trans (zuc _ _) ?_
 simp
theorem z2z {ρ : Ren} (L : Lays.n160 P ρ) (h116 : (P.info? (ρ.t 116)).map (fun i => (i.zero, i.size)) = some (some (.agg (Array.replicate 256 (.bool false))), 256)) : zh P E (ρ.f 160) ⟨⟨[.ty .str, .ty .str], [], [.ty .str], []⟩, z6e⟩ := by
 refine zh.given fun t u hF β0 S0 w vs _ _ hr => ?_
 obtain ⟨s, cs, ⟨⟩⟩ := t
 obtain ⟨_, _, rfl, ⟨rfl, h1⟩, _, _, rfl, ⟨rfl, h2⟩, rfl⟩ := hr
 simp only at h1 h2
 unfold z6e at hF
 cases hl : decide (cs.length < 1000) && cs.all (fun b => decide (b.toNat < 128)) with
 | false => simp only [hl, cond_false, reduceCtorEq] at hF
 | true =>
  simp only [hl, cond_true, Option.some.injEq, Prod.mk.injEq, and_true] at hF
  subst hF
  simp only [Bool.and_eq_true, decide_eq_true_eq] at hl
  have h1' := h1
  unfold maxB at h1'
  refine (Any.strings_Trim_laid L h116 ⟨s.toArray⟩ ⟨cs.toArray⟩ w (by simp [ByteArray.size]; omega) (by simp [ByteArray.size]; omega) (by simpa using ascii_of_all hl.2)).mono ?_
  rintro e w' ⟨rfl, hB⟩
  exact ⟨[_], rfl, hB, _, [], rfl, ⟨rfl, Nat.le_trans (z5h s cs) h1⟩, rfl⟩
/-! -/
def z5x (t : (Bs × Bs × Unit) × Unit) : Option ((Int × Unit) × Unit) := match t.1.2.1 with
 | [c] => some ((((Lib.countByte t.1.1 c : Nat) : Int), ()), ())
 | _ => none
theorem z6f {ρ : Ren} (L : Lays.n138 P ρ) : zh P E (ρ.f 138) ⟨⟨[.ty .str, .ty .str], [], [.ty (.int .i64)], []⟩, z5x⟩ := by
 refine zh.given fun t u hF β0 S0 w vs _ _ hr => ?_
 obtain ⟨s, sub, ⟨⟩⟩ := t
 obtain ⟨_, _, rfl, ⟨rfl, h1⟩, _, _, rfl, ⟨rfl, h2⟩, rfl⟩ := hr
 simp only at h1 h2
 unfold z5x at hF
 split at hF
 ·rename_i c hc
  simp only at hc
  subst hc
  simp only [Option.some.injEq, Prod.mk.injEq, and_true] at hF
  subst hF
  refine (Any.strings_Count_one L ⟨s.toArray⟩ c w).mono ?_
  rintro e w' ⟨rfl, rfl⟩
  have h3 : s.count c ≤ s.length := List.count_le_length
  unfold maxB at h1
  exact ⟨[_], rfl, Below.refl _ _, _, [], rfl, ⟨rfl, z4k (by unfold Lib.countByte; omega) (by unfold Lib.countByte; omega)⟩, rfl⟩
 ·cases hF
/-! -/
def digs : Nat → Nat → Bs
 | 0, _ => []
 | k + 1, u => bif decide (u < 10) then [UInt8.ofNat (48 + u)] else digs k (u / 10) ++ [UInt8.ofNat (48 + u % 10)]
theorem z09 : ∀ (k u : Nat), u < 10 ^ k → 0 < k → digs k u = Lib.decDigits u
 | 0, u, _, h => absurd h (by omega)
 | k + 1, u, h, _ => by
  unfold digs
  rw [Lib.decDigits]
  by_cases hu : u < 10
  ·rw [dif_pos hu, decide_eq_true hu, cond_true]
  ·rw [dif_neg hu, decide_eq_false hu, cond_false]
   have hk : 0 < k := by
    rcases Nat.eq_zero_or_pos k with rfl | h'
    ·simp at h; omega
    ·exact h'
   rw [z09 k (u / 10) (by rw [Nat.pow_succ] at h; omega) hk]
theorem z1a : ∀ (k u : Nat), (digs k u).length ≤ k
 | 0, u => by simp [digs]
 | k + 1, u => by
  unfold digs
  cases decide (u < 10)
  ·simpa using z1a k (u / 10)
  ·simp
def z6g (t : (Int × Unit) × Unit) : Option ((Bs × Unit) × Unit) := some ((bif decide (t.1.1 < 0) then (45 : UInt8) :: digs 20 t.1.1.natAbs else digs 20 t.1.1.toNat, ()), ())
theorem Below.of_grow {w : World} {k : Nat} {os : Array Obj} : Below w.heap.size w (grow (w.drewN k) os) := by
 refine ⟨rfl, rfl, rfl, by simp [grow, World.drewN], fun b hb => ?_⟩
 simp only [grow, World.drewN]
 rw [Array.getElem?_append_left hb]
theorem z22 {ρ : Ren} (L : LaysM.n243 P ρ) {g : Nat} {t : TypeId} (hgn : P.globalNamed "internal/strconv.uint64pow10" = some g) (hg : E.glob g = some (t, Lib.pow10Tab.map fun z => Value.int .u64 z)) :
  zh P E (ρ.f 243) ⟨⟨[.ty (.int .i64)], [], [.ty .str], []⟩, z6g⟩ := by
 refine zh.given fun x u hF β0 S0 w vs _ hglob hr => ?_
 obtain ⟨n, ⟨⟩⟩ := x
 obtain ⟨_, _, rfl, ⟨rfl, h1⟩, rfl⟩ := hr
 unfold z6g at hF
 simp only [Option.some.injEq, Prod.mk.injEq, and_true] at hF
 have h2 := z2y h1
 obtain ⟨t', fr, h3⟩ := hglob g t _ hg
 refine (Any.internal_strconv_Itoa L n h2.1 h2.2 w (by simp only [Lib.TabIs, World.var?, hgn, Option.bind_some, h3])).mono ?_
 rintro e w' ⟨rfl, k, os, rfl⟩
 have e1 : u.1 = Lib.itoa n := by
  rw [← hF]
  unfold Lib.itoa
  by_cases hn : n < 0
  ·rw [decide_eq_true hn, cond_true, if_pos hn, z09 20 _ (by omega) (by decide)]
  ·rw [decide_eq_false hn, cond_false, if_neg hn, z09 20 _ (by omega) (by decide)]
 refine ⟨[_], rfl, Below.of_grow, _, [], rfl, ⟨by rw [← e1], ?_⟩, rfl⟩
 rw [← hF]
 have := z1a 20 n.natAbs
 have := z1a 20 n.toNat
 unfold maxB
 cases decide (n < 0) <;> simp <;> omega
/-! -/
def z69 (t : (Bs × Unit) × (List Bs × Unit)) : Option ((Bs × Unit) × Unit) :=
 bif decide ((Lib.join t.2.1 t.1.1).length ≤ maxB) && decide (t.2.1.length ≤ maxB) then some ((Lib.join t.2.1 t.1.1, ()), ()) else none
theorem z6x {ρ : Ren} (L : Lays.n156 P ρ) (X : Builder.Extra P ρ) {e : TypeId} : zh P E (ρ.f 156) ⟨⟨[.vec 0, .ty .str], [.vec false e .str], [.ty .str], [.gone]⟩, z69⟩ := by
 intro t u β0 S0 w vs hF c hc _ hI hargs
 obtain ⟨⟨sep, ⟨⟩⟩, l, ⟨⟩⟩ := t
 obtain ⟨v, _, rfl, ⟨_, hβ, _⟩, _, _, rfl, ⟨rfl, h2⟩, rfl⟩ := hargs
 simp only at h2
 unfold z69 at hF
 cases hl : decide ((Lib.join l sep).length ≤ maxB) && decide (l.length ≤ maxB) with
 | false => simp only [hl, cond_false, reduceCtorEq] at hF
 | true =>
  simp only [hl, cond_true, Option.some.injEq] at hF
  subst hF
  simp only [Bool.and_eq_true, decide_eq_true_eq] at hl
  have h3 : RelO 1 β0 S0 w (β0 0) (.vec false e .str l) := hI.obj 0 _ rfl
  have hβ : β0 0 = .row v := by
   have hβ : (β0 0).hdr = some v := hβ
   cases hb : β0 0 <;> rw [hb] at h3 hβ <;> first | exact h3.elim | skip
   injection hβ with hβ
   rw [hβ]
  rw [hβ] at h3
  obtain ⟨xs, h4, h5, h6⟩ := h3
  have hx : ∀ (k : Nat) (x : Bs), l[k]? = some x → xs[k]? = some (.string ⟨x.toArray⟩) := fun k x hk => by
   have h7 := (h6 k x hk).1
   simpa [Ty.size] using h7
  have fin : ∀ (w' : World) (r : Bs), r = Lib.join l sep → Below w.heap.size w w' → ∃ us : List Value, (Ending.returned (.string ⟨r.toArray⟩) : Ending) = .returned (retV us) ∧ Rel c (injP id [.ty .str] (Lib.join l sep, ())) (injO id [.gone] ()) us w' := by
   rintro w' r rfl hB
   refine ⟨[_], rfl, β0, S0, ?_, _, [], rfl, ⟨rfl, hl.1⟩, rfl⟩
   have hs : Same c.M w w' := (Same.of_below hB).mono fun _ _ h => h.elim
   have hb0 : ∀ i b, b ∉ blks β0 [Ob.gone] i := fun i b hb => by
    obtain ⟨o, h8, h9, _⟩ := zj.1 hb
    cases i with
    | zero => simp only [List.getElem?_cons_zero, Option.some.injEq] at h8; subst h8; cases h9
    | succ i => simp at h8
   refine ⟨fun i o ho => ?_, fun i j b _ hb => absurd hb (hb0 i b), fun i b hb => absurd hb (hb0 i b), fun b hb => Nat.lt_of_lt_of_le (hI.imm b hb) hB.size, fun b hb => hb, fun b hb => .inl hb, hs, fun _ _ => GL.kin.refl _, Nat.le_refl _⟩
   cases i with
   | zero => simp only [injO, List.getElem?_cons_zero, Option.some.injEq] at ho; subst ho; cases β0 0 <;> trivial
   | succ i => simp [injO] at ho
  have hlen : (l.map fun x : Bs => (⟨x.toArray⟩ : ByteArray)).map (·.data.toList) = l := by simp [Function.comp_def]
  rcases h4.2 with ⟨rfl, h0⟩ | ⟨g, cap, cur, fz, rfl, h8, h9, h10, h11, h12, h13⟩
  ·obtain rfl : l = [] := List.eq_nil_of_length_eq_zero h0
   refine (Any.strings_Join_none L X Option.none 0 ⟨sep.toArray⟩ w).mono ?_
   rintro e' w' ⟨rfl, rfl⟩
   exact fin _ _ rfl (Below.refl _ _)
  ·have hcell : ∀ (j : Nat) x, l[j]? = some x → w.cell? ⟨g, j, Option.none⟩ = some (.string ⟨x.toArray⟩) := fun j x hj => by
    have hjl : j < l.length := (List.getElem?_eq_some_iff.1 hj).1
    rw [h4.cell (g := g) (by simp [Value.ownBlock]) j (by simp [Ty.size]; exact hjl)]
    exact hx j x hj
   have hg : g < w.heap.size := (Array.getElem?_eq_some_iff.1 h8).1
   match l, hcell, hl, h10, hlen, fin with
   | [], _, _, _, _, fin =>
    refine (Any.strings_Join_none L X (some ⟨g, 0, Option.none⟩) cap ⟨sep.toArray⟩ w).mono ?_
    rintro e' w' ⟨rfl, rfl⟩
    exact fin _ _ rfl (Below.refl _ _)
   | [x], hcell, _, _, _, fin =>
    refine (Any.strings_Join_one L X g 0 cap ⟨x.toArray⟩ ⟨sep.toArray⟩ w (hcell 0 x rfl)).mono ?_
    rintro e' w' ⟨rfl, rfl⟩
    exact fin _ _ (Lib.join_one x sep).symm (Below.refl _ _)
   | x :: y :: r, hcell, hl, h10, hlen, fin =>
    have hm := Any.strings_Join_many L X g 0 cap ((x :: y :: r).map fun x : Bs => (⟨x.toArray⟩ : ByteArray)) ⟨sep.toArray⟩ w (fun j z hz => by
      rw [List.getElem?_map] at hz
      obtain ⟨z', h14, h15⟩ := Option.map_eq_some_iff.1 hz
      subst h15
      rw [Nat.zero_add]
      exact hcell j z' h14) hg (by simp) (by rw [List.length_map]; exact hl.2) (by rw [List.length_map]; exact h10) (by rw [hlen]; exact hl.1)
    rw [hlen, List.length_map] at hm
    refine hm.mono ?_
    rintro e' w' ⟨rfl, hB⟩
    exact fin _ _ rfl hB
end
end Go.En
