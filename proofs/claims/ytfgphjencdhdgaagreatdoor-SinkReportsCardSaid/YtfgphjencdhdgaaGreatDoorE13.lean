/- Text E13 of this seat: written by a program of ours, or by hand; checked by Lean. -/
import Derived.Test.YtfgphjencdhdgaaGreatDoorE12
set_option linter.unusedVariables false
set_option linter.unusedSimpArgs false
namespace Go.En
open Go.RowKit

def Ty.ok : (t : Ty) → t.T → Prop
 | .int k, n => Rng k n
 | .bool, _ => True
 | .str, s => s.length ≤ maxB
 | .pair a b, x => a.ok x.1 ∧ b.ok x.2
 | .slice _ t, l => l.length ≤ maxB ∧ ∀ x ∈ l, t.ok x
 | .err, _ => True
 | .eint _ _, _ => True
theorem ImmC.ok {S : Nat → Prop} {w : World} : ∀ {t : Ty} {g : Nat → Option Value} {x : t.T}, ImmC S w t g x → t.ok x
 | .int k, g, x, h => h.2
 | .bool, g, x, h => trivial
 | .str, g, x, h => h.2
 | .pair a b, g, x, h => ⟨ImmC.ok h.1, ImmC.ok h.2⟩
 | .slice e t, g, l, h => by
  obtain ⟨A, cap, h1, h2, h3, h4, h0, h5⟩ := h
  refine ⟨h3, fun x hx => ?_⟩
  obtain ⟨k, hk, e⟩ := List.getElem_of_mem hx
  obtain ⟨ad, _, _, h6⟩ := h5 k x (by rw [List.getElem?_eq_getElem hk, e])
  exact ImmC.ok h6
 | .err, g, x, h => trivial
 | .eint t k, g, x, h => trivial
def fsOk (P : Program) (ok : TypeId → Ty → Bool) : List Field → Nat → Ty → Bool
 | [], _, _ => false
 | [f], off, T => f.offset == off && (P.cellsOf f.type == T.size && ok f.type T)
 | f :: g :: fs, off, T => match T with
  | .pair a b => f.offset == off && (P.cellsOf f.type == a.size && (ok f.type a && fsOk P ok (g :: fs) (off + a.size) b))
  | _ => false
def tyOk (P : Program) : Nat → TypeId → Ty → Bool
 | 0, _, _ => false
 | n + 1, t, T => match P.underlying t with
  | some (.int k) => decide (T = .int k)
  | some .bool => decide (T = .bool)
  | some .string => decide (T = .str)
  | some (.slice e) => (match T with
   | .slice e' t' => decide (e = e') && (P.cellsOf e == t'.size && (decide (1 ≤ P.bytesOf e) && tyOk P n e t'))
   | _ => false)
  | some (.struct fs) => P.cellsOf t == T.size && fsOk P (tyOk P n) fs.toList 0 T
  | _ => false
theorem zwc {α : Type} {R : Nat → α → Prop} : ∀ (n : Nat), (∀ i, i < n → ∃ x, R i x) → ∃ l : List α, l.length = n ∧ ∀ i x, l[i]? = some x → R i x
 | 0, _ => ⟨[], rfl, fun i x h => by simp at h⟩
 | n + 1, h => by
  obtain ⟨l, hl, hr⟩ := zwc n fun i hi => h i (by omega)
  obtain ⟨x, hx⟩ := h n (by omega)
  refine ⟨l ++ [x], by simp [hl], fun i y hy => ?_⟩
  by_cases hi : i < l.length
  ·exact hr i y (by rwa [List.getElem?_append_left hi] at hy)
  ·have : i = n := by
    have := (List.getElem?_eq_some_iff.1 hy).1
    simp at this; omega
   subst this
   rw [List.getElem?_append_right (by omega), hl, Nat.sub_self] at hy
   simp at hy
   rw [← hy]; exact hx
section
variable {P : Program} {H : Type} {enc : TypeId × Value → H} {w : World} {spare : Nat → Bool} {held : Bool}
theorem z6d {a : Addr} {v : Value} (h : w.cell? a = some v) : a.block < w.heap.size := by
 unfold World.cell? at h
 split at h
 ·rename_i hh
  exact (Array.getElem?_eq_some_iff.1 hh).1
 ·cases h
theorem zp3 {e : TypeId} {d : DataW H} : ∀ {ds : List (DataW H)}, d ∈ ds → ∀ n ∈ d.weights P e, n ∈ DataW.weightsAll P e ds
 | d' :: ds, hd, n, hn => by
  simp only [DataW.weightsAll, List.mem_append]
  rcases List.mem_cons.1 hd with rfl | hd
  ·exact .inl hn
  ·exact .inr (zp3 hd n hn)
def zy7 (ns : List Nat) : Prop := ∀ n ∈ ns, n ≤ reachBytes
theorem z5w {m : Nat} {cs : List Value} {ok : TypeId → Ty → Bool}
  (ih : ∀ (t : TypeId) (T : Ty) (cs : List Value) (d : DataW H) (p : List MemPlace), ok t T = true → DataW.trod enc P w 0 spare held m t cs = some (d, p) → zy7 (d.weights P t) → ∃ x, ImmC (fun b => b < w.heap.size) w T (fun j => cs[j]?) x) :
  ∀ (fl : List Field) (off : Nat) (T : Ty) (xs : List (DataW H × List MemPlace)), fsOk P ok fl off T = true → xs.length = fl.length → (∀ (i : Nat) (f : Field), fl[i]? = some f → DataW.trod enc P w 0 spare held m f.type ((cs.drop f.offset).take (P.cellsOf f.type)) = xs[i]?) →
   zy7 (DataW.weightsEach P (fl.map (·.type)) (xs.map (·.1))) → ∃ x, ImmC (fun b => b < w.heap.size) w T (fun j => cs[off + j]?) x
 | [], off, T, xs, h, _, _, _ => by simp [fsOk] at h
 | [f], off, T, xs, h, hl, hx, hw => by
  simp only [fsOk, Bool.and_eq_true, beq_iff_eq] at h
  obtain ⟨h1, h2, h3⟩ := h
  match xs, hl with
  | [y], _ =>
   have h0 := hx 0 f rfl
   obtain ⟨x, hi⟩ := ih f.type T _ y.1 y.2 h3 (h0.trans rfl) (fun n hn => hw n (by simp only [List.map_cons, List.map_nil, DataW.weightsEach, List.mem_append]; exact .inl hn))
   refine ⟨x, ImmC.congr (fun j hj => ?_) hi⟩
   rw [List.getElem?_take_of_lt (by omega), List.getElem?_drop, h1]
 | f :: g :: fs, off, T, xs, h, hl, hx, hw => by
  cases T with
  | pair a b =>
   simp only [fsOk, Bool.and_eq_true, beq_iff_eq] at h
   obtain ⟨h1, h2, h3, h4⟩ := h
   match xs, hl with
   | y :: ys, hl =>
    have h0 := hx 0 f rfl
    have hw' : zy7 (y.1.weights P f.type) ∧ zy7 (DataW.weightsEach P ((g :: fs).map (·.type)) (ys.map (·.1))) := by
     constructor
     ·intro n hn
      exact hw n (by simp only [List.map_cons, DataW.weightsEach, List.mem_append]; exact .inl hn)
     ·intro n hn
      refine hw n ?_
      show n ∈ DataW.weightsEach P (f.type :: (g :: fs).map (·.type)) (y.1 :: ys.map (·.1))
      rw [DataW.weightsEach, List.mem_append]
      exact .inr hn
    obtain ⟨x, hi⟩ := ih f.type a _ y.1 y.2 h3 (h0.trans rfl) hw'.1
    obtain ⟨z, hz⟩ := z5w ih (g :: fs) (off + a.size) b ys h4 (by simpa using hl) (fun i f' hf => hx (i + 1) f' (by simpa using hf)) hw'.2
    refine ⟨(x, z), ?_, ?_⟩
    ·refine ImmC.congr (fun j hj => ?_) hi
     rw [List.getElem?_take_of_lt (by omega), List.getElem?_drop, h1]
    ·refine ImmC.congr (fun j hj => ?_) hz
     rw [Nat.add_assoc]
  | _ => simp [fsOk] at h
theorem zva : ∀ (n fuel : Nat) (t : TypeId) (T : Ty) (cs : List Value) (d : DataW H) (p : List MemPlace), tyOk P n t T = true → DataW.trod enc P w 0 spare held fuel t cs = some (d, p) → zy7 (d.weights P t) →
  ∃ x, ImmC (fun b => b < w.heap.size) w T (fun j => cs[j]?) x
 | 0, fuel, t, T, cs, d, p, hp, h, hw => by cases hp
 | n + 1, fuel, t, T, cs, d, p, hp, h, hw => by
  simp only [tyOk] at hp
  split at hp
  ·rename_i k hu
   obtain rfl : T = .int k := by simpa using hp
   obtain ⟨m, rfl, hx, hwf⟩ := DataW.trod_int hu h
   exact ⟨m, rfl, hwf⟩
  ·rename_i hu
   obtain rfl : T = .bool := by simpa using hp
   obtain ⟨b, rfl, hx⟩ := DataW.trod_bool hu h
   exact ⟨b, rfl⟩
  ·rename_i hu
   obtain rfl : T = .str := by simpa using hp
   obtain ⟨s, rfl, hx, hs⟩ := DataW.trod_string hu h
   cases hx
   have := hw s.data.toList.length (by simp [DataW.weights])
   refine ⟨s.data.toList, by simp, Nat.le_trans this (by decide)⟩
  ·rename_i e hu
   cases T with
   | slice e' t' =>
    simp only [Bool.and_eq_true, beq_iff_eq, decide_eq_true_eq] at hp
    obtain ⟨rfl, hc, hb, ht⟩ := hp
    rcases DataW.trod_slice hu h with ⟨rfl, hx⟩ | ⟨a, len, cap, elems, rest, m, rfl, rfl, hx, _, hlc, hcm, hlen, hel, _, _⟩
    ·exact ⟨[], none, 0, rfl, Nat.le_refl _, Nat.zero_le _, Nat.zero_le _, fun _ => rfl, fun k x hk => by simp at hk⟩
    ·cases hx
     have hwe : ∀ y ∈ elems, zy7 (y.1.weights P e) := by
      intro y hy n hn
      refine hw n ?_
      simp only [DataW.weights, hu, List.mem_cons, List.mem_append]
      exact .inr (.inl (zp3 (List.mem_map.2 ⟨y, hy, rfl⟩) n hn))
     have hll : len ≤ maxB := by
      have h1 := hw ((elems.length + rest.length) * P.bytesOf e) (by simp [DataW.weights, hu])
      have h2 : len * 1 ≤ (elems.length + rest.length) * P.bytesOf e := Nat.mul_le_mul (by omega) hb
      have h3 : reachBytes ≤ maxB := by decide
      omega
     obtain ⟨l, hl, hr⟩ := zwc (R := fun i x => a.block < w.heap.size ∧ ImmC (fun b => b < w.heap.size) w t' (fun j => w.cell? (a.add (i * t'.size + j))) x) len (by
      intro i hi
      have h1 := hel i hi
      rw [List.getElem?_eq_getElem (show i < elems.length by omega), Option.bind_eq_some_iff] at h1
      obtain ⟨cs', h2, h3⟩ := h1
      obtain ⟨_, h4, h5⟩ := World.cells?_some h2
      obtain ⟨x, hx⟩ := zva n m e t' cs' elems[i].1 elems[i].2 ht h3 (hwe _ (List.getElem_mem _))
      have h6 : ImmC (fun b => b < w.heap.size) w t' (fun j => w.cell? (a.add (i * t'.size + j))) x := by
       refine ImmC.congr (fun j hj => ?_) hx
       rw [← Addr.add_add, ← hc]
       exact h5 j (by omega)
      obtain ⟨v, hv⟩ := ImmC.list h6 0 (Ty.size_pos t')
      have := z6d hv
      rw [zfu] at this
      exact ⟨x, this, h6⟩)
     refine ⟨l, some a, cap, ?_, ?_, ?_, hcm, ?_, ?_⟩
     ·rw [hl]; rfl
     ·omega
     ·omega
     ·intro h; cases h
     ·intro k x hk
      exact ⟨a, rfl, (hr k x hk).1, (hr k x hk).2⟩
   | _ => simp at hp
  ·rename_i fs hu
   simp only [Bool.and_eq_true, beq_iff_eq] at hp
   obtain ⟨xs, m, rfl, hx, hlen, hxl, hf⟩ := DataW.trod_struct hu h
   cases hx
   obtain ⟨x, hi⟩ := z5w (ok := tyOk P n) (fun t T cs d p h1 h2 h3 => zva n m t T cs d p h1 h2 h3) fs.toList 0 T xs hp.2 (by simpa using hxl) (fun i f hif => hf i f (by simpa using hif)) (by
    intro k hk
    refine hw k ?_
    simp only [DataW.weights, hu]
    exact hk)
   exact ⟨x, ImmC.congr (fun j hj => by rw [Nat.zero_add]) hi⟩
  ·cases hp
theorem z4j : ∀ (n fuel : Nat) (t : TypeId) (T : Ty) (cs : List Value) (d : DataW H) (p : List MemPlace) (fs : Array Field), P.underlying t = some (.struct fs) → tyOk P n t T = true → DataW.trod enc P w 0 spare held fuel t cs = some (d, p) → cs.length = T.size
 | 0, _, _, _, _, _, _, _, _, hp, _ => by cases hp
 | n + 1, fuel, t, T, cs, d, p, fs, hu, hp, h => by
  simp only [tyOk, hu, Bool.and_eq_true, beq_iff_eq] at hp
  obtain ⟨xs, m, rfl, hx, hlen, _, _⟩ := DataW.trod_struct hu h
  rw [hlen, hp.1]
theorem zce {ts : List TypeId} {ds : List (DataW H)} (h : (DataW.weightsEach P ts ds).all (· ≤ reachBytes) = true) {j : Nat} {t : TypeId} {d : DataW H} (ht : ts[j]? = some t) (hd : ds[j]? = some d) : zy7 (d.weights P t) := by
 intro n hn
 simpa using List.all_eq_true.1 h n (DataW.weights_mem_each ht hd n hn)
theorem zfe {n : Nat} {r : Reach} {b0 : Nat} {t : TypeId} {T : Ty} {fs : Array Field} {v : Value} {d : DataW H} {p : List MemPlace} {β : Nat → GL} (hu : P.underlying t = some (.struct fs)) (hok : tyOk P n t T = true) (hval : Value.okWide P w r b0 t v) (h : DataW.Trod enc P w 0 spare held t v d p) (hw : zy7 (d.weights P t)) :
  ∃ x : T.T, T.ok x ∧ RelD 0 β (fun b => b < w.heap.size) w (.agg (T.cells x)) v := by
 obtain ⟨cs, rfl, _⟩ := Go.WideShapes.okWide_struct hu hval
 obtain ⟨fuel, hf⟩ := h
 have hf' : DataW.trod enc P w 0 spare held fuel t cs.toList = some (d, p) := hf
 obtain ⟨x, hx⟩ := zva n fuel t T _ d p hok hf' hw
 have hl := z4j n fuel t T _ d p fs hu hok hf'
 obtain ⟨us, h1, h2, h3⟩ := ImmC.values (n := 0) (β := β) hx
 have e : cs.toList = us := by
  apply List.ext_getElem?
  intro j
  by_cases hj : j < T.size
  ·exact h2 j hj
  ·rw [List.getElem?_eq_none (by omega), List.getElem?_eq_none (by omega)]
 exact ⟨x, hx.ok, us, by rw [← e], h3⟩
theorem zs7 {n : Nat} {r : Reach} {b0 : Nat} {t e : TypeId} {T : Ty} {v : Value} {d : DataW H} {p : List MemPlace} {β : Nat → GL} (hu : P.underlying t = some (.slice e)) (hok : tyOk P n t (.slice e T) = true) (hval : Value.okWide P w r b0 t v) (h : DataW.Trod enc P w 0 spare held t v d p) (hw : zy7 (d.weights P t)) :
  ∃ x : List T.T, (Ty.slice e T).ok x ∧ RelD 0 β (fun b => b < w.heap.size) w (.isl e T x) v := by
 obtain ⟨a, len, cap, rfl⟩ := Go.WideShapes.okWide_slice hu hval
 obtain ⟨fuel, hf⟩ := h
 have hf' : DataW.trod enc P w 0 spare held fuel t [.slice a len cap] = some (d, p) := hf
 obtain ⟨x, hx⟩ := zva n fuel t (.slice e T) _ d p hok hf' hw
 exact ⟨x, hx.ok, hx⟩
end
end Go.En
