/- Text E12 of this seat: written by a program of ours, or by hand; checked by Lean. -/
import Derived.Test.YtfgphjencdhdgaaGreatDoorE11
import Derived.OpenShut
import Derived.ShutString
import Derived.ChangeOld
import Derived.Below
import Derived.SizedLaws
import Derived.LaidMore
import Derived.Stop.Joined
import Derived.Handed
import Derived.HandedShaped
import Derived.Shelf.Vars
set_option linter.unusedVariables false
set_option linter.unusedSimpArgs false
namespace Go.En
open Go.RowKit

theorem zec {α : Type} {l : List (Nat × α)} {g : Nat} {x : α} (h : l.lookup g = some x) : (g, x) ∈ l := by
 induction l with
 | nil => cases h
 | cons p l ih =>
  rw [List.lookup_cons] at h
  split at h
  ·rename_i e
   cases h
   rw [show g = p.1 by simpa using e]
   exact List.mem_cons_self ..
  ·exact List.mem_cons_of_mem _ (ih h)
/-! -/
mutual
def zi4 {H : Type} : DataW H → Option (List Value)
 | .lit (.int k n) => some [.int k n]
 | .lit (.bool b) => some [.bool b]
 | .lit (.string l) => some [.string ⟨l.toArray⟩]
 | .agg ds => zhc ds
 | _ => none
def zhc {H : Type} : List (DataW H) → Option (List Value)
 | [] => some []
 | d :: ds => (zi4 d).bind fun a => (zhc ds).bind fun b => some (a ++ b)
end
def plFs (P : Program) (ok : TypeId → Bool) : List Field → Nat → Nat → Bool
 | [], off, tot => off == tot
 | f :: fs, off, tot => f.offset == off && (ok f.type && plFs P ok fs (off + P.cellsOf f.type) tot)
def zph (P : Program) : Nat → TypeId → Bool
 | 0, _ => false
 | n + 1, t => match P.underlying t with
  | some (.int _) => true
  | some .bool => true
  | some .string => true
  | some (.array k e) => zph P n e && P.cellsOf t == k * P.cellsOf e
  | some (.struct fs) => plFs P (zph P n) fs.toList 0 (P.cellsOf t)
  | _ => false
section
variable {P : Program} {H : Type} {enc : TypeId × Value → H} {w : World} {base : Nat} {spare : Nat → Bool} {held : Bool}
theorem zub {c : Nat} : ∀ (xs : List (DataW H × List MemPlace)) (cs : List Value), cs.length = xs.length * c → (∀ (i : Nat) (x : DataW H × List MemPlace), xs[i]? = some x → zi4 x.1 = some ((cs.drop (i * c)).take c)) → zhc (xs.map (·.1)) = some cs
 | [], cs, hl, _ => by
  have : cs = [] := List.eq_nil_of_length_eq_zero (by simpa using hl)
  subst this; rfl
 | x :: xs, cs, hl, h => by
  have h0 := h 0 x rfl
  simp only [Nat.zero_mul, List.drop_zero] at h0
  have ih := zub (c := c) xs (cs.drop c) (by simp only [List.length_drop, hl, List.length_cons, Nat.add_mul]; omega) fun i y hy => by
   have := h (i + 1) y (by simpa using hy)
   rw [this, List.drop_drop]
   congr 3
   rw [Nat.add_mul]; omega
  simp only [List.map_cons, zhc, h0, ih, Option.bind_some, List.take_append_drop]
theorem z4i {ok : TypeId → Bool} {m : Nat} (ih : ∀ (t : TypeId) (cs : List Value) (d : DataW H) (p : List MemPlace), ok t = true → DataW.trod enc P w base spare held m t cs = some (d, p) → zi4 d = some cs) (cs : List Value) :
  ∀ (fs : List Field) (off : Nat) (xs : List (DataW H × List MemPlace)), plFs P ok fs off cs.length = true → xs.length = fs.length → (∀ (i : Nat) (f : Field), fs[i]? = some f → DataW.trod enc P w base spare held m f.type ((cs.drop f.offset).take (P.cellsOf f.type)) = xs[i]?) → zhc (xs.map (·.1)) = some (cs.drop off)
 | [], off, xs, hp, hl, hf => by
  obtain rfl : xs = [] := List.eq_nil_of_length_eq_zero hl
  obtain rfl : off = cs.length := by simpa [plFs] using hp
  simp [zhc]
 | f :: fs, off, [], hp, hl, hf => by simp at hl
 | f :: fs, off, x :: xs, hp, hl, hf => by
  simp only [plFs, Bool.and_eq_true, beq_iff_eq] at hp
  obtain ⟨h1, h2, h3⟩ := hp
  have h4 := hf 0 f rfl
  rw [h1] at h4
  have h5 := ih _ _ x.1 x.2 h2 h4
  have h6 := z4i ih cs fs (off + P.cellsOf f.type) xs h3 (by simpa using hl) (fun i g hg => by simpa using hf (i + 1) g (by simpa using hg))
  simp only [List.map_cons, zhc, h5, h6, Option.bind_some]
  rw [← List.drop_drop, List.take_append_drop]
theorem zwb : ∀ (n fuel : Nat) (t : TypeId) (cs : List Value) (d : DataW H) (p : List MemPlace), zph P n t = true → DataW.trod enc P w base spare held fuel t cs = some (d, p) → zi4 d = some cs
 | 0, fuel, t, cs, d, p, hp, h => by cases hp
 | n + 1, fuel, t, cs, d, p, hp, h => by
  simp only [zph] at hp
  split at hp
  ·rename_i k hu
   obtain ⟨m, rfl, hx, _⟩ := DataW.trod_int hu h
   cases hx; rfl
  ·rename_i hu
   cases fuel with
   | zero => simp [DataW.trod] at h
   | succ fuel =>
    unfold DataW.trod at h
    rw [hu] at h
    split at h <;> simp_all
    obtain ⟨rfl, _⟩ := h
    rfl
  ·rename_i hu
   obtain ⟨s, rfl, hx, _⟩ := DataW.trod_string hu h
   cases hx
   simp [zi4]
  ·rename_i k e hu
   simp only [Bool.and_eq_true, beq_iff_eq] at hp
   obtain ⟨xs, m, rfl, hx, hl, hlen, hall⟩ := DataW.trod_array hu h
   cases hx
   simp only [zi4]
   refine zub xs cs (by rw [hl, hp.2, hlen]) fun i x hi => ?_
   have hik : i < k := by have := (List.getElem?_eq_some_iff.1 hi).1; omega
   exact zwb n m e _ x.1 x.2 hp.1 ((hall i hik).trans hi)
  ·rename_i fs hu
   obtain ⟨xs, m, rfl, hx, hlen, hxl, hf⟩ := DataW.trod_struct hu h
   cases hx
   simp only [zi4]
   have := z4i (ok := zph P n) (m := m) (fun t cs d p h1 h2 => zwb n m t cs d p h1 h2) cs fs.toList 0 xs (by rw [hlen]; exact hp) (by simpa using hxl) (fun i f hif => hf i f (by simpa using hif))
   simpa using this
  ·cases hp
theorem z2x {ms : Array (String × TypeId)} {t : TypeId} {cs : List Value} {fuel : Nat} {s : String} {d : DataW H} {p : List MemPlace} (hu : P.underlying t = some (.interface ms)) (h : DataW.trod enc P w base spare false fuel t cs = some (.iface s d, p)) : ∃ u v, cs = [.iface u v] := by
 cases fuel with
 | zero => simp [DataW.trod] at h
 | succ fuel =>
  unfold DataW.trod at h
  rw [hu] at h
  split at h <;> simp_all
theorem z19 {n : String} {g : Nat} {cs : Array Value} (hg : P.globalNamed n = some g) (h : w.var? P n = some cs) : ∃ t fr, w.heap[g]? = some (.cells cs t fr) := by
 simp only [World.var?, hg, Option.bind_some] at h
 split at h
 ·rename_i cs' t fr hh
  simp only [Option.some.injEq] at h
  subst h
  exact ⟨t, fr, hh⟩
 ·cases h
theorem z6c {l : List (String × DataW Unit)} {ps : List MemPlace} (h : DataW.LaidVars P w l ps) {n : String} {d : DataW Unit} (hx : (n, d) ∈ l) :
  ∃ g t cs fuel p, P.globalNamed n = some g ∧ (P.globals[g]?).map (·.type) = some t ∧ w.var? P n = some cs ∧ DataW.trod (fun _ => ()) P w 0 (fun _ => true) false fuel t cs.toList = some (d, p) := by
 induction l generalizing ps with
 | nil => cases hx
 | cons y l ih =>
  obtain ⟨n', d'⟩ := y
  obtain ⟨g, t, cs, fuel, p, q, h1, h2, h3, h4, h5, _⟩ := h
  rcases List.mem_cons.1 hx with e | hx
  ·cases e
   exact ⟨g, t, cs, fuel, p, h1, h2, h3, h4⟩
  ·exact ih h5 hx
theorem z0j {l : List (String × DataW Unit)} (h : laidMetH P l w) (hl : (l.filter fun x => x.2.handleName?.isSome) = []) {n : String} {d : DataW Unit} (hx : (n, d) ∈ l) :
  ∃ g t cs fuel p, P.globalNamed n = some g ∧ (P.globals[g]?).map (·.type) = some t ∧ w.var? P n = some cs ∧ DataW.trod (fun _ => ()) P w 0 (fun _ => true) false fuel t cs.toList = some (d, p) := by
 unfold laidMetH at h
 rw [hl] at h
 obtain ⟨ps, h1, _⟩ := h
 exact z6c h1 hx
theorem zc0 {l : List (String × DataW Unit)} (h : laidMetH P l w) (hl : (l.filter fun x => x.2.handleName?.isSome) = []) {n : String} {d : DataW Unit} (hx : (n, d) ∈ l) {g : Nat} {t : TypeId} {vs : List Value} (hg : P.globalNamed n = some g) (ht : (P.globals[g]?).map (·.type) = some t)
  (hp : zph P 4 t = true) (hv : zi4 d = some vs) : g < w.heap.size ∧ ∃ t' fr, w.heap[g]? = some (.cells vs.toArray t' fr) := by
 obtain ⟨g', t', cs, fuel, p, h1, h2, h3, h4⟩ := z0j h hl hx
 rw [hg] at h1; cases h1
 rw [ht] at h2; cases h2
 have h5 := zwb 4 fuel t cs.toList d p hp h4
 rw [hv] at h5
 cases h5
 obtain ⟨t', fr, h6⟩ := z19 hg h3
 refine ⟨(Array.getElem?_eq_some_iff.1 h6).1, t', fr, by simpa using h6⟩
theorem zfm {l : List (String × DataW Unit)} (h : laidMetH P l w) (hl : (l.filter fun x => x.2.handleName?.isSome) = []) {n : String} {s : String} {d : DataW Unit} (hx : (n, DataW.iface s d) ∈ l) {g : Nat} {t : TypeId} {ms : Array (String × TypeId)} (hg : P.globalNamed n = some g) (ht : (P.globals[g]?).map (·.type) = some t)
  (hu : P.underlying t = some (.interface ms)) : g < w.heap.size ∧ ∃ v t' fr, w.heap[g]? = some (.cells #[v] t' fr) ∧ ErrV true v := by
 obtain ⟨g', t', cs, fuel, p, h1, h2, h3, h4⟩ := z0j h hl hx
 rw [hg] at h1; cases h1
 rw [ht] at h2; cases h2
 obtain ⟨u, v, h5⟩ := z2x hu h4
 obtain ⟨t', fr, h6⟩ := z19 hg h3
 have h7 : cs = #[.iface u v] := by apply Array.ext'; simpa using h5
 rw [h7] at h6
 exact ⟨(Array.getElem?_eq_some_iff.1 h6).1, .iface u v, t', fr, h6, u, v, rfl⟩
theorem zc1 {H : Type} {enc : TypeId × Value → H} {a : Assume} {C : Checked} {os : Os} {f : FuncId} {fn : Func} {s : ChangeSpec} {conds : List PathCond} {apart fresh handsOn again : Bool} {X : World → Array Value → Prop}
  (hX : ∀ (w w' : World) (args : Array Value), w.heap = w'.heap → X w args → X w' args) (own : ownKnob C.prog.godebug = none) (started : os.Started) (noInit : C.prog.inits.idxOf? f = none) (hfn : C.prog.funcs[f]? = some fn)
  (witness : ∃ (w : World) (tape : Tape) (i : Input), w.os = os ∧ (w.forCall tape i).Shaped C.prog ∧ i.vars = [] ∧ Input.okWide C.prog (w.forCall tape i) .any w.heap.size f i ∧
   ((s.pre enc C.prog fn conds apart (w.forCall tape i).memory i.args ∧ X (w.forCall tape i).memory i.args) ∧ sizedMet enc C.prog fn (OpenSpec.ofChange s) apart (w.forCall tape i).memory i.args) ∧ a.holds C.prog (lone (Frame.enter C.prog f i.args .normal) [] (w.forCall tape i)))
  (contract : ∀ (W : World) (base : Nat) (args : Array Value) (ds gs : List (DataW H)) (before : List MemPlace), (∀ (j : Nat) t v, fn.params[j]? = some t → args[j]? = some v → Value.okWide C.prog W .any base t v) →
   DataW.Whole enc C.prog fn.params.toList s.vars apart W args.toList ds gs before → conds.all (PathCond.test C.prog ⟨fn.params.toList, ds, s.plain.varTypes C.prog, gs⟩) = true →
   (DataW.weightsEach C.prog (fn.params.toList ++ s.plain.varTypes C.prog) (ds ++ gs)).all (· ≤ reachBytes) = true → X W args → W.ShapedOpen C.prog → a.holds C.prog (lone (Frame.enter C.prog f args .normal) [] W) →
   Calls C.prog f args W fun e W' => ∃ v, e = .returned v ∧ s.post enc C.prog fn apart fresh handsOn again W args v W') :
  ReturnsInHanded a C os f .any (fun w args => (s.pre enc C.prog fn conds apart w args ∧ X w args) ∧ sizedMet enc C.prog fn (OpenSpec.ofChange s) apart w args) (s.post enc C.prog fn apart fresh handsOn again) := by
 refine returnsInHanded_of_calls own started noInit witness fun w tape i h1 hsh h2 hok hpre hholds => ?_
 obtain ⟨⟨⟨ds, gs, before, hw, hc⟩, hx⟩, hz⟩ := hpre
 have hval : ∀ (j : Nat) t v, fn.params[j]? = some t → i.args[j]? = some v → Value.okWide C.prog (w.forCall tape i) .any w.heap.size t v := by
  obtain ⟨_, _, _, fn', hfn', _, _, _, _, hv⟩ := hok
  rw [hfn] at hfn'
  cases hfn'
  exact hv
 refine Calls.mono (contract _ w.heap.size i.args ds gs before hval (DataW.Whole.of_heap (by rfl) hw) hc (hz.weights hw) (hX _ _ _ (by rfl) hx) hsh hholds) ?_
 rintro e W' ⟨v, rfl, hp⟩
 exact ChangeSpec.post_blind hp
theorem zn6 {E : Env} {f : FuncId} {args : List Pat} {F : (Sig.mk args [] [.ty .bool] []).In → Option (Sig.mk args [] [.ty .bool] []).Out} (hs : zh P E f ⟨⟨args, [], [.ty .bool], []⟩, F⟩) {t : zib args} {b : Bool} (hF : F (t, ()) = some ((b, ()), ()))
  (hglob : ∀ g t vs, E.glob g = some (t, vs) → g < w.heap.size ∧ ∃ t' fr, w.heap[g]? = some (.cells vs.toArray t' fr)) (hgerr : ∀ g, E.gerr g = true → g < w.heap.size ∧ ∃ v t fr, w.heap[g]? = some (.cells #[v] t fr) ∧ ErrV true v)
  (hgint : ∀ g, E.gint g = true → ∃ m, w.cell? ⟨g, 0, none⟩ = some (.int .i64 m))
  {vs : List Value} (hvs : za 0 (fun _ => .blk 0) (fun b => b < w.heap.size) w (injP id args t) vs) : Calls P f vs.toArray w fun e w' => e = .returned (.bool b) ∧ Below w.heap.size w w' := by
 refine (hs (t, ()) ((b, ()), ()) (fun _ => .blk 0) (fun b => b < w.heap.size) w vs hF ⟨fun b hb => ⟨fun ⟨j, hj⟩ => by simp [injO, blks] at hj, hb⟩, hglob, hgerr, fun g hg => by
  obtain ⟨m, hm⟩ := hgint g hg
  refine ⟨?_, m, hm⟩
  have : w.heap[g]? ≠ none := fun e => by simp [World.cell?, e] at hm
  exact Nat.lt_of_not_le fun h => this (Array.getElem?_eq_none h)⟩ (fun r hr => by cases hr) ?_ hvs).mono ?_
 ·exact ⟨fun i o ho => by simp [injO] at ho, fun i j b _ hb => by simp [injO, blks] at hb, fun i b hb => by simp [injO, blks] at hb, fun b hb => hb, fun b hb => hb, fun b hb => .inl hb, Same.refl _ _, fun _ _ => rfl, Nat.le_refl _⟩
 ·rintro e w' ⟨us, rfl, β, S, hI, hd⟩
  obtain ⟨u, us', rfl, hu, hus⟩ := hd
  obtain rfl : us' = [] := hus
  obtain rfl : u = .bool b := hu
  exact ⟨rfl, hI.same.below (Nat.le_refl _) fun b ⟨j, hj⟩ => by simp [injO, blks] at hj⟩
end
end Go.En
