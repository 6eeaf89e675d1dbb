/- The law EntityDecodes: for every input the call answers true and leaves what came in as it was. The walk: the engine (parts E1 to E12) and the functions as it reads them (G, S); the plain law: the text that is imported as Pure. -/
import Derived.Test.YtgclokmkoningaaDoorS
import Derived.Test.YtgclokmkoningaaDoorE12
import Derived.Test.YtgclokmkoningaaDoorPD7
import Derived.Test.YtgclokmkoningaaDoorRows
import Derived.Test.YtgclokmkoningaaDoorTie
import Derived.Test.YtgclokmkoningaaDoorCards
import Derived.SevenTiedAt
import Derived.WalkKit
import Derived.ProofKit
namespace Go.Proofs.YtgclokmkoningaaDoor.entityDecodes
open Go.ChangeShapes Go.WideShapes Go.ChangeAt Go.RowKit Go.En
open Go.ChangeMaps (open_string shut_string)
set_option linter.unusedVariables false
theorem own : ownKnob Tryd.prog.godebug = none := by kernel_rfl
def laids : List (String × DataW Unit) := Rows.entityDecodesRow.laid
theorem door_met (os : Os) (args : Array Value) : laidMetH Tryd.prog laids ((World.doorLaid Tryd.prog 400 os).forCall (fun _ _ => 0) ⟨#[], args, []⟩).memory :=
  laidMetH_of_parts3 (fuel := 8) (laidMet_of_run' 8 (by kernel_rfl) (by kernel_rfl)) (by kernel_rfl) (by kernel_rfl)
theorem globsOK {W : World} (hL : laidMetH Tryd.prog laids W) (V : Ev) : ∀ g t vs, (Ent.env V []).glob g = some (t, vs) → g < W.heap.size ∧ ∃ t' fr, W.heap[g]? = some (.cells vs.toArray t' fr) := by
  intro g t vs h
  have h' : Ent.globs.lookup g = some (t, vs) := h
  have hn : (laids.filter fun x => x.2.handleName?.isSome) = [] := by kernel_rfl
  simp only [Ent.globs, List.lookup_cons] at h'
  split at h'
  · rename_i e
    obtain rfl : g = 0 := by simpa using e
    cases h'
    exact laid_glob hL hn (n := "pounce/entity.names") (d := Rows.laid_pounce_entity_names) (by simp [laids, Rows.entityDecodesRow]) (t := 52) (by kernel_rfl) (by kernel_rfl) (by kernel_rfl) (by kernel_rfl)
  ·
    simp at h'
theorem gerrsOK {W : World} (hL : laidMetH Tryd.prog laids W) (V : Ev) : ∀ g, (Ent.env V []).gerr g = true → g < W.heap.size ∧ ∃ v t fr, W.heap[g]? = some (.cells #[v] t fr) ∧ ErrV true v := by
  intro g h
  have h' : Ent.gerrs.contains g = true := h
  have hn : (laids.filter fun x => x.2.handleName?.isSome) = [] := by kernel_rfl
  have hm : g = 2 ∨ g = 3 := by simpa [Ent.gerrs] using h'
  rcases hm with rfl | rfl
  · exact laid_err hL hn (n := "strconv.ErrSyntax") (s := "*errors.errorString") (d := .ptr (.agg [.lit (.string [105, 110, 118, 97, 108, 105, 100, 32, 115, 121, 110, 116, 97, 120])])) (by simp [laids, Rows.entityDecodesRow, Rows.laid_strconv_ErrSyntax]) (t := 41) (by kernel_rfl) (by kernel_rfl) Tryd.underlying41
  · exact laid_err hL hn (n := "strconv.ErrRange") (s := "*errors.errorString") (d := .ptr (.agg [.lit (.string [118, 97, 108, 117, 101, 32, 111, 117, 116, 32, 111, 102, 32, 114, 97, 110, 103, 101])])) (by simp [laids, Rows.entityDecodesRow, Rows.laid_strconv_ErrRange]) (t := 41) (by kernel_rfl) (by kernel_rfl) Tryd.underlying41
set_option maxRecDepth 100000 in
theorem lifted (os : Os) (started : os.Started) (H : Type) (enc : TypeId × Value → H) :
    ReturnsInHanded {} Tryd.checked os 3 .any (fun w args => (Rows.entityDecodesSpec.pre enc Tryd.prog Tryd.f3 [] false w args ∧ laidMetH Tryd.prog laids w) ∧ sizedMet enc Tryd.prog Tryd.f3 (OpenSpec.ofChange Rows.entityDecodesSpec) false w args)
      (Rows.entityDecodesSpec.post enc Tryd.prog Tryd.f3 false true false false) := by
  refine returnsInHanded_of_change_and (C := Tryd.checked) (X := fun w _ => laidMetH Tryd.prog laids w) (fun _ _ _ hh h => h.of_heap hh) own started (by kernel_rfl) Tryd.func3
    (ChangeSpec.witness_shaped (enc := enc) (C := Tryd.checked) (os := os) (X := fun w _ => laidMetH Tryd.prog laids w) false (World.doorLaid Tryd.prog 400 os) #[.string ByteArray.empty, .string ByteArray.empty] 8 rfl (World.shaped_of_RefB (by kernel_rfl) (by kernel_rfl)) (by kernel_rfl) (by kernel_rfl) (by kernel_rfl) (door_met os _)) ?_
  intro W base args ds gs before hval0 hW hcnd hsz0 hL _
  have hsz : (DataW.weightsEach Tryd.prog (Tryd.f3.params.toList ++ Rows.entityDecodesSpec.plain.varTypes Tryd.prog) (ds ++ gs)).all (· ≤ reachBytes) = true := hsz0
  have hval : ∀ (j : Nat) t v, Tryd.f3.params[j]? = some t → args[j]? = some v → Value.okWide Tryd.prog W .any base t v := hval0
  have hW' := hW
  obtain ⟨p, q, hA0, hV, rfl, hfz, hnd⟩ := hW
  have hA : DataW.TrodAll enc Tryd.prog W 0 (fun _ => true) true Tryd.f3.params.toList args.toList ds p := hA0
  rw [Tryd.params3] at hA hval hsz
  obtain ⟨v0, vs0, d0, ds0, p0, q0, hargs, rfl, rfl, h0, r0⟩ := trodAll_cons hA
  obtain ⟨v1, vs1, d1, ds1, p1, q1, rfl, rfl, rfl, h1, r1⟩ := trodAll_cons r0
  obtain ⟨rfl, rfl, rfl⟩ := trodAll_nil r1
  obtain rfl : args = #[v0, v1] := by cases args; simp_all
  obtain ⟨rfl, rfl⟩ := trodVars_none hV
  obtain ⟨a0, rfl, rfl, rfl, y0⟩ := open_string Tryd.underlying9 (hval 0 9 v0 rfl rfl) h0
  have w0 : a0.size ≤ 140737488351232 := by
    have z := sized_string hsz (j := 0) (t := 9) rfl rfl
    rw [Array.length_toList] at z
    exact z
  have hl0 : a0.data.toList.length ≤ maxB := by rw [Array.length_toList]; exact Nat.le_trans w0 (by decide)
  obtain ⟨a1, rfl, rfl, rfl, y1⟩ := open_string Tryd.underlying9 (hval 1 9 v1 rfl rfl) h1
  have w1 : a1.size ≤ 140737488351232 := by
    have z := sized_string hsz (j := 1) (t := 9) rfl rfl
    rw [Array.length_toList] at z
    exact z
  have hl1 : a1.data.toList.length ≤ maxB := by rw [Array.length_toList]; exact Nat.le_trans w1 (by decide)
  clear hA0 hval0 hsz0 hsz
  refine (law_calls (Ent.soundF3 _ (Ev.upto_ok 5000)) (t := (a0.data.toList, (a1.data.toList, ()))) (Ent.plain3 (a0.data.toList) (a1.data.toList)) (globsOK hL _) (gerrsOK hL _) (vs := [.string a0, .string a1]) ⟨_, _, rfl, ⟨rfl, hl0⟩, ⟨_, _, rfl, ⟨rfl, hl1⟩, rfl⟩⟩).mono fun e W' ⟨he, bel⟩ => ?_
  subst he
  exact ⟨_, rfl, _, _, _, [], _, [], hW', trodAll_mk1 (shut_bool Tryd.underlying4 _), (trodAll_cons_mk (shut_string Tryd.underlying9 y0) (trodAll_cons_mk (shut_string Tryd.underlying9 y1) trodAll_mk0)), rfl, bel.frame _, fun h => by cases h⟩
theorem over : Rows.EntityDecodesSaid :=
  OpenClaim.holds_of_wide 3 Tryd.f3 rfl rfl rfl rfl rfl rfl rfl ⟨rfl, rfl, rfl, rfl, rfl⟩ rfl rfl rfl rfl rfl (by kernel_rfl) Tryd.func3 (by kernel_rfl)
    (of_decide_eq_true (by kernel_rfl)) (by unfold Func.isWrapper; first | (rw [if_pos (by decide +kernel)]; kernel_rfl) | (rw [if_neg (by decide +kernel)]; exact ⟨rfl, rfl⟩))
    (fun os started H enc _ => lifted os started H enc)
theorem card : Rows.EntityDecodesCardSaid :=
  Claim7.holds_tied_plain_at .later [] [.data, .data, .data, .sentinel, .sentinel, .widerDeep] true (true, "9fffd7e5bf7638746a58d540e8c2bd06d762aead8d53117eef8d6c8e60b0f064") true
    over (fun _ h => by cases h) (by kernel_rfl) (fun _ h => by cases h) entityDecodes_row_tie rfl ⟨rfl, rfl⟩ (by kernel_rfl) rfl
    (fun f fn hf hfn => by
      obtain rfl : f = 3 := Option.some.inj ((show Tryd.prog.funcNamed "pounce/pouncelaw13.EntityDecodes" = some 3 by kernel_rfl).symm.trans hf) |>.symm
      obtain rfl : fn = Tryd.f3 := (Option.some.inj (Tryd.func3.symm.trans hfn)).symm
      exact ⟨by kernel_rfl, fun j t ht => by
        rw [Tryd.params3] at ht
        have hm : t ∈ [9, 9] := by simpa using Array.mem_of_getElem? ht
        have hall : ([9, 9].all fun u => !Tryd.prog.wantsStandIn u) = true := by kernel_rfl
        exact (show Tryd.prog.wantsStandIn t = false by simpa using List.all_eq_true.1 hall t hm)⟩)
    (by kernel_rfl)
end Go.Proofs.YtgclokmkoningaaDoor.entityDecodes
