/- Text LawDomMakes of this seat: written by a program of ours, or by hand; checked by Lean. -/
import Derived.Test.YtadpiodjbcjlcaaS
import Derived.Test.YtadpiodjbcjlcaaE12
import Derived.Test.YtadpiodjbcjlcaaE13
import Derived.Test.YtadpiodjbcjlcaaOC
import Derived.Test.YtadpiodjbcjlcaaRows
import Derived.Lay
import Derived.MakeChecks
import Derived.WalkKit
import Derived.ProofKit
namespace Go.Proofs.Ytadpiodjbcjlcaa.domMakes
open Go.Proofs Go.ChangeShapes Go.WideShapes Go.ChangeAt Go.RowKit Go.En
open Go.ChangeMaps (open_string shut_string)
set_option linter.unusedVariables false
theorem own : ownKnob Try.prog.godebug = none := by kernel_rfl
theorem laidOut : laidOutB Try.prog = true := by kernel_rfl
set_option maxRecDepth 100000 in
theorem lifted (os : Os) (started : os.Started) (H : Type) (enc : TypeId × Value → H) :
    ReturnsInHanded {} Try.checked os 4 .any (Rows.domMakesSpec.pre6 enc Try.prog Try.f4 Rows.domMakesRow.domain false) (Rows.domMakesSpec.post enc Try.prog Try.f4 false true false false) := by
  refine returnsInHanded_of_change_sized (C := Try.checked) own started (by kernel_rfl) Try.func4
    (ChangeSpec.witness6 (enc := enc) (C := Try.checked) false ⟨#[], #[.agg #[.slice none 0 0], .agg #[.int .i64 0, .string ByteArray.empty, .string ByteArray.empty, .slice none 0 0, .int .i64 0, .slice none 0 0, .bool false, .bool false]], []⟩ 8 (by kernel_rfl) (by kernel_rfl) (by kernel_rfl) (by kernel_rfl)) ?_
  intro W base args ds gs before hval0 hW hcnd hsz0 _
  have hsz : (DataW.weightsEach Try.prog (Try.f4.params.toList ++ Rows.domMakesSpec.plain.varTypes Try.prog) (ds ++ gs)).all (· ≤ reachBytes) = true := hsz0
  have hval : ∀ (j : Nat) t v, Try.f4.params[j]? = some t → args[j]? = some v → Value.okWide Try.prog W .any base t v := hval0
  have hW' := hW
  obtain ⟨p, q, hA0, hV, rfl, hfz, hnd⟩ := hW
  have hA : DataW.TrodAll enc Try.prog W 0 (fun _ => true) true Try.f4.params.toList args.toList ds p := hA0
  rw [Try.params4] at hA hval hsz
  obtain ⟨v0, vs0, d0, ds0, p0, q0, hargs, rfl, rfl, h0, r0⟩ := trodAll_cons hA
  obtain ⟨v1, vs1, d1, ds1, p1, q1, rfl, rfl, rfl, h1, r1⟩ := trodAll_cons r0
  obtain ⟨rfl, rfl, rfl⟩ := trodAll_nil r1
  obtain rfl : args = #[v0, v1] := by cases args; simp_all
  obtain ⟨rfl, rfl⟩ := trodVars_none hV
  have k0 := h0
  have lt0 : ∀ x ∈ p0, x.block < W.heap.size := by obtain ⟨m, hm⟩ := k0; exact DataW.trod_lt m _ _ _ hm
  obtain ⟨a0, ok0, y0⟩ := open_struct (n := 9) (T := (.slice 42 (.pair (.int .i64) (.pair .str (.pair .str (.pair (.slice 61 (.pair .str .str)) (.pair (.int .i64) (.pair (.slice 3 (.int .i64)) (.pair .bool .bool))))))))) (β := fun _ => .blk 0) Try.underlying24 (by kernel_rfl) (hval 0 24 v0 rfl rfl) h0 (light_each hsz (j := 0) (t := 24) rfl rfl)
  have k1 := h1
  have lt1 : ∀ x ∈ p1, x.block < W.heap.size := by obtain ⟨m, hm⟩ := k1; exact DataW.trod_lt m _ _ _ hm
  obtain ⟨a1, ok1, y1⟩ := open_struct (n := 9) (T := (.pair (.int .i64) (.pair .str (.pair .str (.pair (.slice 61 (.pair .str .str)) (.pair (.int .i64) (.pair (.slice 3 (.int .i64)) (.pair .bool .bool)))))))) (β := fun _ => .blk 0) Try.underlying42 (by kernel_rfl) (hval 1 42 v1 rfl rfl) h1 (light_each hsz (j := 1) (t := 42) rfl rfl)
  clear hA0 hval0 hsz0 hsz
  refine (law_calls (Pl.soundpouncelaw16_DomMakes_ _ (Ev.upto_ok 5000)) (t := (a0, (a1, ()))) (Pl.plainDomMakes a0 a1) (fun g t vs h => by cases h) (fun g h => by cases h) (fun g h => by cases h) (vs := [v0, v1]) ⟨_, _, rfl, y0, ⟨_, _, rfl, y1, rfl⟩⟩).mono fun e W' ⟨he, bel⟩ => ?_
  subst he
  exact ⟨_, rfl, _, _, _, [], _, [], hW', trodAll_mk1 (shut_bool Try.underlying4 _), (trodAll_cons_mk (Below.trod laidOut (by kernel_rfl) (of_decide_eq_true (by kernel_rfl)) k0 bel lt0) (trodAll_cons_mk (Below.trod laidOut (by kernel_rfl) (of_decide_eq_true (by kernel_rfl)) k1 bel lt1) trodAll_mk0)), rfl, bel.frame _, fun h => by cases h⟩
theorem over : Rows.DomMakesSaid :=
  OpenClaim.holds_of_wide 4 Try.f4 rfl rfl rfl rfl rfl rfl rfl ⟨rfl, rfl, rfl, rfl, rfl⟩ rfl rfl rfl rfl rfl (by kernel_rfl) Try.func4 (by kernel_rfl)
    (of_decide_eq_true (by kernel_rfl)) (by unfold Func.isWrapper; first | (rw [if_pos (by decide +kernel)]; kernel_rfl) | (rw [if_neg (by decide +kernel)]; exact ⟨rfl, rfl⟩))
    (fun os started H enc _ => lifted os started H enc)
end Go.Proofs.Ytadpiodjbcjlcaa.domMakes
