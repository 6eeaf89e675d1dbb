/- Text LawSinkTakes of this seat: written by a program of ours, or by hand; checked by Lean. -/
import Derived.Test.YtfgphjencdhdgaaGreatDoorS
import Derived.Test.YtfgphjencdhdgaaGreatDoorE12
import Derived.Test.YtfgphjencdhdgaaGreatDoorE13
import Derived.Test.YtfgphjencdhdgaaGreatDoorLTakes
import Derived.Test.YtfgphjencdhdgaaGreatDoorRows
import Derived.Test.YtfgphjencdhdgaaGreatDoorTie
import Derived.Test.YtfgphjencdhdgaaGreatDoorCards
import Derived.SevenTiedAt
import Derived.Lay
import Derived.MakeChecks
import Derived.WalkKit
import Derived.ProofKit
import Derived.Test.YtfgphjencdhdgaaGreatDoorLawSinkTakesA
import Derived.Test.YtfgphjencdhdgaaGreatDoorLawSinkTakesB
import Derived.Test.YtfgphjencdhdgaaGreatDoorLawSinkTakesC
namespace Go.Proofs.YtfgphjencdhdgaaGreatDoor.sinkTakes
open Go.Proofs Go.ChangeShapes Go.WideShapes Go.ChangeAt Go.RowKit Go.En
open Go.ChangeMaps (open_string shut_string)
set_option linter.unusedVariables false
set_option maxRecDepth 100000 in
theorem lifted (os : Os) (started : os.Started) (H : Type) (enc : TypeId × Value → H) :
  ReturnsInHanded {} Tryz.checked os 3 .any (fun w args => (Rows.sinkTakesSpec.pre enc Tryz.prog Tryz.f3 [] false w args ∧ laidMetH Tryz.prog laids w) ∧ sizedMet enc Tryz.prog Tryz.f3 (OpenSpec.ofChange Rows.sinkTakesSpec) false w args)
   (Rows.sinkTakesSpec.post enc Tryz.prog Tryz.f3 false true false false) := by
 refine zc1 (C := Tryz.checked) (X := fun w _ => laidMetH Tryz.prog laids w) (fun _ _ _ hh h => h.of_heap hh) own started (by kernel_rfl) Tryz.func3
  (ChangeSpec.witness_shaped (enc := enc) (C := Tryz.checked) (os := os) (X := fun w _ => laidMetH Tryz.prog laids w) false (World.laidAll Tryz.prog os laids) #[.agg #[.slice none 0 0, .bool false], .agg #[.slice none 0 0], .int .i64 0, .string ByteArray.empty] 8 (World.laidAll_os _ _ _) (World.shaped_of_ZipB (by kernel_rfl) (by kernel_rfl)) (by kernel_rfl) (by kernel_rfl) (by kernel_rfl)
   (by rw [MakeChecks.laidMetH_plain _ _ _ (by kernel_rfl)]; exact laidMet_laidAll _ (by kernel_rfl) (by kernel_rfl))) ?_
 intro W base args ds gs before hval0 hW hcnd hsz0 hL hsh _
 have hsz : (DataW.weightsEach Tryz.prog (Tryz.f3.params.toList ++ Rows.sinkTakesSpec.plain.varTypes Tryz.prog) (ds ++ gs)).all (· ≤ reachBytes) = true := hsz0
 have hval : ∀ (j : Nat) t v, Tryz.f3.params[j]? = some t → args[j]? = some v → Value.okWide Tryz.prog W .any base t v := hval0
 have hW' := hW
 obtain ⟨p, q, hA0, hV, rfl, hfz, hnd⟩ := hW
 have hA : DataW.TrodAll enc Tryz.prog W 0 (fun _ => true) true Tryz.f3.params.toList args.toList ds p := hA0
 rw [Tryz.params3] at hA hval hsz
 obtain ⟨v0, vs0, d0, ds0, p0, q0, hargs, rfl, rfl, h0, r0⟩ := trodAll_cons hA
 obtain ⟨v1, vs1, d1, ds1, p1, q1, rfl, rfl, rfl, h1, r1⟩ := trodAll_cons r0
 obtain ⟨v2, vs2, d2, ds2, p2, q2, rfl, rfl, rfl, h2, r2⟩ := trodAll_cons r1
 obtain ⟨v3, vs3, d3, ds3, p3, q3, rfl, rfl, rfl, h3, r3⟩ := trodAll_cons r2
 obtain ⟨rfl, rfl, rfl⟩ := trodAll_nil r3
 obtain rfl : args = #[v0, v1, v2, v3] := by cases args; simp_all
 obtain ⟨rfl, rfl⟩ := trodVars_none hV
 have k0 := h0
 have lt0 : ∀ x ∈ p0, x.block < W.heap.size := by obtain ⟨m, hm⟩ := k0; exact DataW.trod_lt m _ _ _ hm
 obtain ⟨a0, ok0, y0⟩ := zfe (n := 9) (T := (.pair (.slice 79 (.pair .str (.slice 9 .str))) .bool)) (β := fun _ => .blk 0) Tryz.underlying24 (by kernel_rfl) (hval 0 24 v0 rfl rfl) h0 (zce hsz (j := 0) (t := 24) rfl rfl)
 have k1 := h1
 have lt1 : ∀ x ∈ p1, x.block < W.heap.size := by obtain ⟨m, hm⟩ := k1; exact DataW.trod_lt m _ _ _ hm
 obtain ⟨a1, ok1, y1⟩ := zfe (n := 9) (T := (.slice 55 (.pair (.int .i64) (.pair .str (.pair .str (.pair (.slice 76 (.pair .str .str)) (.pair (.int .i64) (.pair (.slice 3 (.int .i64)) (.pair .bool .bool))))))))) (β := fun _ => .blk 0) Tryz.underlying27 (by kernel_rfl) (hval 1 27 v1 rfl rfl) h1 (zce hsz (j := 1) (t := 27) rfl rfl)
 obtain ⟨a2, rfl, rfl, rfl, w2⟩ := open_int Tryz.underlying3 (hval 2 3 v2 rfl rfl) h2
 obtain ⟨a3, rfl, rfl, rfl, y3⟩ := open_string Tryz.underlying9 (hval 3 9 v3 rfl rfl) h3
 have w3 : a3.size ≤ 140737488351232 := by
  have z := sized_string hsz (j := 3) (t := 9) rfl rfl
  rw [Array.length_toList] at z
  exact z
 have hl3 : a3.data.toList.length ≤ maxB := by rw [Array.length_toList]; exact Nat.le_trans w3 (by decide)
 clear hA0 hval0 hsz0 hsz
 refine (zn6 (Pl.soundpouncelaw20_SinkTakes_ _ (Ev.upto_ok 5000)) (t := (a0, (a1, (a2, (a3.data.toList, ()))))) (Pl.plainSinkTakes a0 a1 a2 (a3.data.toList)) (globsOK hL _) (gerrsOK hL _) (gintsOK hsh _) (vs := [v0, v1, .int .i64 a2, .string a3]) ⟨_, _, rfl, y0, ⟨_, _, rfl, y1, ⟨_, _, rfl, ⟨rfl, w2⟩, ⟨_, _, rfl, ⟨rfl, hl3⟩, rfl⟩⟩⟩⟩).mono fun e W' ⟨he, bel⟩ => ?_
 subst he
 exact ⟨_, rfl, _, _, _, [], _, [], hW', trodAll_mk1 (shut_bool Tryz.underlying4 _), (trodAll_cons_mk (Below.trod laidOut (by kernel_rfl) (of_decide_eq_true (by kernel_rfl)) k0 bel lt0) (trodAll_cons_mk (Below.trod laidOut (by kernel_rfl) (of_decide_eq_true (by kernel_rfl)) k1 bel lt1) (trodAll_cons_mk (shut_int Tryz.underlying3 w2) (trodAll_cons_mk (shut_string Tryz.underlying9 y3) trodAll_mk0)))), rfl, bel.frame _, fun h => by cases h⟩
theorem over : Rows.SinkTakesSaid :=
 OpenClaim.holds_of_wide 3 Tryz.f3 rfl rfl rfl rfl rfl rfl rfl ⟨rfl, rfl, rfl, rfl, rfl⟩ rfl rfl rfl rfl rfl (by kernel_rfl) Tryz.func3 joined_
  (of_decide_eq_true (by kernel_rfl)) (by unfold Func.isWrapper; first | (rw [if_pos (by decide +kernel)]; kernel_rfl) | (rw [if_neg (by decide +kernel)]; exact ⟨rfl, rfl⟩))
  (fun os started H enc _ => lifted os started H enc)
theorem card : Rows.SinkTakesCardSaid :=
 Claim7.holds_tied_plain_at .later [] [.data, .data, .data, .data, .sentinel, .sentinel, .widerDeep, .pinned] true (true, "d9063062b232184f1a4d0aa061efb740db52589b49e5fecf8d3bbafc92d8fbe3") true
  over (fun _ h => by cases h) (by kernel_rfl) (fun _ h => by cases h) sinkTakes_row_tie rfl ⟨rfl, rfl⟩ (by kernel_rfl) rfl
  (fun f fn hf hfn => by
   obtain rfl : f = 3 := Option.some.inj ((show Tryz.prog.funcNamed "pounce/pouncelaw20.SinkTakes" = some 3 by kernel_rfl).symm.trans hf) |>.symm
   obtain rfl : fn = Tryz.f3 := (Option.some.inj (Tryz.func3.symm.trans hfn)).symm
   exact ⟨by kernel_rfl, fun j t ht => by
    rw [Tryz.params3] at ht
    have hm : t ∈ [24, 27, 3, 9] := by simpa using Array.mem_of_getElem? ht
    have hall : ([24, 27, 3, 9].all fun u => !Tryz.prog.wantsStandIn u) = true := by kernel_rfl
    exact (show Tryz.prog.wantsStandIn t = false by simpa using List.all_eq_true.1 hall t hm)⟩)
  goes_
end Go.Proofs.YtfgphjencdhdgaaGreatDoor.sinkTakes
