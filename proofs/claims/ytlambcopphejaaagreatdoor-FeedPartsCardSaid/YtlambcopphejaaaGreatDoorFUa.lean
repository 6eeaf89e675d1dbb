/- Text FUa of this seat: written by a program of ours, or by hand; checked by Lean. -/
import Derived.Test.YtlambcopphejaaaGreatDoorFU8
set_option linter.unusedSimpArgs false
set_option linter.unusedVariables false
namespace Go.En.Pl
abbrev PM := List (Int × (Bs × (Bs × ((List (Bs × Bs)) × Bool))))
abbrev PG := List (Int × Int)
theorem feedTo (s : Bs) (a to : Nat) (c : Int) (x : Rd) (buf : List Int) (hs : s.length ≤ 2000) (ha : a ≤ to) (ht : to ≤ s.length) (h : FD (s.take a) c x buf) : ∃ (x' : Rd) (buf' : List Int),
    feed_Feeder_Feed_9d4 (Ev.upto 200000000) ((ofBs ((s.take to).drop a), ()), ((c, ()), ((x, ()), (buf, ())))) = some (((0 : Int), ()), (((to : Int), ()), ((x', ()), (buf', ())))) ∧ FD (s.take to) (to : Int) x' buf' := by
  have e0 : s.take a ++ (s.take to).drop a = s.take to := by
    have := List.take_append_drop a (s.take to)
    rwa [List.take_take, Nat.min_eq_left ha] at this
  obtain ⟨x', buf', e, hF⟩ := FFeed2_eq 200000000 (s.take a) ((s.take to).drop a) c x buf h (by simp; omega) (by decide)
  have hl : (s.take a).length + ((s.take to).drop a).length = to := by
    rw [← List.length_append, e0, List.length_take, Nat.min_eq_left ht]
  rw [hl] at e hF
  rw [e0] at hF
  exact ⟨x', buf', e, hF⟩
theorem plainParts (b : List Int) (hb : (Ty.slice 5 (.int .u8)).ok b) (cuts : List ((.int .i64) : Ty).T) : pouncelaw15_FeedParts_ (Ev.upto 200000000) ((b, (cuts, ())), ()) = some ((true, ()), ()) := by
  obtain ⟨s, rfl⟩ := bytes_ok hb
  have guard : ∃ c, ((bif (decide (((ofBs s).length : Int) > (2000 : Int)) == false) then (some ((ofBs s, (cuts, (decide ((cuts.length : Int) > (50 : Int)), ()))), ())) else (some ((ofBs s, (cuts, (true, ()))), ()))) : Option ((List Int × List Int × Bool × Unit) × Unit)) = some ((ofBs s, (cuts, (c, ()))), ()) ∧ (c = false → s.length ≤ 2000 ∧ cuts.length ≤ 50) := by
    rw [ofBs_length]
    by_cases h1 : ((s.length : Int) > 2000)
    · rw [decide_eq_true h1]; exact ⟨true, rfl, fun h => by cases h⟩
    · rw [decide_eq_false h1]
      exact ⟨_, rfl, fun h => by have := of_decide_eq_false h; omega⟩
  obtain ⟨c, e, hc⟩ := guard
  apply wp_eq
  unfold pouncelaw15_FeedParts_
  simp -implicitDefEqProofs only [e, Option.bind_some]
  cases c with
  | true => exact ⟨_, rfl, rfl⟩
  | false =>
    obtain ⟨hs, hcl⟩ := hc rfl
    have nw := FNew_eq (Ev.upto 200000000)
    have qW := rWhole_eq s hs
    have h6 := U_len s.length s (Nat.le_refl _)
    obtain ⟨b1, b2, b3⟩ := runT_b3 (U s) (by omega)
    have q4 := Same2_eq 200000000 (runT (U s)).2.1 (by omega) (by omega) b2 (by decide)
    have q5 := Fails2_eq 200000000 (runT (U s)).2.2 (by omega) (by omega)
    simp -implicitDefEqProofs only [cond_false, nw, Option.bind_some, toBs_ofBs, qW]
    refine wp_seq (fun z => z = Sum.inl ((), ())) ?_ ?_
    · refine wp_for (σ := Rd) (fun i q => ((ofBs s, (cuts, ((0 : Int), ((i : Int), ())))), (((0 : Int), ()), ((runT (U s)).2.1, ((runT (U s)).2.2, ((q, ()), ([], ()))))))) (fun i q => RD q []) 2 _ rfl RD_new (by decide) ?_
      rintro turn x0 htn hR0
      by_cases ht2 : turn < 2
      · have c0 : decide ((turn : Int) < 2) = true := decide_eq_true (by omega)
        simp -implicitDefEqProofs only [c0, cond_true]
        refine wp_seq (fun z => ∃ (x : Rd) (buf : List Int), z = Sum.inl ((ofBs s, (cuts, ((0 : Int), ((turn : Int), ())))), (((s.length : Int), ()), ((runT (U s)).2.1, ((runT (U s)).2.2, ((x, ()), (buf, ())))))) ∧ FD s (s.length : Int) x buf) ?_ ?_
        · refine wp_for (σ := Nat × Rd × List Int) (fun i q => ((ofBs s, (cuts, ((0 : Int), ((turn : Int), ((q.1 : Int), ((i : Int), ())))))), (((q.1 : Int), ()), ((runT (U s)).2.1, ((runT (U s)).2.2, ((q.2.1, ()), (q.2.2, ()))))))) (fun i q => q.1 ≤ s.length ∧ FD (s.take q.1) (q.1 : Int) q.2.1 q.2.2 ∧ (i = cuts.length + 1 → q.1 = s.length)) (cuts.length + 1) (0, x0, []) rfl ⟨Nat.zero_le _, FD_new hR0, fun h => by omega⟩ (by omega) ?_
          rintro i ⟨a, x, buf⟩ hi ⟨ha, hF, hlast⟩
          simp only at ha hF hlast
          dsimp only
          by_cases hi' : i ≤ cuts.length
          · have c1 : decide ((i : Int) ≤ (cuts.length : Int)) = true := decide_eq_true (by omega)
            -- where the part ends
            have hto : ∃ to : Int, ((bif decide ((i : Int) < (cuts.length : Int)) then ((idx cuts (i : Int)).bind fun v6 => (some ((ofBs s, (cuts, ((0 : Int), ((turn : Int), ((a : Int), ((i : Int), (v6, ()))))))), (((a : Int), ()), ((runT (U s)).2.1, ((runT (U s)).2.2, ((x, ()), (buf, ())))))))) else (some ((ofBs s, (cuts, ((0 : Int), ((turn : Int), ((a : Int), ((i : Int), ((s.length : Int), ()))))))), (((a : Int), ()), ((runT (U s)).2.1, ((runT (U s)).2.2, ((x, ()), (buf, ())))))))) : Option ((List Int × List Int × Int × Int × Int × Int × Int × Unit) × ((Int × Unit) × PM × PG × (Rd × Unit) × List Int × Unit))) = some ((ofBs s, (cuts, ((0 : Int), ((turn : Int), ((a : Int), ((i : Int), (to, ()))))))), (((a : Int), ()), ((runT (U s)).2.1, ((runT (U s)).2.2, ((x, ()), (buf, ())))))) ∧ (i = cuts.length → to = (s.length : Int)) := by
              by_cases h : i < cuts.length
              · rw [show decide ((i : Int) < (cuts.length : Int)) = true from decide_eq_true (by omega), cond_true, idx_nat h, Option.bind_some]
                exact ⟨_, rfl, fun h2 => by omega⟩
              · rw [show decide ((i : Int) < (cuts.length : Int)) = false from decide_eq_false (by omega), cond_false]
                exact ⟨_, rfl, fun _ => rfl⟩
            obtain ⟨to, eto, hto⟩ := hto
            have w1 : IntKind.wrap .i64 ((i : Int) + 1) = ((i + 1 : Nat) : Int) := by rw [wrap64 (by omega) (by omega)]; omega
            have ff : (false == false) = true := rfl
            have tf : (true == false) = false := rfl
            simp -implicitDefEqProofs only [c1, cond_true, eto, Option.bind_some, ofBs_length]
            by_cases h1 : to < (a : Int)
            · have d1 : decide (to < (a : Int)) = true := decide_eq_true h1
              simp -implicitDefEqProofs only [d1, tf, cond_false, cond_true, Option.bind_some, w1]
              refine ⟨_, rfl, by omega, (a, x, buf), rfl, ha, hF, fun h => ?_⟩
              have := hto (by omega)
              show a = s.length
              omega
            · have d1 : decide (to < (a : Int)) = false := decide_eq_false h1
              by_cases h2 : to > (s.length : Int)
              · have d2 : decide (to > (s.length : Int)) = true := decide_eq_true h2
                simp -implicitDefEqProofs only [d1, d2, ff, cond_true, Option.bind_some, w1]
                refine ⟨_, rfl, by omega, (a, x, buf), rfl, ha, hF, fun h => ?_⟩
                have := hto (by omega)
                show a = s.length
                omega
              · have d2 : decide (to > (s.length : Int)) = false := decide_eq_false h2
                obtain ⟨t, rfl⟩ := Int.eq_ofNat_of_zero_le (show 0 ≤ to by omega)
                have hsl : sl (ofBs s) (a : Int) (t : Int) = some (ofBs ((s.take t).drop a)) := by
                  rw [sl_nat (by omega) (by rw [ofBs_length]; omega), ofBs_take, ofBs_drop]
                have hpl : ((s.take t).drop a).length ≤ 2000 := by simp; omega
                have hft : fits ((s.take t).drop a).length 1 = true := fits_of (by omega)
                obtain ⟨x', buf', ef, hF'⟩ := feedTo s a t _ x buf hs (by omega) (by omega) hF
                have cnt : feed_Feeder_Count_515 (Ev.upto 200000000) ((), (((t : Int), ()), ((x', ()), (buf', ())))) = some (((t : Int), ()), (((t : Int), ()), ((x', ()), (buf', ())))) := rfl
                simp -implicitDefEqProofs only [d1, d2, ff, cond_true, cond_false, Option.bind_some, hsl, ofBs_length, hft, ef, bne_self_eq_false, cnt]
                refine wp_seq (fun z => z = Sum.inl ((ofBs s, (cuts, ((0 : Int), ((turn : Int), ((t : Int), ((i : Int), ())))))), (((t : Int), ()), ((runT (U s)).2.1, ((runT (U s)).2.2, ((x', ()), (buf', ()))))))) ?_ ?_
                · refine wp_seq (fun z => z = ((ofBs s, (cuts, ((0 : Int), ((turn : Int), ((i : Int), ((t : Int), ())))))), (((t : Int), ()), ((runT (U s)).2.1, ((runT (U s)).2.2, ((x', ()), (buf', ()))))))) ?_ ?_
                  · refine wp_for (σ := List Int) (fun k q => ((ofBs s, (cuts, ((0 : Int), ((turn : Int), ((i : Int), ((t : Int), ((k : Int), ()))))))), (((t : Int), ()), ((runT (U s)).2.1, ((runT (U s)).2.2, (q, ((x', ()), (buf', ())))))))) (fun k q => q.length = ((s.take t).drop a).length) ((s.take t).drop a).length (ofBs ((s.take t).drop a)) rfl (ofBs_length _) (by omega) ?_
                    rintro k q hk hq
                    by_cases hk' : k < q.length
                    · have e1 : decide ((k : Int) < (q.length : Int)) = true := decide_eq_true (by omega)
                      have e2 : (decide (0 ≤ (k : Int)) && decide ((k : Int) < (q.length : Int))) = true := by rw [e1, decide_eq_true (show (0 : Int) ≤ (k : Int) by omega)]; rfl
                      have e3 : q[((k : Int)).toNat]? = some q[k] := by rw [Int.toNat_natCast, List.getElem?_eq_getElem hk']
                      have w2 : IntKind.wrap .i64 ((k : Int) + 1) = ((k + 1 : Nat) : Int) := by rw [wrap64 (by omega) (by omega)]; omega
                      have e0 : decide (0 ≤ (k : Int)) = true := decide_eq_true (by omega)
                      simp -implicitDefEqProofs only [e0, e1, Bool.and_self, cond_true, e3, Option.bind_some, w2]
                      exact ⟨_, rfl, by omega, q.set (Int.toNat (k : Int)) 60, rfl, by rw [List.length_set]; exact hq⟩
                    · have e1 : decide ((k : Int) < (q.length : Int)) = false := decide_eq_false (by omega)
                      simp -implicitDefEqProofs only [e1, cond_false]
                      exact ⟨_, rfl, rfl⟩
                  · rintro _ rfl
                    exact ⟨_, rfl, rfl⟩
                · rintro _ rfl
                  simp -implicitDefEqProofs only [w1]
                  exact ⟨_, rfl, by omega, (t, x', buf'), rfl, by show t ≤ s.length; omega, hF', fun h => by have := hto (by omega); show t = s.length; omega⟩
          · obtain rfl : i = cuts.length + 1 := by omega
            have c1 : decide (((cuts.length + 1 : Nat) : Int) ≤ (cuts.length : Int)) = false := decide_eq_false (by omega)
            obtain rfl := hlast rfl
            rw [List.take_length] at hF
            simp -implicitDefEqProofs only [c1, cond_false]
            exact ⟨_, rfl, x, buf, rfl, hF⟩
        · rintro _ ⟨x, buf, rfl, hF⟩
          obtain ⟨x2, e2, hR⟩ := FEnd_eq 200000000 s _ x buf hF (by omega) (by decide)
          have cnt : feed_Feeder_Count_515 (Ev.upto 200000000) ((), (((0 : Int), ()), ((x2, ()), (([] : List ((.int .u8) : Ty).T), ())))) = some (((0 : Int), ()), (((0 : Int), ()), ((x2, ()), (([] : List ((.int .u8) : Ty).T), ())))) := rfl
          have ff : (false == false) = true := rfl
          have nt : (!true) = false := rfl
          have w1 : IntKind.wrap .i64 ((turn : Int) + 1) = ((turn + 1 : Nat) : Int) := by rw [wrap64 (by omega) (by omega)]; omega
          simp -implicitDefEqProofs only [e2, Option.bind_some, bne_self_eq_false, ff, cond_true, q4, nt, q5, cnt, cond_false, w1]
          exact ⟨_, rfl, ht2, x2, rfl, hR⟩
      · have c0 : decide ((turn : Int) < 2) = false := decide_eq_false (by omega)
        simp -implicitDefEqProofs only [c0, cond_false]
        exact ⟨_, rfl, rfl⟩
    · rintro _ rfl
      dsimp only
      rw [exH]
      exact ⟨_, rfl, rfl⟩
end Go.En.Pl
