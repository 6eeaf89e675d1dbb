/- Text FU6 of this seat: written by a program of ours, or by hand; checked by Lean. -/
import Derived.Test.YtlambcopphejaaaGreatDoorFU4
import Derived.Test.YtlambcopphejaaaGreatDoorFC
set_option linter.unusedSimpArgs false
set_option linter.unusedVariables false
namespace Go.En.Pl
theorem exG : pouncelaw15_feeds_ (Ev.upto 500000000) ((), ()) = some ((true, ()), ()) := by kernel_rfl
theorem runT_b2 (s : Bs) (hs : s.length ≤ 12500) : (runT s).2.1.length ≤ 25000 ∧ (∀ t ∈ (runT s).2.1, t.2.2.2.1.length ≤ 4000) ∧ (runT s).2.2.length ≤ 400000000 := by
  have hI := run_inv (by omega) s.length _ (inv0 s)
  have hA := run_al s s.length (0, [], []) (fun u hu => by cases hu)
  have h1 := hI.len
  have h2 := hI.fl
  have h3 := hI.le
  exact ⟨by show (runS s s.length (0, [], [])).2.1.length ≤ _; omega, fun t ht => by have := hA t ht; omega, by show (runS s s.length (0, [], [])).2.2.length ≤ _; omega⟩
theorem plainNothing (a : List Int) (ha : (Ty.slice 5 (.int .u8)).ok a) (b : List Int) (hb : (Ty.slice 5 (.int .u8)).ok b) (m : Int) : pouncelaw15_FeedNothing_ (Ev.upto 500000000) ((a, (b, (m, ()))), ()) = some ((true, ()), ()) := by
  obtain ⟨s, rfl⟩ := bytes_ok ha
  obtain ⟨r, rfl⟩ := bytes_ok hb
  have guard : ∃ c, ((bif (decide (((ofBs s).length : Int) > (2000 : Int)) == false) then (bif (decide (((ofBs r).length : Int) > (2000 : Int)) == false) then (bif (decide (m < (0 : Int)) == false) then (some ((ofBs s, (ofBs r, (m, (decide (m > (20 : Int)), ())))), ())) else (some ((ofBs s, (ofBs r, (m, (true, ())))), ()))) else (some ((ofBs s, (ofBs r, (m, (true, ())))), ()))) else (some ((ofBs s, (ofBs r, (m, (true, ())))), ()))) : Option ((List Int × List Int × Int × Bool × Unit) × Unit)) = some ((ofBs s, (ofBs r, (m, (c, ())))), ()) ∧ (c = false → s.length ≤ 2000 ∧ r.length ≤ 2000 ∧ 0 ≤ m ∧ m ≤ 20) := by
    rw [ofBs_length, ofBs_length]
    by_cases h1 : ((s.length : Int) > 2000)
    · rw [decide_eq_true h1]; exact ⟨true, rfl, fun h => by cases h⟩
    by_cases h2 : ((r.length : Int) > 2000)
    · rw [decide_eq_false h1, decide_eq_true h2]; exact ⟨true, rfl, fun h => by cases h⟩
    by_cases h3 : m < 0
    · rw [decide_eq_false h1, decide_eq_false h2, decide_eq_true h3]; exact ⟨true, rfl, fun h => by cases h⟩
    · rw [decide_eq_false h1, decide_eq_false h2, decide_eq_false h3]
      exact ⟨_, rfl, fun h => by have := of_decide_eq_false h; omega⟩
  obtain ⟨c, e, hc⟩ := guard
  apply wp_eq
  unfold pouncelaw15_FeedNothing_
  simp -implicitDefEqProofs only [e, Option.bind_some]
  cases c with
  | true => exact ⟨_, rfl, rfl⟩
  | false =>
    obtain ⟨h1, h2, h3, h4⟩ := hc rfl
    obtain ⟨n, rfl⟩ := Int.eq_ofNat_of_zero_le h3
    have hn : n ≤ 20 := by omega
    have nw := FNew_eq (Ev.upto 500000000)
    obtain ⟨x1, buf1, e1, hF1⟩ := FFeed1_eq 500000000 [] s 0 _ [] (FD_new RD_new) (by simp; omega) (by decide)
    rw [List.nil_append] at hF1
    simp -implicitDefEqProofs only [cond_false, nw, Option.bind_some, e1]
    have z0 : (([] : Bs).length + s.length : Nat) = s.length := by simp
    rw [z0] at hF1 ⊢
    refine wp_seq (fun z => ∃ (x : Rd) (buf : List Int), z = Sum.inl ((ofBs s, (ofBs r, ((0 : Int), ()))), (((s.length : Int), ()), ((x, ()), (buf, ())))) ∧ FD s (s.length : Int) x buf) ?_ ?_
    · refine wp_for (σ := Rd × List Int) (fun i q => ((ofBs s, (ofBs r, ((n : Int), ((0 : Int), ((i : Int), ()))))), (((s.length : Int), ()), ((q.1, ()), (q.2, ()))))) (fun i q => FD s (s.length : Int) q.1 q.2) n (x1, buf1) rfl hF1 (by omega) ?_
      rintro i ⟨x, buf⟩ hi hF
      by_cases hi' : i < n
      · have c0 : decide ((i : Int) < (n : Int)) = true := decide_eq_true (by omega)
        have w : IntKind.wrap .i64 ((i : Int) + 1) = ((i + 1 : Nat) : Int) := by rw [wrap64 (by omega) (by omega)]; omega
        obtain ⟨x2, buf2, e2, hF2⟩ := FFeed2_eq 500000000 s [] _ _ _ hF (by simp; omega) (by decide)
        rw [List.append_nil, List.length_nil, Nat.add_zero] at hF2
        rw [List.length_nil, Nat.add_zero] at e2
        have e2' : feed_Feeder_Feed_9d4 (Ev.upto 500000000) ((([] : List ((.int .u8) : Ty).T), ()), (((s.length : Int), ()), ((x, ()), (buf, ())))) = some (((0 : Int), ()), (((s.length : Int), ()), ((x2, ()), (buf2, ())))) := e2
        have ct1 : feed_Feeder_Count_515 (Ev.upto 500000000) ((), (((s.length : Int), ()), ((x2, ()), (buf2, ())))) = some (((s.length : Int), ()), (((s.length : Int), ()), ((x2, ()), (buf2, ())))) := rfl
        have ff : (false == false) = true := rfl
        simp -implicitDefEqProofs only [c0, cond_true, e2', Option.bind_some, bne_self_eq_false, ff, ct1, ofBs_length, cond_false, w]
        exact ⟨_, rfl, hi', (x2, buf2), rfl, hF2⟩
      · have c0 : decide ((i : Int) < (n : Int)) = false := decide_eq_false (by omega)
        simp -implicitDefEqProofs only [c0, cond_false]
        exact ⟨_, rfl, x, buf, rfl, hF⟩
    · rintro _ ⟨x, buf, rfl, hF⟩
      obtain ⟨x3, buf3, e3, hF3⟩ := FFeed2_eq 500000000 s r _ _ _ hF (by omega) (by decide)
      obtain ⟨x4, e4, hR4⟩ := FEnd_eq 500000000 (s ++ r) _ _ _ hF3 (by simp; omega) (by decide)
      obtain ⟨x5, e5, hR5⟩ := FEnd_eq 500000000 [] 0 x4 [] (FD_new hR4) (by simp) (by decide)
      have q1 := Whole_eq 500000000 (s ++ r) (by simp; omega) (by decide)
      have h6 := U_len (s ++ r).length (s ++ r) (Nat.le_refl _)
      rw [List.length_append] at h6
      obtain ⟨b1, b2, b3⟩ := runT_b2 (U (s ++ r)) (by omega)
      have q4 := Same2_eq 500000000 (runT (U (s ++ r))).2.1 (by omega) (by omega) b2 (by decide)
      have q5 := Fails2_eq 500000000 (runT (U (s ++ r))).2.2 (by omega) (by omega)
      have e5' : feed_Feeder_End_515 (Ev.upto 500000000) ((), (((0 : Int), ()), ((x4, ()), (([] : List ((.int .u8) : Ty).T), ())))) = some (((0 : Int), ()), (((0 : Int), ()), ((x5, ()), ([], ([], ()))))) := e5
      generalize runT (U (s ++ r)) = R at *
      have f1 : fits s.length 1 = true := fits_of (by omega)
      have f2 : fits (s.length + r.length) 1 = true := fits_of (by omega)
      simp -implicitDefEqProofs only [e3, e4, Option.bind_some, ofBs_length, f1, f2, cond_true, ofBs_append, q1, e5']
      rw [exG]
      simp -implicitDefEqProofs only [Option.bind_some, beq_self_eq_true, cond_true, q4, q5, List.length_nil]
      exact ⟨_, rfl, rfl⟩
end Go.En.Pl
