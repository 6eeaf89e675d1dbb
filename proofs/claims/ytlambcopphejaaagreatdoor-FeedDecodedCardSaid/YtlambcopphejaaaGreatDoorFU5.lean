/- Text FU5 of this seat: written by a program of ours, or by hand; checked by Lean. -/
import Derived.Test.YtlambcopphejaaaGreatDoorFU4
import Derived.Test.YtlambcopphejaaaGreatDoorFC
set_option linter.unusedSimpArgs false
set_option linter.unusedVariables false
namespace Go.En.Pl
theorem exF : pouncelaw15_feeds_ (Ev.upto 200000000) ((), ()) = some ((true, ()), ()) := by kernel_rfl
theorem plainNil (b : List Int) (hb : (Ty.slice 5 (.int .u8)).ok b) : pouncelaw15_FeedNil_ (Ev.upto 200000000) ((b, ()), ()) = some ((true, ()), ()) := by
  unfold pouncelaw15_FeedNil_
  cases decide (((b.length : Nat) : Int) > 2000) with
  | true => rfl
  | false =>
    simp -implicitDefEqProofs only [cond_false]
    rw [exF]
    rfl
theorem zeros_eq (n : Nat) : List.replicate n ((0 : Int) : Ty.T (.int .u8)) = ofBs (List.replicate n 0) := by
  simp [ofBs]
theorem plainLimits (a b : Int) : pouncelaw15_FeedLimits_ (Ev.upto 200000000) ((a, (b, ())), ()) = some ((true, ()), ()) := by
  have guard : ∃ c, ((bif (decide (a < (0 : Int)) == false) then (bif (decide (a > (30000 : Int)) == false) then (bif (decide (b < (0 : Int)) == false) then (some ((a, (b, (decide (b > (30000 : Int)), ()))), ())) else (some ((a, (b, (true, ()))), ()))) else (some ((a, (b, (true, ()))), ()))) else (some ((a, (b, (true, ()))), ()))) : Option ((Int × Int × Bool × Unit) × Unit)) = some ((a, (b, (c, ()))), ()) ∧ (c = false → 0 ≤ a ∧ a ≤ 30000 ∧ 0 ≤ b ∧ b ≤ 30000) := by
    by_cases h1 : a < 0
    · rw [decide_eq_true h1]; exact ⟨true, rfl, fun h => by cases h⟩
    by_cases h2 : a > 30000
    · rw [decide_eq_false h1, decide_eq_true h2]; exact ⟨true, rfl, fun h => by cases h⟩
    by_cases h3 : b < 0
    · rw [decide_eq_false h1, decide_eq_false h2, decide_eq_true h3]; exact ⟨true, rfl, fun h => by cases h⟩
    · rw [decide_eq_false h1, decide_eq_false h2, decide_eq_false h3]
      exact ⟨_, rfl, fun h => by have := of_decide_eq_false h; omega⟩
  obtain ⟨c, e, hc⟩ := guard
  unfold pouncelaw15_FeedLimits_
  simp -implicitDefEqProofs only [e, Option.bind_some]
  cases c with
  | true => rfl
  | false =>
    obtain ⟨h1, h2, h3, h4⟩ := hc rfl
    obtain ⟨n, rfl⟩ := Int.eq_ofNat_of_zero_le h1
    obtain ⟨m, rfl⟩ := Int.eq_ofNat_of_zero_le h3
    have hn : n ≤ 30000 := by omega
    have hm : m ≤ 30000 := by omega
    have g1 : (decide ((0 : Int) ≤ (n : Int))) = true := decide_eq_true (by omega)
    have g2 : (decide ((0 : Int) ≤ (m : Int))) = true := decide_eq_true (by omega)
    have g3 : fits (Int.toNat (n : Int)) 1 = true := fits_of (by rw [Int.toNat_natCast]; omega)
    have g4 : fits (Int.toNat (m : Int)) 1 = true := fits_of (by rw [Int.toNat_natCast]; omega)
    have nw := FNew_eq (Ev.upto 200000000)
    have z1 : List.replicate (Int.toNat (n : Int)) ((0 : Int) : Ty.T (.int .u8)) = ofBs (List.replicate n 0) := by rw [Int.toNat_natCast, zeros_eq]
    have z2 : List.replicate (Int.toNat (m : Int)) ((0 : Int) : Ty.T (.int .u8)) = ofBs (List.replicate m 0) := by rw [Int.toNat_natCast, zeros_eq]
    have first : ∃ (F : Bs) (e1 : Int) (x : Rd) (buf : List Int), feed_Feeder_Feed_518 (Ev.upto 200000000) ((ofBs (List.replicate n 0), ()), (((0 : Int), ()), ((((((0 : Int), ((0 : Int), ((0 : Int), (0 : Int)))), (0 : Int)) : Rd), ()), ([], ())))) = some ((e1, ()), (((F.length : Int), ()), ((x, ()), (buf, ())))) ∧ FD F (F.length : Int) x buf ∧ ((n ≤ 20000 ∧ e1 = 0 ∧ F.length = n) ∨ (20000 < n ∧ e1 = 2 ∧ F.length = 0)) := by
      by_cases hl : n ≤ 20000
      · obtain ⟨x1, buf1, e1, h⟩ := FFeed1_eq 200000000 [] (List.replicate n 0) 0 _ [] (FD_new RD_new) (by simp; omega) (by decide)
        have hlen : (([] : Bs).length + (List.replicate n (0 : UInt8)).length : Nat) = ([] ++ List.replicate n (0 : UInt8) : Bs).length := by simp
        rw [hlen] at e1 h
        exact ⟨_, 0, x1, buf1, e1, h, .inl ⟨hl, rfl, by simp⟩⟩
      · have e1 := FFeed1_big (Ev.upto 200000000) [] (ofBs (List.replicate n 0)) 0 _ [] (FD_new RD_new) (by simp [ofBs_length]; omega)
        exact ⟨[], 2, _, _, e1, FD_new RD_new, .inr ⟨by omega, rfl, rfl⟩⟩
    obtain ⟨F, e1, x1, buf1, q1, hF, hcase⟩ := first
    have hF1 : F.length ≤ 20000 := hF.2.1
    have second : ∃ (F2 : Bs) (e2 : Int) (x : Rd) (buf : List Int), feed_Feeder_Feed_9d4 (Ev.upto 200000000) ((ofBs (List.replicate m 0), ()), (((F.length : Int), ()), ((x1, ()), (buf1, ())))) = some ((e2, ()), (((F2.length : Int), ()), ((x, ()), (buf, ())))) ∧ ((F.length + m ≤ 20000 ∧ e2 = 0 ∧ F2.length = F.length + m) ∨ (20000 < F.length + m ∧ e2 = 2 ∧ F2.length = F.length)) := by
      by_cases hl : F.length + m ≤ 20000
      · obtain ⟨x2, buf2, e2, h⟩ := FFeed2_eq 200000000 F (List.replicate m 0) _ _ _ hF (by simp; omega) (by decide)
        have hlen : (F.length + (List.replicate m (0 : UInt8)).length : Nat) = (F ++ List.replicate m (0 : UInt8) : Bs).length := by simp
        rw [hlen] at e2
        exact ⟨_, 0, x2, buf2, e2, .inl ⟨hl, rfl, by simp⟩⟩
      · have e2 := FFeed2_big (Ev.upto 200000000) F (ofBs (List.replicate m 0)) _ _ _ hF (by simp [ofBs_length]; omega)
        exact ⟨F, 2, _, _, e2, .inr ⟨by omega, rfl, rfl⟩⟩
    obtain ⟨F2, e2, x2, buf2, q2, hcase2⟩ := second
    have w : IntKind.wrap .i64 ((F.length : Int) + (m : Int)) = (F.length : Int) + (m : Int) := wrap64 (by omega) (by omega)
    have ct1 : ∀ (c : Int) (x : Rd) (buf : List Int), feed_Feeder_Count_515 (Ev.upto 200000000) ((), ((c, ()), ((x, ()), (buf, ())))) = some ((c, ()), ((c, ()), ((x, ()), (buf, ())))) := fun _ _ _ => rfl
    have c1 := ct1 (F.length : Int) x1 buf1
    have c2 := ct1 (F2.length : Int) x2 buf2
    have ff : (false == false) = true := rfl
    have tt : (true == true) = true := rfl
    have tf : (true == false) = false := rfl
    have i00 : ((0 : Int) == 0) = true := rfl
    have i20 : ((2 : Int) == 0) = false := rfl
    have i22 : ((2 : Int) == 2) = true := rfl
    rcases hcase with ⟨a1, rfl, a3⟩ | ⟨a1, rfl, a3⟩
    · have d1 : decide ((n : Int) ≤ 20000) = true := decide_eq_true (by omega)
      rw [← a3] at d1 g1 g3 z1 q1
      rw [← a3]
      rcases hcase2 with ⟨b1, rfl, b3⟩ | ⟨b1, rfl, b3⟩
      · have b3' : (F.length : Int) + (m : Int) = (F2.length : Int) := by omega
        replace w : IntKind.wrap .i64 ((F.length : Int) + (m : Int)) = (F2.length : Int) := by rw [w, b3']
        have d2 : decide ((F2.length : Int) ≤ 20000) = true := decide_eq_true (by omega)
        simp -implicitDefEqProofs only [cond_false, nw, Option.bind_some, g1, g2, g3, g4, Bool.and_self, beq_self_eq_true, cond_true, z1, q1, d1, Bool.not_true, ff, c1, bne_self_eq_false, z2, q2, w, d2, c2]
        rw [exF]
        simp -implicitDefEqProofs only [Option.bind_some, beq_self_eq_true, cond_true, tf, cond_false]
      · have d2 : decide ((F.length : Int) + (m : Int) ≤ 20000) = false := decide_eq_false (by omega)
        rw [b3] at q2 c2
        simp -implicitDefEqProofs only [cond_false, nw, Option.bind_some, g1, g2, g3, g4, Bool.and_self, beq_self_eq_true, cond_true, z1, q1, d1, Bool.not_true, ff, c1, bne_self_eq_false, z2, q2, w, d2, c2, i20]
        rw [exF]
        simp -implicitDefEqProofs only [Option.bind_some, beq_self_eq_true, cond_true, tf, ff, cond_false, i20, i22]
    · have d1 : decide ((n : Int) ≤ 20000) = false := decide_eq_false (by omega)
      have a4 : (F.length : Int) = 0 := by omega
      rw [a4] at q1 c1 q2 w
      rcases hcase2 with ⟨b1, rfl, b3⟩ | ⟨b1, rfl, b3⟩
      · have b3' : (0 : Int) + (m : Int) = (F2.length : Int) := by omega
        replace w : IntKind.wrap .i64 ((0 : Int) + (m : Int)) = (F2.length : Int) := by rw [w, b3']
        have d2 : decide ((F2.length : Int) ≤ 20000) = true := decide_eq_true (by omega)
        simp -implicitDefEqProofs only [cond_false, nw, Option.bind_some, g1, g2, g3, g4, Bool.and_self, beq_self_eq_true, cond_true, z1, q1, d1, Bool.not_true, ff, c1, bne_self_eq_false, z2, q2, w, d2, c2, i20, i22]
        rw [exF]
        simp -implicitDefEqProofs only [Option.bind_some, beq_self_eq_true, cond_true, tf, ff, cond_false, i20, i22]
      · have d2 : decide ((0 : Int) + (m : Int) ≤ 20000) = false := decide_eq_false (by omega)
        rw [b3, a3] at q2 c2
        simp -implicitDefEqProofs only [cond_false, nw, Option.bind_some, g1, g2, g3, g4, Bool.and_self, beq_self_eq_true, cond_true, z1, q1, d1, Bool.not_true, ff, c1, bne_self_eq_false, z2, q2, w, d2, c2, i20]
        rw [exF]
        rfl
theorem runT_bounds (s : Bs) (hs : s.length ≤ 6000) : (runT s).2.1.length ≤ 100000000 ∧ (∀ t ∈ (runT s).2.1, t.2.2.2.1.length ≤ 4000) ∧ (runT s).2.2.length ≤ 192000000 := by
  have hI := run_inv (by omega) s.length _ (inv0 s)
  have hA := run_al s s.length (0, [], []) (fun u hu => by cases hu)
  have h1 := hI.len
  have h2 := hI.fl
  have h3 := hI.le
  exact ⟨by show (runS s s.length (0, [], [])).2.1.length ≤ _; omega, fun t ht => by have := hA t ht; omega, by show (runS s s.length (0, [], [])).2.2.length ≤ _; omega⟩
theorem plainDecoded (b : List Int) (hb : (Ty.slice 5 (.int .u8)).ok b) : pouncelaw15_FeedDecoded_ (Ev.upto 200000000) ((b, ()), ()) = some ((true, ()), ()) := by
  obtain ⟨s, rfl⟩ := bytes_ok hb
  unfold pouncelaw15_FeedDecoded_
  simp -implicitDefEqProofs only [ofBs_length]
  by_cases hs : s.length ≤ 2000
  · rw [show decide ((s.length : Int) > 2000) = false from decide_eq_false (by omega), cond_false]
    have h6 := U_len s.length s (Nat.le_refl _)
    obtain ⟨b1, b2, b3⟩ := runT_bounds (U s) (by omega)
    have q1 := Whole_eq 200000000 s (by omega) (by decide)
    have q2 := uDecode_eq 200000000 s (by omega) (by omega)
    have q3 := Tokens_eq 200000000 (U s) (by omega) (by decide)
    have q4 := Same2_eq 200000000 (runT (U s)).2.1 (by omega) (by omega) b2 (by decide)
    have q5 := Fails2_eq 200000000 (runT (U s)).2.2 (by omega) (by omega)
    simp -implicitDefEqProofs only [q1, q2, q3, Option.bind_some]
    rw [exF]
    simp -implicitDefEqProofs only [Option.bind_some, beq_self_eq_true, cond_true, q4, q5]
  · rw [show decide ((s.length : Int) > 2000) = true from decide_eq_true (by omega)]
    rfl
end Go.En.Pl
