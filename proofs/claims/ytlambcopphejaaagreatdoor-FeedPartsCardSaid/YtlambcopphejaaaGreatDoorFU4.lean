/- Text FU4 of this seat: written by a program of ours, or by hand; checked by Lean. -/
import Derived.Test.YtlambcopphejaaaGreatDoorFU3
import Derived.Test.YtlambcopphejaaaGreatDoorFA
import Derived.Test.YtlambcopphejaaaGreatDoorE13
set_option linter.unusedSimpArgs false
set_option linter.unusedVariables false
namespace Go.En.Pl
theorem rng_u8 {n : Int} (h : Rng .u8 n) : 0 ≤ n ∧ n ≤ 255 := by
  have h' : (Lit.int .u8 n).wf = true := h
  simp [Lit.wf, IntKind.min, IntKind.max, IntKind.signed, IntKind.bits] at h'
  omega
theorem bytes_ok {e : Nat} {l : List Int} (h : (Ty.slice e (.int .u8)).ok l) : ∃ s : Bs, l = ofBs s := by
  have h2 : ∀ x ∈ l, Rng .u8 x := h.2
  clear h
  induction l with
  | nil => exact ⟨[], rfl⟩
  | cons a l ih =>
    obtain ⟨s, hs⟩ := ih fun x hx => h2 x (List.mem_cons_of_mem _ hx)
    obtain ⟨h3, h4⟩ := rng_u8 (h2 a (List.mem_cons_self ..))
    refine ⟨UInt8.ofNat a.toNat :: s, ?_⟩
    rw [ofBs_cons, ← hs, UInt8.toNat_ofNat']
    congr 1
    omega
/-- What a feeder holds: F was fed. -/
def FD (F : Bs) (c : Int) (x : Rd) (buf : List Int) : Prop := c = (F.length : Int) ∧ F.length ≤ 20000 ∧ ∃ K T : Bs, RD x K ∧ buf = ofBs T ∧ T.length ≤ 100000 ∧ ∀ y, U (F ++ y) = T ++ U (K ++ y)
theorem FD_new {x : Rd} (h : RD x []) : FD [] 0 x [] := ⟨rfl, by simp, [], [], h, rfl, by simp, fun y => rfl⟩
theorem fd_step {F : Bs} {c : Int} {x : Rd} {buf : List Int} (N : Nat) (h : FD F c x buf) (b : Bs) (hb : F.length + b.length ≤ 20000) (hN : 200000 < N) : ∃ (s : Bs) (x' : Rd) (T : Bs), buf = ofBs T ∧ T.length + s.length ≤ 100000 ∧
    utf_Reader_Feed_155 (Ev.upto N) ((ofBs b, ()), ((x, ()), ())) = some ((s, ((0 : Int), ())), ((x', ()), ())) ∧ FD (F ++ b) ((F.length + b.length : Nat) : Int) x' (ofBs (T ++ s)) := by
  obtain ⟨rfl, h1, K, T, h2, rfl, h3, h4⟩ := h
  obtain ⟨x', e, hx'⟩ := RFeed_eq N x K b h2 (by omega) hN
  have hu : ∀ y, U (F ++ b ++ y) = T ++ U ((K ++ b).take ((K ++ b).length - keep (K ++ b))) ++ U ((K ++ b).drop ((K ++ b).length - keep (K ++ b)) ++ y) := fun y => by
    rw [List.append_assoc, h4, ← List.append_assoc, (keep_spec (K ++ b) y).2.2, List.append_assoc]
  have hl : (T ++ U ((K ++ b).take ((K ++ b).length - keep (K ++ b)))).length ≤ 100000 := by
    have h5 := U_len (F ++ b).length (F ++ b) (Nat.le_refl _)
    have h6 := hu []
    rw [List.append_nil] at h6
    rw [h6] at h5
    simp only [List.length_append] at h5 ⊢
    omega
  refine ⟨_, x', T, rfl, by simpa using hl, e, by simp, by simp; omega, _, _, hx', rfl, hl, hu⟩
theorem WF1_eq (V : Ev) (c : Int) (x : Rd) (s T : Bs) (h : T.length + s.length ≤ 100000000) : strings_Builder_WriteString_47e V ((s, ()), ((c, ()), ((x, ()), (ofBs T, ())))) = some (((s.length : Int), (false, ())), ((c, ()), ((x, ()), (ofBs (T ++ s), ())))) := by
  unfold strings_Builder_WriteString_47e strings_Builder_copyCheck_836
  simp -implicitDefEqProofs only [Option.bind_some, ofBs_length, fits_of (n := T.length + s.length) (k := 1) (by omega), cond_true, ofBs_append]
theorem WF2_eq (V : Ev) (c : Int) (x : Rd) (s T : Bs) (h : T.length + s.length ≤ 100000000) : strings_Builder_WriteString_7a2 V ((s, ()), ((c, ()), ((x, ()), (ofBs T, ())))) = some (((s.length : Int), (false, ())), ((c, ()), ((x, ()), (ofBs (T ++ s), ())))) := by
  unfold strings_Builder_WriteString_7a2 strings_Builder_copyCheck_199
  simp -implicitDefEqProofs only [Option.bind_some, ofBs_length, fits_of (n := T.length + s.length) (k := 1) (by omega), cond_true, ofBs_append]
theorem FFeed1_eq (N : Nat) (F b : Bs) (c : Int) (x : Rd) (buf : List Int) (h : FD F c x buf) (hb : F.length + b.length ≤ 20000) (hN : 200000 < N) : ∃ (x' : Rd) (buf' : List Int),
    feed_Feeder_Feed_518 (Ev.upto N) ((ofBs b, ()), ((c, ()), ((x, ()), (buf, ())))) = some (((0 : Int), ()), ((((F.length + b.length : Nat) : Int), ()), ((x', ()), (buf', ())))) ∧ FD (F ++ b) ((F.length + b.length : Nat) : Int) x' buf' := by
  obtain ⟨s, x', T, rfl, h1, e, h2⟩ := fd_step N h b hb hN
  obtain ⟨rfl, h3, _⟩ := h
  refine ⟨x', _, ?_, h2⟩
  have w1 : IntKind.wrap .i64 ((20000 : Int) - (F.length : Int)) = 20000 - (F.length : Int) := wrap64 (by omega) (by omega)
  have w2 : IntKind.wrap .i64 ((F.length : Int) + (b.length : Int)) = ((F.length + b.length : Nat) : Int) := by rw [wrap64 (by omega) (by omega)]; omega
  have d : decide ((b.length : Int) > 20000 - (F.length : Int)) = false := decide_eq_false (by omega)
  have q := WF1_eq (Ev.upto N) (F.length : Int) x' s T (by omega)
  unfold feed_Feeder_Feed_518
  simp -implicitDefEqProofs only [Option.bind_some, ofBs_length, w1, d, cond_false, e, q, w2]
theorem FFeed2_eq (N : Nat) (F b : Bs) (c : Int) (x : Rd) (buf : List Int) (h : FD F c x buf) (hb : F.length + b.length ≤ 20000) (hN : 200000 < N) : ∃ (x' : Rd) (buf' : List Int),
    feed_Feeder_Feed_9d4 (Ev.upto N) ((ofBs b, ()), ((c, ()), ((x, ()), (buf, ())))) = some (((0 : Int), ()), ((((F.length + b.length : Nat) : Int), ()), ((x', ()), (buf', ())))) ∧ FD (F ++ b) ((F.length + b.length : Nat) : Int) x' buf' := by
  obtain ⟨s, x', T, rfl, h1, e, h2⟩ := fd_step N h b hb hN
  obtain ⟨rfl, h3, _⟩ := h
  refine ⟨x', _, ?_, h2⟩
  have w1 : IntKind.wrap .i64 ((20000 : Int) - (F.length : Int)) = 20000 - (F.length : Int) := wrap64 (by omega) (by omega)
  have w2 : IntKind.wrap .i64 ((F.length : Int) + (b.length : Int)) = ((F.length + b.length : Nat) : Int) := by rw [wrap64 (by omega) (by omega)]; omega
  have d : decide ((b.length : Int) > 20000 - (F.length : Int)) = false := decide_eq_false (by omega)
  have q := WF2_eq (Ev.upto N) (F.length : Int) x' s T (by omega)
  unfold feed_Feeder_Feed_9d4
  simp -implicitDefEqProofs only [Option.bind_some, ofBs_length, w1, d, cond_false, e, q, w2]
theorem FFeed1_big (V : Ev) (F : Bs) (b : List Int) (c : Int) (x : Rd) (buf : List Int) (h : FD F c x buf) (hb : 20000 < F.length + b.length) :
    feed_Feeder_Feed_518 V ((b, ()), ((c, ()), ((x, ()), (buf, ())))) = some (((2 : Int), ()), ((c, ()), ((x, ()), (buf, ())))) := by
  obtain ⟨rfl, h3, _⟩ := h
  have w1 : IntKind.wrap .i64 ((20000 : Int) - (F.length : Int)) = 20000 - (F.length : Int) := wrap64 (by omega) (by omega)
  have d : decide ((b.length : Int) > 20000 - (F.length : Int)) = true := decide_eq_true (by omega)
  unfold feed_Feeder_Feed_518
  simp -implicitDefEqProofs only [Option.bind_some, w1, d, cond_true]
theorem FFeed2_big (V : Ev) (F : Bs) (b : List Int) (c : Int) (x : Rd) (buf : List Int) (h : FD F c x buf) (hb : 20000 < F.length + b.length) :
    feed_Feeder_Feed_9d4 V ((b, ()), ((c, ()), ((x, ()), (buf, ())))) = some (((2 : Int), ()), ((c, ()), ((x, ()), (buf, ())))) := by
  obtain ⟨rfl, h3, _⟩ := h
  have w1 : IntKind.wrap .i64 ((20000 : Int) - (F.length : Int)) = 20000 - (F.length : Int) := wrap64 (by omega) (by omega)
  have d : decide ((b.length : Int) > 20000 - (F.length : Int)) = true := decide_eq_true (by omega)
  unfold feed_Feeder_Feed_9d4
  simp -implicitDefEqProofs only [Option.bind_some, w1, d, cond_true]
theorem FEnd_eq (N : Nat) (F : Bs) (c : Int) (x : Rd) (buf : List Int) (h : FD F c x buf) (hF : F.length ≤ 5000) (hN : 200000 < N) : ∃ x' : Rd,
    feed_Feeder_End_515 (Ev.upto N) ((), ((c, ()), ((x, ()), (buf, ())))) = some (((0 : Int), ()), (((0 : Int), ()), ((x', ()), ((runT (U F)).2.1, ((runT (U F)).2.2, ()))))) ∧ RD x' [] := by
  obtain ⟨rfl, h1, K, T, h2, rfl, h3, h4⟩ := h
  obtain ⟨x', e, hx'⟩ := REnd_eq N x K h2 (by omega)
  have h5 := h4 []
  rw [List.append_nil, List.append_nil] at h5
  have h6 := U_len F.length F (Nat.le_refl _)
  have h7 : T.length + (U K).length ≤ 15000 := by
    rw [h5, List.length_append] at h6
    omega
  have q := Tokens_eq N (U F) (by omega) (by omega)
  rw [h5] at q
  refine ⟨x', ?_, hx'⟩
  have s : strings_Builder_String_199 (Ev.upto N) ((), (((F.length : Int), ()), ((x', ()), (ofBs T, ())))) = some ((T, ()), (((F.length : Int), ()), ((x', ()), ()))) := by
    unfold strings_Builder_String_199
    simp -implicitDefEqProofs only [beq_self_eq_true, cond_true, toBs_ofBs]
  have rs : strings_Builder_Reset_06b (Ev.upto N) ((), (((F.length : Int), ()), ((x', ()), ()))) = some ((), (((F.length : Int), ()), ((x', ()), ()))) := rfl
  unfold feed_Feeder_End_515
  rw [h5]
  simp -implicitDefEqProofs only [e, s, Option.bind_some, strFits_of (n := T.length + (U K).length) (by omega), cond_true, rs, q]
theorem FNew_eq (V : Ev) : feed_New_775 V ((), ()) = some ((), (((0 : Int), ()), ((((((0 : Int), ((0 : Int), ((0 : Int), (0 : Int)))), (0 : Int)) : Rd), ()), ()))) := rfl
theorem Whole_eq (N : Nat) (b : Bs) (hb : b.length ≤ 5000) (hN : 200000 < N) : feed_Whole_ (Ev.upto N) ((ofBs b, ()), ()) = some (((0 : Int), ()), ((runT (U b)).2.1, ((runT (U b)).2.2, ()))) := by
  obtain ⟨x1, buf1, e1, h1⟩ := FFeed1_eq N [] b 0 _ [] (FD_new RD_new) (by simp; omega) hN
  obtain ⟨x2, e2, _⟩ := FEnd_eq N _ _ x1 buf1 h1 (by simp; omega) hN
  have n := FNew_eq (Ev.upto N)
  have c0 : (((0 : Int)) != (0 : Int)) = false := rfl
  unfold feed_Whole_
  simp -implicitDefEqProofs only [n, Option.bind_some, e1, c0, cond_false, e2, List.nil_append]
theorem Whole_big (V : Ev) (b : List Int) (hb : 20000 < b.length) : feed_Whole_ V ((b, ()), ()) = some (((2 : Int), ()), ([], ([], ()))) := by
  have e1 := FFeed1_big V [] b 0 _ [] (FD_new RD_new) (by simp; omega)
  have n := FNew_eq V
  have c0 : (((2 : Int)) != (0 : Int)) = true := rfl
  unfold feed_Whole_
  simp -implicitDefEqProofs only [n, Option.bind_some, e1, c0, cond_true]
end Go.En.Pl
