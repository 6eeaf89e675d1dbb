/- Text MS of this seat: written by a program of ours, or by hand; checked by Lean. -/
import Derived.Test.YtgjenfhkjjdcoaaGreatDoorMA
set_option linter.unusedSimpArgs false
set_option linter.unusedVariables false
namespace Go.En.Pl
/-! -/
noncomputable def valB (c : UInt8) : Int := match base_value_ Ev.all ((((c.toNat : Nat) : Int), ()), ()) with
  | some r => r.1.1
  | none => 0
theorem fa_byte {P : UInt8 → Bool} (h : (List.range 256).all (fun n => P (UInt8.ofNat n)) = true) (c : UInt8) : P c = true := by
  have h2 := List.all_eq_true.1 h c.toNat (List.mem_range.2 c.toNat_lt)
  rwa [UInt8.ofNat_toNat] at h2
theorem bvalue_eq (V : Ev) (c : UInt8) : base_value_ V ((((c.toNat : Nat) : Int), ()), ()) = some ((valB c, ()), ()) := by
  have := fa_byte (P := fun c => base_value_ Ev.all ((((c.toNat : Nat) : Int), ()), ()) == some ((valB c, ()), ())) (by kernel_rfl) c
  exact beq_iff_eq.1 this
/-! -/
theorem defB_scheme (s : Bs) (h : (defB s == 0) = false) : schemeB s = true := by
  unfold defB at h
  cases h1 : (s == ([104, 116, 116, 112] : Bs)) with
  | true => rw [beq_iff_eq.1 h1]; kernel_rfl
  | false =>
    cases h2 : (s == ([119, 115] : Bs)) with
    | true => rw [beq_iff_eq.1 h2]; kernel_rfl
    | false =>
      cases h3 : (s == ([104, 116, 116, 112, 115] : Bs)) with
      | true => rw [beq_iff_eq.1 h3]; kernel_rfl
      | false =>
        cases h4 : (s == ([119, 115, 115] : Bs)) with
        | true => rw [beq_iff_eq.1 h4]; kernel_rfl
        | false => rw [h1, h2, h3, h4] at h; simp at h
theorem schemeB_len {s : Bs} (h : schemeB s = true) : s.length ≤ 20 := by
  unfold schemeB at h
  simp only [Bool.and_eq_true, decide_eq_true_eq] at h
  omega
theorem hostB_len {s : Bs} (h : hostB s = true) : s.length ≤ 100 := by
  unfold hostB at h
  simp only [Bool.and_eq_true, decide_eq_true_eq] at h
  omega
theorem sscheme_eq (N : Nat) (s : Bs) (hs : s.length ≤ 100000) (hN : 100005 < N) : source_scheme_ (Ev.upto N) ((s, ()), ()) = some ((schemeB s, ()), ()) := by
  have q := Check_eq N (true, (s, (([] : Bs), ((0 : Int), (([] : Bs), ([] : Bs)))))) ⟨hs, by simp, by simp, by simp⟩ hN
  have hd := default_eq (Ev.upto N) ((s, ()), ())
  unfold source_scheme_
  simp -implicitDefEqProofs only [hd, Option.bind_some]
  cases hz : (defB s == 0) with
  | false =>
    have : (defB s != 0) = true := by rw [bne, hz]; rfl
    simp -implicitDefEqProofs only [this, show (true == false) = false from rfl, cond_false, Option.bind_some, defB_scheme s hz]
  | true =>
    have : (defB s != 0) = false := by rw [bne, hz]; rfl
    have hu : urlB (true, (s, (([] : Bs), ((0 : Int), (([] : Bs), ([] : Bs)))))) = schemeB s := by
      unfold urlB opqB textB
      simp only [hz, cond_true]
      cases hs' : schemeB s with
      | false => rfl
      | true =>
        have := schemeB_len hs'
        rw [decide_eq_true (by simp; omega)]
        rfl
    rw [hu] at q
    simp -implicitDefEqProofs only [this, beq_self_eq_true, cond_true, q, Option.bind_some]
    cases schemeB s <;> rfl
theorem shost_eq (N : Nat) (s : Bs) (hs : s.length ≤ 100000) (hN : 100005 < N) : source_host_ (Ev.upto N) ((s, ()), ()) = some ((hostB s, ()), ()) := by
  have q := Check_eq N (false, (([104, 116, 116, 112] : Bs), (s, ((0 : Int), (([47] : Bs), ([] : Bs)))))) ⟨by simp, hs, by simp, by simp⟩ hN
  have hu : urlB (false, (([104, 116, 116, 112] : Bs), (s, ((0 : Int), (([47] : Bs), ([] : Bs)))))) = hostB s := by
    unfold urlB rankB textB
    simp only [cond_false]
    rw [show schemeB ([104, 116, 116, 112] : Bs) = true from by kernel_rfl, show (defB ([104, 116, 116, 112] : Bs) == 0) = false from by kernel_rfl, show portB 0 = [] from rfl, show cleanB [47] = true from by kernel_rfl]
    cases hs' : hostB s with
    | false => rfl
    | true =>
      have := hostB_len hs'
      generalize hL : (([104, 116, 116, 112] : Bs) ++ [58, 47, 47] ++ s ++ [] ++ [47] ++ []) = L
      have hl : L.length ≤ 500 := by rw [← hL]; simp; omega
      rw [decide_eq_true (by omega : (L.length : Int) ≤ 500)]
      rfl
  rw [hu] at q
  unfold source_host_
  simp -implicitDefEqProofs only [q, Option.bind_some]
  cases hostB s <;> rfl
def okC (n : Int) : Bool := decide (n < 33) || (decide (n > 126) || (n == 63 || (n == 35 || (n == 44 || (n == 59 || n == 58)))))
theorem idxS (c : UInt8) : decide (Lib.indexByte ([63, 35, 44, 59, 58] : Bs) c ≥ 0) = ((c.toNat : Int) == 63 || ((c.toNat : Int) == 35 || ((c.toNat : Int) == 44 || ((c.toNat : Int) == 59 || (c.toNat : Int) == 58)))) := by
  have := fa_byte (P := fun c => decide (Lib.indexByte ([63, 35, 44, 59, 58] : Bs) c ≥ 0) == ((c.toNat : Int) == 63 || ((c.toNat : Int) == 35 || ((c.toNat : Int) == 44 || ((c.toNat : Int) == 59 || (c.toNat : Int) == 58))))) (by kernel_rfl) c
  simpa using this
theorem IB_eq (V : Ev) (s : Bs) (c : UInt8) : strings_IndexByte_ V ((s, ((((c.toNat : Nat) : Int)), ())), ()) = some ((Lib.indexByte s c, ()), ()) := by
  have : Nat.toUInt8 (Int.toNat ((c.toNat : Nat) : Int)) = c := by rw [Int.toNat_natCast]; exact UInt8.ofNat_toNat
  show some ((Lib.indexByte s (Nat.toUInt8 (Int.toNat ((c.toNat : Nat) : Int))), ()), ()) = _
  rw [this]
def pathB (s : Bs) : Bool := match s with
  | [] => true
  | c :: r => c == 47 && (decide (((c :: r).length : Int) ≤ 200) && (c :: r).all fun c => !okC (c.toNat : Int))
theorem byteZ (c : UInt8) (n : Nat) (hn : n < 256) : (((c.toNat : Nat) : Int) == (n : Int)) = (c == UInt8.ofNat n) := by
  rw [Bool.eq_iff_iff, beq_iff_eq, beq_iff_eq]
  constructor
  · intro h
    apply UInt8.toNat_inj.1
    rw [UInt8.toNat_ofNat', Nat.mod_eq_of_lt hn]
    omega
  · intro h
    rw [h, UInt8.toNat_ofNat', Nat.mod_eq_of_lt hn]
theorem spath_eq (N : Nat) (s : Bs) (hs : s.length ≤ 100000) (hN : s.length < N) : source_path_ (Ev.upto N) ((s, ()), ()) = some ((pathB s, ()), ()) := by
  cases s with
  | nil => rfl
  | cons c r =>
    apply wp_eq
    unfold source_path_
    rw [show ((c :: r) == ([] : Bs)) = false from rfl, cond_false]
    refine wp_bind ?_
    refine wp_for (σ := Unit) (fun i _ => (((c :: r), (((c :: r).length : Int), ((i : Int), ()))), ())) (fun i _ => ((c :: r).take i).all (fun c => !okC (c.toNat : Int)) = true) (c :: r).length () rfl (by simp) hN ?_
    rintro i _ hi hn
    by_cases hi' : i < (c :: r).length
    · have c0 : decide ((i : Int) < ((c :: r).length : Int)) = true := decide_eq_true (by omega)
      have w : IntKind.wrap .i64 ((i : Int) + 1) = ((i + 1 : Nat) : Int) := by rw [wrap64 (by omega) (by omega)]; omega
      simp -implicitDefEqProofs only [c0, cond_true, idx_nat hi', Option.bind_some]
      generalize hg : (c :: r)[i] = g
      have qi := IB_eq (Ev.upto N) [63, 35, 44, 59, 58] g
      have key : wp ((bif (decide (((g).toNat : Int) < (33 : Int)) == false) then (bif (decide (((g).toNat : Int) > (126 : Int)) == false) then ((strings_IndexByte_ (Ev.upto N) ((([63, 35, 44, 59, 58] : Bs), (((g).toNat : Int), ())), ())).bind fun v3 => (some (((c :: r), (((c :: r).length : Int), ((i : Int), (decide (v3.1.1 ≥ (0 : Int)), ())))), ()))) else (some (((c :: r), (((c :: r).length : Int), ((i : Int), (true, ())))), ()))) else (some (((c :: r), (((c :: r).length : Int), ((i : Int), (true, ())))), ())) : Option ((Bs × Int × Int × Bool × Unit) × Unit))) (fun o => o = (((c :: r), (((c :: r).length : Int), ((i : Int), (okC (g.toNat : Int), ())))), ())) := by
        unfold okC
        cases decide (((g).toNat : Int) < (33 : Int)) with
        | true => exact ⟨_, rfl, rfl⟩
        | false =>
          cases decide (((g).toNat : Int) > (126 : Int)) with
          | true => exact ⟨_, rfl, rfl⟩
          | false =>
            simp -implicitDefEqProofs only [beq_self_eq_true, cond_true, qi, Option.bind_some, idxS, Bool.false_or]
            exact ⟨_, rfl, rfl⟩
      obtain ⟨_, e, rfl⟩ := key
      rw [e]
      cases hc : okC (g.toNat : Int) with
      | true =>
        refine ⟨_, rfl, _, rfl, ?_⟩
        have : ((c :: r).all fun c => !okC (c.toNat : Int)) = false := all_no hi' (by rw [hg, hc]; rfl)
        have e2 : pathB (c :: r) = false := by
          show (c == 47 && (decide (((c :: r).length : Int) ≤ 200) && (c :: r).all fun c => !okC (c.toNat : Int))) = false
          rw [this, Bool.and_false, Bool.and_false]
        rw [e2]
      | false =>
        simp -implicitDefEqProofs only [Option.bind_some, cond_false, w]
        exact ⟨_, rfl, hi', (), rfl, by rw [all_take hi', hn, hg, hc]; rfl⟩
    · have c0 : decide ((i : Int) < ((c :: r).length : Int)) = false := decide_eq_false (by omega)
      rw [List.take_of_length_le (by omega)] at hn
      simp -implicitDefEqProofs only [c0, cond_false]
      refine ⟨_, rfl, ?_⟩
      rw [show pathB (c :: r) = (c == 47 && (decide (((c :: r).length : Int) ≤ 200) && (c :: r).all fun c => !okC (c.toNat : Int))) from rfl, hn]
      simp -implicitDefEqProofs only [idx_zero, Option.bind_some]
      have := byteZ c 47 (by decide)
      rw [show (((c.toNat : Nat) : Int) == 47) = (c == 47) from this]
      cases (c == 47) with
      | true => simp -implicitDefEqProofs only [beq_self_eq_true, cond_true, Option.bind_some, Bool.true_and, Bool.and_true]; exact ⟨_, rfl, rfl⟩
      | false => exact ⟨_, rfl, rfl⟩
/-! -/
def cutE (s : Bs) : Bs := if s.getLast? = some 61 then s.dropLast else s
theorem cutE_snoc (l : Bs) (c : UInt8) : cutE (l ++ [c]) = if c = 61 then l else l ++ [c] := by
  unfold cutE
  rw [List.getLast?_concat, List.dropLast_concat]
  by_cases h : c = 61 <;> simp [h]
theorem snoc_cases (s : Bs) : s = [] ∨ ∃ l c, s = l ++ [c] := by
  rcases List.eq_nil_or_concat s with h | ⟨l, c, h⟩
  · exact Or.inl h
  · exact Or.inr ⟨l, c, by rw [h, List.concat_eq_append]⟩
theorem cutE_len (s : Bs) : (cutE s).length ≤ s.length := by
  unfold cutE
  split
  · simp
  · exact Nat.le_refl _
theorem one_beq (c : UInt8) : (([c] : Bs) == ([61] : Bs)) = (c == 61) := by
  rw [Bool.eq_iff_iff, beq_iff_eq, beq_iff_eq]
  exact ⟨fun h => (List.cons.inj h).1, fun h => by rw [h]⟩
theorem TS_eq (V : Ev) (s : Bs) (hs : s.length ≤ 1000000) : strings_TrimSuffix_ V ((s, (([61] : Bs), ())), ()) = some ((cutE s, ()), ()) := by
  unfold strings_TrimSuffix_ istringslite_TrimSuffix_ istringslite_HasSuffix_
  rcases snoc_cases s with rfl | ⟨l, c, rfl⟩
  · rfl
  · rw [List.length_append] at hs
    have hs : l.length + 1 ≤ 1000000 := hs
    have hl : (l ++ [c]).length = l.length + 1 := by simp
    have c0 : (decide (((l ++ [c]).length : Int) ≥ ((([61] : Bs).length : Nat) : Int)) == true) = true := by rw [decide_eq_true (by rw [hl]; simp; omega)]; rfl
    have w : IntKind.wrap .i64 (((l ++ [c]).length : Int) - ((([61] : Bs).length : Nat) : Int)) = ((l.length : Nat) : Int) := by rw [wrap64 (by rw [hl]; simp only [List.length_cons, List.length_nil]; omega) (by rw [hl]; simp only [List.length_cons, List.length_nil]; omega), hl]; simp only [List.length_cons, List.length_nil]; omega
    have s1 : sl (l ++ [c]) ((l.length : Nat) : Int) (((l ++ [c]).length : Nat) : Int) = some [c] := by rw [sl_end (by rw [hl]; omega), List.drop_left]
    have s2 : sl (l ++ [c]) (0 : Int) ((l.length : Nat) : Int) = some l := by
      have := sl_nat (l := l ++ [c]) (a := 0) (b := l.length) (by omega) (by rw [hl]; omega)
      rw [List.take_left, List.drop_zero] at this
      exact this
    simp -implicitDefEqProofs only [c0, cond_true, w, s1, Option.bind_some, one_beq]
    rw [cutE_snoc]
    cases hc : (c == 61) with
    | true =>
      rw [if_pos (by simpa using hc)]
      simp -implicitDefEqProofs only [cond_true, s2, Option.bind_some]
    | false =>
      rw [if_neg (by simpa using hc)]
      simp -implicitDefEqProofs only [cond_false, Option.bind_some]
def headB (s : Bs) : Bs := cutE (cutE s)
theorem head_eq (V : Ev) (s : Bs) (hs : s.length ≤ 1000000) : base_head_ V ((s, ()), ()) = some ((headB s, ()), ()) := by
  unfold base_head_
  rw [TS_eq V s hs, Option.bind_some]
  rw [TS_eq V (cutE s) (by have := cutE_len s; omega), Option.bind_some]
  rfl
noncomputable def noV (c : UInt8) : Bool := decide (valB c < 0)
noncomputable def formB (s : Bs) : Bool := !(headB s == ([] : Bs)) && (headB s).all fun c => !noV c
theorem headB_len (s : Bs) : (headB s).length ≤ s.length := Nat.le_trans (cutE_len _) (cutE_len _)
theorem form_eq (N : Nat) (s : Bs) (hs : s.length ≤ 1000000) (hN : s.length < N) : base_Form_ (Ev.upto N) ((s, ()), ()) = some ((formB s, ()), ()) := by
  apply wp_eq
  unfold base_Form_
  rw [head_eq _ s hs, Option.bind_some]
  have hh := headB_len s
  unfold formB
  generalize headB s = h at *
  refine wp_bind ?_
  refine wp_for (σ := Unit) (fun i _ => ((h, ((h.length : Int), ((i : Int), ()))), ())) (fun i _ => (h.take i).all (fun c => !noV c) = true) h.length () rfl (by simp) (by omega) ?_
  rintro i _ hi hn
  by_cases hi' : i < h.length
  · have c0 : decide ((i : Int) < (h.length : Int)) = true := decide_eq_true (by omega)
    have w : IntKind.wrap .i64 ((i : Int) + 1) = ((i + 1 : Nat) : Int) := by rw [wrap64 (by omega) (by omega)]; omega
    have q := bvalue_eq (Ev.upto N) h[i]
    simp -implicitDefEqProofs only [c0, cond_true, idx_nat hi', Option.bind_some, q]
    cases hc : decide (valB h[i] < 0) with
    | true =>
      have : (h.all fun c => !noV c) = false := all_no hi' (by unfold noV; rw [hc]; rfl)
      exact ⟨_, rfl, _, rfl, by rw [this, Bool.and_false]⟩
    | false =>
      simp -implicitDefEqProofs only [cond_false, w]
      exact ⟨_, rfl, hi', (), rfl, by rw [all_take hi', hn]; unfold noV; rw [hc]; rfl⟩
  · have c0 : decide ((i : Int) < (h.length : Int)) = false := decide_eq_false (by omega)
    rw [List.take_of_length_le (by omega)] at hn
    simp -implicitDefEqProofs only [c0, cond_false]
    exact ⟨_, rfl, _, rfl, by rw [hn, Bool.and_true]⟩
/-! -/
def bareB (s : Src) : Bool := s.2.2.2.1 == ([] : Bs) && (!s.2.2.2.2.1 && (s.2.2.2.2.2.1 == 0 && s.2.2.2.2.2.2 == ([] : Bs)))
def hostS (s : Src) : Bool := s.2.1 == ([] : Bs) && ((s.2.2.1 == ([] : Bs) || schemeB s.2.2.1) && ((bif s.2.2.2.1 == ([] : Bs) then s.2.2.2.2.1 else hostB s.2.2.2.1) && (decide (s.2.2.2.2.2.1 ≥ -1) && (decide (s.2.2.2.2.2.1 ≤ 65535) && pathB s.2.2.2.2.2.2))))
def keptB (k : Int) : Bool := decide (1 ≤ k) && decide (k ≤ 8)
noncomputable def rightB (s : Src) : Bool :=
  bif s.1 == 9 then bareB s && (s.2.2.1 == ([] : Bs) && (decide ((s.2.1.length : Int) ≤ 200) && formB s.2.1))
  else bif s.1 == 10 then bareB s && (s.2.2.1 == ([] : Bs) && ((s.2.1.length : Int) == 16))
  else bif s.1 == 11 then bareB s && (s.2.1 == ([] : Bs) && schemeB s.2.2.1)
  else bif s.1 == 12 then hostS s
  else keptB s.1 && (bareB s && (s.2.2.1 == ([] : Bs) && s.2.1 == ([] : Bs)))
def smallQ (s : Src) : Prop := s.2.1.length ≤ 1000 ∧ s.2.2.1.length ≤ 1000 ∧ s.2.2.2.1.length ≤ 1000 ∧ s.2.2.2.2.2.2.length ≤ 1000
theorem nil_beq (x : Bs) : (([] : Bs) == x) = (x == ([] : Bs)) := by cases x <;> rfl
set_option maxHeartbeats 2000000 in
theorem right_eq (s : Src) (h : smallQ s) : source_right_ (Ev.upto 200000) ((s, ()), ()) = some ((rightB s, ()), ()) := by
  obtain ⟨k, tx, sc, ho, wi, po, pa⟩ := s
  obtain ⟨h1, h2, h3, h4⟩ := h
  simp only at h1 h2 h3 h4
  have q1 := form_eq 200000 tx (by omega) (by omega)
  have q2 := sscheme_eq 200000 sc (by omega) (by decide)
  have q3 := shost_eq 200000 ho (by omega) (by decide)
  have q4 := spath_eq 200000 pa (by omega) (by omega)
  have p0 : ((0 : Int) == po) = (po == 0) := by rw [Bool.eq_iff_iff, beq_iff_eq, beq_iff_eq]; exact eq_comm
  unfold source_right_
  by_cases hk : 1 ≤ k ∧ k ≤ 8
  · have d1 : decide (k ≥ 1) = true := decide_eq_true hk.1
    have d2 : decide (k ≤ 8) = true := decide_eq_true hk.2
    have e9 : (k == 9) = false := by simp; omega
    have e10 : (k == 10) = false := by simp; omega
    have e11 : (k == 11) = false := by simp; omega
    have e12 : (k == 12) = false := by simp; omega
    simp -implicitDefEqProofs only [d1, d2, beq_self_eq_true, cond_true, cond_false, Option.bind_some]
    unfold rightB keptB bareB
    simp only [e9, e10, e11, e12, cond_false, nil_beq, show decide (1 ≤ k) = true from d1, d2, Bool.and_true, Bool.true_and]
    simp -implicitDefEqProofs only [nil_beq, p0, beq_self_eq_true, Bool.and_true, Bool.true_and]
    generalize (tx == ([] : Bs)) = b1
    generalize (sc == ([] : Bs)) = b2
    generalize (ho == ([] : Bs)) = b3
    generalize (po == 0) = b4
    generalize (pa == ([] : Bs)) = b5
    cases wi <;> cases b1 <;> cases b2 <;> cases b3 <;> cases b4 <;> cases b5 <;> rfl
  · have hkb : keptB k = false := by
      unfold keptB
      by_cases h0 : 1 ≤ k
      · rw [decide_eq_false (show ¬ k ≤ 8 by omega), Bool.and_false]
      · rw [decide_eq_false h0]; rfl
    have first : wp ((bif (decide (k ≥ (1 : Int)) == true) then (some ((false, (k, (decide (k ≤ (8 : Int)), ()))), (((k, (tx, (sc, (ho, (wi, (po, pa)))))), ()), (((k, (([] : Bs), (([] : Bs), (([] : Bs), (false, ((0 : Int), ([] : Bs))))))), ()), ())))) else (some ((false, (k, (false, ()))), (((k, (tx, (sc, (ho, (wi, (po, pa)))))), ()), (((k, (([] : Bs), (([] : Bs), (([] : Bs), (false, ((0 : Int), ([] : Bs))))))), ()), ())))) : Option ((Bool × Int × Bool × Unit) × ((Src × Unit) × (Src × Unit) × Unit)))) (fun o => o = ((false, (k, (false, ()))), (((k, (tx, (sc, (ho, (wi, (po, pa)))))), ()), (((k, (([] : Bs), (([] : Bs), (([] : Bs), (false, ((0 : Int), ([] : Bs))))))), ()), ())))) := by
      by_cases h0 : k ≥ 1
      · rw [decide_eq_true h0, decide_eq_false (show ¬ k ≤ 8 by omega)]; exact ⟨_, rfl, rfl⟩
      · rw [decide_eq_false h0]; exact ⟨_, rfl, rfl⟩
    obtain ⟨_, e, rfl⟩ := first
    simp -implicitDefEqProofs only []
    rw [e]
    unfold rightB
    simp only
    cases e9 : (k == 9) with
    | true =>
      simp -implicitDefEqProofs only [Option.bind_some, cond_false, cond_true, e9, q1]
      unfold bareB
      cases f1 : formB tx <;>
      cases f2 : decide ((tx.length : Int) ≤ 200) <;>
      (simp -implicitDefEqProofs only [f1, f2, e9, Option.bind_some, cond_true, cond_false, beq_self_eq_true, nil_beq, p0, show (false == true) = false from rfl, show (true == false) = false from rfl, Bool.and_true, Bool.true_and, Bool.and_false, Bool.false_and, Bool.not_true, Bool.not_false, Bool.true_or, Bool.false_or]
       all_goals (
        generalize (sc == ([] : Bs)) = b2
        generalize (ho == ([] : Bs)) = b3
        generalize (po == 0) = b4
        generalize (pa == ([] : Bs)) = b5
        generalize (wi) = wj
        cases b2 <;> cases b3 <;> cases b4 <;> cases b5 <;> cases wj <;> rfl))
    | false =>
      cases e10 : (k == 10) with
      | true =>
        simp -implicitDefEqProofs only [Option.bind_some, cond_false, cond_true, e9, e10]
        unfold bareB
        cases f1 : ((tx.length : Int) == 16) <;>
        (simp -implicitDefEqProofs only [f1, e9, e10, Option.bind_some, cond_true, cond_false, beq_self_eq_true, nil_beq, p0, show (false == true) = false from rfl, show (true == false) = false from rfl, Bool.and_true, Bool.true_and, Bool.and_false, Bool.false_and, Bool.not_true, Bool.not_false, Bool.true_or, Bool.false_or]
         all_goals (
          generalize (sc == ([] : Bs)) = b2
          generalize (ho == ([] : Bs)) = b3
          generalize (po == 0) = b4
          generalize (pa == ([] : Bs)) = b5
          generalize (wi) = wj
          cases b2 <;> cases b3 <;> cases b4 <;> cases b5 <;> cases wj <;> rfl))
      | false =>
        cases e11 : (k == 11) with
        | true =>
          simp -implicitDefEqProofs only [Option.bind_some, cond_false, cond_true, e9, e10, e11, q2]
          unfold bareB
          cases f1 : schemeB sc <;>
          (simp -implicitDefEqProofs only [f1, e9, e10, e11, Option.bind_some, cond_true, cond_false, beq_self_eq_true, nil_beq, p0, show (false == true) = false from rfl, show (true == false) = false from rfl, Bool.and_true, Bool.true_and, Bool.and_false, Bool.false_and, Bool.not_true, Bool.not_false, Bool.true_or, Bool.false_or]
           all_goals (
            generalize (tx == ([] : Bs)) = b1
            generalize (ho == ([] : Bs)) = b3
            generalize (po == 0) = b4
            generalize (pa == ([] : Bs)) = b5
            generalize (wi) = wj
            cases b1 <;> cases b3 <;> cases b4 <;> cases b5 <;> cases wj <;> rfl))
        | false =>
          cases e12 : (k == 12) with
          | true =>
            simp -implicitDefEqProofs only [Option.bind_some, cond_false, cond_true, e9, e10, e11, e12, q2, q3, q4]
            unfold hostS
            cases f1 : (sc == ([] : Bs)) <;>
            cases f2 : schemeB sc <;>
            cases f3 : (ho == ([] : Bs)) <;>
            cases f4 : hostB ho <;>
            cases f5 : decide (po ≥ -1) <;>
            cases f6 : decide (po ≤ 65535) <;>
            cases f7 : pathB pa <;>
            cases f8 : wi <;>
            (simp -implicitDefEqProofs only [f1, f2, f3, f4, f5, f6, f7, f8, e9, e10, e11, e12, q2, q3, q4, Option.bind_some, cond_true, cond_false, beq_self_eq_true, nil_beq, p0, show (false == true) = false from rfl, show (true == false) = false from rfl, Bool.and_true, Bool.true_and, Bool.and_false, Bool.false_and, Bool.not_true, Bool.not_false, Bool.true_or, Bool.false_or]
             all_goals (
              generalize (tx == ([] : Bs)) = b1
              cases b1 <;> rfl))
          | false =>
            simp -implicitDefEqProofs only [Option.bind_some, cond_false, cond_true, e9, e10, e11, e12, hkb, Bool.false_and]
            rfl
set_option maxHeartbeats 2000000 in
/-! -/
theorem it_k3 {α β : Type} {f : α → Option (α ⊕ β)} {a0 a1 a2 a3 : α} {z : β} {N : Nat} (h0 : f a0 = some (.inl a1)) (h1 : f a1 = some (.inl a2)) (h2 : f a2 = some (.inl a3)) (h3 : f a3 = some (.inr z)) (hN : 10 < N) : (Ev.upto N).it f a0 = some z := by
  obtain ⟨n, rfl⟩ : ∃ n, N = n + 4 := ⟨N - 4, by omega⟩
  rw [upto_it]
  simp only [iterN, h0, h1, h2, h3, Option.bind_some]
theorem it_k4 {α β : Type} {f : α → Option (α ⊕ β)} {a0 a1 a2 a3 a4 : α} {z : β} {N : Nat} (h0 : f a0 = some (.inl a1)) (h1 : f a1 = some (.inl a2)) (h2 : f a2 = some (.inl a3)) (h3 : f a3 = some (.inl a4)) (h4 : f a4 = some (.inr z)) (hN : 10 < N) : (Ev.upto N).it f a0 = some z := by
  obtain ⟨n, rfl⟩ : ∃ n, N = n + 5 := ⟨N - 5, by omega⟩
  rw [upto_it]
  simp only [iterN, h0, h1, h2, h3, h4, Option.bind_some]
theorem WB_eq (V : Ev) (c : UInt8) (b : Bs) (h : b.length ≤ 10000000) : strings_Builder_WriteByte_a04 V ((((c.toNat : Nat) : Int), ()), ((), (ofBs b, ()))) = some ((false, ()), ((), ((ofBs (b ++ [c]), ())))) := by
  unfold strings_Builder_WriteByte_a04 strings_Builder_copyCheck_20a
  simp only [Option.bind_some, fits_of (show ((ofBs b).length + ([((c.toNat : Nat) : Int)] : List Int).length) * 1 ≤ 100000000 by rw [ofBs_length]; simp; omega), cond_true]
  rw [← ofBs_append]
  rfl
theorem BS_eq (V : Ev) (b : Bs) : strings_Builder_String_20a V ((), ((), (ofBs b, ()))) = some ((b, ()), ((), ())) := by
  unfold strings_Builder_String_20a
  simp only [beq_self_eq_true, cond_true, toBs_ofBs]
def signs : Bs := [65, 66, 67, 68, 69, 70, 71, 72, 73, 74, 75, 76, 77, 78, 79, 80, 81, 82, 83, 84, 85, 86, 87, 88, 89, 90, 97, 98, 99, 100, 101, 102, 103, 104, 105, 106, 107, 108, 109, 110, 111, 112, 113, 114, 115, 116, 117, 118, 119, 120, 121, 122, 48, 49, 50, 51, 52, 53, 54, 55, 56, 57, 43, 47]
def sgn (n : Nat) : UInt8 := (signs[n]?).getD 0
theorem sgn_idx (n : Nat) (h : n < 64) : idx signs (n : Int) = some (sgn n) := by
  have hl : n < signs.length := h
  rw [idx_nat hl]
  unfold sgn
  rw [List.getElem?_eq_getElem hl]
  rfl
theorem orL (x c : Nat) (hx : x < 1000000000) (hc : c < 256) : IntKind.wrap .i64 ((BitVec.toNat (BitVec.ofInt 64 (IntKind.wrap .i64 ((x : Int) * 2 ^ (min (Int.toNat (8 : Int)) 64))) ||| BitVec.ofInt 64 (IntKind.wrap .i64 ((c : Nat) : Int))) : Nat) : Int) = ((x * 256 + c : Nat) : Int) := by
  have e : (x : Int) * 2 ^ (min (Int.toNat (8 : Int)) 64) = ((x * 256 : Nat) : Int) := by
    rw [show min (Int.toNat (8 : Int)) 64 = 8 from rfl]; omega
  rw [e, wrap64 (n := ((x * 256 : Nat) : Int)) (by omega) (by omega), wrap64 (n := (c : Int)) (by omega) (by omega), BitVec.ofInt_natCast, BitVec.ofInt_natCast, BitVec.toNat_or, BitVec.toNat_ofNat, BitVec.toNat_ofNat, Nat.mod_eq_of_lt (by omega), Nat.mod_eq_of_lt (by omega)]
  have h8 := Nat.shiftLeft_add_eq_or_of_lt (i := 8) (b := c) hc x
  rw [Nat.shiftLeft_eq] at h8
  rw [show x * 256 = x * 2 ^ 8 from rfl, ← h8]
  exact wrap64 (by omega) (by omega)
theorem shL (x : Nat) (hx : x < 1000000000) : IntKind.wrap .i64 ((x : Int) * 2 ^ (min (Int.toNat (8 : Int)) 64)) = ((x * 256 : Nat) : Int) := by
  have e : (x : Int) * 2 ^ (min (Int.toNat (8 : Int)) 64) = ((x * 256 : Nat) : Int) := by
    rw [show min (Int.toNat (8 : Int)) 64 = 8 from rfl]; omega
  rw [e, wrap64 (by omega) (by omega)]
theorem fdivL (n k : Nat) : Int.fdiv (n : Int) ((2 : Int) ^ k) = ((n / 2 ^ k : Nat) : Int) := by
  rw [show ((2 : Int) ^ k) = ((2 ^ k : Nat) : Int) by simp]
  rw [Int.fdiv_eq_ediv_of_nonneg _ (Int.natCast_nonneg _)]
  rfl
theorem andL (m : Nat) (hm : m < 1000000000) : IntKind.wrap .i64 ((BitVec.toNat (BitVec.ofInt 64 (m : Int) &&& BitVec.ofInt 64 (63 : Int)) : Nat) : Int) = ((m % 64 : Nat) : Int) := by
  rw [BitVec.ofInt_natCast, show (BitVec.ofInt 64 (63 : Int)) = BitVec.ofNat 64 63 from rfl, BitVec.toNat_and, BitVec.toNat_ofNat, BitVec.toNat_ofNat, Nat.mod_eq_of_lt (show m < 2 ^ 64 by omega), show (63 % 2 ^ 64 : Nat) = 2 ^ 6 - 1 from rfl, Nat.and_two_pow_sub_one_eq_mod]
  exact wrap64 (by omega) (by omega)
def n3 (a b c : UInt8) : Nat := (a.toNat * 256 + b.toNat) * 256 + c.toNat
def enc4 (n : Nat) : Bs := [sgn (n / 2 ^ 18 % 64), sgn (n / 2 ^ 12 % 64), sgn (n / 2 ^ 6 % 64), sgn (n / 2 ^ 0 % 64)]
def encW : Bs → Bs
  | a :: b :: c :: r => enc4 (n3 a b c) ++ encW r
  | [a, b] => (enc4 (n3 a b 0)).take 3 ++ [61]
  | [a] => (enc4 (n3 a 0 0)).take 2 ++ [61, 61]
  | [] => []
theorem Encode_eq (N : Nat) (s : Bs) (hs : s.length ≤ 1000) (h1 : s.length % 3 = 1) (hN : 2000 < N) : base_Encode_ (Ev.upto N) ((s, ()), ()) = some ((encW s, ()), ()) := by
  apply wp_eq
  unfold base_Encode_
  refine wp_bind ?_
  refine wp_it (fun a => ∃ (x b : Bs), a = ((x, ()), ((), (ofBs b, ()))) ∧ b ++ encW x = encW s ∧ x.length ≤ s.length ∧ b.length + 4 * x.length ≤ 4 * s.length + 4 ∧ (x.length % 3 = 1 ∨ x = [])) (fun a => a.1.1.length) ⟨s, [], rfl, rfl, Nat.le_refl _, by simp, Or.inl h1⟩ (by show s.length < N; omega) ?_
  rintro _ ⟨x, b, rfl, hb, hx, hbl, hm⟩
  have e18 : IntKind.wrap .i64 ((18 : Int) - (IntKind.wrap .i64 ((6 : Int) * 0))) = 18 := by decide
  have e12 : IntKind.wrap .i64 ((18 : Int) - (IntKind.wrap .i64 ((6 : Int) * 1))) = 12 := by decide
  have e6 : IntKind.wrap .i64 ((18 : Int) - (IntKind.wrap .i64 ((6 : Int) * 2))) = 6 := by decide
  have e0 : IntKind.wrap .i64 ((18 : Int) - (IntKind.wrap .i64 ((6 : Int) * 3))) = 0 := by decide
  have w01 : IntKind.wrap .i64 ((0 : Int) + 1) = 1 := by decide
  have w12 : IntKind.wrap .i64 ((1 : Int) + 1) = 2 := by decide
  have w23 : IntKind.wrap .i64 ((2 : Int) + 1) = 3 := by decide
  have w34 : IntKind.wrap .i64 ((3 : Int) + 1) = 4 := by decide
  have m18 : min (Int.toNat (18 : Int)) 64 = 18 := rfl
  have m12 : min (Int.toNat (12 : Int)) 64 = 12 := rfl
  have m6 : min (Int.toNat (6 : Int)) 64 = 6 := rfl
  have m0 : min (Int.toNat (0 : Int)) 64 = 0 := rfl
  have rg : ∀ (n k : Nat), n < 1000000000 → rngB .i64 ((n / 2 ^ k : Nat) : Int) = true := fun n k h => by
    have := Nat.div_le_self n (2 ^ k)
    generalize n / 2 ^ k = m at *
    rw [rngB, Bool.and_eq_true, decide_eq_true_eq, decide_eq_true_eq, show IntKind.i64.min = -9223372036854775808 from rfl, show IntKind.i64.max = 9223372036854775807 from rfl]
    omega
  have sg : ∀ (n k : Nat), n < 1000000000 → idx signs (IntKind.wrap .i64 ((BitVec.toNat (BitVec.ofInt 64 ((n / 2 ^ k : Nat) : Int) &&& BitVec.ofInt 64 (63 : Int)) : Nat) : Int)) = some (sgn (n / 2 ^ k % 64)) := fun n k h => by
    have := Nat.div_le_self n (2 ^ k)
    rw [andL _ (by omega)]
    exact sgn_idx _ (Nat.mod_lt _ (by decide))
  match x, hb, hx, hbl, hm with
  | [], hb, hx, hbl, hm =>
    have q := BS_eq (Ev.upto N) b
    refine ⟨_, rfl, ?_⟩
    simp -implicitDefEqProofs only [q, Option.bind_some]
    rw [encW, List.append_nil] at hb
    rw [hb]
    exact ⟨_, rfl, rfl⟩
  | [a], hb, hx, hbl, hm =>
    have c0 : decide (((([a] : Bs).length : Nat) : Int) > 0) = true := rfl
    have l0 : decide ((0 : Int) < ((([a] : Bs).length : Nat) : Int)) = true := rfl
    have l1 : decide ((1 : Int) < ((([a] : Bs).length : Nat) : Int)) = false := rfl
    have l2 : decide ((2 : Int) < ((([a] : Bs).length : Nat) : Int)) = false := rfl
    have g0 : decide ((0 : Int) > ((([a] : Bs).length : Nat) : Int)) = false := rfl
    have g1 : decide ((1 : Int) > ((([a] : Bs).length : Nat) : Int)) = false := rfl
    have g2 : decide ((2 : Int) > ((([a] : Bs).length : Nat) : Int)) = true := rfl
    have g3 : decide ((3 : Int) > ((([a] : Bs).length : Nat) : Int)) = true := rfl
    have ha := a.toNat_lt
    have o1 := orL 0 a.toNat (by decide) ha
    have o2 := shL (0 * 256 + a.toNat) (by omega)
    have o3 := shL ((0 * 256 + a.toNat) * 256) (by omega)
    have hn3 : ((0 * 256 + a.toNat) * 256) * 256 = n3 a 0 0 := by unfold n3; rw [show (0 : UInt8).toNat = 0 from rfl]; omega
    have hn : n3 a 0 0 < 1000000000 := by rw [← hn3]; omega
    rw [hn3] at o3
    simp -implicitDefEqProofs only [c0, cond_true]
    rw [it_k3 (a1 := (([a], (((0 * 256 + a.toNat : Nat) : Int), (1, ()))), ((), (ofBs b, ())))) (a2 := (([a], ((((0 * 256 + a.toNat) * 256 : Nat) : Int), (2, ()))), ((), (ofBs b, ())))) (a3 := (([a], (((n3 a 0 0 : Nat) : Int), (3, ()))), ((), (ofBs b, ())))) (z := (([a], (((n3 a 0 0 : Nat) : Int), ())), ((), (ofBs b, ()))))
      (by simp -implicitDefEqProofs only [show decide ((0 : Int) < 3) = true from rfl, cond_true, l0, idx_zero, Option.bind_some, w01]; rw [show ((0 : Int)) = ((0 : Nat) : Int) from rfl, o1])
      (by simp -implicitDefEqProofs only [show decide ((1 : Int) < 3) = true from rfl, cond_true, cond_false, l1, Option.bind_some, w12, o2])
      (by simp -implicitDefEqProofs only [show decide ((2 : Int) < 3) = true from rfl, cond_true, cond_false, l2, Option.bind_some, w23, o3])
      (by simp -implicitDefEqProofs only [show decide ((3 : Int) < 3) = false from rfl, cond_false]) (by omega), Option.bind_some]
    generalize hnn : n3 a 0 0 = n at *
    have b1 := WB_eq (Ev.upto N) (sgn (n / 2 ^ 18 % 64)) b (by omega)
    have b2 := WB_eq (Ev.upto N) (sgn (n / 2 ^ 12 % 64)) (b ++ [sgn (n / 2 ^ 18 % 64)]) (by simp; omega)
    have b3 := WB_eq (Ev.upto N) 61 (b ++ [sgn (n / 2 ^ 18 % 64)] ++ [sgn (n / 2 ^ 12 % 64)]) (by simp; omega)
    have b4 := WB_eq (Ev.upto N) 61 (b ++ [sgn (n / 2 ^ 18 % 64)] ++ [sgn (n / 2 ^ 12 % 64)] ++ [61]) (by simp; omega)
    rw [show (((61 : UInt8).toNat : Nat) : Int) = 61 from rfl] at b3 b4
    have s18 := sg n 18 hn; have s12 := sg n 12 hn
    have r18 := rg n 18 hn; have r12 := rg n 12 hn
    unfold signs at s18 s12
    rw [it_k4 (a1 := (([a], ((n : Int), (1, ()))), ((), (ofBs (b ++ [sgn (n / 2 ^ 18 % 64)]), ())))) (a2 := (([a], ((n : Int), (2, ()))), ((), (ofBs (b ++ [sgn (n / 2 ^ 18 % 64)] ++ [sgn (n / 2 ^ 12 % 64)]), ())))) (a3 := (([a], ((n : Int), (3, ()))), ((), (ofBs (b ++ [sgn (n / 2 ^ 18 % 64)] ++ [sgn (n / 2 ^ 12 % 64)] ++ [61]), ())))) (a4 := (([a], ((n : Int), (4, ()))), ((), (ofBs (b ++ [sgn (n / 2 ^ 18 % 64)] ++ [sgn (n / 2 ^ 12 % 64)] ++ [61] ++ [61]), ()))))
      (z := (([a], ()), ((), (ofBs (b ++ [sgn (n / 2 ^ 18 % 64)] ++ [sgn (n / 2 ^ 12 % 64)] ++ [61] ++ [61]), ()))))
      (by simp -implicitDefEqProofs only [show decide ((0 : Int) < 4) = true from rfl, g0, cond_true, cond_false, e18, m18, fdivL, r18, s18, b1, Option.bind_some, w01, show decide ((0 : Int) ≤ 18) = true from rfl, Bool.and_self])
      (by simp -implicitDefEqProofs only [show decide ((1 : Int) < 4) = true from rfl, g1, cond_true, cond_false, e12, m12, fdivL, r12, s12, b2, Option.bind_some, w12, show decide ((0 : Int) ≤ 12) = true from rfl, Bool.and_self])
      (by simp -implicitDefEqProofs only [show decide ((2 : Int) < 4) = true from rfl, g2, cond_true, cond_false, b3, Option.bind_some, w23])
      (by simp -implicitDefEqProofs only [show decide ((3 : Int) < 4) = true from rfl, g3, cond_true, cond_false, b4, Option.bind_some, w34])
      (by simp -implicitDefEqProofs only [show decide ((4 : Int) < 4) = false from rfl, cond_false]) (by omega), Option.bind_some]
    have hsl : sl [a] (mn (3 : Int) ((([a] : Bs).length : Nat) : Int)) ((([a] : Bs).length : Nat) : Int) = some [] := rfl
    simp -implicitDefEqProofs only [hsl, Option.bind_some]
    refine ⟨_, rfl, ⟨[], _, rfl, ?_, Nat.zero_le _, by simp only [List.length_append, List.length_cons, List.length_nil] at hbl ⊢; omega, Or.inr rfl⟩, by show 0 < _; simp⟩
    rw [← hb, encW, encW]
    simp [enc4, hnn]
  | [a, a2], hb, hx, hbl, hm => exact absurd hm (by simp)
  | a :: a2 :: a3 :: r, hb, hx, hbl, hm =>
    have hl : (a :: a2 :: a3 :: r).length = r.length + 3 := by simp
    have c0 : decide ((((a :: a2 :: a3 :: r).length : Nat) : Int) > 0) = true := decide_eq_true (by rw [hl]; omega)
    have l0 : decide ((0 : Int) < (((a :: a2 :: a3 :: r).length : Nat) : Int)) = true := c0
    have l1 : decide ((1 : Int) < (((a :: a2 :: a3 :: r).length : Nat) : Int)) = true := decide_eq_true (by rw [hl]; omega)
    have l2 : decide ((2 : Int) < (((a :: a2 :: a3 :: r).length : Nat) : Int)) = true := decide_eq_true (by rw [hl]; omega)
    have g : ∀ k : Int, k ≤ 3 → decide (k > (((a :: a2 :: a3 :: r).length : Nat) : Int)) = false := fun k hk => decide_eq_false (by rw [hl]; omega)
    have i1 : idx (a :: a2 :: a3 :: r) (1 : Int) = some a2 := idx_nat (i := 1) (by simp)
    have i2 : idx (a :: a2 :: a3 :: r) (2 : Int) = some a3 := idx_nat (i := 2) (by simp)
    have ha := a.toNat_lt; have ha2 := a2.toNat_lt; have ha3 := a3.toNat_lt
    have o1 := orL 0 a.toNat (by decide) ha
    have o2 := orL (0 * 256 + a.toNat) a2.toNat (by omega) ha2
    have o3 := orL ((0 * 256 + a.toNat) * 256 + a2.toNat) a3.toNat (by omega) ha3
    have hn : n3 a a2 a3 < 1000000000 := by unfold n3; omega
    have hn3 : ((0 * 256 + a.toNat) * 256 + a2.toNat) * 256 + a3.toNat = n3 a a2 a3 := by unfold n3; omega
    rw [hn3] at o3
    simp -implicitDefEqProofs only [c0, cond_true]
    rw [it_k3 (a1 := ((a :: a2 :: a3 :: r, (((0 * 256 + a.toNat : Nat) : Int), (1, ()))), ((), (ofBs b, ())))) (a2 := ((a :: a2 :: a3 :: r, ((((0 * 256 + a.toNat) * 256 + a2.toNat : Nat) : Int), (2, ()))), ((), (ofBs b, ())))) (a3 := ((a :: a2 :: a3 :: r, (((n3 a a2 a3 : Nat) : Int), (3, ()))), ((), (ofBs b, ())))) (z := ((a :: a2 :: a3 :: r, (((n3 a a2 a3 : Nat) : Int), ())), ((), (ofBs b, ()))))
      (by simp -implicitDefEqProofs only [show decide ((0 : Int) < 3) = true from rfl, cond_true, l0, idx_zero, Option.bind_some, w01]; rw [show ((0 : Int)) = ((0 : Nat) : Int) from rfl, o1])
      (by simp -implicitDefEqProofs only [show decide ((1 : Int) < 3) = true from rfl, cond_true, l1, i1, Option.bind_some, w12, o2])
      (by simp -implicitDefEqProofs only [show decide ((2 : Int) < 3) = true from rfl, cond_true, l2, i2, Option.bind_some, w23, o3])
      (by simp -implicitDefEqProofs only [show decide ((3 : Int) < 3) = false from rfl, cond_false]) (by omega), Option.bind_some]
    have hn3' : n3 a a2 a3 = n3 a a2 a3 := rfl
    generalize hnn : n3 a a2 a3 = n at *
    have b1 := WB_eq (Ev.upto N) (sgn (n / 2 ^ 18 % 64)) b (by omega)
    have b2 := WB_eq (Ev.upto N) (sgn (n / 2 ^ 12 % 64)) (b ++ [sgn (n / 2 ^ 18 % 64)]) (by simp; omega)
    have b3 := WB_eq (Ev.upto N) (sgn (n / 2 ^ 6 % 64)) (b ++ [sgn (n / 2 ^ 18 % 64)] ++ [sgn (n / 2 ^ 12 % 64)]) (by simp; omega)
    have b4 := WB_eq (Ev.upto N) (sgn (n / 2 ^ 0 % 64)) (b ++ [sgn (n / 2 ^ 18 % 64)] ++ [sgn (n / 2 ^ 12 % 64)] ++ [sgn (n / 2 ^ 6 % 64)]) (by simp; omega)
    have s18 := sg n 18 hn; have s12 := sg n 12 hn; have s6 := sg n 6 hn; have s0 := sg n 0 hn
    have r18 := rg n 18 hn; have r12 := rg n 12 hn; have r6 := rg n 6 hn; have r0 := rg n 0 hn
    unfold signs at s18 s12 s6 s0
    rw [it_k4 (a1 := ((a :: a2 :: a3 :: r, ((n : Int), (1, ()))), ((), (ofBs (b ++ [sgn (n / 2 ^ 18 % 64)]), ())))) (a2 := ((a :: a2 :: a3 :: r, ((n : Int), (2, ()))), ((), (ofBs (b ++ [sgn (n / 2 ^ 18 % 64)] ++ [sgn (n / 2 ^ 12 % 64)]), ())))) (a3 := ((a :: a2 :: a3 :: r, ((n : Int), (3, ()))), ((), (ofBs (b ++ [sgn (n / 2 ^ 18 % 64)] ++ [sgn (n / 2 ^ 12 % 64)] ++ [sgn (n / 2 ^ 6 % 64)]), ())))) (a4 := ((a :: a2 :: a3 :: r, ((n : Int), (4, ()))), ((), (ofBs (b ++ [sgn (n / 2 ^ 18 % 64)] ++ [sgn (n / 2 ^ 12 % 64)] ++ [sgn (n / 2 ^ 6 % 64)] ++ [sgn (n / 2 ^ 0 % 64)]), ()))))
      (z := ((a :: a2 :: a3 :: r, ()), ((), (ofBs (b ++ [sgn (n / 2 ^ 18 % 64)] ++ [sgn (n / 2 ^ 12 % 64)] ++ [sgn (n / 2 ^ 6 % 64)] ++ [sgn (n / 2 ^ 0 % 64)]), ()))))
      (by simp -implicitDefEqProofs only [show decide ((0 : Int) < 4) = true from rfl, g 0 (by decide), cond_true, cond_false, e18, m18, fdivL, r18, s18, b1, Option.bind_some, w01, show decide ((0 : Int) ≤ 18) = true from rfl, Bool.and_self])
      (by simp -implicitDefEqProofs only [show decide ((1 : Int) < 4) = true from rfl, g 1 (by decide), cond_true, cond_false, e12, m12, fdivL, r12, s12, b2, Option.bind_some, w12, show decide ((0 : Int) ≤ 12) = true from rfl, Bool.and_self])
      (by simp -implicitDefEqProofs only [show decide ((2 : Int) < 4) = true from rfl, g 2 (by decide), cond_true, cond_false, e6, m6, fdivL, r6, s6, b3, Option.bind_some, w23, show decide ((0 : Int) ≤ 6) = true from rfl, Bool.and_self])
      (by simp -implicitDefEqProofs only [show decide ((3 : Int) < 4) = true from rfl, g 3 (by decide), cond_true, cond_false, e0, m0, fdivL, r0, s0, b4, Option.bind_some, w34, show decide ((0 : Int) ≤ 0) = true from rfl, Bool.and_self])
      (by simp -implicitDefEqProofs only [show decide ((4 : Int) < 4) = false from rfl, cond_false]) (by omega), Option.bind_some]
    have hm3 : mn (3 : Int) (((a :: a2 :: a3 :: r).length : Nat) : Int) = ((3 : Nat) : Int) := by unfold mn; rw [if_neg (by rw [hl]; omega)]; rfl
    have hsl : sl (a :: a2 :: a3 :: r) ((3 : Nat) : Int) (((a :: a2 :: a3 :: r).length : Nat) : Int) = some r := by rw [sl_end (by rw [hl]; omega)]; rfl
    simp -implicitDefEqProofs only [hm3, hsl, Option.bind_some]
    refine ⟨_, rfl, ⟨r, _, rfl, ?_, by rw [hl] at hx; omega, by simp only [List.length_append, List.length_cons, List.length_nil] at hbl ⊢; omega, ?_⟩, by show r.length < (a :: a2 :: a3 :: r).length; rw [hl]; omega⟩
    · rw [← hb, encW]
      simp [enc4, hnn]
    · rcases hm with hm | hm
      · left; rw [hl] at hm; omega
      · cases hm
/-! -/
/-! -/
theorem encW_len : ∀ (n : Nat) (s : Bs), s.length ≤ n → (encW s).length ≤ 4 * s.length
  | 0, s, h => by
    have : s = [] := List.length_eq_zero_iff.1 (by omega)
    subst this; simp [encW]
  | n + 1, s, h => by
    match s, h with
    | [], _ => simp [encW]
    | [a], _ => simp [encW, enc4]
    | [a, b], _ => simp [encW, enc4]
    | a :: b :: c :: r, h =>
      have := encW_len n r (by simp at h; omega)
      simp [encW, enc4]
      omega
/-! -/
theorem ofBs_gel {s : Bs} {i : Nat} (h : i < s.length) : (ofBs s)[i]'(by rw [ofBs_length]; exact h) = (s[i].toNat : Int) := by simp [ofBs]
def low1 (c : UInt8) : UInt8 := UInt8.ofNat (lowI (c.toNat : Int)).toNat
theorem lowerB_map (s : Bs) : lowerB s = s.map low1 := by simp [lowerB, toBs, ofBs, low1, Function.comp_def]
def findB : Bs → Bs → Option Nat
  | [], e => if e.isEmpty then some 0 else none
  | c :: r, e => if e.isPrefixOf (c :: r) then some 0 else (findB r e).map (· + 1)
theorem findB_index : ∀ (l e : Bs), Lib.index l e = match findB l e with | some k => (k : Int) | none => -1
  | [], e => by unfold Lib.index findB; split <;> rfl
  | c :: r, e => by
    unfold Lib.index findB
    split
    · rfl
    · rw [findB_index r e]
      cases findB r e with
      | none => rfl
      | some k =>
        have : ((k : Int) == -1) = false := by simp
        simp only [this, Option.map_some]
        simp
theorem findB_some : ∀ (l e : Bs) (k : Nat), findB l e = some k → k + e.length ≤ l.length ∧ (l.drop k).take e.length = e
  | [], e, k, h => by
    unfold findB at h
    split at h
    · rename_i he
      cases h
      have : e = [] := by simpa using he
      subst this
      simp
    · cases h
  | c :: r, e, k, h => by
    unfold findB at h
    split at h
    · rename_i hp
      cases h
      have := List.isPrefixOf_iff_prefix.1 hp
      refine ⟨by simpa using this.length_le, ?_⟩
      rw [List.drop_zero]
      exact (List.prefix_iff_eq_take.1 this).symm
    · cases hr : findB r e with
      | none => rw [hr] at h; cases h
      | some j =>
        rw [hr] at h
        cases h
        have := findB_some r e j hr
        simp only [List.length_cons, List.drop_succ_cons]
        exact ⟨by omega, this.2⟩
theorem Cut_eq (V : Ev) (l e : Bs) (hl : l.length ≤ 100000) : strings_Cut_ V ((l, (e, ())), ()) = some ((match findB l e with | some k => (l.take k, (l.drop (k + e.length), (true, ()))) | none => (l, (([] : Bs), (false, ())))), ()) := by
  unfold strings_Cut_ istringslite_Cut_ istringslite_Index_ gIndex
  simp -implicitDefEqProofs only [show decide (l.length < 4294967281) = true from decide_eq_true (by omega), cond_true, Option.bind_some, findB_index l e]
  cases hf : findB l e with
  | none =>
    simp -implicitDefEqProofs only [show decide ((-1 : Int) ≥ 0) = false from rfl, cond_false, Option.bind_some]
  | some k =>
    obtain ⟨h1, h2⟩ := findB_some l e k hf
    have w : IntKind.wrap .i64 ((k : Int) + (e.length : Int)) = ((k + e.length : Nat) : Int) := by rw [wrap64 (by omega) (by omega)]; omega
    have s1 : sl l (0 : Int) (k : Int) = some (l.take k) := by have := sl_nat (l := l) (a := 0) (b := k) (by omega) (by omega); simpa using this
    have s2 : sl l ((k + e.length : Nat) : Int) (l.length : Int) = some (l.drop (k + e.length)) := sl_end h1
    simp -implicitDefEqProofs only [show decide ((k : Int) ≥ 0) = true from decide_eq_true (by omega), cond_true, w, s1, s2, Option.bind_some]
theorem dropWhile_head {p : UInt8 → Bool} : ∀ (l : Bs) (c : UInt8) (z : Bs), l.dropWhile p = c :: z → p c = false
  | [], c, z, h => by cases h
  | d :: l, c, z, h => by
    rw [List.dropWhile_cons] at h
    split at h
    · exact dropWhile_head l c z h
    · rename_i hd
      cases h
      simpa using hd
theorem HP_eq (V : Ev) (s p : Bs) (hs : s.length ≤ 1000000) (hp : p.length ≤ 1000) : strings_HasPrefix_ V ((s, (p, ())), ()) = some ((s.take p.length == p, ()), ()) := by
  unfold strings_HasPrefix_ istringslite_HasPrefix_
  by_cases h : p.length ≤ s.length
  · have c0 : (decide ((s.length : Int) ≥ (p.length : Int)) == true) = true := by rw [decide_eq_true (by omega)]; rfl
    have := sl_nat (l := s) (a := 0) (b := p.length) (by omega) h
    rw [List.drop_zero] at this
    simp -implicitDefEqProofs only [c0, cond_true, show (0 : Int) = ((0 : Nat) : Int) from rfl, this, Option.bind_some]
  · have c0 : (decide ((s.length : Int) ≥ (p.length : Int)) == true) = false := by rw [decide_eq_false (by omega)]; rfl
    have hne : (s.take p.length == p) = false := by
      rw [beq_eq_false_iff_ne]
      intro e
      have := congrArg List.length e
      simp at this
      omega
    simp -implicitDefEqProofs only [c0, cond_false, Option.bind_some, hne]
theorem CP_eq (V : Ev) (s p : Bs) (hs : s.length ≤ 1000000) (hp : p.length ≤ 1000) : strings_CutPrefix_ V ((s, (p, ())), ()) = some ((bif s.take p.length == p then (s.drop p.length, (true, ())) else (s, (false, ())), ()) : (Bs × Bool × Unit) × Unit) := by
  have q := HP_eq V s p hs hp
  unfold strings_HasPrefix_ at q
  unfold strings_CutPrefix_ istringslite_CutPrefix_
  cases hq : istringslite_HasPrefix_ V ((s, (p, ())), ()) with
  | none => simp only [hq] at q; cases q
  | some r =>
    simp only [hq, Option.bind_some, Option.some.injEq, Prod.mk.injEq, and_true] at q
    simp -implicitDefEqProofs only [Option.bind_some, q]
    cases hc : (s.take p.length == p) with
    | false => rfl
    | true =>
      have hl : p.length ≤ s.length := by
        have := congrArg List.length (beq_iff_eq.1 hc)
        simp at this
        omega
      have := sl_end (l := s) (a := p.length) hl
      simp -implicitDefEqProofs only [Bool.not_true, cond_false, cond_true, this, Option.bind_some]
/-! -/
def digC (c : UInt8) : Bool := decide (48 ≤ c.toNat) && decide (c.toNat ≤ 57)
def allDig (s : Bs) : Bool := s.all digC
def digV (s : Bs) : Nat := s.foldl (fun n c => n * 10 + (c.toNat - 48)) 0
theorem digs_contains (c : UInt8) : ([48, 49, 50, 51, 52, 53, 54, 55, 56, 57] : Bs).contains c = digC c := by
  have := fa_byte (P := fun c => ([48, 49, 50, 51, 52, 53, 54, 55, 56, 57] : Bs).contains c == digC c) (by kernel_rfl) c
  exact beq_iff_eq.1 this
theorem dw_nil {p : UInt8 → Bool} {l : Bs} : l.dropWhile p = [] ↔ ∀ x ∈ l, p x = true := by
  induction l with
  | nil => simp
  | cons a l ih =>
    rw [List.dropWhile_cons]
    cases ha : p a with
    | true => simp [ha, ih]
    | false => simp [ha]
theorem trimS_nil (s cs : Bs) : (Lib.trimS s cs == ([] : Bs)) = s.all (cs.contains ·) := by
  rw [Bool.eq_iff_iff, beq_iff_eq, List.all_eq_true]
  unfold Lib.trimS Lib.trimLeftS Lib.trimRightS
  constructor
  · intro h
    rw [dw_nil] at h
    cases hd : s.reverse.dropWhile (cs.contains ·) with
    | nil =>
      rw [dw_nil] at hd
      exact fun x hx => hd x (List.mem_reverse.2 hx)
    | cons c z =>
      have h1 := dropWhile_head _ c z hd
      have h2 := h c (by rw [hd]; simp)
      rw [h1] at h2
      cases h2
  · intro h
    have : s.reverse.dropWhile (cs.contains ·) = [] := dw_nil.2 (fun x hx => h x (List.mem_reverse.1 hx))
    rw [this]
    rfl
theorem trim_dig (V : Ev) (s : Bs) : ∃ x, strings_Trim_ V ((s, (([48, 49, 50, 51, 52, 53, 54, 55, 56, 57] : Bs), ())), ()) = some ((x, ()), ()) ∧ (x == ([] : Bs)) = allDig s := by
  refine ⟨Lib.trimS s [48, 49, 50, 51, 52, 53, 54, 55, 56, 57], rfl, ?_⟩
  rw [trimS_nil]
  unfold allDig
  congr 1
  funext c
  exact digs_contains c
theorem digV_snoc (l : Bs) (c : UInt8) : digV (l ++ [c]) = digV l * 10 + (c.toNat - 48) := by
  unfold digV
  rw [List.foldl_append]
  rfl
theorem digV_lt (s : Bs) (h : allDig s = true) : digV s < 10 ^ s.length := by
  rcases snoc_cases s with rfl | ⟨l, c, rfl⟩
  · decide
  · unfold allDig at h
    rw [List.all_append, Bool.and_eq_true] at h
    have ih := digV_lt l h.1
    have hc := h.2
    simp only [List.all_cons, List.all_nil, Bool.and_true, digC, Bool.and_eq_true, decide_eq_true_eq] at hc
    rw [digV_snoc, List.length_append, List.length_singleton, Nat.pow_succ]
    omega
termination_by s.length
decreasing_by all_goals (subst_vars; simp)
theorem Atoi_eq (N : Nat) (s : Bs) (h0 : s ≠ []) (h5 : s.length ≤ 5) (hd : allDig s = true) (hN : 10 < N) : strconv_Atoi_ (Ev.upto N) ((s, ()), ()) = some ((((digV s : Nat) : Int), (false, ())), ()) := by
  have dig : ∀ (i : Nat) (h : i < s.length), 48 ≤ s[i].toNat ∧ s[i].toNat ≤ 57 := fun i h => by
    have := List.all_eq_true.1 hd s[i] (List.getElem_mem h)
    simpa [digC] using this
  have hl : 0 < s.length := List.length_pos_iff.2 h0
  have d0 := dig 0 hl
  have i0 : idx s (0 : Int) = some s[0] := idx_nat (i := 0) hl
  have e45 : (((s[0].toNat : Nat) : Int) == 45) = false := by rw [beq_eq_false_iff_ne]; omega
  have e43 : (((s[0].toNat : Nat) : Int) == 43) = false := by rw [beq_eq_false_iff_ne]; omega
  have key : wp (istrconv_Atoi_ (Ev.upto N) ((s, ()), ())) (fun r => r = ((((digV s : Nat) : Int), ((none : Option Int), ())), ())) := by
    unfold istrconv_Atoi_
    have c1 : decide ((0 : Int) < (s.length : Int)) = true := decide_eq_true (by omega)
    have c2 : decide ((s.length : Int) < (19 : Int)) = true := decide_eq_true (by omega)
    simp -implicitDefEqProofs only [c1, c2, beq_self_eq_true, cond_true, cond_false, Option.bind_some, i0, e45, e43]
    refine wp_bind ?_
    have hol : (ofBs s).length = s.length := ofBs_length s
    refine wp_for (σ := Unit) (fun i _ => ((s, (((digV (s.take i) : Nat) : Int), (((ofBs s).length : Int), ((i : Int), ())))), (ofBs s, ()))) (fun _ _ => True) s.length () rfl trivial (by omega) ?_
    rintro i _ hi _
    by_cases hi' : i < s.length
    · have c0 : decide ((i : Int) < ((ofBs s).length : Int)) = true := decide_eq_true (by omega)
      have c3 : (decide (0 ≤ (i : Int)) && decide ((i : Int) < ((ofBs s).length : Int))) = true := by rw [c0, decide_eq_true (by omega)]; rfl
      have g : (ofBs s)[((i : Int)).toNat]? = some ((s[i].toNat : Nat) : Int) := by
        rw [Int.toNat_natCast, List.getElem?_eq_getElem (by omega), ofBs_gel hi']
      have hdi := dig i hi'
      have w8 : IntKind.wrap .u8 (((s[i].toNat : Nat) : Int) - 48) = ((s[i].toNat - 48 : Nat) : Int) := by rw [wrapu8 (by omega) (by omega)]; omega
      have c9 : decide (((s[i].toNat - 48 : Nat) : Int) > 9) = false := decide_eq_false (by omega)
      have hlt : digV (s.take i) < 100000 := by
        have ha : allDig (s.take i) = true := List.all_eq_true.2 (fun x hx => List.all_eq_true.1 hd x (List.mem_of_mem_take hx))
        have := digV_lt _ ha
        have h2 : (s.take i).length ≤ 5 := by simp; omega
        have h3 : 10 ^ (s.take i).length ≤ 10 ^ 5 := Nat.pow_le_pow_right (by decide) h2
        omega
      have w1 : IntKind.wrap .i64 (((digV (s.take i) : Nat) : Int) * 10) = ((digV (s.take i) * 10 : Nat) : Int) := by rw [wrap64 (by omega) (by omega)]; omega
      have w2 : IntKind.wrap .i64 ((s[i].toNat - 48 : Nat) : Int) = ((s[i].toNat - 48 : Nat) : Int) := wrap64 (by omega) (by omega)
      have w3 : IntKind.wrap .i64 (((digV (s.take i) * 10 : Nat) : Int) + ((s[i].toNat - 48 : Nat) : Int)) = ((digV (s.take (i + 1)) : Nat) : Int) := by
        rw [List.take_succ_eq_append_getElem hi', digV_snoc, wrap64 (by omega) (by omega)]; omega
      have w4 : IntKind.wrap .i64 ((i : Int) + 1) = ((i + 1 : Nat) : Int) := by rw [wrap64 (by omega) (by omega)]; omega
      simp -implicitDefEqProofs only [c0, c3, cond_true, cond_false, g, Option.bind_some, w8, c9, w1, w2, w3, w4]
      exact ⟨_, rfl, hi', (), rfl, trivial⟩
    · have c0 : decide ((i : Int) < ((ofBs s).length : Int)) = false := decide_eq_false (by omega)
      simp -implicitDefEqProofs only [c0, cond_false]
      refine ⟨_, rfl, ?_⟩
      have ht : s.take i = s := List.take_of_length_le (by omega)
      simp -implicitDefEqProofs only [i0, Option.bind_some, e45, cond_false, ht]
      exact ⟨_, rfl, rfl⟩
  unfold strconv_Atoi_
  obtain ⟨_, e, rfl⟩ := key
  simp -implicitDefEqProofs only []
  rw [e]
  rfl
def portS (n : Bs) : Option Int := if n = [42] then some (-1) else if n ≠ [] ∧ n.length ≤ 5 ∧ allDig n = true ∧ 0 < digV n then some ((digV n : Nat) : Int) else none
abbrev Cut := Src × Bs
def withP (c : Cut) (p : Int) : Cut := ((c.1.1, (c.1.2.1, (c.1.2.2.1, (c.1.2.2.2.1, (c.1.2.2.2.2.1, (p, c.1.2.2.2.2.2.2)))))), c.2)
theorem port_eq (N : Nat) (n : Bs) (c : Cut) (hN : 10 < N) : wp (source_cutter_port_456 (Ev.upto N) ((n, ()), ((c, ()), ()))) (fun o => ∃ b c', o = ((b, ()), ((c', ()), ())) ∧ match portS n with | some p => b = true ∧ c' = withP c p | none => b = false) := by
  unfold source_cutter_port_456 portS
  by_cases h42 : n = [42]
  · subst h42
    exact ⟨_, rfl, true, _, rfl, by rw [if_pos rfl]; exact ⟨rfl, rfl⟩⟩
  · have c42 : (n == ([42] : Bs)) = false := by simpa using h42
    obtain ⟨x, qx, hx⟩ := trim_dig (Ev.upto N) n
    rw [if_neg h42]
    simp -implicitDefEqProofs only [c42, cond_false]
    by_cases h0 : n = []
    · subst h0
      exact ⟨_, rfl, false, c, rfl, by rw [if_neg (by simp)]⟩
    · have c0 : (n == ([] : Bs)) = false := by simpa using h0
      by_cases h5 : (n.length : Int) > 5
      · rw [c0, decide_eq_true h5]
        exact ⟨_, rfl, false, c, rfl, by rw [if_neg (by omega)]⟩
      · rw [c0, decide_eq_false h5]
        simp -implicitDefEqProofs only [beq_self_eq_true, cond_true, qx, Option.bind_some, hx]
        cases hd : allDig n with
        | false =>
          simp -implicitDefEqProofs only [Bool.not_false, cond_true]
          exact ⟨_, rfl, false, c, rfl, by rw [if_neg (by simp)]⟩
        | true =>
          have qa := Atoi_eq N n h0 (by omega) hd hN
          simp -implicitDefEqProofs only [Bool.not_true, cond_false, qa, Option.bind_some]
          by_cases hp : 0 < digV n
          · have e : decide (((digV n : Nat) : Int) > 0) = true := decide_eq_true (by omega)
            rw [if_pos ⟨h0, by omega, by trivial, hp⟩]
            exact ⟨_, rfl, true, withP c ((digV n : Nat) : Int), by rw [e]; rfl, rfl, rfl⟩
          · have e : decide (((digV n : Nat) : Int) > 0) = false := decide_eq_false (by omega)
            rw [if_neg (by omega)]
            exact ⟨_, rfl, false, withP c ((digV n : Nat) : Int), by rw [e]; rfl, rfl⟩
/-! -/
def notSl (c : UInt8) : Bool := !(c == 47)
def schR (w : Bs) : Option (Bs × Bs) := match findB w [58, 47, 47] with
  | some k => if k = 0 then none else some (lowerB (w.take k), w.drop (k + 3))
  | none => some ([], w)
def numR (f : Bs) : Bs × Option Int := match findB f [58] with
  | some k => (f.take k, portS (f.drop (k + 1)))
  | none => (f, some 0)
def starR (n : Bs) : Option (Bool × Bs) :=
  if n = [42] then some (true, []) else if (lowerB n).take 2 = [42, 46] then (if (lowerB n).drop 2 = [] then none else some (true, (lowerB n).drop 2)) else some (false, lowerB n)
def hostR (sc r : Bs) : Option Src := match (numR (r.takeWhile notSl)).2 with
  | none => none
  | some p => match starR (numR (r.takeWhile notSl)).1 with
    | none => none
    | some x => some (12, (([] : Bs), (sc, (x.2, (x.1, (p, r.dropWhile notSl))))))
def hostP (w : Bs) : Option Src := match schR w with
  | none => none
  | some x => hostR x.1 x.2
def zS : Src := ((0 : Int), (([] : Bs), (([] : Bs), (([] : Bs), (false, ((0 : Int), ([] : Bs)))))))
theorem split47 (r : Bs) : (Lib.indexByte r 47 < 0 ∧ r.takeWhile notSl = r ∧ r.dropWhile notSl = []) ∨ ∃ x y, r = x ++ 47 :: y ∧ Lib.indexByte r 47 = (x.length : Int) ∧ r.takeWhile notSl = x ∧ r.dropWhile notSl = 47 :: y := by
  by_cases h : (47 : UInt8) ∈ r
  · obtain ⟨x, y, e, hx, hi⟩ := indexByte_split r 47 h
    right
    have ha : ∀ c ∈ x, notSl c = true := fun c hc => by
      unfold notSl
      have : ¬ c = 47 := fun e => hx (e ▸ hc)
      simpa using this
    refine ⟨x, y, e, hi, ?_, ?_⟩
    · rw [e, List.takeWhile_append_of_pos ha, List.takeWhile_cons, if_neg (by decide), List.append_nil]
    · rw [e, List.dropWhile_append_of_pos ha, List.dropWhile_cons, if_neg (by decide)]
  · left
    have ha : ∀ c ∈ r, notSl c = true := fun c hc => by
      unfold notSl
      have : ¬ c = 47 := fun e => h (e ▸ hc)
      simpa using this
    have := (indexByte_neg r 47).2 h
    refine ⟨this, ?_, dw_nil.2 ha⟩
    have e := List.takeWhile_append_of_pos (l₂ := []) ha
    simpa using e
theorem host_tail (N : Nat) (sc r : Bs) (R : Src × Bs) (hR : R = (((12 : Int), (([] : Bs), (sc, (([] : Bs), (false, ((0 : Int), ([] : Bs))))))), r)) (hr : r.length ≤ 1000) (hN : 2000 < N) :
    wp ((strings_IndexByte_ (Ev.upto N) ((R.2, ((47 : Int), ())), ())).bind fun v6 => ((bif decide (v6.1.1 ≥ (0 : Int)) then ((sl R.2 (0 : Int) v6.1.1).bind fun v7 => ((sl R.2 v6.1.1 ((R.2).length : Int)).bind fun v8 => (some ((), ((((R.1.1, (R.1.2.1, (R.1.2.2.1, (R.1.2.2.2.1, (R.1.2.2.2.2.1, (R.1.2.2.2.2.2.1, v8)))))), v7), ()), ()))))) else (some ((), ((R, ()), ()))) : Option (Unit × ((Cut × Unit) × Unit))).bind fun o9 => ((strings_Cut_ (Ev.upto N) ((o9.2.1.1.2, (([58] : Bs), ())), ())).bind fun v10 => ((bif (v10.1.2.2.1 == true) then ((source_cutter_port_456 (Ev.upto N) ((v10.1.2.1, ()), ((o9.2.1.1, ()), ()))).bind fun v11 => (some ((v10.1.1, ((!v11.1.1), ())), ((v11.2.1.1, ()), ())))) else (some ((v10.1.1, (false, ())), ((o9.2.1.1, ()), ()))) : Option ((Bs × Bool × Unit) × ((Cut × Unit) × Unit))).bind fun o12 => (bif o12.1.2.1 then (some ((false, ()), ((o12.2.1.1, ()), ()))) else ((fold_Lower_ (Ev.upto N) ((o12.1.1, ()), ())).bind fun v13 => ((bif (o12.1.1 == ([42] : Bs)) then (some ((), ((((o12.2.1.1.1.1, (o12.2.1.1.1.2.1, (o12.2.1.1.1.2.2.1, (([] : Bs), (true, o12.2.1.1.1.2.2.2.2.2))))), o12.2.1.1.2), ()), ()))) else (some ((), ((((o12.2.1.1.1.1, (o12.2.1.1.1.2.1, (o12.2.1.1.1.2.2.1, (v13.1.1, o12.2.1.1.1.2.2.2.2)))), o12.2.1.1.2), ()), ()))) : Option (Unit × ((Cut × Unit) × Unit))).bind fun o14 => ((strings_CutPrefix_ (Ev.upto N) ((o14.2.1.1.1.2.2.2.1, (([42, 46] : Bs), ())), ())).bind fun v15 => (bif v15.1.2.1 then (some (((!(v15.1.1 == ([] : Bs))), ()), ((((o14.2.1.1.1.1, (o14.2.1.1.1.2.1, (o14.2.1.1.1.2.2.1, (v15.1.1, (true, o14.2.1.1.1.2.2.2.2.2))))), o14.2.1.1.2), ()), ()))) else (some ((true, ()), ((o14.2.1.1, ()), ()))) : Option ((Bool × Unit) × ((Cut × Unit) × Unit)))))))))))
      (fun o => ∃ b c', o = ((b, ()), (((c' : Cut), ()), ())) ∧ match hostR sc r with | some s => b = true ∧ c'.1 = s | none => b = false) := by
  subst hR
  have qi := IB_eq (Ev.upto N) r 47
  rw [show (((47 : UInt8).toNat : Nat) : Int) = 47 from rfl] at qi
  simp -implicitDefEqProofs only [qi, Option.bind_some]
  generalize hf : r.takeWhile notSl = f at *
  generalize hp : r.dropWhile notSl = pa at *
  have first : wp (bif decide (Lib.indexByte r 47 ≥ (0 : Int)) then ((sl r (0 : Int) (Lib.indexByte r 47)).bind fun v7 => ((sl r (Lib.indexByte r 47) ((r).length : Int)).bind fun v8 => (some ((), (((((12 : Int), (([] : Bs), (sc, (([] : Bs), (false, ((0 : Int), v8)))))), v7), ()), ()))))) else (some ((), (((((12 : Int), (([] : Bs), (sc, (([] : Bs), (false, ((0 : Int), ([] : Bs))))))), r), ()), ()))) : Option (Unit × ((Cut × Unit) × Unit))) (fun o => o = ((), (((((12 : Int), (([] : Bs), (sc, (([] : Bs), (false, ((0 : Int), pa)))))), f), ()), ()))) ∧ f.length ≤ 1000 := by
    rcases split47 r with ⟨h1, h2, h3⟩ | ⟨x, y, e, h1, h2, h3⟩
    · rw [decide_eq_false (by omega)]
      rw [hf] at h2; rw [hp] at h3; subst h2; subst h3
      exact ⟨⟨_, rfl, rfl⟩, hr⟩
    · rw [h1, decide_eq_true (by omega)]
      rw [hf] at h2; rw [hp] at h3
      have s1 : sl r (0 : Int) (x.length : Int) = some x := by
        have := sl_nat (l := r) (a := 0) (b := x.length) (by omega) (by rw [e]; simp)
        rw [List.drop_zero] at this
        rw [show (0 : Int) = ((0 : Nat) : Int) from rfl, this, e, List.take_left]
      have s2 : sl r (x.length : Int) (r.length : Int) = some (47 :: y) := by
        rw [sl_end (by rw [e]; simp)]
        conv => lhs; rw [e]
        rw [List.drop_left]
      refine ⟨?_, by have h9 := congrArg List.length e; rw [List.length_append, List.length_cons] at h9; rw [h2]; omega⟩
      simp -implicitDefEqProofs only [cond_true, s1, s2, Option.bind_some, h2, h3]
      exact ⟨_, rfl, rfl⟩
  obtain ⟨⟨_, e1, rfl⟩, hfl⟩ := first
  rw [e1]
  have qc := Cut_eq (Ev.upto N) f [58] (by omega)
  simp -implicitDefEqProofs only [qc, Option.bind_some]
  unfold hostR
  rw [hf, hp]

  have fin : ∀ (name : Bs) (p : Int), name.length ≤ 1000 → wp ((fold_Lower_ (Ev.upto N) ((name, ()), ())).bind fun v13 => ((bif (name == ([42] : Bs)) then (some ((), (((((12 : Int), (([] : Bs), (sc, (([] : Bs), (true, (p, pa)))))), f), ()), ()))) else (some ((), (((((12 : Int), (([] : Bs), (sc, (v13.1.1, (false, (p, pa)))))), f), ()), ()))) : Option (Unit × ((Cut × Unit) × Unit))).bind fun o14 => ((strings_CutPrefix_ (Ev.upto N) ((o14.2.1.1.1.2.2.2.1, (([42, 46] : Bs), ())), ())).bind fun v15 => (bif v15.1.2.1 then (some (((!(v15.1.1 == ([] : Bs))), ()), ((((o14.2.1.1.1.1, (o14.2.1.1.1.2.1, (o14.2.1.1.1.2.2.1, (v15.1.1, (true, o14.2.1.1.1.2.2.2.2.2))))), o14.2.1.1.2), ()), ()))) else (some ((true, ()), ((o14.2.1.1, ()), ()))) : Option ((Bool × Unit) × ((Cut × Unit) × Unit))))))
      (fun o => ∃ b c', o = ((b, ()), (((c' : Cut), ()), ())) ∧ match (match starR name with | none => none | some x => some ((12 : Int), (([] : Bs), (sc, (x.2, (x.1, (p, pa)))))) : Option Src) with | some s => b = true ∧ c'.1 = s | none => b = false) := by
    intro name p hn
    have ql := lower_eq N name (by omega) (by omega)
    simp -implicitDefEqProofs only [ql, Option.bind_some]
    unfold starR
    by_cases h42 : name = [42]
    · subst h42
      have qp := CP_eq (Ev.upto N) ([] : Bs) [42, 46] (by simp) (by simp)
      rw [if_pos rfl]
      simp -implicitDefEqProofs only [beq_self_eq_true, cond_true, Option.bind_some, qp]
      exact ⟨_, rfl, true, _, rfl, rfl, rfl⟩
    · have c42 : (name == ([42] : Bs)) = false := by simpa using h42
      have qp := CP_eq (Ev.upto N) (lowerB name) [42, 46] (by rw [lowerB_length]; omega) (by simp)
      rw [if_neg h42]
      simp -implicitDefEqProofs only [c42, cond_false, Option.bind_some, qp]
      rw [show ([42, 46] : Bs).length = 2 from rfl]
      by_cases h2 : (lowerB name).take 2 = [42, 46]
      · rw [if_pos h2, show ((lowerB name).take 2 == ([42, 46] : Bs)) = true from by simpa using h2]
        by_cases h3 : (lowerB name).drop 2 = []
        · rw [if_pos h3, h3]
          exact ⟨_, rfl, false, _, rfl, rfl⟩
        · rw [if_neg h3]
          refine ⟨_, rfl, _, _, rfl, ?_⟩
          have : ((lowerB name).drop 2 == ([] : Bs)) = false := by simpa using h3
          exact ⟨by simp only [cond_true, this]; rfl, rfl⟩
      · rw [if_neg h2, show ((lowerB name).take 2 == ([42, 46] : Bs)) = false from by simpa using h2]
        exact ⟨_, rfl, true, _, rfl, rfl, rfl⟩
  unfold numR
  cases hc : findB f [58] with
  | none =>
    simp -implicitDefEqProofs only [show (false == true) = false from rfl, cond_false, Option.bind_some]
    exact fin f 0 hfl
  | some k =>
    simp -implicitDefEqProofs only [beq_self_eq_true, cond_true]
    rw [show ([58] : Bs).length = 1 from rfl]
    obtain ⟨o, e, b, c', rfl, hb⟩ := port_eq N (f.drop (k + 1)) (((12 : Int), (([] : Bs), (sc, (([] : Bs), (false, ((0 : Int), pa)))))), f) (by omega)
    rw [e]
    simp -implicitDefEqProofs only [Option.bind_some]
    cases hps : portS (f.drop (k + 1)) with
    | none =>
      rw [hps] at hb
      have hb : b = false := hb
      subst hb
      exact ⟨_, rfl, false, _, rfl, rfl⟩
    | some p =>
      rw [hps] at hb
      obtain ⟨rfl, rfl⟩ := hb
      simp -implicitDefEqProofs only [Bool.not_true, cond_false]
      exact fin (f.take k) p (by simp; omega)
theorem host_word (N : Nat) (w : Bs) (hw : w.length ≤ 1000) (hN : 2000 < N) : wp (source_cutter_host_2b7 (Ev.upto N) ((), (((zS, w), ()), ()))) (fun o => ∃ b c', o = ((b, ()), (((c' : Cut), ()), ())) ∧ match hostP w with | some s => b = true ∧ c'.1 = s | none => b = false) := by
  unfold source_cutter_host_2b7 hostP schR
  have qc := Cut_eq (Ev.upto N) w [58, 47, 47] (by omega)
  simp -implicitDefEqProofs only [qc, Option.bind_some]
  cases hf : findB w [58, 47, 47] with
  | none =>
    simp -implicitDefEqProofs only [cond_false, Option.bind_some]
    exact host_tail N [] w _ rfl hw hN
  | some k =>
    have hk := (findB_some _ _ _ hf).1
    have ql := lower_eq N (w.take k) (by simp; omega) (by simp; omega)
    simp -implicitDefEqProofs only [cond_true, ql, Option.bind_some]
    rw [show ([58, 47, 47] : Bs).length = 3 from rfl]
    by_cases h0 : k = 0
    · subst h0
      rw [if_pos rfl]
      exact ⟨_, rfl, false, _, rfl, rfl⟩
    · have hne : (w.take k == ([] : Bs)) = false := by
        cases w with
        | nil => simp at hk
        | cons c r =>
          cases k with
          | zero => exact absurd rfl h0
          | succ k => rfl
      rw [if_neg h0, hne]
      simp -implicitDefEqProofs only [cond_false, Option.bind_some]
      exact host_tail N (lowerB (w.take k)) (w.drop (k + 3)) _ rfl (by simp; omega) hN
/-! -/
noncomputable def valN (c : UInt8) : Nat := (valB c).toNat
theorem valB_lt (c : UInt8) : valB c < 64 := by
  have := fa_byte (P := fun c => decide (valB c < 64)) (by kernel_rfl) c
  exact of_decide_eq_true this
theorem valN_eq (c : UInt8) (h : noV c = false) : valB c = ((valN c : Nat) : Int) ∧ valN c < 64 := by
  unfold noV at h
  have h0 := of_decide_eq_false h
  have := valB_lt c
  unfold valN
  omega
noncomputable def decF : Bs → Nat → Nat → Bs × Nat
  | [], _, n => ([], n)
  | c :: r, bits, n => if 2 ≤ bits then (UInt8.ofNat ((n * 64 + valN c) / 2 ^ (bits - 2)) :: (decF r (bits - 2) ((n * 64 + valN c) % 2 ^ (bits - 2))).1, (decF r (bits - 2) ((n * 64 + valN c) % 2 ^ (bits - 2))).2) else decF r (bits + 6) (n * 64 + valN c)
theorem decF_len : ∀ (l : Bs) (b n : Nat), (decF l b n).1.length ≤ l.length
  | [], _, _ => Nat.le_refl _
  | c :: r, b, n => by
    unfold decF
    split
    · have := decF_len r (b - 2) ((n * 64 + valN c) % 2 ^ (b - 2))
      simp only [List.length_cons]
      omega
    · have := decF_len r (b + 6) (n * 64 + valN c)
      simp only [List.length_cons]
      omega
noncomputable def decNo (s : Bs) : Bool := !formB s || ((headB s).length % 4 == 1 || (!(headB s == s) && s.length % 4 != 0))
noncomputable def decW (s : Bs) : Bs := if s = [] then [] else if decNo s = true then [] else if (decF (headB s) 0 0).2 = 0 then (decF (headB s) 0 0).1 else []
theorem or6 (x c : Nat) (hx : x < 1000000) (hc : c < 64) : IntKind.wrap .i64 ((BitVec.toNat (BitVec.ofInt 64 (IntKind.wrap .i64 ((x : Int) * 2 ^ (min (Int.toNat (6 : Int)) 64))) ||| BitVec.ofInt 64 ((c : Nat) : Int)) : Nat) : Int) = ((x * 64 + c : Nat) : Int) := by
  have e : (x : Int) * 2 ^ (min (Int.toNat (6 : Int)) 64) = ((x * 64 : Nat) : Int) := by
    rw [show min (Int.toNat (6 : Int)) 64 = 6 from rfl]; omega
  rw [e, wrap64 (n := ((x * 64 : Nat) : Int)) (by omega) (by omega), BitVec.ofInt_natCast, BitVec.ofInt_natCast, BitVec.toNat_or, BitVec.toNat_ofNat, BitVec.toNat_ofNat, Nat.mod_eq_of_lt (by omega), Nat.mod_eq_of_lt (by omega)]
  have h8 := Nat.shiftLeft_add_eq_or_of_lt (i := 6) (b := c) hc x
  rw [Nat.shiftLeft_eq] at h8
  rw [show x * 64 = x * 2 ^ 6 from rfl, ← h8]
  exact wrap64 (by omega) (by omega)
theorem andK (m k : Nat) (hm : m < 1000000) (hk : k ≤ 6) : IntKind.wrap .i64 ((BitVec.toNat (BitVec.ofInt 64 (m : Int) &&& BitVec.ofInt 64 (((2 ^ k - 1 : Nat) : Nat) : Int)) : Nat) : Int) = ((m % 2 ^ k : Nat) : Int) := by
  have h2 : 2 ^ k ≤ 2 ^ 6 := Nat.pow_le_pow_right (by decide) hk
  rw [BitVec.ofInt_natCast, BitVec.ofInt_natCast, BitVec.toNat_and, BitVec.toNat_ofNat, BitVec.toNat_ofNat, Nat.mod_eq_of_lt (show m < 2 ^ 64 by omega), Nat.mod_eq_of_lt (show 2 ^ k - 1 < 2 ^ 64 by omega), Nat.and_two_pow_sub_one_eq_mod]
  have := Nat.mod_le m (2 ^ k)
  exact wrap64 (by omega) (by omega)
theorem Decode_eq (N : Nat) (s : Bs) (hs : s.length ≤ 1000) (hN : 2000 < N) : wp (base_Decode_ (Ev.upto N) ((s, ()), ())) (fun o => ∃ b, o = ((decW s, (b, ())), ())) := by
  have qh := head_eq (Ev.upto N) s (by omega)
  have qf := form_eq N s (by omega) (by omega)
  have hh := headB_len s
  unfold base_Decode_
  simp -implicitDefEqProofs only [qh, Option.bind_some]
  by_cases h0 : s = []
  · subst h0
    exact ⟨_, rfl, true, by unfold decW; rw [if_pos rfl]⟩
  · have c0 : (s == ([] : Bs)) = false := by simpa using h0
    simp -implicitDefEqProofs only [c0, cond_false]
    have tm : ∀ n : Nat, Int.tmod ((n : Nat) : Int) (4 : Int) = ((n % 4 : Nat) : Int) := fun n => rfl
    have rg : ∀ n : Nat, rngB .i64 ((n % 4 : Nat) : Int) = true := fun n => by
      have : n % 4 < 4 := Nat.mod_lt _ (by decide)
      simp [rngB, IntKind.min, IntKind.max, IntKind.signed, IntKind.bits]; omega
    have ze : ∀ n k : Nat, (((n : Nat) : Int) == ((k : Nat) : Int)) = (n == k) := fun n k => by
      rw [Bool.eq_iff_iff, beq_iff_eq, beq_iff_eq]; omega
    have g : wp ((base_Form_ (Ev.upto N) ((s, ()), ())).bind fun v2 => (bif ((!v2.1.1) == false) then (bif ((4 : Int) != 0 && rngB .i64 (Int.tmod ((headB s).length : Int) (4 : Int))) then (bif (((Int.tmod ((headB s).length : Int) (4 : Int)) == (1 : Int)) == false) then (bif ((!(headB s == s)) == true) then (bif ((4 : Int) != 0 && rngB .i64 (Int.tmod ((s).length : Int) (4 : Int))) then (some ((headB s, (((Int.tmod ((s).length : Int) (4 : Int)) != (0 : Int)), ())), ())) else none) else (some ((headB s, (false, ())), ()))) else (some ((headB s, (true, ())), ()))) else none) else (some ((headB s, (true, ())), ())) : Option ((Bs × Bool × Unit) × Unit))) (fun o => o = ((headB s, (decNo s, ())), ())) := by
      simp -implicitDefEqProofs only [qf, Option.bind_some, tm, rg, show ((4 : Int) != 0) = true from rfl, Bool.and_self, cond_true]
      unfold decNo
      have z1 := ze ((headB s).length % 4) 1
      have z0 := ze (s.length % 4) 0
      rw [show ((1 : Nat) : Int) = 1 from rfl] at z1
      rw [show ((0 : Nat) : Int) = 0 from rfl] at z0
      simp -implicitDefEqProofs only [bne, z1, z0]
      cases formB s <;> cases ((headB s).length % 4 == 1) <;> cases (headB s == s) <;> exact ⟨_, rfl, rfl⟩
    obtain ⟨_, e, rfl⟩ := g
    rw [e]
    simp -implicitDefEqProofs only [Option.bind_some]
    unfold decW
    rw [if_neg h0]
    cases hno : decNo s with
    | true => exact ⟨_, rfl, false, by rw [if_pos rfl]⟩
    | false =>
      rw [if_neg (by decide)]
      have hform : formB s = true := by
        unfold decNo at hno
        cases hf : formB s with
        | true => rfl
        | false => rw [hf] at hno; simp at hno
      have hv : ∀ c ∈ headB s, noV c = false := fun c hc => by
        unfold formB at hform
        have := List.all_eq_true.1 (Bool.and_eq_true _ _ ▸ hform : _ ∧ _).2 c hc
        simpa using this
      generalize headB s = h at *
      simp -implicitDefEqProofs only [cond_false]
      refine wp_bind ?_
      generalize hT : decF h 0 0 = T
      refine wp_for (σ := Nat × Nat × Bs) (fun i x => ((h, ((x.1 : Int), ((x.2.1 : Int), ((h.length : Int), ((i : Int), ()))))), (ofBs x.2.2, ()))) (fun i x => (x.1 = 0 ∨ x.1 = 2 ∨ x.1 = 4 ∨ x.1 = 6) ∧ x.2.1 < 2 ^ x.1 ∧ x.2.2.length ≤ i ∧ (x.2.2 ++ (decF (h.drop i) x.1 x.2.1).1, (decF (h.drop i) x.1 x.2.1).2) = T) h.length (0, 0, []) rfl ⟨Or.inl rfl, by decide, by simp, by rw [← hT]; simp⟩ (by omega) ?_
      rintro i ⟨bits, n, o⟩ hi ⟨hb, hn, hol, hdec⟩
      simp only at hb hn hol hdec
      by_cases hi' : i < h.length
      · have c1 : decide ((i : Int) < (h.length : Int)) = true := decide_eq_true (by omega)
        have w : IntKind.wrap .i64 ((i : Int) + 1) = ((i + 1 : Nat) : Int) := by rw [wrap64 (by omega) (by omega)]; omega
        obtain ⟨hve, hvl⟩ := valN_eq h[i] (hv _ (List.getElem_mem hi'))
        have qv := bvalue_eq (Ev.upto N) h[i]
        rw [hve] at qv
        have hn64 : n < 64 := by rcases hb with rfl | rfl | rfl | rfl <;> simp at hn <;> omega
        have o6 := or6 n (valN h[i]) (by omega) hvl
        have w6 : IntKind.wrap .i64 ((bits : Int) + 6) = ((bits + 6 : Nat) : Int) := by rw [wrap64 (by omega) (by omega)]; omega
        rw [List.drop_eq_getElem_cons hi', decF] at hdec
        simp -implicitDefEqProofs only [c1, cond_true, idx_nat hi', Option.bind_some, qv, w6, o6]
        generalize hm : n * 64 + valN h[i] = m at *
        have hm4 : m < 4096 := by omega
        by_cases h2 : 2 ≤ bits
        · rw [if_pos h2] at hdec
          have c8 : decide (((bits + 6 : Nat) : Int) ≥ (8 : Int)) = true := decide_eq_true (by omega)
          have w8 : IntKind.wrap .i64 (((bits + 6 : Nat) : Int) - 8) = ((bits - 2 : Nat) : Int) := by rw [wrap64 (by omega) (by omega)]; omega
          have hmin : min (Int.toNat ((bits - 2 : Nat) : Int)) 64 = bits - 2 := by rw [Int.toNat_natCast]; omega
          have d0 : decide ((0 : Int) ≤ ((bits - 2 : Nat) : Int)) = true := decide_eq_true (by omega)
          have hdiv : m / 2 ^ (bits - 2) < 256 := by
            rcases hb with rfl | rfl | rfl | rfl <;> simp at hn ⊢ <;> omega
          have rgm : rngB .i64 ((m / 2 ^ (bits - 2) : Nat) : Int) = true := by
            generalize m / 2 ^ (bits - 2) = z at *
            rw [rngB, Bool.and_eq_true, decide_eq_true_eq, decide_eq_true_eq, show IntKind.i64.min = -9223372036854775808 from rfl, show IntKind.i64.max = 9223372036854775807 from rfl]
            omega
          have wu : IntKind.wrap .u8 ((m / 2 ^ (bits - 2) : Nat) : Int) = ((m / 2 ^ (bits - 2) : Nat) : Int) := by
            generalize m / 2 ^ (bits - 2) = z at *
            exact wrapu8 (by omega) (by omega)
          have hp64 : 2 ^ (bits - 2) ≤ 16 := by rcases hb with rfl | rfl | rfl | rfl <;> simp
          have hp1 : 1 ≤ 2 ^ (bits - 2) := Nat.one_le_two_pow
          have wm : IntKind.wrap .i64 ((IntKind.wrap .i64 ((1 : Int) * 2 ^ (bits - 2))) - (1 : Int)) = ((2 ^ (bits - 2) - 1 : Nat) : Int) := by
            rw [show ((1 : Int) * 2 ^ (bits - 2)) = ((2 ^ (bits - 2) : Nat) : Int) by simp]
            generalize 2 ^ (bits - 2) = z at *
            rw [wrap64 (n := (z : Int)) (by omega) (by omega), wrap64 (by omega) (by omega)]; omega
          have ak := andK m (bits - 2) (by omega) (by omega)
          have hof : ofBs o ++ ([((m / 2 ^ (bits - 2) : Nat) : Int)] : List Int) = ofBs (o ++ [UInt8.ofNat (m / 2 ^ (bits - 2))]) := by
            rw [← ofBs_append]
            congr 1
            show _ = [(((UInt8.ofNat (m / 2 ^ (bits - 2))).toNat : Nat) : Int)]
            rw [UInt8.toNat_ofNat', Nat.mod_eq_of_lt (by omega)]
          have hf : fits ((ofBs o).length + ([((m / 2 ^ (bits - 2) : Nat) : Int)] : List Int).length) 1 = true := fits_of (by rw [ofBs_length]; simp; omega)
          simp -implicitDefEqProofs only [c8, cond_true, w8, d0, hmin, fdivL, rgm, Bool.and_self, wu, hf, wm, ak, hof, Option.bind_some, w]
          refine ⟨_, rfl, hi', (bits - 2, m % 2 ^ (bits - 2), o ++ [UInt8.ofNat (m / 2 ^ (bits - 2))]), rfl, ?_, Nat.mod_lt _ (by omega), by simp; omega, ?_⟩
          · show bits - 2 = 0 ∨ bits - 2 = 2 ∨ bits - 2 = 4 ∨ bits - 2 = 6
            omega
          · rw [← hdec]
            simp
        · rw [if_neg h2] at hdec
          have c8 : decide (((bits + 6 : Nat) : Int) ≥ (8 : Int)) = false := decide_eq_false (by omega)
          have hb0 : bits = 0 := by omega
          subst hb0
          simp -implicitDefEqProofs only [c8, cond_false, Option.bind_some, w]
          refine ⟨_, rfl, hi', (6, m, o), rfl, by simp, ?_, by simp; omega, hdec⟩
          have : n < 1 := hn
          show m < 64
          omega
      · have c1 : decide ((i : Int) < (h.length : Int)) = false := decide_eq_false (by omega)
        have hii : i = h.length := by omega
        subst hii
        rw [List.drop_length, decF, List.append_nil] at hdec
        simp -implicitDefEqProofs only [c1, cond_false]
        refine ⟨_, rfl, ?_⟩
        simp -implicitDefEqProofs only []
        rw [← hdec]
        by_cases hz : n = 0
        · subst hz
          rw [if_pos rfl]
          exact ⟨_, rfl, true, by simp only [toBs_ofBs]⟩
        · rw [if_neg hz]
          have : (((n : Nat) : Int) != 0) = true := by simp; omega
          rw [this]
          exact ⟨_, rfl, false, rfl⟩
/-! -/
def T9 : List Bs := [[], [39, 110, 111, 110, 101, 39], [39, 115, 101, 108, 102, 39], [39, 117, 110, 115, 97, 102, 101, 45, 105, 110, 108, 105, 110, 101, 39], [39, 117, 110, 115, 97, 102, 101, 45, 101, 118, 97, 108, 39], [39, 119, 97, 115, 109, 45, 117, 110, 115, 97, 102, 101, 45, 101, 118, 97, 108, 39], [39, 115, 116, 114, 105, 99, 116, 45, 100, 121, 110, 97, 109, 105, 99, 39], [39, 117, 110, 115, 97, 102, 101, 45, 104, 97, 115, 104, 101, 115, 39], [39, 114, 101, 112, 111, 114, 116, 45, 115, 97, 109, 112, 108, 101, 39]]
def kfold (low : Bs) : Nat → Int
  | 0 => 0
  | i + 1 => if ((T9[i]?).getD [] == low) = true then (i : Int) else kfold low i
noncomputable def quoS (w : Bs) : Src :=
  if (lowerB w).take 7 = [39, 110, 111, 110, 99, 101, 45] then (9, (w.dropLast.drop 7, zS.2.2)) else
  if (lowerB w).take 6 = [39, 109, 97, 114, 107, 45] then (10, (decW (w.dropLast.drop 6), zS.2.2)) else (kfold (lowerB w) 9, zS.2)
theorem decW_len (s : Bs) : (decW s).length ≤ s.length := by
  unfold decW
  have := decF_len (headB s) 0 0
  have := headB_len s
  split
  · simp
  · split
    · simp
    · split
      · omega
      · simp
theorem dropLast_sl {w : Bs} (h : w ≠ []) (hl : w.length ≤ 1000000) : sl w (0 : Int) (IntKind.wrap .i64 ((w.length : Int) - (1 : Int))) = some w.dropLast := by
  have hp : 0 < w.length := List.length_pos_iff.2 h
  rw [wrap64 (by omega) (by omega), show ((w.length : Int) - 1) = ((w.length - 1 : Nat) : Int) by omega]
  have := sl_nat (l := w) (a := 0) (b := w.length - 1) (by omega) (by omega)
  rw [List.drop_zero] at this
  rw [show (0 : Int) = ((0 : Nat) : Int) from rfl, this, List.dropLast_eq_take]
theorem quoted_eq (N : Nat) (w : Bs) (hw : w.length ≤ 1000) (h2 : w ≠ []) (hq : w.getLast? = some 39) (hN : 2000 < N) : source_cutter_quoted_2b7 (Ev.upto N) ((), (((zS, w), ()), ())) = some ((true, ()), (((quoS w, w), ()), ())) := by
  have hp : 0 < w.length := List.length_pos_iff.2 h2
  have ql := lower_eq N w (by omega) (by omega)
  have qs := dropLast_sl h2 (by omega)
  have q1 := HP_eq (Ev.upto N) (lowerB w) [39, 110, 111, 110, 99, 101, 45] (by rw [lowerB_length]; omega) (by simp)
  have q2 := HP_eq (Ev.upto N) (lowerB w) [39, 109, 97, 114, 107, 45] (by rw [lowerB_length]; omega) (by simp)

  have long : ∀ p : Bs, (lowerB w).take p.length = p → p.getLast? ≠ some 39 → p ≠ [] → p.length ≤ w.dropLast.length := fun p hp2 hp3 hp4 => by
    have hl : p.length ≤ w.length := by
      have := congrArg List.length hp2
      rw [List.length_take, lowerB_length] at this
      omega
    rw [List.length_dropLast]
    rcases Nat.lt_or_ge p.length w.length with h | h
    · omega
    · exfalso
      apply hp3
      rw [← hp2, List.take_of_length_le (by rw [lowerB_length]; omega), lowerB_map, List.getLast?_map, hq]
      rfl
  apply wp_eq
  unfold source_cutter_quoted_2b7 quoS
  simp -implicitDefEqProofs only [ql, qs, q1, Option.bind_some]
  rw [show ([39, 110, 111, 110, 99, 101, 45] : Bs).length = 7 from rfl]
  by_cases h7 : (lowerB w).take 7 = [39, 110, 111, 110, 99, 101, 45]
  · have hl := long [39, 110, 111, 110, 99, 101, 45] h7 (by decide) (by simp)
    have s7 : sl w.dropLast (7 : Int) ((w.dropLast).length : Int) = some (w.dropLast.drop 7) := sl_end (l := w.dropLast) (a := 7) (by simpa using hl)
    rw [if_pos h7, show ((lowerB w).take 7 == ([39, 110, 111, 110, 99, 101, 45] : Bs)) = true from by simpa using h7]
    simp -implicitDefEqProofs only [cond_true, s7, Option.bind_some]
    exact ⟨_, rfl, rfl⟩
  · rw [if_neg h7, show ((lowerB w).take 7 == ([39, 110, 111, 110, 99, 101, 45] : Bs)) = false from by simpa using h7]
    simp -implicitDefEqProofs only [cond_false, q2, Option.bind_some]
    rw [show ([39, 109, 97, 114, 107, 45] : Bs).length = 6 from rfl]
    by_cases h6 : (lowerB w).take 6 = [39, 109, 97, 114, 107, 45]
    · have hl := long [39, 109, 97, 114, 107, 45] h6 (by decide) (by simp)
      have s6 : sl w.dropLast (6 : Int) ((w.dropLast).length : Int) = some (w.dropLast.drop 6) := sl_end (l := w.dropLast) (a := 6) (by simpa using hl)
      obtain ⟨_, qd, b, rfl⟩ := Decode_eq N (w.dropLast.drop 6) (by simp; omega) hN
      rw [if_pos h6, show ((lowerB w).take 6 == ([39, 109, 97, 114, 107, 45] : Bs)) = true from by simpa using h6]
      simp -implicitDefEqProofs only [cond_true, s6, Option.bind_some, qd]
      exact ⟨_, rfl, rfl⟩
    · rw [if_neg h6, show ((lowerB w).take 6 == ([39, 109, 97, 114, 107, 45] : Bs)) = false from by simpa using h6]
      simp -implicitDefEqProofs only [cond_false]
      generalize lowerB w = low
      refine wp_bind (wp_bind (wp_bind ?_))
      refine wp_for (σ := Unit) (fun i _ => ((low, ((([] : Bs), (([39, 110, 111, 110, 101, 39] : Bs), (([39, 115, 101, 108, 102, 39] : Bs), (([39, 117, 110, 115, 97, 102, 101, 45, 105, 110, 108, 105, 110, 101, 39] : Bs), (([39, 117, 110, 115, 97, 102, 101, 45, 101, 118, 97, 108, 39] : Bs), (([39, 119, 97, 115, 109, 45, 117, 110, 115, 97, 102, 101, 45, 101, 118, 97, 108, 39] : Bs), (([39, 115, 116, 114, 105, 99, 116, 45, 100, 121, 110, 97, 109, 105, 99, 39] : Bs), (([39, 117, 110, 115, 97, 102, 101, 45, 104, 97, 115, 104, 101, 115, 39] : Bs), ([39, 114, 101, 112, 111, 114, 116, 45, 115, 97, 109, 112, 108, 101, 39] : Bs))))))))), ((i : Int), ()))), ((((kfold low i, zS.2), w), ()), ()))) (fun _ _ => True) 9 () rfl trivial (by omega) ?_
      rintro i _ hi _
      by_cases hi' : i < 9
      · have c0 : decide ((i : Int) < (9 : Int)) = true := decide_eq_true (by omega)
        have w1 : IntKind.wrap .i64 ((i : Int) + 1) = ((i + 1 : Nat) : Int) := by rw [wrap64 (by omega) (by omega)]; omega
        have it : idx T9 (i : Int) = some ((T9[i]?).getD []) := by
          have hl : i < T9.length := hi'
          rw [idx_nat hl, List.getElem?_eq_getElem hl]
          rfl
        have hk : kfold low (i + 1) = if ((T9[i]?).getD [] == low) = true then (i : Int) else kfold low i := rfl
        generalize (T9[i]?).getD [] = v at it hk
        unfold T9 at it
        simp -implicitDefEqProofs only [c0, cond_true, it, Option.bind_some, w1]
        cases hc : (v == low) with
        | true =>
          rw [hc, if_pos rfl] at hk
          exact ⟨_, rfl, hi', (), by dsimp only; rw [hk, w1], trivial⟩
        | false =>
          rw [hc, if_neg (by decide)] at hk
          exact ⟨_, rfl, hi', (), by dsimp only; rw [hk, w1], trivial⟩
      · have c0 : decide ((i : Int) < (9 : Int)) = false := decide_eq_false (by omega)
        have : i = 9 := by omega
        subst this
        simp -implicitDefEqProofs only [c0, cond_false]
        exact ⟨_, rfl, _, rfl, _, rfl, _, rfl, rfl⟩
def firstC (w : Bs) : UInt8 := (w.head?).getD 0
def lastC (w : Bs) : UInt8 := (w.getLast?).getD 0
def qtB (w : Bs) : Bool := decide ((w.length : Int) > 1) && (firstC w == 39 && lastC w == 39)
noncomputable def parP (w : Bs) : Option Src :=
  if w = [] then none else if qtB w = true then some (quoS w) else if lastC w = 58 then some (11, (([] : Bs), (lowerB w.dropLast, zS.2.2.2))) else hostP w
noncomputable def parR (w : Bs) : Src × Bool := match parP w with
  | some s => if rightB s = true then (s, true) else (zS, false)
  | none => (zS, false)
theorem hostP_small {w : Bs} {s : Src} (hw : w.length ≤ 1000) (h : hostP w = some s) : smallQ s := by
  unfold hostP schR at h
  have key : ∀ (sc r : Bs), sc.length ≤ 1000 → r.length ≤ 1000 → hostR sc r = some s → smallQ s := fun sc r h1 h2 h3 => by
    unfold hostR at h3
    have hf : (r.takeWhile notSl).length ≤ r.length := (List.takeWhile_prefix _).length_le
    have hd : (r.dropWhile notSl).length ≤ r.length := (List.dropWhile_suffix _).length_le
    have hn : (numR (r.takeWhile notSl)).1.length ≤ 1000 := by
      unfold numR
      split
      · simp; omega
      · exact Nat.le_trans hf h2
    split at h3
    · cases h3
    · split at h3
      · cases h3
      · rename_i x hx
        cases h3
        refine ⟨by simp, h1, ?_, by show (r.dropWhile notSl).length ≤ 1000; omega⟩
        have hl := lowerB_length (numR (r.takeWhile notSl)).1
        show x.2.length ≤ 1000
        unfold starR at hx
        split at hx
        · cases hx; simp
        · split at hx
          · split at hx
            · cases hx
            · cases hx; simp; omega
          · cases hx; show (lowerB _).length ≤ 1000; omega
  cases hf : findB w [58, 47, 47] with
  | none =>
    rw [hf] at h
    exact key [] w (by simp) hw h
  | some k =>
    rw [hf] at h
    simp only at h
    by_cases h0 : k = 0
    · rw [if_pos h0] at h; cases h
    · rw [if_neg h0] at h
      exact key _ _ (by rw [lowerB_length]; simp; omega) (by simp; omega) h
theorem parP_small {w : Bs} {s : Src} (hw : w.length ≤ 1000) (h : parP w = some s) : smallQ s := by
  unfold parP at h
  split at h
  · cases h
  · split at h
    · cases h
      unfold quoS
      split
      · exact ⟨by simp; omega, by simp [zS], by simp [zS], by simp [zS]⟩
      · split
        · refine ⟨?_, by simp [zS], by simp [zS], by simp [zS]⟩
          have := decW_len (w.dropLast.drop 6)
          simp only [List.length_drop, List.length_dropLast] at this
          show (decW (w.dropLast.drop 6)).length ≤ 1000
          omega
        · exact ⟨by simp [zS], by simp [zS], by simp [zS], by simp [zS]⟩
    · split at h
      · cases h
        exact ⟨by simp, by show (lowerB w.dropLast).length ≤ 1000; rw [lowerB_length]; simp; omega, by simp [zS], by simp [zS]⟩
      · exact hostP_small hw h
theorem Parse_eq (w : Bs) (hw : w.length ≤ 1000) : source_Parse_ (Ev.upto 200000) ((w, ()), ()) = some (((parR w).1, ((parR w).2, ())), ()) := by
  apply wp_eq
  have hsm : ∀ s, parP w = some s → smallQ s := fun s h => parP_small hw h
  unfold source_Parse_ parR
  by_cases h0 : w = []
  · subst h0
    have : parP [] = none := by unfold parP; rw [if_pos rfl]
    rw [this]
    exact ⟨_, rfl, rfl⟩
  have c0 : (w == ([] : Bs)) = false := by simpa using h0
  have hp : 0 < w.length := List.length_pos_iff.2 h0
  have w1 : IntKind.wrap .i64 ((w.length : Int) - 1) = ((w.length - 1 : Nat) : Int) := by rw [wrap64 (by omega) (by omega)]; omega
  have iF : idx w (0 : Int) = some (firstC w) := by
    cases w with
    | nil => exact absurd rfl h0
    | cons c r => rfl
  have iL : idx w ((w.length - 1 : Nat) : Int) = some (lastC w) := by
    rw [idx_nat (by omega)]
    unfold lastC
    rw [List.getLast?_eq_getElem?, List.getElem?_eq_getElem (by omega)]
    rfl
  have eF : (((firstC w).toNat : Int) == 39) = (firstC w == 39) := byteZ _ 39 (by decide)
  have eL : (((lastC w).toNat : Int) == 39) = (lastC w == 39) := byteZ _ 39 (by decide)
  have e58 : (((lastC w).toNat : Int) == 58) = (lastC w == 58) := byteZ _ 58 (by decide)

  have fin : ∀ (ok : Bool) (c : Cut), (match parP w with | some s => ok = true ∧ c.1 = s | none => ok = false) →
      wp ((bif ((!ok) == false) then ((source_right_ (Ev.upto 200000) ((c.1, ()), ())).bind fun v12 => (some (((!v12.1.1), ()), ((zS, ()), ((c, ()), ()))))) else (some ((true, ()), ((zS, ()), ((c, ()), ())))) : Option ((Bool × Unit) × ((Src × Unit) × ((Cut × Unit) × Unit)))).bind fun o13 => (bif o13.1.1 then (some ((((0 : Int), (([] : Bs), (([] : Bs), (([] : Bs), (false, ((0 : Int), ([] : Bs))))))), (false, ())), ())) else (some ((o13.2.2.1.1.1, (true, ())), ())) : Option ((Src × Bool × Unit) × Unit)))
        (fun x => x = (((match parP w with | some s => if rightB s = true then (s, true) else (zS, false) | none => (zS, false)).1, ((match parP w with | some s => if rightB s = true then (s, true) else (zS, false) | none => (zS, false)).2, ())), ())) := by
    intro ok c h
    cases hpp : parP w with
    | none =>
      rw [hpp] at h
      have h : ok = false := h
      subst h
      exact ⟨_, rfl, rfl⟩
    | some s =>
      rw [hpp] at h
      obtain ⟨rfl, rfl⟩ := h
      have qr := right_eq c.1 (hsm _ hpp)
      simp -implicitDefEqProofs only [Bool.not_true, beq_self_eq_true, cond_true, qr, Option.bind_some]
      cases hr : rightB c.1 with
      | true => exact ⟨_, rfl, by rw [if_pos rfl]⟩
      | false => exact ⟨_, rfl, by rw [if_neg (by decide)]; rfl⟩
  simp -implicitDefEqProofs only [c0, Bool.not_false, Bool.not_true, cond_false, w1, iF, Option.bind_some, eF]
  have q : wp ((bif (decide (((w).length : Int) > (1 : Int)) == true) then (bif ((firstC w == 39) == true) then ((idx w ((w.length - 1 : Nat) : Int)).bind fun v2 => (some ((w, (true, ((((v2).toNat : Int) == (39 : Int)), ()))), ((zS, ()), (((zS, w), ()), ()))))) else (some ((w, (true, (false, ()))), ((zS, ()), (((zS, w), ()), ()))))) else (some ((w, (true, (false, ()))), ((zS, ()), (((zS, w), ()), ())))) : Option ((Bs × Bool × Bool × Unit) × ((Src × Unit) × ((Cut × Unit) × Unit))))) (fun o => o = ((w, (true, (qtB w, ()))), ((zS, ()), (((zS, w), ()), ())))) := by
    unfold qtB
    simp -implicitDefEqProofs only [iL, Option.bind_some, eL]
    cases decide (((w).length : Int) > (1 : Int)) <;> cases (firstC w == 39) <;> exact ⟨_, rfl, rfl⟩
  obtain ⟨_, e, e'⟩ := q
  unfold zS at e e'
  rw [e, e']
  simp -implicitDefEqProofs only [Option.bind_some]
  cases hq : qtB w with
  | true =>
    have hl : w.getLast? = some 39 := by
      unfold qtB at hq
      simp only [Bool.and_eq_true, beq_iff_eq] at hq
      have h3 := hq.2.2
      unfold lastC at h3
      cases hg : w.getLast? with
      | none => rw [hg] at h3; cases h3
      | some c => rw [hg] at h3; simp at h3; rw [h3]
    have qq := quoted_eq 200000 w hw h0 hl (by decide)
    have hpp : parP w = some (quoS w) := by unfold parP; rw [if_neg h0, if_pos hq]
    unfold zS at qq
    simp -implicitDefEqProofs only [cond_true, qq, Option.bind_some]
    exact fin true (quoS w, w) (by rw [hpp]; exact ⟨rfl, rfl⟩)
  | false =>
    simp -implicitDefEqProofs only [cond_false, w1, iL, Option.bind_some, e58]
    cases h58 : (lastC w == 58) with
    | true =>
      have hpp : parP w = some (11, (([] : Bs), (lowerB w.dropLast, zS.2.2.2))) := by unfold parP; rw [if_neg h0, if_neg (by rw [hq]; decide), if_pos (by simpa using h58)]
      have qs := dropLast_sl h0 (by omega)
      rw [w1] at qs
      have ql := lower_eq 200000 w.dropLast (by simp; omega) (by simp; omega)
      simp -implicitDefEqProofs only [cond_true, qs, Option.bind_some, ql]
      exact fin true ((11, (([] : Bs), (lowerB w.dropLast, zS.2.2.2))), w) (by rw [hpp]; exact ⟨rfl, rfl⟩)
    | false =>
      have hpp : parP w = hostP w := by unfold parP; rw [if_neg h0, if_neg (by rw [hq]; decide), if_neg (by simpa using h58)]
      obtain ⟨o, qo, b, c, rfl, hb⟩ := host_word 200000 w hw (by decide)
      unfold zS at qo
      simp -implicitDefEqProofs only [cond_false]
      rw [qo]
      simp -implicitDefEqProofs only [Option.bind_some]
      exact fin b c (by rw [hpp]; exact hb)
end Go.En.Pl
