/- Text PM1 of this seat: written by a program of ours, or by hand; checked by Lean. -/
import Derived.Test.YtikphcnjknbdmaaGreatDoorPU6
set_option linter.unusedSimpArgs false
set_option linter.unusedVariables false
namespace Go.En.Pl
/-! What a source says of an address: the program and the reference. -/
abbrev Src := Int × (Bs × (Bs × (Bs × (Bool × (Int × Bs)))))
def lowI (n : Int) : Int := bif decide (n ≥ 65) && decide (n ≤ 90) then n + 32 else n
def lowerB (s : Bs) : Bs := toBs ((ofBs s).map lowI)
theorem lowerB_length (s : Bs) : (lowerB s).length = s.length := by simp [lowerB, toBs, ofBs]
theorem ofBs_get {s : Bs} {i : Nat} (h : i < s.length) : (ofBs s)[i]'(by rw [ofBs_length]; exact h) = (s[i].toNat : Int) := by simp [ofBs]
theorem low_wrap (c : UInt8) (h0 : decide ((c.toNat : Int) ≥ 65) = true) (h1 : decide ((c.toNat : Int) ≤ 90) = true) : IntKind.wrap .u8 ((IntKind.wrap .u8 ((c.toNat : Int) + 97)) - 65) = (c.toNat : Int) + 32 := by
  have h0 := of_decide_eq_true h0
  have h1 := of_decide_eq_true h1
  rw [wrapu8 (n := (c.toNat : Int) + 97) (by omega) (by omega), wrapu8 (by omega) (by omega)]
  omega
theorem lower_eq (N : Nat) (s : Bs) (hs : s.length < N) (hb : s.length ≤ 1000000) : fold_Lower_ (Ev.upto N) ((s, ()), ()) = some ((lowerB s, ()), ()) := by
  apply wp_eq
  unfold fold_Lower_
  refine wp_bind ?_
  refine wp_for (σ := Unit) (fun i _ => ((((ofBs s).length : Int), ((i : Int), ())), (((ofBs s).take i).map lowI ++ (ofBs s).drop i, ()))) (fun i _ => True) s.length () (by simp) trivial hs ?_
  rintro i _ hi _
  have hol := ofBs_length s
  have hll : (((ofBs s).take i).map lowI ++ (ofBs s).drop i).length = s.length := by simp [hol]; omega
  by_cases hi' : i < s.length
  · have c0 : decide ((i : Int) < ((ofBs s).length : Int)) = true := decide_eq_true (by omega)
    have c1 : decide ((i : Int) < ((((ofBs s).take i).map lowI ++ (ofBs s).drop i).length : Int)) = true := decide_eq_true (by omega)
    have c2 : decide ((0 : Int) ≤ (i : Int)) = true := decide_eq_true (by omega)
    have w : IntKind.wrap .i64 ((i : Int) + 1) = ((i + 1 : Nat) : Int) := by rw [wrap64 (by omega) (by omega)]; omega
    have hd : (ofBs s).drop i = (s[i].toNat : Int) :: (ofBs s).drop (i + 1) := by rw [List.drop_eq_getElem_cons (by omega), ofBs_get hi']
    have hlen : (((ofBs s).take i).map lowI).length = i := by simp [hol]; omega
    have g : (((ofBs s).take i).map lowI ++ (ofBs s).drop i)[((i : Int)).toNat]? = some (s[i].toNat : Int) := by
      rw [Int.toNat_natCast, List.getElem?_append_right (by omega), hlen, Nat.sub_self, hd]; rfl
    have st : ∀ v, (((ofBs s).take i).map lowI ++ (ofBs s).drop i).set ((i : Int)).toNat v = ((ofBs s).take i).map lowI ++ v :: (ofBs s).drop (i + 1) := by
      intro v
      rw [Int.toNat_natCast, List.set_append_right _ _ (by omega), hlen, Nat.sub_self, hd]; rfl
    have nx : ((ofBs s).take (i + 1)).map lowI ++ (ofBs s).drop (i + 1) = ((ofBs s).take i).map lowI ++ lowI (s[i].toNat : Int) :: (ofBs s).drop (i + 1) := by
      rw [List.take_succ_eq_append_getElem (by omega), List.map_append, ofBs_get hi']; simp
    simp -implicitDefEqProofs only [c0, c1, c2, Bool.and_self, cond_true, g, Option.bind_some]
    cases h1 : decide ((s[i].toNat : Int) ≥ 65) with
    | false =>
      have hx : lowI (s[i].toNat : Int) = (s[i].toNat : Int) := by unfold lowI; rw [h1]; rfl
      rw [hx] at nx
      exact ⟨_, rfl, hi', (), by simp only [w, nx, ← hd], trivial⟩
    | true =>
      cases h2 : decide ((s[i].toNat : Int) ≤ 90) with
      | false =>
        have hx : lowI (s[i].toNat : Int) = (s[i].toNat : Int) := by unfold lowI; rw [h1, h2]; rfl
        rw [hx] at nx
        exact ⟨_, rfl, hi', (), by simp only [w, nx, ← hd], trivial⟩
      | true =>
        have hx : lowI (s[i].toNat : Int) = (s[i].toNat : Int) + 32 := by unfold lowI; rw [h1, h2]; rfl
        rw [hx] at nx
        have lw := low_wrap s[i] h1 h2
        simp -implicitDefEqProofs only [beq_self_eq_true, cond_true, Option.bind_some, c1, c2, Bool.and_self, g, st, lw]
        exact ⟨_, rfl, hi', (), by simp only [w, nx], trivial⟩
  · have c0 : decide ((i : Int) < ((ofBs s).length : Int)) = false := decide_eq_false (by omega)
    simp -implicitDefEqProofs only [c0, cond_false]
    refine ⟨_, rfl, _, rfl, ?_⟩
    rw [List.take_of_length_le (by omega), List.drop_eq_nil_of_le (by omega), List.append_nil]
    rfl
theorem rlower_eq (N : Nat) (s : Bs) (hs : s.length < N) (hb : s.length ≤ 1000000) : pounceref02_Lower_ (Ev.upto N) ((s, ()), ()) = some ((lowerB s, ()), ()) := by
  apply wp_eq
  unfold pounceref02_Lower_
  refine wp_bind ?_
  refine wp_for (σ := Unit) (fun i _ => ((s, ((i : Int), ())), (((ofBs s).take i).map lowI, ()))) (fun i _ => True) s.length () rfl trivial hs ?_
  rintro i _ hi _
  have hol := ofBs_length s
  by_cases hi' : i < s.length
  · have c0 : decide ((i : Int) < (s.length : Int)) = true := decide_eq_true (by omega)
    have w : IntKind.wrap .i64 ((i : Int) + 1) = ((i + 1 : Nat) : Int) := by rw [wrap64 (by omega) (by omega)]; omega
    have hlen : (((ofBs s).take i).map lowI).length = i := by simp [hol]; omega
    have f : ∀ v : Int, fits ((((ofBs s).take i).map lowI).length + ([v] : List Int).length) 1 = true := fun v => fits_of (by rw [hlen]; simp only [List.length_cons, List.length_nil]; omega)
    have nx : ((ofBs s).take (i + 1)).map lowI = ((ofBs s).take i).map lowI ++ [lowI (s[i].toNat : Int)] := by
      rw [List.take_succ_eq_append_getElem (by omega), List.map_append, ofBs_get hi']; simp
    simp -implicitDefEqProofs only [c0, cond_true, idx_nat hi', Option.bind_some]
    cases h1 : decide ((s[i].toNat : Int) ≥ 65) with
    | false =>
      have hx : lowI (s[i].toNat : Int) = (s[i].toNat : Int) := by unfold lowI; rw [h1]; rfl
      rw [hx] at nx
      simp -implicitDefEqProofs only [show (false == true) = false from rfl, cond_false, Option.bind_some, f, cond_true, w]
      exact ⟨_, rfl, hi', (), by rw [nx], trivial⟩
    | true =>
      cases h2 : decide ((s[i].toNat : Int) ≤ 90) with
      | false =>
        have hx : lowI (s[i].toNat : Int) = (s[i].toNat : Int) := by unfold lowI; rw [h1, h2]; rfl
        rw [hx] at nx
        simp -implicitDefEqProofs only [beq_self_eq_true, cond_false, Option.bind_some, f, cond_true, w]
        exact ⟨_, rfl, hi', (), by rw [nx], trivial⟩
      | true =>
        have hx : lowI (s[i].toNat : Int) = (s[i].toNat : Int) + 32 := by unfold lowI; rw [h1, h2]; rfl
        rw [hx] at nx
        have lw : IntKind.wrap .u8 ((s[i].toNat : Int) + 32) = (s[i].toNat : Int) + 32 := by
          have := of_decide_eq_true h2
          rw [wrapu8 (by omega) (by omega)]
        simp -implicitDefEqProofs only [beq_self_eq_true, Option.bind_some, f, cond_true, w, lw]
        exact ⟨_, rfl, hi', (), by rw [nx], trivial⟩
  · have c0 : decide ((i : Int) < (s.length : Int)) = false := decide_eq_false (by omega)
    simp -implicitDefEqProofs only [c0, cond_false]
    refine ⟨_, rfl, _, rfl, ?_⟩
    rw [List.take_of_length_le (by omega)]
    rfl
/-! ### Schemes -/
def schB (a b : Bs) : Bool := a == b || ((a == ([104, 116, 116, 112] : Bs) && b == ([104, 116, 116, 112, 115] : Bs)) || (a == ([119, 115] : Bs) && b == ([119, 115, 115] : Bs)))
theorem mscheme_eq (V : Ev) (a b : Bs) : match_Scheme_ V ((a, (b, ())), ()) = some ((schB a b, ()), ()) := by
  unfold match_Scheme_ schB
  cases h0 : a == b with
  | true => rfl
  | false =>
    simp -implicitDefEqProofs only [cond_false, Bool.false_or]
    cases h1 : a == ([104, 116, 116, 112] : Bs) with
    | true =>
      have : a = [104, 116, 116, 112] := by simpa using h1
      subst this
      simp only [Bool.true_and]
      have h2 : (([104, 116, 116, 112] : Bs) == ([119, 115] : Bs)) = false := rfl
      rw [h2, Bool.false_and, Bool.or_false]
      rfl
    | false =>
      cases h2 : a == ([119, 115] : Bs) with
      | true =>
        have : a = [119, 115] := by simpa using h2
        subst this
        simp only [Bool.false_and, Bool.true_and, Bool.false_or]
        rfl
      | false => rfl
theorem rscheme10_eq (V : Ev) (a b : Bs) : pounceref10_Scheme_ V ((a, (b, ())), ()) = some ((schB a b, ()), ()) := by
  unfold pounceref10_Scheme_ schB
  cases a == b <;> cases a == ([104, 116, 116, 112] : Bs) <;> cases b == ([104, 116, 116, 112, 115] : Bs) <;> cases a == ([119, 115] : Bs) <;> rfl
/-! ### Hosts -/
def sufB (s x : Bs) : Bool := decide (x.length ≤ s.length) && s.drop (s.length - x.length) == x
theorem hasSuffix_eq (V : Ev) (s x : Bs) (h : s.length ≤ 1000000) (hx : x.length ≤ 1000000) : istringslite_HasSuffix_ V ((s, (x, ())), ()) = some ((sufB s x, ()), ()) := by
  unfold istringslite_HasSuffix_ sufB
  by_cases hl : x.length ≤ s.length
  · have c : decide ((s.length : Int) ≥ (x.length : Int)) = true := decide_eq_true (by omega)
    have w : IntKind.wrap .i64 ((s.length : Int) - (x.length : Int)) = ((s.length - x.length : Nat) : Int) := by rw [wrap64 (by omega) (by omega)]; omega
    have s1 : sl s ((s.length - x.length : Nat) : Int) (s.length : Int) = some (s.drop (s.length - x.length)) := sl_end (by omega)
    simp -implicitDefEqProofs only [c, beq_self_eq_true, cond_true, w, s1, Option.bind_some, decide_eq_true hl, Bool.true_and]
  · simp only [decide_eq_false (show ¬ (s.length : Int) ≥ (x.length : Int) by omega), decide_eq_false hl, Bool.false_and]
    rfl
def preB (s x : Bs) : Bool := decide (x.length ≤ s.length) && s.take x.length == x
theorem hasPrefixG_eq (V : Ev) (s x : Bs) (h : s.length ≤ 1000000) (hx : x.length ≤ 1000000) : istringslite_HasPrefix_ V ((s, (x, ())), ()) = some ((preB s x, ()), ()) := by
  unfold istringslite_HasPrefix_ preB
  by_cases hl : x.length ≤ s.length
  · have c : decide ((s.length : Int) ≥ (x.length : Int)) = true := decide_eq_true (by omega)
    have s1 : sl s (0 : Int) (x.length : Int) = some (s.take x.length) := by rw [show (0 : Int) = ((0 : Nat) : Int) from rfl, sl_nat (Nat.zero_le _) hl, List.drop_zero]
    simp -implicitDefEqProofs only [c, beq_self_eq_true, cond_true, s1, Option.bind_some, decide_eq_true hl, Bool.true_and]
  · simp only [decide_eq_false (show ¬ (s.length : Int) ≥ (x.length : Int) by omega), decide_eq_false hl, Bool.false_and]
    rfl
def hostM (s : Src) (h : Bs) : Bool := bif !s.2.2.2.2.1 then lowerB s.2.2.2.1 == lowerB h else bif lowerB s.2.2.2.1 == ([] : Bs) then true else decide ((46 :: lowerB s.2.2.2.1).length < (lowerB h).length) && sufB (lowerB h) (46 :: lowerB s.2.2.2.1)
theorem bs_beq_comm (a b : Bs) : (a == b) = (b == a) := by rw [Bool.eq_iff_iff]; simp only [beq_iff_eq]; exact eq_comm
theorem mhost_eq (N : Nat) (s : Src) (h : Bs) (hs : s.2.2.2.1.length < N) (hs' : s.2.2.2.1.length ≤ 100000) (hh : h.length < N) (hh' : h.length ≤ 100000) : match_Host_ (Ev.upto N) ((s, (h, ())), ()) = some ((hostM s h, ()), ()) := by
  have q1 := lower_eq N s.2.2.2.1 hs (by omega)
  have q2 := lower_eq N h hh (by omega)
  have l1 := lowerB_length s.2.2.2.1
  have l2 := lowerB_length h
  unfold match_Host_ hostM
  simp -implicitDefEqProofs only [q1, q2, Option.bind_some]
  cases s.2.2.2.2.1 with
  | false => rfl
  | true =>
    simp -implicitDefEqProofs only [Bool.not_true, cond_false]
    cases lowerB s.2.2.2.1 == ([] : Bs) with
    | true => rfl
    | false =>
      have f : strFits (([46] : Bs).length + (lowerB s.2.2.2.1).length) = true := strFits_of (by simp only [List.length_cons, List.length_nil]; omega)
      have q3 := hasSuffix_eq (Ev.upto N) (lowerB h) (46 :: lowerB s.2.2.2.1) (by omega) (by simp only [List.length_cons]; omega)
      simp -implicitDefEqProofs only [cond_false, f, cond_true]
      unfold strings_CutSuffix_ istringslite_CutSuffix_
      simp -implicitDefEqProofs only [show ([46] : Bs) ++ lowerB s.2.2.2.1 = 46 :: lowerB s.2.2.2.1 from rfl, q3, Option.bind_some]
      cases hx : sufB (lowerB h) (46 :: lowerB s.2.2.2.1) with
      | false => simp only [Bool.and_false]; rfl
      | true =>
        have hle : (46 :: lowerB s.2.2.2.1).length ≤ (lowerB h).length := by
          unfold sufB at hx
          simp only [Bool.and_eq_true, decide_eq_true_eq] at hx
          exact hx.1
        have w : IntKind.wrap .i64 (((lowerB h).length : Int) - ((46 :: lowerB s.2.2.2.1).length : Int)) = (((lowerB h).length - (46 :: lowerB s.2.2.2.1).length : Nat) : Int) := by rw [wrap64 (by omega) (by omega)]; omega
        have s1 : sl (lowerB h) (0 : Int) (((lowerB h).length - (46 :: lowerB s.2.2.2.1).length : Nat) : Int) = some ((lowerB h).take ((lowerB h).length - (46 :: lowerB s.2.2.2.1).length)) := by
          rw [show (0 : Int) = ((0 : Nat) : Int) from rfl, sl_nat (Nat.zero_le _) (by omega), List.drop_zero]
        have hne : (!((lowerB h).take ((lowerB h).length - (46 :: lowerB s.2.2.2.1).length) == ([] : Bs))) = decide ((46 :: lowerB s.2.2.2.1).length < (lowerB h).length) := by
          rw [Bool.eq_iff_iff]
          simp only [Bool.not_eq_true', beq_eq_false_iff_ne, ne_eq, List.take_eq_nil_iff, decide_eq_true_eq]
          constructor
          · intro h'
            have : ¬ ((lowerB h).length - (46 :: lowerB s.2.2.2.1).length = 0) := fun e => h' (.inl e)
            omega
          · rintro h' (e | e)
            · omega
            · rw [e] at h'; simp at h'
        simp -implicitDefEqProofs only [Bool.not_true, cond_false, w, s1, Option.bind_some, beq_self_eq_true, cond_true, hne, Bool.and_true]
theorem rhostM_eq (N : Nat) (s : Src) (h : Bs) (hs : s.2.2.2.1.length < N) (hs' : s.2.2.2.1.length ≤ 100000) (hh : h.length < N) (hh' : h.length ≤ 100000) : pounceref10_Host_ (Ev.upto N) ((s, (h, ())), ()) = some ((hostM s h, ()), ()) := by
  have q1 := rlower_eq N s.2.2.2.1 hs (by omega)
  have q2 := rlower_eq N h hh (by omega)
  have l1 := lowerB_length s.2.2.2.1
  have l2 := lowerB_length h
  unfold pounceref10_Host_ hostM
  simp -implicitDefEqProofs only [q1, q2, Option.bind_some]
  cases s.2.2.2.2.1 with
  | false => simp -implicitDefEqProofs only [Bool.not_false, cond_true]; rw [bs_beq_comm]
  | true =>
    simp -implicitDefEqProofs only [Bool.not_true, cond_false]
    cases lowerB s.2.2.2.1 == ([] : Bs) with
    | true => rfl
    | false =>
      have f : strFits (([46] : Bs).length + (lowerB s.2.2.2.1).length) = true := strFits_of (by simp only [List.length_cons, List.length_nil]; omega)
      simp -implicitDefEqProofs only [cond_false, f, cond_true, beq_self_eq_true, show ([46] : Bs) ++ lowerB s.2.2.2.1 = 46 :: lowerB s.2.2.2.1 from rfl]
      unfold pounceref10_ends_ sufB
      by_cases hlt : (46 :: lowerB s.2.2.2.1).length < (lowerB h).length
      · have c : decide (((lowerB h).length : Int) > ((46 :: lowerB s.2.2.2.1).length : Int)) = true := decide_eq_true (by omega)
        have w : IntKind.wrap .i64 (((lowerB h).length : Int) - ((46 :: lowerB s.2.2.2.1).length : Int)) = (((lowerB h).length - (46 :: lowerB s.2.2.2.1).length : Nat) : Int) := by rw [wrap64 (by omega) (by omega)]; omega
        have s1 : sl (lowerB h) (((lowerB h).length - (46 :: lowerB s.2.2.2.1).length : Nat) : Int) ((lowerB h).length : Int) = some ((lowerB h).drop ((lowerB h).length - (46 :: lowerB s.2.2.2.1).length)) := sl_end (by omega)
        simp -implicitDefEqProofs only [c, beq_self_eq_true, cond_true, w, s1, Option.bind_some, decide_eq_true hlt, decide_eq_true (Nat.le_of_lt hlt), Bool.true_and]
      · simp only [decide_eq_false (show ¬ ((lowerB h).length : Int) > ((46 :: lowerB s.2.2.2.1).length : Int) by omega), decide_eq_false hlt, Bool.false_and]
        rfl
/-! ### Ports, paths -/
def portM (u : Url) : Int := bif u.2.2.2.1 == 0 then defB u.2.1 else u.2.2.2.1
theorem mport_eq (V : Ev) (t : (Url × Unit) × Unit) : match_port_ V t = some ((portM t.1.1, ()), ()) := by
  unfold match_port_ portM
  simp -implicitDefEqProofs only [default_eq, Option.bind_some, bne]
  cases (t.1.1.2.2.2.1 == 0) <;> rfl
theorem oport_eq (V : Ev) (t : (Url × Unit) × Unit) : origin_address_port_ V t = some ((portM t.1.1, ()), ()) := mport_eq V t
theorem rport_eq (V : Ev) (t : (Url × Unit) × Unit) : pounceref07_Port_ V t = some ((portM t.1.1, ()), ()) := by
  unfold pounceref07_Port_ portM
  simp -implicitDefEqProofs only [rdefault_eq, Option.bind_some]
  cases (t.1.1.2.2.2.1 == 0) <;> rfl
def portOK (s : Src) (u : Url) : Bool := bif s.2.2.2.2.2.1 == -1 then true else bif s.2.2.2.2.2.1 == 0 then portM u == defB u.2.1 else portM u == s.2.2.2.2.2.1 || (s.2.2.2.2.2.1 == 80 && portM u == 443)
theorem mPort_eq (V : Ev) (t : (Src × (Url × Unit)) × Unit) : match_Port_ V t = some ((portOK t.1.1 t.1.2.1, ()), ()) := by
  obtain ⟨⟨s, u, ⟨⟩⟩, ⟨⟩⟩ := t
  unfold match_Port_ portOK
  simp -implicitDefEqProofs only [mport_eq, default_eq, Option.bind_some]
  cases s.2.2.2.2.2.1 == -1 with
  | true => rfl
  | false =>
    cases s.2.2.2.2.2.1 == 0 with
    | true => rfl
    | false =>
      cases h : s.2.2.2.2.2.1 == 80 with
      | false => simp only [cond_false, Bool.false_and, Bool.or_false]
      | true =>
        have : s.2.2.2.2.2.1 = 80 := by simpa using h
        rw [this]
        cases portM u == 80 <;> rfl
theorem rPort_eq (V : Ev) (t : (Src × (Url × Unit)) × Unit) : pounceref10_Port_ V t = some ((portOK t.1.1 t.1.2.1, ()), ()) := by
  obtain ⟨⟨s, u, ⟨⟩⟩, ⟨⟩⟩ := t
  unfold pounceref10_Port_ portOK
  simp -implicitDefEqProofs only [rport_eq, rdefault_eq, Option.bind_some]
  cases s.2.2.2.2.2.1 == -1 with
  | true => rfl
  | false =>
    cases s.2.2.2.2.2.1 == 0 with
    | true => rfl
    | false =>
      simp -implicitDefEqProofs only [cond_false]
      cases portM u == s.2.2.2.2.2.1 <;> cases s.2.2.2.2.2.1 == 80 <;> rfl
def pathOK (a b : Bs) (moved : Bool) : Bool := moved || (a == ([] : Bs) || (a == b || (sufB a [47] && preB b a)))
theorem mPath_eq (V : Ev) (a b : Bs) (m : Bool) (ha : a.length ≤ 100000) (hb : b.length ≤ 100000) : match_Path_ V ((a, (b, (m, ()))), ()) = some ((pathOK a b m, ()), ()) := by
  have q1 : strings_HasSuffix_ V ((a, (([47] : Bs), ())), ()) = some ((sufB a [47], ()), ()) := by
    unfold strings_HasSuffix_
    have q := hasSuffix_eq V a [47] (by omega) (by simp)
    simp -implicitDefEqProofs only [q, Option.bind_some]
  have q2 : strings_HasPrefix_ V ((b, (a, ())), ()) = some ((preB b a, ()), ()) := by
    unfold strings_HasPrefix_
    have q := hasPrefixG_eq V b a (by omega) (by omega)
    simp -implicitDefEqProofs only [q, Option.bind_some]
  unfold match_Path_ pathOK
  simp -implicitDefEqProofs only [q1, q2, Option.bind_some]
  cases m <;> cases a == ([] : Bs) <;> cases a == b <;> cases sufB a [47] <;> rfl
theorem sufB_one (a : Bs) (c : UInt8) (h : 0 < a.length) : sufB a [c] = (a[a.length - 1] == c) := by
  unfold sufB
  rw [decide_eq_true (show ([c] : Bs).length ≤ a.length by simp; omega), Bool.true_and]
  have : a.drop (a.length - ([c] : Bs).length) = [a[a.length - 1]] := by
    rw [List.drop_eq_getElem_cons (show a.length - ([c] : Bs).length < a.length by simp; omega), List.drop_eq_nil_of_le (by simp; omega)]
    rfl
  rw [this]
  simp
theorem rPath_eq (V : Ev) (a b : Bs) (m : Bool) (ha : a.length ≤ 100000) (hb : b.length ≤ 100000) : pounceref10_Path_ V ((a, (b, (m, ()))), ()) = some ((pathOK a b m, ()), ()) := by
  unfold pounceref10_Path_ pathOK
  cases h1 : a == ([] : Bs) with
  | true => cases m <;> rfl
  | false =>
    cases m with
    | true => rfl
    | false =>
      cases h2 : a == b with
      | true => simp only [Bool.false_or, Bool.true_or]; simp -implicitDefEqProofs only [beq_self_eq_true, cond_true, Option.bind_some, h2]
      | false =>
        have hp : 0 < a.length := by
          cases a with
          | nil => cases h1
          | cons _ _ => simp
        have w : IntKind.wrap .i64 ((a.length : Int) - 1) = ((a.length - 1 : Nat) : Int) := by rw [wrap64 (by omega) (by omega)]; omega
        have i0 : idx a ((a.length - 1 : Nat) : Int) = some a[a.length - 1] := idx_nat (by omega)
        have hc : ((a[a.length - 1].toNat : Int) == 47) = (a[a.length - 1] == 47) := by
          rw [Bool.eq_iff_iff]
          simp only [beq_iff_eq]
          constructor
          · intro h; exact UInt8.toNat_inj.1 (by show _ = 47; omega)
          · intro h; rw [h]; rfl
        simp -implicitDefEqProofs only [beq_self_eq_true, cond_true, Option.bind_some, h2, cond_false, w, i0, hc, sufB_one a 47 hp, Bool.false_or]
        cases a[a.length - 1] == 47 with
        | false => rfl
        | true =>
          simp -implicitDefEqProofs only [beq_self_eq_true, cond_true, Bool.true_and]
          unfold preB
          by_cases hl : a.length ≤ b.length
          · have c : decide ((b.length : Int) ≥ (a.length : Int)) = true := decide_eq_true (by omega)
            have s1 : sl b (0 : Int) (a.length : Int) = some (b.take a.length) := by rw [show (0 : Int) = ((0 : Nat) : Int) from rfl, sl_nat (Nat.zero_le _) hl, List.drop_zero]
            simp -implicitDefEqProofs only [c, beq_self_eq_true, cond_true, s1, Option.bind_some, decide_eq_true hl, Bool.true_and]
          · simp only [decide_eq_false (show ¬ (b.length : Int) ≥ (a.length : Int) by omega), decide_eq_false hl, Bool.false_and]
            rfl
end Go.En.Pl
