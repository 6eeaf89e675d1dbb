/- Text PS3 of this seat: written by a program of ours, or by hand; checked by Lean. -/
import Derived.Test.YtgenjkaccmjfkaaGreatDoorPS2
import Derived.Test.YtgenjkaccmjfkaaGreatDoorSU
set_option linter.unusedSimpArgs false
set_option linter.unusedVariables false
namespace Go.En.Pl
abbrev Src := Int × (Bs × (Bs × (Bs × (Bool × (Int × Bs)))))
/-! ### A source's scheme, host, path -/
theorem defB_scheme (s : Bs) (h : (defB s == 0) = false) : schemeB s = true := by
  unfold defB at h
  cases h1 : (s == ([104, 116, 116, 112] : Bs)) with
  | true => rw [beq_iff_eq.1 h1]; kernel_rfl
  | false =>
    cases h2 : (s == ([119, 115] : Bs)) with
    | true => rw [beq_iff_eq.1 h2]; kernel_rfl
    | false =>
      cases h3 : (s == ([104, 116, 116, 112, 115] : Bs)) with
      | true => rw [beq_iff_eq.1 h3]; kernel_rfl
      | false =>
        cases h4 : (s == ([119, 115, 115] : Bs)) with
        | true => rw [beq_iff_eq.1 h4]; kernel_rfl
        | false => rw [h1, h2, h3, h4] at h; simp at h
theorem schemeB_len {s : Bs} (h : schemeB s = true) : s.length ≤ 20 := by
  unfold schemeB at h
  simp only [Bool.and_eq_true, decide_eq_true_eq] at h
  omega
theorem hostB_len {s : Bs} (h : hostB s = true) : s.length ≤ 100 := by
  unfold hostB at h
  simp only [Bool.and_eq_true, decide_eq_true_eq] at h
  omega
theorem sscheme_eq (N : Nat) (s : Bs) (hs : s.length ≤ 100000) (hN : 100005 < N) : source_scheme_ (Ev.upto N) ((s, ()), ()) = some ((schemeB s, ()), ()) := by
  have q := Check_eq N (true, (s, (([] : Bs), ((0 : Int), (([] : Bs), ([] : Bs)))))) ⟨hs, by simp, by simp, by simp⟩ hN
  have hd := default_eq (Ev.upto N) ((s, ()), ())
  unfold source_scheme_
  simp -implicitDefEqProofs only [hd, Option.bind_some]
  cases hz : (defB s == 0) with
  | false =>
    have : (defB s != 0) = true := by rw [bne, hz]; rfl
    simp -implicitDefEqProofs only [this, show (true == false) = false from rfl, cond_false, Option.bind_some, defB_scheme s hz]
  | true =>
    have : (defB s != 0) = false := by rw [bne, hz]; rfl
    have hu : urlB (true, (s, (([] : Bs), ((0 : Int), (([] : Bs), ([] : Bs)))))) = schemeB s := by
      unfold urlB opqB textB
      simp only [hz, cond_true]
      cases hs' : schemeB s with
      | false => rfl
      | true =>
        have := schemeB_len hs'
        rw [decide_eq_true (by simp; omega)]
        rfl
    rw [hu] at q
    simp -implicitDefEqProofs only [this, beq_self_eq_true, cond_true, q, Option.bind_some]
    cases schemeB s <;> rfl
theorem shost_eq (N : Nat) (s : Bs) (hs : s.length ≤ 100000) (hN : 100005 < N) : source_host_ (Ev.upto N) ((s, ()), ()) = some ((hostB s, ()), ()) := by
  have q := Check_eq N (false, (([104, 116, 116, 112] : Bs), (s, ((0 : Int), (([47] : Bs), ([] : Bs)))))) ⟨by simp, hs, by simp, by simp⟩ hN
  have hu : urlB (false, (([104, 116, 116, 112] : Bs), (s, ((0 : Int), (([47] : Bs), ([] : Bs)))))) = hostB s := by
    unfold urlB rankB textB
    simp only [cond_false]
    rw [show schemeB ([104, 116, 116, 112] : Bs) = true from by kernel_rfl, show (defB ([104, 116, 116, 112] : Bs) == 0) = false from by kernel_rfl, show portB 0 = [] from rfl, show cleanB [47] = true from by kernel_rfl]
    cases hs' : hostB s with
    | false => rfl
    | true =>
      have := hostB_len hs'
      generalize hL : (([104, 116, 116, 112] : Bs) ++ [58, 47, 47] ++ s ++ [] ++ [47] ++ []) = L
      have hl : L.length ≤ 500 := by rw [← hL]; simp; omega
      rw [decide_eq_true (by omega : (L.length : Int) ≤ 500)]
      rfl
  rw [hu] at q
  unfold source_host_
  simp -implicitDefEqProofs only [q, Option.bind_some]
  cases hostB s <;> rfl
def okC (n : Int) : Bool := decide (n < 33) || (decide (n > 126) || (n == 63 || (n == 35 || (n == 44 || (n == 59 || n == 58)))))
theorem idxS (c : UInt8) : decide (Lib.indexByte ([63, 35, 44, 59, 58] : Bs) c ≥ 0) = ((c.toNat : Int) == 63 || ((c.toNat : Int) == 35 || ((c.toNat : Int) == 44 || ((c.toNat : Int) == 59 || (c.toNat : Int) == 58)))) := by
  have := fa_byte (P := fun c => decide (Lib.indexByte ([63, 35, 44, 59, 58] : Bs) c ≥ 0) == ((c.toNat : Int) == 63 || ((c.toNat : Int) == 35 || ((c.toNat : Int) == 44 || ((c.toNat : Int) == 59 || (c.toNat : Int) == 58))))) (by kernel_rfl) c
  simpa using this
theorem IB_eq (V : Ev) (s : Bs) (c : UInt8) : strings_IndexByte_ V ((s, ((((c.toNat : Nat) : Int)), ())), ()) = some ((Lib.indexByte s c, ()), ()) := by
  have : Nat.toUInt8 (Int.toNat ((c.toNat : Nat) : Int)) = c := by rw [Int.toNat_natCast]; exact UInt8.ofNat_toNat
  show some ((Lib.indexByte s (Nat.toUInt8 (Int.toNat ((c.toNat : Nat) : Int))), ()), ()) = _
  rw [this]
def pathB (s : Bs) : Bool := match s with
  | [] => true
  | c :: r => c == 47 && (decide (((c :: r).length : Int) ≤ 200) && (c :: r).all fun c => !okC (c.toNat : Int))
theorem pathB_cons (c : UInt8) (r : Bs) : pathB (c :: r) = (c == 47 && (decide (((c :: r).length : Int) ≤ 200) && (c :: r).all fun c => !okC (c.toNat : Int))) := rfl
theorem byteZ (c : UInt8) (n : Nat) (hn : n < 256) : (((c.toNat : Nat) : Int) == (n : Int)) = (c == UInt8.ofNat n) := by
  rw [Bool.eq_iff_iff, beq_iff_eq, beq_iff_eq]
  constructor
  · intro h
    apply UInt8.toNat_inj.1
    rw [UInt8.toNat_ofNat', Nat.mod_eq_of_lt hn]
    omega
  · intro h
    rw [h, UInt8.toNat_ofNat', Nat.mod_eq_of_lt hn]
theorem spath_eq (N : Nat) (s : Bs) (hs : s.length ≤ 100000) (hN : s.length < N) : source_path_ (Ev.upto N) ((s, ()), ()) = some ((pathB s, ()), ()) := by
  cases s with
  | nil => rfl
  | cons c r =>
    apply wp_eq
    unfold source_path_
    rw [show ((c :: r) == ([] : Bs)) = false from rfl, cond_false]
    refine wp_bind ?_
    refine wp_for (σ := Unit) (fun i _ => (((c :: r), (((c :: r).length : Int), ((i : Int), ()))), ())) (fun i _ => ((c :: r).take i).all (fun c => !okC (c.toNat : Int)) = true) (c :: r).length () rfl (by simp) hN ?_
    rintro i _ hi hn
    by_cases hi' : i < (c :: r).length
    · have c0 : decide ((i : Int) < ((c :: r).length : Int)) = true := decide_eq_true (by omega)
      have w : IntKind.wrap .i64 ((i : Int) + 1) = ((i + 1 : Nat) : Int) := by rw [wrap64 (by omega) (by omega)]; omega
      simp -implicitDefEqProofs only [c0, cond_true, idx_nat hi', Option.bind_some]
      generalize hg : (c :: r)[i] = g
      have qi := IB_eq (Ev.upto N) [63, 35, 44, 59, 58] g
      have key : wp ((bif (decide (((g).toNat : Int) < (33 : Int)) == false) then (bif (decide (((g).toNat : Int) > (126 : Int)) == false) then ((strings_IndexByte_ (Ev.upto N) ((([63, 35, 44, 59, 58] : Bs), (((g).toNat : Int), ())), ())).bind fun v3 => (some (((c :: r), (((c :: r).length : Int), ((i : Int), (decide (v3.1.1 ≥ (0 : Int)), ())))), ()))) else (some (((c :: r), (((c :: r).length : Int), ((i : Int), (true, ())))), ()))) else (some (((c :: r), (((c :: r).length : Int), ((i : Int), (true, ())))), ())) : Option ((Bs × Int × Int × Bool × Unit) × Unit))) (fun o => o = (((c :: r), (((c :: r).length : Int), ((i : Int), (okC (g.toNat : Int), ())))), ())) := by
        unfold okC
        cases decide (((g).toNat : Int) < (33 : Int)) with
        | true => exact ⟨_, rfl, rfl⟩
        | false =>
          cases decide (((g).toNat : Int) > (126 : Int)) with
          | true => exact ⟨_, rfl, rfl⟩
          | false =>
            simp -implicitDefEqProofs only [beq_self_eq_true, cond_true, qi, Option.bind_some, idxS, Bool.false_or]
            exact ⟨_, rfl, rfl⟩
      obtain ⟨_, e, rfl⟩ := key
      rw [e]
      cases hc : okC (g.toNat : Int) with
      | true =>
        refine ⟨_, rfl, _, rfl, ?_⟩
        have : ((c :: r).all fun c => !okC (c.toNat : Int)) = false := all_no hi' (by rw [hg, hc]; rfl)
        have e2 : pathB (c :: r) = false := by
          show (c == 47 && (decide (((c :: r).length : Int) ≤ 200) && (c :: r).all fun c => !okC (c.toNat : Int))) = false
          rw [this, Bool.and_false, Bool.and_false]
        rw [e2]
      | false =>
        simp -implicitDefEqProofs only [Option.bind_some, cond_false, w]
        exact ⟨_, rfl, hi', (), rfl, by rw [all_take hi', hn, hg, hc]; rfl⟩
    · have c0 : decide ((i : Int) < ((c :: r).length : Int)) = false := decide_eq_false (by omega)
      rw [List.take_of_length_le (by omega)] at hn
      simp -implicitDefEqProofs only [c0, cond_false]
      refine ⟨_, rfl, ?_⟩
      rw [show pathB (c :: r) = (c == 47 && (decide (((c :: r).length : Int) ≤ 200) && (c :: r).all fun c => !okC (c.toNat : Int))) from rfl, hn]
      simp -implicitDefEqProofs only [idx_zero, Option.bind_some]
      have := byteZ c 47 (by decide)
      rw [show (((c.toNat : Nat) : Int) == 47) = (c == 47) from this]
      cases (c == 47) with
      | true => simp -implicitDefEqProofs only [beq_self_eq_true, cond_true, Option.bind_some, Bool.true_and, Bool.and_true]; exact ⟨_, rfl, rfl⟩
      | false => exact ⟨_, rfl, rfl⟩
def badHd : Bs → Bool
  | [] => false
  | c :: _ => !(c == 47)
theorem rpath_eq (N : Nat) (s : Bs) (hs : s.length ≤ 100000) (hN : s.length < N) : pounceref09_path_ (Ev.upto N) ((s, ()), ()) = some ((pathB s, ()), ()) := by
  apply wp_eq
  unfold pounceref09_path_
  have first : wp ((bif (decide (((s).length : Int) > (200 : Int)) == false) then (bif ((!(s == ([] : Bs))) == true) then ((idx s (0 : Int)).bind fun v1 => (some ((s, ((((v1).toNat : Int) != (47 : Int)), ())), ()))) else (some ((s, (false, ())), ()))) else (some ((s, (true, ())), ())) : Option ((Bs × Bool × Unit) × Unit))) (fun o => o = ((s, (decide ((s.length : Int) > 200) || badHd s, ())), ())) := by
    by_cases hl : (s.length : Int) > 200
    · rw [decide_eq_true hl]; exact ⟨_, rfl, rfl⟩
    · rw [decide_eq_false hl]
      cases s with
      | nil => exact ⟨_, rfl, rfl⟩
      | cons c r =>
        have := byteZ c 47 (by decide)
        simp -implicitDefEqProofs only [idx_zero, Option.bind_some, bne, show (((c.toNat : Nat) : Int) == 47) = (c == 47) from this]
        exact ⟨_, rfl, rfl⟩
  obtain ⟨_, e, rfl⟩ := first
  rw [e]
  simp -implicitDefEqProofs only [Option.bind_some]
  cases hb : (decide ((s.length : Int) > 200) || badHd s) with
  | true =>
    refine ⟨_, rfl, ?_⟩
    cases s with
    | nil => cases hb
    | cons c r =>
      rw [pathB_cons]
      rcases Bool.or_eq_true _ _ ▸ hb with h | h
      · rw [decide_eq_false (by have := of_decide_eq_true h; omega)]; simp
      · have h : (!(c == 47)) = true := h
        rw [Bool.not_eq_true'] at h
        rw [h]; rfl
  | false =>
    simp -implicitDefEqProofs only [cond_false]
    rw [stop_loop N s okC (some ((true, ()), ())) (some ((false, ()), ())) _ _ ?_ ?_ rfl rfl hN (by omega)]
    · cases s with
      | nil => exact ⟨_, rfl, rfl⟩
      | cons c r =>
        obtain ⟨h1, h2⟩ := Bool.or_eq_false_iff.1 hb
        have h2 : (!(c == 47)) = false := h2
        have h3 : (c == 47) = true := by simpa using h2
        rw [pathB_cons, h3, decide_eq_true (by have := of_decide_eq_false h1; omega)]
        simp only [Bool.true_and]
        cases ((c :: r).all fun c => !okC (c.toNat : Int)) <;> exact ⟨_, rfl, rfl⟩
    · intro i h
      have c0 : decide ((i : Int) < (s.length : Int)) = true := decide_eq_true (by omega)
      simp -implicitDefEqProofs only [c0, cond_true, idx_nat h, Option.bind_some]
      unfold okC
      cases decide (((s[i]).toNat : Int) < (33 : Int)) <;> cases decide (((s[i]).toNat : Int) > (126 : Int)) <;> cases (((s[i]).toNat : Int) == (63 : Int)) <;> cases (((s[i]).toNat : Int) == (35 : Int)) <;> cases (((s[i]).toNat : Int) == (44 : Int)) <;> cases (((s[i]).toNat : Int) == (59 : Int)) <;> cases (((s[i]).toNat : Int) == (58 : Int)) <;> rfl
    · have c0 : decide (((s.length : Nat) : Int) < (s.length : Int)) = false := decide_eq_false (by omega)
      simp -implicitDefEqProofs only [c0, cond_false]
end Go.En.Pl
