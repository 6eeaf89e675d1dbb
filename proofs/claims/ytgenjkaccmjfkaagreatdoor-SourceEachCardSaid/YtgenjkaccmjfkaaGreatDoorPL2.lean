/- Text PL2 of this seat: written by a program of ours, or by hand; checked by Lean. -/
import Derived.Test.YtgenjkaccmjfkaaGreatDoorPL1
set_option linter.unusedSimpArgs false
set_option linter.unusedVariables false
namespace Go.En.Pl
/-! ### A port -/
def digC (c : UInt8) : Bool := decide (48 ≤ c.toNat) && decide (c.toNat ≤ 57)
def allDig (s : Bs) : Bool := s.all digC
def digV (s : Bs) : Nat := s.foldl (fun n c => n * 10 + (c.toNat - 48)) 0
theorem digs_contains (c : UInt8) : ([48, 49, 50, 51, 52, 53, 54, 55, 56, 57] : Bs).contains c = digC c := by
  have := fa_byte (P := fun c => ([48, 49, 50, 51, 52, 53, 54, 55, 56, 57] : Bs).contains c == digC c) (by kernel_rfl) c
  exact beq_iff_eq.1 this
theorem dw_nil {p : UInt8 → Bool} {l : Bs} : l.dropWhile p = [] ↔ ∀ x ∈ l, p x = true := by
  induction l with
  | nil => simp
  | cons a l ih =>
    rw [List.dropWhile_cons]
    cases ha : p a with
    | true => simp [ha, ih]
    | false => simp [ha]
theorem trimS_nil (s cs : Bs) : (Lib.trimS s cs == ([] : Bs)) = s.all (cs.contains ·) := by
  rw [Bool.eq_iff_iff, beq_iff_eq, List.all_eq_true]
  unfold Lib.trimS Lib.trimLeftS Lib.trimRightS
  constructor
  · intro h
    rw [dw_nil] at h
    cases hd : s.reverse.dropWhile (cs.contains ·) with
    | nil =>
      rw [dw_nil] at hd
      exact fun x hx => hd x (List.mem_reverse.2 hx)
    | cons c z =>
      have h1 := dropWhile_head _ c z hd
      have h2 := h c (by rw [hd]; simp)
      rw [h1] at h2
      cases h2
  · intro h
    have : s.reverse.dropWhile (cs.contains ·) = [] := dw_nil.2 (fun x hx => h x (List.mem_reverse.1 hx))
    rw [this]
    rfl
theorem trim_dig (V : Ev) (s : Bs) : ∃ x, strings_Trim_ V ((s, (([48, 49, 50, 51, 52, 53, 54, 55, 56, 57] : Bs), ())), ()) = some ((x, ()), ()) ∧ (x == ([] : Bs)) = allDig s := by
  refine ⟨Lib.trimS s [48, 49, 50, 51, 52, 53, 54, 55, 56, 57], rfl, ?_⟩
  rw [trimS_nil]
  unfold allDig
  congr 1
  funext c
  exact digs_contains c
theorem digV_snoc (l : Bs) (c : UInt8) : digV (l ++ [c]) = digV l * 10 + (c.toNat - 48) := by
  unfold digV
  rw [List.foldl_append]
  rfl
theorem digV_lt (s : Bs) (h : allDig s = true) : digV s < 10 ^ s.length := by
  rcases snoc_cases s with rfl | ⟨l, c, rfl⟩
  · decide
  · unfold allDig at h
    rw [List.all_append, Bool.and_eq_true] at h
    have ih := digV_lt l h.1
    have hc := h.2
    simp only [List.all_cons, List.all_nil, Bool.and_true, digC, Bool.and_eq_true, decide_eq_true_eq] at hc
    rw [digV_snoc, List.length_append, List.length_singleton, Nat.pow_succ]
    omega
termination_by s.length
decreasing_by all_goals (subst_vars; simp)
theorem Atoi_eq (N : Nat) (s : Bs) (h0 : s ≠ []) (h5 : s.length ≤ 5) (hd : allDig s = true) (hN : 10 < N) : strconv_Atoi_ (Ev.upto N) ((s, ()), ()) = some ((((digV s : Nat) : Int), (false, ())), ()) := by
  have dig : ∀ (i : Nat) (h : i < s.length), 48 ≤ s[i].toNat ∧ s[i].toNat ≤ 57 := fun i h => by
    have := List.all_eq_true.1 hd s[i] (List.getElem_mem h)
    simpa [digC] using this
  have hl : 0 < s.length := List.length_pos_iff.2 h0
  have d0 := dig 0 hl
  have i0 : idx s (0 : Int) = some s[0] := idx_nat (i := 0) hl
  have e45 : (((s[0].toNat : Nat) : Int) == 45) = false := by rw [beq_eq_false_iff_ne]; omega
  have e43 : (((s[0].toNat : Nat) : Int) == 43) = false := by rw [beq_eq_false_iff_ne]; omega
  have key : wp (istrconv_Atoi_ (Ev.upto N) ((s, ()), ())) (fun r => r = ((((digV s : Nat) : Int), ((none : Option Int), ())), ())) := by
    unfold istrconv_Atoi_
    have c1 : decide ((0 : Int) < (s.length : Int)) = true := decide_eq_true (by omega)
    have c2 : decide ((s.length : Int) < (19 : Int)) = true := decide_eq_true (by omega)
    simp -implicitDefEqProofs only [c1, c2, beq_self_eq_true, cond_true, cond_false, Option.bind_some, i0, e45, e43]
    refine wp_bind ?_
    have hol : (ofBs s).length = s.length := ofBs_length s
    refine wp_for (σ := Unit) (fun i _ => ((s, (((digV (s.take i) : Nat) : Int), (((ofBs s).length : Int), ((i : Int), ())))), (ofBs s, ()))) (fun _ _ => True) s.length () rfl trivial (by omega) ?_
    rintro i _ hi _
    by_cases hi' : i < s.length
    · have c0 : decide ((i : Int) < ((ofBs s).length : Int)) = true := decide_eq_true (by omega)
      have c3 : (decide (0 ≤ (i : Int)) && decide ((i : Int) < ((ofBs s).length : Int))) = true := by rw [c0, decide_eq_true (by omega)]; rfl
      have g : (ofBs s)[((i : Int)).toNat]? = some ((s[i].toNat : Nat) : Int) := by
        rw [Int.toNat_natCast, List.getElem?_eq_getElem (by omega), ofBs_gel hi']
      have hdi := dig i hi'
      have w8 : IntKind.wrap .u8 (((s[i].toNat : Nat) : Int) - 48) = ((s[i].toNat - 48 : Nat) : Int) := by rw [wrapu8 (by omega) (by omega)]; omega
      have c9 : decide (((s[i].toNat - 48 : Nat) : Int) > 9) = false := decide_eq_false (by omega)
      have hlt : digV (s.take i) < 100000 := by
        have ha : allDig (s.take i) = true := List.all_eq_true.2 (fun x hx => List.all_eq_true.1 hd x (List.mem_of_mem_take hx))
        have := digV_lt _ ha
        have h2 : (s.take i).length ≤ 5 := by simp; omega
        have h3 : 10 ^ (s.take i).length ≤ 10 ^ 5 := Nat.pow_le_pow_right (by decide) h2
        omega
      have w1 : IntKind.wrap .i64 (((digV (s.take i) : Nat) : Int) * 10) = ((digV (s.take i) * 10 : Nat) : Int) := by rw [wrap64 (by omega) (by omega)]; omega
      have w2 : IntKind.wrap .i64 ((s[i].toNat - 48 : Nat) : Int) = ((s[i].toNat - 48 : Nat) : Int) := wrap64 (by omega) (by omega)
      have w3 : IntKind.wrap .i64 (((digV (s.take i) * 10 : Nat) : Int) + ((s[i].toNat - 48 : Nat) : Int)) = ((digV (s.take (i + 1)) : Nat) : Int) := by
        rw [List.take_succ_eq_append_getElem hi', digV_snoc, wrap64 (by omega) (by omega)]; omega
      have w4 : IntKind.wrap .i64 ((i : Int) + 1) = ((i + 1 : Nat) : Int) := by rw [wrap64 (by omega) (by omega)]; omega
      simp -implicitDefEqProofs only [c0, c3, cond_true, cond_false, g, Option.bind_some, w8, c9, w1, w2, w3, w4]
      exact ⟨_, rfl, hi', (), rfl, trivial⟩
    · have c0 : decide ((i : Int) < ((ofBs s).length : Int)) = false := decide_eq_false (by omega)
      simp -implicitDefEqProofs only [c0, cond_false]
      refine ⟨_, rfl, ?_⟩
      have ht : s.take i = s := List.take_of_length_le (by omega)
      simp -implicitDefEqProofs only [i0, Option.bind_some, e45, cond_false, ht]
      exact ⟨_, rfl, rfl⟩
  unfold strconv_Atoi_
  obtain ⟨_, e, rfl⟩ := key
  simp -implicitDefEqProofs only []
  rw [e]
  rfl
def portS (n : Bs) : Option Int := if n = [42] then some (-1) else if n ≠ [] ∧ n.length ≤ 5 ∧ allDig n = true ∧ 0 < digV n then some ((digV n : Nat) : Int) else none
abbrev Cut := Src × Bs
def withP (c : Cut) (p : Int) : Cut := ((c.1.1, (c.1.2.1, (c.1.2.2.1, (c.1.2.2.2.1, (c.1.2.2.2.2.1, (p, c.1.2.2.2.2.2.2)))))), c.2)
theorem port_eq (N : Nat) (n : Bs) (c : Cut) (hN : 10 < N) : wp (source_cutter_port_456 (Ev.upto N) ((n, ()), ((c, ()), ()))) (fun o => ∃ b c', o = ((b, ()), ((c', ()), ())) ∧ match portS n with | some p => b = true ∧ c' = withP c p | none => b = false) := by
  unfold source_cutter_port_456 portS
  by_cases h42 : n = [42]
  · subst h42
    exact ⟨_, rfl, true, _, rfl, by rw [if_pos rfl]; exact ⟨rfl, rfl⟩⟩
  · have c42 : (n == ([42] : Bs)) = false := by simpa using h42
    obtain ⟨x, qx, hx⟩ := trim_dig (Ev.upto N) n
    rw [if_neg h42]
    simp -implicitDefEqProofs only [c42, cond_false]
    by_cases h0 : n = []
    · subst h0
      exact ⟨_, rfl, false, c, rfl, by rw [if_neg (by simp)]⟩
    · have c0 : (n == ([] : Bs)) = false := by simpa using h0
      by_cases h5 : (n.length : Int) > 5
      · rw [c0, decide_eq_true h5]
        exact ⟨_, rfl, false, c, rfl, by rw [if_neg (by omega)]⟩
      · rw [c0, decide_eq_false h5]
        simp -implicitDefEqProofs only [beq_self_eq_true, cond_true, qx, Option.bind_some, hx]
        cases hd : allDig n with
        | false =>
          simp -implicitDefEqProofs only [Bool.not_false, cond_true]
          exact ⟨_, rfl, false, c, rfl, by rw [if_neg (by simp)]⟩
        | true =>
          have qa := Atoi_eq N n h0 (by omega) hd hN
          simp -implicitDefEqProofs only [Bool.not_true, cond_false, qa, Option.bind_some]
          by_cases hp : 0 < digV n
          · have e : decide (((digV n : Nat) : Int) > 0) = true := decide_eq_true (by omega)
            rw [if_pos ⟨h0, by omega, by trivial, hp⟩]
            exact ⟨_, rfl, true, withP c ((digV n : Nat) : Int), by rw [e]; rfl, rfl, rfl⟩
          · have e : decide (((digV n : Nat) : Int) > 0) = false := decide_eq_false (by omega)
            rw [if_neg (by omega)]
            exact ⟨_, rfl, false, withP c ((digV n : Nat) : Int), by rw [e]; rfl, rfl⟩
end Go.En.Pl
