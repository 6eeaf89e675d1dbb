/- Text PU4 of this seat: written by a program of ours, or by hand; checked by Lean. -/
import Derived.Test.YtikphcnjknbdmaaGreatDoorPU3
set_option linter.unusedSimpArgs false
set_option linter.unusedVariables false
namespace Go.En.Pl
/-! Addresses are right by the program just when they are right by the reference. -/
def visI (n : Int) : Bool := decide (n > 32) && (decide (n < 127) && (n != 63 && n != 35))
theorem byteOf_eq (V : Ev) (n : Int) : url_byteOf_ V ((n, ()), ()) = some ((visI n, ()), ()) := by
  unfold url_byteOf_ visI
  cases decide (n > 32) <;> cases decide (n < 127) <;> cases (n != 63) <;> rfl
def opqI (n : Int) : Bool := decide (n ≥ 32) && (decide (n < 127) && n != 35)
theorem check1_eq (V : Ev) (n : Int) : url_Check_1_ V ((n, ()), ()) = some ((opqI n, ()), ()) := by
  unfold url_Check_1_ opqI
  cases decide (n ≥ 32) <;> cases decide (n < 127) <;> rfl
theorem check2_eq (V : Ev) (n : Int) : url_Check_2_ V ((n, ()), ()) = some ((visI n || n == 63, ()), ()) := by
  unfold url_Check_2_
  have q := byteOf_eq V n
  simp -implicitDefEqProofs only [q, Option.bind_some]
  cases visI n <;> rfl
theorem all315_eq (N : Nat) (s : Bs) (hs : s.length < N) (hb : s.length ≤ 1000000) : url_all_315 (Ev.upto N) ((s, ()), ()) = some ((s.all fun c => visI (c.toNat : Int), ()), ()) := all_loop N s (fun n => url_byteOf_ (Ev.upto N) ((n, ()), ())) visI (byteOf_eq _) hs hb
theorem all890_eq (N : Nat) (s : Bs) (hs : s.length < N) (hb : s.length ≤ 1000000) : url_all_890 (Ev.upto N) ((s, ()), ()) = some ((s.all fun c => opqI (c.toNat : Int), ()), ()) := all_loop N s (fun n => url_Check_1_ (Ev.upto N) ((n, ()), ())) opqI (check1_eq _) hs hb
theorem allaf7_eq (N : Nat) (s : Bs) (hs : s.length < N) (hb : s.length ≤ 1000000) : url_all_af7 (Ev.upto N) ((s, ()), ()) = some ((s.all fun c => visI (c.toNat : Int) || (c.toNat : Int) == 63, ()), ()) := all_loop N s (fun n => url_Check_2_ (Ev.upto N) ((n, ()), ())) (fun n => visI n || n == 63) (check2_eq _) hs hb
/-- A loop over a text that stops where something is so; two more numbers are handed along. -/
theorem visible_eq (N : Nat) (s : Bs) (a b : Int) (hs : s.length < N) (hb : s.length ≤ 1000000) : pounceref05_visible_ (Ev.upto N) ((s, (a, (b, ()))), ()) = some ((s.all fun c => !(decide ((c.toNat : Int) < 33) || (decide ((c.toNat : Int) > 126) || ((c.toNat : Int) == a || (c.toNat : Int) == b))), ()), ()) := by
  apply wp_eq
  unfold pounceref05_visible_
  refine wp_bind ?_
  refine wp_for (σ := Unit) (fun i _ => ((s, (a, (b, ((i : Int), ())))), ())) (fun i _ => (s.take i).all (fun c => !(decide ((c.toNat : Int) < 33) || (decide ((c.toNat : Int) > 126) || ((c.toNat : Int) == a || (c.toNat : Int) == b)))) = true) s.length () rfl (by simp) hs ?_
  rintro i _ hi hn
  by_cases hi' : i < s.length
  · have c0 : decide ((i : Int) < (s.length : Int)) = true := decide_eq_true (by omega)
    have w : IntKind.wrap .i64 ((i : Int) + 1) = ((i + 1 : Nat) : Int) := by rw [wrap64 (by omega) (by omega)]; omega
    simp -implicitDefEqProofs only [c0, cond_true, idx_nat hi', Option.bind_some]
    cases h1 : decide ((s[i].toNat : Int) < 33) <;> cases h2 : decide ((s[i].toNat : Int) > 126) <;> cases h3 : ((s[i].toNat : Int) == a) <;> cases h4 : ((s[i].toNat : Int) == b) <;>
      first
      | exact ⟨_, rfl, hi', (), by simp only [w], by rw [all_take hi', hn, Bool.true_and]; simp only [h1, h2, h3, h4]; rfl⟩
      | exact ⟨_, rfl, _, rfl, by rw [all_no hi' (by simp only [h1, h2, h3, h4]; rfl)]⟩
  · have c0 : decide ((i : Int) < (s.length : Int)) = false := decide_eq_false (by omega)
    rw [List.take_of_length_le (by omega)] at hn
    simp -implicitDefEqProofs only [c0, cond_false]
    exact ⟨_, rfl, _, rfl, by rw [hn]⟩
theorem all_congr {α : Type} {p q : α → Bool} {l : List α} (h : ∀ x, p x = q x) : l.all p = l.all q := by rw [show p = q from funext h]
theorem vis_two (n : Int) : (!(decide (n < 33) || (decide (n > 126) || (n == 63 || n == 35)))) = visI n := by
  unfold visI
  rw [Bool.eq_iff_iff]
  simp only [Bool.not_eq_true', Bool.or_eq_false_iff, decide_eq_false_iff_not, beq_eq_false_iff_ne, Bool.and_eq_true, decide_eq_true_eq, bne_iff_ne]
  omega
theorem vis_one (n : Int) : (!(decide (n < 33) || (decide (n > 126) || (n == 35 || n == 35)))) = (visI n || n == 63) := by
  unfold visI
  rw [Bool.eq_iff_iff]
  simp only [Bool.not_eq_true', Bool.or_eq_false_iff, decide_eq_false_iff_not, beq_eq_false_iff_ne, Bool.and_eq_true, Bool.or_eq_true, decide_eq_true_eq, bne_iff_ne, beq_iff_eq]
  omega
theorem opq_vis (n : Int) : (!(decide (n < 32) || (decide (n > 126) || n == 35))) = opqI n := by
  unfold opqI
  rw [Bool.eq_iff_iff]
  simp only [Bool.not_eq_true', Bool.or_eq_false_iff, decide_eq_false_iff_not, beq_eq_false_iff_ne, Bool.and_eq_true, decide_eq_true_eq, bne_iff_ne]
  omega
theorem rest_eq (N : Nat) (s : Bs) (hs : s.length + 1 < N) (hb : s.length ≤ 1000000) : pounceref05_rest_ (Ev.upto N) ((s, ()), ()) = some (((s.all fun c => opqI (c.toNat : Int)) && (trimB s == s), ()), ()) := by
  apply wp_eq
  unfold pounceref05_rest_
  refine wp_bind ?_
  refine wp_for (σ := Unit) (fun i _ => ((s, ((i : Int), ())), ())) (fun i _ => (s.take i).all (fun c => opqI (c.toNat : Int)) = true) s.length () rfl (by simp) (by omega) ?_
  rintro i _ hi hn
  by_cases hi' : i < s.length
  · have c0 : decide ((i : Int) < (s.length : Int)) = true := decide_eq_true (by omega)
    have w : IntKind.wrap .i64 ((i : Int) + 1) = ((i + 1 : Nat) : Int) := by rw [wrap64 (by omega) (by omega)]; omega
    simp -implicitDefEqProofs only [c0, cond_true, idx_nat hi', Option.bind_some]
    have hx := opq_vis (s[i].toNat : Int)
    cases h1 : decide ((s[i].toNat : Int) < 32) <;> cases h2 : decide ((s[i].toNat : Int) > 126) <;> cases h3 : ((s[i].toNat : Int) == 35) <;> simp only [h1, h2, h3] at hx <;>
      first
      | exact ⟨_, rfl, hi', (), by simp only [w], by rw [all_take hi', hn, ← hx]; rfl⟩
      | exact ⟨_, rfl, _, rfl, by rw [show s.all (fun c => opqI (c.toNat : Int)) = false from all_no hi' hx.symm, Bool.false_and]⟩
  · have c0 : decide ((i : Int) < (s.length : Int)) = false := decide_eq_false (by omega)
    rw [List.take_of_length_le (by omega)] at hn
    have qt := rtrim_eq N s hs hb
    simp -implicitDefEqProofs only [c0, cond_false]
    refine ⟨_, rfl, ?_⟩
    simp -implicitDefEqProofs only [qt, Option.bind_some]
    exact ⟨_, rfl, by rw [hn]; rfl⟩
theorem pieces_eq (N : Nat) (c : UInt8) (r : Bs) (hs : r.length + 3 < N) (hb : r.length ≤ 100000) : pounceref05_Pieces_ (Ev.upto N) (((c :: r), ()), ()) = some ((), (spl r, ())) := by
  apply wp_eq
  unfold pounceref05_Pieces_
  refine wp_bind ?_
  refine wp_for (σ := Nat × List Bs) (fun i z => (((c :: r), (((z.1 + 1 : Nat) : Int), (((i + 1 : Nat) : Int), ()))), (z.2, ())))
    (fun i z => if i ≤ r.length then z.1 ≤ i ∧ z.2 ++ spl (r.drop z.1) = spl r ∧ (47 : UInt8) ∉ (r.drop z.1).take (i - z.1) else z.2 = spl r) (r.length + 1) (0, []) rfl (by simp) (by omega) ?_
  rintro i ⟨f, l⟩ hi hn
  have hr1 : (c :: r).length = r.length + 1 := rfl
  by_cases hi' : i ≤ r.length
  · rw [if_pos hi'] at hn
    obtain ⟨h1, h2, h3⟩ := hn
    simp only at h1 h2 h3
    have hll : l.length ≤ r.length + 1 := by
      have h4 := len_wt l
      have h5 := wt_append l (spl (r.drop f))
      rw [h2, wt_spl] at h5
      omega
    have c0 : decide (((i + 1 : Nat) : Int) ≤ ((c :: r).length : Int)) = true := decide_eq_true (by omega)
    have w : IntKind.wrap .i64 (((i + 1 : Nat) : Int) + 1) = ((i + 1 + 1 : Nat) : Int) := by rw [wrap64 (by omega) (by omega)]; omega
    have s1 : sl (c :: r) ((f + 1 : Nat) : Int) ((i + 1 : Nat) : Int) = some ((r.drop f).take (i - f)) := by
      rw [sl_nat (by omega) (by omega), List.take_succ_cons, List.drop_succ_cons, List.drop_take]
    have ff : ∀ p : Bs, fits (l.length + ([p] : List Bs).length) 16 = true := fun p => fits_of (by simp only [List.length_cons, List.length_nil]; omega)
    by_cases he : i = r.length
    · have e0 : (((i + 1 : Nat) : Int) == ((c :: r).length : Int)) = true := by simp only [beq_iff_eq]; omega
      simp -implicitDefEqProofs only [c0, cond_true, e0, show (true == false) = false from rfl, cond_false, Option.bind_some, s1, ff, w]
      refine ⟨_, rfl, by omega, (i + 1, _), rfl, ?_⟩
      rw [if_neg (by omega)]
      simp only
      rw [← h2]
      have h4 : (r.drop f).take (i - f) = r.drop f := List.take_of_length_le (by simp; omega)
      rw [h4] at h3 ⊢
      rw [spl_no h3]
    · have e0 : (((i + 1 : Nat) : Int) == ((c :: r).length : Int)) = false := by simp only [beq_eq_false_iff_ne]; omega
      have hlt : i < r.length := by omega
      have g : idx (c :: r) ((i + 1 : Nat) : Int) = some r[i] := by rw [idx_nat (show i + 1 < (c :: r).length by omega)]; rfl
      have hdt : (r.drop f).take (i + 1 - f) = (r.drop f).take (i - f) ++ [r[i]] := by
        rw [show i + 1 - f = (i - f) + 1 by omega, List.take_succ_eq_append_getElem (by simp; omega)]
        congr 2
        rw [List.getElem_drop]; congr 1; omega
      simp -implicitDefEqProofs only [c0, cond_true, e0, beq_self_eq_true, g, Option.bind_some]
      cases hc : ((r[i].toNat : Int) == 47) with
      | true =>
        have hc' : r[i] = 47 := by
          apply UInt8.toNat_inj.1
          have : (r[i].toNat : Int) = 47 := by simpa using hc
          show r[i].toNat = 47
          omega
        simp -implicitDefEqProofs only [cond_true, s1, Option.bind_some, ff, w]
        refine ⟨_, rfl, by omega, (i + 1, _), rfl, ?_⟩
        rw [if_pos (by omega)]
        refine ⟨Nat.le_refl _, ?_, by simp⟩
        simp only
        rw [← h2, List.append_assoc]
        congr 1
        have : r.drop f = (r.drop f).take (i - f) ++ 47 :: r.drop (i + 1) := by
          conv => lhs; rw [← List.take_append_drop (i - f) (r.drop f), List.drop_drop, show f + (i - f) = i by omega, List.drop_eq_getElem_cons hlt, hc']
        conv => rhs; rw [this, spl_cut _ h3]
        rfl
      | false =>
        have hc' : ¬ (47 : UInt8) = r[i] := fun e => by rw [← e] at hc; simp at hc
        simp -implicitDefEqProofs only [cond_false, Option.bind_some, w]
        refine ⟨_, rfl, by omega, (f, l), rfl, ?_⟩
        rw [if_pos (by omega)]
        refine ⟨by simp only; omega, h2, ?_⟩
        simp only
        rw [hdt]
        intro hm
        rcases List.mem_append.1 hm with hm | hm
        · exact h3 hm
        · exact hc' (List.mem_singleton.1 hm)
  · rw [if_neg hi'] at hn
    have c0 : decide (((i + 1 : Nat) : Int) ≤ ((c :: r).length : Int)) = false := decide_eq_false (by omega)
    simp -implicitDefEqProofs only [c0, cond_false]
    exact ⟨_, rfl, _, rfl, by rw [← hn]⟩
theorem dots_loop (N : Nat) (l : List Bs) (hs : l.length < N) (hb : l.length ≤ 1000000) (step : ((Int × Unit) × (List Bs × Unit)) → Option (((Int × Unit) × (List Bs × Unit)) ⊕ ((Unit × Unit) ⊕ ((Bool × Unit) × Unit))))
    (h1 : ∀ (i : Nat) (h : i < l.length), step (((i : Int), ()), (l, ())) = some (bif dotsB l[i] then .inr (.inr ((false, ()), ())) else .inl ((IntKind.wrap .i64 ((i : Int) + 1), ()), (l, ())))) (h2 : step (((l.length : Int), ()), (l, ())) = some (.inr (.inl ((), ())))) :
    (Ev.upto N).it step (((0 : Int), ()), (l, ())) = some (bif l.all (fun p => !dotsB p) then .inl ((), ()) else .inr ((false, ()), ())) := by
  apply wp_eq
  refine wp_for (σ := Unit) (fun i _ => (((i : Int), ()), (l, ()))) (fun i _ => (l.take i).all (fun p => !dotsB p) = true) l.length () rfl (by simp) hs ?_
  rintro i _ hi hn
  by_cases hi' : i < l.length
  · have w : IntKind.wrap .i64 ((i : Int) + 1) = ((i + 1 : Nat) : Int) := by rw [wrap64 (by omega) (by omega)]; omega
    rw [h1 i hi', w]
    cases hc : dotsB l[i] with
    | true => exact ⟨_, rfl, by rw [all_no hi' (by rw [hc]; rfl)]; rfl⟩
    | false => exact ⟨_, rfl, hi', (), rfl, by rw [all_take hi', hn, hc]; rfl⟩
  · obtain rfl : i = l.length := by omega
    rw [List.take_of_length_le (Nat.le_refl _)] at hn
    rw [h2]
    exact ⟨_, rfl, by rw [hn]; rfl⟩
theorem clean_eq (N : Nat) (s : Bs) (hs : s.length + 3 < N) (hb : s.length ≤ 100000) : pounceref05_clean_ (Ev.upto N) ((s, ()), ()) = some ((cleanB s && s.all fun c => visI (c.toNat : Int), ()), ()) := by
  unfold pounceref05_clean_
  cases s with
  | nil => rfl
  | cons c r =>
    have hr1 : (c :: r).length = r.length + 1 := rfl
    have qv := visible_eq N (c :: r) 63 35 (by omega) (by omega)
    simp only [vis_two] at qv
    have hc : ((c.toNat : Int) != 47) = !(c == 47) := by
      have : (c == 47) = ((c.toNat : Int) == 47) := by
        rw [Bool.eq_iff_iff]
        simp only [beq_iff_eq]
        constructor
        · rintro rfl; rfl
        · intro h; exact UInt8.toNat_inj.1 (by show c.toNat = 47; omega)
      rw [this]; rfl
    have hcl : cleanB (c :: r) = (c == 47 && (spl r).all fun p => !dotsB p) := rfl
    simp -implicitDefEqProofs only [nil_beq_cons, beq_self_eq_true, cond_true, idx_zero, Option.bind_some, hc, hcl]
    cases h1 : c == 47 with
    | false => rfl
    | true =>
      simp -implicitDefEqProofs only [Bool.not_true, beq_self_eq_true, cond_true, qv, Option.bind_some, Bool.true_and]
      cases h2 : (c :: r).all fun c => visI (c.toNat : Int) with
      | false => simp only [Bool.and_false]; rfl
      | true =>
        have qp := pieces_eq N c r (by omega) (by omega)
        have hlen : (spl r).length ≤ r.length + 1 := by have := len_wt (spl r); rw [wt_spl] at this; exact this
        have ql := dots_loop N (spl r) (by omega) (by omega) (fun s5 => (bif decide (s5.1.1 < ((s5.2.1).length : Int)) then ((bif (decide (0 ≤ s5.1.1) && decide (s5.1.1 < ((s5.2.1).length : Int))) then ((s5.2.1)[(s5.1.1).toNat]?.bind fun v6 => (bif ((v6 == ([46] : Bs)) == false) then (bif (decide (0 ≤ s5.1.1) && decide (s5.1.1 < ((s5.2.1).length : Int))) then ((s5.2.1)[(s5.1.1).toNat]?.bind fun v7 => (some ((s5.1.1, ((v7 == ([46, 46] : Bs)), ())), (s5.2.1, ())))) else none) else (some ((s5.1.1, (true, ())), (s5.2.1, ()))))) else none).bind fun o8 => (bif o8.1.2.1 then (some (Sum.inr (Sum.inr ((false, ()), ())))) else (some (Sum.inl (((IntKind.wrap .i64 (o8.1.1 + (1 : Int))), ()), (o8.2.1, ())))))) else (some (Sum.inr (Sum.inl ((), ()))))))
          (fun i h => by
            have c0 : decide ((i : Int) < ((spl r).length : Int)) = true := decide_eq_true (by omega)
            have g1 : decide ((0 : Int) ≤ (i : Int)) = true := decide_eq_true (by omega)
            have g2 : (spl r)[((i : Int)).toNat]? = some (spl r)[i] := by rw [Int.toNat_natCast]; exact List.getElem?_eq_getElem h
            unfold dotsB
            simp -implicitDefEqProofs only [c0, g1, g2, Bool.and_self, cond_true, Option.bind_some]
            cases ((spl r)[i] == ([46] : Bs)) <;> cases ((spl r)[i] == ([46, 46] : Bs)) <;> rfl)
          (by simp -implicitDefEqProofs only [show decide (((spl r).length : Int) < ((spl r).length : Int)) = false from decide_eq_false (by omega), cond_false])
        simp -implicitDefEqProofs only [Bool.not_true, cond_false, qp, Option.bind_some, Bool.and_true]
        refine (congrArg (fun o => Option.bind o _) ql).trans ?_
        cases (spl r).all fun p => !dotsB p <;> rfl
end Go.En.Pl
