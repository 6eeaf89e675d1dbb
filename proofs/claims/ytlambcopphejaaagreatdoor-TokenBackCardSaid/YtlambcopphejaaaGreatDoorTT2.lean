/- Text TT2 of this seat: written by a program of ours, or by hand; checked by Lean. -/
import Derived.Test.YtlambcopphejaaaGreatDoorTT1
set_option linter.unusedSimpArgs false
set_option linter.unusedVariables false
namespace Go.En.Pl
def blanks : Bs := [9, 10, 12, 13, 32]
def trimB (s : Bs) : Bs := Lib.trimS s blanks
theorem trim_eq (V : Ev) (t : (Bs × Unit) × Unit) : fold_Trim_ V t = some ((trimB t.1.1, ()), ()) := rfl
theorem contains_blank (c : UInt8) : blanks.contains c = ((c.toNat : Int) == 9 || ((c.toNat : Int) == 10 || ((c.toNat : Int) == 12 || ((c.toNat : Int) == 13 || (c.toNat : Int) == 32)))) := by
  have h : ∀ k : UInt8, (c == k) = ((c.toNat : Int) == (k.toNat : Int)) := fun k => by
    rw [Bool.eq_iff_iff]
    simp only [beq_iff_eq]
    constructor
    · rintro rfl; rfl
    · intro h; exact UInt8.toNat_inj.1 (by omega)
  unfold blanks
  simp only [List.contains_cons, List.contains_nil, Bool.or_false, h]
  rfl
theorem rblank_eq (V : Ev) (t : (Int × Unit) × Unit) : pounceref02_Blank_ V t = some ((t.1.1 == 9 || (t.1.1 == 10 || (t.1.1 == 12 || (t.1.1 == 13 || t.1.1 == 32))), ()), ()) := by
  unfold pounceref02_Blank_
  cases t.1.1 == (9 : Int) <;> cases t.1.1 == (10 : Int) <;> cases t.1.1 == (12 : Int) <;> cases t.1.1 == (13 : Int) <;> rfl
theorem rblank_at (V : Ev) (c : UInt8) : pounceref02_Blank_ V ((((c.toNat : Nat) : Int), ()), ()) = some ((blanks.contains c, ()), ()) := by
  rw [rblank_eq, contains_blank]
theorem rtrim_eq (N : Nat) (s : Bs) (hN : s.length + 1 < N) (hb : s.length ≤ 1000000) : pounceref02_Trim_ (Ev.upto N) ((s, ()), ()) = some ((trimB s, ()), ()) := by
  apply wp_eq
  unfold pounceref02_Trim_
  refine wp_bind ?_
  refine wp_for (σ := Unit) (fun i _ => ((s, ((i : Int), ())), ())) (fun i _ => ∀ (j : Nat) b, j < i → s[j]? = some b → blanks.contains b = true) s.length () rfl (fun j b h => by omega) (by omega) ?_
  rintro i _ hi hn
  have back : ∀ (from_ : Nat), from_ ≤ s.length → (∀ (j : Nat) b, j < from_ → s[j]? = some b → blanks.contains b = true) → (∀ b, s[from_]? = some b → blanks.contains b = false) →
      wp (((Ev.upto N).it (α := ((Bs × Int × Int × Unit) × (Unit))) (β := ((Bs × Int × Int × Unit) × (Unit))) (fun s6 => ((bif (decide (s6.1.2.2.1 > s6.1.2.1) == true) then ((idx s6.1.1 (IntKind.wrap .i64 (s6.1.2.2.1 - (1 : Int)))).bind fun v7 => ((pounceref02_Blank_ (Ev.upto N) ((((v7).toNat : Int), ()), ())).bind fun v8 => (some ((s6.1.1, (s6.1.2.1, (s6.1.2.2.1, (v8.1.1, ())))), ())))) else (some ((s6.1.1, (s6.1.2.1, (s6.1.2.2.1, (false, ())))), ()))).bind fun o9 => (bif o9.1.2.2.2.1 then (some (Sum.inl ((o9.1.1, (o9.1.2.1, ((IntKind.wrap .i64 (o9.1.2.2.1 - (1 : Int))), ()))), ()))) else (some (Sum.inr ((o9.1.1, (o9.1.2.1, (o9.1.2.2.1, ()))), ())))))) ((s, ((from_ : Int), ((s.length : Int), ()))), ())).bind fun o10 => ((sl o10.1.1 o10.1.2.1 o10.1.2.2.1).bind fun v11 => (some ((v11, ()), ())))) (fun r => r = ((trimB s, ()), ())) := by
    intro from_ hf h1 h2
    refine wp_bind ?_
    refine wp_it (fun a => ∃ k : Nat, a = ((s, ((from_ : Int), ((k : Int), ()))), ()) ∧ from_ ≤ k ∧ k ≤ s.length ∧ ∀ (j : Nat) b, k ≤ j → s[j]? = some b → blanks.contains b = true) (fun a => a.1.2.2.1.toNat) ⟨s.length, rfl, hf, Nat.le_refl _, fun j b hj hb => by rw [List.getElem?_eq_none (by omega)] at hb; cases hb⟩ (by simp; omega) ?_
    rintro _ ⟨k, rfl, hk1, hk2, hk3⟩
    have stop : (k = from_ ∨ ∃ h : k - 1 < s.length, 0 < k ∧ blanks.contains s[k - 1] = false) → trimB s = (s.take k).drop from_ := by
      intro h
      unfold trimB Lib.trimS
      by_cases hfk : from_ = s.length
      · have hk : k = s.length := by omega
        have hall : ∀ (j : Nat) b, 0 ≤ j → s[j]? = some b → blanks.contains b = true := fun j b _ hb => h1 j b (by rw [hfk]; exact (List.getElem?_eq_some_iff.1 hb).1) hb
        rw [Lib.trimRightS_take s blanks 0 (Nat.zero_le _) hall (fun b h0 => absurd h0 (by omega)), hk, hfk, List.take_length, List.drop_length]
        rfl
      · have hlt : from_ < s.length := by omega
        have hnb := h2 _ (List.getElem?_eq_getElem hlt)
        have hkf : from_ < k := by
          rcases Nat.lt_or_ge from_ k with h' | h'
          · exact h'
          · have := hk3 from_ _ h' (List.getElem?_eq_getElem hlt)
            rw [hnb] at this; cases this
        have hlast : ∀ b, 0 < k → s[k - 1]? = some b → blanks.contains b = false := by
          intro b _ hb
          rcases h with h | ⟨h3, h4, h5⟩
          · omega
          · rw [List.getElem?_eq_getElem h3] at hb; cases hb; exact h5
        rw [Lib.trimRightS_take s blanks k hk2 hk3 hlast]
        refine Lib.trimLeftS_drop _ blanks from_ (by simp; omega) (fun j b hj hb => ?_) (fun b hb => ?_)
        · rw [List.getElem?_take, if_pos (by omega)] at hb
          exact h1 j b hj hb
        · rw [List.getElem?_take, if_pos hkf] at hb
          exact h2 b hb
    have fin : trimB s = (s.take k).drop from_ → wp ((sl s (from_ : Int) (k : Int)).bind fun v11 => (some ((v11, ()), ()) : Option ((Bs × Unit) × Unit))) (fun r => r = ((trimB s, ()), ())) := fun h => by
      rw [sl_nat hk1 hk2]
      exact ⟨_, rfl, by rw [h]⟩
    by_cases hgt : from_ < k
    · have c0 : decide ((k : Int) > (from_ : Int)) = true := decide_eq_true (by omega)
      have w : IntKind.wrap .i64 ((k : Int) - 1) = ((k - 1 : Nat) : Int) := by rw [wrap64 (by omega) (by omega)]; omega
      have hk' : k - 1 < s.length := by omega
      have qb := rblank_at (Ev.upto N) s[k - 1]
      simp -implicitDefEqProofs only [c0, beq_self_eq_true, cond_true, w, idx_nat hk', Option.bind_some, qb]
      cases hc : blanks.contains s[k - 1] with
      | true =>
        refine wp_some ⟨⟨k - 1, by simp only [w], by omega, by omega, fun j b hj hb => ?_⟩, by simp only [w, Int.toNat_natCast]; omega⟩
        rcases Nat.lt_or_ge j k with h' | h'
        · obtain rfl : j = k - 1 := by omega
          rw [List.getElem?_eq_getElem hk'] at hb; cases hb; exact hc
        · exact hk3 j b h' hb
      | false => exact wp_some (fin (stop (.inr ⟨hk', by omega, hc⟩)))
    · have c0 : decide ((k : Int) > (from_ : Int)) = false := decide_eq_false (by omega)
      simp -implicitDefEqProofs only [c0, show (false == true) = false from rfl, cond_false, Option.bind_some]
      exact wp_some (fin (stop (.inl (by omega))))
  by_cases hi' : i < s.length
  · have c0 : decide ((i : Int) < (s.length : Int)) = true := decide_eq_true (by omega)
    have w : IntKind.wrap .i64 ((i : Int) + 1) = ((i + 1 : Nat) : Int) := by rw [wrap64 (by omega) (by omega)]; omega
    have qb := rblank_at (Ev.upto N) s[i]
    simp -implicitDefEqProofs only [c0, beq_self_eq_true, cond_true, idx_nat hi', Option.bind_some, qb]
    cases hc : blanks.contains s[i] with
    | true =>
      refine wp_some ⟨hi', (), by simp only [w], fun j b hj hb => ?_⟩
      rcases Nat.lt_or_ge j i with h' | h'
      · exact hn j b h' hb
      · obtain rfl : j = i := by omega
        rw [List.getElem?_eq_getElem hi'] at hb; cases hb; exact hc
    | false => exact wp_some (back i (by omega) hn fun b hb => by rw [List.getElem?_eq_getElem hi'] at hb; cases hb; exact hc)
  · have c0 : decide ((i : Int) < (s.length : Int)) = false := decide_eq_false (by omega)
    obtain rfl : i = s.length := by omega
    simp -implicitDefEqProofs only [c0, show (false == true) = false from rfl, cond_false, Option.bind_some]
    exact wp_some (back s.length (Nat.le_refl _) hn fun b hb => by rw [List.getElem?_eq_none (Nat.le_refl _)] at hb; cases hb)
/-! ### Numbers -/
theorem ofBs_gel {s : Bs} {i : Nat} (h : i < s.length) : (ofBs s)[i]'(by rw [ofBs_length]; exact h) = (s[i].toNat : Int) := by simp [ofBs]
def lowI (n : Int) : Int := bif decide (n ≥ 65) && decide (n ≤ 90) then n + 32 else n
def lowerB (s : Bs) : Bs := toBs ((ofBs s).map lowI)
theorem lowerB_length (s : Bs) : (lowerB s).length = s.length := by simp [lowerB, toBs, ofBs]
theorem low_wrap (c : UInt8) (h0 : decide ((c.toNat : Int) ≥ 65) = true) (h1 : decide ((c.toNat : Int) ≤ 90) = true) : IntKind.wrap .u8 ((IntKind.wrap .u8 ((c.toNat : Int) + 97)) - 65) = (c.toNat : Int) + 32 := by
  have h0 := of_decide_eq_true h0
  have h1 := of_decide_eq_true h1
  rw [wrapu8 (n := (c.toNat : Int) + 97) (by omega) (by omega), wrapu8 (by omega) (by omega)]
  omega
theorem lower_eq (N : Nat) (s : Bs) (hs : s.length < N) (hb : s.length ≤ 1000000) : fold_Lower_ (Ev.upto N) ((s, ()), ()) = some ((lowerB s, ()), ()) := by
  apply wp_eq
  unfold fold_Lower_
  refine wp_bind ?_
  refine wp_for (σ := Unit) (fun i _ => ((((ofBs s).length : Int), ((i : Int), ())), (((ofBs s).take i).map lowI ++ (ofBs s).drop i, ()))) (fun i _ => True) s.length () (by simp) trivial hs ?_
  rintro i _ hi _
  have hol := ofBs_length s
  have hll : (((ofBs s).take i).map lowI ++ (ofBs s).drop i).length = s.length := by simp [hol]; omega
  by_cases hi' : i < s.length
  · have c0 : decide ((i : Int) < ((ofBs s).length : Int)) = true := decide_eq_true (by omega)
    have c1 : decide ((i : Int) < ((((ofBs s).take i).map lowI ++ (ofBs s).drop i).length : Int)) = true := decide_eq_true (by omega)
    have c2 : decide ((0 : Int) ≤ (i : Int)) = true := decide_eq_true (by omega)
    have w : IntKind.wrap .i64 ((i : Int) + 1) = ((i + 1 : Nat) : Int) := by rw [wrap64 (by omega) (by omega)]; omega
    have hd : (ofBs s).drop i = (s[i].toNat : Int) :: (ofBs s).drop (i + 1) := by rw [List.drop_eq_getElem_cons (by omega), ofBs_gel hi']
    have hlen : (((ofBs s).take i).map lowI).length = i := by simp [hol]; omega
    have g : (((ofBs s).take i).map lowI ++ (ofBs s).drop i)[((i : Int)).toNat]? = some (s[i].toNat : Int) := by
      rw [Int.toNat_natCast, List.getElem?_append_right (by omega), hlen, Nat.sub_self, hd]; rfl
    have st : ∀ v, (((ofBs s).take i).map lowI ++ (ofBs s).drop i).set ((i : Int)).toNat v = ((ofBs s).take i).map lowI ++ v :: (ofBs s).drop (i + 1) := by
      intro v
      rw [Int.toNat_natCast, List.set_append_right _ _ (by omega), hlen, Nat.sub_self, hd]; rfl
    have nx : ((ofBs s).take (i + 1)).map lowI ++ (ofBs s).drop (i + 1) = ((ofBs s).take i).map lowI ++ lowI (s[i].toNat : Int) :: (ofBs s).drop (i + 1) := by
      rw [List.take_succ_eq_append_getElem (by omega), List.map_append, ofBs_gel hi']; simp
    simp -implicitDefEqProofs only [c0, c1, c2, Bool.and_self, cond_true, g, Option.bind_some]
    cases h1 : decide ((s[i].toNat : Int) ≥ 65) with
    | false =>
      have hx : lowI (s[i].toNat : Int) = (s[i].toNat : Int) := by unfold lowI; rw [h1]; rfl
      rw [hx] at nx
      exact ⟨_, rfl, hi', (), by simp only [w, nx, ← hd], trivial⟩
    | true =>
      cases h2 : decide ((s[i].toNat : Int) ≤ 90) with
      | false =>
        have hx : lowI (s[i].toNat : Int) = (s[i].toNat : Int) := by unfold lowI; rw [h1, h2]; rfl
        rw [hx] at nx
        exact ⟨_, rfl, hi', (), by simp only [w, nx, ← hd], trivial⟩
      | true =>
        have hx : lowI (s[i].toNat : Int) = (s[i].toNat : Int) + 32 := by unfold lowI; rw [h1, h2]; rfl
        rw [hx] at nx
        have lw := low_wrap s[i] h1 h2
        simp -implicitDefEqProofs only [beq_self_eq_true, cond_true, Option.bind_some, c1, c2, Bool.and_self, g, st, lw]
        exact ⟨_, rfl, hi', (), by simp only [w, nx], trivial⟩
  · have c0 : decide ((i : Int) < ((ofBs s).length : Int)) = false := decide_eq_false (by omega)
    simp -implicitDefEqProofs only [c0, cond_false]
    refine ⟨_, rfl, _, rfl, ?_⟩
    rw [List.take_of_length_le (by omega), List.drop_eq_nil_of_le (by omega), List.append_nil]
    rfl
theorem rlower_eq (N : Nat) (s : Bs) (hs : s.length < N) (hb : s.length ≤ 1000000) : pounceref02_Lower_ (Ev.upto N) ((s, ()), ()) = some ((lowerB s, ()), ()) := by
  apply wp_eq
  unfold pounceref02_Lower_
  refine wp_bind ?_
  refine wp_for (σ := Unit) (fun i _ => ((s, ((i : Int), ())), (((ofBs s).take i).map lowI, ()))) (fun i _ => True) s.length () rfl trivial hs ?_
  rintro i _ hi _
  have hol := ofBs_length s
  by_cases hi' : i < s.length
  · have c0 : decide ((i : Int) < (s.length : Int)) = true := decide_eq_true (by omega)
    have w : IntKind.wrap .i64 ((i : Int) + 1) = ((i + 1 : Nat) : Int) := by rw [wrap64 (by omega) (by omega)]; omega
    have hlen : (((ofBs s).take i).map lowI).length = i := by simp [hol]; omega
    have f : ∀ v : Int, fits ((((ofBs s).take i).map lowI).length + ([v] : List Int).length) 1 = true := fun v => fits_of (by rw [hlen]; simp only [List.length_cons, List.length_nil]; omega)
    have nx : ((ofBs s).take (i + 1)).map lowI = ((ofBs s).take i).map lowI ++ [lowI (s[i].toNat : Int)] := by
      rw [List.take_succ_eq_append_getElem (by omega), List.map_append, ofBs_gel hi']; simp
    simp -implicitDefEqProofs only [c0, cond_true, idx_nat hi', Option.bind_some]
    cases h1 : decide ((s[i].toNat : Int) ≥ 65) with
    | false =>
      have hx : lowI (s[i].toNat : Int) = (s[i].toNat : Int) := by unfold lowI; rw [h1]; rfl
      rw [hx] at nx
      simp -implicitDefEqProofs only [show (false == true) = false from rfl, cond_false, Option.bind_some, f, cond_true, w]
      exact ⟨_, rfl, hi', (), by rw [nx], trivial⟩
    | true =>
      cases h2 : decide ((s[i].toNat : Int) ≤ 90) with
      | false =>
        have hx : lowI (s[i].toNat : Int) = (s[i].toNat : Int) := by unfold lowI; rw [h1, h2]; rfl
        rw [hx] at nx
        simp -implicitDefEqProofs only [beq_self_eq_true, cond_false, Option.bind_some, f, cond_true, w]
        exact ⟨_, rfl, hi', (), by rw [nx], trivial⟩
      | true =>
        have hx : lowI (s[i].toNat : Int) = (s[i].toNat : Int) + 32 := by unfold lowI; rw [h1, h2]; rfl
        rw [hx] at nx
        have lw : IntKind.wrap .u8 ((s[i].toNat : Int) + 32) = (s[i].toNat : Int) + 32 := by
          have := of_decide_eq_true h2
          rw [wrapu8 (by omega) (by omega)]
        simp -implicitDefEqProofs only [beq_self_eq_true, Option.bind_some, f, cond_true, w, lw]
        exact ⟨_, rfl, hi', (), by rw [nx], trivial⟩
  · have c0 : decide ((i : Int) < (s.length : Int)) = false := decide_eq_false (by omega)
    simp -implicitDefEqProofs only [c0, cond_false]
    refine ⟨_, rfl, _, rfl, ?_⟩
    rw [List.take_of_length_le (by omega)]
    rfl
/-! ### Schemes -/
theorem lowI_low (n : Int) : lowI (lowI n) = lowI n := by
  unfold lowI
  by_cases h0 : n ≥ 65
  · by_cases h1 : n ≤ 90
    · rw [show decide (n ≥ 65) = true from decide_eq_true h0, show decide (n ≤ 90) = true from decide_eq_true h1]
      simp only [Bool.and_self, cond_true]
      rw [show decide (n + 32 ≤ 90) = false from decide_eq_false (by omega), Bool.and_false, cond_false]
    · rw [show decide (n ≤ 90) = false from decide_eq_false h1, Bool.and_false, cond_false, show decide (n ≤ 90) = false from decide_eq_false h1, Bool.and_false, cond_false]
  · rw [show decide (n ≥ 65) = false from decide_eq_false h0, Bool.false_and, cond_false, show decide (n ≥ 65) = false from decide_eq_false h0, Bool.false_and, cond_false]
def low1 (c : UInt8) : UInt8 := UInt8.ofNat (lowI (c.toNat : Int)).toNat
theorem low1_toNat (c : UInt8) : ((low1 c).toNat : Int) = lowI (c.toNat : Int) := by
  have := c.toNat_lt
  unfold low1 lowI
  rw [UInt8.toNat_ofNat']
  by_cases h0 : (c.toNat : Int) ≥ 65
  · by_cases h1 : (c.toNat : Int) ≤ 90
    · rw [show decide ((c.toNat : Int) ≥ 65) = true from decide_eq_true h0, show decide ((c.toNat : Int) ≤ 90) = true from decide_eq_true h1]
      simp only [Bool.and_self, cond_true]
      omega
    · rw [show decide ((c.toNat : Int) ≤ 90) = false from decide_eq_false h1, Bool.and_false, cond_false]
      omega
  · rw [show decide ((c.toNat : Int) ≥ 65) = false from decide_eq_false h0, Bool.false_and, cond_false]
    omega
theorem lowerB_map (s : Bs) : lowerB s = s.map low1 := by simp [lowerB, toBs, ofBs, low1, Function.comp_def]
theorem low1_low (c : UInt8) : low1 (low1 c) = low1 c := by
  apply UInt8.toNat_inj.1
  have h1 := low1_toNat (low1 c)
  rw [low1_toNat c, lowI_low] at h1
  have h2 := low1_toNat c
  omega
theorem lowerB_low (s : Bs) : lowerB (lowerB s) = lowerB s := by
  rw [lowerB_map, lowerB_map, List.map_map]
  congr 1
  funext c
  exact low1_low c
def blankB (c : UInt8) : Bool := blanks.contains c
theorem blank_at (V : Ev) (c : UInt8) : fold_Blank_ V ((((c.toNat : Nat) : Int), ()), ()) = some ((blankB c, ()), ()) := by
  have h : (List.range 256).all (fun n => fold_Blank_ Ev.all ((((n : Nat) : Int), ()), ()) == some ((blankB (UInt8.ofNat n), ()), ())) = true := by kernel_rfl
  have h2 := List.all_eq_true.1 h c.toNat (List.mem_range.2 c.toNat_lt)
  rw [beq_iff_eq, UInt8.ofNat_toNat] at h2
  exact h2
theorem same_eq (N : Nat) (a b : Bs) (ha : a.length < N) (hb : b.length < N) (ha' : a.length ≤ 1000000) (hb' : b.length ≤ 1000000) : fold_Same_ (Ev.upto N) ((a, (b, ())), ()) = some ((lowerB a == lowerB b, ()), ()) := by
  unfold fold_Same_
  simp -implicitDefEqProofs only [lower_eq N a ha ha', lower_eq N b hb hb', Option.bind_some]
def letterB (c : UInt8) : Bool := (decide ((c.toNat : Int) ≥ 97) && decide ((c.toNat : Int) ≤ 122)) || (decide ((c.toNat : Int) ≥ 65) && decide ((c.toNat : Int) ≤ 90))
theorem letter_at (V : Ev) (c : UInt8) : token_letter_ V ((((c.toNat : Nat) : Int), ()), ()) = some ((letterB c, ()), ()) := by
  have h : (List.range 256).all (fun n => token_letter_ Ev.all ((((n : Nat) : Int), ()), ()) == some ((letterB (UInt8.ofNat n), ()), ())) = true := by kernel_rfl
  have h2 := List.all_eq_true.1 h c.toNat (List.mem_range.2 c.toNat_lt)
  rw [beq_iff_eq, UInt8.ofNat_toNat] at h2
  exact h2
theorem rletter_at (V : Ev) (c : UInt8) : pounceref14_letter_ V ((((c.toNat : Nat) : Int), ()), ()) = some ((letterB c, ()), ()) := by
  have h : (List.range 256).all (fun n => pounceref14_letter_ Ev.all ((((n : Nat) : Int), ()), ()) == some ((letterB (UInt8.ofNat n), ()), ())) = true := by kernel_rfl
  have h2 := List.all_eq_true.1 h c.toNat (List.mem_range.2 c.toNat_lt)
  rw [beq_iff_eq, UInt8.ofNat_toNat] at h2
  exact h2
/-! ### what is taken -/
def isTag (c : UInt8) : Bool := !blankB c && (c != 47 && c != 62)
def isAttr (c : UInt8) : Bool := !blankB c && (c != 47 && (c != 62 && c != 61))
def isVal (c : UInt8) : Bool := !blankB c && c != 62
theorem tag1_at (V : Ev) (c : UInt8) : token_cursor_tag_1_ V ((((c.toNat : Nat) : Int), ()), ()) = some ((isTag c, ()), ()) := by
  have h : (List.range 256).all (fun n => token_cursor_tag_1_ Ev.all ((((n : Nat) : Int), ()), ()) == some ((isTag (UInt8.ofNat n), ()), ())) = true := by kernel_rfl
  have h2 := List.all_eq_true.1 h c.toNat (List.mem_range.2 c.toNat_lt)
  rw [beq_iff_eq, UInt8.ofNat_toNat] at h2
  exact h2
theorem attr1_at (V : Ev) (c : UInt8) : token_cursor_attr_1_ V ((((c.toNat : Nat) : Int), ()), ()) = some ((isAttr c, ()), ()) := by
  have h : (List.range 256).all (fun n => token_cursor_attr_1_ Ev.all ((((n : Nat) : Int), ()), ()) == some ((isAttr (UInt8.ofNat n), ()), ())) = true := by kernel_rfl
  have h2 := List.all_eq_true.1 h c.toNat (List.mem_range.2 c.toNat_lt)
  rw [beq_iff_eq, UInt8.ofNat_toNat] at h2
  exact h2
theorem val1_at (V : Ev) (c : UInt8) : token_cursor_value_1_ V ((((c.toNat : Nat) : Int), ()), ()) = some ((isVal c, ()), ()) := by
  have h : (List.range 256).all (fun n => token_cursor_value_1_ Ev.all ((((n : Nat) : Int), ()), ()) == some ((isVal (UInt8.ofNat n), ()), ())) = true := by kernel_rfl
  have h2 := List.all_eq_true.1 h c.toNat (List.mem_range.2 c.toNat_lt)
  rw [beq_iff_eq, UInt8.ofNat_toNat] at h2
  exact h2
/-- how many bytes from i on are so -/
def spanN (p : UInt8 → Bool) (s : Bs) (i : Nat) : Nat := ((s.drop i).takeWhile p).length
theorem spanN_le (p : UInt8 → Bool) (s : Bs) (i : Nat) (h : i ≤ s.length) : i + spanN p s i ≤ s.length := by
  have : ((s.drop i).takeWhile p).length ≤ (s.drop i).length := (List.takeWhile_prefix p).length_le
  unfold spanN
  rw [List.length_drop] at this
  omega
theorem takeWhile_span (p : UInt8 → Bool) (s : Bs) (i : Nat) : (s.drop i).takeWhile p = (s.drop i).take (spanN p s i) := by
  unfold spanN
  have h := List.takeWhile_append_dropWhile (p := p) (l := s.drop i)
  conv => rhs; rw [← h]
  rw [List.take_left']
  rw [h]
theorem takeTag_eq (N : Nat) (s : Bs) (i : Nat) (out : List Tok) (f : List Fl) (hi : i ≤ s.length) (hs : s.length ≤ 1000000) (hN : s.length < N) : token_text_take_a2b (Ev.upto N) ((), cur s i out f) = some (((s.drop i).take (spanN isTag s i), ()), cur s (i + spanN isTag s i) out f) := by
  rw [← takeWhile_span]
  exact take_loop N s i out f (fun n => token_cursor_tag_1_ (Ev.upto N) ((n, ()), ())) isTag (tag1_at _) hi hs hN
theorem takeAttr_eq (N : Nat) (s : Bs) (i : Nat) (out : List Tok) (f : List Fl) (hi : i ≤ s.length) (hs : s.length ≤ 1000000) (hN : s.length < N) : token_text_take_4b4 (Ev.upto N) ((), cur s i out f) = some (((s.drop i).take (spanN isAttr s i), ()), cur s (i + spanN isAttr s i) out f) := by
  rw [← takeWhile_span]
  exact take_loop N s i out f (fun n => token_cursor_attr_1_ (Ev.upto N) ((n, ()), ())) isAttr (attr1_at _) hi hs hN
theorem takeBlank_eq (N : Nat) (s : Bs) (i : Nat) (out : List Tok) (f : List Fl) (hi : i ≤ s.length) (hs : s.length ≤ 1000000) (hN : s.length < N) : token_text_take_441 (Ev.upto N) ((), cur s i out f) = some (((s.drop i).take (spanN blankB s i), ()), cur s (i + spanN blankB s i) out f) := by
  rw [← takeWhile_span]
  exact take_loop N s i out f (fun n => fold_Blank_ (Ev.upto N) ((n, ()), ())) blankB (blank_at _) hi hs hN
theorem takeVal_eq (N : Nat) (s : Bs) (i : Nat) (out : List Tok) (f : List Fl) (hi : i ≤ s.length) (hs : s.length ≤ 1000000) (hN : s.length < N) : token_text_take_f4e (Ev.upto N) ((), cur s i out f) = some (((s.drop i).take (spanN isVal s i), ()), cur s (i + spanN isVal s i) out f) := by
  rw [← takeWhile_span]
  exact take_loop N s i out f (fun n => token_cursor_value_1_ (Ev.upto N) ((n, ()), ())) isVal (val1_at _) hi hs hN
end Go.En.Pl
