/- Text O6 of this seat: written by a program of ours, or by hand; checked by Lean. -/
import Derived.Test.YtadpiodjbcjlcaaO5
set_option linter.unusedVariables false
set_option linter.unusedSimpArgs false
namespace Go.En.Pl
theorem nodupCount {l : List Int} : l.Nodup ↔ ∀ a, l.count a ≤ 1 := by
  induction l with
  | nil => simp
  | cons x l ih =>
    rw [List.nodup_cons, ih]
    constructor
    · rintro ⟨h1, h2⟩ a
      rw [List.count_cons]
      split
      · rename_i h
        have e : x = a := by simpa using h
        subst e
        rw [List.count_eq_zero.2 h1]
        omega
      · have := h2 a; omega
    · intro h
      refine ⟨fun hx => ?_, fun a => ?_⟩
      · have := h x
        rw [List.count_cons, if_pos (by simp)] at this
        have := List.count_pos_iff.2 hx
        omega
      · have := h a
        rw [List.count_cons] at this
        omega
theorem nodupLen : ∀ (n : Nat) (l : List Int), l.Nodup → (∀ k, k ∈ l → 0 ≤ k ∧ k < n) → l.length ≤ n
  | 0, l, _, h => by
    cases l with
    | nil => simp
    | cons a l => have := h a (by simp); omega
  | n + 1, l, hn, h => by
    have h1 := nodupLen n (l.filter fun k => k != (n : Int)) (hn.filter _) (fun k hk => by
      obtain ⟨a, b⟩ := List.mem_filter.1 hk
      have := h k a
      have : k ≠ (n : Int) := by simpa using b
      omega)
    have h2 := List.length_eq_countP_add_countP (fun k => k != (n : Int)) (l := l)
    rw [List.countP_eq_length_filter] at h2
    have h3 : l.countP (fun k => decide ¬((k != (n : Int)) = true)) = l.count (n : Int) := by
      unfold List.count
      congr 1
      funext k
      by_cases hk : k = (n : Int) <;> simp [hk]
    rw [h3] at h2
    have := nodupCount.1 hn (n : Int)
    omega
theorem leLen (i n : Nat) : decide ((i : Int) ≤ (n : Int)) = decide (i ≤ n) := by
  by_cases h : i ≤ n
  · rw [decide_eq_true h, decide_eq_true (by omega)]
  · rw [decide_eq_false h, decide_eq_false (by omega)]
theorem refEnds (d : List Nd) (hl : d.length ≤ 300) (cl : ∀ x : Int, 0 ≤ x → x < d.length → pr d x = -1 ∨ (0 ≤ pr d x ∧ pr d x < d.length)) (i : Nat) (hi : i < d.length) :
    ∃ b, pounceref16_ends_ (Ev.upto 5000) ((d, ((i : Int), ())), ()) = some ((b, ()), ()) ∧ (b = true ↔ ∃ m, m ≤ d.length ∧ up d m (pr d i) = -1) := by
  have key : ∀ {f : ((Int × Int × Unit) × ((List Nd × Unit) × Unit)) → Option (((Int × Int × Unit) × ((List Nd × Unit) × Unit)) ⊕ ((Unit × Unit) ⊕ ((Bool × Unit) × Unit)))},
      (∀ (s : Nat) (x : Nat), x < d.length → s ≤ d.length → f ((((x : Int), ((s : Int), ())), ((d, ()), ()))) = if pr d x = -1 then some (.inr (.inr ((true, ()), ()))) else some (.inl (((pr d x, (((s + 1 : Nat) : Int), ())), ((d, ()), ()))))) →
      (∀ (s : Nat) (x : Int), s > d.length → f (((x, ((s : Int), ())), ((d, ()), ()))) = some (.inr (.inl ((), ())))) →
      ∀ (m s : Nat) (x : Nat) (N : Nat), s + m = d.length → m + 1 < N → x < d.length →
        ((∃ j, j ≤ m ∧ up d j (pr d x) = -1) ∧ iterN f N ((((x : Int), ((s : Int), ())), ((d, ()), ()))) = some (.inr ((true, ()), ()))) ∨ ((¬ ∃ j, j ≤ m ∧ up d j (pr d x) = -1) ∧ iterN f N ((((x : Int), ((s : Int), ())), ((d, ()), ()))) = some (.inl ((), ()))) := by
    intro f h1 h2 m
    induction m with
    | zero =>
      intro s x N hs hN hx
      obtain ⟨N, rfl⟩ : ∃ M, N = M + 2 := ⟨N - 2, by omega⟩
      unfold iterN
      rw [h1 s x hx (by omega)]
      by_cases hp : pr d x = -1
      · rw [if_pos hp]; exact .inl ⟨⟨0, Nat.le_refl _, hp⟩, rfl⟩
      · rw [if_neg hp]
        refine .inr ⟨?_, ?_⟩
        · rintro ⟨j, hj, hu⟩
          obtain rfl : j = 0 := by omega
          exact hp hu
        · simp only [Option.bind_some]
          unfold iterN
          rw [h2 (s + 1) _ (by omega)]
          rfl
    | succ m ih =>
      intro s x N hs hN hx
      obtain ⟨N, rfl⟩ : ∃ M, N = M + 1 := ⟨N - 1, by omega⟩
      unfold iterN
      rw [h1 s x hx (by omega)]
      by_cases hp : pr d x = -1
      · rw [if_pos hp]; exact .inl ⟨⟨0, Nat.zero_le _, hp⟩, rfl⟩
      · rw [if_neg hp]
        simp only [Option.bind_some]
        obtain ⟨hp0, hp1⟩ := (cl x (by omega) (by omega)).resolve_left hp
        obtain ⟨y, hy⟩ := Int.eq_ofNat_of_zero_le hp0
        rw [hy]
        rcases ih (s + 1) y N (by omega) (by omega) (by omega) with ⟨⟨j, h3, h4⟩, h5⟩ | ⟨h3, h5⟩
        · exact .inl ⟨⟨j + 1, by omega, h4⟩, h5⟩
        · refine .inr ⟨?_, h5⟩
          rintro ⟨j, hj, hu⟩
          cases j with
          | zero =>
            have hu : pr d x = -1 := by rw [hy]; exact hu
            exact hp hu
          | succ j => exact h3 ⟨j, by omega, hu⟩
  unfold pounceref16_ends_
  generalize hf0 : (fun (s1 : (Int × Int × Unit) × ((List Nd × Unit) × Unit)) => (bif decide (s1.1.2.1 ≤ ((s1.2.1.1).length : Int)) then _ else _ : Option (((Int × Int × Unit) × ((List Nd × Unit) × Unit)) ⊕ ((Unit × Unit) ⊕ ((Bool × Unit) × Unit))))) = f0
  have h1 : ∀ (s : Nat) (x : Nat), x < d.length → s ≤ d.length → f0 ((((x : Int), ((s : Int), ())), ((d, ()), ()))) = if pr d x = -1 then some (.inr (.inr ((true, ()), ()))) else some (.inl (((pr d x, (((s + 1 : Nat) : Int), ())), ((d, ()), ())))) := by
    intro s x hx hs
    rw [← hf0, pr_nat (List.getElem?_eq_getElem hx)]
    simp only [leLen, decide_eq_true hs, cond_true, idx_nat hx, Option.bind_some, wrapS (show s < 1000000 by omega)]
    by_cases hp : parOf d[x] = -1
    · have b1 : (d[x].2.2.2.2.1 == -1) = true := by simpa using hp
      simp only [b1, cond_true, if_pos hp]
    · have b1 : (d[x].2.2.2.2.1 == -1) = false := by simpa using hp
      simp only [b1, cond_false, if_neg hp]
  have h2 : ∀ (s : Nat) (x : Int), s > d.length → f0 (((x, ((s : Int), ())), ((d, ()), ()))) = some (.inr (.inl ((), ()))) := by
    intro s x hs
    rw [← hf0]
    simp only [leLen, decide_eq_false (show ¬ s ≤ d.length by omega), cond_false]
  rcases key h1 h2 d.length 0 i 5000 (by omega) (by omega) hi with ⟨h3, h4⟩ | ⟨h3, h4⟩
  · refine ⟨true, ?_, by simp only [true_iff]; exact h3⟩
    show ((iterN f0 5000 _).bind _) = _
    have h4' : iterN f0 5000 ((((i : Int), ((0 : Int), ())), ((d, ()), ()))) = _ := h4
    rw [h4']
    rfl
  · refine ⟨false, ?_, by simp only [Bool.false_eq_true, false_iff]; exact h3⟩
    show ((iterN f0 5000 _).bind _) = _
    have h4' : iterN f0 5000 ((((i : Int), ((0 : Int), ())), ((d, ()), ()))) = _ := h4
    rw [h4']
    rfl
theorem right_ref (d : List Nd) (h3 : d.length ≤ 300) (n0 : Nd) (hn0 : d[0]? = some n0) : Right d ↔ parOf n0 = -1 ∧ (∀ (j : Nat) (n : Nd), d[j]? = some n → mayB n = true ∧ (n.1 == 1) = ((j : Int) == 0) ∧ kidsB d n = true) ∧ (∀ (j : Nat), j < d.length → placedB d j = true) ∧ (∀ (j : Nat) (n : Nd), d[j]? = some n → ∃ m, m ≤ d.length ∧ up d m (parOf n) = -1) := by
  have hpr : ∀ (j : Nat) (n : Nd), d[j]? = some n → pr d j = parOf n := fun j n hj => pr_nat hj
  have hmem : ∀ k : Int, k ∈ allKids d ↔ ∃ (i : Nat) (n : Nd), d[i]? = some n ∧ k ∈ kidsOf n := by
    intro k
    unfold allKids
    rw [List.mem_flatMap]
    constructor
    · rintro ⟨n, hn, hk⟩
      obtain ⟨i, hi⟩ := List.getElem?_of_mem hn
      exact ⟨i, n, hi, hk⟩
    · rintro ⟨i, n, hi, hk⟩
      exact ⟨n, List.mem_of_getElem? hi, hk⟩
  have hkb : ∀ n, kidsB d n = true ↔ (kidsOf n ≠ [] → holdsB n = true) ∧ (kidsOf n).length ≤ d.length ∧ ∀ k, k ∈ kidsOf n → 1 ≤ k ∧ k < d.length := by
    intro n
    unfold kidsB
    simp only [Bool.and_eq_true, Bool.not_eq_true', Bool.or_eq_false_iff, decide_eq_false_iff_not, List.all_eq_true, decide_eq_true_eq]
    have : ((!(kidsOf n == []) && !holdsB n) = false) ↔ (kidsOf n ≠ [] → holdsB n = true) := by
      cases hh : kidsOf n with
      | nil => simp
      | cons a l => cases holdsB n <;> simp
    rw [this]
    constructor
    · rintro ⟨⟨a, b⟩, c⟩; exact ⟨a, by omega, c⟩
    · rintro ⟨a, b, c⟩; exact ⟨⟨a, by omega⟩, c⟩
  constructor
  · intro R
    have klen : ∀ n, n ∈ d → (kidsOf n).length ≤ d.length := by
      intro n hn
      have hnd : (kidsOf n).Nodup := List.Nodup.sublist (by
        obtain ⟨l1, l2, rfl⟩ := List.append_of_mem hn
        simp only [allKids, List.flatMap_append, List.flatMap_cons]
        exact (List.sublist_append_left _ _).trans (List.sublist_append_right _ _)) R.nodup
      exact nodupLen _ _ hnd fun k hk => by have := R.rng n hn k hk; omega
    refine ⟨?_, fun j n hj => ⟨R.may n (List.mem_of_getElem? hj), ?_, (hkb n).2 ⟨R.holds n (List.mem_of_getElem? hj), klen n (List.mem_of_getElem? hj), R.rng n (List.mem_of_getElem? hj)⟩⟩, fun j hj => ?_, R.ends⟩
    · have := R.par0; rw [show (0 : Int) = ((0 : Nat) : Int) from rfl, pr_nat hn0] at this; exact this
    · rw [Bool.eq_iff_iff, beq_iff_eq, beq_iff_eq, R.root j n hj]; omega
    · have hnd : d[j]? = some d[j] := List.getElem?_eq_getElem hj
      have hc : (allKids d).count (j : Int) ≤ 1 := nodupCount.1 R.nodup _
      unfold placedB
      rw [hpr j _ hnd]
      by_cases hp : parOf d[j] = -1
      · rw [if_pos hp, beq_iff_eq, List.count_eq_zero]
        intro hk
        obtain ⟨i, n, hi, hk⟩ := (hmem _).1 hk
        have := R.back i n hi _ hk
        rw [hpr j _ hnd] at this
        omega
      · rw [if_neg hp]
        have hk := R.laid j _ hnd hp
        obtain ⟨i, n, hi, hk2⟩ := (hmem _).1 hk
        have hb := R.back i n hi _ hk2
        rw [hpr j _ hnd] at hb
        have hil := (List.getElem?_eq_some_iff.1 hi).1
        have hr := R.rng n (List.mem_of_getElem? hi) _ hk2
        have hidx : idx d (i : Int) = some n := by unfold idx; rw [if_pos (by omega), Int.toNat_natCast]; exact hi
        have hcp : 0 < (allKids d).count (j : Int) := List.count_pos_iff.2 hk
        rw [hb, hidx]
        simp only [Bool.and_eq_true, decide_eq_true_eq, beq_iff_eq]
        exact ⟨⟨⟨⟨by omega, by omega⟩, by omega⟩, R.holds n (List.mem_of_getElem? hi) (List.ne_nil_of_mem hk2), hk2⟩, by omega⟩
  · rintro ⟨h1, h2, h4, h5⟩
    have kr : ∀ k, k ∈ allKids d → ∃ a : Nat, k = (a : Int) ∧ a < d.length := by
      intro k hk
      obtain ⟨i, n, hi, hk⟩ := (hmem k).1 hk
      obtain ⟨a, b⟩ := ((hkb n).1 (h2 i n hi).2.2).2.2 k hk
      exact ⟨k.toNat, by omega, by omega⟩
    have cnt : ∀ (a : Nat) (ha : a < d.length), (allKids d).count (a : Int) ≤ 1 ∧ ((a : Int) ∈ allKids d → parOf d[a] ≠ -1) ∧ (parOf d[a] ≠ -1 → ∃ (p : Nat) (m : Nd), parOf d[a] = (p : Int) ∧ d[p]? = some m ∧ (a : Int) ∈ kidsOf m) := by
      intro a ha
      have hnd : d[a]? = some d[a] := List.getElem?_eq_getElem ha
      have := h4 a ha
      unfold placedB at this
      rw [hpr a _ hnd] at this
      by_cases hp : parOf d[a] = -1
      · rw [if_pos hp, beq_iff_eq] at this
        refine ⟨by omega, fun hk => ?_, fun h => absurd hp h⟩
        rw [List.count_eq_zero] at this
        exact absurd hk this
      · rw [if_neg hp] at this
        simp only [Bool.and_eq_true, decide_eq_true_eq, beq_iff_eq] at this
        obtain ⟨⟨⟨⟨_, g1⟩, g2⟩, g3⟩, g4⟩ := this
        refine ⟨by omega, fun _ => hp, fun _ => ?_⟩
        obtain ⟨p, hp2⟩ := Int.eq_ofNat_of_zero_le g1
        rw [hp2] at g3 g2
        have hpl : p < d.length := by omega
        rw [idx_nat hpl] at g3
        simp only [Bool.and_eq_true, decide_eq_true_eq] at g3
        exact ⟨p, d[p], hp2, List.getElem?_eq_getElem hpl, g3.2⟩
    have hnodup : (allKids d).Nodup := by
      rw [nodupCount]
      intro k
      by_cases hk : k ∈ allKids d
      · obtain ⟨a, rfl, ha⟩ := kr k hk
        exact (cnt a ha).1
      · rw [List.count_eq_zero.2 hk]; omega
    refine ⟨h3, by have := (List.getElem?_eq_some_iff.1 hn0).1; omega, fun n hn => ?_, fun i n hi => ?_, by rw [show (0 : Int) = ((0 : Nat) : Int) from rfl, pr_nat hn0]; exact h1, fun n hn => ?_, fun n hn k hk => ?_, hnodup, fun i n hi k hk => ?_, fun i n hi hp => ?_, h5⟩
    · obtain ⟨i, hi⟩ := List.getElem?_of_mem hn; exact (h2 i n hi).1
    · have := (h2 i n hi).2.1
      rw [Bool.eq_iff_iff, beq_iff_eq, beq_iff_eq] at this
      omega
    · obtain ⟨i, hi⟩ := List.getElem?_of_mem hn; exact ((hkb n).1 (h2 i n hi).2.2).1
    · obtain ⟨i, hi⟩ := List.getElem?_of_mem hn
      exact ((hkb n).1 (h2 i n hi).2.2).2.2 k hk
    · have hka : k ∈ allKids d := (hmem k).2 ⟨i, n, hi, hk⟩
      obtain ⟨a, rfl, ha⟩ := kr k hka
      obtain ⟨p, m, g1, g2, g3⟩ := (cnt a ha).2.2 ((cnt a ha).2.1 hka)
      rw [hpr a _ (List.getElem?_eq_getElem ha), g1]
      rw [flat_at kidsOf hnodup g2 hi g3 hk]
    · have ha := (List.getElem?_eq_some_iff.1 hi).1
      have he : d[i] = n := (List.getElem?_eq_some_iff.1 hi).2
      obtain ⟨p, m, g1, g2, g3⟩ := (cnt i ha).2.2 (by rw [he]; exact hp)
      exact (hmem _).2 ⟨p, m, g2, g3⟩
theorem refCheck (d : List Nd) (h : Sm d) : pounceref16_Check_ (Ev.upto 5000) ((d, ()), ()) = some ((chk d, ()), ()) := by
  unfold pounceref16_Check_
  simp only [show (300 : Int) = ((300 : Nat) : Int) from rfl, lenGt]
  unfold chk
  by_cases h3 : d.length > 300
  · rw [if_pos h3]; simp [h3]
  rw [if_neg h3]
  simp only [decide_eq_false h3, cond_false]
  cases hd : d[0]? with
  | none =>
    have hd0 : d = [] := by
      cases d with
      | nil => rfl
      | cons a d => simp at hd
    subst hd0
    rw [if_neg (fun R => by have := R.pos; simp at this)]
    rfl
  | some n0 =>
    have hpos : 0 < d.length := (List.getElem?_eq_some_iff.1 hd).1
    have hl0 : ((d.length : Int) == 0) = false := by rw [beq_eq_false_iff_ne]; omega
    have hi0 : idx d 0 = some n0 := by unfold idx; simpa using hd
    simp only [hl0, beq_self_eq_true, cond_true, hi0, Option.bind_some]
    have hRI := right_ref d (by omega) n0 hd
    by_cases hr2 : parOf n0 = -1
    case neg =>
      rw [if_neg (fun R => hr2 (hRI.1 R).1)]
      have : (n0.2.2.2.2.1 != -1) = true := by simpa using hr2
      simp [this]
    have e2 : (n0.2.2.2.2.1 != -1) = false := by simpa using hr2
    simp only [e2, cond_false]
    refine it_listB (l := d) (σ := Unit) (fun i _ => ((((i : Int), ()), ((d, ()), ())))) (fun i n _ => if !(mayB n && ((n.1 == 1) == ((i : Int) == 0)) && kidsB d n) then .inr (.inr ((171, ()), ())) else .inl ()) (fun _ => .inl ((), ((d, ()), ()))) (fun _ _ => True) () rfl trivial (by omega) (fun i s hi _ => ⟨?_, fun _ _ => trivial⟩) (fun s _ => ?_) ?_
    · have hm := h.2 _ (List.getElem_mem hi)
      simp only [lenLt, decide_eq_true hi, cond_true, idx_nat hi, Option.bind_some, refMay _ hm.1, refKids d h i hi]
      cases mayB d[i]
      · simp
      · cases hh : ((d[i].1 == 1) == ((i : Int) == 0))
        · simp [hh]
        · cases hk : kidsB d d[i]
          · simp [hh, hk]
          · simp only [hh, hk, Bool.not_true, beq_self_eq_true, cond_true, Option.bind_some, cond_false, Bool.and_self, Bool.false_eq_true, if_false, wrapS (show i < 1000000 by omega)]
    · simp only [lenLt, Nat.lt_irrefl, decide_false, cond_false]
    · rcases foldL_scanI (fun (i : Nat) (n : Nd) => !(mayB n && ((n.1 == 1) == ((i : Int) == 0)) && kidsB d n)) ((.inr ((171, ()), ())) : (Unit × ((List Nd × Unit) × Unit)) ⊕ ((Int × Unit) × Unit)) (.inl ((), ((d, ()), ()))) d 0 with ⟨⟨j, n, hj, hp⟩, hf⟩ | ⟨hall, hf⟩
      · rw [hf]
        rw [if_neg (show ¬ Right d from fun R => by
          obtain ⟨a, b, c⟩ := (hRI.1 R).2.1 j n hj
          simp [a, b, c] at hp)]
      · rw [hf]
        have hA : ∀ (j : Nat) (n : Nd), d[j]? = some n → mayB n = true ∧ (n.1 == 1) = ((j : Int) == 0) ∧ kidsB d n = true := fun j n hj => by
          have := hall j n hj
          simp only [Nat.zero_add, Bool.not_eq_false', Bool.and_eq_true] at this
          exact ⟨this.1.1, eq_of_beq this.1.2, this.2⟩
        show Option.bind _ _ = _
        refine it_listB (l := d) (σ := Unit) (fun i _ => ((((i : Int), ()), ((d, ()), ())))) (fun i n _ => if !(placedB d i) then .inr (.inr ((171, ()), ())) else .inl ()) (fun _ => .inl ((), ((d, ()), ()))) (fun _ _ => True) () rfl trivial (by omega) (fun i s hi _ => ⟨?_, fun _ _ => trivial⟩) (fun s _ => ?_) ?_
        · simp only [lenLt, decide_eq_true hi, cond_true, refPlaced d h (by omega) i hi, Option.bind_some]
          cases placedB d i
          · simp
          · simp only [Bool.not_true, cond_false, Bool.false_eq_true, if_false, wrapS (show i < 1000000 by omega)]
        · simp only [lenLt, Nat.lt_irrefl, decide_false, cond_false]
        · rcases foldL_scanI (fun (i : Nat) (n : Nd) => !(placedB d i)) ((.inr ((171, ()), ())) : (Unit × ((List Nd × Unit) × Unit)) ⊕ ((Int × Unit) × Unit)) (.inl ((), ((d, ()), ()))) d 0 with ⟨⟨j, n, hj, hp⟩, hf⟩ | ⟨hall2, hf⟩
          · rw [hf]
            rw [if_neg (show ¬ Right d from fun R => by
              have := (hRI.1 R).2.2.1 j (List.getElem?_eq_some_iff.1 hj).1
              simp [this] at hp)]
          · rw [hf]
            have hB : ∀ (j : Nat), j < d.length → placedB d j = true := fun j hj => by
              have := hall2 j _ (List.getElem?_eq_getElem hj)
              simpa using this
            have cl : ∀ x : Int, 0 ≤ x → x < d.length → pr d x = -1 ∨ (0 ≤ pr d x ∧ pr d x < d.length) := by
              intro x hx0 hx1
              obtain ⟨a, rfl⟩ := Int.eq_ofNat_of_zero_le hx0
              have := hB a (by omega)
              unfold placedB at this
              by_cases hp : pr d (a : Int) = -1
              · exact .inl hp
              · rw [if_neg hp] at this
                simp only [Bool.and_eq_true, decide_eq_true_eq] at this
                exact .inr ⟨this.1.1.1.2, this.1.1.2⟩
            show Option.bind _ _ = _
            classical
            refine it_listB (l := d) (σ := Unit) (fun i _ => ((((i : Int), ()), ((d, ()), ())))) (fun i n _ => if !decide (∃ m, m ≤ d.length ∧ up d m (parOf n) = -1) then .inr (.inr ((171, ()), ())) else .inl ()) (fun _ => .inl ((), ())) (fun _ _ => True) () rfl trivial (by omega) (fun i s hi _ => ⟨?_, fun _ _ => trivial⟩) (fun s _ => ?_) ?_
            · obtain ⟨b, hb1, hb2⟩ := refEnds d (by omega) cl i hi
              rw [pr_nat (List.getElem?_eq_getElem hi)] at hb2
              simp only [lenLt, decide_eq_true hi, cond_true, hb1, Option.bind_some]
              cases b with
              | true =>
                rw [decide_eq_true (hb2.1 rfl)]
                simp only [Bool.not_true, cond_false, Bool.false_eq_true, if_false, wrapS (show i < 1000000 by omega)]
              | false =>
                rw [decide_eq_false (fun hx => by have := hb2.2 hx; cases this)]
                simp
            · simp only [lenLt, Nat.lt_irrefl, decide_false, cond_false]
            · rcases foldL_scanI (fun (i : Nat) (n : Nd) => !decide (∃ m, m ≤ d.length ∧ up d m (parOf n) = -1)) ((.inr ((171, ()), ())) : (Unit × Unit) ⊕ ((Int × Unit) × Unit)) (.inl ((), ())) d 0 with ⟨⟨j, n, hj, hp⟩, hf⟩ | ⟨hall3, hf⟩
              · rw [hf]
                rw [if_neg (show ¬ Right d from fun R => by
                  have := (hRI.1 R).2.2.2 j n hj
                  simp [this] at hp)]
              · rw [hf]
                rw [if_pos (hRI.2 ⟨hr2, hA, hB, fun j n hj => by simpa using hall3 j n hj⟩)]
end Go.En.Pl
