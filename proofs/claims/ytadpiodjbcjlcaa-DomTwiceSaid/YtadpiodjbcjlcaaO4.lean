/- Text O4 of this seat: written by a program of ours, or by hand; checked by Lean. -/
import Derived.Test.YtadpiodjbcjlcaaO3
set_option linter.unusedVariables false
set_option linter.unusedSimpArgs false
namespace Go.En.Pl
open Classical in
noncomputable def chk (d : List Nd) : Int := if d.length > 300 then 2 else if Right d then 0 else 171
theorem walkUp {α β : Type} {f : α → Option (α ⊕ β)} (d : List Nd) (st : Nat → Int → α) (ok bad : β) (cl : ∀ x : Int, 0 ≤ x → x < d.length → pr d x = -1 ∨ (0 ≤ pr d x ∧ pr d x < d.length))
    (h0 : ∀ s, f (st s (-1)) = some (.inr ok)) (h1 : ∀ (s : Nat) (x : Int), 0 ≤ x → x < d.length → s + 1 > d.length → s ≤ d.length → f (st s x) = some (.inr bad)) (h2 : ∀ (s : Nat) (x : Int), 0 ≤ x → x < d.length → s + 1 ≤ d.length → f (st s x) = some (.inl (st (s + 1) (pr d x)))) :
    ∀ (m s : Nat) (x : Int) (N : Nat), s + m = d.length → m + 1 < N → (x = -1 ∨ (0 ≤ x ∧ x < d.length)) → ((∃ j, j ≤ m ∧ up d j x = -1) ∧ iterN f N (st s x) = some ok) ∨ ((¬ ∃ j, j ≤ m ∧ up d j x = -1) ∧ iterN f N (st s x) = some bad) := by
  intro m
  induction m with
  | zero =>
    intro s x N hs hN hx
    obtain ⟨N, rfl⟩ : ∃ M, N = M + 1 := ⟨N - 1, by omega⟩
    unfold iterN
    rcases hx with rfl | ⟨hx0, hx1⟩
    · exact .inl ⟨⟨0, Nat.le_refl _, rfl⟩, by rw [h0]; rfl⟩
    · refine .inr ⟨?_, by rw [h1 s x hx0 hx1 (by omega) (by omega)]; rfl⟩
      rintro ⟨j, hj, hu⟩
      obtain rfl : j = 0 := by omega
      simp only [up] at hu
      omega
  | succ m ih =>
    intro s x N hs hN hx
    obtain ⟨N, rfl⟩ : ∃ M, N = M + 1 := ⟨N - 1, by omega⟩
    unfold iterN
    rcases hx with rfl | ⟨hx0, hx1⟩
    · exact .inl ⟨⟨0, Nat.zero_le _, rfl⟩, by rw [h0]; rfl⟩
    · rw [h2 s x hx0 hx1 (by omega)]
      simp only [Option.bind_some]
      rcases ih (s + 1) (pr d x) N (by omega) (by omega) (cl x hx0 hx1) with ⟨⟨j, h3, h4⟩, h5⟩ | ⟨h3, h5⟩
      · exact .inl ⟨⟨j + 1, by omega, h4⟩, h5⟩
      · refine .inr ⟨?_, h5⟩
        rintro ⟨j, hj, hu⟩
        cases j with
        | zero => simp only [up] at hu; omega
        | succ j => exact h3 ⟨j, by omega, hu⟩
theorem ge_len (d : List Nd) (k : Int) : decide (k ≥ (d.length : Int)) = !decide (k < (d.length : Int)) := by
  by_cases h : k < (d.length : Int)
  · rw [decide_eq_true h, decide_eq_false (by omega)]; rfl
  · rw [decide_eq_false h, decide_eq_true (by omega)]; rfl
theorem lt_one (k : Int) : decide (k < 1) = !decide (1 ≤ k) := by
  by_cases h : 1 ≤ k
  · rw [decide_eq_true h, decide_eq_false (by omega)]; rfl
  · rw [decide_eq_false h, decide_eq_true (by omega)]; rfl
theorem natGt0 (i : Nat) : decide ((i : Int) > 0) = decide (i > 0) := by
  by_cases h : i > 0
  · rw [decide_eq_true h, decide_eq_true (by omega)]
  · rw [decide_eq_false h, decide_eq_false (by omega)]
theorem kids0 (l : List Int) : decide (l.length > 0) = !(l == []) := by
  cases l with
  | nil => rfl
  | cons a l => simp
theorem right_iff (d : List Nd) (h3 : d.length ≤ 300) (n0 : Nd) (hn0 : d[0]? = some n0) : Right d ↔ (n0.1 = 1 ∧ parOf n0 = -1) ∧ okAll d 0 [] d = true ∧ (∀ (j : Nat) (n : Nd), d[j]? = some n → decide ((j : Int) ∈ allKids d) = (parOf n != -1)) ∧ (∀ (j : Nat) n, d[j]? = some n → ∃ m, m ≤ d.length ∧ up d m (parOf n) = -1) := by
  rw [okAll_iff d d 0 [] (by simp)]
  simp only [Nat.zero_add, List.nil_append]
  have hmem : ∀ k : Int, k ∈ allKids d ↔ ∃ (i : Nat) (n : Nd), d[i]? = some n ∧ k ∈ kidsOf n := by
    intro k
    unfold allKids
    rw [List.mem_flatMap]
    constructor
    · rintro ⟨n, hn, hk⟩
      obtain ⟨i, hi⟩ := List.getElem?_of_mem hn
      exact ⟨i, n, hi, hk⟩
    · rintro ⟨i, n, hi, hk⟩
      exact ⟨n, List.mem_of_getElem? hi, hk⟩
  constructor
  · intro R
    refine ⟨⟨(R.root 0 n0 hn0).2 rfl, by have := R.par0; rw [show (0 : Int) = ((0 : Nat) : Int) from rfl, pr_nat hn0] at this; exact this⟩, ⟨fun j n hj => ⟨R.may n (List.mem_of_getElem? hj), fun hj0 hk => by have := (R.root j n hj).1 hk; omega, R.holds n (List.mem_of_getElem? hj), fun k hk => ⟨(R.rng n (List.mem_of_getElem? hj) k hk).1, (R.rng n (List.mem_of_getElem? hj) k hk).2, R.back j n hj k hk⟩⟩, R.nodup⟩, fun j n hj => ?_, R.ends⟩
    rw [Bool.eq_iff_iff]
    simp only [decide_eq_true_eq, bne_iff_ne, ne_eq]
    constructor
    · intro hk
      obtain ⟨i, m, hi, hk⟩ := (hmem _).1 hk
      have := R.back i m hi _ hk
      rw [pr_nat hj] at this
      omega
    · exact R.laid j n hj
  · rintro ⟨⟨h1, h2⟩, ⟨h4, h5⟩, h6, h7⟩
    refine ⟨h3, by have := (List.getElem?_eq_some_iff.1 hn0).1; omega, fun n hn => ?_, fun i n hi => ⟨fun hk => ?_, fun hi0 => ?_⟩, by rw [show (0 : Int) = ((0 : Nat) : Int) from rfl, pr_nat hn0]; exact h2, fun n hn => ?_, fun n hn k hk => ?_, h5, fun i n hi k hk => ((h4 i n hi).2.2.2 k hk).2.2, fun i n hi hp => ?_, h7⟩
    · obtain ⟨i, hi⟩ := List.getElem?_of_mem hn; exact (h4 i n hi).1
    · rcases Nat.eq_zero_or_pos i with h | h
      · exact h
      · exact absurd hk ((h4 i n hi).2.1 h)
    · subst hi0; rw [hn0] at hi; cases hi; exact h1
    · obtain ⟨i, hi⟩ := List.getElem?_of_mem hn; exact (h4 i n hi).2.2.1
    · obtain ⟨i, hi⟩ := List.getElem?_of_mem hn
      have := (h4 i n hi).2.2.2 k hk
      exact ⟨this.1, this.2.1⟩
    · have := h6 i n hi
      rw [show (parOf n != -1) = true by simpa using hp] at this
      simpa using this
theorem domCheck (d : List Nd) (h : Sm d) : dom_Check_ (Ev.upto 5000) ((d, ()), ()) = some ((chk d, ()), ()) := by
  unfold dom_Check_
  simp only [show (300 : Int) = ((300 : Nat) : Int) from rfl, lenGt]
  unfold chk
  by_cases h3 : d.length > 300
  · rw [if_pos h3]; simp [h3]
  rw [if_neg h3]
  simp only [decide_eq_false h3, cond_false]
  cases hd : d[0]? with
  | none =>
    have hd0 : d = [] := by
      cases d with
      | nil => rfl
      | cons a d => simp at hd
    subst hd0
    rw [if_neg (fun R => by have := R.pos; simp at this)]
    rfl
  | some n0 =>
    have hpos : 0 < d.length := (List.getElem?_eq_some_iff.1 hd).1
    have hl0 : ((d.length : Int) == 0) = false := by rw [beq_eq_false_iff_ne]; omega
    have hi0 : idx d 0 = some n0 := by unfold idx; simpa using hd
    simp only [hl0, beq_self_eq_true, cond_true, hi0, Option.bind_some]
    by_cases hr1 : n0.1 = 1
    case neg =>
      rw [if_neg (fun R => hr1 ((R.root 0 n0 hd).2 rfl))]
      have : (n0.1 != 1) = true := by simpa using hr1
      simp [this]
    have e1 : (n0.1 != 1) = false := by simpa using hr1
    simp only [e1, beq_self_eq_true, cond_true, Option.bind_some]
    by_cases hr2 : parOf n0 = -1
    case neg =>
      rw [if_neg (fun R => hr2 (by have := R.par0; rw [show (0 : Int) = ((0 : Nat) : Int) from rfl, pr_nat hd] at this; exact this))]
      have : (n0.2.2.2.2.1 != -1) = true := by simpa using hr2
      simp [this]
    have e2 : (n0.2.2.2.2.1 != -1) = false := by simpa using hr2
    simp only [e2, cond_false]
    simp only [Int.toNat_natCast, fitsS (show d.length ≤ 10000 by omega) (show 1 ≤ 1000 by omega), show decide ((0 : Int) ≤ (d.length : Int)) = true from decide_eq_true (by omega), beq_self_eq_true, Bool.and_self, cond_true]
    have hRI := right_iff d (by omega) n0 hd
    simp only [hr1, hr2, and_self, true_and] at hRI

    refine it_listB (l := d) (σ := List Int) (fun i K => (((d, ((d.length : Int), ((i : Int), ())))), ((d, ()), (lay d.length K, ())))) (fun i n K => if okNode d i n K then .inl (K ++ kidsOf n) else .inr (.inr ((171, ()), ()))) (fun K => .inl ((), ((d, ()), (lay d.length K, ())))) (fun _ _ => True) [] (by rw [lay_nil]; rfl) trivial (by omega) (fun i K hi _ => ⟨?_, fun _ _ => trivial⟩) (fun K _ => ?_) ?_
    · have hm := h.2 _ (List.getElem_mem hi)
      have hm2 : (kidsOf d[i]).length ≤ 4000 := hm.2
      simp only [lenLt, decide_eq_true hi, cond_true, idx_nat hi, Option.bind_some, domMay _ hm.1, domHolds d[i], natGt0, kids0]
      have flag : ∀ (X : ((Int × (List Nd) × Int × Int × Bool × Unit) × ((List Nd × Unit) × (List Bool) × (Nd × Unit) × Unit)) → Option (((List Nd × Int × Int × Unit) × ((List Nd × Unit) × (List Bool) × Unit)) ⊕ ((Unit × ((List Nd × Unit) × (List Bool) × Unit)) ⊕ ((Int × Unit) × Unit)))),
          (((bif (!mayB d[i]) == false then bif decide (i > 0) == true then bif (d[i].1 == 1) == false then bif (!(kidsOf d[i] == [])) == true then some (((i : Int), (d, ((d.length : Int), ((i : Int), ((!holdsB d[i]), ()))))), ((d, ()), (lay d.length K, ((d[i], ()), ())))) else some (((i : Int), (d, ((d.length : Int), ((i : Int), (false, ()))))), ((d, ()), (lay d.length K, ((d[i], ()), ())))) else some (((i : Int), (d, ((d.length : Int), ((i : Int), (true, ()))))), ((d, ()), (lay d.length K, ((d[i], ()), ())))) else bif (!(kidsOf d[i] == [])) == true then some (((i : Int), (d, ((d.length : Int), ((i : Int), ((!holdsB d[i]), ()))))), ((d, ()), (lay d.length K, ((d[i], ()), ())))) else some (((i : Int), (d, ((d.length : Int), ((i : Int), (false, ()))))), ((d, ()), (lay d.length K, ((d[i], ()), ())))) else some (((i : Int), (d, ((d.length : Int), ((i : Int), (true, ()))))), ((d, ()), (lay d.length K, ((d[i], ()), ()))))) : Option _).bind X)
          = X (((i : Int), (d, ((d.length : Int), ((i : Int), (!(mayB d[i] && !(decide (i > 0) && d[i].1 == 1) && (kidsOf d[i] == [] || holdsB d[i])), ()))))), ((d, ()), (lay d.length K, ((d[i], ()), ())))) := by
        intro X
        cases mayB d[i] <;> cases decide (i > 0) <;> cases (d[i].1 == 1) <;> cases (kidsOf d[i] == []) <;> cases holdsB d[i] <;> rfl
      refine (flag _).trans ?_
      unfold okNode
      cases hfl : (mayB d[i] && !(decide (i > 0) && d[i].1 == 1) && (kidsOf d[i] == [] || holdsB d[i])) with
      | false => simp
      | true =>
        simp only [Bool.not_true, cond_false, Bool.true_and]
        refine it_listB (l := kidsOf d[i]) (σ := List Int) (fun j K => (((i : Int), (d, ((d.length : Int), ((i : Int), (kidsOf d[i], (((kidsOf d[i]).length : Int), ((j : Int), ()))))))), ((d, ()), (lay d.length K, ())))) (fun _ k K => if (decide (1 ≤ k) && decide (k < (d.length : Int)) && !decide (k ∈ K) && (pr d k == (i : Int))) then .inl (K ++ [k]) else .inr (.inr ((171, ()), ()))) (fun K => .inl ((d, ((d.length : Int), ((i : Int), ()))), ((d, ()), (lay d.length K, ())))) (fun _ _ => True) K rfl trivial (by omega) (fun j K hj _ => ⟨?_, fun _ _ => trivial⟩) (fun K _ => ?_) ?_
        · simp only [lenLt, decide_eq_true hj, cond_true, idx_nat hj, Option.bind_some, lt_one, ge_len, lay_len]
          generalize (kidsOf d[i])[j] = k
          by_cases k1 : 1 ≤ k
          case neg => simp [k1]
          by_cases k2 : k < (d.length : Int)
          case neg => simp [k1, k2]
          obtain ⟨a, rfl⟩ := Int.eq_ofNat_of_zero_le (show 0 ≤ k by omega)
          have ha : a < d.length := by omega
          have hnd : d[a]? = some d[a] := List.getElem?_eq_getElem ha
          simp only [decide_eq_true k1, decide_eq_true k2, show decide (0 ≤ (a : Int)) = true from decide_eq_true (by omega), Bool.not_true, beq_self_eq_true, Bool.and_self, cond_true, Int.toNat_natCast, lay_get ha, Option.bind_some, idx_nat ha, Bool.true_and]
          by_cases k3 : (a : Int) ∈ K
          · simp [k3]
          · rw [pr_nat hnd]
            simp only [decide_eq_false k3, beq_self_eq_true, cond_true, Option.bind_some, Bool.not_false, Bool.true_and]
            by_cases k4 : parOf d[a] = (i : Int)
            · have b1 : (d[a].2.2.2.2.1 != (i : Int)) = false := by simpa using k4
              have b2 : (parOf d[a] == (i : Int)) = true := by simpa using k4
              simp only [b1, b2, cond_false, if_true, lay_len, decide_eq_true k2, show decide (0 ≤ (a : Int)) = true from decide_eq_true (by omega), Bool.and_self, cond_true, Int.toNat_natCast, lay_get ha, Option.bind_some, lay_set ha, wrapS (show j < 1000000 by omega)]
            · have b1 : (d[a].2.2.2.2.1 != (i : Int)) = true := by simpa using k4
              have b2 : (parOf d[a] == (i : Int)) = false := by simpa using k4
              simp only [b1, b2, cond_true, Bool.false_eq_true, if_false]
        · simp only [lenLt, Nat.lt_irrefl, decide_false, cond_false]
        · rw [foldKids]
          cases okKids d (i : Int) K (kidsOf d[i])
          · rfl
          · simp only [if_true, wrapS (show i < 1000000 by omega)]
    · simp only [lenLt, Nat.lt_irrefl, decide_false, cond_false]
    · rw [foldNodes]
      cases hok : okAll d 0 [] d with
      | false =>
        rw [if_neg (show ¬ Right d from fun R => by have := (hRI.1 R).1; rw [hok] at this; cases this)]
        rfl
      | true =>
        simp only [if_true, List.nil_append]

        have hK := ((okAll_iff d d 0 [] (by simp)).1 hok)
        show Option.bind _ _ = _
        refine it_listB (l := d) (σ := Unit) (fun i _ => (((d, ((d.length : Int), ((i : Int), ())))), ((d, ()), (lay d.length (allKids d), ())))) (fun i n _ => if !(decide ((i : Int) ∈ allKids d) == (parOf n != -1)) then .inr (.inr ((171, ()), ())) else .inl ()) (fun _ => .inl ((), ((d, ()), ()))) (fun _ _ => True) () rfl trivial (by omega) (fun i s hi _ => ⟨?_, fun _ _ => trivial⟩) (fun s _ => ?_) ?_
        · simp only [lenLt, decide_eq_true hi, cond_true, idx_nat hi, Option.bind_some, lay_len, show decide (0 ≤ (i : Int)) = true from decide_eq_true (by omega), Bool.and_self, Int.toNat_natCast, lay_get hi]
          cases hx : (decide ((i : Int) ∈ allKids d) == (parOf d[i] != -1))
          · simp
          · simp only [Bool.not_true, cond_false, Bool.false_eq_true, if_false, wrapS (show i < 1000000 by omega)]
        · simp only [lenLt, Nat.lt_irrefl, decide_false, cond_false]
        · rcases foldL_scanI (fun (i : Nat) (n : Nd) => !(decide ((i : Int) ∈ allKids d) == (parOf n != -1))) ((.inr ((171, ()), ())) : (Unit × ((List Nd × Unit) × Unit)) ⊕ ((Int × Unit) × Unit)) (.inl ((), ((d, ()), ()))) d 0 with ⟨⟨j, n, hj, hp⟩, hf⟩ | ⟨hall, hf⟩
          · rw [hf]
            rw [if_neg (fun R => by
              have := (hRI.1 R).2.1 j n hj
              simp [this] at hp)]
          · rw [hf]
            have hl : ∀ (j : Nat) (n : Nd), d[j]? = some n → decide ((j : Int) ∈ allKids d) = (parOf n != -1) := fun j n hj => by
              have := hall j n hj
              simpa using this
            have cl : ∀ x : Int, 0 ≤ x → x < d.length → pr d x = -1 ∨ (0 ≤ pr d x ∧ pr d x < d.length) := by
              intro x hx0 hx1
              obtain ⟨a, rfl⟩ := Int.eq_ofNat_of_zero_le hx0
              have ha : a < d.length := by omega
              have hnd : d[a]? = some d[a] := List.getElem?_eq_getElem ha
              by_cases hp : pr d (a : Int) = -1
              · exact .inl hp
              · have h9 := hl a _ hnd
                rw [pr_nat hnd] at hp
                rw [show (parOf d[a] != -1) = true by simpa using hp] at h9
                have h10 : (a : Int) ∈ allKids d := by simpa using h9
                obtain ⟨m, hm1, hm2⟩ := List.mem_flatMap.1 h10
                obtain ⟨i, hi⟩ := List.getElem?_of_mem hm1
                have h11 := ((hK.1 i m hi).2.2.2 _ hm2).2.2
                have := (List.getElem?_eq_some_iff.1 hi).1
                rw [h11]
                right
                omega

            show Option.bind _ _ = _
            have inner : ∀ (i : Nat) (hi : i < d.length), (∃ m, m ≤ d.length ∧ up d m (parOf d[i]) = -1) ∨ ¬ ∃ m, m ≤ d.length ∧ up d m (parOf d[i]) = -1 := fun i hi => Classical.em _
            classical
            refine it_listB (l := d) (σ := Unit) (fun i _ => (((d, ((d.length : Int), ((i : Int), ())))), ((d, ()), ()))) (fun i n _ => if !decide (∃ m, m ≤ d.length ∧ up d m (parOf n) = -1) then .inr (.inr ((171, ()), ())) else .inl ()) (fun _ => .inl ((), ())) (fun _ _ => True) () rfl trivial (by omega) (fun i s hi _ => ⟨?_, fun _ _ => trivial⟩) (fun s _ => ?_) ?_
            · have hnd : d[i]? = some d[i] := List.getElem?_eq_getElem hi
              have hrng : parOf d[i] = -1 ∨ (0 ≤ parOf d[i] ∧ parOf d[i] < d.length) := by have := cl i (by omega) (by omega); rwa [pr_nat hnd] at this
              simp only [lenLt, decide_eq_true hi, cond_true, idx_nat hi, Option.bind_some]
              generalize hf0 : (fun (s30 : (Int × Int × List Nd × Int × Int × Unit) × ((List Nd × Unit) × Unit)) => (bif s30.1.2.1 != -1 then _ else _ : Option (((Int × Int × List Nd × Int × Int × Unit) × ((List Nd × Unit) × Unit)) ⊕ (((List Nd × Int × Int × Unit) × ((List Nd × Unit) × Unit)) ⊕ ((Int × Unit) × Unit))))) = f0
              have hw := walkUp (f := f0) d (fun s x => (((s : Int), (x, (d, ((d.length : Int), ((i : Int), ()))))), ((d, ()), ()))) (.inl ((d, ((d.length : Int), ((i : Int), ()))), ((d, ()), ()))) (.inr ((171, ()), ())) cl (fun s => by rw [← hf0]; rfl) (fun s x hx0 hx1 hs1 hs2 => ?_) (fun s x hx0 hx1 hs1 => ?_) d.length 0 (parOf d[i]) 5000 (by omega) (by omega) hrng
              · rcases hw with ⟨he, hv⟩ | ⟨he, hv⟩
                · rw [decide_eq_true he]
                  show ((iterN f0 5000 _).bind _) = _
                  have hv' : iterN f0 5000 (((0 : Int), (d[i].2.2.2.2.1, (d, ((d.length : Int), ((i : Int), ()))))), ((d, ()), ())) = _ := hv
                  rw [hv']
                  simp only [Option.bind_some, Bool.not_true, Bool.false_eq_true, if_false, wrapS (show i < 1000000 by omega)]
                · rw [decide_eq_false he]
                  show ((iterN f0 5000 _).bind _) = _
                  have hv' : iterN f0 5000 (((0 : Int), (d[i].2.2.2.2.1, (d, ((d.length : Int), ((i : Int), ()))))), ((d, ()), ())) = _ := hv
                  rw [hv']
                  rfl
              · rw [← hf0]
                have b1 : (x != -1) = true := by simp; omega
                simp only [b1, cond_true, wrapS (show s < 1000000 by omega), lenGt, decide_eq_true hs1]
              · rw [← hf0]
                have b1 : (x != -1) = true := by simp; omega
                obtain ⟨a, rfl⟩ := Int.eq_ofNat_of_zero_le hx0
                have ha : a < d.length := by omega
                simp only [b1, cond_true, wrapS (show s < 1000000 by omega), lenGt, decide_eq_false (show ¬ s + 1 > d.length by omega), cond_false, idx_nat ha, Option.bind_some, pr_nat (List.getElem?_eq_getElem ha)]
            · simp only [lenLt, Nat.lt_irrefl, decide_false, cond_false]
            · rcases foldL_scanI (fun (i : Nat) (n : Nd) => !decide (∃ m, m ≤ d.length ∧ up d m (parOf n) = -1)) ((.inr ((171, ()), ())) : (Unit × Unit) ⊕ ((Int × Unit) × Unit)) (.inl ((), ())) d 0 with ⟨⟨j, n, hj, hp⟩, hf⟩ | ⟨hall2, hf⟩
              · rw [hf]
                rw [if_neg (fun R => by
                  have := (hRI.1 R).2.2 j n hj
                  simp [this] at hp)]
              · rw [hf]
                rw [if_pos (hRI.2 ⟨hok, hl, fun j n hj => by simpa using hall2 j n hj⟩)]
end Go.En.Pl
