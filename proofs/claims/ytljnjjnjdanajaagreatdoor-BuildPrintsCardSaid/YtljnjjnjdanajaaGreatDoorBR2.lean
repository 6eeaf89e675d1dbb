/- Text BR2 of this seat: written by a program of ours, or by hand; checked by Lean. -/
import Derived.Test.YtljnjjnjdanajaaGreatDoorBR1
set_option linter.unusedVariables false
set_option linter.unusedSimpArgs false
namespace Go.En.Pl
theorem printedB (d : List Nd) (R : Right d) (hd : DocOk d) : ∀ (f m : Nat) (x : Int), f ≤ m → okD d f x → In' d x → 700000 * (dn d f x).length ≤ 100000000000 → pounceref17_printed_N (Ev.upto 5000) m ((d, (x, ())), ()) = some ((prt d f x, ()), ()) := by
  intro f
  induction f with
  | zero => intro m x _ h; exact h.elim
  | succ f ih =>
    intro m x hm ho hx hl
    obtain ⟨m, rfl⟩ : ∃ k, m = k + 1 := ⟨m - 1, by omega⟩
    obtain ⟨n, hn, hg⟩ := idx_ge hx.1 hx.2
    have hok := hd.2 n (List.mem_of_getElem? hg)
    have ht := tagLen hok
    have hto := tagOk hok
    unfold NdOk at hok
    have hkl : (kidsOf n).length ≤ 400 := hok.2.2.2.1
    have hks : ks d x = kidsOf n := by unfold ks; rw [hn]
    have hin' : ∀ k, k ∈ kidsOf n → In' d k := fun k hk => (R.kid (x := x) (hks.symm ▸ hk)).2.1
    have ho' : ∀ k, k ∈ kidsOf n → okD d f k := fun k hk => ho k (hks ▸ hk)
    have hpar : parOf n = -1 ∨ In' d (parOf n) := by
      have := R.cl x hx.1 hx.2
      unfold pr at this
      rw [hn] at this
      exact this
    have he := enc_len n.2.2.1
    unfold dn at hl
    rw [hks] at hl
    simp only [List.length_cons] at hl
    have hplAll := prt_flat hd f (kidsOf n)
    unfold prt pounceref17_printed_N pounceref17_printed_B
    simp only [hn, Option.bind_some]
    refine it_listB (l := kidsOf n) (σ := Bs) (fun i s => ((s, ((i : Int), ())), ((d, ()), ((n, ()), ())))) (fun _ k s => .inl (s ++ prt d f k)) (fun s => ((s, ()), ((d, ()), ((n, ()), ())))) (fun i s => s = ((kidsOf n).take i).flatMap (prt d f)) [] rfl (by simp) (by omega) (fun i s hi hs => ⟨?_, fun s' e => ?_⟩) (fun s _ => ?_) ?_
    · have hk : (kidsOf n)[i] ∈ kidsOf n := List.getElem_mem hi
      have hle := flat_le (dn d f) (kidsOf n) i hi
      have hpl := prt_flat hd f ((kidsOf n).take i)
      have hpk := prt_len hd f (kidsOf n)[i]
      simp only [lenLt, decide_eq_true hi, cond_true, idx_nat hi, Option.bind_some, wrapS (show i < 1000000 by omega)]
      rw [ih m _ (by omega) (ho' _ hk) (hin' _ hk) (by omega)]
      simp only [Option.bind_some, sfW (show s.length + (prt d f (kidsOf n)[i]).length ≤ 1000000000000 by rw [hs]; omega), cond_true]
    · simp only [Sum.inl.injEq] at e
      rw [← e, hs, take_flat]
    · simp only [lenLt, Nat.lt_irrefl, decide_false, cond_false]
    · rw [foldL_flat, List.nil_append]
      simp only
      generalize (kidsOf n).flatMap (prt d f) = ins at hplAll
      by_cases h3 : n.1 = 3
      · simp only [h3, beq_self_eq_true, cond_true, (codeBoth (Ev.upto 5000) d (parOf n) hpar).2, Option.bind_some, if_true]
        cases hc : codeN d (parOf n) with
        | true => simp only [cond_true, if_true]
        | false => simp only [cond_false, rEncode_eq 5000 n.2.2.1 (by omega) (by omega), Option.bind_some, Bool.false_eq_true, if_false]
      rw [if_neg h3]
      simp only [beq_eq_false_iff_ne.2 h3, cond_false]
      by_cases h4 : n.1 = 4
      · simp only [h4, beq_self_eq_true, cond_true, if_true, sfW (show ([60, 33, 45, 45] : Bs).length + n.2.2.1.length ≤ 1000000000000 by simp; omega), sfW (show (([60, 33, 45, 45] : Bs) ++ n.2.2.1).length + ([45, 45, 62] : Bs).length ≤ 1000000000000 by simp; omega)]
      rw [if_neg h4]
      simp only [beq_eq_false_iff_ne.2 h4, cond_false]
      by_cases h2 : n.1 = 2
      · have hp : pounceref14_Print_ (Ev.upto 5000) (([((2 : Int), (n.2.1, (([] : Bs), (n.2.2.2.1, false))))], ()), ()) = some ((startP (tagT n), ()), ()) := rPrint_eq 5000 [tagT n] (by simp) (by simpa using hto) (by omega)
        rw [if_pos h2]
        simp only [h2, beq_self_eq_true, cond_true]
        rw [hp]
        simp only [Option.bind_some, voidR (Ev.upto 5000) n.2.1]
        cases hv : voidB n.2.1 with
        | true => simp only [cond_true, if_true, List.append_nil]
        | false =>
          simp only [cond_false, Bool.false_eq_true, if_false, sfW (show (startP (tagT n)).length + ins.length ≤ 1000000000000 by omega), sfW (show (startP (tagT n) ++ ins).length + ([60, 47] : Bs).length ≤ 1000000000000 by simp only [List.length_append, List.length_cons, List.length_nil]; omega), sfW (show (startP (tagT n) ++ ins ++ [60, 47]).length + n.2.1.length ≤ 1000000000000 by simp only [List.length_append, List.length_cons, List.length_nil]; omega), sfW (show (startP (tagT n) ++ ins ++ [60, 47] ++ n.2.1).length + ([62] : Bs).length ≤ 1000000000000 by simp only [List.length_append, List.length_cons, List.length_nil]; omega), cond_true]
          simp only [List.append_assoc]
      · rw [if_neg h2]
        simp only [beq_eq_false_iff_ne.2 h2, cond_false]
noncomputable def prints (d : List Nd) (x : Int) : Bs := if thr d x = true then prt d 400 x else []
theorem domPrint (d : List Nd) (x : Int) (hd : DocOk d) : build_Print_ (Ev.upto 5000) ((d, (x, ())), ()) = some ((prints d x, ()), ()) := by
  unfold build_Print_ prints
  have h := hd.sm
  simp only [domCheck d h, Option.bind_some]
  by_cases hc : chk d = 0
  · have R := chk0.1 hc
    simp only [hc, bne_self_eq_false, beq_self_eq_true, cond_true]
    by_cases hx : In' d x
    · rw [if_pos (thr_iff.2 ⟨R, hx⟩)]
      simp only [decide_eq_false (show ¬ x < 0 by have := hx.1; omega), decide_eq_false (show ¬ x ≥ (d.length : Int) by have := hx.2; omega), beq_self_eq_true, cond_true, cond_false, Option.bind_some]
      have hl := R.dn_len 400 hx
      have hl3 := R.len
      have e : (Ev.upto 5000).rc (build_write_b6fN (Ev.upto 5000)) ((d, (x, ())), ((), (([] : List Int), ()))) = some ((), ((), (ofBs (prt d 400 x), ()))) := by
        have := writeB d R hd 400 5000 x [] (by omega) (R.okD4 hx) hx (by simp only [List.length_nil]; omega)
        rw [List.nil_append] at this
        exact this
      unfold build_write_b6f
      rw [e]
      simp only [Option.bind_some]
      rw [BS_eq, toBs_ofBs]
      rfl
    · have ht : thr d x = false := by
        cases ht : thr d x with
        | false => rfl
        | true => exact absurd (thr_iff.1 ht).2 hx
      rw [ht]
      by_cases h0 : x < 0
      · simp only [decide_eq_true h0, Bool.true_beq, cond_false, Option.bind_some, cond_true, Bool.false_eq_true, if_false]
      · have h1 : x ≥ (d.length : Int) := by unfold In' at hx; omega
        simp only [decide_eq_false h0, decide_eq_true h1, beq_self_eq_true, Option.bind_some, cond_true, Bool.false_eq_true, if_false]
  · have ht : thr d x = false := by
      cases ht : thr d x with
      | false => rfl
      | true => exact absurd (chk0.2 (thr_iff.1 ht).1) hc
    rw [ht]
    simp only [bne_iff_ne.2 hc, Bool.true_beq, cond_false, Option.bind_some, cond_true, Bool.false_eq_true, if_false]
theorem refPrint (d : List Nd) (x : Int) (hd : DocOk d) : pounceref17_Print_ (Ev.upto 5000) ((d, (x, ())), ()) = some ((prints d x, ()), ()) := by
  unfold pounceref17_Print_ prints pounceref17_printed_
  simp only [There d x hd.sm, Option.bind_some]
  cases ht : thr d x with
  | false => rfl
  | true =>
    obtain ⟨R, hx⟩ := thr_iff.1 ht
    have hl := R.dn_len 400 hx
    have hl3 := R.len
    have e : (Ev.upto 5000).rc (pounceref17_printed_N (Ev.upto 5000)) ((d, (x, ())), ()) = some ((prt d 400 x, ()), ()) := printedB d R hd 400 5000 x (by omega) (R.okD4 hx) hx (by omega)
    simp only [Bool.not_true, cond_false, if_true]
    rw [e]
    rfl
theorem buildsOk : pouncelaw17_builds_ (Ev.upto 5000) ((), ()) = some ((true, ()), ()) := by kernel_rfl
theorem plainBuildPrints (d : List Nd) (x : Int) : pouncelaw17_BuildPrints_ (Ev.upto 5000) ((d, (x, ())), ()) = some ((true, ()), ()) := by
  unfold pouncelaw17_BuildPrints_
  obtain ⟨b, hb, hk⟩ := big d
  simp only [hb, Option.bind_some]
  cases b with
  | true => rfl
  | false =>
    have hd := hk rfl
    have hs := hd.sm
    simp only [cond_false, own d hs, Option.bind_some, domPrint d x hd]
    rw [refPrint d x hd, buildsOk]
    simp only [Option.bind_some, beq_self_eq_true, cond_true, sameRefl d hs]
end Go.En.Pl
