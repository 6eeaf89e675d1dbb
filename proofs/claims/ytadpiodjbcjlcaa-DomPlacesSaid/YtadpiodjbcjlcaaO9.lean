/- Text O9 of this seat: written by a program of ours, or by hand; checked by Lean. -/
import Derived.Test.YtadpiodjbcjlcaaO8
set_option linter.unusedVariables false
set_option linter.unusedSimpArgs false
namespace Go.En.Pl
/-! -/
theorem foldL_flat {ε δ β : Type} (h : ε → List δ) (fin : List δ → β) : ∀ (l : List ε) (i : Nat) (s : List δ), foldL (fun (_ : Nat) (x : ε) (s : List δ) => (.inl (s ++ h x) : List δ ⊕ β)) fin i l s = fin (s ++ l.flatMap h)
  | [], i, s => by simp [foldL]
  | x :: l, i, s => by
    unfold foldL
    simp only
    rw [foldL_flat h fin l (i + 1) (s ++ h x), List.flatMap_cons, List.append_assoc]
theorem flat_le {ε δ : Type} (h : ε → List δ) : ∀ (l : List ε) (i : Nat) (hi : i < l.length), ((l.take i).flatMap h).length + (h l[i]).length ≤ (l.flatMap h).length
  | [], i, hi => by simp at hi
  | x :: l, 0, hi => by simp
  | x :: l, i + 1, hi => by
    have := flat_le h l i (by simpa using hi)
    simp only [List.take_succ_cons, List.flatMap_cons, List.length_append, List.getElem_cons_succ]
    omega
theorem take_flat {ε δ : Type} (h : ε → List δ) : ∀ (l : List ε) (i : Nat) (hi : i < l.length), (l.take i).flatMap h ++ h l[i] = (l.take (i + 1)).flatMap h
  | [], i, hi => by simp at hi
  | x :: l, 0, hi => by simp
  | x :: l, i + 1, hi => by
    have := take_flat h l i (by simpa using hi)
    simp only [List.take_succ_cons, List.flatMap_cons, List.getElem_cons_succ, List.append_assoc, this]
theorem appR (k : Int) (acc : List Int) (h : acc.length ≤ 9000) : slices_AppendSeq__int_int_692r (Ev.upto 5000) ((k, ()), ((), (acc, ()))) = some ((true, ()), ((), (acc ++ [k], ()))) := by
  unfold slices_AppendSeq__int_int_692r
  simp only [fitsS (show acc.length + ([k] : List Int).length ≤ 10000 by simp; omega) (show 8 ≤ 1000 by omega), cond_true]
theorem stepB (d : List Nd) (R : Right d) (hd : Sm d) : ∀ (f m : Nat) (x : Int) (acc : List Int), f ≤ m → okD d f x → In' d x → (acc ++ dn d f x).length ≤ 8000 → dom_step_bf7N (Ev.upto 5000) (slices_AppendSeq__int_int_692r (Ev.upto 5000)) m ((d, (x, ())), ((), (acc, ()))) = some ((true, ()), ((), (acc ++ dn d f x, ()))) := by
  intro f
  induction f with
  | zero => intro m x acc _ h; exact h.elim
  | succ f ih =>
    intro m x acc hm ho hx hl
    obtain ⟨m, rfl⟩ : ∃ k, m = k + 1 := ⟨m - 1, by omega⟩
    have hl0 : acc.length ≤ 9000 := by simp only [List.length_append] at hl; omega
    obtain ⟨n, hn, hg⟩ := idx_ge hx.1 hx.2
    have hks : ks d x = kidsOf n := by unfold ks; rw [hn]
    have hm2 : (kidsOf n).length ≤ 4000 := (hd.2 n (List.mem_of_getElem? hg)).2
    unfold dn at hl ⊢
    rw [hks] at hl ⊢
    have ho' : ∀ k, k ∈ kidsOf n → okD d f k := fun k hk => ho k (hks ▸ hk)
    have hin' : ∀ k, k ∈ kidsOf n → In' d k := fun k hk => (R.kid (x := x) (hks.symm ▸ hk)).2.1
    unfold dom_step_bf7N dom_step_bf7B
    simp only [appR x acc hl0, Option.bind_some, Bool.not_true, cond_false, hn]
    refine it_listB (l := kidsOf n) (σ := List Int) (fun i s => ((kidsOf n, ((kidsOf n).length, ((i : Int), ()))), ((), ((d, ()), (s, ()))))) (fun _ k s => .inl (s ++ dn d f k)) (fun s => .inl ((), ((), (s, ())))) (fun i s => s = (acc ++ [x]) ++ ((kidsOf n).take i).flatMap (dn d f)) (acc ++ [x]) rfl (by simp) (by omega) (fun i s hi hs => ⟨?_, fun s' e => ?_⟩) (fun s _ => ?_) ?_
    · have hk : (kidsOf n)[i] ∈ kidsOf n := List.getElem_mem hi
      have hle := flat_le (dn d f) (kidsOf n) i hi
      simp only [lenLt, decide_eq_true hi, cond_true, idx_nat hi, Option.bind_some, wrapS (show i < 1000000 by omega)]
      rw [ih m _ s (by omega) (ho' _ hk) (hin' _ hk) (by rw [hs]; simp only [List.length_append, List.length_cons, List.length_nil] at hl ⊢; omega)]
      rfl
    · simp only [Sum.inl.injEq] at e
      rw [← e, hs, List.append_assoc, take_flat]
    · simp only [lenLt, Nat.lt_irrefl, decide_false, cond_false]
    · rw [foldL_flat]
      simp only [List.append_assoc, List.cons_append, List.nil_append]
theorem downB (d : List Nd) (R : Right d) (hd : Sm d) : ∀ (f m : Nat) (x : Int), f ≤ m → okD d f x → In' d x → (dn d f x).length ≤ 8000 → pounceref16_down_N (Ev.upto 5000) m ((d, (x, ())), ()) = some ((), (dn d f x, ())) := by
  intro f
  induction f with
  | zero => intro m x _ h; exact h.elim
  | succ f ih =>
    intro m x hm ho hx hl
    obtain ⟨m, rfl⟩ : ∃ k, m = k + 1 := ⟨m - 1, by omega⟩
    obtain ⟨n, hn, hg⟩ := idx_ge hx.1 hx.2
    have hks : ks d x = kidsOf n := by unfold ks; rw [hn]
    have hm2 : (kidsOf n).length ≤ 4000 := (hd.2 n (List.mem_of_getElem? hg)).2
    unfold dn at hl ⊢
    rw [hks] at hl ⊢
    have ho' : ∀ k, k ∈ kidsOf n → okD d f k := fun k hk => ho k (hks ▸ hk)
    have hin' : ∀ k, k ∈ kidsOf n → In' d k := fun k hk => (R.kid (x := x) (hks.symm ▸ hk)).2.1
    unfold pounceref16_down_N pounceref16_down_B
    refine it_listB (l := kidsOf n) (σ := List Int) (fun i s => ((x, ((i : Int), ())), ((d, ()), (s, ())))) (fun _ k s => .inl (s ++ dn d f k)) (fun s => ((), (s, ()))) (fun i s => s = [x] ++ ((kidsOf n).take i).flatMap (dn d f)) [x] rfl (by simp) (by omega) (fun i s hi hs => ⟨?_, fun s' e => ?_⟩) (fun s _ => ?_) ?_
    · have hk : (kidsOf n)[i] ∈ kidsOf n := List.getElem_mem hi
      have hle := flat_le (dn d f) (kidsOf n) i hi
      have hsl : s.length + (dn d f (kidsOf n)[i]).length ≤ 8000 := by rw [hs]; simp only [List.length_append, List.length_cons, List.length_nil] at hl ⊢; omega
      simp only [hn, Option.bind_some, lenLt, decide_eq_true hi, cond_true, idx_nat hi, wrapS (show i < 1000000 by omega)]
      rw [ih m _ (by omega) (ho' _ hk) (hin' _ hk) (by omega)]
      simp only [Option.bind_some, fitsS (show s.length + (dn d f (kidsOf n)[i]).length ≤ 10000 by omega) (show 8 ≤ 1000 by omega), cond_true]
    · simp only [Sum.inl.injEq] at e
      rw [← e, hs, List.append_assoc, take_flat]
    · simp only [hn, Option.bind_some, lenLt, Nat.lt_irrefl, decide_false, cond_false]
    · rw [foldL_flat]
      rfl
noncomputable def blw (d : List Nd) (x : Int) : List Int := if thr d x = true then below d x else []
theorem Right.below_len {d : List Nd} (R : Right d) {x : Int} (hx : In' d x) : (below d x).length ≤ 300 := by
  have := R.dn_len 400 hx
  have := R.len
  unfold below
  omega
theorem belowBoth (d : List Nd) (x : Int) (h : Sm d) : dom_Below_ (Ev.upto 5000) ((d, (x, ())), ()) = some ((), (blw d x, ())) ∧ pounceref16_Below_ (Ev.upto 5000) ((d, (x, ())), ()) = some ((), (blw d x, ())) := by
  unfold dom_Below_ pounceref16_Below_ blw dom_walk_2d9 slices_Collect_int_f47 slices_AppendSeq__int_int_692 dom_walk_1_c21 dom_step_bf7 pounceref16_down_
  simp only [there d x h, There d x h, Option.bind_some]
  cases ht : thr d x with
  | false => exact ⟨rfl, rfl⟩
  | true =>
    obtain ⟨R, hx⟩ := thr_iff.1 ht
    have hl := R.below_len hx
    have e1 := stepB d R h 400 5000 x [] (by omega) (R.okD4 hx) hx (by rw [List.nil_append]; exact Nat.le_trans hl (by omega))
    have e2 := downB d R h 400 5000 x (by omega) (R.okD4 hx) hx (Nat.le_trans hl (by omega))
    refine ⟨?_, ?_⟩
    · simp only [Bool.not_true, cond_false, if_true]
      have : (Ev.upto 5000).rc (dom_step_bf7N (Ev.upto 5000) (slices_AppendSeq__int_int_692r (Ev.upto 5000))) ((d, (x, ())), ((), (([] : List Int), ()))) = some ((true, ()), ((), (below d x, ()))) := by
        rw [List.nil_append] at e1
        exact e1
      rw [this]
      rfl
    · simp only [Bool.not_true, cond_false, if_true]
      have : (Ev.upto 5000).rc (pounceref16_down_N (Ev.upto 5000)) ((d, (x, ())), ()) = some ((), (below d x, ())) := e2
      rw [this]
      rfl
theorem blw_len (d : List Nd) (x : Int) : (blw d x).length ≤ 300 := by
  unfold blw
  cases ht : thr d x with
  | false => simp
  | true =>
    obtain ⟨R, hx⟩ := thr_iff.1 ht
    simpa using R.below_len hx
theorem blw_in {d : List Nd} {x y : Int} (h : y ∈ blw d x) : In' d y := by
  unfold blw at h
  cases ht : thr d x with
  | false => rw [ht] at h; simp at h
  | true =>
    rw [ht, if_pos rfl] at h
    obtain ⟨R, hx⟩ := thr_iff.1 ht
    exact R.dn_in _ hx h
def dat (d : List Nd) (k : Int) : Bs := match idx d k with
  | some n => if n.1 = 3 then n.2.2.1 else []
  | none => []
noncomputable def txt (d : List Nd) (x : Int) : Bs := (blw d x).flatMap (dat d)
theorem dat_len {d : List Nd} (h : DocOk d) (k : Int) : (dat d k).length ≤ 3000 := by
  unfold dat
  cases e : idx d k with
  | none => simp
  | some n =>
    have := (h.2 n (List.mem_of_getElem? (idx_some e).2.2)).2.1
    by_cases h3 : n.1 = 3
    · rw [show (match some n with | some n => if n.1 = 3 then n.2.2.1 else [] | none => ([] : Bs)) = if n.1 = 3 then n.2.2.1 else [] from rfl, if_pos h3]; exact this
    · rw [show (match some n with | some n => if n.1 = 3 then n.2.2.1 else [] | none => ([] : Bs)) = if n.1 = 3 then n.2.2.1 else [] from rfl, if_neg h3]; simp
theorem getB {l : List Int} {i : Nat} (hi : i < l.length) : l[((i : Nat) : Int).toNat]? = some l[i] := by
  rw [Int.toNat_natCast]
  exact List.getElem?_eq_getElem hi
theorem textBoth (d : List Nd) (x : Int) (h : DocOk d) : dom_Text_ (Ev.upto 5000) ((d, (x, ())), ()) = some ((txt d x, ()), ()) ∧ pounceref16_Text_ (Ev.upto 5000) ((d, (x, ())), ()) = some ((txt d x, ()), ()) := by
  unfold dom_Text_ pounceref16_Text_ txt
  simp only [belowBoth d x h.sm, Option.bind_some]
  have hl := blw_len d x
  have hin : ∀ y, y ∈ blw d x → In' d y := fun y hy => blw_in hy
  generalize blw d x = l at hl hin
  refine ⟨?_, ?_⟩
  · refine it_listB (l := l) (σ := Bs) (fun i s => (((l.length : Int), ((i : Int), ())), ((d, ()), ((), (l, (ofBs s, ())))))) (fun _ k s => .inl (s ++ dat d k)) (fun s => ((), ((), (ofBs s, ())))) (fun i s => s.length ≤ 3000 * i) [] rfl (by simp) (by omega) (fun i s hi hs => ⟨?_, fun s' e => ?_⟩) (fun s _ => ?_) ?_
    · obtain ⟨n, hn, hg⟩ := idx_ge (hin _ (List.getElem_mem hi)).1 (hin _ (List.getElem_mem hi)).2
      have hn3 := (h.2 n (List.mem_of_getElem? hg)).2.1
      simp only [lenLt, decide_eq_true hi, cond_true, decide_eq_true (show (0 : Int) ≤ (i : Int) by omega), Bool.and_self, getB hi, Option.bind_some, hn, wrapS (show i < 1000000 by omega), dat]
      by_cases h3 : n.1 = 3
      · simp only [h3, beq_self_eq_true, cond_true, strings_Builder_WriteString_cc3, strings_Builder_copyCheck_20a, Option.bind_some, fits_of (show ((ofBs s).length + n.2.2.1.length) * 1 ≤ 100000000 by rw [ofBs_length]; omega), if_true, ofBs_append, wrapS (show i < 1000000 by omega)]
      · simp only [beq_eq_false_iff_ne.2 h3, cond_false, Option.bind_some, if_neg h3, List.append_nil, wrapS (show i < 1000000 by omega)]
    · simp only [Sum.inl.injEq] at e
      rw [← e, List.length_append]
      have := dat_len h l[i]
      omega
    · simp only [lenLt, Nat.lt_irrefl, decide_false, cond_false]
    · rw [foldL_flat]
      simp only [strings_Builder_String_20a, beq_self_eq_true, cond_true, Option.bind_some, toBs_ofBs, List.nil_append]
  · refine it_listB (l := l) (σ := Bs) (fun i s => ((s, ((i : Int), ())), ((d, ()), (l, ())))) (fun _ k s => .inl (s ++ dat d k)) (fun s => ((s, ()), ())) (fun i s => s.length ≤ 3000 * i) [] rfl (by simp) (by omega) (fun i s hi hs => ⟨?_, fun s' e => ?_⟩) (fun s _ => ?_) ?_
    · obtain ⟨n, hn, hg⟩ := idx_ge (hin _ (List.getElem_mem hi)).1 (hin _ (List.getElem_mem hi)).2
      have hn3 := (h.2 n (List.mem_of_getElem? hg)).2.1
      simp only [lenLt, decide_eq_true hi, cond_true, decide_eq_true (show (0 : Int) ≤ (i : Int) by omega), Bool.and_self, getB hi, Option.bind_some, hn, wrapS (show i < 1000000 by omega), dat]
      by_cases h3 : n.1 = 3
      · simp only [h3, beq_self_eq_true, cond_true, strFits_of (show s.length + n.2.2.1.length ≤ 100000000 by omega), Option.bind_some, if_true, wrapS (show i < 1000000 by omega)]
      · simp only [beq_eq_false_iff_ne.2 h3, cond_false, Option.bind_some, if_neg h3, List.append_nil, wrapS (show i < 1000000 by omega)]
    · simp only [Sum.inl.injEq] at e
      rw [← e, List.length_append]
      have := dat_len h l[i]
      omega
    · simp only [lenLt, Nat.lt_irrefl, decide_false, cond_false]
    · rw [foldL_flat]
      rfl
end Go.En.Pl
