/- Text OQ of this seat: written by a program of ours, or by hand; checked by Lean. -/
import Derived.Test.YtadpiodjbcjlcaaOP
set_option linter.unusedVariables false
set_option linter.unusedSimpArgs false
namespace Go.En.Pl
/-! -/
theorem dn_same {d d' : List Nd} : ∀ (f : Nat) (y : Int), (∀ z, z ∈ dn d f y → ks d' z = ks d z) → dn d' f y = dn d f y
  | 0, y, _ => rfl
  | f + 1, y, h => by
    have hy : ks d' y = ks d y := h y (by unfold dn; exact List.mem_cons_self ..)
    unfold dn
    rw [hy]
    congr 1
    have : ∀ l : List Int, (∀ k, k ∈ l → dn d' f k = dn d f k) → l.flatMap (dn d' f) = l.flatMap (dn d f) := by
      intro l
      induction l with
      | nil => intro _; rfl
      | cons a l ih =>
        intro hl
        rw [List.flatMap_cons, List.flatMap_cons, hl a (List.mem_cons_self ..), ih fun k hk => hl k (List.mem_cons_of_mem _ hk)]
    exact this _ fun k hk => dn_same f k fun z hz => h z (by unfold dn; exact List.mem_cons_of_mem _ (List.mem_flatMap.2 ⟨k, hk, hz⟩))
theorem Right.no_below {d : List Nd} (R : Right d) {x z : Int} (hx : In' d x) (h : z ∈ below d x) : x ∉ ks d z := by
  intro hk
  obtain ⟨_, j, hj⟩ := (R.mem_below hx).1 h
  refine R.acyc hx j ?_
  show up d j (Go.En.Pl.pr d x) = x
  rw [(R.kid hk).2.2.2]
  exact hj
theorem Right.below_out {d : List Nd} (R : Right d) {x : Int} (hx : In' d x) : below (outD d x) x = below d x := by
  refine dn_same 400 x fun z hz => ?_
  have hz' : z ∈ below d x := hz
  rw [(R.mvOut hx).ks (R.dn_in 400 hx hz), filter_no (R.no_below hx hz')]
theorem Right.below_same {d : List Nd} (R : Right d) {q x : Int} (hx : In' d x) (hq : In' d q) (hb : q ∉ below d x) : below (putD d q x) x = below d x := by
  have hne : q ≠ x := fun e => hb (e ▸ (R.mem_below hx).2 ⟨hx, 0, rfl⟩)
  refine dn_same 400 x fun z hz => ?_
  have hz' : z ∈ below d x := hz
  rw [(R.mvPut hx hq hne).ks (R.dn_in 400 hx hz), if_neg (show ¬ z = q from fun e => hb (e ▸ hz')), filter_no (R.no_below hx hz')]
theorem Right.below_last {d : List Nd} (R : Right d) {q x : Int} (hx : In' d x) (h1 : 1 ≤ x) (hq : In' d q) {p : Nd} (hp : idx d q = some p) (hh : holdsB p = true) (hb : q ∉ below d x) : ∃ pre, below (putD d q x) q = pre ++ below d x := by
  have hne : q ≠ x := fun e => hb (e ▸ (R.mem_below hx).2 ⟨hx, 0, rfl⟩)
  have M := R.mvPut hx hq hne
  have R2 := R.put hx h1 hq hp hh hb
  have e1 : dn (putD d q x) 399 x = below d x := by
    rw [← R.below_same hx hq hb]
    have ho := R2.okDr (M.in.2 hx)
    have := R2.len
    rw [dn_okD (f' := 399) (by omega) ho]
    exact (dn_okD (f' := 400) (by omega) ho).symm
  refine ⟨q :: ((ks d q).filter (· != x)).flatMap (dn (putD d q x) 399), ?_⟩
  have : below (putD d q x) q = q :: (ks (putD d q x) q).flatMap (dn (putD d q x) 399) := rfl
  rw [this, M.ks hq, if_pos rfl, List.flatMap_append, List.cons_append]
  congr 2
  show dn (putD d q x) 399 x ++ [] = _
  rw [List.append_nil, e1]
theorem Mv.dat {d d' : List Nd} {P : Int → Int} {K : Int → List Int} (M : Mv d d' P K) (x : Int) : dat d' x = dat d x := by
  unfold Go.En.Pl.dat
  by_cases hx : In' d x
  · obtain ⟨i, n, rfl, hi⟩ := hx.nat
    obtain ⟨n', h1, h2, _⟩ := M.at' i n hi
    rw [idx_nat' hi, idx_nat' h1]
    simp only [h2.1, h2.2.2.1]
  · rw [idx_none hx, idx_none (fun h => hx (M.in.1 h))]
theorem Right.gone {d : List Nd} (R : Right d) {x : Int} (hx : In' d x) (h1 : 1 ≤ x) : ∀ (j : Nat) (y : Int), up d j y = x → ∀ i, up (outD d x) i y ≠ 0 := by
  have M := R.mvOut hx
  have base : ∀ i, up (outD d x) i x ≠ 0 := by
    intro i
    cases i with
    | zero => show x ≠ 0; omega
    | succ i =>
      show up (outD d x) i (Go.En.Pl.pr (outD d x) x) ≠ 0
      rw [M.pr hx]
      simp only [if_true, up_neg]
      omega
  intro j
  induction j with
  | zero =>
    intro y h
    obtain rfl : y = x := h
    exact base
  | succ j ih =>
    intro y h
    by_cases e : y = x
    · subst e; exact base
    · by_cases hy : In' d y
      · intro i
        cases i with
        | zero =>
          show y ≠ 0
          intro h0
          subst h0
          have : up d j (Go.En.Pl.pr d 0) = x := h
          rw [R.par0, up_neg] at this
          omega
        | succ i =>
          show up (outD d x) i (Go.En.Pl.pr (outD d x) y) ≠ 0
          rw [M.pr hy, if_neg e]
          exact ih _ h i
      · have : up d j (Go.En.Pl.pr d y) = x := h
        rw [pr_ge hy, up_neg] at this
        omega
theorem textDom (d : List Nd) (x : Int) (h : Sm d) (hD : ∀ n, n ∈ d → n.2.2.1.length ≤ 3000) : dom_Text_ (Ev.upto 5000) ((d, (x, ())), ()) = some ((txt d x, ()), ()) := by
  unfold dom_Text_ txt
  simp only [(belowBoth d x h).1, Option.bind_some]
  have hl := blw_len d x
  have hin : ∀ y, y ∈ blw d x → In' d y := fun y hy => blw_in hy
  generalize blw d x = l at hl hin
  refine it_listB (l := l) (σ := Bs) (fun i s => (((l.length : Int), ((i : Int), ())), ((d, ()), ((), (l, (ofBs s, ())))))) (fun _ k s => .inl (s ++ dat d k)) (fun s => ((), ((), (ofBs s, ())))) (fun i s => s.length ≤ 3000 * i) [] rfl (by simp) (by omega) (fun i s hi hs => ⟨?_, fun s' e => ?_⟩) (fun s _ => ?_) ?_
  · obtain ⟨n, hn, hg⟩ := idx_ge (hin _ (List.getElem_mem hi)).1 (hin _ (List.getElem_mem hi)).2
    have hn3 := hD n (List.mem_of_getElem? hg)
    simp only [lenLt, decide_eq_true hi, cond_true, decide_eq_true (show (0 : Int) ≤ (i : Int) by omega), Bool.and_self, getB hi, Option.bind_some, hn, wrapS (show i < 1000000 by omega), dat]
    by_cases h3 : n.1 = 3
    · simp only [h3, beq_self_eq_true, cond_true, strings_Builder_WriteString_cc3, strings_Builder_copyCheck_20a, Option.bind_some, fits_of (show ((ofBs s).length + n.2.2.1.length) * 1 ≤ 100000000 by rw [ofBs_length]; omega), if_true, ofBs_append, wrapS (show i < 1000000 by omega)]
    · simp only [beq_eq_false_iff_ne.2 h3, cond_false, Option.bind_some, if_neg h3, List.append_nil, wrapS (show i < 1000000 by omega)]
  · simp only [Sum.inl.injEq] at e
    rw [← e, List.length_append]
    obtain ⟨n, hn, hg⟩ := idx_ge (hin _ (List.getElem_mem hi)).1 (hin _ (List.getElem_mem hi)).2
    have hn3 := hD n (List.mem_of_getElem? hg)
    have : (dat d l[i]).length ≤ 3000 := by
      unfold dat
      rw [hn]
      by_cases h3 : n.1 = 3
      · simp only [if_pos h3]; exact hn3
      · simp only [if_neg h3]; simp
    omega
  · simp only [lenLt, Nat.lt_irrefl, decide_false, cond_false]
  · rw [foldL_flat]
    simp only [strings_Builder_String_20a, beq_self_eq_true, cond_true, Option.bind_some, toBs_ofBs, List.nil_append]
theorem Mv.data {d d' : List Nd} {P : Int → Int} {K : Int → List Int} (M : Mv d d' P K) (h : DocOk d) : ∀ n, n ∈ d' → n.2.2.1.length ≤ 3000 := by
  intro n hn
  obtain ⟨i, hi⟩ := List.getElem?_of_mem hn
  obtain ⟨m, h1, h2, _⟩ := M.get hi
  rw [h2.2.2.1]
  exact (h.2 m (List.mem_of_getElem? h1)).2.1
theorem blw_of {d : List Nd} (R : Right d) {x : Int} (hx : In' d x) : blw d x = below d x := by
  unfold blw
  rw [if_pos (thr_iff.2 ⟨R, hx⟩)]
theorem inB_iff {d : List Nd} (R : Right d) {x : Int} (hx : In' d x) : inB d x = true ↔ ∃ j, up d j x = 0 := by
  have h0 : In' d 0 := ⟨by omega, by have := R.pos; omega⟩
  unfold inB
  rw [thr_iff.2 ⟨R, hx⟩, Bool.true_and, undB_iff R hx h0, R.mem_below h0]
  exact ⟨fun h => h.2, fun h => ⟨hx, h⟩⟩
theorem inB_false {d : List Nd} {x : Int} (R : Right d) (hx : In' d x) (h : ∀ j, up d j x ≠ 0) : inB d x = false := by
  cases e : inB d x with
  | false => rfl
  | true =>
    obtain ⟨j, hj⟩ := (inB_iff R hx).1 e
    exact absurd hj (h j)
theorem plainDomPlaces (d : List Nd) (q x : Int) : pouncelaw16_DomPlaces_ (Ev.upto 5000) ((d, (q, (x, ()))), ()) = some ((true, ()), ()) := by
  unfold pouncelaw16_DomPlaces_
  obtain ⟨b, hb, hk⟩ := big d
  simp only [hb, Option.bind_some]
  cases b with
  | true => rfl
  | false =>
    have hd := hk rfl
    have hs := hd.sm
    have hD : ∀ n, n ∈ d → n.2.2.1.length ≤ 3000 := fun n hn => (hd.2 n hn).2.1
    simp only [cond_false, (belowBoth d x hs).1, domPut d q x hs, domCut d x hs, Option.bind_some]
    by_cases hp0 : (puts d q x).1 = 0
    case' pos =>
      obtain ⟨p, R, hq, h1, hx, hp, hh, hnb, e3⟩ := puts_spec hp0
      have R2 := R.put hx h1 hq hp hh hnb
      have hne : q ≠ x := fun e => hnb (e ▸ (R.mem_below hx).2 ⟨hx, 0, rfl⟩)
      have M := R.mvPut hx hq hne
      have s2 := (skPuts q x hd).sm (by omega)
      rw [e3] at s2
      obtain ⟨pre, hpre⟩ := R.below_last hx h1 hq hp hh hnb
      have hl : blw d x = below d x := blw_of R hx
      have hlen : (below d x).length ≤ 300 := R.below_len hx
      have hm : blw (putD d q x) q = pre ++ below d x := by rw [blw_of R2 (M.in.2 hq), hpre]
      have hml : (pre ++ below d x).length ≤ 300 := by rw [← hm]; exact blw_len _ _
      have hml' : pre.length + (below d x).length ≤ 300 := by simpa using hml
      have ht : txt (putD d q x) x = txt d x := by
        unfold txt
        rw [blw_of R2 (M.in.2 hx), hl, R.below_same hx hq hnb]
        congr 1
        funext k
        exact M.dat k
      have hi : inB (putD d q x) x = inB (putD d q x) q := by
        rw [Bool.eq_iff_iff, inB_iff R2 (M.in.2 hx), inB_iff R2 (M.in.2 hq)]
        constructor
        · rintro ⟨j, hj⟩
          cases j with
          | zero => simp only [up] at hj; omega
          | succ j =>
            refine ⟨j, ?_⟩
            have : up (putD d q x) j (Go.En.Pl.pr (putD d q x) x) = 0 := hj
            rw [M.pr hx, if_pos rfl] at this
            exact this
        · rintro ⟨j, hj⟩
          refine ⟨j + 1, ?_⟩
          show up (putD d q x) j (Go.En.Pl.pr (putD d q x) x) = 0
          rw [M.pr hx, if_pos rfl]
          exact hj
      have g1 : decide (((pre ++ below d x).length : Int) < ((below d x).length : Int)) = false := decide_eq_false (by simp only [List.length_append]; omega)
      have g2 : IntKind.wrap .i64 (((pre ++ below d x).length : Int) - ((below d x).length : Int)) = (pre.length : Int) := by
        rw [wrap64 (by simp only [List.length_append]; omega) (by simp only [List.length_append]; omega)]
        simp only [List.length_append]
        omega
      have g3 : ((pre ++ below d x).drop pre.length).take ((pre ++ below d x).length - pre.length) = below d x := by simp
      have g4 : decide ((pre.length : Int) ≤ ((pre ++ below d x).length : Int)) = true := decide_eq_true (by simp only [List.length_append]; omega)
      rw [hp0, e3, hl]
      simp only [beq_self_eq_true, cond_true, (belowBoth _ q s2).1, hm, Option.bind_some, g1, g2, g4, decide_eq_true (show (0 : Int) ≤ (pre.length : Int) by omega), decide_eq_true (Int.le_refl ((pre ++ below d x).length : Int)), Bool.and_self, Int.toNat_natCast, g3, intsRefl _ (Nat.le_trans hlen (by omega)), Bool.not_true, (inBoth _ x s2).1, (inBoth _ q s2).1, hi, textDom _ x s2 (M.data hd), textDom d x hs hD, ht, cond_false]
      rw [← hl]
    case' neg =>
      simp only [beq_eq_false_iff_ne.2 hp0, cond_false, Option.bind_some]
    all_goals
      by_cases hc : (cuts d x).1 = 0
      · obtain ⟨R, h1, hx, e⟩ := cuts_spec hc
        have R1 := R.out hx h1
        have s1 := (skCuts x hd).sm (by omega)
        have M := R.mvOut hx
        have hl : blw d x = below d x := blw_of R hx
        have hlen : (below d x).length ≤ 300 := R.below_len hx
        have hb : blw (outD d x) x = below d x := by rw [blw_of R1 (M.in.2 hx), R.below_out hx]
        have ht : txt (outD d x) x = txt d x := by
          unfold txt
          rw [hb, hl]
          congr 1
          funext k
          exact M.dat k
        rw [hc, hl]
        rw [e] at s1 ⊢
        simp only [bne_self_eq_false, cond_false]
        refine it_listB (l := below d x) (σ := Unit) (fun i _ => ((x, ((i : Int), ())), ((d, ()), (below d x, ((), (outD d x, ())))))) (fun _ _ _ => .inl ()) (fun _ => .inl ((x, ()), ((d, ()), (below d x, ((), (outD d x, ())))))) (fun _ _ => True) () rfl trivial (by omega) (fun i s hi _ => ⟨?_, fun _ _ => trivial⟩) (fun s _ => ?_) ?_
        · have hmem : (below d x)[i] ∈ below d x := List.getElem_mem hi
          obtain ⟨hin, j, hj⟩ := (R.mem_below hx).1 hmem
          have hno : inB (outD d x) (below d x)[i] = false := inB_false R1 (M.in.2 hin) (R.gone hx h1 j _ hj)
          simp only [lenLt, decide_eq_true hi, cond_true, decide_eq_true (show (0 : Int) ≤ (i : Int) by omega), Bool.and_self, getB hi, Option.bind_some, (inBoth _ _ s1).1, hno, cond_false, wrapS (show i < 1000000 by omega)]
        · simp only [lenLt, Nat.lt_irrefl, decide_false, cond_false]
        · rw [foldL_all _ _ _ _ (fun _ _ => rfl)]
          simp only [(belowBoth _ x s1).1, hb, Option.bind_some, intsRefl _ (Nat.le_trans hlen (by omega)), beq_self_eq_true, cond_true, textDom _ x s1 (M.data hd), textDom d x hs hD, ht]
          rw [laysOk]
          rfl
      · simp only [bne_iff_ne.2 hc, cond_true]
        rw [laysOk]
        rfl
end Go.En.Pl
