/- The engine, part 9: regions, code, functions. -/
import Derived.Test.YtlambcopphejaaaGreatDoorE10
import Derived.LoopN
import Derived.Scope
import Derived.ScopeJumps
set_option linter.unusedVariables false
set_option linter.unusedSimpArgs false
namespace Go.En
open Go.RowKit

section
variable {P : Program} {E : Env} {c : Ctx} {R : Type}
/-- The operations of a region, one after the other. -/
theorem aOps_sound (hE : EnvOK P E) (hc : CtxOK E c) {all : List Oper} {Q : Exit → Act → World → Prop} : ∀ {l : List Oper} {tm : List D} {ob : List Ob} {a : Act} {w : World} {K : List D → List Ob → Option R} {r : R}, aOps E all l tm ob K = some r →
    Rel c tm ob a.tmps.toList w → a.defers = [] → (∀ tm' ob' a' w', K tm' ob' = some r → Rel c tm' ob' a'.tmps.toList w' → a'.defers = [] → Q .normal a' w') → wpList P all.toArray Q l a w
  | [], tm, ob, a, w, K, r, h, hr, hdf, hQ => wpList_nil (hQ _ _ _ _ h hr hdf)
  | o :: l, tm, ob, a, w, K, r, h, hr, hdf, hQ => by
    have go : ∀ {tm : List D}, Rel c tm ob a.tmps.toList w → (aOp E (evD tm) ob o.type o.op fun d ob' fr _ => frz fr (putD tm o.dst d) ob' fun tm' ob'' => aOps E all l tm' ob'' K) = some r →
        ∀ K' : Act → World → Prop, (∀ a w, wpList P all.toArray Q l a w → K' a w) → o.wp P a w K' Q := by
      intro tm hr h K' hK'
      obtain ⟨β, S, hI, hd⟩ := hr
      obtain ⟨d, ob', fr, wr, h1, h2⟩ := aOp_sound hE hc hI hd h
      refine h2 K' Q fun v w' ⟨hF, _⟩ => hK' _ _ ?_
      obtain ⟨tm', ob'', h3, h4⟩ := frz_sound (a := a) h1 hF
      exact aOps_sound hE hc h3 h4 (by rw [put_defers]; exact hdf) hQ
    simp only [aOps] at h
    refine wpList_step fun K' hK' => ?_
    split at h
    · rename_i hg
      rw [if_pos (by simp [Region.wanted, hg])]
      exact go hr h K' hK'
    · rename_i j want hg
      split at h
      · cases h
      · rename_i s hs
        have hs' : ((all.toArray[j]?).bind (·.dst)) = some s := by simpa [guardSlot] using hs
        split at h
        · rename_i x hx
          obtain ⟨h1, h2⟩ := hr.known hx
          have hy : yielded all.toArray a.tmps j = some x := by simp only [yielded, hs', Option.bind_some, h1]
          have hw : Region.wanted o (yielded all.toArray a.tmps) = (x == want) := by
            simp only [Region.wanted, hg, hy]
            cases x <;> cases want <;> rfl
          rw [hw]
          cases hxw : x == want with
          | true =>
            obtain rfl : x = want := by simpa using hxw
            rw [hxw, cond_true] at h
            rw [if_pos rfl]
            exact go h2 h K' hK'
          | false =>
            rw [hxw, cond_false] at h
            rw [if_neg (by simp)]
            have hxn : x = !want := by revert hxw; cases x <;> cases want <;> simp
            rw [hxn] at h2
            exact hK' _ _ (aOps_sound hE hc h (h2.putSkip o.dst) (by rw [put_defers]; exact hdf) hQ)
        · rename_i hx
          have h1 := hr.skipped hx
          have hy : yielded all.toArray a.tmps j = none := by simp only [yielded, hs', Option.bind_some, h1]; rfl
          have hw : Region.wanted o (yielded all.toArray a.tmps) = false := by simp [Region.wanted, hg, hy]
          rw [hw, if_neg (by simp)]
          exact hK' _ _ (aOps_sound hE hc h (hr.putSkip o.dst) (by rw [put_defers]; exact hdf) hQ)
        · cases h

/-! ### Code -/
theorem xk_ex {e : Exit} {k : XK} (h : xk e = some k) : k.ex = e := by
  cases e <;> simp only [xk, Option.some.injEq, reduceCtorEq] at h <;> subst h <;> rfl
theorem projOut_sound {ms : List (XK × Shape)} {e : Exit} {σ : St} {o : OutT ms} {a : Act} {w : World} {K : Exit → St → Option R} {r : R} (h : projOut c.m0 ms e σ = some o) (hr : RelA c σ a w) (hK : injOut ms o K = some r) : ∃ σ', RelA c σ' a w ∧ K e σ' = some r := by
  have one : ∀ (p : XK × Shape) (t : p.2.T), xk e = some p.1 → p.2.proj c.m0 σ = some t → K p.1.ex (p.2.inj t) = some r → ∃ σ', RelA c σ' a w ∧ K e σ' = some r := by
    intro p t h1 h2 h3
    rw [xk_ex h1] at h3
    exact ⟨_, ⟨Shape.proj_rel h2 hr.1, hr.2⟩, h3⟩
  induction ms with
  | nil => cases h
  | cons p ms ih =>
    cases ms with
    | nil =>
      simp only [projOut] at h
      split at h
      · rename_i he
        exact one p o he h hK
      · cases h
    | cons q ms =>
      simp only [projOut] at h
      split at h
      · rename_i he
        obtain ⟨t, h1, h2⟩ := Option.bind_eq_some_iff.1 h
        simp only [Option.some.injEq] at h2
        subst h2
        exact one p t he h1 hK
      · obtain ⟨t, h1, h2⟩ := Option.bind_eq_some_iff.1 h
        simp only [Option.some.injEq] at h2
        subst h2
        exact ih h1 hK
theorem aRun_sound (hE : EnvOK P E) (hc : CtxOK E c) : ∀ (ann : Ann) (code : Code) {R : Type} {σ : St} {a : Act} {w : World} {K : Exit → St → Option R} {r : R}, aRun E c.m0 ann code σ K = some r → RelA c σ a w →
    code.wp P (fun e a' w' => ∃ σ', RelA c σ' a' w' ∧ K e σ' = some r) a w := by
  intro ann
  induction ann with
  | cut ms x ih =>
    intro code R σ a w K r h hr
    simp only [aRun] at h
    obtain ⟨o, h1, h2⟩ := Option.bind_eq_some_iff.1 h
    exact wp_mono (ih code h1 hr) fun e a' w' ⟨σ', h3, h4⟩ => projOut_sound h4 h3 h2
  | pre s x ih =>
    intro code R σ a w K r h hr
    simp only [aRun] at h
    obtain ⟨t, h1, h2⟩ := Option.bind_eq_some_iff.1 h
    exact ih code h2 ⟨Shape.proj_rel h1 hr.1, hr.2⟩
  | seq x y ihx ihy =>
    intro code R σ a w K r h hr
    cases code <;> simp only [aRun, reduceCtorEq] at h
    refine wp_seq (wp_mono (ihx _ h hr) fun e a' w' ⟨σ', h3, h4⟩ => ?_)
    cases e with
    | normal => exact ihy _ h4 h3
    | _ => exact ⟨σ', h3, h4⟩
  | cond x y ihx ihy =>
    intro code R σ a w K r h hr
    cases code <;> simp only [aRun, reduceCtorEq] at h
    split at h
    · rename_i cnd cx cy _ t ht
      have hcv : a.eval cnd = .bool t := by
        obtain ⟨β, S, hI, hd⟩ := hr.1
        have := RelD.eval hd cnd
        rw [ht] at this
        exact this
      refine wp_cond hcv ?_
      cases t with
      | true => rw [cond_true] at h; exact ihx _ h hr
      | false => rw [cond_false] at h; exact ihy _ h hr
    · cases h
  | blk x ih =>
    intro code R σ a w K r h hr
    cases code <;> simp only [aRun, reduceCtorEq] at h
    rename_i i cx
    refine wp_block (wp_mono (ih _ h hr) fun e a' w' ⟨σ', h3, h4⟩ => ?_)
    cases e with
    | exit j =>
      simp only [Exit.inBlock]
      simp only at h4
      split
      · rename_i hj
        rw [if_pos hj] at h4
        exact ⟨σ', h3, h4⟩
      · rename_i hj
        rw [if_neg hj] at h4
        exact ⟨σ', h3, h4⟩
    | _ => exact ⟨σ', h3, h4⟩
  | loop hs ms x ih =>
    intro code R σ a w K r h hr
    cases code <;> simp only [aRun, reduceCtorEq] at h
    rename_i body
    obtain ⟨t, h1, h2⟩ := Option.bind_eq_some_iff.1 h
    obtain ⟨o, h3, h4⟩ := Option.bind_eq_some_iff.1 h2
    obtain ⟨n, h5⟩ := hE.it h3
    refine wp_loop_rounds n ?_
    have hr' : RelA c (hs.inj t) a w := ⟨Shape.proj_rel h1 hr.1, hr.2⟩
    clear h1 h h2 h3 hr
    induction n generalizing t a w with
    | zero => cases h5
    | succ n ihn =>
      rw [rounds_succ]
      simp only [iterN] at h5
      obtain ⟨z, h6, h7⟩ := Option.bind_eq_some_iff.1 h5
      refine wp_mono (ih _ h6 hr') fun e a' w' ⟨σ', h8, h9⟩ => ?_
      cases e with
      | normal =>
        simp only at h9
        obtain ⟨t', h10, h11⟩ := Option.bind_eq_some_iff.1 h9
        simp only [Option.some.injEq] at h11
        subst h11
        exact ihn t' h7 ⟨Shape.proj_rel h10 h8.1, h8.2⟩
      | _ =>
        simp only at h9
        obtain ⟨o', h10, h11⟩ := Option.bind_eq_some_iff.1 h9
        simp only [Option.some.injEq] at h11
        subst h11
        simp only [Option.some.injEq] at h7
        subst h7
        exact projOut_sound h10 h8 h4
  | unr n x ih =>
    intro code R σ a w K r h hr
    cases code <;> simp only [aRun, reduceCtorEq] at h
    rename_i body
    refine wp_loop_rounds n ?_
    induction n generalizing σ a w with
    | zero => cases h
    | succ n ihn =>
      rw [rounds_succ]
      simp only [unroll] at h
      refine wp_mono (ih _ h hr) fun e a' w' ⟨σ', h8, h9⟩ => ?_
      cases e with
      | normal => exact ihn h8 h9
      | _ => exact ⟨σ', h8, h9⟩
  | scp x ih =>
    intro code R σ a w K r h hr
    cases code <;> simp only [aRun, reduceCtorEq] at h
    refine wp_scope_straight (wp_mono (ih _ h hr) fun e a' w' ⟨σ', h3, h4⟩ => ?_)
    cases e with
    | goto l => cases h4
    | _ => exact ⟨σ', h3, h4⟩
  | scj l x y ihx ihy =>
    intro code R σ a w K r h hr
    cases code <;> simp only [aRun, reduceCtorEq] at h
    rename_i cx
    cases hfl : findLabel cx l with
    | none =>
      refine wp_scope_straight (wp_mono (ihx _ h hr) fun e a' w' ⟨σ', h3, h4⟩ => ?_)
      cases e with
      | goto l' => simp only [hfl, ite_self, reduceCtorEq] at h4
      | _ => exact ⟨σ', h3, h4⟩
    | some rest =>
      refine wp_scope_jumps l (fun a' w' => ∃ σ', RelA c σ' a' w' ∧ aRun E c.m0 y rest σ' (fun e' σ'' => match e' with
        | .goto _ => none
        | e' => K e' σ'') = some r) (fun _ _ => 0) hfl (wp_mono (ihx _ h hr) fun e a' w' ⟨σ', h3, h4⟩ => ?_) fun a' w' ⟨σ', h5, h6⟩ => ?_
      · cases e with
        | goto l' =>
          simp only [hfl] at h4
          split at h4
          · rename_i hl
            exact ⟨hl, σ', h3, h4⟩
          · cases h4
        | _ => exact ⟨σ', h3, h4⟩
      · refine wp_mono (ihy _ h6 h5) fun e a2 w2 ⟨σ2, h7, h8⟩ => ?_
        cases e with
        | goto l' => cases h8
        | _ => exact ⟨σ2, h7, h8⟩
  | both ms x y ihx ihy =>
    intro code R σ a w K r h hr
    cases code <;> simp only [aRun, reduceCtorEq] at h
    rename_i cnd cx cy
    split at h
    · rename_i f hf
      obtain ⟨b, hcv, hb⟩ : ∃ b, a.eval cnd = .bool b ∧ (f = true → b = false) := by
        obtain ⟨β, S, hI, hd⟩ := hr.1
        have := RelD.eval hd cnd
        rw [hf] at this
        exact this
      refine wp_cond hcv ?_
      cases f with
      | true =>
        obtain rfl := hb rfl
        rw [cond_true] at h
        exact ihy _ h hr
      | false =>
        rw [cond_false] at h
        obtain ⟨o, h1, h2⟩ := Option.bind_eq_some_iff.1 h
        obtain ⟨o', h3, h4⟩ := Option.bind_eq_some_iff.1 h2
        split at h4
        · rename_i he
          have he : o = o' := @of_decide_eq_true _ (decOut ms o o') he
          subst he
          cases b with
          | true => exact wp_mono (ihx _ h1 hr) fun e a' w' ⟨σ', h5, h6⟩ => projOut_sound h6 h5 h4
          | false => exact wp_mono (ihy _ h3 hr) fun e a' w' ⟨σ', h5, h6⟩ => projOut_sound h6 h5 h4
        · cases h4
    · cases h
  | drw order W F =>
    intro code R σ a w K r h hr
    cases code
    case region id ops draw =>
      cases draw with
      | false => simp only [aRun, reduceCtorEq] at h
      | true =>
        simp only [aRun] at h
        split at h
        · rename_i hb
          simp only [Bool.and_eq_true, List.all_eq_true, decide_eq_true_eq] at hb
          exact aRegion_sound hE hc hE.mixed hb.1 (fun _ _ he => by cases he) hb.2 h hr.1 hr.2 fun tm' ob' a' w' h1 h2 h3 => ⟨⟨tm', ob'⟩, ⟨h2, h3⟩, h1⟩
        · cases h
    all_goals simp only [aRun, reduceCtorEq] at h
  | drt ms order W F =>
    intro code R σ a w K r h hr
    cases code
    case region id ops draw =>
      cases draw with
      | false => simp only [aRun, reduceCtorEq] at h
      | true =>
        simp only [aRun] at h
        split at h
        · rename_i hb
          simp only [Bool.and_eq_true, List.all_eq_true, decide_eq_true_eq] at hb
          obtain ⟨o, h1, h2⟩ := Option.bind_eq_some_iff.1 h
          exact wp_mono (aRegion_sound hE hc hE.mixed hb.1 (fun o o' he => @of_decide_eq_true _ (decOut ms o o') he) hb.2 h1 hr.1 hr.2 (Q := fun e a' w' => ∃ σ', RelA c σ' a' w' ∧ projOut c.m0 ms e σ' = some o) fun tm' ob' a' w' h3 h4 h5 => ⟨⟨tm', ob'⟩, ⟨h4, h5⟩, h3⟩) fun e a' w' ⟨σ', h5, h6⟩ => projOut_sound h6 h5 h2
        · cases h
    all_goals simp only [aRun, reduceCtorEq] at h
  | no =>
    intro code R σ a w K r h hr
    cases code
    case region id ops draw =>
      cases draw with
      | true => simp only [aRun, reduceCtorEq] at h
      | false =>
        simp only [aRun] at h
        refine wp_region_list ?_
        have := aOps_sound hE hc (Q := fun e a' w' => ∃ σ', RelA c σ' a' w' ∧ K e σ' = some r) h hr.1 hr.2 (fun tm' ob' a' w' h1 h2 h3 => ⟨⟨tm', ob'⟩, ⟨h2, h3⟩, h1⟩)
        simpa using this
    case skip => simp only [aRun] at h; exact wp_skip ⟨σ, hr, h⟩
    case label l => simp only [aRun] at h; exact wp_label ⟨σ, hr, h⟩
    case exit => simp only [aRun] at h; exact wp_exit ⟨σ, hr, h⟩
    case ret => simp only [aRun] at h; exact wp_ret ⟨σ, hr, h⟩
    case goto => simp only [aRun] at h; exact wp_goto ⟨σ, hr, h⟩
    all_goals simp only [aRun, reduceCtorEq] at h

/-! ### Functions -/
theorem aRes1_sound (hE : EnvOK P E) (hc : CtxOK E c) {β : Nat → GL} {S : Nat → Prop} {σ : St} {w : World} {tmps : Array Value} (hI : Inv c β S σ.ob w) (hd : RelDs σ.ob.length β S w σ.tm tmps.toList) {rv : ResultVar} {K : D → Option R} {r : R} (h : aRes1 E σ rv K = some r) :
    ∃ d v, K d = some r ∧ (match rv with | .tmp t => pure (tmps.getD t undef) | .cell a t => do loadVar t (← asAddr (tmps.getD a undef)) : Sem Value).run P w = .ok v w ∧ RelD σ.ob.length β S w d v := by
  have ev : ∀ t, RelD σ.ob.length β S w (σ.tm.getD t .any) (tmps.getD t undef) := fun t => RelD.eval (a := ⟨tmps, []⟩) hd (.tmp t)
  cases rv with
  | tmp t => exact ⟨_, _, h, rfl, ev t⟩
  | cell x t =>
    simp only [aRes1] at h
    obtain ⟨d, v, h1, h2', h3⟩ := aLoad_sound (P := P) hE.types hc hI h (ev x)
    have h2 := h2' w fun _ _ => rfl
    refine ⟨d, v, h1, ?_, h3⟩
    have hp : ∃ ad, tmps.getD x undef = .pointer (some ad) := by
      have hx := ev x
      cases hy : σ.tm.getD x .any <;> rw [hy] at h hx <;> simp only [aLoad, reduceCtorEq] at h
      case ptr => rcases hx.2 with ⟨b, _, hv⟩ | ⟨b, u, _, hv⟩ <;> exact ⟨_, hv⟩
      case iptr => obtain ⟨ad, hv, _⟩ := hx; exact ⟨_, hv⟩
      case elt => obtain ⟨_, g, len, cap, _, hv⟩ := hx; exact ⟨_, hv⟩
      case gptr => exact ⟨_, hx⟩
    obtain ⟨ad, hp⟩ := hp
    show (do loadVar t (← asAddr (tmps.getD x undef)) : Sem Value).run P w = _
    rw [hp] at h2 ⊢
    simpa [Instr.loadAt, Instr.sureAddr, asAddr] using h2
theorem aRes_sound (hE : EnvOK P E) (hc : CtxOK E c) {β : Nat → GL} {S : Nat → Prop} {σ : St} {w : World} {tmps : Array Value} (hI : Inv c β S σ.ob w) (hd : RelDs σ.ob.length β S w σ.tm tmps.toList) : ∀ {rvs : List ResultVar} {K : List D → Option R} {r : R}, aRes E σ rvs K = some r →
    ∃ ds us, K ds = some r ∧ (rvs.mapM fun rv => (match rv with | .tmp t => pure (tmps.getD t undef) | .cell a t => do loadVar t (← asAddr (tmps.getD a undef)) : Sem Value)).run P w = .ok us w ∧ RelDs σ.ob.length β S w ds us
  | [], K, r, h => ⟨[], [], h, rfl, rfl⟩
  | rv :: rvs, K, r, h => by
    simp only [aRes] at h
    obtain ⟨d, v, h1, h2, h3⟩ := aRes1_sound hE hc hI hd h
    obtain ⟨ds, us, h4, h5, h6⟩ := aRes_sound hE hc hI hd h1
    refine ⟨d :: ds, v :: us, h4, ?_, v, us, rfl, h3, h6⟩
    rw [List.mapM_cons, Sem.run_bind, h2]
    simp only [Result.andThen_ok, Sem.run_bind, h5, Sem.run_pure]
theorem run_results {fn : Func} {tmps : Array Value} {w : World} {us : List Value} (h : (fn.results.toList.mapM fun rv => (match rv with | .tmp t => pure (tmps.getD t undef) | .cell a t => do loadVar t (← asAddr (tmps.getD a undef)) : Sem Value)).run P w = .ok us w) :
    (results fn tmps).run P w = .ok (retV us) w := by
  have hm : (fn.results.mapM fun rv => (match rv with | .tmp t => pure (tmps.getD t undef) | .cell a t => do loadVar t (← asAddr (tmps.getD a undef)) : Sem Value)).run P w = .ok us.toArray w := by
    rw [Array.mapM_eq_mapM_toList, Sem.run_map, h]
    rfl
  unfold results
  rw [Sem.run_bind]
  refine (congrArg (Result.andThen · _) hm).trans ?_
  simp only [Result.andThen_ok, Sem.run_pure]
  match us with
  | [] => rfl
  | [u] => rfl
  | u :: v :: us => simp [retV]
theorem gone_of {ren : Nat → Nat} : ∀ {ps : List OPat} {x : OPatsT ps} {j : Nat} {o : Ob}, ps.getD j .gone = .gone → (injO ren ps x)[j]? = some o → o.live = false
  | [], x, j, o, h, ho => by simp [injO] at ho
  | p :: ps, x, j, o, h, ho => by
    cases j with
    | zero =>
      simp only [List.getD_cons_zero] at h
      subst h
      simp only [injO, List.getElem?_cons_zero, Option.some.injEq] at ho
      subst ho
      rfl
    | succ j =>
      simp only [List.getD_cons_succ] at h
      cases p <;> simp only [injO, List.getElem?_cons_succ] at ho <;> exact gone_of h ho
/-- What stands behind a call, held against the contract. -/
theorem projEnd_sound {sig : Sig} {ds : List D} {ob : List Ob} {u : sig.Out} {us : List Value} {w : World} {β : Nat → GL} {S : Nat → Prop} (h : projEnd sig ds ob = some u) (hI : Inv c β S ob w) (hd : RelDs ob.length β S w ds us) (hm : c.m0 = sig.obs.length) :
    Rel c (injP id sig.res u.1) (injO id sig.obs' u.2) us w := by
  unfold projEnd at h
  obtain ⟨x, h1, h2⟩ := Option.bind_eq_some_iff.1 h
  obtain ⟨y, h3, h4⟩ := Option.bind_eq_some_iff.1 h2
  split at h4
  · rename_i hin
    simp only [Option.some.injEq] at h4
    subst h4
    simp only [Bool.and_eq_true, List.all_eq_true, Bool.not_eq_true', List.any_eq_false, Bool.and_eq_false_iff, beq_iff_eq] at hin
    obtain ⟨⟨hin, hfx⟩, hfr⟩ := hin
    have h1' := show matchP ob true sig.res ds (idM sig.obs.length sig.obs') = some (x.1, x.2) from h1
    have h3' := show matchO ob true 0 sig.obs' x.2 = some (y.1, y.2) from h3
    have st := (matchP_step h1').trans (matchO_step h3')
    have hk : ∀ j, j < sig.obs.length → remap β y.2 j = β j := fun j hj => fixes_keep hfx hj
    obtain ⟨hI', ht⟩ := match_rel hI h3' hin (st.inj (idM_inj _ _)) (S' := fun b => S b ∨ ∃ i, i ∈ y.2.fr ∧ b ∈ blks β ob i) (fun _ h => .inl h) (fun b hb => hb) (fun i hi b hb => .inr ⟨i, hi, hb⟩)
      (fun i j o' hi hj ho => by
        have h5 := hfr i hi _ (lookup_mem hj)
        simp only [not_and, Bool.not_eq_true, Bool.not_eq_false] at h5
        have h6 := h5 trivial
        refine gone_of ?_ ho
        cases hg : sig.obs'.getD j .gone with
        | gone => rfl
        | _ => rw [hg] at h6; simp at h6)
      (fun j hj => hk j (hm ▸ hj)) (hm ▸ (Mt.inside_spec hin).1)
    refine ⟨_, _, hI', ?_⟩
    have := matchP_sound hI.obj (S' := fun b => S b ∨ ∃ i, i ∈ y.2.fr ∧ b ∈ blks β ob i) (fun _ h => .inl h) h1' (ht.mono (matchO_step h3').le) hd
    simpa [injO_length] using this
  · cases h4
/-- A function that is run keeps the contract that it is run under. -/
theorem aFn_sound (hE : EnvOK P E) {E2 : Env} (hg : E2.glob = E.glob) (hg2 : E2.gerr = E.gerr) (hg3 : E2.gint = E.gint) {f : FuncId} {fn : Func} {sig : Sig} {ann : Ann} (hf : P.funcs[f]? = some fn) : CallSound P E2 f ⟨sig, aFn E fn sig ann⟩ := by
  intro t u β0 S0 w vs hF c hc hI hargs
  have hc' : CtxOK E c := ⟨hc.disj, fun g t vs h => hc.glob g t vs (by rw [hg]; exact h), fun g h => hc.gerr g (by rw [hg2]; exact h), fun g h => hc.gint g (by rw [hg3]; exact h)⟩
  simp only [aFn] at hF
  split at hF
  · rename_i body hb
    have hlen : vs.length = (injP id sig.args t.1).length := (RelDs.length hargs).symm
    refine calls_of_wp hf hb ?_
    have hr : RelA c ⟨injP id sig.args t.1 ++ List.replicate (fn.ntmps - (injP id sig.args t.1).length) .skip, injO id sig.obs t.2⟩ { tmps := vs.toArray ++ Array.replicate (fn.ntmps - vs.toArray.size) undef, defers := [] } w := by
      refine ⟨⟨β0, S0, hI, ?_⟩, rfl⟩
      simp only [Array.toList_append, List.toList_toArray, Array.toList_replicate, List.size_toArray, hlen, injO_length]
      exact RelDs.append hargs (RelDs.replicate _)
    refine wp_mono (aRun_sound hE hc' ann body hF hr) fun e a' w' ⟨σ', h1, h2⟩ => ?_
    obtain ⟨⟨β, S, hI', hd⟩, hdf⟩ := h1
    have fin : aRes E σ' fn.results.toList (fun ds => projEnd sig ds σ'.ob) = some u → a'.defers = [] ∧ ∃ v, (results fn a'.tmps).run P w' = .ok v w' ∧ ∃ us, (Ending.returned v : Ending) = .returned (retV us) ∧ Rel c (injP id sig.res u.1) (injO id sig.obs' u.2) us w' := by
      intro h
      obtain ⟨ds, us, h3, h4, h5⟩ := aRes_sound hE hc' hI' hd h
      exact ⟨hdf, _, run_results h4, us, rfl, projEnd_sound h3 hI' h5 rfl⟩
    cases e with
    | normal => exact fin h2
    | ret => exact fin h2
    | _ => cases h2
  · cases hF
end
end Go.En
