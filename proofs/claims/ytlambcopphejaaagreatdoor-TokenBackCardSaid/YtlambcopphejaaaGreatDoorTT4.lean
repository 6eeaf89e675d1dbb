/- Text TT4 of this seat: written by a program of ours, or by hand; checked by Lean. -/
import Derived.Test.YtlambcopphejaaaGreatDoorTT3
set_option linter.unusedSimpArgs false
set_option linter.unusedVariables false
namespace Go.En.Pl
theorem any_takeA {α : Type} {p : α → Bool} {l : List α} {i : Nat} (h : i < l.length) : (l.take (i + 1)).any p = ((l.take i).any p || p l[i]) := by
  rw [List.take_succ_eq_append_getElem h, List.any_append]
  simp
def hasA (l : List Att) (n : Bs) : Bool := l.any fun x => x.1 == n
theorem hasA_at {l : List Att} {n : Bs} {i : Nat} (h : i < l.length) (hp : (l[i].1 == n) = true) : hasA l n = true :=
  List.any_eq_true.2 ⟨_, List.getElem_mem h, hp⟩
theorem containsA_eq (N : Nat) (l : List Att) (a : Att) (hl : l.length ≤ 1000) (hN : 1000 < N) : slices_ContainsFunc__api_Attr_api_Attr_d88 (Ev.upto N) ((l, ()), ((a, ()), ())) = some ((hasA l a.1, ()), ((a, ()), ())) := by
  apply wp_eq
  unfold slices_ContainsFunc__api_Attr_api_Attr_d88 slices_IndexFunc__api_Attr_api_Attr_d88
  refine wp_bind ?_
  refine wp_bind ?_
  refine wp_for (σ := Unit) (fun i _ => ((l, ((l.length : Int), ((i : Int), ()))), ((a, ()), ()))) (fun i _ => (l.take i).any (fun x => x.1 == a.1) = false) l.length () rfl (by simp) (by omega) ?_
  rintro i _ hi hn
  by_cases hi' : i < l.length
  · have c0 : decide ((i : Int) < (l.length : Int)) = true := decide_eq_true (by omega)
    have w : IntKind.wrap .i64 ((i : Int) + 1) = ((i + 1 : Nat) : Int) := by rw [wrap64 (by omega) (by omega)]; omega
    simp -implicitDefEqProofs only [c0, cond_true, idx_nat hi', Option.bind_some, token_cursor_attr_2_0b8, w]
    cases hc : (l[i].1 == a.1) with
    | true =>
      have : hasA l a.1 = true := hasA_at hi' hc
      exact ⟨_, rfl, _, rfl, _, rfl, by rw [this, show decide (((i : Nat) : Int) ≥ 0) = true from decide_eq_true (by omega)]⟩
    | false => exact ⟨_, rfl, hi', (), rfl, by rw [any_takeA hi', hn, hc]; rfl⟩
  · have c0 : decide ((i : Int) < (l.length : Int)) = false := decide_eq_false (by omega)
    rw [List.take_of_length_le (by omega)] at hn
    simp -implicitDefEqProofs only [c0, cond_false]
    exact ⟨_, rfl, _, rfl, _, rfl, by rw [show hasA l a.1 = false from hn]; rfl⟩
/-- An attribute that begins at a place: whether it ends, the place behind it, the tag's attributes, its Fails. -/
def attE (s : Bs) (i : Nat) : Nat := i + 1 + spanN isAttr s (i + 1)
def attN (s : Bs) (i : Nat) : Bs := lowerB ((s.take (attE s i)).drop i)
def attB (s : Bs) (i : Nat) : Nat := attE s i + spanN blankB s (attE s i)
def attV (s : Bs) (i : Nat) : Nat := attB s i + 1 + spanN blankB s (attB s i + 1)
def attF (s : Bs) (i : Nat) (k : Int) (l : List Att) : List Fl := if (k == 2) = true then (if hasA l (attN s i) = true then [(142, (i : Int))] else if 30 ≤ l.length then [(2, (i : Int))] else []) else []
def attT (s : Bs) (i : Nat) (k : Int) (l : List Att) : Bool := k == 2 && (!hasA l (attN s i) && !decide (30 ≤ l.length))
def attS (s : Bs) (i : Nat) (k : Int) (l : List Att) : Bool × Nat × List Att × List Fl :=
  if isB s (attB s i) [61] = true then
    ((valP s (attV s i)).2.1, (valP s (attV s i)).2.2.1, (bif attT s i k l then l ++ [(attN s i, (valP s (attV s i)).1)] else l), attF s i k l ++ (valP s (attV s i)).2.2.2)
  else (true, attE s i, (bif attT s i k l then l ++ [(attN s i, [])] else l), attF s i k l)
theorem attE_le {s : Bs} {i : Nat} (h : i < s.length) : i < attE s i ∧ attE s i ≤ s.length := by
  have := spanN_le isAttr s (i + 1) (by omega)
  unfold attE; omega
theorem attB_le {s : Bs} {i : Nat} (h : i < s.length) : attE s i ≤ attB s i ∧ attB s i ≤ s.length := by
  have := spanN_le blankB s (attE s i) (attE_le h).2
  unfold attB; omega
theorem isB_lt {s : Bs} {i : Nat} {l : Bs} (h : isB s i l = true) (hi : i ≤ s.length) : i + l.length ≤ s.length := by
  unfold isB at h
  have := of_decide_eq_true (Bool.and_eq_true _ _ ▸ h : _ ∧ _).1
  omega
theorem attV_le {s : Bs} {i : Nat} (h : i < s.length) (hb : isB s (attB s i) [61] = true) : attB s i < attV s i ∧ attV s i ≤ s.length := by
  have h1 := isB_lt hb (attB_le h).2
  have := spanN_le blankB s (attB s i + 1) (by simpa using h1)
  unfold attV; omega
abbrev cur9 (s : Bs) (i : Nat) (k : Int) (n d : Bs) (c : Bool) (out : List Tok) (f : List Fl) (l : List Att) : (Bs × Int × Unit) × (Int × Bs × Bs × Bool × Unit) × (List Tok) × (List Fl) × (List Att) × Unit := ((s, ((i : Int), ())), ((k, (n, (d, (c, ())))), (out, (f, (l, ())))))
theorem attr_eq (N : Nat) (s : Bs) (i : Nat) (k : Int) (n d : Bs) (c : Bool) (out : List Tok) (f : List Fl) (l : List Att) (hi : i < s.length) (hs : s.length ≤ 15000) (hf : f.length ≤ 800000000) (hl : l.length ≤ 30) (hN : s.length < N) (hN2 : 1000 < N) :
    token_cursor_attr_943 (Ev.upto N) ((), cur9 s i k n d c out f l) = some (((attS s i k l).1, ()), cur9 s (attS s i k l).2.1 k n d c out (f ++ (attS s i k l).2.2.2) (attS s i k l).2.2.1) := by
  have eE := attE_le hi
  have eB := attB_le hi
  have w1 : IntKind.wrap .i64 (((i : Nat) : Int) + 1) = ((i + 1 : Nat) : Int) := by rw [wrap64 (by omega) (by omega)]; omega
  have q1 := takeAttr_eq N s (i + 1) out f (by omega) (by omega) hN
  rw [show i + 1 + spanN isAttr s (i + 1) = attE s i from rfl] at q1
  have q2 : sl s ((i : Nat) : Int) ((attE s i : Nat) : Int) = some ((s.take (attE s i)).drop i) := sl_nat (by omega) eE.2
  have q3 := lower_eq N ((s.take (attE s i)).drop i) (by simp; omega) (by simp; omega)
  rw [show lowerB ((s.take (attE s i)).drop i) = attN s i from rfl] at q3
  have q4 := containsA_eq N l (attN s i, []) (by omega) hN2
  have q5 := fail_eq (Ev.upto N) 142 (i : Int) s (attE s i) out f (by omega)
  have q6 := fail_eq (Ev.upto N) 2 (i : Int) s (attE s i) out f (by omega)
  have q7 := fun f' => takeBlank_eq N s (attE s i) out f' eE.2 (by omega) hN
  rw [show attE s i + spanN blankB s (attE s i) = attB s i from rfl] at q7
  have q8 := fun f' => is_eq N [61] s (attB s i) out f' eB.2 (by omega) (by decide) hN
  have fl : ∀ a : Att, fits (l.length + ([a] : List Att).length) 32 = true := fun a => fits_of (by simp; omega)
  unfold token_cursor_attr_943
  simp -implicitDefEqProofs only [Option.bind_some, w1, q1, q2, q3]
  rw [if_pos (decide_eq_true trivial)]
  simp -implicitDefEqProofs only [Option.bind_some]
  -- what is told, and whether it is taken
  have tail : ∀ (tk : Bool) (f' : List Fl), f'.length ≤ 810000000 →
      (((token_text_take_441 (Ev.upto N) ((), cur s (attE s i) out f')).bind fun v16 => ((token_text_is_129 (Ev.upto N) ((([61] : Bs), ()), ((v16.2.1.1, (v16.2.1.2.1, ())), (v16.2.2.1, (v16.2.2.2.1, ()))))).bind fun v17 => ((bif v17.1.1 then ((token_text_take_441 (Ev.upto N) ((), ((v17.2.1.1, ((IntKind.wrap .i64 (v17.2.1.2.1 + (1 : Int))), ())), (v17.2.2.1, (v17.2.2.2.1, ()))))).bind fun v18 => ((token_cursor_value_4fb (Ev.upto N) ((), ((v18.2.1.1, (v18.2.1.2.1, ())), (v18.2.2.1, (v18.2.2.2.1, ()))))).bind fun v19 => (some ((tk, (v19.1.2.1, ())), ((v19.2.1.1, (v19.2.1.2.1, ())), ((k, (n, (d, (c, ())))), (((attN s i, v19.1.1), ()), (v19.2.2.1, (v19.2.2.2.1, (l, ())))))))))) else (some ((tk, (true, ())), ((v17.2.1.1, (((attE s i : Nat) : Int), ())), ((k, (n, (d, (c, ())))), (((attN s i, ([] : Bs)), ()), (v17.2.2.1, (v17.2.2.2.1, (l, ()))))))))) : Option ((Bool × Bool × Unit) × ((Bs × Int × Unit) × (Int × Bs × Bs × Bool × Unit) × (Att × Unit) × (List Tok) × (List Fl) × (List Att) × Unit))).bind fun o20 => ((bif o20.1.1 then (bif fits ((o20.2.2.2.2.2.2.1).length + (([o20.2.2.2.1.1] : List Att)).length) 32 then (some ((o20.1.2.1, ()), ((o20.2.1.1, (o20.2.1.2.1, ())), ((o20.2.2.1.1, (o20.2.2.1.2.1, (o20.2.2.1.2.2.1, (o20.2.2.1.2.2.2.1, ())))), (o20.2.2.2.2.1, (o20.2.2.2.2.2.1, ((o20.2.2.2.2.2.2.1 ++ ([o20.2.2.2.1.1] : List Att)), ()))))))) else none) else (some ((o20.1.2.1, ()), ((o20.2.1.1, (o20.2.1.2.1, ())), ((o20.2.2.1.1, (o20.2.2.1.2.1, (o20.2.2.1.2.2.1, (o20.2.2.1.2.2.2.1, ())))), (o20.2.2.2.2.1, (o20.2.2.2.2.2.1, (o20.2.2.2.2.2.2.1, ())))))))).bind fun o21 => (some ((o21.1.1, ()), ((o21.2.1.1, (o21.2.1.2.1, ())), ((o21.2.2.1.1, (o21.2.2.1.2.1, (o21.2.2.1.2.2.1, (o21.2.2.1.2.2.2.1, ())))), (o21.2.2.2.1, (o21.2.2.2.2.1, (o21.2.2.2.2.2.1, ()))))))))))) =
        if isB s (attB s i) [61] = true then some (((valP s (attV s i)).2.1, ()), cur9 s (valP s (attV s i)).2.2.1 k n d c out (f' ++ (valP s (attV s i)).2.2.2) (bif tk then l ++ [(attN s i, (valP s (attV s i)).1)] else l))
        else some ((true, ()), cur9 s (attE s i) k n d c out f' (bif tk then l ++ [(attN s i, [])] else l)) := by
    intro tk f' hf'
    simp -implicitDefEqProofs only [q7 f', Option.bind_some, q8 f']
    cases hb : isB s (attB s i) [61] with
    | true =>
      have eV := attV_le hi hb
      have h1 := isB_lt hb eB.2
      have w2 : IntKind.wrap .i64 (((attB s i : Nat) : Int) + 1) = ((attB s i + 1 : Nat) : Int) := by rw [wrap64 (by omega) (by omega)]; omega
      have q9 := takeBlank_eq N s (attB s i + 1) out f' (by simpa using h1) (by omega) hN
      rw [show attB s i + 1 + spanN blankB s (attB s i + 1) = attV s i from rfl] at q9
      have q10 := value_eq N s (attV s i) out f' eV.2 (by omega) (by omega) hN (by omega)
      rw [if_pos rfl]
      simp -implicitDefEqProofs only [cond_true, w2, q9, q10, Option.bind_some]
      cases tk with
      | true =>
        simp -implicitDefEqProofs only [cond_true, fl, Option.bind_some]
      | false => rfl
    | false =>
      rw [if_neg (by simp)]
      simp -implicitDefEqProofs only [cond_false, Option.bind_some]
      cases tk with
      | true =>
        simp -implicitDefEqProofs only [cond_true, fl, Option.bind_some]
      | false => rfl
  cases hk : (k == 2) with
  | false =>
    have hF : attF s i k l = [] := by unfold attF; rw [hk]; rfl
    have hT : attT s i k l = false := by unfold attT; rw [hk]; rfl
    have t1 := tail false f (by omega)
    simp -implicitDefEqProofs only [show (false == true) = false from rfl, cond_false, Option.bind_some]
    refine Eq.trans t1 ?_
    unfold attS
    rw [hF, hT]
    split
    · rfl
    · rw [List.append_nil]
  | true =>
    simp -implicitDefEqProofs only [beq_self_eq_true, cond_true, Option.bind_some, q4]
    cases hd : hasA l (attN s i) with
    | true =>
      have hF : attF s i k l = [(142, (i : Int))] := by unfold attF; rw [hk, if_pos rfl, hd, if_pos rfl]
      have hT : attT s i k l = false := by unfold attT; rw [hk, hd]; rfl
      have t1 := tail false (f ++ [(142, (i : Int))]) (by simp; omega)
      simp -implicitDefEqProofs only [q5, Option.bind_some, cond_true, cond_false, show (false == true) = false from rfl]
      refine Eq.trans t1 ?_
      unfold attS
      rw [hF, hT]
      split
      · rw [List.append_assoc]
      · rfl
    | false =>
      simp -implicitDefEqProofs only [cond_false, beq_self_eq_true, cond_true, Option.bind_some]
      by_cases h30 : 30 ≤ l.length
      · have hF : attF s i k l = [(2, (i : Int))] := by unfold attF; rw [hk, if_pos rfl, hd, if_neg (by simp), if_pos h30]
        have hT : attT s i k l = false := by unfold attT; rw [hk, hd, show decide (30 ≤ l.length) = true from decide_eq_true h30]; rfl
        have t1 := tail false (f ++ [(2, (i : Int))]) (by simp; omega)
        simp -implicitDefEqProofs only [show decide ((l.length : Int) ≥ 30) = true from decide_eq_true (by omega), q6, Option.bind_some, cond_true]
        refine Eq.trans t1 ?_
        unfold attS
        rw [hF, hT]
        split
        · rw [List.append_assoc]
        · rfl
      · have hF : attF s i k l = [] := by unfold attF; rw [hk, if_pos rfl, hd, if_neg (by simp), if_neg h30]
        have hT : attT s i k l = true := by unfold attT; rw [hk, hd, show decide (30 ≤ l.length) = false from decide_eq_false h30]; rfl
        have t1 := tail true f (by omega)
        simp -implicitDefEqProofs only [show decide ((l.length : Int) ≥ 30) = false from decide_eq_false (by omega), Option.bind_some, cond_false]
        refine Eq.trans t1 ?_
        unfold attS
        rw [hF, hT]
        split
        · rfl
        · rw [List.append_nil]
end Go.En.Pl
