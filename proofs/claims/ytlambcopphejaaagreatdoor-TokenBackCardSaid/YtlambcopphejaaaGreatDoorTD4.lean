/- Text TD4 of this seat: written by a program of ours, or by hand; checked by Lean. -/
import Derived.Test.YtlambcopphejaaaGreatDoorTD3
set_option linter.unusedSimpArgs false
set_option linter.unusedVariables false
namespace Go.En.Pl
def cut59 : Bs → Option (Bs × Bs)
  | [] => none
  | c :: r => if c = 59 then some ([], r) else match cut59 r with | none => none | some p => some (c :: p.1, p.2)
theorem cut59_eq : ∀ (x y : Bs), (59 : UInt8) ∉ x → cut59 (x ++ 59 :: y) = some (x, y)
  | [], y, _ => by simp [cut59]
  | c :: x, y, h => by
    have h1 : ¬ c = 59 := fun e => h (by rw [e]; exact List.mem_cons_self)
    have h2 : (59 : UInt8) ∉ x := fun e => h (List.mem_cons_of_mem _ e)
    rw [List.cons_append, cut59, if_neg h1, cut59_eq x y h2]
theorem cut59_none : ∀ (x : Bs), (59 : UInt8) ∉ x → cut59 x = none
  | [], _ => rfl
  | c :: x, h => by
    have h1 : ¬ c = 59 := fun e => h (by rw [e]; exact List.mem_cons_self)
    have h2 : (59 : UInt8) ∉ x := fun e => h (List.mem_cons_of_mem _ e)
    rw [cut59, if_neg h1, cut59_none x h2]
theorem cut59_some : ∀ (r : Bs) (p : Bs × Bs), cut59 r = some p → r = p.1 ++ 59 :: p.2 ∧ (59 : UInt8) ∉ p.1
  | [], _, h => by cases h
  | c :: r, p, h => by
    rw [cut59] at h
    split at h
    · rename_i h1; cases h; subst h1; exact ⟨rfl, by simp⟩
    · rename_i h1
      cases hr : cut59 r with
      | none => rw [hr] at h; cases h
      | some q =>
        rw [hr] at h; cases h
        obtain ⟨e, h2⟩ := cut59_some r q hr
        refine ⟨by rw [List.cons_append, ← e], fun h3 => ?_⟩
        rcases List.mem_cons.1 h3 with h3 | h3
        · exact h1 h3.symm
        · exact h2 h3
def sgAt (c : UInt8) (r : Bs) : Option (Bs × Bs) := if c = 38 then (match cut59 r with | none => none | some p => if (sg p.1).2.1 = true then some p else none) else none
def bad (r : Bool) (at_ : Int) : List (Int × Int) := if r = true then [] else [(130, at_)]
def decB : Nat → Bs → Int → Bs × List (Int × Int)
  | 0, s, _ => (s, [])
  | _ + 1, [], _ => ([], [])
  | f + 1, c :: r, at_ => match sgAt c r with
    | some p => ((sg p.1).1 ++ (decB f p.2 (at_ + p.1.length + 2)).1, bad (sg p.1).2.2 at_ ++ (decB f p.2 (at_ + p.1.length + 2)).2)
    | none => (c :: (decB f r (at_ + 1)).1, (decB f r (at_ + 1)).2)
theorem sgAt_some {c : UInt8} {r : Bs} {p : Bs × Bs} (h : sgAt c r = some p) : c = 38 ∧ r = p.1 ++ 59 :: p.2 ∧ (59 : UInt8) ∉ p.1 ∧ (sg p.1).2.1 = true := by
  unfold sgAt at h
  split at h
  · rename_i h1
    cases hr : cut59 r with
    | none => rw [hr] at h; cases h
    | some q =>
      rw [hr] at h
      simp only at h
      split at h
      · rename_i h2
        cases h
        exact ⟨h1, (cut59_some r _ hr).1, (cut59_some r _ hr).2, h2⟩
      · cases h
  · cases h
theorem decB_fuel : ∀ (f g : Nat) (s : Bs) (at_ : Int), s.length ≤ f → s.length ≤ g → decB f s at_ = decB g s at_
  | 0, 0, _, _, _, _ => rfl
  | 0, g + 1, [], _, _, _ => rfl
  | f + 1, 0, [], _, _, _ => rfl
  | f + 1, g + 1, [], _, _, _ => rfl
  | 0, _, c :: r, _, h, _ => by simp at h
  | _, 0, c :: r, _, _, h => by simp at h
  | f + 1, g + 1, c :: r, at_, hf, hg => by
    simp only [decB]
    simp only [List.length_cons] at hf hg
    cases hp : sgAt c r with
    | none => simp only [decB_fuel f g r (at_ + 1) (by omega) (by omega)]
    | some p =>
      have hl : p.2.length ≤ r.length := by
        rw [(sgAt_some hp).2.1]; simp; omega
      simp only [decB_fuel f g p.2 (at_ + p.1.length + 2) (by omega) (by omega)]
def dec (s : Bs) (at_ : Int) : Bs × List (Int × Int) := decB s.length s at_
theorem dec_nil (at_ : Int) : dec [] at_ = ([], []) := rfl
theorem dec_sign {c : UInt8} {r : Bs} {p : Bs × Bs} (h : sgAt c r = some p) (at_ : Int) : dec (c :: r) at_ = ((sg p.1).1 ++ (dec p.2 (at_ + p.1.length + 2)).1, bad (sg p.1).2.2 at_ ++ (dec p.2 (at_ + p.1.length + 2)).2) := by
  have hl : p.2.length ≤ r.length := by rw [(sgAt_some h).2.1]; simp; omega
  unfold dec
  simp only [List.length_cons, decB, h]
  rw [decB_fuel r.length p.2.length p.2 _ hl (Nat.le_refl _)]
theorem dec_plain {c : UInt8} {r : Bs} (h : sgAt c r = none) (at_ : Int) : dec (c :: r) at_ = (c :: (dec r (at_ + 1)).1, (dec r (at_ + 1)).2) := by
  unfold dec
  simp only [List.length_cons, decB, h]
theorem sgAt_ne {c : UInt8} (r : Bs) (h : ¬ c = 38) : sgAt c r = none := by unfold sgAt; rw [if_neg h]
theorem dec_app : ∀ (x y : Bs) (at_ : Int), (38 : UInt8) ∉ x → dec (x ++ y) at_ = (x ++ (dec y (at_ + x.length)).1, (dec y (at_ + x.length)).2)
  | [], y, at_, _ => by simp
  | c :: x, y, at_, h => by
    have h1 : ¬ c = 38 := fun e => h (by rw [e]; exact List.mem_cons_self)
    have h2 : (38 : UInt8) ∉ x := fun e => h (List.mem_cons_of_mem _ e)
    rw [List.cons_append, dec_plain (sgAt_ne _ h1), dec_app x y _ h2]
    simp only [List.length_cons, List.cons_append]
    rw [show at_ + 1 + (x.length : Int) = at_ + ((x.length + 1 : Nat) : Int) by omega]
theorem dec_none (x : Bs) (at_ : Int) (h : (38 : UInt8) ∉ x) : dec x at_ = (x, []) := by
  have := dec_app x [] at_ h
  simpa [dec_nil] using this
theorem bad_len (r : Bool) (a : Int) : (bad r a).length ≤ 1 := by unfold bad; split <;> simp
theorem dec_len : ∀ (n : Nat) (s : Bs) (at_ : Int), s.length ≤ n → (dec s at_).1.length ≤ 4 * s.length ∧ (dec s at_).2.length ≤ s.length
  | 0, s, at_, h => by
    have : s = [] := List.eq_nil_of_length_eq_zero (by omega)
    subst this; simp [dec_nil]
  | n + 1, [], at_, h => by simp [dec_nil]
  | n + 1, c :: r, at_, h => by
    simp only [List.length_cons] at h
    cases hp : sgAt c r with
    | none =>
      rw [dec_plain hp]
      have := dec_len n r (at_ + 1) (by omega)
      simp only [List.length_cons]; omega
    | some p =>
      have e := (sgAt_some hp).2.1
      have hl : r.length = p.1.length + p.2.length + 1 := by rw [e]; simp; omega
      rw [dec_sign hp]
      have := dec_len n p.2 (at_ + p.1.length + 2) (by omega)
      have h1 := sg_len p.1
      have h2 := bad_len (sg p.1).2.2 at_
      simp only [List.length_cons, List.length_append]; omega
/-! ### Decode of the program -/
theorem strings_Builder_WriteString_cc3_eq (V : Ev) (x : Bs) (l : List Int) (h : l.length + x.length ≤ 100000000) : strings_Builder_WriteString_cc3 V ((x, ()), ((), (l, ()))) = some ((((x.length : Int)), (false, ())), ((), ((l ++ ofBs x), ()))) := by
  unfold strings_Builder_WriteString_cc3 strings_Builder_copyCheck_20a
  simp only [Option.bind_some, fits_of (show (l.length + x.length) * 1 ≤ 100000000 by omega), cond_true]
theorem strings_Builder_WriteString_2ec_eq (V : Ev) (x : Bs) (l : List Int) (h : l.length + x.length ≤ 100000000) : strings_Builder_WriteString_2ec V ((x, ()), ((), (l, ()))) = some ((((x.length : Int)), (false, ())), ((), ((l ++ ofBs x), ()))) := by
  unfold strings_Builder_WriteString_2ec strings_Builder_copyCheck_20a
  simp only [Option.bind_some, fits_of (show (l.length + x.length) * 1 ≤ 100000000 by omega), cond_true]
theorem strings_Builder_WriteByte_bae_eq (V : Ev) (n : Int) (l : List Int) (h : l.length ≤ 10000000) : strings_Builder_WriteByte_bae V ((n, ()), ((), (l, ()))) = some ((false, ()), ((), ((l ++ [n]), ()))) := by
  unfold strings_Builder_WriteByte_bae strings_Builder_copyCheck_20a
  simp only [Option.bind_some, fits_of (show (l.length + ([n] : List Int).length) * 1 ≤ 100000000 by simp; omega), cond_true]
theorem strings_IndexByte_eq (V : Ev) (s : Bs) : strings_IndexByte_ V ((s, ((38 : Int), ())), ()) = some ((Lib.indexByte s 38, ()), ()) := rfl
theorem strings_Cut_eq (V : Ev) (s : Bs) (hs : s.length ≤ 100000) : ∃ z, strings_Cut_ V ((s, (([59] : Bs), ())), ()) = some ((match cut59 s with | some p => p.1 | none => s, (z, ((cut59 s).isSome, ()))), ()) := by
  unfold strings_Cut_ istringslite_Cut_
  have q0 := istringslite_Index_one V s 59 (by omega)
  simp -implicitDefEqProofs only [q0]
  simp -implicitDefEqProofs only [Option.bind_some]
  by_cases h : (59 : UInt8) ∈ s
  · obtain ⟨x, r, e, hx, hi⟩ := indexByte_split s 59 h
    have h0 : decide (Lib.indexByte s 59 ≥ 0) = true := decide_eq_true (by omega)
    have hc : cut59 s = some (x, r) := by rw [e]; exact cut59_eq x r hx
    have hl : s.length = x.length + r.length + 1 := by rw [e]; simp; omega
    have s1 : sl s 0 (x.length : Int) = some x := by
      have := sl_nat (l := s) (a := 0) (b := x.length) (by omega) (by omega)
      simp only [List.drop_zero] at this
      rw [show ((0 : Nat) : Int) = 0 from rfl] at this
      rw [this, e, List.take_left]
    have w : IntKind.wrap .i64 ((x.length : Int) + ((([59] : Bs).length : Nat) : Int)) = ((x.length + 1 : Nat) : Int) := by
      rw [wrap64 (by omega) (by simp only [List.length_cons, List.length_nil]; omega)]; simp
    have s2 : sl s ((x.length + 1 : Nat) : Int) (s.length : Int) = some r := by
      rw [sl_end (by omega), e]
      rw [show x ++ 59 :: r = (x ++ [59]) ++ r by simp, List.drop_left' (by simp)]
    rw [h0, cond_true, hi, s1, Option.bind_some, w, s2, hc]
    exact ⟨_, rfl⟩
  · have hc := cut59_none s h
    have h0 : decide (Lib.indexByte s 59 ≥ 0) = false := by
      have := (indexByte_neg s 59).2 h
      exact decide_eq_false (by omega)
    rw [h0, cond_false, hc]
    exact ⟨_, rfl⟩
theorem sl_pre {s x y : Bs} {i : Nat} (h : s.drop i = x ++ y) (hi : i ≤ s.length) : sl s (i : Int) ((i + x.length : Nat) : Int) = some x := by
  have hl : s.length - i = x.length + y.length := by
    have := congrArg List.length h
    simpa using this
  rw [sl_nat (by omega) (by omega), List.drop_take, h]
  rw [show i + x.length - i = x.length by omega, List.take_left]
theorem drop_more {s x y : Bs} {i : Nat} (h : s.drop i = x ++ y) : s.drop (i + x.length) = y := by
  rw [← List.drop_drop, h, List.drop_left]
def post9 (s : Bs) (x : (Bs × Unit) × (List (Int × Int) × Unit)) : Prop := x = (((dec s 0).1, ()), ((dec s 0).2, ()))
theorem entity_Decode_eq (N : Nat) (s : Bs) (hs : s.length ≤ 15000) (hN : s.length < N) (h8 : 8 < N) : entity_Decode_ (Ev.upto N) ((s, ()), ()) = some ((((dec s 0).1, ()), ((dec s 0).2, ()))) := by
  apply wp_eq
  unfold entity_Decode_
  refine wp_bind ?_
  have hL := dec_len s.length s 0 (Nat.le_refl _)
  refine wp_it (fun a => ∃ (i : Nat) (b : Bs) (f : List (Int × Int)), a = ((s, ((i : Int), ())), ((), (f, (ofBs b, ())))) ∧ i ≤ s.length ∧ b ++ (dec (s.drop i) i).1 = (dec s 0).1 ∧ f ++ (dec (s.drop i) i).2 = (dec s 0).2) (fun a => s.length - a.1.2.1.toNat) ⟨0, [], [], rfl, by omega, by simp, by simp⟩ (by simp; omega) ?_
  rintro _ ⟨i, b, f, rfl, hi, hb, hf⟩
  have hbl : b.length ≤ 60000 := by
    have := congrArg List.length hb
    rw [List.length_append] at this; omega
  have hfl : f.length ≤ 15000 := by
    have := congrArg List.length hf
    rw [List.length_append] at this; omega
  have done : ∀ (j : Nat), j ≤ s.length → (38 : UInt8) ∉ s.drop j → b ++ (dec (s.drop j) j).1 = (dec s 0).1 → f ++ (dec (s.drop j) j).2 = (dec s 0).2 →
      wp ((sl s (j : Int) ((s.length : Nat) : Int)).bind fun v20 => ((strings_Builder_String_20a (Ev.upto N) ((), ((), (ofBs b, ())))).bind fun v21 => (bif strFits ((v21.1.1).length + (v20).length) then (some (((v21.1.1 ++ v20), ()), (f, ()))) else none))) (fun x => x = (((dec s 0).1, ()), ((dec s 0).2, ()))) := by
    intro j hj hn h1 h2
    rw [dec_none _ _ hn] at h1 h2
    simp only [List.append_nil] at h2
    rw [sl_end hj, Option.bind_some, strings_Builder_String_20a_eq, Option.bind_some, toBs_ofBs]
    have : strFits (b.length + (s.drop j).length) = true := strFits_of (by simp; omega)
    simp only [this, cond_true]
    exact ⟨_, rfl, by rw [← h1, ← h2]⟩
  simp -implicitDefEqProofs only
  by_cases hi' : i < s.length
  · have c0 : decide ((i : Int) < ((s.length : Nat) : Int)) = true := decide_eq_true (by omega)
    have q17 := strings_IndexByte_eq (Ev.upto N) (s.drop i)
    rw [c0, cond_true, sl_end hi, Option.bind_some, q17, Option.bind_some]
    by_cases h38 : (38 : UInt8) ∈ s.drop i
    · obtain ⟨x, r, e, hx, hidx⟩ := indexByte_split (s.drop i) 38 h38
      have hlen : s.length - i = x.length + r.length + 1 := by
        have := congrArg List.length e
        simp at this; omega
      have c1 : decide (Lib.indexByte (s.drop i) 38 < 0) = false := decide_eq_false (by omega)
      have e1 := drop_more (s := s) (x := x) (y := 38 :: r) (i := i) e
      have e2 : s.drop (i + x.length + 1) = r := by
        have := drop_more (s := s) (x := [38]) (y := r) (i := i + x.length) e1
        exact this
      have w1 : IntKind.wrap .i64 ((i : Int) + Lib.indexByte (s.drop i) 38) = ((i + x.length : Nat) : Int) := by rw [hidx, wrap64 (by omega) (by omega)]; omega
      have w2 : IntKind.wrap .i64 (((i + x.length : Nat) : Int) + 1) = ((i + x.length + 1 : Nat) : Int) := by rw [wrap64 (by omega) (by omega)]; omega
      have s1 := sl_pre (s := s) (x := x) (y := 38 :: r) e hi
      have s2 : sl s ((i + x.length + 1 : Nat) : Int) ((s.length : Nat) : Int) = some r := by rw [sl_end (by omega), e2]
      obtain ⟨z, q19⟩ := strings_Cut_eq (Ev.upto N) r (by omega)
      have q18 := strings_Builder_WriteString_cc3_eq (Ev.upto N) x (ofBs b) (by rw [ofBs_length]; omega)
      rw [ofBs_append] at q18
      have hdx : dec (s.drop i) i = (x ++ (dec (38 :: r) ((i + x.length : Nat) : Int)).1, (dec (38 :: r) ((i + x.length : Nat) : Int)).2) := by
        rw [e, dec_app x _ _ hx]; rfl
      rw [hdx] at hb hf
      simp only at hb hf
      simp -implicitDefEqProofs only [c1, cond_false, w1, s1, Option.bind_some, q18, w2, s2, q19]
      have q20 := entity_sign_eq N (by omega) (match cut59 r with | some p => p.1 | none => r)
      simp -implicitDefEqProofs only [q20, Option.bind_some]
      cases hcut : cut59 r with
      | none =>
        have hs0 : sgAt 38 r = none := by unfold sgAt; rw [if_pos rfl, hcut]
        rw [dec_plain hs0] at hb hf
        have q21 := strings_Builder_WriteByte_bae_eq (Ev.upto N) 38 (ofBs (b ++ x)) (by rw [ofBs_length, List.length_append]; omega)
        have e21 : ofBs (b ++ x) ++ [38] = ofBs (b ++ x ++ [38]) := by rw [← ofBs_append (b ++ x) [38]]; rfl
        rw [e21] at q21
        simp -implicitDefEqProofs only [Option.isSome_none, Bool.not_false, show (true == false) = false from rfl, cond_false, cond_true, Option.bind_some, q21, w2]
        refine ⟨_, rfl, ⟨i + x.length + 1, b ++ x ++ [38], f, rfl, by omega, ?_, ?_⟩, by simp; omega⟩
        · rw [e2, ← hb]; simp
        · rw [e2, ← hf]; simp
      | some p =>
        obtain ⟨ep, hp59⟩ := cut59_some r p hcut
        have hrl : r.length = p.1.length + p.2.length + 1 := by rw [ep]; simp; omega
        simp -implicitDefEqProofs only [Option.isSome_some, Bool.not_true, beq_self_eq_true, cond_true, Option.bind_some]
        by_cases hsg : (sg p.1).2.1 = true
        · have hs1 : sgAt 38 r = some p := by unfold sgAt; rw [if_pos rfl, hcut]; simp only [if_pos hsg]
          rw [dec_sign hs1] at hb hf
          have hgl := sg_len p.1
          have q18b := strings_Builder_WriteString_2ec_eq (Ev.upto N) (sg p.1).1 (ofBs (b ++ x)) (by rw [ofBs_length, List.length_append]; omega)
          rw [ofBs_append] at q18b
          have w3 : IntKind.wrap .i64 (((i + x.length : Nat) : Int) + (IntKind.wrap .i64 (((p.1.length : Nat) : Int) + 2))) = ((i + x.length + p.1.length + 2 : Nat) : Int) := by
            rw [wrap64 (n := (p.1.length : Int) + 2) (by omega) (by omega), wrap64 (by omega) (by omega)]; omega
          have e3 : s.drop (i + x.length + p.1.length + 2) = p.2 := by
            have : s.drop (i + x.length + 1) = (p.1 ++ [59]) ++ p.2 := by rw [e2, ep]; simp
            have := drop_more (s := s) (i := i + x.length + 1) this
            rw [← this]; congr 1; simp; omega
          have hpl : p.2.length ≤ s.length := by omega
          simp -implicitDefEqProofs only [hsg, Bool.not_true, cond_false]
          cases hr : (sg p.1).2.2 with
          | true =>
            simp -implicitDefEqProofs only [Bool.not_true, cond_false, Option.bind_some, q18b, w3]
            refine ⟨_, rfl, ⟨i + x.length + p.1.length + 2, b ++ x ++ (sg p.1).1, f, rfl, by omega, ?_, ?_⟩, by simp; omega⟩
            · rw [e3, ← hb, show ((i + x.length + p.1.length + 2 : Nat) : Int) = ((i + x.length : Nat) : Int) + p.1.length + 2 by omega]; simp
            · rw [e3, ← hf, hr, show ((i + x.length + p.1.length + 2 : Nat) : Int) = ((i + x.length : Nat) : Int) + p.1.length + 2 by omega]; simp [bad]
          | false =>
            have hfit : fits (f.length + ([((130 : Int), ((i + x.length : Nat) : Int))] : List (Int × Int)).length) 16 = true := fits_of (by simp; omega)
            simp -implicitDefEqProofs only [Bool.not_false, cond_true, Option.bind_some, q18b, w3, hfit]
            refine ⟨_, rfl, ⟨i + x.length + p.1.length + 2, b ++ x ++ (sg p.1).1, f ++ [(130, ((i + x.length : Nat) : Int))], rfl, by omega, ?_, ?_⟩, by simp; omega⟩
            · rw [e3, ← hb, show ((i + x.length + p.1.length + 2 : Nat) : Int) = ((i + x.length : Nat) : Int) + p.1.length + 2 by omega]; simp
            · rw [e3, ← hf, hr, show ((i + x.length + p.1.length + 2 : Nat) : Int) = ((i + x.length : Nat) : Int) + p.1.length + 2 by omega]; simp [bad]
        · have hsg' : (sg p.1).2.1 = false := by simpa using hsg
          have hs0 : sgAt 38 r = none := by unfold sgAt; rw [if_pos rfl, hcut]; simp only [if_neg hsg]
          rw [dec_plain hs0] at hb hf
          have q21 := strings_Builder_WriteByte_bae_eq (Ev.upto N) 38 (ofBs (b ++ x)) (by rw [ofBs_length, List.length_append]; omega)
          have e21 : ofBs (b ++ x) ++ [38] = ofBs (b ++ x ++ [38]) := by rw [← ofBs_append (b ++ x) [38]]; rfl
          rw [e21] at q21
          simp -implicitDefEqProofs only [hsg', Bool.not_false, cond_true, Option.bind_some, q21, w2]
          refine ⟨_, rfl, ⟨i + x.length + 1, b ++ x ++ [38], f, rfl, by omega, ?_, ?_⟩, by simp; omega⟩
          · rw [e2, ← hb]; simp
          · rw [e2, ← hf]; simp
    · have c1 : decide (Lib.indexByte (s.drop i) 38 < 0) = true := decide_eq_true ((indexByte_neg _ _).2 h38)
      rw [c1, cond_true]
      exact ⟨_, rfl, done i hi h38 hb hf⟩
  · have c0 : decide ((i : Int) < ((s.length : Nat) : Int)) = false := decide_eq_false (by omega)
    rw [c0, cond_false]
    exact ⟨_, rfl, done i hi (by rw [List.drop_eq_nil_of_le (by omega)]; simp) hb hf⟩
end Go.En.Pl
