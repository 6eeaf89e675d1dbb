/- Text BP1 of this seat: written by a program of ours, or by hand; checked by Lean. -/
import Derived.Test.YtljnjjnjdanajaaGreatDoorW
import Derived.Test.YtljnjjnjdanajaaGreatDoorG
set_option linter.unusedSimpArgs false
set_option linter.unusedVariables false
namespace Go.En.Pl
abbrev Att := Bs × Bs
abbrev Tok := Int × (Bs × (Bs × (List Att × Bool)))
def enc1 (c : UInt8) : Bs := bif ((c.toNat : Int) == 38) then [38, 97, 109, 112, 59] else bif ((c.toNat : Int) == 60) then [38, 108, 116, 59] else bif ((c.toNat : Int) == 62) then [38, 103, 116, 59] else
  bif ((c.toNat : Int) == 34) then [38, 113, 117, 111, 116, 59] else bif ((c.toNat : Int) == 39) then [38, 97, 112, 111, 115, 59] else [c]
def enc (s : Bs) : Bs := s.flatMap enc1
theorem enc1_len (c : UInt8) : (enc1 c).length ≤ 6 := by
  unfold enc1
  cases ((c.toNat : Int) == 38) <;> simp only [cond_true, cond_false]
  · cases ((c.toNat : Int) == 60) <;> simp only [cond_true, cond_false]
    · cases ((c.toNat : Int) == 62) <;> simp only [cond_true, cond_false]
      · cases ((c.toNat : Int) == 34) <;> simp only [cond_true, cond_false]
        · cases ((c.toNat : Int) == 39) <;> simp
        · decide
      · decide
    · decide
  · decide
theorem enc_len (s : Bs) : (enc s).length ≤ 6 * s.length := by
  induction s with
  | nil => simp [enc]
  | cons c s ih => 
    have := enc1_len c
    simp only [enc, List.flatMap_cons, List.length_append, List.length_cons] at ih ⊢
    omega
theorem enc_take (s : Bs) (i : Nat) (h : i < s.length) : enc (s.take (i + 1)) = enc (s.take i) ++ enc1 s[i] := by
  simp only [enc]
  rw [List.take_succ_eq_append_getElem h, List.flatMap_append]
  simp
theorem rEncode_eq (N : Nat) (s : Bs) (hs : s.length ≤ 4000) (hN : 4000 < N) : pounceref13_Encode_ (Ev.upto N) ((s, ()), ()) = some ((enc s, ()), ()) := by
  unfold pounceref13_Encode_
  refine it_run (fun i => ((s, (enc (s.take i), ((i : Int), ()))), ())) s.length ((enc s, ()), ()) rfl ?_ ?_ (by omega) rfl
  · intro i hi
    have hl := enc_len (s.take i)
    have hl2 : (s.take i).length ≤ 4000 := by simp; omega
    have hw : IntKind.wrap .i64 ((i : Int) + 1) = (i : Int) + 1 := wrap64 (by omega) (by omega)
    have hf : ∀ x : Bs, x.length ≤ 6 → strFits ((enc (s.take i)).length + x.length) = true := fun x hx => strFits_of (by omega)
    have hfin : ((i + 1 : Nat) : Int) = (i : Int) + 1 := by omega
    simp only [idx_nat hi, Option.bind_some, hw, sl_one hi, enc_take s i hi, hfin, show decide ((i : Int) < (s.length : Int)) = true from by simpa using hi, cond_true, hf _ (show ([38, 97, 109, 112, 59] : Bs).length ≤ 6 by decide), hf _ (show ([38, 108, 116, 59] : Bs).length ≤ 6 by decide),
      hf _ (show ([38, 103, 116, 59] : Bs).length ≤ 6 by decide), hf _ (show ([38, 113, 117, 111, 116, 59] : Bs).length ≤ 6 by decide), hf _ (show ([38, 97, 112, 111, 115, 59] : Bs).length ≤ 6 by decide), hf [s[i]] (by simp), enc1]
    cases ((s[i].toNat : Int) == 38) <;> simp only [cond_true, cond_false, Option.bind_some, hw]
    cases ((s[i].toNat : Int) == 60) <;> simp only [cond_true, cond_false, Option.bind_some, hw]
    cases ((s[i].toNat : Int) == 62) <;> simp only [cond_true, cond_false, Option.bind_some, hw]
    cases ((s[i].toNat : Int) == 34) <;> simp only [cond_true, cond_false, Option.bind_some, hw]
    cases ((s[i].toNat : Int) == 39) <;> simp only [cond_true, cond_false, Option.bind_some, hw]
  · simp [List.take_length]
theorem WS_eq (V : Ev) (x : Bs) (l : List Int) (h : l.length + x.length ≤ 100000000) : strings_Builder_WriteString_cc3 V ((x, ()), ((), (l, ()))) = some ((((x.length : Int)), (false, ())), ((), ((l ++ ofBs x), ()))) := by
  unfold strings_Builder_WriteString_cc3 strings_Builder_copyCheck_20a
  simp only [Option.bind_some, fits_of (show (l.length + x.length) * 1 ≤ 100000000 by omega), cond_true]
theorem WB_eq (V : Ev) (n : Int) (l : List Int) (h : l.length ≤ 10000000) : strings_Builder_WriteByte_a04 V ((n, ()), ((), (l, ()))) = some ((false, ()), ((), ((l ++ [n]), ()))) := by
  unfold strings_Builder_WriteByte_a04 strings_Builder_copyCheck_20a
  simp only [Option.bind_some, fits_of (show (l.length + ([n] : List Int).length) * 1 ≤ 100000000 by simp; omega), cond_true]
theorem BS_eq (V : Ev) (l : List Int) : strings_Builder_String_20a V ((), ((), (l, ()))) = some ((toBs l, ()), ((), ())) := by
  unfold strings_Builder_String_20a
  simp only [beq_self_eq_true, cond_true]
theorem Encode_eq (N : Nat) (s : Bs) (hs : s.length ≤ 4000) (hN : 4000 < N) : entity_Encode_ (Ev.upto N) ((s, ()), ()) = some ((enc s, ()), ()) := by
  unfold entity_Encode_
  refine it_run (fun i => ((s, ((s.length : Int), ((i : Int), ()))), ((), (ofBs (enc (s.take i)), ())))) s.length ((), ((), (ofBs (enc s), ()))) rfl ?_ ?_ (by omega) (by rw [BS_eq]; simp only [toBs_ofBs]; rfl)
  · intro i hi
    have hl := enc_len (s.take i)
    have hl2 : (s.take i).length ≤ 4000 := by simp; omega
    have hw : IntKind.wrap .i64 ((i : Int) + 1) = (i : Int) + 1 := wrap64 (by omega) (by omega)
    have h18 : ∀ x : Bs, x.length ≤ 6 → strings_Builder_WriteString_cc3 (Ev.upto N) ((x, ()), ((), (ofBs (enc (s.take i)), ()))) = some ((((x.length : Int)), (false, ())), ((), (ofBs (enc (s.take i) ++ x), ()))) := fun x hx => by
      rw [WS_eq _ _ _ (by rw [ofBs_length]; omega), ofBs_append]
    have h21 : strings_Builder_WriteByte_a04 (Ev.upto N) ((((s[i].toNat : Int)), ()), ((), (ofBs (enc (s.take i)), ()))) = some ((false, ()), ((), (ofBs (enc (s.take i) ++ [s[i]]), ()))) := by
      rw [WB_eq _ _ _ (by rw [ofBs_length]; omega), ← ofBs_append]; rfl
    have hfin : ((i + 1 : Nat) : Int) = (i : Int) + 1 := by omega
    have hsf : ∀ a b : Nat, a ≤ 10 → b ≤ 10 → strFits (a + b) = true := fun a b _ _ => strFits_of (by omega)
    have e38 := byte_eq s[i] 38 (by decide)
    have e60 := byte_eq s[i] 60 (by decide)
    have e62 := byte_eq s[i] 62 (by decide)
    have e34 := byte_eq s[i] 34 (by decide)
    have e39 := byte_eq s[i] 39 (by decide)
    simp only [idx_nat hi, Option.bind_some, hw, sl_one hi, enc_take s i hi, hfin, show decide ((i : Int) < (s.length : Int)) = true from by simpa using hi, cond_true, enc1,
      show ([s[i]] == ([38] : Bs)) = (((s[i].toNat : Int)) == 38) from e38, show ([s[i]] == ([60] : Bs)) = (((s[i].toNat : Int)) == 60) from e60, show ([s[i]] == ([62] : Bs)) = (((s[i].toNat : Int)) == 62) from e62,
      show ([s[i]] == ([34] : Bs)) = (((s[i].toNat : Int)) == 34) from e34, show ([s[i]] == ([39] : Bs)) = (((s[i].toNat : Int)) == 39) from e39,
      List.length_cons, List.length_nil, List.length_append, List.cons_append, List.nil_append, hsf _ _ (by decide : (0 + 1 ≤ 10)) (by decide : (0 + 1 + 1 + 1 ≤ 10))]
    cases ((s[i].toNat : Int) == 38) <;> simp only [cond_true, cond_false, Option.bind_some, hw, idx_nat hi, h21]
    cases ((s[i].toNat : Int) == 60) <;> simp only [cond_true, cond_false, Option.bind_some, hw, idx_nat hi, h21]
    cases ((s[i].toNat : Int) == 62) <;> simp only [cond_true, cond_false, Option.bind_some, hw, idx_nat hi, h21]
    cases ((s[i].toNat : Int) == 34) <;> simp only [cond_true, cond_false, Option.bind_some, hw, idx_nat hi, h21]
    cases ((s[i].toNat : Int) == 39) <;> simp only [cond_true, cond_false, Option.bind_some, hw, idx_nat hi, h21]
    all_goals
      simp only [strFits, maxB, Nat.reduceAdd, Nat.reduceLeDiff, decide_true, cond_true]
      rw [h18 _ (by decide)]
      simp only [Option.bind_some, hw]
  · simp [List.take_length]

theorem WS2_eq (V : Ev) (x : Bs) (l : List Int) (h : l.length + x.length ≤ 100000000) : strings_Builder_WriteString_2ec V ((x, ()), ((), (l, ()))) = some ((((x.length : Int)), (false, ())), ((), ((l ++ ofBs x), ()))) := by
  unfold strings_Builder_WriteString_2ec strings_Builder_copyCheck_20a
  simp only [Option.bind_some, fits_of (show (l.length + x.length) * 1 ≤ 100000000 by omega), cond_true]
theorem enc_append (a b : Bs) : enc (a ++ b) = enc a ++ enc b := List.flatMap_append
end Go.En.Pl
