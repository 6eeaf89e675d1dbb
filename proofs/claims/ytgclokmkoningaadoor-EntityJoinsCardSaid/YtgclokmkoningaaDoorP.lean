/- Text P of this seat: written by a program of ours, or by hand; checked by Lean. -/
import Derived.Test.YtgclokmkoningaaDoorG
set_option linter.unusedSimpArgs false
set_option linter.unusedVariables false
namespace Go.En
theorem iterN_run {α β : Type} {f : α → Option (α ⊕ β)} (step : Nat → α) : ∀ (k : Nat) (b : β), (∀ i, i < k → f (step i) = some (.inl (step (i + 1)))) → f (step k) = some (.inr b) → ∀ n, k < n → iterN f n (step 0) = some b
  | 0, b, _, he, n + 1, _ => by simp [iterN, he]
  | k + 1, b, h, he, n + 1, hn => by
    have h0 := h 0 (Nat.succ_pos k)
    simp only [iterN, h0, Option.bind_some]
    exact iterN_run (fun i => step (i + 1)) k b (fun i hi => h (i + 1) (by omega)) he n (by omega)
theorem it_run {α β γ : Type} {f : α → Option (α ⊕ β)} {g : β → Option γ} {a0 : α} {c : γ} {n : Nat} (step : Nat → α) (k : Nat) (b : β) (h0 : a0 = step 0) (h : ∀ i, i < k → f (step i) = some (.inl (step (i + 1)))) (he : f (step k) = some (.inr b)) (hn : k < n) (hb : g b = some c) :
    ((Ev.upto n).it f a0).bind g = some c := by
  have := iterN_run step k b h he n hn
  rw [h0]
  show (iterN f n (step 0)).bind g = some c
  rw [this]
  exact hb
theorem wrap64 {n : Int} (h0 : -9223372036854775808 ≤ n) (h1 : n ≤ 9223372036854775807) : IntKind.wrap .i64 n = n := by rw [IntKind.wrap_i64]; omega
theorem idx_nat {α : Type} {l : List α} {i : Nat} (h : i < l.length) : idx l (i : Int) = some l[i] := by
  unfold idx
  rw [if_pos (by omega), Int.toNat_natCast, List.getElem?_eq_getElem h]
theorem sl_one {α : Type} {l : List α} {i : Nat} (h : i < l.length) : sl l (i : Int) ((i : Int) + 1) = some [l[i]] := by
  unfold sl
  rw [if_pos (by omega)]
  congr 1
  have : ((i : Int) + 1).toNat = i + 1 := by omega
  rw [this, Int.toNat_natCast, List.take_succ_eq_append_getElem h, List.drop_append_of_le_length (by simp; omega)]
  simp
theorem toBs_ofBs (s : Bs) : toBs (ofBs s) = s := by
  simp [toBs, ofBs, Function.comp_def]
theorem ofBs_append (a b : Bs) : ofBs a ++ ofBs b = ofBs (a ++ b) := by simp [ofBs]
theorem ofBs_length (a : Bs) : (ofBs a).length = a.length := by simp [ofBs]
theorem strFits_of {n : Nat} (h : n ≤ 100000000) : strFits n = true := decide_eq_true (Nat.le_trans h (by decide))
theorem fits_of {n k : Nat} (h : n * k ≤ 100000000) : fits n k = true := decide_eq_true (Nat.le_trans h (by decide))
theorem byte_eq (c : UInt8) (k : Nat) (hk : k < 256) : ([c] == [UInt8.ofNat k]) = (((c.toNat : Nat) : Int) == (k : Int)) := by
  rw [Bool.eq_iff_iff]
  simp only [beq_iff_eq, List.cons.injEq, and_true]
  constructor
  · rintro rfl
    rw [UInt8.toNat_ofNat']
    omega
  · intro h
    apply UInt8.toNat_inj.1
    rw [UInt8.toNat_ofNat']
    omega
end Go.En
namespace Go.En.Ent
def enc1 (c : UInt8) : Bs := bif ((c.toNat : Int) == 38) then [38, 97, 109, 112, 59] else bif ((c.toNat : Int) == 60) then [38, 108, 116, 59] else bif ((c.toNat : Int) == 62) then [38, 103, 116, 59] else
  bif ((c.toNat : Int) == 34) then [38, 113, 117, 111, 116, 59] else bif ((c.toNat : Int) == 39) then [38, 97, 112, 111, 115, 59] else [c]
def enc (s : Bs) : Bs := s.flatMap enc1
theorem enc1_len (c : UInt8) : (enc1 c).length ≤ 6 := by
  unfold enc1
  cases ((c.toNat : Int) == 38) <;> simp only [cond_true, cond_false]
  · cases ((c.toNat : Int) == 60) <;> simp only [cond_true, cond_false]
    · cases ((c.toNat : Int) == 62) <;> simp only [cond_true, cond_false]
      · cases ((c.toNat : Int) == 34) <;> simp only [cond_true, cond_false]
        · cases ((c.toNat : Int) == 39) <;> simp
        · decide
      · decide
    · decide
  · decide
theorem enc_len (s : Bs) : (enc s).length ≤ 6 * s.length := by
  induction s with
  | nil => simp [enc]
  | cons c s ih => 
    have := enc1_len c
    simp only [enc, List.flatMap_cons, List.length_append, List.length_cons] at ih ⊢
    omega
theorem enc_take (s : Bs) (i : Nat) (h : i < s.length) : enc (s.take (i + 1)) = enc (s.take i) ++ enc1 s[i] := by
  simp only [enc]
  rw [List.take_succ_eq_append_getElem h, List.flatMap_append]
  simp
theorem F16_eq (N : Nat) (s : Bs) (hs : s.length ≤ 2000) (hN : 2000 < N) : F16 (Ev.upto N) ((s, ()), ()) = some ((enc s, ()), ()) := by
  unfold F16
  refine it_run (fun i => ((s, (enc (s.take i), ((i : Int), ()))), ())) s.length ((enc s, ()), ()) rfl ?_ ?_ (by omega) rfl
  · intro i hi
    have hl := enc_len (s.take i)
    have hl2 : (s.take i).length ≤ 2000 := by simp; omega
    have hw : IntKind.wrap .i64 ((i : Int) + 1) = (i : Int) + 1 := wrap64 (by omega) (by omega)
    have hf : ∀ x : Bs, x.length ≤ 6 → strFits ((enc (s.take i)).length + x.length) = true := fun x hx => strFits_of (by omega)
    have hfin : ((i + 1 : Nat) : Int) = (i : Int) + 1 := by omega
    simp only [idx_nat hi, Option.bind_some, hw, sl_one hi, enc_take s i hi, hfin, show decide ((i : Int) < (s.length : Int)) = true from by simpa using hi, cond_true, hf _ (show ([38, 97, 109, 112, 59] : Bs).length ≤ 6 by decide), hf _ (show ([38, 108, 116, 59] : Bs).length ≤ 6 by decide),
      hf _ (show ([38, 103, 116, 59] : Bs).length ≤ 6 by decide), hf _ (show ([38, 113, 117, 111, 116, 59] : Bs).length ≤ 6 by decide), hf _ (show ([38, 97, 112, 111, 115, 59] : Bs).length ≤ 6 by decide), hf [s[i]] (by simp), enc1]
    cases ((s[i].toNat : Int) == 38) <;> simp only [cond_true, cond_false, Option.bind_some, hw]
    cases ((s[i].toNat : Int) == 60) <;> simp only [cond_true, cond_false, Option.bind_some, hw]
    cases ((s[i].toNat : Int) == 62) <;> simp only [cond_true, cond_false, Option.bind_some, hw]
    cases ((s[i].toNat : Int) == 34) <;> simp only [cond_true, cond_false, Option.bind_some, hw]
    cases ((s[i].toNat : Int) == 39) <;> simp only [cond_true, cond_false, Option.bind_some, hw]
  · simp [List.take_length]
theorem F18c_eq (V : Ev) (x : Bs) (l : List Int) (h : l.length + x.length ≤ 100000000) : F18c V ((x, ()), ((), (l, ()))) = some ((((x.length : Int)), (false, ())), ((), ((l ++ ofBs x), ()))) := by
  unfold F18c F27b
  simp only [Option.bind_some, fits_of (show (l.length + x.length) * 1 ≤ 100000000 by omega), cond_true]
theorem F21c_eq (V : Ev) (n : Int) (l : List Int) (h : l.length ≤ 10000000) : F21c V ((n, ()), ((), (l, ()))) = some ((false, ()), ((), ((l ++ [n]), ()))) := by
  unfold F21c F27b
  simp only [Option.bind_some, fits_of (show (l.length + ([n] : List Int).length) * 1 ≤ 100000000 by simp; omega), cond_true]
theorem F22_eq (V : Ev) (l : List Int) : F22 V ((), ((), (l, ()))) = some ((toBs l, ()), ((), ())) := by
  unfold F22
  simp only [beq_self_eq_true, cond_true]
theorem F15_eq (N : Nat) (s : Bs) (hs : s.length ≤ 4000) (hN : 4000 < N) : F15 (Ev.upto N) ((s, ()), ()) = some ((enc s, ()), ()) := by
  unfold F15
  refine it_run (fun i => ((s, ((s.length : Int), ((i : Int), ()))), ((), (ofBs (enc (s.take i)), ())))) s.length ((), ((), (ofBs (enc s), ()))) rfl ?_ ?_ (by omega) (by rw [F22_eq]; simp only [toBs_ofBs]; rfl)
  · intro i hi
    have hl := enc_len (s.take i)
    have hl2 : (s.take i).length ≤ 4000 := by simp; omega
    have hw : IntKind.wrap .i64 ((i : Int) + 1) = (i : Int) + 1 := wrap64 (by omega) (by omega)
    have h18 : ∀ x : Bs, x.length ≤ 6 → F18c (Ev.upto N) ((x, ()), ((), (ofBs (enc (s.take i)), ()))) = some ((((x.length : Int)), (false, ())), ((), (ofBs (enc (s.take i) ++ x), ()))) := fun x hx => by
      rw [F18c_eq _ _ _ (by rw [ofBs_length]; omega), ofBs_append]
    have h21 : F21c (Ev.upto N) ((((s[i].toNat : Int)), ()), ((), (ofBs (enc (s.take i)), ()))) = some ((false, ()), ((), (ofBs (enc (s.take i) ++ [s[i]]), ()))) := by
      rw [F21c_eq _ _ _ (by rw [ofBs_length]; omega), ← ofBs_append]; rfl
    have hfin : ((i + 1 : Nat) : Int) = (i : Int) + 1 := by omega
    have hsf : ∀ a b : Nat, a ≤ 10 → b ≤ 10 → strFits (a + b) = true := fun a b _ _ => strFits_of (by omega)
    have e38 := byte_eq s[i] 38 (by decide)
    have e60 := byte_eq s[i] 60 (by decide)
    have e62 := byte_eq s[i] 62 (by decide)
    have e34 := byte_eq s[i] 34 (by decide)
    have e39 := byte_eq s[i] 39 (by decide)
    simp only [idx_nat hi, Option.bind_some, hw, sl_one hi, enc_take s i hi, hfin, show decide ((i : Int) < (s.length : Int)) = true from by simpa using hi, cond_true, enc1,
      show ([s[i]] == ([38] : Bs)) = (((s[i].toNat : Int)) == 38) from e38, show ([s[i]] == ([60] : Bs)) = (((s[i].toNat : Int)) == 60) from e60, show ([s[i]] == ([62] : Bs)) = (((s[i].toNat : Int)) == 62) from e62,
      show ([s[i]] == ([34] : Bs)) = (((s[i].toNat : Int)) == 34) from e34, show ([s[i]] == ([39] : Bs)) = (((s[i].toNat : Int)) == 39) from e39,
      List.length_cons, List.length_nil, List.length_append, List.cons_append, List.nil_append, hsf _ _ (by decide : (0 + 1 ≤ 10)) (by decide : (0 + 1 + 1 + 1 ≤ 10))]
    cases ((s[i].toNat : Int) == 38) <;> simp only [cond_true, cond_false, Option.bind_some, hw, idx_nat hi, h21]
    cases ((s[i].toNat : Int) == 60) <;> simp only [cond_true, cond_false, Option.bind_some, hw, idx_nat hi, h21]
    cases ((s[i].toNat : Int) == 62) <;> simp only [cond_true, cond_false, Option.bind_some, hw, idx_nat hi, h21]
    cases ((s[i].toNat : Int) == 34) <;> simp only [cond_true, cond_false, Option.bind_some, hw, idx_nat hi, h21]
    cases ((s[i].toNat : Int) == 39) <;> simp only [cond_true, cond_false, Option.bind_some, hw, idx_nat hi, h21]
    all_goals
      simp only [strFits, maxB, Nat.reduceAdd, Nat.reduceLeDiff, decide_true, cond_true]
      rw [h18 _ (by decide)]
      simp only [Option.bind_some, hw]
  · simp [List.take_length]
theorem ex : F13 (Ev.upto 5000) ((), ()) = some ((true, ()), ()) := by kernel_rfl
theorem plain4 (s : Bs) : F4 (Ev.upto 5000) ((s, ()), ()) = some ((true, ()), ()) := by
  unfold F4
  by_cases hs : 2000 < (s.length : Int)
  · simp only [show decide ((s.length : Int) > 2000) = true from by simpa using hs, cond_true]
  · have hs' : s.length ≤ 2000 := by omega
    simp only [show decide ((s.length : Int) > 2000) = false from by simpa using hs, cond_false]
    rw [ex]
    simp only [F15_eq 5000 s (by omega) (by omega), F16_eq 5000 s hs' (by omega), Option.bind_some, beq_self_eq_true, cond_true]
theorem enc_append (a b : Bs) : enc (a ++ b) = enc a ++ enc b := List.flatMap_append
theorem enc1_pos (c : UInt8) : 1 ≤ (enc1 c).length := by
  unfold enc1
  cases ((c.toNat : Int) == 38) <;> simp only [cond_true, cond_false]
  · cases ((c.toNat : Int) == 60) <;> simp only [cond_true, cond_false]
    · cases ((c.toNat : Int) == 62) <;> simp only [cond_true, cond_false]
      · cases ((c.toNat : Int) == 34) <;> simp only [cond_true, cond_false]
        · cases ((c.toNat : Int) == 39) <;> simp
        · decide
      · decide
    · decide
  · decide
theorem enc_ge (s : Bs) : s.length ≤ (enc s).length := by
  induction s with
  | nil => simp
  | cons c s ih =>
    have := enc1_pos c
    simp only [enc, List.flatMap_cons, List.length_append, List.length_cons] at ih ⊢
    omega
theorem plain8 (a b : Bs) : F8 (Ev.upto 5000) ((a, (b, ())), ()) = some ((true, ()), ()) := by
  unfold F8
  by_cases ha : 2000 < (a.length : Int)
  · simp only [show decide ((a.length : Int) > 2000) = true from by simpa using ha, show (true == false) = false from rfl, cond_false, Option.bind_some, cond_true]
  · simp only [show decide ((a.length : Int) > 2000) = false from by simpa using ha, beq_self_eq_true, cond_true, Option.bind_some]
    by_cases hb : 2000 < (b.length : Int)
    · simp only [show decide ((b.length : Int) > 2000) = true from by simpa using hb, cond_true]
    · have ha' := enc_len a
      have hb' := enc_len b
      have hg := enc_ge a
      simp only [show decide ((b.length : Int) > 2000) = false from by simpa using hb, cond_false]
      rw [ex]
      simp only [Option.bind_some, beq_self_eq_true, cond_true, strFits_of (show a.length + b.length ≤ 100000000 by omega), F15_eq 5000 (a ++ b) (by simp; omega) (by omega), F15_eq 5000 a (by omega) (by omega), F15_eq 5000 b (by omega) (by omega),
        strFits_of (show (enc a).length + (enc b).length ≤ 100000000 by omega), enc_append, show decide (((enc a).length : Int) ≥ (a.length : Int)) = true from by simpa using hg]
end Go.En.Ent
