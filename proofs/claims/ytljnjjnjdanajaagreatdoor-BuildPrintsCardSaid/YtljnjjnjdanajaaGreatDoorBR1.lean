/- Text BR1 of this seat: written by a program of ours, or by hand; checked by Lean. -/
import Derived.Test.YtljnjjnjdanajaaGreatDoorBO
import Derived.Test.YtljnjjnjdanajaaGreatDoorBP3
set_option linter.unusedVariables false
set_option linter.unusedSimpArgs false
namespace Go.En.Pl
/-! -/
theorem foldL_flat {ε δ β : Type} (h : ε → List δ) (fin : List δ → β) : ∀ (l : List ε) (i : Nat) (s : List δ), foldL (fun (_ : Nat) (x : ε) (s : List δ) => (.inl (s ++ h x) : List δ ⊕ β)) fin i l s = fin (s ++ l.flatMap h)
  | [], i, s => by simp [foldL]
  | x :: l, i, s => by
    unfold foldL
    simp only
    rw [foldL_flat h fin l (i + 1) (s ++ h x), List.flatMap_cons, List.append_assoc]
theorem flat_le {ε δ : Type} (h : ε → List δ) : ∀ (l : List ε) (i : Nat) (hi : i < l.length), ((l.take i).flatMap h).length + (h l[i]).length ≤ (l.flatMap h).length
  | [], i, hi => by simp at hi
  | x :: l, 0, hi => by simp
  | x :: l, i + 1, hi => by
    have := flat_le h l i (by simpa using hi)
    simp only [List.take_succ_cons, List.flatMap_cons, List.length_append, List.getElem_cons_succ]
    omega
theorem take_flat {ε δ : Type} (h : ε → List δ) : ∀ (l : List ε) (i : Nat) (hi : i < l.length), (l.take i).flatMap h ++ h l[i] = (l.take (i + 1)).flatMap h
  | [], i, hi => by simp at hi
  | x :: l, 0, hi => by simp
  | x :: l, i + 1, hi => by
    have := take_flat h l i (by simpa using hi)
    simp only [List.take_succ_cons, List.flatMap_cons, List.getElem_cons_succ, List.append_assoc, this]
def codeN (d : List Nd) (x : Int) : Bool := match idx d x with
  | some n => n.2.1 == ([115, 99, 114, 105, 112, 116] : Bs) || n.2.1 == ([115, 116, 121, 108, 101] : Bs)
  | none => false
def voidB (s : Bs) : Bool := s == ([98, 114] : Bs) || (s == ([104, 114] : Bs) || (s == ([105, 109, 103] : Bs) || (s == ([105, 110, 112, 117, 116] : Bs) || (s == ([108, 105, 110, 107] : Bs) || s == ([109, 101, 116, 97] : Bs)))))
def tagT (n : Nd) : Tok := ((2 : Int), (n.2.1, (([] : Bs), (n.2.2.2.1, false))))
def prt (d : List Nd) : Nat → Int → Bs
  | 0, _ => []
  | f + 1, x => match idx d x with
    | some n => if n.1 = 3 then (if codeN d (parOf n) = true then n.2.2.1 else enc n.2.2.1) else if n.1 = 4 then [60, 33, 45, 45] ++ n.2.2.1 ++ [45, 45, 62] else if n.1 = 2 then startP (tagT n) ++ (if voidB n.2.1 = true then [] else (kidsOf n).flatMap (prt d f) ++ ([60, 47] ++ n.2.1 ++ [62])) else (kidsOf n).flatMap (prt d f)
    | none => []
theorem voidP (V : Ev) (s : Bs) : build_Void_ V ((s, ()), ()) = some ((voidB s, ()), ()) := by
  unfold build_Void_ voidB
  cases (s == ([98, 114] : Bs)) <;> cases (s == ([104, 114] : Bs)) <;> cases (s == ([105, 109, 103] : Bs)) <;> cases (s == ([105, 110, 112, 117, 116] : Bs)) <;> cases (s == ([108, 105, 110, 107] : Bs)) <;> cases (s == ([109, 101, 116, 97] : Bs)) <;> rfl
theorem voidR (V : Ev) (s : Bs) : pounceref17_Void_ V ((s, ()), ()) = some ((voidB s, ()), ()) := by
  unfold pounceref17_Void_ voidB
  cases (s == ([98, 114] : Bs)) <;> cases (s == ([104, 114] : Bs)) <;> cases (s == ([105, 109, 103] : Bs)) <;> cases (s == ([105, 110, 112, 117, 116] : Bs)) <;> cases (s == ([108, 105, 110, 107] : Bs)) <;> cases (s == ([109, 101, 116, 97] : Bs)) <;> rfl
theorem codeBoth (V : Ev) (d : List Nd) (x : Int) (hx : x = -1 ∨ In' d x) : build_code_ V ((d, (x, ())), ()) = some ((codeN d x, ()), ()) ∧ pounceref17_code_ V ((d, (x, ())), ()) = some ((codeN d x, ()), ()) := by
  unfold build_code_ pounceref17_code_ codeN
  rcases hx with rfl | hx
  · exact ⟨rfl, rfl⟩
  · obtain ⟨n, hn, _⟩ := idx_ge hx.1 hx.2
    simp only [decide_eq_true (show x ≥ 0 from hx.1), beq_self_eq_true, cond_true, hn, Option.bind_some]
    cases (n.2.1 == ([115, 99, 114, 105, 112, 116] : Bs)) <;> cases (n.2.1 == ([115, 116, 121, 108, 101] : Bs)) <;> exact ⟨rfl, rfl⟩
theorem sfW {n : Nat} (h : n ≤ 1000000000000) : strFits n = true := decide_eq_true (Nat.le_trans h (by decide))
theorem wsW (V : Ev) (x acc : Bs) (h : acc.length + x.length ≤ 1000000000000) : strings_Builder_WriteString_cc3 V ((x, ()), ((), (ofBs acc, ()))) = some ((((x.length : Int)), (false, ())), ((), (ofBs (acc ++ x), ()))) := by
  unfold strings_Builder_WriteString_cc3 strings_Builder_copyCheck_20a
  have : fits ((ofBs acc).length + x.length) 1 = true := decide_eq_true (Nat.le_trans (by rw [ofBs_length, Nat.mul_one]; exact h) (by decide))
  simp only [Option.bind_some, this, cond_true, ofBs_append]
theorem tagOk {n : Nd} (h : NdOk n) : okT (tagT n) := by
  unfold NdOk at h
  exact ⟨h.1, by show ([] : Bs).length ≤ 3000; simp, by show n.2.2.2.1.length ≤ 50; omega, fun a ha => h.2.2.2.2 a ha⟩
theorem tagPre (n : Nd) : pre [tagT n] [tagT n].length = startP (tagT n) := rfl
theorem tagLen {n : Nd} (h : NdOk n) : (startP (tagT n)).length ≤ 640000 := by
  have := tokP_len (c := false) (tagOk h)
  exact this
theorem flat_le2 (c : Nat) (g : Int → Bs) (h : Int → List Int) : ∀ l : List Int, (∀ k, k ∈ l → (g k).length ≤ c * (h k).length) → (l.flatMap g).length ≤ c * (l.flatMap h).length
  | [], _ => by simp
  | a :: l, hl => by
    have h1 := hl a (List.mem_cons_self ..)
    have h2 := flat_le2 c g h l fun k hk => hl k (List.mem_cons_of_mem _ hk)
    rw [List.flatMap_cons, List.flatMap_cons, List.length_append, List.length_append, Nat.mul_add]
    omega
theorem prt_len {d : List Nd} (hd : DocOk d) : ∀ (f : Nat) (x : Int), (prt d f x).length ≤ 700000 * (dn d f x).length
  | 0, x => by simp [prt]
  | f + 1, x => by
    unfold prt dn
    cases hn : idx d x with
    | none => simp
    | some n =>
      have hok := hd.2 n (List.mem_of_getElem? (idx_some hn).2.2)
      have ht := tagLen hok
      unfold NdOk at hok
      have hks : ks d x = kidsOf n := by unfold ks; rw [hn]
      have hk := flat_le2 700000 (prt d f) (dn d f) (kidsOf n) fun k _ => prt_len hd f k
      have he := enc_len n.2.2.1
      rw [hks]
      simp only [List.length_cons]
      split
      · split <;> omega
      · split
        · simp only [List.length_append, List.length_cons, List.length_nil]; omega
        · split
          · rw [List.length_append]
            split
            · simp only [List.length_nil]; omega
            · simp only [List.length_append, List.length_cons, List.length_nil]; omega
          · omega
theorem prt_flat {d : List Nd} (hd : DocOk d) (f : Nat) (l : List Int) : (l.flatMap (prt d f)).length ≤ 700000 * (l.flatMap (dn d f)).length := flat_le2 700000 (prt d f) (dn d f) l fun k _ => prt_len hd f k
theorem writeB (d : List Nd) (R : Right d) (hd : DocOk d) : ∀ (f m : Nat) (x : Int) (acc : Bs), f ≤ m → okD d f x → In' d x → acc.length + 700000 * (dn d f x).length ≤ 100000000000 → build_write_b6fN (Ev.upto 5000) m ((d, (x, ())), ((), (ofBs acc, ()))) = some ((), ((), (ofBs (acc ++ prt d f x), ()))) := by
  intro f
  induction f with
  | zero => intro m x acc _ h; exact h.elim
  | succ f ih =>
    intro m x acc hm ho hx hl
    obtain ⟨m, rfl⟩ : ∃ k, m = k + 1 := ⟨m - 1, by omega⟩
    obtain ⟨n, hn, hg⟩ := idx_ge hx.1 hx.2
    have hok := hd.2 n (List.mem_of_getElem? hg)
    have ht := tagLen hok
    have hto := tagOk hok
    unfold NdOk at hok
    have hkl : (kidsOf n).length ≤ 400 := hok.2.2.2.1
    have hks : ks d x = kidsOf n := by unfold ks; rw [hn]
    have hin' : ∀ k, k ∈ kidsOf n → In' d k := fun k hk => (R.kid (x := x) (hks.symm ▸ hk)).2.1
    have ho' : ∀ k, k ∈ kidsOf n → okD d f k := fun k hk => ho k (hks ▸ hk)
    have hpar : parOf n = -1 ∨ In' d (parOf n) := by
      have := R.cl x hx.1 hx.2
      unfold pr at this
      rw [hn] at this
      exact this
    have he := enc_len n.2.2.1
    unfold dn at hl
    rw [hks] at hl
    simp only [List.length_cons] at hl
    unfold prt build_write_b6fN build_write_b6fB
    simp only [hn, Option.bind_some]
    have hplAll := prt_flat hd f (kidsOf n)
    by_cases h3 : n.1 = 3
    · simp only [h3, beq_self_eq_true, cond_true, (codeBoth (Ev.upto 5000) d (parOf n) hpar).1, Option.bind_some, if_true]
      cases hc : codeN d (parOf n) with
      | true =>
        simp only [Bool.not_true, cond_false, Option.bind_some, wsW (Ev.upto 5000) n.2.2.1 acc (by omega), if_true]
      | false =>
        simp only [Bool.not_false, cond_true, Encode_eq 5000 n.2.2.1 (by omega) (by omega), Option.bind_some, wsW (Ev.upto 5000) (enc n.2.2.1) acc (by omega), Bool.false_eq_true, if_false]
    rw [if_neg h3]
    simp only [beq_eq_false_iff_ne.2 h3, cond_false]
    by_cases h4 : n.1 = 4
    · simp only [h4, beq_self_eq_true, cond_true, if_true, sfW (show ([60, 33, 45, 45] : Bs).length + n.2.2.1.length ≤ 1000000000000 by simp; omega), sfW (show (([60, 33, 45, 45] : Bs) ++ n.2.2.1).length + ([45, 45, 62] : Bs).length ≤ 1000000000000 by simp; omega), wsW (Ev.upto 5000) (([60, 33, 45, 45] : Bs) ++ n.2.2.1 ++ [45, 45, 62]) acc (by simp; omega), Option.bind_some]
    rw [if_neg h4]
    simp only [beq_eq_false_iff_ne.2 h4, cond_false]
    by_cases h2 : n.1 = 2
    · have hp : token_Print_ (Ev.upto 5000) (([((2 : Int), (n.2.1, (([] : Bs), (n.2.2.2.1, false))))], ()), ()) = some ((startP (tagT n), ()), ()) := Print_eq 5000 [tagT n] (by simp) (by simpa using hto) (by omega)
      rw [if_pos h2]
      simp only [h2, beq_self_eq_true, cond_true]
      rw [hp]
      simp only [Option.bind_some, wsW (Ev.upto 5000) (startP (tagT n)) acc (by omega), voidP (Ev.upto 5000) n.2.1]
      cases hv : voidB n.2.1 with
      | true => simp only [cond_true, Option.bind_some, if_true, List.append_nil]
      | false =>
        simp only [cond_false, Option.bind_some, Bool.false_eq_true, if_false]
        refine it_listB (l := kidsOf n) (σ := Bs) (fun i s => ((kidsOf n, ((kidsOf n).length, ((i : Int), ()))), ((), ((d, ()), ((n, ()), (ofBs s, ())))))) (fun _ k s => .inl (s ++ prt d f k)) (fun s => ((), ((), ((n, ()), (ofBs s, ()))))) (fun i s => s = (acc ++ startP (tagT n)) ++ ((kidsOf n).take i).flatMap (prt d f)) ((acc ++ startP (tagT n))) rfl (by simp) (by omega) (fun i s hi hs => ⟨?_, fun s' e => ?_⟩) (fun s _ => ?_) ?_
        · have hk : (kidsOf n)[i] ∈ kidsOf n := List.getElem_mem hi
          have hle := flat_le (dn d f) (kidsOf n) i hi
          have hpl := prt_flat hd f ((kidsOf n).take i)
          simp only [lenLt, decide_eq_true hi, cond_true, idx_nat hi, Option.bind_some, wrapS (show i < 1000000 by omega)]
          rw [ih m _ s (by omega) (ho' _ hk) (hin' _ hk) (by rw [hs]; simp only [List.length_append]; omega)]
          rfl
        · simp only [Sum.inl.injEq] at e
          rw [← e, hs, List.append_assoc, take_flat]
        · simp only [lenLt, Nat.lt_irrefl, decide_false, cond_false]
        · rw [foldL_flat]
          simp only [h2, beq_self_eq_true, cond_true, sfW (show ([60, 47] : Bs).length + n.2.1.length ≤ 1000000000000 by simp; omega), sfW (show (([60, 47] : Bs) ++ n.2.1).length + ([62] : Bs).length ≤ 1000000000000 by simp; omega), wsW (Ev.upto 5000) (([60, 47] : Bs) ++ n.2.1 ++ [62]) (acc ++ startP (tagT n) ++ (kidsOf n).flatMap (prt d f)) (by simp only [List.length_append, List.length_cons, List.length_nil]; omega), Option.bind_some]
          simp only [List.append_assoc]
    · rw [if_neg h2]
      simp only [beq_eq_false_iff_ne.2 h2, cond_false, Option.bind_some]
      refine it_listB (l := kidsOf n) (σ := Bs) (fun i s => ((kidsOf n, ((kidsOf n).length, ((i : Int), ()))), ((), ((d, ()), ((n, ()), (ofBs s, ())))))) (fun _ k s => .inl (s ++ prt d f k)) (fun s => ((), ((), ((n, ()), (ofBs s, ()))))) (fun i s => s = acc ++ ((kidsOf n).take i).flatMap (prt d f)) (acc) rfl (by simp) (by omega) (fun i s hi hs => ⟨?_, fun s' e => ?_⟩) (fun s _ => ?_) ?_
      · have hk : (kidsOf n)[i] ∈ kidsOf n := List.getElem_mem hi
        have hle := flat_le (dn d f) (kidsOf n) i hi
        have hpl := prt_flat hd f ((kidsOf n).take i)
        simp only [lenLt, decide_eq_true hi, cond_true, idx_nat hi, Option.bind_some, wrapS (show i < 1000000 by omega)]
        rw [ih m _ s (by omega) (ho' _ hk) (hin' _ hk) (by rw [hs]; simp only [List.length_append]; omega)]
        rfl
      · simp only [Sum.inl.injEq] at e
        rw [← e, hs, List.append_assoc, take_flat]
      · simp only [lenLt, Nat.lt_irrefl, decide_false, cond_false]
      · rw [foldL_flat]
        simp only [beq_eq_false_iff_ne.2 h2, cond_false, Option.bind_some]
end Go.En.Pl
