/- Text PM2 of this seat: written by a program of ours, or by hand; checked by Lean. -/
import Derived.Test.YtikphcnjknbdmaaGreatDoorPM1
set_option linter.unusedSimpArgs false
set_option linter.unusedVariables false
namespace Go.En.Pl
/-! Origins; what a source says of an address. -/
abbrev Org := Bool × (Bs × (Bs × Int))
def orgB (u : Url) : Org := bif !urlB u || u.1 then (true, ([], ([], 0))) else (false, (u.2.1, (u.2.2.1, portM u)))
theorem code_ok (b : Bool) : ((bif b then (0 : Int) else 50) == 0) = b := by cases b <;> rfl
theorem of_eq (N : Nat) (u : Url) (hu : small u) (hN : 100005 < N) : origin_Of_ (Ev.upto N) ((u, ()), ()) = some ((orgB u, ()), ()) := by
  have q := Check_eq N u hu hN
  unfold origin_Of_ orgB
  simp -implicitDefEqProofs only [q, Option.bind_some, bne, code_ok, oport_eq]
  cases urlB u with
  | false => rfl
  | true => cases u.1 <;> rfl
theorem rof_eq (N : Nat) (u : Url) (hu : small u) (hN : 100005 < N) : pounceref07_Of_ (Ev.upto N) ((u, ()), ()) = some ((orgB u, ()), ()) := by
  have q := Right_eq N u hu hN
  unfold pounceref07_Of_ orgB
  simp -implicitDefEqProofs only [q, Option.bind_some, rport_eq]
  cases urlB u with
  | false => rfl
  | true => cases u.1 <;> rfl
def sameB (a b : Org) : Bool := (a.1 == b.1 && (a.2.1 == b.2.1 && (a.2.2.1 == b.2.2.1 && (a.2.2.2 == b.2.2.2 && true)))) && !a.1
theorem same_eq (V : Ev) (t : (Org × (Org × Unit)) × Unit) : origin_Same_ V t = some ((sameB t.1.1 t.1.2.1, ()), ()) := by
  unfold origin_Same_ sameB
  cases ((t.1.1.1 == t.1.2.1.1) && ((t.1.1.2.1 == t.1.2.1.2.1) && ((t.1.1.2.2.1 == t.1.2.1.2.2.1) && ((t.1.1.2.2.2 == t.1.2.1.2.2.2) && true)))) <;> rfl
theorem rsame_eq (V : Ev) (t : (Org × (Org × Unit)) × Unit) : pounceref07_Same_ V t = some ((sameB t.1.1 t.1.2.1, ()), ()) := by
  obtain ⟨⟨⟨a, x⟩, ⟨b, y⟩, ⟨⟩⟩, ⟨⟩⟩ := t
  unfold pounceref07_Same_ sameB
  cases a <;> cases b <;> simp -implicitDefEqProofs only [Bool.not_false, Bool.not_true, beq_self_eq_true, cond_true, show (false == true) = false from rfl, show (true == false) = false from rfl, cond_false, Option.bind_some, Bool.false_and, Bool.and_false, Bool.and_true, Bool.true_and]
def selfB (u own : Url) : Bool := sameB (orgB u) (orgB own) || (urlB own && (!u.1 && (!own.1 && (u.2.2.1 == own.2.2.1 && (u.2.2.2.1 == 0 && (own.2.2.2.1 == 0 && schB own.2.1 u.2.1))))))
def matchB (s : Src) (u own : Url) (moved : Bool) : Bool := urlB u && (bif s.1 == 11 then schB s.2.2.1 u.2.1 else bif s.1 == 2 then selfB u own else bif s.1 == 12 then (!u.1 && (schB (bif s.2.2.1 == ([] : Bs) then own.2.1 else s.2.2.1) u.2.1 && (hostM s u.2.2.1 && (portOK s u && pathOK s.2.2.2.2.2.2 u.2.2.2.2.1 moved)))) else false)
def smallS (s : Src) : Prop := s.2.2.2.1.length ≤ 100000 ∧ s.2.2.2.2.2.2.length ≤ 100000
theorem rself_eq (N : Nat) (u own : Url) (hu : small u) (ho : small own) (hN : 100005 < N) : pounceref10_self_ (Ev.upto N) ((u, (own, ())), ()) = some ((selfB u own, ()), ()) := by
  have q1 := rof_eq N u hu hN
  have q2 := rof_eq N own ho hN
  have q3 := Right_eq N own ho hN
  have q4 := rscheme10_eq (Ev.upto N) own.2.1 u.2.1
  unfold pounceref10_self_ selfB
  simp -implicitDefEqProofs only [q1, q2, q3, q4, Option.bind_some, rsame_eq]
  cases sameB (orgB u) (orgB own) with
  | true => rfl
  | false =>
    cases urlB own with
    | false => rfl
    | true => cases u.1 <;> cases own.1 <;> cases u.2.2.1 == own.2.2.1 <;> cases u.2.2.2.1 == 0 <;> cases own.2.2.2.1 == 0 <;> rfl
theorem rurl_eq (N : Nat) (s : Src) (u own : Url) (m : Bool) (hs : smallS s) (hu : small u) (ho : small own) (hN : 100005 < N) : pounceref10_Url_ (Ev.upto N) ((s, (u, (own, (m, ())))), ()) = some ((matchB s u own m, ()), ()) := by
  have q1 := Right_eq N u hu hN
  have q2 := rself_eq N u own hu ho hN
  have q3 := rscheme10_eq (Ev.upto N) s.2.2.1 u.2.1
  have q4 := rscheme10_eq (Ev.upto N) own.2.1 u.2.1
  have q5 := rhostM_eq N s u.2.2.1 (by have := hs.1; omega) hs.1 (by have := hu.2.1; omega) hu.2.1
  have q6 := rPath_eq (Ev.upto N) s.2.2.2.2.2.2 u.2.2.2.2.1 m hs.2 hu.2.2.1
  unfold pounceref10_Url_ matchB
  simp -implicitDefEqProofs only [q1, Option.bind_some]
  cases urlB u with
  | false => rfl
  | true =>
    simp -implicitDefEqProofs only [Bool.not_true, cond_false, Bool.true_and]
    cases s.1 == 11 with
    | true => simp -implicitDefEqProofs only [cond_true, q3, Option.bind_some]
    | false =>
      cases s.1 == 2 with
      | true => simp -implicitDefEqProofs only [cond_true, cond_false, q2, Option.bind_some]
      | false =>
        cases s.1 == 12 with
        | false => rfl
        | true =>
          simp -implicitDefEqProofs only [cond_true, cond_false]
          cases s.2.2.1 == ([] : Bs) <;> simp -implicitDefEqProofs only [cond_true, cond_false, Option.bind_some, q3, q4, q5, q6, rPort_eq] <;> cases u.1 <;> (try rfl) <;> (try simp -implicitDefEqProofs only [Bool.not_false, beq_self_eq_true, cond_true, Bool.true_and, Option.bind_some])
          · cases schB s.2.2.1 u.2.1 <;> cases hostM s u.2.2.1 <;> cases portOK s u <;> rfl
          · cases schB own.2.1 u.2.1 <;> cases hostM s u.2.2.1 <;> cases portOK s u <;> rfl
theorem m1_eq (N : Nat) (u : Url) (hu : small u) (hN : 100005 < N) : match_Url_1_4de (Ev.upto N) ((), ((u, ()), ())) = some ((urlB u, ()), ((u, ()), ())) := by
  unfold match_Url_1_4de
  have q := Check_eq N u hu hN
  simp -implicitDefEqProofs only [q, Option.bind_some, code_ok]
theorem m2_eq (V : Ev) (told : Bs) (u : Url) : match_Url_2_9a2 V ((), ((told, ()), ((u, ()), ()))) = some ((schB told u.2.1, ()), ((told, ()), ((u, ()), ()))) := by
  unfold match_Url_2_9a2
  have q := mscheme_eq V told u.2.1
  simp -implicitDefEqProofs only [q, Option.bind_some]
theorem allc7a_eq (N : Nat) (u : Url) (told : Bs) (hu : small u) (hN : 100005 < N) : match_all_c7a (Ev.upto N) ((), ((), ((u, ()), ((told, ()), ())))) = some ((urlB u && schB told u.2.1, ()), ((), ((u, ()), ((told, ()), ())))) := by
  unfold match_all_c7a
  have q1 := m1_eq N u hu hN
  have q2 := m2_eq (Ev.upto N) told u
  simp -implicitDefEqProofs only [q1, q2, Option.bind_some]
  cases urlB u <;> cases schB told u.2.1 <;> rfl
theorem all8e3_eq (N : Nat) (s : Src) (u : Url) (told : Bs) (m : Bool) (hs : smallS s) (hu : small u) (hN : 100005 < N) : match_all_8e3 (Ev.upto N) ((), ((), ((u, ()), ((told, ()), ((s, ()), ((m, ()), ())))))) =
    some ((urlB u && (schB told u.2.1 && (!u.1 && (hostM s u.2.2.1 && (portOK s u && pathOK s.2.2.2.2.2.2 u.2.2.2.2.1 m)))), ()), ((), ((u, ()), ((told, ()), ((s, ()), ((m, ()), ())))))) := by
  have q1 := m1_eq N u hu hN
  have q2 := m2_eq (Ev.upto N) told u
  have q5 := mhost_eq N s u.2.2.1 (by have := hs.1; omega) hs.1 (by have := hu.2.1; omega) hu.2.1
  have q6 := mPath_eq (Ev.upto N) s.2.2.2.2.2.2 u.2.2.2.2.1 m hs.2 hu.2.2.1
  unfold match_all_8e3 match_Url_3_4de match_Url_4_e35 match_Url_5_e35 match_Url_6_20a
  simp -implicitDefEqProofs only [q1, q2, Option.bind_some]
  cases urlB u with
  | false => rfl
  | true =>
    cases schB told u.2.1 with
    | false => rfl
    | true =>
      simp -implicitDefEqProofs only [Bool.not_true, cond_false, Bool.true_and, Option.bind_some]
      cases u.1 with
      | true => rfl
      | false =>
        simp -implicitDefEqProofs only [Bool.not_true, Bool.not_false, cond_false, Bool.true_and, Option.bind_some, q5, q6, mPort_eq]
        cases hostM s u.2.2.1 with
        | false => rfl
        | true =>
          simp -implicitDefEqProofs only [Bool.not_true, Bool.not_false, cond_false, Bool.true_and, Option.bind_some, q5, q6, mPort_eq]
          cases portOK s u with
          | false => rfl
          | true =>
            simp -implicitDefEqProofs only [Bool.not_true, Bool.not_false, cond_false, Bool.true_and, Option.bind_some, q5, q6, mPort_eq]
            cases pathOK s.2.2.2.2.2.2 u.2.2.2.2.1 m <;> rfl
theorem all93a_eq (N : Nat) (u own : Url) (hu : small u) (ho : small own) (hN : 100005 < N) : match_all_93a (Ev.upto N) ((), ((), ((u, ()), ((own, ()), ())))) =
    some ((urlB u && ((!u.1 && (!own.1 && (u.2.2.2.1 == 0 && (own.2.2.2.1 == 0 && u.2.2.1 == own.2.2.1)))) && (urlB own && schB own.2.1 u.2.1)), ()), ((), ((u, ()), ((own, ()), ())))) := by
  have q1 := m1_eq N u hu hN
  have q2 := Check_eq N own ho hN
  have q3 := mscheme_eq (Ev.upto N) own.2.1 u.2.1
  unfold match_all_93a match_Url_7_631 match_Url_8_631
  simp -implicitDefEqProofs only [q1, Option.bind_some]
  cases urlB u with
  | false => rfl
  | true =>
    simp -implicitDefEqProofs only [Bool.not_true, cond_false, Bool.true_and]
    have h7 : ∀ (x : Bool), x = (!u.1 && (!own.1 && (u.2.2.2.1 == 0 && (own.2.2.2.1 == 0 && u.2.2.1 == own.2.2.1)))) → x = (!u.1 && (!own.1 && (u.2.2.2.1 == 0 && (own.2.2.2.1 == 0 && u.2.2.1 == own.2.2.1)))) := fun _ h => h
    cases u.1 <;> cases own.1 <;> cases u.2.2.2.1 == 0 <;> cases own.2.2.2.1 == 0 <;> cases u.2.2.1 == own.2.2.1 <;> (try rfl)
    simp -implicitDefEqProofs only [Bool.not_false, Bool.not_true, beq_self_eq_true, cond_true, cond_false, Option.bind_some, q2, code_ok, Bool.true_and]
    cases urlB own with
    | false => rfl
    | true =>
      simp -implicitDefEqProofs only [beq_self_eq_true, cond_true, q3, Option.bind_some, Bool.true_and]
      cases schB own.2.1 u.2.1 <;> rfl
theorem url_eq (N : Nat) (s : Src) (u own : Url) (m : Bool) (hs : smallS s) (hu : small u) (ho : small own) (hN : 100005 < N) : match_Url_ (Ev.upto N) ((s, (u, (own, (m, ())))), ()) = some ((matchB s u own m, ()), ()) := by
  have q1 := allc7a_eq N u s.2.2.1 hu hN
  have q2 := all8e3_eq N s u s.2.2.1 m hs hu hN
  have q3 := all8e3_eq N s u own.2.1 m hs hu hN
  have q4 := of_eq N u hu hN
  have q5 := of_eq N own ho hN
  have q6 := all93a_eq N u own hu ho hN
  have q7 := allc7a_eq N u own.2.1 hu hN
  have hq : ∀ k : Int, s.1 = k → ∀ j : Int, (s.1 == j) = (k == j) := fun k h j => by rw [h]
  unfold match_Url_ matchB
  cases h11 : s.1 == 11 with
  | true =>
    have e : s.1 = 11 := by simpa using h11
    have h12 : (s.1 == 12) = false := by rw [hq _ e]; rfl
    cases s.2.2.1 == ([] : Bs) <;> simp -implicitDefEqProofs only [h11, h12, beq_self_eq_true, show (false == true) = false from rfl, cond_true, cond_false, Option.bind_some, q1]
  | false =>
    cases h12 : s.1 == 12 with
    | true =>
      have e : s.1 = 12 := by simpa using h12
      have h2 : (s.1 == 2) = false := by rw [hq _ e]; rfl
      cases s.2.2.1 == ([] : Bs) <;> simp -implicitDefEqProofs only [h11, h12, h2, beq_self_eq_true, show (false == true) = false from rfl, cond_true, cond_false, Option.bind_some, q2, q3]
      · cases urlB u <;> cases schB s.2.2.1 u.2.1 <;> cases u.1 <;> rfl
      · cases urlB u <;> cases schB own.2.1 u.2.1 <;> cases u.1 <;> rfl
    | false =>
      cases h2 : s.1 == 2 with
      | false => cases s.2.2.1 == ([] : Bs) <;> simp -implicitDefEqProofs only [h11, h12, h2, beq_self_eq_true, show (false == true) = false from rfl, cond_true, cond_false, Option.bind_some, Bool.and_false]
      | true =>
        have fin : (sameB (orgB u) (orgB own) || (urlB u && ((!u.1 && (!own.1 && (u.2.2.2.1 == 0 && (own.2.2.2.1 == 0 && u.2.2.1 == own.2.2.1)))) && (urlB own && schB own.2.1 u.2.1)))) = (urlB u && selfB u own) := by
          unfold selfB
          cases hu : urlB u with
          | false =>
            have : orgB u = (true, ([], ([], 0))) := by unfold orgB; rw [hu]; rfl
            rw [this]
            unfold sameB
            simp
          | true =>
            cases sameB (orgB u) (orgB own) <;> cases urlB own <;> cases u.1 <;> cases own.1 <;> cases u.2.2.1 == own.2.2.1 <;> cases u.2.2.2.1 == 0 <;> cases own.2.2.2.1 == 0 <;> rfl
        rw [cond_false, cond_true, ← fin]
        cases s.2.2.1 == ([] : Bs) <;> simp -implicitDefEqProofs only [h11, h12, h2, beq_self_eq_true, show (false == true) = false from rfl, cond_true, cond_false, Option.bind_some, q4, q5, same_eq] <;> cases sameB (orgB u) (orgB own) <;> simp -implicitDefEqProofs only [beq_self_eq_true, cond_true, cond_false, show (true == false) = false from rfl, Option.bind_some, q6, Bool.false_or, Bool.true_or]
end Go.En.Pl
