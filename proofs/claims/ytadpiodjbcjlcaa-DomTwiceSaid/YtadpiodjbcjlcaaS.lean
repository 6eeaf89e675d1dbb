/- Text S of this seat: written by a program of ours, or by hand; checked by Lean. -/
import Derived.Test.YtadpiodjbcjlcaaG
import Derived.Test.YtadpiodjbcjlcaaLay
set_option linter.unusedVariables false
namespace Go.En.Pl
open Go.Proofs
theorem eqsOK : ∀ t, eqs.contains t = true → EqTy Try.prog t :=
  (eqs_cons ⟨by kernel_rfl, by kernel_rfl, by kernel_rfl, by kernel_rfl⟩ eqs_nil)
theorem extsOK : ∀ f x, exts.lookup f = some x → ExtOK Try.prog f x :=
  exts_nil
theorem envOK (V : Ev) (hV : V.OK) (l : List (FuncId × List CSpec)) (il : List (FuncId × List ISpec)) (y : Option CSpec) (h1 : l.all (fun p => EnterOK Try.prog p.1) = true) (h1i : il.all (fun p => EnterOK Try.prog p.1) = true) (h2 : ∀ g s, s ∈ ((l.lookup g).getD []) → CallSound Try.prog (envI V [] [] y) g s) (h3 : ∀ f I, I ∈ ((il.lookup f).getD []) → ISound Try.prog (env V []) f I) : EnvOK Try.prog (envI V l il y) where
  types := TypesOK.of_tab rfl (tabOK V l il y) eqsOK
  calls := fun g s hs => (h2 g s hs).env rfl rfl rfl (.inr rfl)
  mixed := by kernel_rfl
  ext := fun f h => extsOK f _ h rfl
  it := hV.it
  lp0 := rfl
  its := fun f I hI Y => (h3 f I hI Y).env rfl rfl rfl (.inr rfl)
  enters := fun g h => h.elim (enters_of_all h1 g) (enters_of_all h1i g)

theorem sounddom_New_ (V : Ev) (hV : V.OK) : CallSound Try.prog (env V []) 38 ⟨sigdom_New_, dom_New_ V⟩ := by
  rw [← rawdom_New_ V]
  exact aFn_sound (E2 := (env V [])) (envOK V hV (callsdom_New_ V) [] none (by kernel_rfl) (by kernel_rfl) (calls_nil rfl) its_nil) rfl rfl rfl (.inl rfl) Try.func38
theorem sounddom_may_ (V : Ev) (hV : V.OK) : CallSound Try.prog (env V []) 43 ⟨sigdom_may_, dom_may_ V⟩ := by
  rw [← rawdom_may_ V]
  exact aFn_sound (E2 := (env V [])) (envOK V hV (callsdom_may_ V) [] none (by kernel_rfl) (by kernel_rfl) (calls_nil rfl) its_nil) rfl rfl rfl (.inl rfl) Try.func43
theorem sounddom_holds_ (V : Ev) (hV : V.OK) : CallSound Try.prog (env V []) 44 ⟨sigdom_holds_, dom_holds_ V⟩ := by
  rw [← rawdom_holds_ V]
  exact aFn_sound (E2 := (env V [])) (envOK V hV (callsdom_holds_ V) [] none (by kernel_rfl) (by kernel_rfl) (calls_nil rfl) its_nil) rfl rfl rfl (.inl rfl) Try.func44
theorem sounddom_Check_ (V : Ev) (hV : V.OK) : CallSound Try.prog (env V []) 15 ⟨sigdom_Check_, dom_Check_ V⟩ := by
  rw [← rawdom_Check_ V]
  exact aFn_sound (E2 := (env V [])) (envOK V hV (callsdom_Check_ V) [] none (by kernel_rfl) (by kernel_rfl) (calls_cons ((cs_cons (sounddom_may_ V hV) cs_nil)) (calls_cons ((cs_cons (sounddom_holds_ V hV) cs_nil)) (calls_nil rfl))) its_nil) rfl rfl rfl (.inl rfl) Try.func15
theorem soundslices_Clone__api_Attr_api_Attr_ (V : Ev) (hV : V.OK) : CallSound Try.prog (env V []) 56 ⟨sigslices_Clone__api_Attr_api_Attr_, slices_Clone__api_Attr_api_Attr_ V⟩ := by
  rw [← rawslices_Clone__api_Attr_api_Attr_ V]
  exact aFn_sound (E2 := (env V [])) (envOK V hV (callsslices_Clone__api_Attr_api_Attr_ V) [] none (by kernel_rfl) (by kernel_rfl) (calls_nil rfl) its_nil) rfl rfl rfl (.inl rfl) Try.func56
theorem soundslices_Clone__api_Node_api_Node_ (V : Ev) (hV : V.OK) : CallSound Try.prog (env V []) 72 ⟨sigslices_Clone__api_Node_api_Node_, slices_Clone__api_Node_api_Node_ V⟩ := by
  rw [← rawslices_Clone__api_Node_api_Node_ V]
  exact aFn_sound (E2 := (env V [])) (envOK V hV (callsslices_Clone__api_Node_api_Node_ V) [] none (by kernel_rfl) (by kernel_rfl) (calls_nil rfl) its_nil) rfl rfl rfl (.inl rfl) Try.func72
theorem soundslices_Clone__int_int_ (V : Ev) (hV : V.OK) : CallSound Try.prog (env V []) 73 ⟨sigslices_Clone__int_int_, slices_Clone__int_int_ V⟩ := by
  rw [← rawslices_Clone__int_int_ V]
  exact aFn_sound (E2 := (env V [])) (envOK V hV (callsslices_Clone__int_int_ V) [] none (by kernel_rfl) (by kernel_rfl) (calls_nil rfl) its_nil) rfl rfl rfl (.inl rfl) Try.func73
theorem sounddom_copied_ (V : Ev) (hV : V.OK) : CallSound Try.prog (env V []) 57 ⟨sigdom_copied_, dom_copied_ V⟩ := by
  rw [← rawdom_copied_ V]
  exact aFn_sound (E2 := (env V [])) (envOK V hV (callsdom_copied_ V) [] none (by kernel_rfl) (by kernel_rfl) (calls_cons ((cs_cons (soundslices_Clone__api_Attr_api_Attr_ V hV) cs_nil)) (calls_cons ((cs_cons (soundslices_Clone__api_Node_api_Node_ V hV) cs_nil)) (calls_cons ((cs_cons (soundslices_Clone__int_int_ V hV) cs_nil)) (calls_nil rfl)))) its_nil) rfl rfl rfl (.inl rfl) Try.func57
theorem sounddom_Make_ (V : Ev) (hV : V.OK) : CallSound Try.prog (env V []) 28 ⟨sigdom_Make_, dom_Make_ V⟩ := by
  rw [← rawdom_Make_ V]
  exact aFn_sound (E2 := (env V [])) (envOK V hV (callsdom_Make_ V) [] none (by kernel_rfl) (by kernel_rfl) (calls_cons ((cs_cons (sounddom_Check_ V hV) cs_nil)) (calls_cons ((cs_cons (sounddom_may_ V hV) cs_nil)) (calls_cons ((cs_cons (soundslices_Clone__api_Attr_api_Attr_ V hV) cs_nil)) (calls_cons ((cs_cons (sounddom_copied_ V hV) cs_nil)) (calls_nil rfl))))) its_nil) rfl rfl rfl (.inl rfl) Try.func28
theorem sounddom_there_ (V : Ev) (hV : V.OK) : CallSound Try.prog (env V []) 39 ⟨sigdom_there_, dom_there_ V⟩ := by
  rw [← rawdom_there_ V]
  exact aFn_sound (E2 := (env V [])) (envOK V hV (callsdom_there_ V) [] none (by kernel_rfl) (by kernel_rfl) (calls_cons ((cs_cons (sounddom_Check_ V hV) cs_nil)) (calls_nil rfl)) its_nil) rfl rfl rfl (.inl rfl) Try.func39
theorem sounddom_node_ (V : Ev) (hV : V.OK) : CallSound Try.prog (env V []) 60 ⟨sigdom_node_, dom_node_ V⟩ := by
  rw [← rawdom_node_ V]
  exact aFn_sound (E2 := (env V [])) (envOK V hV (callsdom_node_ V) [] none (by kernel_rfl) (by kernel_rfl) (calls_nil rfl) its_nil) rfl rfl rfl (.inl rfl) Try.func60
theorem sounddom_first_api_Errno_ (V : Ev) (hV : V.OK) : CallSound Try.prog (env V []) 59 ⟨sigdom_first_api_Errno_, dom_first_api_Errno_ V⟩ := by
  rw [← rawdom_first_api_Errno_ V]
  exact aFn_sound (E2 := (env V [])) (envOK V hV (callsdom_first_api_Errno_ V) [] none (by kernel_rfl) (by kernel_rfl) (calls_nil rfl) its_nil) rfl rfl rfl (.inl rfl) Try.func59
theorem sounddom_walk_2d9 (V : Ev) (hV : V.OK) : CallSound Try.prog (env V []) 51 ⟨sigdom_walk_2d9, dom_walk_2d9 V⟩ := by
  rw [← rawdom_walk_2d9 V]
  exact aFn_sound (E2 := (env V [])) (envOK V hV (callsdom_walk_2d9 V) [] none (by kernel_rfl) (by kernel_rfl) (calls_nil rfl) its_nil) rfl rfl rfl (.inl rfl) Try.func51
theorem sounddom_step_839B (V : Ev) (hV : V.OK) (Y : (sigY59c2).In → Option (sigY59c2).Out) (self : (sigdom_step_839).In → Option (sigdom_step_839).Out) (h : CallSound Try.prog (envI V [] [] (some ⟨sigY59c2, Y⟩)) 70 ⟨sigdom_step_839, self⟩) : CallSound Try.prog (envI V [] [] (some ⟨sigY59c2, Y⟩)) 70 ⟨sigdom_step_839, dom_step_839B V Y self⟩ := by
  rw [← rawdom_step_839 V Y self]
  exact aFn_sound (E2 := (envI V [] [] (some ⟨sigY59c2, Y⟩))) (envOK V hV (callsdom_step_839 V Y self) [] (some ⟨sigY59c2, Y⟩) (by kernel_rfl) (by kernel_rfl) (calls_cons ((cs_cons h cs_nil)) (calls_nil rfl)) its_nil) rfl rfl rfl (.inr ⟨rfl, _, rfl⟩) Try.func70
theorem sounddom_step_839N (V : Ev) (hV : V.OK) (Y : (sigY59c2).In → Option (sigY59c2).Out) : ∀ m, CallSound Try.prog (envI V [] [] (some ⟨sigY59c2, Y⟩)) 70 ⟨sigdom_step_839, dom_step_839N V Y m⟩
  | 0 => CallSound.none
  | m + 1 => sounddom_step_839B V hV Y _ (sounddom_step_839N V hV Y m)
theorem sounddom_step_839 (V : Ev) (hV : V.OK) (Y : (sigY59c2).In → Option (sigY59c2).Out) : CallSound Try.prog (envI V [] [] (some ⟨sigY59c2, Y⟩)) 70 ⟨sigdom_step_839, dom_step_839 V Y⟩ := CallSound.rc hV (sounddom_step_839N V hV Y)
theorem sounddom_walk_1_1f1 (V : Ev) (hV : V.OK) (Y : (sigY59c2).In → Option (sigY59c2).Out) : CallSound Try.prog (envI V [] [] (some ⟨sigY59c2, Y⟩)) 69 ⟨sigdom_walk_1_1f1, dom_walk_1_1f1 V Y⟩ := by
  rw [← rawdom_walk_1_1f1 V Y]
  exact aFn_sound (E2 := (envI V [] [] (some ⟨sigY59c2, Y⟩))) (envOK V hV (callsdom_walk_1_1f1 V Y) [] (some ⟨sigY59c2, Y⟩) (by kernel_rfl) (by kernel_rfl) (calls_cons ((cs_cons (sounddom_step_839 V hV Y) cs_nil)) (calls_nil rfl)) its_nil) rfl rfl rfl (.inr ⟨rfl, _, rfl⟩) Try.func69
theorem sounddom_out_1_069 (V : Ev) (hV : V.OK) : CallSound Try.prog (env V []) 75 ⟨sigdom_out_1_069, dom_out_1_069 V⟩ := by
  rw [← rawdom_out_1_069 V]
  exact aFn_sound (E2 := (env V [])) (envOK V hV (callsdom_out_1_069 V) [] none (by kernel_rfl) (by kernel_rfl) (calls_nil rfl) its_nil) rfl rfl rfl (.inl rfl) Try.func75
theorem soundslices_IndexFunc__int_int_fb8 (V : Ev) (hV : V.OK) : CallSound Try.prog (env V []) 77 ⟨sigslices_IndexFunc__int_int_fb8, slices_IndexFunc__int_int_fb8 V⟩ := by
  rw [← rawslices_IndexFunc__int_int_fb8 V]
  exact aFn_sound (E2 := (env V [])) (envOK V hV (callsslices_IndexFunc__int_int_fb8 V) [] none (by kernel_rfl) (by kernel_rfl) (calls_cons ((cs_cons (sounddom_out_1_069 V hV) cs_nil)) (calls_nil rfl)) its_nil) rfl rfl rfl (.inl rfl) Try.func77
theorem soundslices_DeleteFunc__int_int_8f6 (V : Ev) (hV : V.OK) : CallSound Try.prog (env V []) 74 ⟨sigslices_DeleteFunc__int_int_8f6, slices_DeleteFunc__int_int_8f6 V⟩ := by
  rw [← rawslices_DeleteFunc__int_int_8f6 V]
  exact aFn_sound (E2 := (env V [])) (envOK V hV (callsslices_DeleteFunc__int_int_8f6 V) [] none (by kernel_rfl) (by kernel_rfl) (calls_cons ((cs_cons (sounddom_out_1_069 V hV) cs_nil)) (calls_cons ((cs_cons (soundslices_IndexFunc__int_int_fb8 V hV) cs_nil)) (calls_nil rfl))) its_nil) rfl rfl rfl (.inl rfl) Try.func74
theorem sounddom_out_ac4 (V : Ev) (hV : V.OK) : CallSound Try.prog (env V []) 61 ⟨sigdom_out_ac4, dom_out_ac4 V⟩ := by
  rw [← rawdom_out_ac4 V]
  exact aFn_sound (E2 := (env V [])) (envOK V hV (callsdom_out_ac4 V) [] none (by kernel_rfl) (by kernel_rfl) (calls_cons ((cs_cons (soundslices_DeleteFunc__int_int_8f6 V hV) cs_nil)) (calls_nil rfl)) its_nil) rfl rfl rfl (.inl rfl) Try.func61
theorem sounddom_Put_ (V : Ev) (hV : V.OK) : CallSound Try.prog (env V []) 32 ⟨sigdom_Put_, dom_Put_ V⟩ := by
  rw [← rawdom_Put_ V]
  exact aFn_sound (E2 := (env V [])) (envOK V hV (callsdom_Put_ V) (itsdom_Put_ V) none (by kernel_rfl) (by kernel_rfl) (calls_cons ((cs_cons (sounddom_Check_ V hV) cs_nil)) (calls_cons ((cs_cons (sounddom_there_ V hV) cs_nil)) (calls_cons ((cs_cons (sounddom_holds_ V hV) cs_nil)) (calls_cons ((cs_cons (sounddom_walk_2d9 V hV) cs_nil)) (calls_cons ((cs_cons (sounddom_copied_ V hV) cs_nil)) (calls_cons ((cs_cons (sounddom_first_api_Errno_ V hV) cs_nil)) (calls_cons ((cs_cons (sounddom_node_ V hV) cs_nil)) (calls_cons ((cs_cons (sounddom_out_ac4 V hV) cs_nil)) (calls_nil rfl))))))))) (its_cons (itl_cons (sounddom_walk_1_1f1 V hV) itl_nil) its_nil)) rfl rfl rfl (.inl rfl) Try.func32
theorem soundpouncelaw16_two_ (V : Ev) (hV : V.OK) : CallSound Try.prog (env V []) 49 ⟨sigpouncelaw16_two_, pouncelaw16_two_ V⟩ := by
  rw [← rawpouncelaw16_two_ V]
  exact aFn_sound (E2 := (env V [])) (envOK V hV (callspouncelaw16_two_ V) [] none (by kernel_rfl) (by kernel_rfl) (calls_cons ((cs_cons (sounddom_Make_ V hV) cs_nil)) (calls_cons ((cs_cons (sounddom_Put_ V hV) cs_nil)) (calls_cons ((cs_cons (sounddom_New_ V hV) cs_nil)) (calls_nil rfl)))) its_nil) rfl rfl rfl (.inl rfl) Try.func49
theorem sounddom_Cut_ (V : Ev) (hV : V.OK) : CallSound Try.prog (env V []) 34 ⟨sigdom_Cut_, dom_Cut_ V⟩ := by
  rw [← rawdom_Cut_ V]
  exact aFn_sound (E2 := (env V [])) (envOK V hV (callsdom_Cut_ V) [] none (by kernel_rfl) (by kernel_rfl) (calls_cons ((cs_cons (sounddom_Check_ V hV) cs_nil)) (calls_cons ((cs_cons (sounddom_there_ V hV) cs_nil)) (calls_cons ((cs_cons (sounddom_copied_ V hV) cs_nil)) (calls_cons ((cs_cons (sounddom_first_api_Errno_ V hV) cs_nil)) (calls_cons ((cs_cons (sounddom_node_ V hV) cs_nil)) (calls_cons ((cs_cons (sounddom_out_ac4 V hV) cs_nil)) (calls_nil rfl))))))) its_nil) rfl rfl rfl (.inl rfl) Try.func34
theorem sounddom_place_1_e8e (V : Ev) (hV : V.OK) : CallSound Try.prog (env V []) 65 ⟨sigdom_place_1_e8e, dom_place_1_e8e V⟩ := by
  rw [← rawdom_place_1_e8e V]
  exact aFn_sound (E2 := (env V [])) (envOK V hV (callsdom_place_1_e8e V) [] none (by kernel_rfl) (by kernel_rfl) (calls_nil rfl) its_nil) rfl rfl rfl (.inl rfl) Try.func65
theorem soundslices_IndexFunc__api_Attr_api_Attr_fe9 (V : Ev) (hV : V.OK) : CallSound Try.prog (env V []) 64 ⟨sigslices_IndexFunc__api_Attr_api_Attr_fe9, slices_IndexFunc__api_Attr_api_Attr_fe9 V⟩ := by
  rw [← rawslices_IndexFunc__api_Attr_api_Attr_fe9 V]
  exact aFn_sound (E2 := (env V [])) (envOK V hV (callsslices_IndexFunc__api_Attr_api_Attr_fe9 V) [] none (by kernel_rfl) (by kernel_rfl) (calls_cons ((cs_cons (sounddom_place_1_e8e V hV) cs_nil)) (calls_nil rfl)) its_nil) rfl rfl rfl (.inl rfl) Try.func64
theorem sounddom_place_ (V : Ev) (hV : V.OK) : CallSound Try.prog (env V []) 40 ⟨sigdom_place_, dom_place_ V⟩ := by
  rw [← rawdom_place_ V]
  exact aFn_sound (E2 := (env V [])) (envOK V hV (callsdom_place_ V) [] none (by kernel_rfl) (by kernel_rfl) (calls_cons ((cs_cons (soundslices_IndexFunc__api_Attr_api_Attr_fe9 V hV) cs_nil)) (calls_nil rfl)) its_nil) rfl rfl rfl (.inl rfl) Try.func40
theorem sounddom_Set_ (V : Ev) (hV : V.OK) : CallSound Try.prog (env V []) 36 ⟨sigdom_Set_, dom_Set_ V⟩ := by
  rw [← rawdom_Set_ V]
  exact aFn_sound (E2 := (env V [])) (envOK V hV (callsdom_Set_ V) [] none (by kernel_rfl) (by kernel_rfl) (calls_cons ((cs_cons (sounddom_Check_ V hV) cs_nil)) (calls_cons ((cs_cons (sounddom_there_ V hV) cs_nil)) (calls_cons ((cs_cons (sounddom_place_ V hV) cs_nil)) (calls_cons ((cs_cons (sounddom_copied_ V hV) cs_nil)) (calls_cons ((cs_cons (sounddom_first_api_Errno_ V hV) cs_nil)) (calls_cons ((cs_cons (sounddom_node_ V hV) cs_nil)) (calls_nil rfl))))))) its_nil) rfl rfl rfl (.inl rfl) Try.func36
theorem sounddom_Attr_ (V : Ev) (hV : V.OK) : CallSound Try.prog (env V []) 13 ⟨sigdom_Attr_, dom_Attr_ V⟩ := by
  rw [← rawdom_Attr_ V]
  exact aFn_sound (E2 := (env V [])) (envOK V hV (callsdom_Attr_ V) [] none (by kernel_rfl) (by kernel_rfl) (calls_cons ((cs_cons (sounddom_there_ V hV) cs_nil)) (calls_cons ((cs_cons (sounddom_place_ V hV) cs_nil)) (calls_nil rfl))) its_nil) rfl rfl rfl (.inl rfl) Try.func13
theorem sounddom_step_bf7B (V : Ev) (hV : V.OK) (Y : (sigYcea2).In → Option (sigYcea2).Out) (self : (sigdom_step_bf7).In → Option (sigdom_step_bf7).Out) (h : CallSound Try.prog (envI V [] [] (some ⟨sigYcea2, Y⟩)) 70 ⟨sigdom_step_bf7, self⟩) : CallSound Try.prog (envI V [] [] (some ⟨sigYcea2, Y⟩)) 70 ⟨sigdom_step_bf7, dom_step_bf7B V Y self⟩ := by
  rw [← rawdom_step_bf7 V Y self]
  exact aFn_sound (E2 := (envI V [] [] (some ⟨sigYcea2, Y⟩))) (envOK V hV (callsdom_step_bf7 V Y self) [] (some ⟨sigYcea2, Y⟩) (by kernel_rfl) (by kernel_rfl) (calls_cons ((cs_cons h cs_nil)) (calls_nil rfl)) its_nil) rfl rfl rfl (.inr ⟨rfl, _, rfl⟩) Try.func70
theorem sounddom_step_bf7N (V : Ev) (hV : V.OK) (Y : (sigYcea2).In → Option (sigYcea2).Out) : ∀ m, CallSound Try.prog (envI V [] [] (some ⟨sigYcea2, Y⟩)) 70 ⟨sigdom_step_bf7, dom_step_bf7N V Y m⟩
  | 0 => CallSound.none
  | m + 1 => sounddom_step_bf7B V hV Y _ (sounddom_step_bf7N V hV Y m)
theorem sounddom_step_bf7 (V : Ev) (hV : V.OK) (Y : (sigYcea2).In → Option (sigYcea2).Out) : CallSound Try.prog (envI V [] [] (some ⟨sigYcea2, Y⟩)) 70 ⟨sigdom_step_bf7, dom_step_bf7 V Y⟩ := CallSound.rc hV (sounddom_step_bf7N V hV Y)
theorem sounddom_walk_1_c21 (V : Ev) (hV : V.OK) (Y : (sigYcea2).In → Option (sigYcea2).Out) : CallSound Try.prog (envI V [] [] (some ⟨sigYcea2, Y⟩)) 69 ⟨sigdom_walk_1_c21, dom_walk_1_c21 V Y⟩ := by
  rw [← rawdom_walk_1_c21 V Y]
  exact aFn_sound (E2 := (envI V [] [] (some ⟨sigYcea2, Y⟩))) (envOK V hV (callsdom_walk_1_c21 V Y) [] (some ⟨sigYcea2, Y⟩) (by kernel_rfl) (by kernel_rfl) (calls_cons ((cs_cons (sounddom_step_bf7 V hV Y) cs_nil)) (calls_nil rfl)) its_nil) rfl rfl rfl (.inr ⟨rfl, _, rfl⟩) Try.func69
theorem soundslices_AppendSeq__int_int_692 (V : Ev) (hV : V.OK) : CallSound Try.prog (env V []) 68 ⟨sigslices_AppendSeq__int_int_692, slices_AppendSeq__int_int_692 V⟩ := by
  rw [← rawslices_AppendSeq__int_int_692 V]
  exact aFn_sound (E2 := (env V [])) (envOK V hV (callsslices_AppendSeq__int_int_692 V) (itsslices_AppendSeq__int_int_692 V) none (by kernel_rfl) (by kernel_rfl) (calls_nil rfl) (its_cons (itl_cons (sounddom_walk_1_c21 V hV) itl_nil) its_nil)) rfl rfl rfl (.inl rfl) Try.func68
theorem soundslices_Collect_int_f47 (V : Ev) (hV : V.OK) : CallSound Try.prog (env V []) 50 ⟨sigslices_Collect_int_f47, slices_Collect_int_f47 V⟩ := by
  rw [← rawslices_Collect_int_f47 V]
  exact aFn_sound (E2 := (env V [])) (envOK V hV (callsslices_Collect_int_f47 V) [] none (by kernel_rfl) (by kernel_rfl) (calls_cons ((cs_cons (soundslices_AppendSeq__int_int_692 V hV) cs_nil)) (calls_nil rfl)) its_nil) rfl rfl rfl (.inl rfl) Try.func50
theorem sounddom_Below_ (V : Ev) (hV : V.OK) : CallSound Try.prog (env V []) 19 ⟨sigdom_Below_, dom_Below_ V⟩ := by
  rw [← rawdom_Below_ V]
  exact aFn_sound (E2 := (env V [])) (envOK V hV (callsdom_Below_ V) [] none (by kernel_rfl) (by kernel_rfl) (calls_cons ((cs_cons (sounddom_there_ V hV) cs_nil)) (calls_cons ((cs_cons (soundslices_Collect_int_f47 V hV) cs_nil)) (calls_cons ((cs_cons (sounddom_walk_2d9 V hV) cs_nil)) (calls_nil rfl)))) its_nil) rfl rfl rfl (.inl rfl) Try.func19
theorem soundpounceref01_Ints_ (V : Ev) (hV : V.OK) : CallSound Try.prog (env V []) 18 ⟨sigpounceref01_Ints_, pounceref01_Ints_ V⟩ := by
  rw [← rawpounceref01_Ints_ V]
  exact aFn_sound (E2 := (env V [])) (envOK V hV (callspounceref01_Ints_ V) [] none (by kernel_rfl) (by kernel_rfl) (calls_nil rfl) its_nil) rfl rfl rfl (.inl rfl) Try.func18
theorem soundstrings_Builder_copyCheck_20a (V : Ev) : CallSound Try.prog (env V []) 71 ⟨sigstrings_Builder_copyCheck_20a, strings_Builder_copyCheck_20a V⟩ :=
  copyCheck_sound (fun b w h0 h1 h2 => Any.Builder_copyCheck_fresh lays laysX b w h0 h1 h2) (fun b w h0 => Any.Builder_copyCheck_used lays laysX b w h0) ⟨.inl rfl, .inl rfl⟩ (fun t u h ren => by cases h; rfl)
theorem soundstrings_Builder_WriteString_cc3 (V : Ev) (hV : V.OK) : CallSound Try.prog (env V []) 53 ⟨sigstrings_Builder_WriteString_cc3, strings_Builder_WriteString_cc3 V⟩ := by
  rw [← rawstrings_Builder_WriteString_cc3 V]
  exact aFn_sound (E2 := (env V [])) (envOK V hV (callsstrings_Builder_WriteString_cc3 V) [] none (by kernel_rfl) (by kernel_rfl) (calls_cons ((cs_cons (soundstrings_Builder_copyCheck_20a V) cs_nil)) (calls_nil rfl)) its_nil) rfl rfl rfl (.inl rfl) Try.func53
theorem soundstrings_Builder_String_20a (V : Ev) (hV : V.OK) : CallSound Try.prog (env V []) 54 ⟨sigstrings_Builder_String_20a, strings_Builder_String_20a V⟩ := by
  rw [← rawstrings_Builder_String_20a V]
  exact aFn_sound (E2 := (env V [])) (envOK V hV (callsstrings_Builder_String_20a V) [] none (by kernel_rfl) (by kernel_rfl) (calls_nil rfl) its_nil) rfl rfl rfl (.inl rfl) Try.func54
theorem sounddom_Text_ (V : Ev) (hV : V.OK) : CallSound Try.prog (env V []) 21 ⟨sigdom_Text_, dom_Text_ V⟩ := by
  rw [← rawdom_Text_ V]
  exact aFn_sound (E2 := (env V [])) (envOK V hV (callsdom_Text_ V) [] none (by kernel_rfl) (by kernel_rfl) (calls_cons ((cs_cons (sounddom_Below_ V hV) cs_nil)) (calls_cons ((cs_cons (soundstrings_Builder_WriteString_cc3 V hV) cs_nil)) (calls_cons ((cs_cons (soundstrings_Builder_String_20a V hV) cs_nil)) (calls_nil rfl)))) its_nil) rfl rfl rfl (.inl rfl) Try.func21
theorem sounddom_In_ (V : Ev) (hV : V.OK) : CallSound Try.prog (env V []) 23 ⟨sigdom_In_, dom_In_ V⟩ := by
  rw [← rawdom_In_ V]
  exact aFn_sound (E2 := (env V [])) (envOK V hV (callsdom_In_ V) [] none (by kernel_rfl) (by kernel_rfl) (calls_cons ((cs_cons (sounddom_there_ V hV) cs_nil)) (calls_nil rfl)) its_nil) rfl rfl rfl (.inl rfl) Try.func23
theorem soundpouncelaw16_lays_ (V : Ev) (hV : V.OK) : CallSound Try.prog (env V []) 17 ⟨sigpouncelaw16_lays_, pouncelaw16_lays_ V⟩ := by
  rw [← rawpouncelaw16_lays_ V]
  exact aFn_sound (E2 := (env V [])) (envOK V hV (callspouncelaw16_lays_ V) [] none (by kernel_rfl) (by kernel_rfl) (calls_cons ((cs_cons (sounddom_Attr_ V hV) cs_nil)) (calls_cons ((cs_cons (sounddom_Check_ V hV) cs_nil)) (calls_cons ((cs_cons (soundpounceref01_Ints_ V hV) cs_nil)) (calls_cons ((cs_cons (sounddom_Below_ V hV) cs_nil)) (calls_cons ((cs_cons (sounddom_Text_ V hV) cs_nil)) (calls_cons ((cs_cons (sounddom_In_ V hV) cs_nil)) (calls_cons ((cs_cons (sounddom_Put_ V hV) cs_nil)) (calls_cons ((cs_cons (sounddom_Cut_ V hV) cs_nil)) (calls_cons ((cs_cons (sounddom_Set_ V hV) cs_nil)) (calls_cons ((cs_cons (soundpouncelaw16_two_ V hV) cs_nil)) (calls_nil rfl))))))))))) its_nil) rfl rfl rfl (.inl rfl) Try.func17
theorem soundpounceref16_BigNode_ (V : Ev) (hV : V.OK) : CallSound Try.prog (env V []) 26 ⟨sigpounceref16_BigNode_, pounceref16_BigNode_ V⟩ := by
  rw [← rawpounceref16_BigNode_ V]
  exact aFn_sound (E2 := (env V [])) (envOK V hV (callspounceref16_BigNode_ V) [] none (by kernel_rfl) (by kernel_rfl) (calls_nil rfl) its_nil) rfl rfl rfl (.inl rfl) Try.func26
theorem soundpounceref16_Big_ (V : Ev) (hV : V.OK) : CallSound Try.prog (env V []) 11 ⟨sigpounceref16_Big_, pounceref16_Big_ V⟩ := by
  rw [← rawpounceref16_Big_ V]
  exact aFn_sound (E2 := (env V [])) (envOK V hV (callspounceref16_Big_ V) [] none (by kernel_rfl) (by kernel_rfl) (calls_cons ((cs_cons (soundpounceref16_BigNode_ V hV) cs_nil)) (calls_nil rfl)) its_nil) rfl rfl rfl (.inl rfl) Try.func11
theorem soundpounceref16_OwnNode_ (V : Ev) (hV : V.OK) : CallSound Try.prog (env V []) 27 ⟨sigpounceref16_OwnNode_, pounceref16_OwnNode_ V⟩ := by
  rw [← rawpounceref16_OwnNode_ V]
  exact aFn_sound (E2 := (env V [])) (envOK V hV (callspounceref16_OwnNode_ V) [] none (by kernel_rfl) (by kernel_rfl) (calls_nil rfl) its_nil) rfl rfl rfl (.inl rfl) Try.func27
theorem soundpounceref16_Own_ (V : Ev) (hV : V.OK) : CallSound Try.prog (env V []) 12 ⟨sigpounceref16_Own_, pounceref16_Own_ V⟩ := by
  rw [← rawpounceref16_Own_ V]
  exact aFn_sound (E2 := (env V [])) (envOK V hV (callspounceref16_Own_ V) [] none (by kernel_rfl) (by kernel_rfl) (calls_cons ((cs_cons (soundpounceref16_OwnNode_ V hV) cs_nil)) (calls_nil rfl)) its_nil) rfl rfl rfl (.inl rfl) Try.func12
theorem soundpounceref16_May_ (V : Ev) (hV : V.OK) : CallSound Try.prog (env V []) 45 ⟨sigpounceref16_May_, pounceref16_May_ V⟩ := by
  rw [← rawpounceref16_May_ V]
  exact aFn_sound (E2 := (env V [])) (envOK V hV (callspounceref16_May_ V) [] none (by kernel_rfl) (by kernel_rfl) (calls_nil rfl) its_nil) rfl rfl rfl (.inl rfl) Try.func45
theorem soundpounceref16_holds_ (V : Ev) (hV : V.OK) : CallSound Try.prog (env V []) 62 ⟨sigpounceref16_holds_, pounceref16_holds_ V⟩ := by
  rw [← rawpounceref16_holds_ V]
  exact aFn_sound (E2 := (env V [])) (envOK V hV (callspounceref16_holds_ V) [] none (by kernel_rfl) (by kernel_rfl) (calls_nil rfl) its_nil) rfl rfl rfl (.inl rfl) Try.func62
theorem soundpounceref16_kids_ (V : Ev) (hV : V.OK) : CallSound Try.prog (env V []) 46 ⟨sigpounceref16_kids_, pounceref16_kids_ V⟩ := by
  rw [← rawpounceref16_kids_ V]
  exact aFn_sound (E2 := (env V [])) (envOK V hV (callspounceref16_kids_ V) [] none (by kernel_rfl) (by kernel_rfl) (calls_cons ((cs_cons (soundpounceref16_holds_ V hV) cs_nil)) (calls_nil rfl)) its_nil) rfl rfl rfl (.inl rfl) Try.func46
theorem soundpounceref16_times_ (V : Ev) (hV : V.OK) : CallSound Try.prog (env V []) 66 ⟨sigpounceref16_times_, pounceref16_times_ V⟩ := by
  rw [← rawpounceref16_times_ V]
  exact aFn_sound (E2 := (env V [])) (envOK V hV (callspounceref16_times_ V) [] none (by kernel_rfl) (by kernel_rfl) (calls_nil rfl) its_nil) rfl rfl rfl (.inl rfl) Try.func66
theorem soundpounceref16_has_ (V : Ev) (hV : V.OK) : CallSound Try.prog (env V []) 67 ⟨sigpounceref16_has_, pounceref16_has_ V⟩ := by
  rw [← rawpounceref16_has_ V]
  exact aFn_sound (E2 := (env V [])) (envOK V hV (callspounceref16_has_ V) [] none (by kernel_rfl) (by kernel_rfl) (calls_nil rfl) its_nil) rfl rfl rfl (.inl rfl) Try.func67
theorem soundpounceref16_placed_ (V : Ev) (hV : V.OK) : CallSound Try.prog (env V []) 47 ⟨sigpounceref16_placed_, pounceref16_placed_ V⟩ := by
  rw [← rawpounceref16_placed_ V]
  exact aFn_sound (E2 := (env V [])) (envOK V hV (callspounceref16_placed_ V) [] none (by kernel_rfl) (by kernel_rfl) (calls_cons ((cs_cons (soundpounceref16_holds_ V hV) cs_nil)) (calls_cons ((cs_cons (soundpounceref16_times_ V hV) cs_nil)) (calls_cons ((cs_cons (soundpounceref16_has_ V hV) cs_nil)) (calls_nil rfl)))) its_nil) rfl rfl rfl (.inl rfl) Try.func47
theorem soundpounceref16_ends_ (V : Ev) (hV : V.OK) : CallSound Try.prog (env V []) 48 ⟨sigpounceref16_ends_, pounceref16_ends_ V⟩ := by
  rw [← rawpounceref16_ends_ V]
  exact aFn_sound (E2 := (env V [])) (envOK V hV (callspounceref16_ends_ V) [] none (by kernel_rfl) (by kernel_rfl) (calls_nil rfl) its_nil) rfl rfl rfl (.inl rfl) Try.func48
theorem soundpounceref16_Check_ (V : Ev) (hV : V.OK) : CallSound Try.prog (env V []) 16 ⟨sigpounceref16_Check_, pounceref16_Check_ V⟩ := by
  rw [← rawpounceref16_Check_ V]
  exact aFn_sound (E2 := (env V [])) (envOK V hV (callspounceref16_Check_ V) [] none (by kernel_rfl) (by kernel_rfl) (calls_cons ((cs_cons (soundpounceref16_May_ V hV) cs_nil)) (calls_cons ((cs_cons (soundpounceref16_kids_ V hV) cs_nil)) (calls_cons ((cs_cons (soundpounceref16_placed_ V hV) cs_nil)) (calls_cons ((cs_cons (soundpounceref16_ends_ V hV) cs_nil)) (calls_nil rfl))))) its_nil) rfl rfl rfl (.inl rfl) Try.func16
theorem soundpounceref16_There_ (V : Ev) (hV : V.OK) : CallSound Try.prog (env V []) 41 ⟨sigpounceref16_There_, pounceref16_There_ V⟩ := by
  rw [← rawpounceref16_There_ V]
  exact aFn_sound (E2 := (env V [])) (envOK V hV (callspounceref16_There_ V) [] none (by kernel_rfl) (by kernel_rfl) (calls_cons ((cs_cons (soundpounceref16_Check_ V hV) cs_nil)) (calls_nil rfl)) its_nil) rfl rfl rfl (.inl rfl) Try.func41
theorem soundpounceref16_find_ (V : Ev) (hV : V.OK) : CallSound Try.prog (env V []) 42 ⟨sigpounceref16_find_, pounceref16_find_ V⟩ := by
  rw [← rawpounceref16_find_ V]
  exact aFn_sound (E2 := (env V [])) (envOK V hV (callspounceref16_find_ V) [] none (by kernel_rfl) (by kernel_rfl) (calls_nil rfl) its_nil) rfl rfl rfl (.inl rfl) Try.func42
theorem soundpounceref16_Attr_ (V : Ev) (hV : V.OK) : CallSound Try.prog (env V []) 14 ⟨sigpounceref16_Attr_, pounceref16_Attr_ V⟩ := by
  rw [← rawpounceref16_Attr_ V]
  exact aFn_sound (E2 := (env V [])) (envOK V hV (callspounceref16_Attr_ V) [] none (by kernel_rfl) (by kernel_rfl) (calls_cons ((cs_cons (soundpounceref16_There_ V hV) cs_nil)) (calls_cons ((cs_cons (soundpounceref16_find_ V hV) cs_nil)) (calls_nil rfl))) its_nil) rfl rfl rfl (.inl rfl) Try.func14
theorem soundpounceref16_down_B (V : Ev) (hV : V.OK) (self : (sigpounceref16_down_).In → Option (sigpounceref16_down_).Out) (h : CallSound Try.prog (env V []) 52 ⟨sigpounceref16_down_, self⟩) : CallSound Try.prog (env V []) 52 ⟨sigpounceref16_down_, pounceref16_down_B V self⟩ := by
  rw [← rawpounceref16_down_ V self]
  exact aFn_sound (E2 := (env V [])) (envOK V hV (callspounceref16_down_ V self) [] none (by kernel_rfl) (by kernel_rfl) (calls_cons ((cs_cons h cs_nil)) (calls_nil rfl)) its_nil) rfl rfl rfl (.inl rfl) Try.func52
theorem soundpounceref16_down_N (V : Ev) (hV : V.OK) : ∀ m, CallSound Try.prog (env V []) 52 ⟨sigpounceref16_down_, pounceref16_down_N V m⟩
  | 0 => CallSound.none
  | m + 1 => soundpounceref16_down_B V hV _ (soundpounceref16_down_N V hV m)
theorem soundpounceref16_down_ (V : Ev) (hV : V.OK) : CallSound Try.prog (env V []) 52 ⟨sigpounceref16_down_, pounceref16_down_ V⟩ := CallSound.rc hV (soundpounceref16_down_N V hV)
theorem soundpounceref16_Below_ (V : Ev) (hV : V.OK) : CallSound Try.prog (env V []) 20 ⟨sigpounceref16_Below_, pounceref16_Below_ V⟩ := by
  rw [← rawpounceref16_Below_ V]
  exact aFn_sound (E2 := (env V [])) (envOK V hV (callspounceref16_Below_ V) [] none (by kernel_rfl) (by kernel_rfl) (calls_cons ((cs_cons (soundpounceref16_There_ V hV) cs_nil)) (calls_cons ((cs_cons (soundpounceref16_down_ V hV) cs_nil)) (calls_nil rfl))) its_nil) rfl rfl rfl (.inl rfl) Try.func20
theorem soundpounceref16_Text_ (V : Ev) (hV : V.OK) : CallSound Try.prog (env V []) 22 ⟨sigpounceref16_Text_, pounceref16_Text_ V⟩ := by
  rw [← rawpounceref16_Text_ V]
  exact aFn_sound (E2 := (env V [])) (envOK V hV (callspounceref16_Text_ V) [] none (by kernel_rfl) (by kernel_rfl) (calls_cons ((cs_cons (soundpounceref16_Below_ V hV) cs_nil)) (calls_nil rfl)) its_nil) rfl rfl rfl (.inl rfl) Try.func22
theorem soundpounceref16_under_ (V : Ev) (hV : V.OK) : CallSound Try.prog (env V []) 55 ⟨sigpounceref16_under_, pounceref16_under_ V⟩ := by
  rw [← rawpounceref16_under_ V]
  exact aFn_sound (E2 := (env V [])) (envOK V hV (callspounceref16_under_ V) [] none (by kernel_rfl) (by kernel_rfl) (calls_nil rfl) its_nil) rfl rfl rfl (.inl rfl) Try.func55
theorem soundpounceref16_In_ (V : Ev) (hV : V.OK) : CallSound Try.prog (env V []) 24 ⟨sigpounceref16_In_, pounceref16_In_ V⟩ := by
  rw [← rawpounceref16_In_ V]
  exact aFn_sound (E2 := (env V [])) (envOK V hV (callspounceref16_In_ V) [] none (by kernel_rfl) (by kernel_rfl) (calls_cons ((cs_cons (soundpounceref16_There_ V hV) cs_nil)) (calls_cons ((cs_cons (soundpounceref16_under_ V hV) cs_nil)) (calls_nil rfl))) its_nil) rfl rfl rfl (.inl rfl) Try.func24
theorem soundpounceref14_Attrs_ (V : Ev) (hV : V.OK) : CallSound Try.prog (env V []) 58 ⟨sigpounceref14_Attrs_, pounceref14_Attrs_ V⟩ := by
  rw [← rawpounceref14_Attrs_ V]
  exact aFn_sound (E2 := (env V [])) (envOK V hV (callspounceref14_Attrs_ V) [] none (by kernel_rfl) (by kernel_rfl) (calls_nil rfl) its_nil) rfl rfl rfl (.inl rfl) Try.func58
theorem soundpounceref16_One_ (V : Ev) (hV : V.OK) : CallSound Try.prog (env V []) 31 ⟨sigpounceref16_One_, pounceref16_One_ V⟩ := by
  rw [← rawpounceref16_One_ V]
  exact aFn_sound (E2 := (env V [])) (envOK V hV (callspounceref16_One_ V) [] none (by kernel_rfl) (by kernel_rfl) (calls_cons ((cs_cons (soundpounceref01_Ints_ V hV) cs_nil)) (calls_cons ((cs_cons (soundpounceref14_Attrs_ V hV) cs_nil)) (calls_nil rfl))) its_nil) rfl rfl rfl (.inl rfl) Try.func31
theorem soundpounceref16_Same_ (V : Ev) (hV : V.OK) : CallSound Try.prog (env V []) 25 ⟨sigpounceref16_Same_, pounceref16_Same_ V⟩ := by
  rw [← rawpounceref16_Same_ V]
  exact aFn_sound (E2 := (env V [])) (envOK V hV (callspounceref16_Same_ V) [] none (by kernel_rfl) (by kernel_rfl) (calls_cons ((cs_cons (soundpounceref16_One_ V hV) cs_nil)) (calls_nil rfl)) its_nil) rfl rfl rfl (.inl rfl) Try.func25
theorem soundpouncelaw16_DomChecks_ (V : Ev) (hV : V.OK) : CallSound Try.prog (env V []) 3 ⟨sigpouncelaw16_DomChecks_, pouncelaw16_DomChecks_ V⟩ := by
  rw [← rawpouncelaw16_DomChecks_ V]
  exact aFn_sound (E2 := (env V [])) (envOK V hV (callspouncelaw16_DomChecks_ V) [] none (by kernel_rfl) (by kernel_rfl) (calls_cons ((cs_cons (soundpounceref16_Big_ V hV) cs_nil)) (calls_cons ((cs_cons (soundpounceref16_Own_ V hV) cs_nil)) (calls_cons ((cs_cons (sounddom_Attr_ V hV) cs_nil)) (calls_cons ((cs_cons (soundpounceref16_Attr_ V hV) cs_nil)) (calls_cons ((cs_cons (sounddom_Check_ V hV) cs_nil)) (calls_cons ((cs_cons (soundpounceref16_Check_ V hV) cs_nil)) (calls_cons ((cs_cons (soundpouncelaw16_lays_ V hV) cs_nil)) (calls_cons ((cs_cons (soundpounceref01_Ints_ V hV) cs_nil)) (calls_cons ((cs_cons (sounddom_Below_ V hV) cs_nil)) (calls_cons ((cs_cons (soundpounceref16_Below_ V hV) cs_nil)) (calls_cons ((cs_cons (sounddom_Text_ V hV) cs_nil)) (calls_cons ((cs_cons (soundpounceref16_Text_ V hV) cs_nil)) (calls_cons ((cs_cons (sounddom_In_ V hV) cs_nil)) (calls_cons ((cs_cons (soundpounceref16_In_ V hV) cs_nil)) (calls_cons ((cs_cons (soundpounceref16_Same_ V hV) cs_nil)) (calls_nil rfl)))))))))))))))) its_nil) rfl rfl rfl (.inl rfl) Try.func3
theorem soundpounceref16_Make_ (V : Ev) (hV : V.OK) : CallSound Try.prog (env V []) 29 ⟨sigpounceref16_Make_, pounceref16_Make_ V⟩ := by
  rw [← rawpounceref16_Make_ V]
  exact aFn_sound (E2 := (env V [])) (envOK V hV (callspounceref16_Make_ V) [] none (by kernel_rfl) (by kernel_rfl) (calls_cons ((cs_cons (soundpounceref16_Own_ V hV) cs_nil)) (calls_cons ((cs_cons (soundpounceref16_Check_ V hV) cs_nil)) (calls_cons ((cs_cons (soundpounceref16_OwnNode_ V hV) cs_nil)) (calls_cons ((cs_cons (soundpounceref16_May_ V hV) cs_nil)) (calls_nil rfl))))) its_nil) rfl rfl rfl (.inl rfl) Try.func29
theorem soundpouncelaw16_smudge_af3 (V : Ev) (hV : V.OK) : CallSound Try.prog (env V []) 30 ⟨sigpouncelaw16_smudge_af3, pouncelaw16_smudge_af3 V⟩ := by
  rw [← rawpouncelaw16_smudge_af3 V]
  exact aFn_sound (E2 := (env V [])) (envOK V hV (callspouncelaw16_smudge_af3 V) [] none (by kernel_rfl) (by kernel_rfl) (calls_nil rfl) its_nil) rfl rfl rfl (.inl rfl) Try.func30
theorem soundpouncelaw16_DomMakes_ (V : Ev) (hV : V.OK) : CallSound Try.prog (env V []) 4 ⟨sigpouncelaw16_DomMakes_, pouncelaw16_DomMakes_ V⟩ := by
  rw [← rawpouncelaw16_DomMakes_ V]
  exact aFn_sound (E2 := (env V [])) (envOK V hV (callspouncelaw16_DomMakes_ V) [] none (by kernel_rfl) (by kernel_rfl) (calls_cons ((cs_cons (soundpounceref16_Big_ V hV) cs_nil)) (calls_cons ((cs_cons (soundpounceref16_Own_ V hV) cs_nil)) (calls_cons ((cs_cons (soundpouncelaw16_lays_ V hV) cs_nil)) (calls_cons ((cs_cons (soundpounceref16_Same_ V hV) cs_nil)) (calls_cons ((cs_cons (soundpounceref16_BigNode_ V hV) cs_nil)) (calls_cons ((cs_cons (soundpounceref16_OwnNode_ V hV) cs_nil)) (calls_cons ((cs_cons (sounddom_Make_ V hV) cs_nil)) (calls_cons ((cs_cons (soundpounceref16_Make_ V hV) cs_nil)) (calls_cons ((cs_cons (soundpouncelaw16_smudge_af3 V hV) cs_nil)) (calls_cons ((cs_cons (soundpounceref16_One_ V hV) cs_nil)) (calls_nil rfl))))))))))) its_nil) rfl rfl rfl (.inl rfl) Try.func4
theorem soundpounceref16_Out_ (V : Ev) (hV : V.OK) : CallSound Try.prog (env V []) 63 ⟨sigpounceref16_Out_, pounceref16_Out_ V⟩ := by
  rw [← rawpounceref16_Out_ V]
  exact aFn_sound (E2 := (env V [])) (envOK V hV (callspounceref16_Out_ V) [] none (by kernel_rfl) (by kernel_rfl) (calls_cons ((cs_cons (soundpounceref16_Own_ V hV) cs_nil)) (calls_nil rfl)) its_nil) rfl rfl rfl (.inl rfl) Try.func63
theorem soundpounceref16_Put_ (V : Ev) (hV : V.OK) : CallSound Try.prog (env V []) 33 ⟨sigpounceref16_Put_, pounceref16_Put_ V⟩ := by
  rw [← rawpounceref16_Put_ V]
  exact aFn_sound (E2 := (env V [])) (envOK V hV (callspounceref16_Put_ V) [] none (by kernel_rfl) (by kernel_rfl) (calls_cons ((cs_cons (soundpounceref16_Check_ V hV) cs_nil)) (calls_cons ((cs_cons (soundpounceref16_under_ V hV) cs_nil)) (calls_cons ((cs_cons (soundpounceref16_holds_ V hV) cs_nil)) (calls_cons ((cs_cons (soundpounceref16_Out_ V hV) cs_nil)) (calls_nil rfl))))) its_nil) rfl rfl rfl (.inl rfl) Try.func33
theorem soundpounceref16_Cut_ (V : Ev) (hV : V.OK) : CallSound Try.prog (env V []) 35 ⟨sigpounceref16_Cut_, pounceref16_Cut_ V⟩ := by
  rw [← rawpounceref16_Cut_ V]
  exact aFn_sound (E2 := (env V [])) (envOK V hV (callspounceref16_Cut_ V) [] none (by kernel_rfl) (by kernel_rfl) (calls_cons ((cs_cons (soundpounceref16_Check_ V hV) cs_nil)) (calls_cons ((cs_cons (soundpounceref16_Out_ V hV) cs_nil)) (calls_nil rfl))) its_nil) rfl rfl rfl (.inl rfl) Try.func35
theorem soundpouncelaw16_DomMoves_ (V : Ev) (hV : V.OK) : CallSound Try.prog (env V []) 5 ⟨sigpouncelaw16_DomMoves_, pouncelaw16_DomMoves_ V⟩ := by
  rw [← rawpouncelaw16_DomMoves_ V]
  exact aFn_sound (E2 := (env V [])) (envOK V hV (callspouncelaw16_DomMoves_ V) [] none (by kernel_rfl) (by kernel_rfl) (calls_cons ((cs_cons (soundpounceref16_Big_ V hV) cs_nil)) (calls_cons ((cs_cons (soundpounceref16_Own_ V hV) cs_nil)) (calls_cons ((cs_cons (soundpouncelaw16_lays_ V hV) cs_nil)) (calls_cons ((cs_cons (soundpounceref16_Same_ V hV) cs_nil)) (calls_cons ((cs_cons (soundpouncelaw16_smudge_af3 V hV) cs_nil)) (calls_cons ((cs_cons (sounddom_Put_ V hV) cs_nil)) (calls_cons ((cs_cons (soundpounceref16_Put_ V hV) cs_nil)) (calls_cons ((cs_cons (sounddom_Cut_ V hV) cs_nil)) (calls_cons ((cs_cons (soundpounceref16_Cut_ V hV) cs_nil)) (calls_nil rfl)))))))))) its_nil) rfl rfl rfl (.inl rfl) Try.func5
theorem soundpounceref16_Set_ (V : Ev) (hV : V.OK) : CallSound Try.prog (env V []) 37 ⟨sigpounceref16_Set_, pounceref16_Set_ V⟩ := by
  rw [← rawpounceref16_Set_ V]
  exact aFn_sound (E2 := (env V [])) (envOK V hV (callspounceref16_Set_ V) [] none (by kernel_rfl) (by kernel_rfl) (calls_cons ((cs_cons (soundpounceref16_Own_ V hV) cs_nil)) (calls_cons ((cs_cons (soundpounceref16_Check_ V hV) cs_nil)) (calls_cons ((cs_cons (soundpounceref16_find_ V hV) cs_nil)) (calls_nil rfl)))) its_nil) rfl rfl rfl (.inl rfl) Try.func37
theorem soundpouncelaw16_DomSets_ (V : Ev) (hV : V.OK) : CallSound Try.prog (env V []) 6 ⟨sigpouncelaw16_DomSets_, pouncelaw16_DomSets_ V⟩ := by
  rw [← rawpouncelaw16_DomSets_ V]
  exact aFn_sound (E2 := (env V [])) (envOK V hV (callspouncelaw16_DomSets_ V) [] none (by kernel_rfl) (by kernel_rfl) (calls_cons ((cs_cons (soundpounceref16_Big_ V hV) cs_nil)) (calls_cons ((cs_cons (soundpounceref16_Own_ V hV) cs_nil)) (calls_cons ((cs_cons (soundpouncelaw16_lays_ V hV) cs_nil)) (calls_cons ((cs_cons (soundpounceref16_Same_ V hV) cs_nil)) (calls_cons ((cs_cons (soundpouncelaw16_smudge_af3 V hV) cs_nil)) (calls_cons ((cs_cons (sounddom_Set_ V hV) cs_nil)) (calls_cons ((cs_cons (soundpounceref16_Set_ V hV) cs_nil)) (calls_nil rfl)))))))) its_nil) rfl rfl rfl (.inl rfl) Try.func6
theorem soundpouncelaw16_DomRight_ (V : Ev) (hV : V.OK) : CallSound Try.prog (env V []) 7 ⟨sigpouncelaw16_DomRight_, pouncelaw16_DomRight_ V⟩ := by
  rw [← rawpouncelaw16_DomRight_ V]
  exact aFn_sound (E2 := (env V [])) (envOK V hV (callspouncelaw16_DomRight_ V) [] none (by kernel_rfl) (by kernel_rfl) (calls_cons ((cs_cons (soundpounceref16_Big_ V hV) cs_nil)) (calls_cons ((cs_cons (sounddom_Check_ V hV) cs_nil)) (calls_cons ((cs_cons (soundpouncelaw16_lays_ V hV) cs_nil)) (calls_cons ((cs_cons (soundpounceref16_BigNode_ V hV) cs_nil)) (calls_cons ((cs_cons (sounddom_Make_ V hV) cs_nil)) (calls_cons ((cs_cons (sounddom_Put_ V hV) cs_nil)) (calls_cons ((cs_cons (sounddom_Cut_ V hV) cs_nil)) (calls_cons ((cs_cons (sounddom_Set_ V hV) cs_nil)) (calls_cons ((cs_cons (sounddom_New_ V hV) cs_nil)) (calls_nil rfl)))))))))) its_nil) rfl rfl rfl (.inl rfl) Try.func7
theorem soundpouncelaw16_DomPlaces_ (V : Ev) (hV : V.OK) : CallSound Try.prog (env V []) 8 ⟨sigpouncelaw16_DomPlaces_, pouncelaw16_DomPlaces_ V⟩ := by
  rw [← rawpouncelaw16_DomPlaces_ V]
  exact aFn_sound (E2 := (env V [])) (envOK V hV (callspouncelaw16_DomPlaces_ V) [] none (by kernel_rfl) (by kernel_rfl) (calls_cons ((cs_cons (soundpounceref16_Big_ V hV) cs_nil)) (calls_cons ((cs_cons (soundpouncelaw16_lays_ V hV) cs_nil)) (calls_cons ((cs_cons (soundpounceref01_Ints_ V hV) cs_nil)) (calls_cons ((cs_cons (sounddom_Below_ V hV) cs_nil)) (calls_cons ((cs_cons (sounddom_Text_ V hV) cs_nil)) (calls_cons ((cs_cons (sounddom_In_ V hV) cs_nil)) (calls_cons ((cs_cons (sounddom_Put_ V hV) cs_nil)) (calls_cons ((cs_cons (sounddom_Cut_ V hV) cs_nil)) (calls_nil rfl))))))))) its_nil) rfl rfl rfl (.inl rfl) Try.func8
theorem soundpouncelaw16_DomAttrs_ (V : Ev) (hV : V.OK) : CallSound Try.prog (env V []) 9 ⟨sigpouncelaw16_DomAttrs_, pouncelaw16_DomAttrs_ V⟩ := by
  rw [← rawpouncelaw16_DomAttrs_ V]
  exact aFn_sound (E2 := (env V [])) (envOK V hV (callspouncelaw16_DomAttrs_ V) [] none (by kernel_rfl) (by kernel_rfl) (calls_cons ((cs_cons (soundpounceref16_Big_ V hV) cs_nil)) (calls_cons ((cs_cons (sounddom_Attr_ V hV) cs_nil)) (calls_cons ((cs_cons (soundpouncelaw16_lays_ V hV) cs_nil)) (calls_cons ((cs_cons (sounddom_Set_ V hV) cs_nil)) (calls_nil rfl))))) its_nil) rfl rfl rfl (.inl rfl) Try.func9
theorem soundpouncelaw16_DomTwice_ (V : Ev) (hV : V.OK) : CallSound Try.prog (env V []) 10 ⟨sigpouncelaw16_DomTwice_, pouncelaw16_DomTwice_ V⟩ := by
  rw [← rawpouncelaw16_DomTwice_ V]
  exact aFn_sound (E2 := (env V [])) (envOK V hV (callspouncelaw16_DomTwice_ V) [] none (by kernel_rfl) (by kernel_rfl) (calls_cons ((cs_cons (soundpounceref16_Big_ V hV) cs_nil)) (calls_cons ((cs_cons (soundpouncelaw16_lays_ V hV) cs_nil)) (calls_cons ((cs_cons (soundpounceref16_Same_ V hV) cs_nil)) (calls_cons ((cs_cons (sounddom_Put_ V hV) cs_nil)) (calls_cons ((cs_cons (sounddom_Cut_ V hV) cs_nil)) (calls_nil rfl)))))) its_nil) rfl rfl rfl (.inl rfl) Try.func10
end Go.En.Pl
