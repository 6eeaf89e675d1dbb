/- Text S of this seat: written by a program of ours, or by hand; checked by Lean. -/
import Derived.Test.YtgjenfhkjjdcoaaGreatDoorG
import Derived.Test.YtgjenfhkjjdcoaaGreatDoorLay
set_option linter.unusedVariables false
namespace Go.En.Pl
open Go.Proofs
theorem eqsOK : ∀ t, eqs.contains t = true → EqTy Tryz.prog t :=
  (eqs_cons ⟨by kernel_rfl, by kernel_rfl, by kernel_rfl, by kernel_rfl⟩ (eqs_cons ⟨by kernel_rfl, by kernel_rfl, by kernel_rfl, by kernel_rfl⟩ (eqs_cons ⟨by kernel_rfl, by kernel_rfl, by kernel_rfl, by kernel_rfl⟩ (eqs_cons ⟨by kernel_rfl, by kernel_rfl, by kernel_rfl, by kernel_rfl⟩ eqs_nil))))
theorem extsOK : ∀ f x, exts.lookup f = some x → ExtOK Tryz.prog f x :=
  (exts_cons (ext_indexByte Tryz.func148 (by kernel_rfl) (by kernel_rfl) (by kernel_rfl) (by kernel_rfl)) exts_nil)
theorem envOK (V : Ev) (hV : V.OK) (l : List (FuncId × List CSpec)) (il : List (FuncId × List ISpec)) (y : Option CSpec) (h1 : l.all (fun p => EnterOK Tryz.prog p.1) = true) (h1i : il.all (fun p => EnterOK Tryz.prog p.1) = true) (h2 : ∀ g s, s ∈ ((l.lookup g).getD []) → CallSound Tryz.prog (envI V [] [] y) g s) (h3 : ∀ f I, I ∈ ((il.lookup f).getD []) → ISound Tryz.prog (env V []) f I) : EnvOK Tryz.prog (envI V l il y) where
  types := TypesOK.of_tab rfl (tabOK V l il y) eqsOK
  calls := fun g s hs => (h2 g s hs).env rfl rfl rfl (.inr rfl)
  mixed := by kernel_rfl
  ext := fun f h => extsOK f _ h rfl
  it := hV.it
  lp0 := rfl
  its := fun f I hI Y => (h3 f I hI Y).env rfl rfl rfl (.inr rfl)
  enters := fun g h => h.elim (enters_of_all h1 g) (enters_of_all h1i g)

theorem soundistringslite_IndexByte_ (V : Ev) (hV : V.OK) : CallSound Tryz.prog (env V []) 98 ⟨sigistringslite_IndexByte_, istringslite_IndexByte_ V⟩ := by
  rw [← rawistringslite_IndexByte_ V]
  exact aFn_sound (E2 := (env V [])) (envOK V hV (callsistringslite_IndexByte_ V) [] none (by kernel_rfl) (by kernel_rfl) (calls_nil rfl) its_nil) rfl rfl rfl (.inl rfl) Tryz.func98
theorem soundstrings_IndexByte_ (V : Ev) (hV : V.OK) : CallSound Tryz.prog (env V []) 74 ⟨sigstrings_IndexByte_, strings_IndexByte_ V⟩ := by
  rw [← rawstrings_IndexByte_ V]
  exact aFn_sound (E2 := (env V [])) (envOK V hV (callsstrings_IndexByte_ V) [] none (by kernel_rfl) (by kernel_rfl) (calls_cons ((cs_cons (soundistringslite_IndexByte_ V hV) cs_nil)) (calls_nil rfl)) its_nil) rfl rfl rfl (.inl rfl) Tryz.func74
theorem soundstrings_Trim_ (V : Ev) : CallSound Tryz.prog (env V []) 99 ⟨sigstrings_Trim_, strings_Trim_ V⟩ := given_trim layTrim (by kernel_rfl)
theorem soundfold_Trim_ (V : Ev) (hV : V.OK) : CallSound Tryz.prog (env V []) 75 ⟨sigfold_Trim_, fold_Trim_ V⟩ := by
  rw [← rawfold_Trim_ V]
  exact aFn_sound (E2 := (env V [])) (envOK V hV (callsfold_Trim_ V) [] none (by kernel_rfl) (by kernel_rfl) (calls_cons ((cs_cons (soundstrings_Trim_ V) cs_nil)) (calls_nil rfl)) its_nil) rfl rfl rfl (.inl rfl) Tryz.func75
theorem soundfold_Parts_ (V : Ev) (hV : V.OK) : CallSound Tryz.prog (env V []) 56 ⟨sigfold_Parts_, fold_Parts_ V⟩ := by
  rw [← rawfold_Parts_ V]
  exact aFn_sound (E2 := (env V [])) (envOK V hV (callsfold_Parts_ V) [] none (by kernel_rfl) (by kernel_rfl) (calls_cons ((cs_cons (soundstrings_IndexByte_ V hV) cs_nil)) (calls_cons ((cs_cons (soundfold_Trim_ V hV) cs_nil)) (calls_nil rfl))) its_nil) rfl rfl rfl (.inl rfl) Tryz.func56
theorem soundheader_directives_567 (V : Ev) (hV : V.OK) : CallSound Tryz.prog (env V []) 57 ⟨sigheader_directives_567, header_directives_567 V⟩ := by
  rw [← rawheader_directives_567 V]
  exact aFn_sound (E2 := (env V [])) (envOK V hV (callsheader_directives_567 V) [] none (by kernel_rfl) (by kernel_rfl) (calls_nil rfl) its_nil) rfl rfl rfl (.inl rfl) Tryz.func57
theorem soundfold_Lower_ (V : Ev) (hV : V.OK) : CallSound Tryz.prog (env V []) 53 ⟨sigfold_Lower_, fold_Lower_ V⟩ := by
  rw [← rawfold_Lower_ V]
  exact aFn_sound (E2 := (env V [])) (envOK V hV (callsfold_Lower_ V) [] none (by kernel_rfl) (by kernel_rfl) (calls_nil rfl) its_nil) rfl rfl rfl (.inl rfl) Tryz.func53
theorem soundslices_Clone__string_string_ (V : Ev) (hV : V.OK) : CallSound Tryz.prog (env V []) 54 ⟨sigslices_Clone__string_string_, slices_Clone__string_string_ V⟩ := by
  rw [← rawslices_Clone__string_string_ V]
  exact aFn_sound (E2 := (env V [])) (envOK V hV (callsslices_Clone__string_string_ V) [] none (by kernel_rfl) (by kernel_rfl) (calls_nil rfl) its_nil) rfl rfl rfl (.inl rfl) Tryz.func54
theorem soundheader_Find_ (V : Ev) (hV : V.OK) : CallSound Tryz.prog (env V []) 32 ⟨sigheader_Find_, header_Find_ V⟩ := by
  rw [← rawheader_Find_ V]
  exact aFn_sound (E2 := (env V [])) (envOK V hV (callsheader_Find_ V) [] none (by kernel_rfl) (by kernel_rfl) (calls_cons ((cs_cons (soundfold_Lower_ V hV) cs_nil)) (calls_cons ((cs_cons (soundslices_Clone__string_string_ V hV) cs_nil)) (calls_nil rfl))) its_nil) rfl rfl rfl (.inl rfl) Tryz.func32
theorem soundfold_set_has_ (V : Ev) (hV : V.OK) : CallSound Tryz.prog (env V []) 100 ⟨sigfold_set_has_, fold_set_has_ V⟩ := by
  rw [← rawfold_set_has_ V]
  exact aFn_sound (E2 := (env V [])) (envOK V hV (callsfold_set_has_ V) [] none (by kernel_rfl) (by kernel_rfl) (calls_cons ((cs_cons (soundstrings_IndexByte_ V hV) cs_nil)) (calls_nil rfl)) its_nil) rfl rfl rfl (.inl rfl) Tryz.func100
theorem soundstrings_FieldsFunc_25a (V : Ev) (hV : V.OK) : CallSound Tryz.prog (env V []) 101 ⟨sigstrings_FieldsFunc_25a, strings_FieldsFunc_25a V⟩ := by
  rw [← rawstrings_FieldsFunc_25a V]
  exact aFn_sound (E2 := (env V [])) (envOK V hV (callsstrings_FieldsFunc_25a V) [] none (by kernel_rfl) (by kernel_rfl) (calls_cons ((cs_cons (soundfold_set_has_ V hV) cs_nil)) (calls_nil rfl)) its_nil) rfl rfl rfl (.inl rfl) Tryz.func101
theorem soundfold_Words_ (V : Ev) (hV : V.OK) : CallSound Tryz.prog (env V []) 77 ⟨sigfold_Words_, fold_Words_ V⟩ := by
  rw [← rawfold_Words_ V]
  exact aFn_sound (E2 := (env V [])) (envOK V hV (callsfold_Words_ V) [] none (by kernel_rfl) (by kernel_rfl) (calls_cons ((cs_cons (soundstrings_FieldsFunc_25a V hV) cs_nil)) (calls_nil rfl)) its_nil) rfl rfl rfl (.inl rfl) Tryz.func77
theorem soundheader_word_1_ (V : Ev) (hV : V.OK) : CallSound Tryz.prog (env V []) 104 ⟨sigheader_word_1_, header_word_1_ V⟩ := by
  rw [← rawheader_word_1_ V]
  exact aFn_sound (E2 := (env V [])) (envOK V hV (callsheader_word_1_ V) [] none (by kernel_rfl) (by kernel_rfl) (calls_nil rfl) its_nil) rfl rfl rfl (.inl rfl) Tryz.func104
theorem soundheader_all_baf (V : Ev) (hV : V.OK) : CallSound Tryz.prog (env V []) 103 ⟨sigheader_all_baf, header_all_baf V⟩ := by
  rw [← rawheader_all_baf V]
  exact aFn_sound (E2 := (env V [])) (envOK V hV (callsheader_all_baf V) [] none (by kernel_rfl) (by kernel_rfl) (calls_cons ((cs_cons (soundheader_word_1_ V hV) cs_nil)) (calls_nil rfl)) its_nil) rfl rfl rfl (.inl rfl) Tryz.func103
theorem soundheader_word_ (V : Ev) (hV : V.OK) : CallSound Tryz.prog (env V []) 80 ⟨sigheader_word_, header_word_ V⟩ := by
  rw [← rawheader_word_ V]
  exact aFn_sound (E2 := (env V [])) (envOK V hV (callsheader_word_ V) [] none (by kernel_rfl) (by kernel_rfl) (calls_cons ((cs_cons (soundheader_all_baf V hV) cs_nil)) (calls_nil rfl)) its_nil) rfl rfl rfl (.inl rfl) Tryz.func80
theorem soundheader_directives_1_1_ (V : Ev) (hV : V.OK) : CallSound Tryz.prog (env V []) 79 ⟨sigheader_directives_1_1_, header_directives_1_1_ V⟩ := by
  rw [← rawheader_directives_1_1_ V]
  exact aFn_sound (E2 := (env V [])) (envOK V hV (callsheader_directives_1_1_ V) [] none (by kernel_rfl) (by kernel_rfl) (calls_cons ((cs_cons (soundheader_word_ V hV) cs_nil)) (calls_nil rfl)) its_nil) rfl rfl rfl (.inl rfl) Tryz.func79
theorem soundslices_IndexFunc__string_string_7e9 (V : Ev) (hV : V.OK) : CallSound Tryz.prog (env V []) 102 ⟨sigslices_IndexFunc__string_string_7e9, slices_IndexFunc__string_string_7e9 V⟩ := by
  rw [← rawslices_IndexFunc__string_string_7e9 V]
  exact aFn_sound (E2 := (env V [])) (envOK V hV (callsslices_IndexFunc__string_string_7e9 V) [] none (by kernel_rfl) (by kernel_rfl) (calls_cons ((cs_cons (soundheader_directives_1_1_ V hV) cs_nil)) (calls_nil rfl)) its_nil) rfl rfl rfl (.inl rfl) Tryz.func102
theorem soundslices_DeleteFunc__string_string_80a (V : Ev) (hV : V.OK) : CallSound Tryz.prog (env V []) 78 ⟨sigslices_DeleteFunc__string_string_80a, slices_DeleteFunc__string_string_80a V⟩ := by
  rw [← rawslices_DeleteFunc__string_string_80a V]
  exact aFn_sound (E2 := (env V [])) (envOK V hV (callsslices_DeleteFunc__string_string_80a V) [] none (by kernel_rfl) (by kernel_rfl) (calls_cons ((cs_cons (soundheader_directives_1_1_ V hV) cs_nil)) (calls_cons ((cs_cons (soundslices_IndexFunc__string_string_7e9 V hV) cs_nil)) (calls_nil rfl))) its_nil) rfl rfl rfl (.inl rfl) Tryz.func78
theorem soundheader_named_1_ (V : Ev) (hV : V.OK) : CallSound Tryz.prog (env V []) 105 ⟨sigheader_named_1_, header_named_1_ V⟩ := by
  rw [← rawheader_named_1_ V]
  exact aFn_sound (E2 := (env V [])) (envOK V hV (callsheader_named_1_ V) [] none (by kernel_rfl) (by kernel_rfl) (calls_nil rfl) its_nil) rfl rfl rfl (.inl rfl) Tryz.func105
theorem soundheader_all_c41 (V : Ev) (hV : V.OK) : CallSound Tryz.prog (env V []) 103 ⟨sigheader_all_c41, header_all_c41 V⟩ := by
  rw [← rawheader_all_c41 V]
  exact aFn_sound (E2 := (env V [])) (envOK V hV (callsheader_all_c41 V) [] none (by kernel_rfl) (by kernel_rfl) (calls_cons ((cs_cons (soundheader_named_1_ V hV) cs_nil)) (calls_nil rfl)) its_nil) rfl rfl rfl (.inl rfl) Tryz.func103
theorem soundheader_named_ (V : Ev) (hV : V.OK) : CallSound Tryz.prog (env V []) 81 ⟨sigheader_named_, header_named_ V⟩ := by
  rw [← rawheader_named_ V]
  exact aFn_sound (E2 := (env V [])) (envOK V hV (callsheader_named_ V) [] none (by kernel_rfl) (by kernel_rfl) (calls_cons ((cs_cons (soundheader_all_c41 V hV) cs_nil)) (calls_nil rfl)) its_nil) rfl rfl rfl (.inl rfl) Tryz.func81
theorem soundheader_directives_1_f2e (V : Ev) (hV : V.OK) (Y : (sigY8870).In → Option (sigY8870).Out) : CallSound Tryz.prog (envI V [] [] (some ⟨sigY8870, Y⟩)) 76 ⟨sigheader_directives_1_f2e, header_directives_1_f2e V Y⟩ := by
  rw [← rawheader_directives_1_f2e V Y]
  exact aFn_sound (E2 := (envI V [] [] (some ⟨sigY8870, Y⟩))) (envOK V hV (callsheader_directives_1_f2e V Y) [] (some ⟨sigY8870, Y⟩) (by kernel_rfl) (by kernel_rfl) (calls_cons ((cs_cons ((soundfold_Lower_ V hV).env rfl rfl rfl (.inl rfl)) cs_nil)) (calls_cons ((cs_cons ((soundfold_Parts_ V hV).env rfl rfl rfl (.inl rfl)) cs_nil)) (calls_cons ((cs_cons ((soundfold_Words_ V hV).env rfl rfl rfl (.inl rfl)) cs_nil)) (calls_cons ((cs_cons ((soundslices_DeleteFunc__string_string_80a V hV).env rfl rfl rfl (.inl rfl)) cs_nil)) (calls_cons ((cs_cons ((soundheader_named_ V hV).env rfl rfl rfl (.inl rfl)) cs_nil)) (calls_nil rfl)))))) its_nil) rfl rfl rfl (.inr ⟨rfl, _, rfl⟩) Tryz.func76
theorem soundheader_Parse_ (V : Ev) (hV : V.OK) : CallSound Tryz.prog (env V []) 38 ⟨sigheader_Parse_, header_Parse_ V⟩ := by
  rw [← rawheader_Parse_ V]
  exact aFn_sound (E2 := (env V [])) (envOK V hV (callsheader_Parse_ V) (itsheader_Parse_ V) none (by kernel_rfl) (by kernel_rfl) (calls_cons ((cs_cons (soundheader_Find_ V hV) cs_nil)) (calls_cons ((cs_cons (soundfold_Parts_ V hV) cs_nil)) (calls_cons ((cs_cons (soundheader_directives_567 V hV) cs_nil)) (calls_nil rfl)))) (its_cons (itl_cons (soundheader_directives_1_f2e V hV) itl_nil) its_nil)) rfl rfl rfl (.inl rfl) Tryz.func38
theorem soundslices_All__api_Policy_api_Policy_328 (V : Ev) (hV : V.OK) : CallSound Tryz.prog (env V []) 52 ⟨sigslices_All__api_Policy_api_Policy_328, slices_All__api_Policy_api_Policy_328 V⟩ := by
  rw [← rawslices_All__api_Policy_api_Policy_328 V]
  exact aFn_sound (E2 := (env V [])) (envOK V hV (callsslices_All__api_Policy_api_Policy_328 V) [] none (by kernel_rfl) (by kernel_rfl) (calls_nil rfl) its_nil) rfl rfl rfl (.inl rfl) Tryz.func52
theorem soundchain_Names_ (V : Ev) (hV : V.OK) : CallSound Tryz.prog (env V []) 21 ⟨sigchain_Names_, chain_Names_ V⟩ := by
  rw [← rawchain_Names_ V]
  exact aFn_sound (E2 := (env V [])) (envOK V hV (callschain_Names_ V) [] none (by kernel_rfl) (by kernel_rfl) (calls_nil rfl) its_nil) rfl rfl rfl (.inl rfl) Tryz.func21
theorem soundistringslite_HasPrefix_ (V : Ev) (hV : V.OK) : CallSound Tryz.prog (env V []) 156 ⟨sigistringslite_HasPrefix_, istringslite_HasPrefix_ V⟩ := by
  rw [← rawistringslite_HasPrefix_ V]
  exact aFn_sound (E2 := (env V [])) (envOK V hV (callsistringslite_HasPrefix_ V) [] none (by kernel_rfl) (by kernel_rfl) (calls_nil rfl) its_nil) rfl rfl rfl (.inl rfl) Tryz.func156
theorem soundstrings_HasPrefix_ (V : Ev) (hV : V.OK) : CallSound Tryz.prog (env V []) 106 ⟨sigstrings_HasPrefix_, strings_HasPrefix_ V⟩ := by
  rw [← rawstrings_HasPrefix_ V]
  exact aFn_sound (E2 := (env V [])) (envOK V hV (callsstrings_HasPrefix_ V) [] none (by kernel_rfl) (by kernel_rfl) (calls_cons ((cs_cons (soundistringslite_HasPrefix_ V hV) cs_nil)) (calls_nil rfl)) its_nil) rfl rfl rfl (.inl rfl) Tryz.func106
theorem soundistringslite_HasSuffix_ (V : Ev) (hV : V.OK) : CallSound Tryz.prog (env V []) 209 ⟨sigistringslite_HasSuffix_, istringslite_HasSuffix_ V⟩ := by
  rw [← rawistringslite_HasSuffix_ V]
  exact aFn_sound (E2 := (env V [])) (envOK V hV (callsistringslite_HasSuffix_ V) [] none (by kernel_rfl) (by kernel_rfl) (calls_nil rfl) its_nil) rfl rfl rfl (.inl rfl) Tryz.func209
theorem soundistringslite_TrimSuffix_ (V : Ev) (hV : V.OK) : CallSound Tryz.prog (env V []) 216 ⟨sigistringslite_TrimSuffix_, istringslite_TrimSuffix_ V⟩ := by
  rw [← rawistringslite_TrimSuffix_ V]
  exact aFn_sound (E2 := (env V [])) (envOK V hV (callsistringslite_TrimSuffix_ V) [] none (by kernel_rfl) (by kernel_rfl) (calls_cons ((cs_cons (soundistringslite_HasSuffix_ V hV) cs_nil)) (calls_nil rfl)) its_nil) rfl rfl rfl (.inl rfl) Tryz.func216
theorem soundstrings_TrimSuffix_ (V : Ev) (hV : V.OK) : CallSound Tryz.prog (env V []) 196 ⟨sigstrings_TrimSuffix_, strings_TrimSuffix_ V⟩ := by
  rw [← rawstrings_TrimSuffix_ V]
  exact aFn_sound (E2 := (env V [])) (envOK V hV (callsstrings_TrimSuffix_ V) [] none (by kernel_rfl) (by kernel_rfl) (calls_cons ((cs_cons (soundistringslite_TrimSuffix_ V hV) cs_nil)) (calls_nil rfl)) its_nil) rfl rfl rfl (.inl rfl) Tryz.func196
theorem soundbase_head_ (V : Ev) (hV : V.OK) : CallSound Tryz.prog (env V []) 157 ⟨sigbase_head_, base_head_ V⟩ := by
  rw [← rawbase_head_ V]
  exact aFn_sound (E2 := (env V [])) (envOK V hV (callsbase_head_ V) [] none (by kernel_rfl) (by kernel_rfl) (calls_cons ((cs_cons (soundstrings_TrimSuffix_ V hV) cs_nil)) (calls_nil rfl)) its_nil) rfl rfl rfl (.inl rfl) Tryz.func157
theorem soundbase_value_ (V : Ev) (hV : V.OK) : CallSound Tryz.prog (env V []) 158 ⟨sigbase_value_, base_value_ V⟩ := by
  rw [← rawbase_value_ V]
  exact aFn_sound (E2 := (env V [])) (envOK V hV (callsbase_value_ V) [] none (by kernel_rfl) (by kernel_rfl) (calls_cons ((cs_cons (soundstrings_IndexByte_ V hV) cs_nil)) (calls_nil rfl)) its_nil) rfl rfl rfl (.inl rfl) Tryz.func158
theorem soundbase_Form_ (V : Ev) (hV : V.OK) : CallSound Tryz.prog (env V []) 111 ⟨sigbase_Form_, base_Form_ V⟩ := by
  rw [← rawbase_Form_ V]
  exact aFn_sound (E2 := (env V [])) (envOK V hV (callsbase_Form_ V) [] none (by kernel_rfl) (by kernel_rfl) (calls_cons ((cs_cons (soundbase_head_ V hV) cs_nil)) (calls_cons ((cs_cons (soundbase_value_ V hV) cs_nil)) (calls_nil rfl))) its_nil) rfl rfl rfl (.inl rfl) Tryz.func111
theorem soundbase_Decode_ (V : Ev) (hV : V.OK) : CallSound Tryz.prog (env V []) 107 ⟨sigbase_Decode_, base_Decode_ V⟩ := by
  rw [← rawbase_Decode_ V]
  exact aFn_sound (E2 := (env V [])) (envOK V hV (callsbase_Decode_ V) [] none (by kernel_rfl) (by kernel_rfl) (calls_cons ((cs_cons (soundbase_Form_ V hV) cs_nil)) (calls_cons ((cs_cons (soundbase_head_ V hV) cs_nil)) (calls_cons ((cs_cons (soundbase_value_ V hV) cs_nil)) (calls_nil rfl)))) its_nil) rfl rfl rfl (.inl rfl) Tryz.func107
theorem soundsource_cutter_quoted_2b7 (V : Ev) (hV : V.OK) : CallSound Tryz.prog (env V []) 82 ⟨sigsource_cutter_quoted_2b7, source_cutter_quoted_2b7 V⟩ := by
  rw [← rawsource_cutter_quoted_2b7 V]
  exact aFn_sound (E2 := (env V [])) (envOK V hV (callssource_cutter_quoted_2b7 V) [] none (by kernel_rfl) (by kernel_rfl) (calls_cons ((cs_cons (soundfold_Lower_ V hV) cs_nil)) (calls_cons ((cs_cons (soundstrings_HasPrefix_ V hV) cs_nil)) (calls_cons ((cs_cons (soundbase_Decode_ V hV) cs_nil)) (calls_nil rfl)))) its_nil) rfl rfl rfl (.inl rfl) Tryz.func82
theorem soundistringslite_Index_ (V : Ev) : CallSound Tryz.prog (env V []) 197 ⟨sigistringslite_Index_, istringslite_Index_ V⟩ := given_index layIndex rfl
theorem soundistringslite_Cut_ (V : Ev) (hV : V.OK) : CallSound Tryz.prog (env V []) 159 ⟨sigistringslite_Cut_, istringslite_Cut_ V⟩ := by
  rw [← rawistringslite_Cut_ V]
  exact aFn_sound (E2 := (env V [])) (envOK V hV (callsistringslite_Cut_ V) [] none (by kernel_rfl) (by kernel_rfl) (calls_cons ((cs_cons (soundistringslite_Index_ V) cs_nil)) (calls_nil rfl)) its_nil) rfl rfl rfl (.inl rfl) Tryz.func159
theorem soundstrings_Cut_ (V : Ev) (hV : V.OK) : CallSound Tryz.prog (env V []) 108 ⟨sigstrings_Cut_, strings_Cut_ V⟩ := by
  rw [← rawstrings_Cut_ V]
  exact aFn_sound (E2 := (env V [])) (envOK V hV (callsstrings_Cut_ V) [] none (by kernel_rfl) (by kernel_rfl) (calls_cons ((cs_cons (soundistringslite_Cut_ V hV) cs_nil)) (calls_nil rfl)) its_nil) rfl rfl rfl (.inl rfl) Tryz.func108
theorem soundistrconv_lower_ (V : Ev) (hV : V.OK) : CallSound Tryz.prog (env V []) 240 ⟨sigistrconv_lower_, istrconv_lower_ V⟩ := by
  rw [← rawistrconv_lower_ V]
  exact aFn_sound (E2 := (env V [])) (envOK V hV (callsistrconv_lower_ V) [] none (by kernel_rfl) (by kernel_rfl) (calls_nil rfl) its_nil) rfl rfl rfl (.inl rfl) Tryz.func240
theorem soundistrconv_underscoreOK_ (V : Ev) (hV : V.OK) : CallSound Tryz.prog (env V []) 241 ⟨sigistrconv_underscoreOK_, istrconv_underscoreOK_ V⟩ := by
  rw [← rawistrconv_underscoreOK_ V]
  exact aFn_sound (E2 := (env V [])) (envOK V hV (callsistrconv_underscoreOK_ V) [] none (by kernel_rfl) (by kernel_rfl) (calls_cons ((cs_cons (soundistrconv_lower_ V hV) cs_nil)) (calls_nil rfl)) its_nil) rfl rfl rfl (.inl rfl) Tryz.func241
theorem soundistrconv_ParseUint_ (V : Ev) (hV : V.OK) : CallSound Tryz.prog (env V []) 233 ⟨sigistrconv_ParseUint_, istrconv_ParseUint_ V⟩ := by
  rw [← rawistrconv_ParseUint_ V]
  exact aFn_sound (E2 := (env V [])) (envOK V hV (callsistrconv_ParseUint_ V) [] none (by kernel_rfl) (by kernel_rfl) (calls_cons ((cs_cons (soundistrconv_lower_ V hV) cs_nil)) (calls_cons ((cs_cons (soundistrconv_underscoreOK_ V hV) cs_nil)) (calls_nil rfl))) its_nil) rfl rfl rfl (.inl rfl) Tryz.func233
theorem soundistrconv_ParseInt_ (V : Ev) (hV : V.OK) : CallSound Tryz.prog (env V []) 220 ⟨sigistrconv_ParseInt_, istrconv_ParseInt_ V⟩ := by
  rw [← rawistrconv_ParseInt_ V]
  exact aFn_sound (E2 := (env V [])) (envOK V hV (callsistrconv_ParseInt_ V) [] none (by kernel_rfl) (by kernel_rfl) (calls_cons ((cs_cons (soundistrconv_ParseUint_ V hV) cs_nil)) (calls_nil rfl)) its_nil) rfl rfl rfl (.inl rfl) Tryz.func220
theorem soundistrconv_Atoi_ (V : Ev) (hV : V.OK) : CallSound Tryz.prog (env V []) 198 ⟨sigistrconv_Atoi_, istrconv_Atoi_ V⟩ := by
  rw [← rawistrconv_Atoi_ V]
  exact aFn_sound (E2 := (env V [])) (envOK V hV (callsistrconv_Atoi_ V) [] none (by kernel_rfl) (by kernel_rfl) (calls_cons ((cs_cons (soundistrconv_ParseInt_ V hV) cs_nil)) (calls_nil rfl)) its_nil) rfl rfl rfl (.inl rfl) Tryz.func198
theorem soundistringslite_Clone_ (V : Ev) (hV : V.OK) : CallSound Tryz.prog (env V []) 234 ⟨sigistringslite_Clone_, istringslite_Clone_ V⟩ := by
  rw [← rawistringslite_Clone_ V]
  exact aFn_sound (E2 := (env V [])) (envOK V hV (callsistringslite_Clone_ V) [] none (by kernel_rfl) (by kernel_rfl) (calls_nil rfl) its_nil) rfl rfl rfl (.inl rfl) Tryz.func234
theorem soundstrconv_syntaxError_d9f (V : Ev) (hV : V.OK) : CallSound Tryz.prog (env V []) 221 ⟨sigstrconv_syntaxError_d9f, strconv_syntaxError_d9f V⟩ := by
  rw [← rawstrconv_syntaxError_d9f V]
  exact aFn_sound (E2 := (env V [])) (envOK V hV (callsstrconv_syntaxError_d9f V) [] none (by kernel_rfl) (by kernel_rfl) (calls_cons ((cs_cons (soundistringslite_Clone_ V hV) cs_nil)) (calls_nil rfl)) its_nil) rfl rfl rfl (.inl rfl) Tryz.func221
theorem soundstrconv_rangeError_d9f (V : Ev) (hV : V.OK) : CallSound Tryz.prog (env V []) 222 ⟨sigstrconv_rangeError_d9f, strconv_rangeError_d9f V⟩ := by
  rw [← rawstrconv_rangeError_d9f V]
  exact aFn_sound (E2 := (env V [])) (envOK V hV (callsstrconv_rangeError_d9f V) [] none (by kernel_rfl) (by kernel_rfl) (calls_cons ((cs_cons (soundistringslite_Clone_ V hV) cs_nil)) (calls_nil rfl)) its_nil) rfl rfl rfl (.inl rfl) Tryz.func222
theorem soundistrconv_Itoa_ (V : Ev) : CallSound Tryz.prog (env V []) 229 ⟨sigistrconv_Itoa_, istrconv_Itoa_ V⟩ := given_itoa (g := 7) (t := 223) layItoa (by kernel_rfl) (by kernel_rfl)
theorem soundstrconv_Itoa_ (V : Ev) (hV : V.OK) : CallSound Tryz.prog (env V []) 207 ⟨sigstrconv_Itoa_, strconv_Itoa_ V⟩ := by
  rw [← rawstrconv_Itoa_ V]
  exact aFn_sound (E2 := (env V [])) (envOK V hV (callsstrconv_Itoa_ V) [] none (by kernel_rfl) (by kernel_rfl) (calls_cons ((cs_cons (soundistrconv_Itoa_ V) cs_nil)) (calls_nil rfl)) its_nil) rfl rfl rfl (.inl rfl) Tryz.func207
theorem sounderrors_New_ (V : Ev) (hV : V.OK) : CallSound Tryz.prog (env V []) 235 ⟨sigerrors_New_, errors_New_ V⟩ := by
  rw [← rawerrors_New_ V]
  exact aFn_sound (E2 := (env V [])) (envOK V hV (callserrors_New_ V) [] none (by kernel_rfl) (by kernel_rfl) (calls_nil rfl) its_nil) rfl rfl rfl (.inl rfl) Tryz.func235
theorem soundstrconv_baseError_cf4 (V : Ev) (hV : V.OK) : CallSound Tryz.prog (env V []) 223 ⟨sigstrconv_baseError_cf4, strconv_baseError_cf4 V⟩ := by
  rw [← rawstrconv_baseError_cf4 V]
  exact aFn_sound (E2 := (env V [])) (envOK V hV (callsstrconv_baseError_cf4 V) [] none (by kernel_rfl) (by kernel_rfl) (calls_cons ((cs_cons (soundstrconv_Itoa_ V hV) cs_nil)) (calls_cons ((cs_cons (soundistringslite_Clone_ V hV) cs_nil)) (calls_cons ((cs_cons (sounderrors_New_ V hV) cs_nil)) (calls_nil rfl)))) its_nil) rfl rfl rfl (.inl rfl) Tryz.func223
theorem soundstrconv_bitSizeError_cf4 (V : Ev) (hV : V.OK) : CallSound Tryz.prog (env V []) 224 ⟨sigstrconv_bitSizeError_cf4, strconv_bitSizeError_cf4 V⟩ := by
  rw [← rawstrconv_bitSizeError_cf4 V]
  exact aFn_sound (E2 := (env V [])) (envOK V hV (callsstrconv_bitSizeError_cf4 V) [] none (by kernel_rfl) (by kernel_rfl) (calls_cons ((cs_cons (soundstrconv_Itoa_ V hV) cs_nil)) (calls_cons ((cs_cons (soundistringslite_Clone_ V hV) cs_nil)) (calls_cons ((cs_cons (sounderrors_New_ V hV) cs_nil)) (calls_nil rfl)))) its_nil) rfl rfl rfl (.inl rfl) Tryz.func224
theorem soundstrconv_toError_666 (V : Ev) (hV : V.OK) : CallSound Tryz.prog (env V []) 199 ⟨sigstrconv_toError_666, strconv_toError_666 V⟩ := by
  rw [← rawstrconv_toError_666 V]
  exact aFn_sound (E2 := (env V [])) (envOK V hV (callsstrconv_toError_666 V) [] none (by kernel_rfl) (by kernel_rfl) (calls_cons ((cs_cons (soundstrconv_syntaxError_d9f V hV) cs_nil)) (calls_cons ((cs_cons (soundstrconv_rangeError_d9f V hV) cs_nil)) (calls_cons ((cs_cons (soundstrconv_baseError_cf4 V hV) cs_nil)) (calls_cons ((cs_cons (soundstrconv_bitSizeError_cf4 V hV) cs_nil)) (calls_nil rfl))))) its_nil) rfl rfl rfl (.inl rfl) Tryz.func199
theorem soundstrconv_Atoi_ (V : Ev) (hV : V.OK) : CallSound Tryz.prog (env V []) 160 ⟨sigstrconv_Atoi_, strconv_Atoi_ V⟩ := by
  rw [← rawstrconv_Atoi_ V]
  exact aFn_sound (E2 := (env V [])) (envOK V hV (callsstrconv_Atoi_ V) [] none (by kernel_rfl) (by kernel_rfl) (calls_cons ((cs_cons (soundistrconv_Atoi_ V hV) cs_nil)) (calls_cons ((cs_cons (soundstrconv_toError_666 V hV) cs_nil)) (calls_nil rfl))) its_nil) rfl rfl rfl (.inl rfl) Tryz.func160
theorem soundsource_cutter_port_456 (V : Ev) (hV : V.OK) : CallSound Tryz.prog (env V []) 109 ⟨sigsource_cutter_port_456, source_cutter_port_456 V⟩ := by
  rw [← rawsource_cutter_port_456 V]
  exact aFn_sound (E2 := (env V [])) (envOK V hV (callssource_cutter_port_456 V) [] none (by kernel_rfl) (by kernel_rfl) (calls_cons ((cs_cons (soundstrings_Trim_ V) cs_nil)) (calls_cons ((cs_cons (soundstrconv_Atoi_ V hV) cs_nil)) (calls_nil rfl))) its_nil) rfl rfl rfl (.inl rfl) Tryz.func109
theorem soundistringslite_CutPrefix_ (V : Ev) (hV : V.OK) : CallSound Tryz.prog (env V []) 161 ⟨sigistringslite_CutPrefix_, istringslite_CutPrefix_ V⟩ := by
  rw [← rawistringslite_CutPrefix_ V]
  exact aFn_sound (E2 := (env V [])) (envOK V hV (callsistringslite_CutPrefix_ V) [] none (by kernel_rfl) (by kernel_rfl) (calls_cons ((cs_cons (soundistringslite_HasPrefix_ V hV) cs_nil)) (calls_nil rfl)) its_nil) rfl rfl rfl (.inl rfl) Tryz.func161
theorem soundstrings_CutPrefix_ (V : Ev) (hV : V.OK) : CallSound Tryz.prog (env V []) 110 ⟨sigstrings_CutPrefix_, strings_CutPrefix_ V⟩ := by
  rw [← rawstrings_CutPrefix_ V]
  exact aFn_sound (E2 := (env V [])) (envOK V hV (callsstrings_CutPrefix_ V) [] none (by kernel_rfl) (by kernel_rfl) (calls_cons ((cs_cons (soundistringslite_CutPrefix_ V hV) cs_nil)) (calls_nil rfl)) its_nil) rfl rfl rfl (.inl rfl) Tryz.func110
theorem soundsource_cutter_host_2b7 (V : Ev) (hV : V.OK) : CallSound Tryz.prog (env V []) 83 ⟨sigsource_cutter_host_2b7, source_cutter_host_2b7 V⟩ := by
  rw [← rawsource_cutter_host_2b7 V]
  exact aFn_sound (E2 := (env V [])) (envOK V hV (callssource_cutter_host_2b7 V) [] none (by kernel_rfl) (by kernel_rfl) (calls_cons ((cs_cons (soundfold_Lower_ V hV) cs_nil)) (calls_cons ((cs_cons (soundstrings_IndexByte_ V hV) cs_nil)) (calls_cons ((cs_cons (soundstrings_Cut_ V hV) cs_nil)) (calls_cons ((cs_cons (soundsource_cutter_port_456 V hV) cs_nil)) (calls_cons ((cs_cons (soundstrings_CutPrefix_ V hV) cs_nil)) (calls_nil rfl)))))) its_nil) rfl rfl rfl (.inl rfl) Tryz.func83
theorem soundurl_Default_ (V : Ev) (hV : V.OK) : CallSound Tryz.prog (env V []) 162 ⟨sigurl_Default_, url_Default_ V⟩ := by
  rw [← rawurl_Default_ V]
  exact aFn_sound (E2 := (env V [])) (envOK V hV (callsurl_Default_ V) [] none (by kernel_rfl) (by kernel_rfl) (calls_nil rfl) its_nil) rfl rfl rfl (.inl rfl) Tryz.func162
theorem soundurl_letter_ (V : Ev) (hV : V.OK) : CallSound Tryz.prog (env V []) 200 ⟨sigurl_letter_, url_letter_ V⟩ := by
  rw [← rawurl_letter_ V]
  exact aFn_sound (E2 := (env V [])) (envOK V hV (callsurl_letter_ V) [] none (by kernel_rfl) (by kernel_rfl) (calls_nil rfl) its_nil) rfl rfl rfl (.inl rfl) Tryz.func200
theorem soundurl_digit_ (V : Ev) (hV : V.OK) : CallSound Tryz.prog (env V []) 202 ⟨sigurl_digit_, url_digit_ V⟩ := by
  rw [← rawurl_digit_ V]
  exact aFn_sound (E2 := (env V [])) (envOK V hV (callsurl_digit_ V) [] none (by kernel_rfl) (by kernel_rfl) (calls_nil rfl) its_nil) rfl rfl rfl (.inl rfl) Tryz.func202
theorem soundurl_scheme_1_ (V : Ev) (hV : V.OK) : CallSound Tryz.prog (env V []) 201 ⟨sigurl_scheme_1_, url_scheme_1_ V⟩ := by
  rw [← rawurl_scheme_1_ V]
  exact aFn_sound (E2 := (env V [])) (envOK V hV (callsurl_scheme_1_ V) [] none (by kernel_rfl) (by kernel_rfl) (calls_cons ((cs_cons (soundurl_letter_ V hV) cs_nil)) (calls_cons ((cs_cons (soundurl_digit_ V hV) cs_nil)) (calls_nil rfl))) its_nil) rfl rfl rfl (.inl rfl) Tryz.func201
theorem soundurl_all_16d (V : Ev) (hV : V.OK) : CallSound Tryz.prog (env V []) 172 ⟨sigurl_all_16d, url_all_16d V⟩ := by
  rw [← rawurl_all_16d V]
  exact aFn_sound (E2 := (env V [])) (envOK V hV (callsurl_all_16d V) [] none (by kernel_rfl) (by kernel_rfl) (calls_cons ((cs_cons (soundurl_scheme_1_ V hV) cs_nil)) (calls_nil rfl)) its_nil) rfl rfl rfl (.inl rfl) Tryz.func172
theorem soundurl_scheme_ (V : Ev) (hV : V.OK) : CallSound Tryz.prog (env V []) 171 ⟨sigurl_scheme_, url_scheme_ V⟩ := by
  rw [← rawurl_scheme_ V]
  exact aFn_sound (E2 := (env V [])) (envOK V hV (callsurl_scheme_ V) [] none (by kernel_rfl) (by kernel_rfl) (calls_cons ((cs_cons (soundurl_all_16d V hV) cs_nil)) (calls_cons ((cs_cons (soundurl_letter_ V hV) cs_nil)) (calls_nil rfl))) its_nil) rfl rfl rfl (.inl rfl) Tryz.func171
theorem soundurl_Check_1_ (V : Ev) (hV : V.OK) : CallSound Tryz.prog (env V []) 173 ⟨sigurl_Check_1_, url_Check_1_ V⟩ := by
  rw [← rawurl_Check_1_ V]
  exact aFn_sound (E2 := (env V [])) (envOK V hV (callsurl_Check_1_ V) [] none (by kernel_rfl) (by kernel_rfl) (calls_nil rfl) its_nil) rfl rfl rfl (.inl rfl) Tryz.func173
theorem soundurl_all_890 (V : Ev) (hV : V.OK) : CallSound Tryz.prog (env V []) 172 ⟨sigurl_all_890, url_all_890 V⟩ := by
  rw [← rawurl_all_890 V]
  exact aFn_sound (E2 := (env V [])) (envOK V hV (callsurl_all_890 V) [] none (by kernel_rfl) (by kernel_rfl) (calls_cons ((cs_cons (soundurl_Check_1_ V hV) cs_nil)) (calls_nil rfl)) its_nil) rfl rfl rfl (.inl rfl) Tryz.func172
theorem soundurl_host_1_ (V : Ev) (hV : V.OK) : CallSound Tryz.prog (env V []) 203 ⟨sigurl_host_1_, url_host_1_ V⟩ := by
  rw [← rawurl_host_1_ V]
  exact aFn_sound (E2 := (env V [])) (envOK V hV (callsurl_host_1_ V) [] none (by kernel_rfl) (by kernel_rfl) (calls_cons ((cs_cons (soundurl_letter_ V hV) cs_nil)) (calls_cons ((cs_cons (soundurl_digit_ V hV) cs_nil)) (calls_nil rfl))) its_nil) rfl rfl rfl (.inl rfl) Tryz.func203
theorem soundurl_all_70b (V : Ev) (hV : V.OK) : CallSound Tryz.prog (env V []) 172 ⟨sigurl_all_70b, url_all_70b V⟩ := by
  rw [← rawurl_all_70b V]
  exact aFn_sound (E2 := (env V [])) (envOK V hV (callsurl_all_70b V) [] none (by kernel_rfl) (by kernel_rfl) (calls_cons ((cs_cons (soundurl_host_1_ V hV) cs_nil)) (calls_nil rfl)) its_nil) rfl rfl rfl (.inl rfl) Tryz.func172
theorem soundstrings_Index_ (V : Ev) (hV : V.OK) : CallSound Tryz.prog (env V []) 225 ⟨sigstrings_Index_, strings_Index_ V⟩ := by
  rw [← rawstrings_Index_ V]
  exact aFn_sound (E2 := (env V [])) (envOK V hV (callsstrings_Index_ V) [] none (by kernel_rfl) (by kernel_rfl) (calls_cons ((cs_cons (soundistringslite_Index_ V) cs_nil)) (calls_nil rfl)) its_nil) rfl rfl rfl (.inl rfl) Tryz.func225
theorem soundstrings_Contains_ (V : Ev) (hV : V.OK) : CallSound Tryz.prog (env V []) 204 ⟨sigstrings_Contains_, strings_Contains_ V⟩ := by
  rw [← rawstrings_Contains_ V]
  exact aFn_sound (E2 := (env V [])) (envOK V hV (callsstrings_Contains_ V) [] none (by kernel_rfl) (by kernel_rfl) (calls_cons ((cs_cons (soundstrings_Index_ V hV) cs_nil)) (calls_nil rfl)) its_nil) rfl rfl rfl (.inl rfl) Tryz.func204
theorem soundurl_host_ (V : Ev) (hV : V.OK) : CallSound Tryz.prog (env V []) 174 ⟨sigurl_host_, url_host_ V⟩ := by
  rw [← rawurl_host_ V]
  exact aFn_sound (E2 := (env V [])) (envOK V hV (callsurl_host_ V) [] none (by kernel_rfl) (by kernel_rfl) (calls_cons ((cs_cons (soundurl_all_70b V hV) cs_nil)) (calls_cons ((cs_cons (soundstrings_Contains_ V hV) cs_nil)) (calls_nil rfl))) its_nil) rfl rfl rfl (.inl rfl) Tryz.func174
theorem soundurl_byteOf_ (V : Ev) (hV : V.OK) : CallSound Tryz.prog (env V []) 175 ⟨sigurl_byteOf_, url_byteOf_ V⟩ := by
  rw [← rawurl_byteOf_ V]
  exact aFn_sound (E2 := (env V [])) (envOK V hV (callsurl_byteOf_ V) [] none (by kernel_rfl) (by kernel_rfl) (calls_nil rfl) its_nil) rfl rfl rfl (.inl rfl) Tryz.func175
theorem soundurl_all_315 (V : Ev) (hV : V.OK) : CallSound Tryz.prog (env V []) 172 ⟨sigurl_all_315, url_all_315 V⟩ := by
  rw [← rawurl_all_315 V]
  exact aFn_sound (E2 := (env V [])) (envOK V hV (callsurl_all_315 V) [] none (by kernel_rfl) (by kernel_rfl) (calls_cons ((cs_cons (soundurl_byteOf_ V hV) cs_nil)) (calls_nil rfl)) its_nil) rfl rfl rfl (.inl rfl) Tryz.func172
theorem soundutf8_RuneCountInString_ (V : Ev) (hV : V.OK) : CallSound Tryz.prog (env V []) 242 ⟨sigutf8_RuneCountInString_, utf8_RuneCountInString_ V⟩ := by
  rw [← rawutf8_RuneCountInString_ V]
  exact aFn_sound (E2 := (env V [])) (envOK V hV (callsutf8_RuneCountInString_ V) [] none (by kernel_rfl) (by kernel_rfl) (calls_nil rfl) its_nil) rfl rfl rfl (.inl rfl) Tryz.func242
theorem soundutf8_decodeRuneInStringSlow_ (V : Ev) (hV : V.OK) : CallSound Tryz.prog (env V []) 213 ⟨sigutf8_decodeRuneInStringSlow_, utf8_decodeRuneInStringSlow_ V⟩ := by
  rw [← rawutf8_decodeRuneInStringSlow_ V]
  exact aFn_sound (E2 := (env V [])) (envOK V hV (callsutf8_decodeRuneInStringSlow_ V) [] none (by kernel_rfl) (by kernel_rfl) (calls_nil rfl) its_nil) rfl rfl rfl (.inl rfl) Tryz.func213
theorem soundutf8_DecodeRuneInString_ (V : Ev) (hV : V.OK) : CallSound Tryz.prog (env V []) 193 ⟨sigutf8_DecodeRuneInString_, utf8_DecodeRuneInString_ V⟩ := by
  rw [← rawutf8_DecodeRuneInString_ V]
  exact aFn_sound (E2 := (env V [])) (envOK V hV (callsutf8_DecodeRuneInString_ V) [] none (by kernel_rfl) (by kernel_rfl) (calls_cons ((cs_cons (soundutf8_decodeRuneInStringSlow_ V hV) cs_nil)) (calls_nil rfl)) its_nil) rfl rfl rfl (.inl rfl) Tryz.func193
theorem soundstrings_explode_ (V : Ev) (hV : V.OK) : CallSound Tryz.prog (env V []) 236 ⟨sigstrings_explode_, strings_explode_ V⟩ := by
  rw [← rawstrings_explode_ V]
  exact aFn_sound (E2 := (env V [])) (envOK V hV (callsstrings_explode_ V) [] none (by kernel_rfl) (by kernel_rfl) (calls_cons ((cs_cons (soundutf8_DecodeRuneInString_ V hV) cs_nil)) (calls_cons ((cs_cons (soundutf8_RuneCountInString_ V hV) cs_nil)) (calls_nil rfl))) its_nil) rfl rfl rfl (.inl rfl) Tryz.func236
theorem soundstrings_Count_ (V : Ev) : CallSound Tryz.prog (env V []) 237 ⟨sigstrings_Count_, strings_Count_ V⟩ := given_count layCount
theorem soundstrings_genSplit_ (V : Ev) (hV : V.OK) : CallSound Tryz.prog (env V []) 226 ⟨sigstrings_genSplit_, strings_genSplit_ V⟩ := by
  rw [← rawstrings_genSplit_ V]
  exact aFn_sound (E2 := (env V [])) (envOK V hV (callsstrings_genSplit_ V) [] none (by kernel_rfl) (by kernel_rfl) (calls_cons ((cs_cons (soundstrings_Index_ V hV) cs_nil)) (calls_cons ((cs_cons (soundstrings_explode_ V hV) cs_nil)) (calls_cons ((cs_cons (soundstrings_Count_ V) cs_nil)) (calls_nil rfl)))) its_nil) rfl rfl rfl (.inl rfl) Tryz.func226
theorem soundstrings_Split_ (V : Ev) (hV : V.OK) : CallSound Tryz.prog (env V []) 205 ⟨sigstrings_Split_, strings_Split_ V⟩ := by
  rw [← rawstrings_Split_ V]
  exact aFn_sound (E2 := (env V [])) (envOK V hV (callsstrings_Split_ V) [] none (by kernel_rfl) (by kernel_rfl) (calls_cons ((cs_cons (soundstrings_genSplit_ V hV) cs_nil)) (calls_nil rfl)) its_nil) rfl rfl rfl (.inl rfl) Tryz.func205
theorem soundstrings_Join_ (V : Ev) : CallSound Tryz.prog (env V []) 206 ⟨sigstrings_Join_, strings_Join_ V⟩ := given_join layJoin laysE
theorem soundurl_Clean_ (V : Ev) (hV : V.OK) : CallSound Tryz.prog (env V []) 176 ⟨sigurl_Clean_, url_Clean_ V⟩ := by
  rw [← rawurl_Clean_ V]
  exact aFn_sound (E2 := (env V [])) (envOK V hV (callsurl_Clean_ V) [] none (by kernel_rfl) (by kernel_rfl) (calls_cons ((cs_cons (soundstrings_HasPrefix_ V hV) cs_nil)) (calls_cons ((cs_cons (soundstrings_Split_ V hV) cs_nil)) (calls_cons ((cs_cons (soundstrings_Join_ V) cs_nil)) (calls_nil rfl)))) its_nil) rfl rfl rfl (.inl rfl) Tryz.func176
theorem soundurl_Check_2_ (V : Ev) (hV : V.OK) : CallSound Tryz.prog (env V []) 177 ⟨sigurl_Check_2_, url_Check_2_ V⟩ := by
  rw [← rawurl_Check_2_ V]
  exact aFn_sound (E2 := (env V [])) (envOK V hV (callsurl_Check_2_ V) [] none (by kernel_rfl) (by kernel_rfl) (calls_cons ((cs_cons (soundurl_byteOf_ V hV) cs_nil)) (calls_nil rfl)) its_nil) rfl rfl rfl (.inl rfl) Tryz.func177
theorem soundurl_all_af7 (V : Ev) (hV : V.OK) : CallSound Tryz.prog (env V []) 172 ⟨sigurl_all_af7, url_all_af7 V⟩ := by
  rw [← rawurl_all_af7 V]
  exact aFn_sound (E2 := (env V [])) (envOK V hV (callsurl_all_af7 V) [] none (by kernel_rfl) (by kernel_rfl) (calls_cons ((cs_cons (soundurl_Check_2_ V hV) cs_nil)) (calls_nil rfl)) its_nil) rfl rfl rfl (.inl rfl) Tryz.func172
theorem soundurl_text_ (V : Ev) (hV : V.OK) : CallSound Tryz.prog (env V []) 178 ⟨sigurl_text_, url_text_ V⟩ := by
  rw [← rawurl_text_ V]
  exact aFn_sound (E2 := (env V [])) (envOK V hV (callsurl_text_ V) [] none (by kernel_rfl) (by kernel_rfl) (calls_cons ((cs_cons (soundstrconv_Itoa_ V hV) cs_nil)) (calls_nil rfl)) its_nil) rfl rfl rfl (.inl rfl) Tryz.func178
theorem soundurl_Check_ (V : Ev) (hV : V.OK) : CallSound Tryz.prog (env V []) 126 ⟨sigurl_Check_, url_Check_ V⟩ := by
  rw [← rawurl_Check_ V]
  exact aFn_sound (E2 := (env V [])) (envOK V hV (callsurl_Check_ V) [] none (by kernel_rfl) (by kernel_rfl) (calls_cons ((cs_cons (soundfold_Trim_ V hV) cs_nil)) (calls_cons ((cs_cons (soundurl_Default_ V hV) cs_nil)) (calls_cons ((cs_cons (soundurl_scheme_ V hV) cs_nil)) (calls_cons ((cs_cons (soundurl_all_890 V hV) (cs_cons (soundurl_all_315 V hV) (cs_cons (soundurl_all_af7 V hV) cs_nil)))) (calls_cons ((cs_cons (soundurl_host_ V hV) cs_nil)) (calls_cons ((cs_cons (soundurl_Clean_ V hV) cs_nil)) (calls_cons ((cs_cons (soundurl_text_ V hV) cs_nil)) (calls_nil rfl)))))))) its_nil) rfl rfl rfl (.inl rfl) Tryz.func126
theorem soundsource_scheme_ (V : Ev) (hV : V.OK) : CallSound Tryz.prog (env V []) 112 ⟨sigsource_scheme_, source_scheme_ V⟩ := by
  rw [← rawsource_scheme_ V]
  exact aFn_sound (E2 := (env V [])) (envOK V hV (callssource_scheme_ V) [] none (by kernel_rfl) (by kernel_rfl) (calls_cons ((cs_cons (soundurl_Check_ V hV) cs_nil)) (calls_cons ((cs_cons (soundurl_Default_ V hV) cs_nil)) (calls_nil rfl))) its_nil) rfl rfl rfl (.inl rfl) Tryz.func112
theorem soundsource_host_ (V : Ev) (hV : V.OK) : CallSound Tryz.prog (env V []) 113 ⟨sigsource_host_, source_host_ V⟩ := by
  rw [← rawsource_host_ V]
  exact aFn_sound (E2 := (env V [])) (envOK V hV (callssource_host_ V) [] none (by kernel_rfl) (by kernel_rfl) (calls_cons ((cs_cons (soundurl_Check_ V hV) cs_nil)) (calls_nil rfl)) its_nil) rfl rfl rfl (.inl rfl) Tryz.func113
theorem soundsource_path_ (V : Ev) (hV : V.OK) : CallSound Tryz.prog (env V []) 114 ⟨sigsource_path_, source_path_ V⟩ := by
  rw [← rawsource_path_ V]
  exact aFn_sound (E2 := (env V [])) (envOK V hV (callssource_path_ V) [] none (by kernel_rfl) (by kernel_rfl) (calls_cons ((cs_cons (soundstrings_IndexByte_ V hV) cs_nil)) (calls_nil rfl)) its_nil) rfl rfl rfl (.inl rfl) Tryz.func114
theorem soundsource_right_ (V : Ev) (hV : V.OK) : CallSound Tryz.prog (env V []) 84 ⟨sigsource_right_, source_right_ V⟩ := by
  rw [← rawsource_right_ V]
  exact aFn_sound (E2 := (env V [])) (envOK V hV (callssource_right_ V) [] none (by kernel_rfl) (by kernel_rfl) (calls_cons ((cs_cons (soundbase_Form_ V hV) cs_nil)) (calls_cons ((cs_cons (soundsource_scheme_ V hV) cs_nil)) (calls_cons ((cs_cons (soundsource_host_ V hV) cs_nil)) (calls_cons ((cs_cons (soundsource_path_ V hV) cs_nil)) (calls_nil rfl))))) its_nil) rfl rfl rfl (.inl rfl) Tryz.func84
theorem soundsource_Parse_ (V : Ev) (hV : V.OK) : CallSound Tryz.prog (env V []) 58 ⟨sigsource_Parse_, source_Parse_ V⟩ := by
  rw [← rawsource_Parse_ V]
  exact aFn_sound (E2 := (env V [])) (envOK V hV (callssource_Parse_ V) [] none (by kernel_rfl) (by kernel_rfl) (calls_cons ((cs_cons (soundfold_Lower_ V hV) cs_nil)) (calls_cons ((cs_cons (soundsource_cutter_quoted_2b7 V hV) cs_nil)) (calls_cons ((cs_cons (soundsource_cutter_host_2b7 V hV) cs_nil)) (calls_cons ((cs_cons (soundsource_right_ V hV) cs_nil)) (calls_nil rfl))))) its_nil) rfl rfl rfl (.inl rfl) Tryz.func58
theorem soundsource_List_ (V : Ev) (hV : V.OK) : CallSound Tryz.prog (env V []) 41 ⟨sigsource_List_, source_List_ V⟩ := by
  rw [← rawsource_List_ V]
  exact aFn_sound (E2 := (env V [])) (envOK V hV (callssource_List_ V) [] none (by kernel_rfl) (by kernel_rfl) (calls_cons ((cs_cons (soundsource_Parse_ V hV) cs_nil)) (calls_nil rfl)) its_nil) rfl rfl rfl (.inl rfl) Tryz.func41
theorem soundchain_Effective_ (V : Ev) (hV : V.OK) : CallSound Tryz.prog (env V []) 17 ⟨sigchain_Effective_, chain_Effective_ V⟩ := by
  rw [← rawchain_Effective_ V]
  exact aFn_sound (E2 := (env V [])) (envOK V hV (callschain_Effective_ V) [] none (by kernel_rfl) (by kernel_rfl) (calls_cons ((cs_cons (soundchain_Names_ V hV) cs_nil)) (calls_cons ((cs_cons (soundheader_Find_ V hV) cs_nil)) (calls_cons ((cs_cons (soundsource_List_ V hV) cs_nil)) (calls_nil rfl)))) its_nil) rfl rfl rfl (.inl rfl) Tryz.func17
theorem soundallow_text_1_8f5 (V : Ev) (hV : V.OK) : CallSound Tryz.prog (env V []) 124 ⟨sigallow_text_1_8f5, allow_text_1_8f5 V⟩ := by
  rw [← rawallow_text_1_8f5 V]
  exact aFn_sound (E2 := (env V [])) (envOK V hV (callsallow_text_1_8f5 V) [] none (by kernel_rfl) (by kernel_rfl) (calls_nil rfl) its_nil) rfl rfl rfl (.inl rfl) Tryz.func124
theorem soundallow_some_api_Source_a97 (V : Ev) (hV : V.OK) : CallSound Tryz.prog (env V []) 91 ⟨sigallow_some_api_Source_a97, allow_some_api_Source_a97 V⟩ := by
  rw [← rawallow_some_api_Source_a97 V]
  exact aFn_sound (E2 := (env V [])) (envOK V hV (callsallow_some_api_Source_a97 V) [] none (by kernel_rfl) (by kernel_rfl) (calls_cons ((cs_cons (soundallow_text_1_8f5 V hV) cs_nil)) (calls_nil rfl)) its_nil) rfl rfl rfl (.inl rfl) Tryz.func91
theorem soundallow_text_ (V : Ev) (hV : V.OK) : CallSound Tryz.prog (env V []) 88 ⟨sigallow_text_, allow_text_ V⟩ := by
  rw [← rawallow_text_ V]
  exact aFn_sound (E2 := (env V [])) (envOK V hV (callsallow_text_ V) [] none (by kernel_rfl) (by kernel_rfl) (calls_cons ((cs_cons (soundallow_some_api_Source_a97 V hV) cs_nil)) (calls_nil rfl)) its_nil) rfl rfl rfl (.inl rfl) Tryz.func88
theorem soundallow_Nonce_ (V : Ev) (hV : V.OK) : CallSound Tryz.prog (env V []) 62 ⟨sigallow_Nonce_, allow_Nonce_ V⟩ := by
  rw [← rawallow_Nonce_ V]
  exact aFn_sound (E2 := (env V [])) (envOK V hV (callsallow_Nonce_ V) [] none (by kernel_rfl) (by kernel_rfl) (calls_cons ((cs_cons (soundallow_text_ V hV) cs_nil)) (calls_nil rfl)) its_nil) rfl rfl rfl (.inl rfl) Tryz.func62
theorem soundallow_has_1_1_8c6 (V : Ev) (hV : V.OK) : CallSound Tryz.prog (env V []) 92 ⟨sigallow_has_1_1_8c6, allow_has_1_1_8c6 V⟩ := by
  rw [← rawallow_has_1_1_8c6 V]
  exact aFn_sound (E2 := (env V [])) (envOK V hV (callsallow_has_1_1_8c6 V) [] none (by kernel_rfl) (by kernel_rfl) (calls_nil rfl) its_nil) rfl rfl rfl (.inl rfl) Tryz.func92
theorem soundallow_some_api_Source_aa9 (V : Ev) (hV : V.OK) : CallSound Tryz.prog (env V []) 91 ⟨sigallow_some_api_Source_aa9, allow_some_api_Source_aa9 V⟩ := by
  rw [← rawallow_some_api_Source_aa9 V]
  exact aFn_sound (E2 := (env V [])) (envOK V hV (callsallow_some_api_Source_aa9 V) [] none (by kernel_rfl) (by kernel_rfl) (calls_cons ((cs_cons (soundallow_has_1_1_8c6 V hV) cs_nil)) (calls_nil rfl)) its_nil) rfl rfl rfl (.inl rfl) Tryz.func91
theorem soundallow_has_1_905 (V : Ev) (hV : V.OK) : CallSound Tryz.prog (env V []) 90 ⟨sigallow_has_1_905, allow_has_1_905 V⟩ := by
  rw [← rawallow_has_1_905 V]
  exact aFn_sound (E2 := (env V [])) (envOK V hV (callsallow_has_1_905 V) [] none (by kernel_rfl) (by kernel_rfl) (calls_cons ((cs_cons (soundallow_some_api_Source_aa9 V hV) cs_nil)) (calls_nil rfl)) its_nil) rfl rfl rfl (.inl rfl) Tryz.func90
theorem soundallow_some_api_SourceKind_c08 (V : Ev) (hV : V.OK) : CallSound Tryz.prog (env V []) 89 ⟨sigallow_some_api_SourceKind_c08, allow_some_api_SourceKind_c08 V⟩ := by
  rw [← rawallow_some_api_SourceKind_c08 V]
  exact aFn_sound (E2 := (env V [])) (envOK V hV (callsallow_some_api_SourceKind_c08 V) [] none (by kernel_rfl) (by kernel_rfl) (calls_cons ((cs_cons (soundallow_has_1_905 V hV) cs_nil)) (calls_nil rfl)) its_nil) rfl rfl rfl (.inl rfl) Tryz.func89
theorem soundallow_has_ (V : Ev) (hV : V.OK) : CallSound Tryz.prog (env V []) 63 ⟨sigallow_has_, allow_has_ V⟩ := by
  rw [← rawallow_has_ V]
  exact aFn_sound (E2 := (env V [])) (envOK V hV (callsallow_has_ V) [] none (by kernel_rfl) (by kernel_rfl) (calls_cons ((cs_cons (soundallow_some_api_SourceKind_c08 V hV) cs_nil)) (calls_nil rfl)) its_nil) rfl rfl rfl (.inl rfl) Tryz.func63
theorem soundmatch_Url_1_4de (V : Ev) (hV : V.OK) : CallSound Tryz.prog (env V []) 125 ⟨sigmatch_Url_1_4de, match_Url_1_4de V⟩ := by
  rw [← rawmatch_Url_1_4de V]
  exact aFn_sound (E2 := (env V [])) (envOK V hV (callsmatch_Url_1_4de V) [] none (by kernel_rfl) (by kernel_rfl) (calls_cons ((cs_cons (soundurl_Check_ V hV) cs_nil)) (calls_nil rfl)) its_nil) rfl rfl rfl (.inl rfl) Tryz.func125
theorem soundmatch_Scheme_ (V : Ev) (hV : V.OK) : CallSound Tryz.prog (env V []) 128 ⟨sigmatch_Scheme_, match_Scheme_ V⟩ := by
  rw [← rawmatch_Scheme_ V]
  exact aFn_sound (E2 := (env V [])) (envOK V hV (callsmatch_Scheme_ V) [] none (by kernel_rfl) (by kernel_rfl) (calls_nil rfl) its_nil) rfl rfl rfl (.inl rfl) Tryz.func128
theorem soundmatch_Url_2_9a2 (V : Ev) (hV : V.OK) : CallSound Tryz.prog (env V []) 127 ⟨sigmatch_Url_2_9a2, match_Url_2_9a2 V⟩ := by
  rw [← rawmatch_Url_2_9a2 V]
  exact aFn_sound (E2 := (env V [])) (envOK V hV (callsmatch_Url_2_9a2 V) [] none (by kernel_rfl) (by kernel_rfl) (calls_cons ((cs_cons (soundmatch_Scheme_ V hV) cs_nil)) (calls_nil rfl)) its_nil) rfl rfl rfl (.inl rfl) Tryz.func127
theorem soundmatch_all_c7a (V : Ev) (hV : V.OK) : CallSound Tryz.prog (env V []) 129 ⟨sigmatch_all_c7a, match_all_c7a V⟩ := by
  rw [← rawmatch_all_c7a V]
  exact aFn_sound (E2 := (env V [])) (envOK V hV (callsmatch_all_c7a V) [] none (by kernel_rfl) (by kernel_rfl) (calls_cons ((cs_cons (soundmatch_Url_1_4de V hV) cs_nil)) (calls_cons ((cs_cons (soundmatch_Url_2_9a2 V hV) cs_nil)) (calls_nil rfl))) its_nil) rfl rfl rfl (.inl rfl) Tryz.func129
theorem soundmatch_Url_3_4de (V : Ev) (hV : V.OK) : CallSound Tryz.prog (env V []) 130 ⟨sigmatch_Url_3_4de, match_Url_3_4de V⟩ := by
  rw [← rawmatch_Url_3_4de V]
  exact aFn_sound (E2 := (env V [])) (envOK V hV (callsmatch_Url_3_4de V) [] none (by kernel_rfl) (by kernel_rfl) (calls_nil rfl) its_nil) rfl rfl rfl (.inl rfl) Tryz.func130
theorem soundistringslite_CutSuffix_ (V : Ev) (hV : V.OK) : CallSound Tryz.prog (env V []) 208 ⟨sigistringslite_CutSuffix_, istringslite_CutSuffix_ V⟩ := by
  rw [← rawistringslite_CutSuffix_ V]
  exact aFn_sound (E2 := (env V [])) (envOK V hV (callsistringslite_CutSuffix_ V) [] none (by kernel_rfl) (by kernel_rfl) (calls_cons ((cs_cons (soundistringslite_HasSuffix_ V hV) cs_nil)) (calls_nil rfl)) its_nil) rfl rfl rfl (.inl rfl) Tryz.func208
theorem soundstrings_CutSuffix_ (V : Ev) (hV : V.OK) : CallSound Tryz.prog (env V []) 179 ⟨sigstrings_CutSuffix_, strings_CutSuffix_ V⟩ := by
  rw [← rawstrings_CutSuffix_ V]
  exact aFn_sound (E2 := (env V [])) (envOK V hV (callsstrings_CutSuffix_ V) [] none (by kernel_rfl) (by kernel_rfl) (calls_cons ((cs_cons (soundistringslite_CutSuffix_ V hV) cs_nil)) (calls_nil rfl)) its_nil) rfl rfl rfl (.inl rfl) Tryz.func179
theorem soundmatch_Host_ (V : Ev) (hV : V.OK) : CallSound Tryz.prog (env V []) 132 ⟨sigmatch_Host_, match_Host_ V⟩ := by
  rw [← rawmatch_Host_ V]
  exact aFn_sound (E2 := (env V [])) (envOK V hV (callsmatch_Host_ V) [] none (by kernel_rfl) (by kernel_rfl) (calls_cons ((cs_cons (soundfold_Lower_ V hV) cs_nil)) (calls_cons ((cs_cons (soundstrings_CutSuffix_ V hV) cs_nil)) (calls_nil rfl))) its_nil) rfl rfl rfl (.inl rfl) Tryz.func132
theorem soundmatch_Url_4_e35 (V : Ev) (hV : V.OK) : CallSound Tryz.prog (env V []) 131 ⟨sigmatch_Url_4_e35, match_Url_4_e35 V⟩ := by
  rw [← rawmatch_Url_4_e35 V]
  exact aFn_sound (E2 := (env V [])) (envOK V hV (callsmatch_Url_4_e35 V) [] none (by kernel_rfl) (by kernel_rfl) (calls_cons ((cs_cons (soundmatch_Host_ V hV) cs_nil)) (calls_nil rfl)) its_nil) rfl rfl rfl (.inl rfl) Tryz.func131
theorem soundmatch_port_ (V : Ev) (hV : V.OK) : CallSound Tryz.prog (env V []) 180 ⟨sigmatch_port_, match_port_ V⟩ := by
  rw [← rawmatch_port_ V]
  exact aFn_sound (E2 := (env V [])) (envOK V hV (callsmatch_port_ V) [] none (by kernel_rfl) (by kernel_rfl) (calls_cons ((cs_cons (soundurl_Default_ V hV) cs_nil)) (calls_nil rfl)) its_nil) rfl rfl rfl (.inl rfl) Tryz.func180
theorem soundmatch_Port_ (V : Ev) (hV : V.OK) : CallSound Tryz.prog (env V []) 134 ⟨sigmatch_Port_, match_Port_ V⟩ := by
  rw [← rawmatch_Port_ V]
  exact aFn_sound (E2 := (env V [])) (envOK V hV (callsmatch_Port_ V) [] none (by kernel_rfl) (by kernel_rfl) (calls_cons ((cs_cons (soundurl_Default_ V hV) cs_nil)) (calls_cons ((cs_cons (soundmatch_port_ V hV) cs_nil)) (calls_nil rfl))) its_nil) rfl rfl rfl (.inl rfl) Tryz.func134
theorem soundmatch_Url_5_e35 (V : Ev) (hV : V.OK) : CallSound Tryz.prog (env V []) 133 ⟨sigmatch_Url_5_e35, match_Url_5_e35 V⟩ := by
  rw [← rawmatch_Url_5_e35 V]
  exact aFn_sound (E2 := (env V [])) (envOK V hV (callsmatch_Url_5_e35 V) [] none (by kernel_rfl) (by kernel_rfl) (calls_cons ((cs_cons (soundmatch_Port_ V hV) cs_nil)) (calls_nil rfl)) its_nil) rfl rfl rfl (.inl rfl) Tryz.func133
theorem soundstrings_HasSuffix_ (V : Ev) (hV : V.OK) : CallSound Tryz.prog (env V []) 181 ⟨sigstrings_HasSuffix_, strings_HasSuffix_ V⟩ := by
  rw [← rawstrings_HasSuffix_ V]
  exact aFn_sound (E2 := (env V [])) (envOK V hV (callsstrings_HasSuffix_ V) [] none (by kernel_rfl) (by kernel_rfl) (calls_cons ((cs_cons (soundistringslite_HasSuffix_ V hV) cs_nil)) (calls_nil rfl)) its_nil) rfl rfl rfl (.inl rfl) Tryz.func181
theorem soundmatch_Path_ (V : Ev) (hV : V.OK) : CallSound Tryz.prog (env V []) 136 ⟨sigmatch_Path_, match_Path_ V⟩ := by
  rw [← rawmatch_Path_ V]
  exact aFn_sound (E2 := (env V [])) (envOK V hV (callsmatch_Path_ V) [] none (by kernel_rfl) (by kernel_rfl) (calls_cons ((cs_cons (soundstrings_HasPrefix_ V hV) cs_nil)) (calls_cons ((cs_cons (soundstrings_HasSuffix_ V hV) cs_nil)) (calls_nil rfl))) its_nil) rfl rfl rfl (.inl rfl) Tryz.func136
theorem soundmatch_Url_6_20a (V : Ev) (hV : V.OK) : CallSound Tryz.prog (env V []) 135 ⟨sigmatch_Url_6_20a, match_Url_6_20a V⟩ := by
  rw [← rawmatch_Url_6_20a V]
  exact aFn_sound (E2 := (env V [])) (envOK V hV (callsmatch_Url_6_20a V) [] none (by kernel_rfl) (by kernel_rfl) (calls_cons ((cs_cons (soundmatch_Path_ V hV) cs_nil)) (calls_nil rfl)) its_nil) rfl rfl rfl (.inl rfl) Tryz.func135
theorem soundmatch_all_8e3 (V : Ev) (hV : V.OK) : CallSound Tryz.prog (env V []) 129 ⟨sigmatch_all_8e3, match_all_8e3 V⟩ := by
  rw [← rawmatch_all_8e3 V]
  exact aFn_sound (E2 := (env V [])) (envOK V hV (callsmatch_all_8e3 V) [] none (by kernel_rfl) (by kernel_rfl) (calls_cons ((cs_cons (soundmatch_Url_1_4de V hV) cs_nil)) (calls_cons ((cs_cons (soundmatch_Url_2_9a2 V hV) cs_nil)) (calls_cons ((cs_cons (soundmatch_Url_3_4de V hV) cs_nil)) (calls_cons ((cs_cons (soundmatch_Url_4_e35 V hV) cs_nil)) (calls_cons ((cs_cons (soundmatch_Url_5_e35 V hV) cs_nil)) (calls_cons ((cs_cons (soundmatch_Url_6_20a V hV) cs_nil)) (calls_nil rfl))))))) its_nil) rfl rfl rfl (.inl rfl) Tryz.func129
theorem soundorigin_address_port_ (V : Ev) (hV : V.OK) : CallSound Tryz.prog (env V []) 182 ⟨sigorigin_address_port_, origin_address_port_ V⟩ := by
  rw [← raworigin_address_port_ V]
  exact aFn_sound (E2 := (env V [])) (envOK V hV (callsorigin_address_port_ V) [] none (by kernel_rfl) (by kernel_rfl) (calls_cons ((cs_cons (soundurl_Default_ V hV) cs_nil)) (calls_nil rfl)) its_nil) rfl rfl rfl (.inl rfl) Tryz.func182
theorem soundorigin_Of_ (V : Ev) (hV : V.OK) : CallSound Tryz.prog (env V []) 139 ⟨sigorigin_Of_, origin_Of_ V⟩ := by
  rw [← raworigin_Of_ V]
  exact aFn_sound (E2 := (env V [])) (envOK V hV (callsorigin_Of_ V) [] none (by kernel_rfl) (by kernel_rfl) (calls_cons ((cs_cons (soundurl_Check_ V hV) cs_nil)) (calls_cons ((cs_cons (soundorigin_address_port_ V hV) cs_nil)) (calls_nil rfl))) its_nil) rfl rfl rfl (.inl rfl) Tryz.func139
theorem soundorigin_Same_ (V : Ev) (hV : V.OK) : CallSound Tryz.prog (env V []) 138 ⟨sigorigin_Same_, origin_Same_ V⟩ := by
  rw [← raworigin_Same_ V]
  exact aFn_sound (E2 := (env V [])) (envOK V hV (callsorigin_Same_ V) [] none (by kernel_rfl) (by kernel_rfl) (calls_nil rfl) its_nil) rfl rfl rfl (.inl rfl) Tryz.func138
theorem soundmatch_Url_7_631 (V : Ev) (hV : V.OK) : CallSound Tryz.prog (env V []) 137 ⟨sigmatch_Url_7_631, match_Url_7_631 V⟩ := by
  rw [← rawmatch_Url_7_631 V]
  exact aFn_sound (E2 := (env V [])) (envOK V hV (callsmatch_Url_7_631 V) [] none (by kernel_rfl) (by kernel_rfl) (calls_nil rfl) its_nil) rfl rfl rfl (.inl rfl) Tryz.func137
theorem soundmatch_Url_8_631 (V : Ev) (hV : V.OK) : CallSound Tryz.prog (env V []) 140 ⟨sigmatch_Url_8_631, match_Url_8_631 V⟩ := by
  rw [← rawmatch_Url_8_631 V]
  exact aFn_sound (E2 := (env V [])) (envOK V hV (callsmatch_Url_8_631 V) [] none (by kernel_rfl) (by kernel_rfl) (calls_cons ((cs_cons (soundurl_Check_ V hV) cs_nil)) (calls_cons ((cs_cons (soundmatch_Scheme_ V hV) cs_nil)) (calls_nil rfl))) its_nil) rfl rfl rfl (.inl rfl) Tryz.func140
theorem soundmatch_all_93a (V : Ev) (hV : V.OK) : CallSound Tryz.prog (env V []) 129 ⟨sigmatch_all_93a, match_all_93a V⟩ := by
  rw [← rawmatch_all_93a V]
  exact aFn_sound (E2 := (env V [])) (envOK V hV (callsmatch_all_93a V) [] none (by kernel_rfl) (by kernel_rfl) (calls_cons ((cs_cons (soundmatch_Url_1_4de V hV) cs_nil)) (calls_cons ((cs_cons (soundmatch_Url_7_631 V hV) cs_nil)) (calls_cons ((cs_cons (soundmatch_Url_8_631 V hV) cs_nil)) (calls_nil rfl)))) its_nil) rfl rfl rfl (.inl rfl) Tryz.func129
theorem soundmatch_Url_ (V : Ev) (hV : V.OK) : CallSound Tryz.prog (env V []) 94 ⟨sigmatch_Url_, match_Url_ V⟩ := by
  rw [← rawmatch_Url_ V]
  exact aFn_sound (E2 := (env V [])) (envOK V hV (callsmatch_Url_ V) [] none (by kernel_rfl) (by kernel_rfl) (calls_cons ((cs_cons (soundmatch_all_c7a V hV) (cs_cons (soundmatch_all_8e3 V hV) (cs_cons (soundmatch_all_93a V hV) cs_nil)))) (calls_cons ((cs_cons (soundorigin_Same_ V hV) cs_nil)) (calls_cons ((cs_cons (soundorigin_Of_ V hV) cs_nil)) (calls_nil rfl)))) its_nil) rfl rfl rfl (.inl rfl) Tryz.func94
theorem soundallow_Url_1_cbd (V : Ev) (hV : V.OK) : CallSound Tryz.prog (env V []) 93 ⟨sigallow_Url_1_cbd, allow_Url_1_cbd V⟩ := by
  rw [← rawallow_Url_1_cbd V]
  exact aFn_sound (E2 := (env V [])) (envOK V hV (callsallow_Url_1_cbd V) [] none (by kernel_rfl) (by kernel_rfl) (calls_cons ((cs_cons (soundmatch_Url_ V hV) cs_nil)) (calls_nil rfl)) its_nil) rfl rfl rfl (.inl rfl) Tryz.func93
theorem soundallow_some_api_Source_3c0 (V : Ev) (hV : V.OK) : CallSound Tryz.prog (env V []) 91 ⟨sigallow_some_api_Source_3c0, allow_some_api_Source_3c0 V⟩ := by
  rw [← rawallow_some_api_Source_3c0 V]
  exact aFn_sound (E2 := (env V [])) (envOK V hV (callsallow_some_api_Source_3c0 V) [] none (by kernel_rfl) (by kernel_rfl) (calls_cons ((cs_cons (soundallow_Url_1_cbd V hV) cs_nil)) (calls_nil rfl)) its_nil) rfl rfl rfl (.inl rfl) Tryz.func91
theorem soundallow_Url_ (V : Ev) (hV : V.OK) : CallSound Tryz.prog (env V []) 64 ⟨sigallow_Url_, allow_Url_ V⟩ := by
  rw [← rawallow_Url_ V]
  exact aFn_sound (E2 := (env V [])) (envOK V hV (callsallow_Url_ V) [] none (by kernel_rfl) (by kernel_rfl) (calls_cons ((cs_cons (soundallow_some_api_Source_3c0 V hV) cs_nil)) (calls_nil rfl)) its_nil) rfl rfl rfl (.inl rfl) Tryz.func64
theorem soundallow_Fetch_ (V : Ev) (hV : V.OK) : CallSound Tryz.prog (env V []) 46 ⟨sigallow_Fetch_, allow_Fetch_ V⟩ := by
  rw [← rawallow_Fetch_ V]
  exact aFn_sound (E2 := (env V [])) (envOK V hV (callsallow_Fetch_ V) [] none (by kernel_rfl) (by kernel_rfl) (calls_cons ((cs_cons (soundallow_Nonce_ V hV) cs_nil)) (calls_cons ((cs_cons (soundallow_has_ V hV) cs_nil)) (calls_cons ((cs_cons (soundallow_Url_ V hV) cs_nil)) (calls_nil rfl)))) its_nil) rfl rfl rfl (.inl rfl) Tryz.func46
theorem soundallow_Eval_ (V : Ev) (hV : V.OK) : CallSound Tryz.prog (env V []) 47 ⟨sigallow_Eval_, allow_Eval_ V⟩ := by
  rw [← rawallow_Eval_ V]
  exact aFn_sound (E2 := (env V [])) (envOK V hV (callsallow_Eval_ V) [] none (by kernel_rfl) (by kernel_rfl) (calls_cons ((cs_cons (soundallow_has_ V hV) cs_nil)) (calls_nil rfl)) its_nil) rfl rfl rfl (.inl rfl) Tryz.func47
theorem soundallow_Loose_ (V : Ev) (hV : V.OK) : CallSound Tryz.prog (env V []) 65 ⟨sigallow_Loose_, allow_Loose_ V⟩ := by
  rw [← rawallow_Loose_ V]
  exact aFn_sound (E2 := (env V [])) (envOK V hV (callsallow_Loose_ V) [] none (by kernel_rfl) (by kernel_rfl) (calls_cons ((cs_cons (soundallow_has_ V hV) cs_nil)) (calls_nil rfl)) its_nil) rfl rfl rfl (.inl rfl) Tryz.func65
theorem soundmark_New_775 (V : Ev) (hV : V.OK) : CallSound Tryz.prog (env V []) 35 ⟨sigmark_New_775, mark_New_775 V⟩ := by
  rw [← rawmark_New_775 V]
  exact aFn_sound (E2 := (env V [])) (envOK V hV (callsmark_New_775 V) [] none (by kernel_rfl) (by kernel_rfl) (calls_nil rfl) its_nil) rfl rfl rfl (.inl rfl) Tryz.func35
theorem soundmark_Maker_Add_f92 (V : Ev) (hV : V.OK) : CallSound Tryz.prog (env V []) 36 ⟨sigmark_Maker_Add_f92, mark_Maker_Add_f92 V⟩ := by
  rw [← rawmark_Maker_Add_f92 V]
  exact aFn_sound (E2 := (env V [])) (envOK V hV (callsmark_Maker_Add_f92 V) [] none (by kernel_rfl) (by kernel_rfl) (calls_nil rfl) its_nil) rfl rfl rfl (.inl rfl) Tryz.func36
theorem soundmark_Maker_Mark_def (V : Ev) (hV : V.OK) : CallSound Tryz.prog (env V []) 37 ⟨sigmark_Maker_Mark_def, mark_Maker_Mark_def V⟩ := by
  rw [← rawmark_Maker_Mark_def V]
  exact aFn_sound (E2 := (env V [])) (envOK V hV (callsmark_Maker_Mark_def V) [] none (by kernel_rfl) (by kernel_rfl) (calls_nil rfl) its_nil) rfl rfl rfl (.inl rfl) Tryz.func37
theorem soundmark_Of_ (V : Ev) (hV : V.OK) : CallSound Tryz.prog (env V []) 12 ⟨sigmark_Of_, mark_Of_ V⟩ := by
  rw [← rawmark_Of_ V]
  exact aFn_sound (E2 := (env V [])) (envOK V hV (callsmark_Of_ V) [] none (by kernel_rfl) (by kernel_rfl) (calls_cons ((cs_cons (soundmark_New_775 V hV) cs_nil)) (calls_cons ((cs_cons (soundmark_Maker_Add_f92 V hV) cs_nil)) (calls_cons ((cs_cons (soundmark_Maker_Mark_def V hV) cs_nil)) (calls_nil rfl)))) its_nil) rfl rfl rfl (.inl rfl) Tryz.func12
theorem soundallow_Hash_ (V : Ev) (hV : V.OK) : CallSound Tryz.prog (env V []) 66 ⟨sigallow_Hash_, allow_Hash_ V⟩ := by
  rw [← rawallow_Hash_ V]
  exact aFn_sound (E2 := (env V [])) (envOK V hV (callsallow_Hash_ V) [] none (by kernel_rfl) (by kernel_rfl) (calls_cons ((cs_cons (soundmark_Of_ V hV) cs_nil)) (calls_cons ((cs_cons (soundallow_text_ V hV) cs_nil)) (calls_nil rfl))) its_nil) rfl rfl rfl (.inl rfl) Tryz.func66
theorem soundallow_Inline_ (V : Ev) (hV : V.OK) : CallSound Tryz.prog (env V []) 48 ⟨sigallow_Inline_, allow_Inline_ V⟩ := by
  rw [← rawallow_Inline_ V]
  exact aFn_sound (E2 := (env V [])) (envOK V hV (callsallow_Inline_ V) [] none (by kernel_rfl) (by kernel_rfl) (calls_cons ((cs_cons (soundallow_Nonce_ V hV) cs_nil)) (calls_cons ((cs_cons (soundallow_has_ V hV) cs_nil)) (calls_cons ((cs_cons (soundallow_Loose_ V hV) cs_nil)) (calls_cons ((cs_cons (soundallow_Hash_ V hV) cs_nil)) (calls_nil rfl))))) its_nil) rfl rfl rfl (.inl rfl) Tryz.func48
theorem soundchain_One_ (V : Ev) (hV : V.OK) : CallSound Tryz.prog (env V []) 26 ⟨sigchain_One_, chain_One_ V⟩ := by
  rw [← rawchain_One_ V]
  exact aFn_sound (E2 := (env V [])) (envOK V hV (callschain_One_ V) [] none (by kernel_rfl) (by kernel_rfl) (calls_cons ((cs_cons (soundchain_Effective_ V hV) cs_nil)) (calls_cons ((cs_cons (soundallow_Fetch_ V hV) cs_nil)) (calls_cons ((cs_cons (soundallow_Eval_ V hV) cs_nil)) (calls_cons ((cs_cons (soundallow_Inline_ V hV) cs_nil)) (calls_nil rfl))))) its_nil) rfl rfl rfl (.inl rfl) Tryz.func26
theorem soundslices_All__api_Policy_api_Policy_1_f61 (V : Ev) (hV : V.OK) (Y : (sigY3fa5).In → Option (sigY3fa5).Out) : CallSound Tryz.prog (envI V [] [] (some ⟨sigY3fa5, Y⟩)) 72 ⟨sigslices_All__api_Policy_api_Policy_1_f61, slices_All__api_Policy_api_Policy_1_f61 V Y⟩ := by
  rw [← rawslices_All__api_Policy_api_Policy_1_f61 V Y]
  exact aFn_sound (E2 := (envI V [] [] (some ⟨sigY3fa5, Y⟩))) (envOK V hV (callsslices_All__api_Policy_api_Policy_1_f61 V Y) [] (some ⟨sigY3fa5, Y⟩) (by kernel_rfl) (by kernel_rfl) (calls_nil rfl) its_nil) rfl rfl rfl (.inr ⟨rfl, _, rfl⟩) Tryz.func72
theorem soundchain_All_ (V : Ev) (hV : V.OK) : CallSound Tryz.prog (env V []) 29 ⟨sigchain_All_, chain_All_ V⟩ := by
  rw [← rawchain_All_ V]
  exact aFn_sound (E2 := (env V [])) (envOK V hV (callschain_All_ V) (itschain_All_ V) none (by kernel_rfl) (by kernel_rfl) (calls_cons ((cs_cons (soundchain_One_ V hV) cs_nil)) (calls_cons ((cs_cons (soundslices_All__api_Policy_api_Policy_328 V hV) cs_nil)) (calls_nil rfl))) (its_cons (itl_cons (soundslices_All__api_Policy_api_Policy_1_f61 V hV) itl_nil) its_nil)) rfl rfl rfl (.inl rfl) Tryz.func29
theorem soundpouncelaw12_says_ (V : Ev) (hV : V.OK) : CallSound Tryz.prog (env V []) 44 ⟨sigpouncelaw12_says_, pouncelaw12_says_ V⟩ := by
  rw [← rawpouncelaw12_says_ V]
  exact aFn_sound (E2 := (env V [])) (envOK V hV (callspouncelaw12_says_ V) [] none (by kernel_rfl) (by kernel_rfl) (calls_cons ((cs_cons (soundchain_All_ V hV) cs_nil)) (calls_cons ((cs_cons (soundheader_Parse_ V hV) cs_nil)) (calls_nil rfl))) its_nil) rfl rfl rfl (.inl rfl) Tryz.func44
theorem soundpounceref12_Same_ (V : Ev) (hV : V.OK) : CallSound Tryz.prog (env V []) 28 ⟨sigpounceref12_Same_, pounceref12_Same_ V⟩ := by
  rw [← rawpounceref12_Same_ V]
  exact aFn_sound (E2 := (env V [])) (envOK V hV (callspounceref12_Same_ V) [] none (by kernel_rfl) (by kernel_rfl) (calls_nil rfl) its_nil) rfl rfl rfl (.inl rfl) Tryz.func28
theorem soundpouncelaw12_chains_ (V : Ev) (hV : V.OK) : CallSound Tryz.prog (env V []) 19 ⟨sigpouncelaw12_chains_, pouncelaw12_chains_ V⟩ := by
  rw [← rawpouncelaw12_chains_ V]
  exact aFn_sound (E2 := (env V [])) (envOK V hV (callspouncelaw12_chains_ V) [] none (by kernel_rfl) (by kernel_rfl) (calls_cons ((cs_cons (soundchain_Names_ V hV) cs_nil)) (calls_cons ((cs_cons (soundpounceref12_Same_ V hV) cs_nil)) (calls_cons ((cs_cons (soundchain_All_ V hV) cs_nil)) (calls_cons ((cs_cons (soundheader_Parse_ V hV) cs_nil)) (calls_cons ((cs_cons (soundpouncelaw12_says_ V hV) cs_nil)) (calls_nil rfl)))))) its_nil) rfl rfl rfl (.inl rfl) Tryz.func19
theorem soundpounceref02_Big_ (V : Ev) (hV : V.OK) : CallSound Tryz.prog (env V []) 39 ⟨sigpounceref02_Big_, pounceref02_Big_ V⟩ := by
  rw [← rawpounceref02_Big_ V]
  exact aFn_sound (E2 := (env V [])) (envOK V hV (callspounceref02_Big_ V) [] none (by kernel_rfl) (by kernel_rfl) (calls_nil rfl) its_nil) rfl rfl rfl (.inl rfl) Tryz.func39
theorem soundpounceref08_Big_ (V : Ev) (hV : V.OK) : CallSound Tryz.prog (env V []) 15 ⟨sigpounceref08_Big_, pounceref08_Big_ V⟩ := by
  rw [← rawpounceref08_Big_ V]
  exact aFn_sound (E2 := (env V [])) (envOK V hV (callspounceref08_Big_ V) [] none (by kernel_rfl) (by kernel_rfl) (calls_cons ((cs_cons (soundpounceref02_Big_ V hV) cs_nil)) (calls_nil rfl)) its_nil) rfl rfl rfl (.inl rfl) Tryz.func15
theorem soundpounceref05_Big_ (V : Ev) (hV : V.OK) : CallSound Tryz.prog (env V []) 61 ⟨sigpounceref05_Big_, pounceref05_Big_ V⟩ := by
  rw [← rawpounceref05_Big_ V]
  exact aFn_sound (E2 := (env V [])) (envOK V hV (callspounceref05_Big_ V) [] none (by kernel_rfl) (by kernel_rfl) (calls_nil rfl) its_nil) rfl rfl rfl (.inl rfl) Tryz.func61
theorem soundpounceref11_Big_ (V : Ev) (hV : V.OK) : CallSound Tryz.prog (env V []) 45 ⟨sigpounceref11_Big_, pounceref11_Big_ V⟩ := by
  rw [← rawpounceref11_Big_ V]
  exact aFn_sound (E2 := (env V [])) (envOK V hV (callspounceref11_Big_ V) [] none (by kernel_rfl) (by kernel_rfl) (calls_cons ((cs_cons (soundpounceref05_Big_ V hV) cs_nil)) (calls_nil rfl)) its_nil) rfl rfl rfl (.inl rfl) Tryz.func45
theorem soundpouncelaw12_large_ (V : Ev) (hV : V.OK) : CallSound Tryz.prog (env V []) 25 ⟨sigpouncelaw12_large_, pouncelaw12_large_ V⟩ := by
  rw [← rawpouncelaw12_large_ V]
  exact aFn_sound (E2 := (env V [])) (envOK V hV (callspouncelaw12_large_ V) [] none (by kernel_rfl) (by kernel_rfl) (calls_cons ((cs_cons (soundpounceref08_Big_ V hV) cs_nil)) (calls_cons ((cs_cons (soundpounceref11_Big_ V hV) cs_nil)) (calls_nil rfl))) its_nil) rfl rfl rfl (.inl rfl) Tryz.func25
theorem soundpouncelaw12_ChainMore_ (V : Ev) (hV : V.OK) : CallSound Tryz.prog (env V []) 7 ⟨sigpouncelaw12_ChainMore_, pouncelaw12_ChainMore_ V⟩ := by
  rw [← rawpouncelaw12_ChainMore_ V]
  exact aFn_sound (E2 := (env V [])) (envOK V hV (callspouncelaw12_ChainMore_ V) [] none (by kernel_rfl) (by kernel_rfl) (calls_cons ((cs_cons (soundpounceref08_Big_ V hV) cs_nil)) (calls_cons ((cs_cons (soundpouncelaw12_chains_ V hV) cs_nil)) (calls_cons ((cs_cons (soundpouncelaw12_large_ V hV) cs_nil)) (calls_cons ((cs_cons (soundchain_One_ V hV) cs_nil)) (calls_cons ((cs_cons (soundchain_All_ V hV) cs_nil)) (calls_nil rfl)))))) its_nil) rfl rfl rfl (.inl rfl) Tryz.func7
theorem soundpouncelaw12_ChainFree_ (V : Ev) (hV : V.OK) : CallSound Tryz.prog (env V []) 8 ⟨sigpouncelaw12_ChainFree_, pouncelaw12_ChainFree_ V⟩ := by
  rw [← rawpouncelaw12_ChainFree_ V]
  exact aFn_sound (E2 := (env V [])) (envOK V hV (callspouncelaw12_ChainFree_ V) [] none (by kernel_rfl) (by kernel_rfl) (calls_cons ((cs_cons (soundchain_Effective_ V hV) cs_nil)) (calls_cons ((cs_cons (soundpouncelaw12_chains_ V hV) cs_nil)) (calls_cons ((cs_cons (soundchain_Names_ V hV) cs_nil)) (calls_cons ((cs_cons (soundpouncelaw12_large_ V hV) cs_nil)) (calls_cons ((cs_cons (soundchain_One_ V hV) cs_nil)) (calls_cons ((cs_cons (soundheader_Find_ V hV) cs_nil)) (calls_nil rfl))))))) its_nil) rfl rfl rfl (.inl rfl) Tryz.func8
theorem soundpouncelaw12_ChainReports_ (V : Ev) (hV : V.OK) : CallSound Tryz.prog (env V []) 9 ⟨sigpouncelaw12_ChainReports_, pouncelaw12_ChainReports_ V⟩ := by
  rw [← rawpouncelaw12_ChainReports_ V]
  exact aFn_sound (E2 := (env V [])) (envOK V hV (callspouncelaw12_ChainReports_ V) [] none (by kernel_rfl) (by kernel_rfl) (calls_cons ((cs_cons (soundpouncelaw12_chains_ V hV) cs_nil)) (calls_cons ((cs_cons (soundpouncelaw12_large_ V hV) cs_nil)) (calls_cons ((cs_cons (soundchain_All_ V hV) cs_nil)) (calls_nil rfl)))) its_nil) rfl rfl rfl (.inl rfl) Tryz.func9
end Go.En.Pl
