/- Text S of this seat: written by a program of ours, or by hand; checked by Lean. -/
import Derived.Test.YtlambcopphejaaaGreatDoorG
import Derived.Test.YtlambcopphejaaaGreatDoorLay
set_option linter.unusedVariables false
namespace Go.En.Pl
open Go.Proofs
theorem eqsOK : ∀ t, eqs.contains t = true → EqTy Tryz.prog t :=
  (eqs_cons ⟨by kernel_rfl, by kernel_rfl, by kernel_rfl, by kernel_rfl⟩ (eqs_cons ⟨by kernel_rfl, by kernel_rfl, by kernel_rfl, by kernel_rfl⟩ (eqs_cons ⟨by kernel_rfl, by kernel_rfl, by kernel_rfl, by kernel_rfl⟩ eqs_nil)))
theorem extsOK : ∀ f x, exts.lookup f = some x → ExtOK Tryz.prog f x :=
  (exts_cons (ext_indexByte Tryz.func102 (by kernel_rfl) (by kernel_rfl) (by kernel_rfl) (by kernel_rfl)) exts_nil)
theorem envOK (V : Ev) (hV : V.OK) (l : List (FuncId × List CSpec)) (h1 : l.all (fun p => EnterOK Tryz.prog p.1) = true) (h2 : ∀ g s, s ∈ ((l.lookup g).getD []) → CallSound Tryz.prog (env V []) g s) : EnvOK Tryz.prog (env V l) where
  types := TypesOK.of_tab rfl (tabOK V l) eqsOK
  calls := fun g s hs => (h2 g s hs).env rfl rfl rfl
  mixed := by kernel_rfl
  ext := fun f h => extsOK f _ h rfl
  it := hV.it
  enters := enters_of_all h1

theorem soundtoken_text_left_4fb (V : Ev) (hV : V.OK) : CallSound Tryz.prog (env V []) 62 ⟨sigtoken_text_left_4fb, token_text_left_4fb V⟩ := by
  rw [← rawtoken_text_left_4fb V]
  exact aFn_sound (E2 := env V []) (envOK V hV (callstoken_text_left_4fb V) (by kernel_rfl) (calls_nil rfl)) rfl rfl rfl Tryz.func62
theorem soundtoken_letter_ (V : Ev) (hV : V.OK) : CallSound Tryz.prog (env V []) 63 ⟨sigtoken_letter_, token_letter_ V⟩ := by
  rw [← rawtoken_letter_ V]
  exact aFn_sound (E2 := env V []) (envOK V hV (callstoken_letter_ V) (by kernel_rfl) (calls_nil rfl)) rfl rfl rfl Tryz.func63
theorem soundistringslite_IndexByte_ (V : Ev) (hV : V.OK) : CallSound Tryz.prog (env V []) 75 ⟨sigistringslite_IndexByte_, istringslite_IndexByte_ V⟩ := by
  rw [← rawistringslite_IndexByte_ V]
  exact aFn_sound (E2 := env V []) (envOK V hV (callsistringslite_IndexByte_ V) (by kernel_rfl) (calls_nil rfl)) rfl rfl rfl Tryz.func75
theorem soundstrings_IndexByte_ (V : Ev) (hV : V.OK) : CallSound Tryz.prog (env V []) 51 ⟨sigstrings_IndexByte_, strings_IndexByte_ V⟩ := by
  rw [← rawstrings_IndexByte_ V]
  exact aFn_sound (E2 := env V []) (envOK V hV (callsstrings_IndexByte_ V) (by kernel_rfl) (calls_cons ((cs_cons (soundistringslite_IndexByte_ V hV) cs_nil)) (calls_nil rfl))) rfl rfl rfl Tryz.func51
theorem soundfold_set_has_ (V : Ev) (hV : V.OK) : CallSound Tryz.prog (env V []) 111 ⟨sigfold_set_has_, fold_set_has_ V⟩ := by
  rw [← rawfold_set_has_ V]
  exact aFn_sound (E2 := env V []) (envOK V hV (callsfold_set_has_ V) (by kernel_rfl) (calls_cons ((cs_cons (soundstrings_IndexByte_ V hV) cs_nil)) (calls_nil rfl))) rfl rfl rfl Tryz.func111
theorem soundfold_Blank_ (V : Ev) (hV : V.OK) : CallSound Tryz.prog (env V []) 88 ⟨sigfold_Blank_, fold_Blank_ V⟩ := by
  rw [← rawfold_Blank_ V]
  exact aFn_sound (E2 := env V []) (envOK V hV (callsfold_Blank_ V) (by kernel_rfl) (calls_cons ((cs_cons (soundfold_set_has_ V hV) cs_nil)) (calls_nil rfl))) rfl rfl rfl Tryz.func88
theorem soundtoken_cursor_tag_1_ (V : Ev) (hV : V.OK) : CallSound Tryz.prog (env V []) 87 ⟨sigtoken_cursor_tag_1_, token_cursor_tag_1_ V⟩ := by
  rw [← rawtoken_cursor_tag_1_ V]
  exact aFn_sound (E2 := env V []) (envOK V hV (callstoken_cursor_tag_1_ V) (by kernel_rfl) (calls_cons ((cs_cons (soundfold_Blank_ V hV) cs_nil)) (calls_nil rfl))) rfl rfl rfl Tryz.func87
theorem soundtoken_text_take_a2b (V : Ev) (hV : V.OK) : CallSound Tryz.prog (env V []) 38 ⟨sigtoken_text_take_a2b, token_text_take_a2b V⟩ := by
  rw [← rawtoken_text_take_a2b V]
  exact aFn_sound (E2 := env V []) (envOK V hV (callstoken_text_take_a2b V) (by kernel_rfl) (calls_cons ((cs_cons (soundtoken_cursor_tag_1_ V hV) cs_nil)) (calls_nil rfl))) rfl rfl rfl Tryz.func38
theorem soundfold_Lower_ (V : Ev) (hV : V.OK) : CallSound Tryz.prog (env V []) 86 ⟨sigfold_Lower_, fold_Lower_ V⟩ := by
  rw [← rawfold_Lower_ V]
  exact aFn_sound (E2 := env V []) (envOK V hV (callsfold_Lower_ V) (by kernel_rfl) (calls_nil rfl)) rfl rfl rfl Tryz.func86
theorem soundtoken_cursor_tell_3d6 (V : Ev) (hV : V.OK) : CallSound Tryz.prog (env V []) 40 ⟨sigtoken_cursor_tell_3d6, token_cursor_tell_3d6 V⟩ := by
  rw [← rawtoken_cursor_tell_3d6 V]
  exact aFn_sound (E2 := env V []) (envOK V hV (callstoken_cursor_tell_3d6 V) (by kernel_rfl) (calls_nil rfl)) rfl rfl rfl Tryz.func40
theorem soundtoken_Raw_ (V : Ev) (hV : V.OK) : CallSound Tryz.prog (env V []) 20 ⟨sigtoken_Raw_, token_Raw_ V⟩ := by
  rw [← rawtoken_Raw_ V]
  exact aFn_sound (E2 := env V []) (envOK V hV (callstoken_Raw_ V) (by kernel_rfl) (calls_nil rfl)) rfl rfl rfl Tryz.func20
theorem soundfold_Same_ (V : Ev) (hV : V.OK) : CallSound Tryz.prog (env V []) 91 ⟨sigfold_Same_, fold_Same_ V⟩ := by
  rw [← rawfold_Same_ V]
  exact aFn_sound (E2 := env V []) (envOK V hV (callsfold_Same_ V) (by kernel_rfl) (calls_cons ((cs_cons (soundfold_Lower_ V hV) cs_nil)) (calls_nil rfl))) rfl rfl rfl Tryz.func91
theorem soundtoken_text_is_129 (V : Ev) (hV : V.OK) : CallSound Tryz.prog (env V []) 65 ⟨sigtoken_text_is_129, token_text_is_129 V⟩ := by
  rw [← rawtoken_text_is_129 V]
  exact aFn_sound (E2 := env V []) (envOK V hV (callstoken_text_is_129 V) (by kernel_rfl) (calls_cons ((cs_cons (soundtoken_text_left_4fb V hV) cs_nil)) (calls_cons ((cs_cons (soundfold_Same_ V hV) cs_nil)) (calls_nil rfl)))) rfl rfl rfl Tryz.func65
theorem soundtoken_plain_ (V : Ev) (hV : V.OK) : CallSound Tryz.prog (env V []) 47 ⟨sigtoken_plain_, token_plain_ V⟩ := by
  rw [← rawtoken_plain_ V]
  exact aFn_sound (E2 := env V []) (envOK V hV (callstoken_plain_ V) (by kernel_rfl) (calls_nil rfl)) rfl rfl rfl Tryz.func47
theorem soundistringslite_Index_ (V : Ev) : CallSound Tryz.prog (env V []) 103 ⟨sigistringslite_Index_, istringslite_Index_ V⟩ := given_index layIndex rfl
theorem soundistringslite_Cut_ (V : Ev) (hV : V.OK) : CallSound Tryz.prog (env V []) 76 ⟨sigistringslite_Cut_, istringslite_Cut_ V⟩ := by
  rw [← rawistringslite_Cut_ V]
  exact aFn_sound (E2 := env V []) (envOK V hV (callsistringslite_Cut_ V) (by kernel_rfl) (calls_cons ((cs_cons (soundistringslite_Index_ V) cs_nil)) (calls_nil rfl))) rfl rfl rfl Tryz.func76
theorem soundstrings_Cut_ (V : Ev) (hV : V.OK) : CallSound Tryz.prog (env V []) 52 ⟨sigstrings_Cut_, strings_Cut_ V⟩ := by
  rw [← rawstrings_Cut_ V]
  exact aFn_sound (E2 := env V []) (envOK V hV (callsstrings_Cut_ V) (by kernel_rfl) (calls_cons ((cs_cons (soundistringslite_Cut_ V hV) cs_nil)) (calls_nil rfl))) rfl rfl rfl Tryz.func52
theorem soundentity_Name_ (V : Ev) (hV : V.OK) : CallSound Tryz.prog (env V []) 77 ⟨sigentity_Name_, entity_Name_ V⟩ := by
  rw [← rawentity_Name_ V]
  exact aFn_sound (E2 := env V []) (envOK V hV (callsentity_Name_ V) (by kernel_rfl) (calls_nil rfl)) rfl rfl rfl Tryz.func77
theorem soundistringslite_HasPrefix_ (V : Ev) (hV : V.OK) : CallSound Tryz.prog (env V []) 127 ⟨sigistringslite_HasPrefix_, istringslite_HasPrefix_ V⟩ := by
  rw [← rawistringslite_HasPrefix_ V]
  exact aFn_sound (E2 := env V []) (envOK V hV (callsistringslite_HasPrefix_ V) (by kernel_rfl) (calls_nil rfl)) rfl rfl rfl Tryz.func127
theorem soundistringslite_CutPrefix_ (V : Ev) (hV : V.OK) : CallSound Tryz.prog (env V []) 104 ⟨sigistringslite_CutPrefix_, istringslite_CutPrefix_ V⟩ := by
  rw [← rawistringslite_CutPrefix_ V]
  exact aFn_sound (E2 := env V []) (envOK V hV (callsistringslite_CutPrefix_ V) (by kernel_rfl) (calls_cons ((cs_cons (soundistringslite_HasPrefix_ V hV) cs_nil)) (calls_nil rfl))) rfl rfl rfl Tryz.func104
theorem soundstrings_CutPrefix_ (V : Ev) (hV : V.OK) : CallSound Tryz.prog (env V []) 78 ⟨sigstrings_CutPrefix_, strings_CutPrefix_ V⟩ := by
  rw [← rawstrings_CutPrefix_ V]
  exact aFn_sound (E2 := env V []) (envOK V hV (callsstrings_CutPrefix_ V) (by kernel_rfl) (calls_cons ((cs_cons (soundistringslite_CutPrefix_ V hV) cs_nil)) (calls_nil rfl))) rfl rfl rfl Tryz.func78
theorem soundstrings_Index_ (V : Ev) (hV : V.OK) : CallSound Tryz.prog (env V []) 128 ⟨sigstrings_Index_, strings_Index_ V⟩ := by
  rw [← rawstrings_Index_ V]
  exact aFn_sound (E2 := env V []) (envOK V hV (callsstrings_Index_ V) (by kernel_rfl) (calls_cons ((cs_cons (soundistringslite_Index_ V) cs_nil)) (calls_nil rfl))) rfl rfl rfl Tryz.func128
theorem soundstrings_Contains_ (V : Ev) (hV : V.OK) : CallSound Tryz.prog (env V []) 105 ⟨sigstrings_Contains_, strings_Contains_ V⟩ := by
  rw [← rawstrings_Contains_ V]
  exact aFn_sound (E2 := env V []) (envOK V hV (callsstrings_Contains_ V) (by kernel_rfl) (calls_cons ((cs_cons (soundstrings_Index_ V hV) cs_nil)) (calls_nil rfl))) rfl rfl rfl Tryz.func105
theorem soundistrconv_lower_ (V : Ev) (hV : V.OK) : CallSound Tryz.prog (env V []) 160 ⟨sigistrconv_lower_, istrconv_lower_ V⟩ := by
  rw [← rawistrconv_lower_ V]
  exact aFn_sound (E2 := env V []) (envOK V hV (callsistrconv_lower_ V) (by kernel_rfl) (calls_nil rfl)) rfl rfl rfl Tryz.func160
theorem soundistrconv_underscoreOK_ (V : Ev) (hV : V.OK) : CallSound Tryz.prog (env V []) 161 ⟨sigistrconv_underscoreOK_, istrconv_underscoreOK_ V⟩ := by
  rw [← rawistrconv_underscoreOK_ V]
  exact aFn_sound (E2 := env V []) (envOK V hV (callsistrconv_underscoreOK_ V) (by kernel_rfl) (calls_cons ((cs_cons (soundistrconv_lower_ V hV) cs_nil)) (calls_nil rfl))) rfl rfl rfl Tryz.func161
theorem soundistrconv_ParseUint_ (V : Ev) (hV : V.OK) : CallSound Tryz.prog (env V []) 149 ⟨sigistrconv_ParseUint_, istrconv_ParseUint_ V⟩ := by
  rw [← rawistrconv_ParseUint_ V]
  exact aFn_sound (E2 := env V []) (envOK V hV (callsistrconv_ParseUint_ V) (by kernel_rfl) (calls_cons ((cs_cons (soundistrconv_lower_ V hV) cs_nil)) (calls_cons ((cs_cons (soundistrconv_underscoreOK_ V hV) cs_nil)) (calls_nil rfl)))) rfl rfl rfl Tryz.func149
theorem soundistrconv_ParseInt_ (V : Ev) (hV : V.OK) : CallSound Tryz.prog (env V []) 129 ⟨sigistrconv_ParseInt_, istrconv_ParseInt_ V⟩ := by
  rw [← rawistrconv_ParseInt_ V]
  exact aFn_sound (E2 := env V []) (envOK V hV (callsistrconv_ParseInt_ V) (by kernel_rfl) (calls_cons ((cs_cons (soundistrconv_ParseUint_ V hV) cs_nil)) (calls_nil rfl))) rfl rfl rfl Tryz.func129
theorem soundistringslite_Clone_ (V : Ev) (hV : V.OK) : CallSound Tryz.prog (env V []) 162 ⟨sigistringslite_Clone_, istringslite_Clone_ V⟩ := by
  rw [← rawistringslite_Clone_ V]
  exact aFn_sound (E2 := env V []) (envOK V hV (callsistringslite_Clone_ V) (by kernel_rfl) (calls_nil rfl)) rfl rfl rfl Tryz.func162
theorem soundstrconv_syntaxError_d9f (V : Ev) (hV : V.OK) : CallSound Tryz.prog (env V []) 150 ⟨sigstrconv_syntaxError_d9f, strconv_syntaxError_d9f V⟩ := by
  rw [← rawstrconv_syntaxError_d9f V]
  exact aFn_sound (E2 := env V []) (envOK V hV (callsstrconv_syntaxError_d9f V) (by kernel_rfl) (calls_cons ((cs_cons (soundistringslite_Clone_ V hV) cs_nil)) (calls_nil rfl))) rfl rfl rfl Tryz.func150
theorem soundstrconv_rangeError_d9f (V : Ev) (hV : V.OK) : CallSound Tryz.prog (env V []) 151 ⟨sigstrconv_rangeError_d9f, strconv_rangeError_d9f V⟩ := by
  rw [← rawstrconv_rangeError_d9f V]
  exact aFn_sound (E2 := env V []) (envOK V hV (callsstrconv_rangeError_d9f V) (by kernel_rfl) (calls_cons ((cs_cons (soundistringslite_Clone_ V hV) cs_nil)) (calls_nil rfl))) rfl rfl rfl Tryz.func151
theorem soundistrconv_Itoa_ (V : Ev) : CallSound Tryz.prog (env V []) 167 ⟨sigistrconv_Itoa_, istrconv_Itoa_ V⟩ := given_itoa (g := 6) (t := 194) layItoa (by kernel_rfl) (by kernel_rfl)
theorem soundstrconv_Itoa_ (V : Ev) (hV : V.OK) : CallSound Tryz.prog (env V []) 164 ⟨sigstrconv_Itoa_, strconv_Itoa_ V⟩ := by
  rw [← rawstrconv_Itoa_ V]
  exact aFn_sound (E2 := env V []) (envOK V hV (callsstrconv_Itoa_ V) (by kernel_rfl) (calls_cons ((cs_cons (soundistrconv_Itoa_ V) cs_nil)) (calls_nil rfl))) rfl rfl rfl Tryz.func164
theorem sounderrors_New_ (V : Ev) (hV : V.OK) : CallSound Tryz.prog (env V []) 163 ⟨sigerrors_New_, errors_New_ V⟩ := by
  rw [← rawerrors_New_ V]
  exact aFn_sound (E2 := env V []) (envOK V hV (callserrors_New_ V) (by kernel_rfl) (calls_nil rfl)) rfl rfl rfl Tryz.func163
theorem soundstrconv_baseError_cf4 (V : Ev) (hV : V.OK) : CallSound Tryz.prog (env V []) 152 ⟨sigstrconv_baseError_cf4, strconv_baseError_cf4 V⟩ := by
  rw [← rawstrconv_baseError_cf4 V]
  exact aFn_sound (E2 := env V []) (envOK V hV (callsstrconv_baseError_cf4 V) (by kernel_rfl) (calls_cons ((cs_cons (soundistringslite_Clone_ V hV) cs_nil)) (calls_cons ((cs_cons (sounderrors_New_ V hV) cs_nil)) (calls_cons ((cs_cons (soundstrconv_Itoa_ V hV) cs_nil)) (calls_nil rfl))))) rfl rfl rfl Tryz.func152
theorem soundstrconv_bitSizeError_cf4 (V : Ev) (hV : V.OK) : CallSound Tryz.prog (env V []) 153 ⟨sigstrconv_bitSizeError_cf4, strconv_bitSizeError_cf4 V⟩ := by
  rw [← rawstrconv_bitSizeError_cf4 V]
  exact aFn_sound (E2 := env V []) (envOK V hV (callsstrconv_bitSizeError_cf4 V) (by kernel_rfl) (calls_cons ((cs_cons (soundistringslite_Clone_ V hV) cs_nil)) (calls_cons ((cs_cons (sounderrors_New_ V hV) cs_nil)) (calls_cons ((cs_cons (soundstrconv_Itoa_ V hV) cs_nil)) (calls_nil rfl))))) rfl rfl rfl Tryz.func153
theorem soundstrconv_toError_666 (V : Ev) (hV : V.OK) : CallSound Tryz.prog (env V []) 130 ⟨sigstrconv_toError_666, strconv_toError_666 V⟩ := by
  rw [← rawstrconv_toError_666 V]
  exact aFn_sound (E2 := env V []) (envOK V hV (callsstrconv_toError_666 V) (by kernel_rfl) (calls_cons ((cs_cons (soundstrconv_syntaxError_d9f V hV) cs_nil)) (calls_cons ((cs_cons (soundstrconv_rangeError_d9f V hV) cs_nil)) (calls_cons ((cs_cons (soundstrconv_baseError_cf4 V hV) cs_nil)) (calls_cons ((cs_cons (soundstrconv_bitSizeError_cf4 V hV) cs_nil)) (calls_nil rfl)))))) rfl rfl rfl Tryz.func130
theorem soundstrconv_ParseInt_ (V : Ev) (hV : V.OK) : CallSound Tryz.prog (env V []) 106 ⟨sigstrconv_ParseInt_, strconv_ParseInt_ V⟩ := by
  rw [← rawstrconv_ParseInt_ V]
  exact aFn_sound (E2 := env V []) (envOK V hV (callsstrconv_ParseInt_ V) (by kernel_rfl) (calls_cons ((cs_cons (soundistrconv_ParseInt_ V hV) cs_nil)) (calls_cons ((cs_cons (soundstrconv_toError_666 V hV) cs_nil)) (calls_nil rfl)))) rfl rfl rfl Tryz.func106
theorem soundentity_number_ (V : Ev) (hV : V.OK) : CallSound Tryz.prog (env V []) 79 ⟨sigentity_number_, entity_number_ V⟩ := by
  rw [← rawentity_number_ V]
  exact aFn_sound (E2 := env V []) (envOK V hV (callsentity_number_ V) (by kernel_rfl) (calls_cons ((cs_cons (soundstrings_Contains_ V hV) cs_nil)) (calls_cons ((cs_cons (soundstrconv_ParseInt_ V hV) cs_nil)) (calls_nil rfl)))) rfl rfl rfl Tryz.func79
theorem soundutf8_ValidRune_ (V : Ev) (hV : V.OK) : CallSound Tryz.prog (env V []) 107 ⟨sigutf8_ValidRune_, utf8_ValidRune_ V⟩ := by
  rw [← rawutf8_ValidRune_ V]
  exact aFn_sound (E2 := env V []) (envOK V hV (callsutf8_ValidRune_ V) (by kernel_rfl) (calls_nil rfl)) rfl rfl rfl Tryz.func107
theorem soundutf8_appendRuneNonASCII_40a (V : Ev) (hV : V.OK) : CallSound Tryz.prog (env V []) 154 ⟨sigutf8_appendRuneNonASCII_40a, utf8_appendRuneNonASCII_40a V⟩ := by
  rw [← rawutf8_appendRuneNonASCII_40a V]
  exact aFn_sound (E2 := env V []) (envOK V hV (callsutf8_appendRuneNonASCII_40a V) (by kernel_rfl) (calls_nil rfl)) rfl rfl rfl Tryz.func154
theorem soundutf8_AppendRune_40a (V : Ev) (hV : V.OK) : CallSound Tryz.prog (env V []) 131 ⟨sigutf8_AppendRune_40a, utf8_AppendRune_40a V⟩ := by
  rw [← rawutf8_AppendRune_40a V]
  exact aFn_sound (E2 := env V []) (envOK V hV (callsutf8_AppendRune_40a V) (by kernel_rfl) (calls_cons ((cs_cons (soundutf8_appendRuneNonASCII_40a V hV) cs_nil)) (calls_nil rfl))) rfl rfl rfl Tryz.func131
theorem soundstrings_Builder_copyCheck_20a (V : Ev) : CallSound Tryz.prog (env V []) 74 ⟨sigstrings_Builder_copyCheck_20a, strings_Builder_copyCheck_20a V⟩ :=
  copyCheck_sound (fun b w h0 h1 h2 => Any.Builder_copyCheck_fresh lays laysX b w h0 h1 h2) (fun b w h0 => Any.Builder_copyCheck_used lays laysX b w h0) ⟨.inl rfl, .inl rfl⟩ (fun t u h ren => by cases h; rfl)
theorem soundstrings_Builder_WriteRune_38c (V : Ev) (hV : V.OK) : CallSound Tryz.prog (env V []) 108 ⟨sigstrings_Builder_WriteRune_38c, strings_Builder_WriteRune_38c V⟩ := by
  rw [← rawstrings_Builder_WriteRune_38c V]
  exact aFn_sound (E2 := env V []) (envOK V hV (callsstrings_Builder_WriteRune_38c V) (by kernel_rfl) (calls_cons ((cs_cons (soundstrings_Builder_copyCheck_20a V) cs_nil)) (calls_cons ((cs_cons (soundutf8_AppendRune_40a V hV) cs_nil)) (calls_nil rfl)))) rfl rfl rfl Tryz.func108
theorem soundstrings_Builder_String_20a (V : Ev) (hV : V.OK) : CallSound Tryz.prog (env V []) 48 ⟨sigstrings_Builder_String_20a, strings_Builder_String_20a V⟩ := by
  rw [← rawstrings_Builder_String_20a V]
  exact aFn_sound (E2 := env V []) (envOK V hV (callsstrings_Builder_String_20a V) (by kernel_rfl) (calls_nil rfl)) rfl rfl rfl Tryz.func48
theorem soundutf_Text_ (V : Ev) (hV : V.OK) : CallSound Tryz.prog (env V []) 80 ⟨sigutf_Text_, utf_Text_ V⟩ := by
  rw [← rawutf_Text_ V]
  exact aFn_sound (E2 := env V []) (envOK V hV (callsutf_Text_ V) (by kernel_rfl) (calls_cons ((cs_cons (soundstrings_Builder_String_20a V hV) cs_nil)) (calls_cons ((cs_cons (soundutf8_ValidRune_ V hV) cs_nil)) (calls_cons ((cs_cons (soundstrings_Builder_WriteRune_38c V hV) cs_nil)) (calls_nil rfl))))) rfl rfl rfl Tryz.func80
theorem soundentity_sign_ (V : Ev) (hV : V.OK) : CallSound Tryz.prog (env V []) 53 ⟨sigentity_sign_, entity_sign_ V⟩ := by
  rw [← rawentity_sign_ V]
  exact aFn_sound (E2 := env V []) (envOK V hV (callsentity_sign_ V) (by kernel_rfl) (calls_cons ((cs_cons (soundentity_Name_ V hV) cs_nil)) (calls_cons ((cs_cons (soundstrings_CutPrefix_ V hV) cs_nil)) (calls_cons ((cs_cons (soundentity_number_ V hV) cs_nil)) (calls_cons ((cs_cons (soundutf_Text_ V hV) cs_nil)) (calls_nil rfl)))))) rfl rfl rfl Tryz.func53
theorem soundstrings_Builder_WriteByte_bae (V : Ev) (hV : V.OK) : CallSound Tryz.prog (env V []) 54 ⟨sigstrings_Builder_WriteByte_bae, strings_Builder_WriteByte_bae V⟩ := by
  rw [← rawstrings_Builder_WriteByte_bae V]
  exact aFn_sound (E2 := env V []) (envOK V hV (callsstrings_Builder_WriteByte_bae V) (by kernel_rfl) (calls_cons ((cs_cons (soundstrings_Builder_copyCheck_20a V) cs_nil)) (calls_nil rfl))) rfl rfl rfl Tryz.func54
theorem soundstrings_Builder_WriteString_2ec (V : Ev) (hV : V.OK) : CallSound Tryz.prog (env V []) 45 ⟨sigstrings_Builder_WriteString_2ec, strings_Builder_WriteString_2ec V⟩ := by
  rw [← rawstrings_Builder_WriteString_2ec V]
  exact aFn_sound (E2 := env V []) (envOK V hV (callsstrings_Builder_WriteString_2ec V) (by kernel_rfl) (calls_cons ((cs_cons (soundstrings_Builder_copyCheck_20a V) cs_nil)) (calls_nil rfl))) rfl rfl rfl Tryz.func45
theorem soundstrings_Builder_WriteString_cc3 (V : Ev) (hV : V.OK) : CallSound Tryz.prog (env V []) 45 ⟨sigstrings_Builder_WriteString_cc3, strings_Builder_WriteString_cc3 V⟩ := by
  rw [← rawstrings_Builder_WriteString_cc3 V]
  exact aFn_sound (E2 := env V []) (envOK V hV (callsstrings_Builder_WriteString_cc3 V) (by kernel_rfl) (calls_cons ((cs_cons (soundstrings_Builder_copyCheck_20a V) cs_nil)) (calls_nil rfl))) rfl rfl rfl Tryz.func45
theorem soundentity_Decode_ (V : Ev) (hV : V.OK) : CallSound Tryz.prog (env V []) 26 ⟨sigentity_Decode_, entity_Decode_ V⟩ := by
  rw [← rawentity_Decode_ V]
  exact aFn_sound (E2 := env V []) (envOK V hV (callsentity_Decode_ V) (by kernel_rfl) (calls_cons ((cs_cons (soundstrings_Builder_WriteString_2ec V hV) (cs_cons (soundstrings_Builder_WriteString_cc3 V hV) cs_nil))) (calls_cons ((cs_cons (soundstrings_Builder_String_20a V hV) cs_nil)) (calls_cons ((cs_cons (soundstrings_IndexByte_ V hV) cs_nil)) (calls_cons ((cs_cons (soundstrings_Cut_ V hV) cs_nil)) (calls_cons ((cs_cons (soundentity_sign_ V hV) cs_nil)) (calls_cons ((cs_cons (soundstrings_Builder_WriteByte_bae V hV) cs_nil)) (calls_nil rfl)))))))) rfl rfl rfl Tryz.func26
theorem soundtoken_cursor_fail_deb (V : Ev) (hV : V.OK) : CallSound Tryz.prog (env V []) 67 ⟨sigtoken_cursor_fail_deb, token_cursor_fail_deb V⟩ := by
  rw [← rawtoken_cursor_fail_deb V]
  exact aFn_sound (E2 := env V []) (envOK V hV (callstoken_cursor_fail_deb V) (by kernel_rfl) (calls_nil rfl)) rfl rfl rfl Tryz.func67
theorem soundtoken_cursor_decoded_f56 (V : Ev) (hV : V.OK) : CallSound Tryz.prog (env V []) 41 ⟨sigtoken_cursor_decoded_f56, token_cursor_decoded_f56 V⟩ := by
  rw [← rawtoken_cursor_decoded_f56 V]
  exact aFn_sound (E2 := env V []) (envOK V hV (callstoken_cursor_decoded_f56 V) (by kernel_rfl) (calls_cons ((cs_cons (soundentity_Decode_ V hV) cs_nil)) (calls_cons ((cs_cons (soundtoken_cursor_fail_deb V hV) cs_nil)) (calls_nil rfl)))) rfl rfl rfl Tryz.func41
theorem soundtoken_cursor_raw_129 (V : Ev) (hV : V.OK) : CallSound Tryz.prog (env V []) 89 ⟨sigtoken_cursor_raw_129, token_cursor_raw_129 V⟩ := by
  rw [← rawtoken_cursor_raw_129 V]
  exact aFn_sound (E2 := env V []) (envOK V hV (callstoken_cursor_raw_129 V) (by kernel_rfl) (calls_cons ((cs_cons (soundtoken_cursor_tell_3d6 V hV) cs_nil)) (calls_cons ((cs_cons (soundtoken_cursor_decoded_f56 V hV) cs_nil)) (calls_cons ((cs_cons (soundtoken_plain_ V hV) cs_nil)) (calls_cons ((cs_cons (soundtoken_text_is_129 V hV) cs_nil)) (calls_cons ((cs_cons (soundtoken_cursor_fail_deb V hV) cs_nil)) (calls_cons ((cs_cons (soundfold_Blank_ V hV) cs_nil)) (calls_nil rfl)))))))) rfl rfl rfl Tryz.func89
theorem soundtoken_cursor_attr_1_ (V : Ev) (hV : V.OK) : CallSound Tryz.prog (env V []) 112 ⟨sigtoken_cursor_attr_1_, token_cursor_attr_1_ V⟩ := by
  rw [← rawtoken_cursor_attr_1_ V]
  exact aFn_sound (E2 := env V []) (envOK V hV (callstoken_cursor_attr_1_ V) (by kernel_rfl) (calls_cons ((cs_cons (soundstrings_IndexByte_ V hV) cs_nil)) (calls_cons ((cs_cons (soundfold_Blank_ V hV) cs_nil)) (calls_nil rfl)))) rfl rfl rfl Tryz.func112
theorem soundtoken_text_take_4b4 (V : Ev) (hV : V.OK) : CallSound Tryz.prog (env V []) 38 ⟨sigtoken_text_take_4b4, token_text_take_4b4 V⟩ := by
  rw [← rawtoken_text_take_4b4 V]
  exact aFn_sound (E2 := env V []) (envOK V hV (callstoken_text_take_4b4 V) (by kernel_rfl) (calls_cons ((cs_cons (soundtoken_cursor_attr_1_ V hV) cs_nil)) (calls_nil rfl))) rfl rfl rfl Tryz.func38
theorem soundtoken_cursor_attr_2_0b8 (V : Ev) (hV : V.OK) : CallSound Tryz.prog (env V []) 114 ⟨sigtoken_cursor_attr_2_0b8, token_cursor_attr_2_0b8 V⟩ := by
  rw [← rawtoken_cursor_attr_2_0b8 V]
  exact aFn_sound (E2 := env V []) (envOK V hV (callstoken_cursor_attr_2_0b8 V) (by kernel_rfl) (calls_nil rfl)) rfl rfl rfl Tryz.func114
theorem soundslices_IndexFunc__api_Attr_api_Attr_d88 (V : Ev) (hV : V.OK) : CallSound Tryz.prog (env V []) 134 ⟨sigslices_IndexFunc__api_Attr_api_Attr_d88, slices_IndexFunc__api_Attr_api_Attr_d88 V⟩ := by
  rw [← rawslices_IndexFunc__api_Attr_api_Attr_d88 V]
  exact aFn_sound (E2 := env V []) (envOK V hV (callsslices_IndexFunc__api_Attr_api_Attr_d88 V) (by kernel_rfl) (calls_cons ((cs_cons (soundtoken_cursor_attr_2_0b8 V hV) cs_nil)) (calls_nil rfl))) rfl rfl rfl Tryz.func134
theorem soundslices_ContainsFunc__api_Attr_api_Attr_d88 (V : Ev) (hV : V.OK) : CallSound Tryz.prog (env V []) 113 ⟨sigslices_ContainsFunc__api_Attr_api_Attr_d88, slices_ContainsFunc__api_Attr_api_Attr_d88 V⟩ := by
  rw [← rawslices_ContainsFunc__api_Attr_api_Attr_d88 V]
  exact aFn_sound (E2 := env V []) (envOK V hV (callsslices_ContainsFunc__api_Attr_api_Attr_d88 V) (by kernel_rfl) (calls_cons ((cs_cons (soundslices_IndexFunc__api_Attr_api_Attr_d88 V hV) cs_nil)) (calls_nil rfl))) rfl rfl rfl Tryz.func113
theorem soundtoken_cursor_value_1_ (V : Ev) (hV : V.OK) : CallSound Tryz.prog (env V []) 135 ⟨sigtoken_cursor_value_1_, token_cursor_value_1_ V⟩ := by
  rw [← rawtoken_cursor_value_1_ V]
  exact aFn_sound (E2 := env V []) (envOK V hV (callstoken_cursor_value_1_ V) (by kernel_rfl) (calls_cons ((cs_cons (soundfold_Blank_ V hV) cs_nil)) (calls_nil rfl))) rfl rfl rfl Tryz.func135
theorem soundtoken_text_take_441 (V : Ev) (hV : V.OK) : CallSound Tryz.prog (env V []) 38 ⟨sigtoken_text_take_441, token_text_take_441 V⟩ := by
  rw [← rawtoken_text_take_441 V]
  exact aFn_sound (E2 := env V []) (envOK V hV (callstoken_text_take_441 V) (by kernel_rfl) (calls_cons ((cs_cons (soundfold_Blank_ V hV) cs_nil)) (calls_nil rfl))) rfl rfl rfl Tryz.func38
theorem soundtoken_text_upto_129 (V : Ev) (hV : V.OK) : CallSound Tryz.prog (env V []) 92 ⟨sigtoken_text_upto_129, token_text_upto_129 V⟩ := by
  rw [← rawtoken_text_upto_129 V]
  exact aFn_sound (E2 := env V []) (envOK V hV (callstoken_text_upto_129 V) (by kernel_rfl) (calls_cons ((cs_cons (soundstrings_Cut_ V hV) cs_nil)) (calls_cons ((cs_cons (soundtoken_text_left_4fb V hV) cs_nil)) (calls_nil rfl)))) rfl rfl rfl Tryz.func92
theorem soundtoken_text_take_f4e (V : Ev) (hV : V.OK) : CallSound Tryz.prog (env V []) 38 ⟨sigtoken_text_take_f4e, token_text_take_f4e V⟩ := by
  rw [← rawtoken_text_take_f4e V]
  exact aFn_sound (E2 := env V []) (envOK V hV (callstoken_text_take_f4e V) (by kernel_rfl) (calls_cons ((cs_cons (soundtoken_cursor_value_1_ V hV) cs_nil)) (calls_nil rfl))) rfl rfl rfl Tryz.func38
theorem soundtoken_cursor_value_4fb (V : Ev) (hV : V.OK) : CallSound Tryz.prog (env V []) 115 ⟨sigtoken_cursor_value_4fb, token_cursor_value_4fb V⟩ := by
  rw [← rawtoken_cursor_value_4fb V]
  exact aFn_sound (E2 := env V []) (envOK V hV (callstoken_cursor_value_4fb V) (by kernel_rfl) (calls_cons ((cs_cons (soundtoken_text_take_f4e V hV) cs_nil)) (calls_cons ((cs_cons (soundtoken_cursor_decoded_f56 V hV) cs_nil)) (calls_cons ((cs_cons (soundtoken_text_left_4fb V hV) cs_nil)) (calls_cons ((cs_cons (soundtoken_text_is_129 V hV) cs_nil)) (calls_cons ((cs_cons (soundtoken_text_upto_129 V hV) cs_nil)) (calls_nil rfl))))))) rfl rfl rfl Tryz.func115
theorem soundtoken_cursor_attr_943 (V : Ev) (hV : V.OK) : CallSound Tryz.prog (env V []) 90 ⟨sigtoken_cursor_attr_943, token_cursor_attr_943 V⟩ := by
  rw [← rawtoken_cursor_attr_943 V]
  exact aFn_sound (E2 := env V []) (envOK V hV (callstoken_cursor_attr_943 V) (by kernel_rfl) (calls_cons ((cs_cons (soundtoken_text_take_4b4 V hV) (cs_cons (soundtoken_text_take_441 V hV) cs_nil))) (calls_cons ((cs_cons (soundtoken_text_is_129 V hV) cs_nil)) (calls_cons ((cs_cons (soundtoken_cursor_fail_deb V hV) cs_nil)) (calls_cons ((cs_cons (soundfold_Lower_ V hV) cs_nil)) (calls_cons ((cs_cons (soundslices_ContainsFunc__api_Attr_api_Attr_d88 V hV) cs_nil)) (calls_cons ((cs_cons (soundtoken_cursor_value_4fb V hV) cs_nil)) (calls_nil rfl)))))))) rfl rfl rfl Tryz.func90
theorem soundtoken_cursor_tag_deb (V : Ev) (hV : V.OK) : CallSound Tryz.prog (env V []) 64 ⟨sigtoken_cursor_tag_deb, token_cursor_tag_deb V⟩ := by
  rw [← rawtoken_cursor_tag_deb V]
  exact aFn_sound (E2 := env V []) (envOK V hV (callstoken_cursor_tag_deb V) (by kernel_rfl) (calls_cons ((cs_cons (soundtoken_Raw_ V hV) cs_nil)) (calls_cons ((cs_cons (soundtoken_text_take_a2b V hV) cs_nil)) (calls_cons ((cs_cons (soundtoken_cursor_tell_3d6 V hV) cs_nil)) (calls_cons ((cs_cons (soundtoken_cursor_fail_deb V hV) cs_nil)) (calls_cons ((cs_cons (soundfold_Lower_ V hV) cs_nil)) (calls_cons ((cs_cons (soundfold_Blank_ V hV) cs_nil)) (calls_cons ((cs_cons (soundtoken_cursor_raw_129 V hV) cs_nil)) (calls_cons ((cs_cons (soundtoken_cursor_attr_943 V hV) cs_nil)) (calls_nil rfl)))))))))) rfl rfl rfl Tryz.func64
theorem soundstrings_Trim_ (V : Ev) : CallSound Tryz.prog (env V []) 116 ⟨sigstrings_Trim_, strings_Trim_ V⟩ := given_trim layTrim (by kernel_rfl)
theorem soundfold_Trim_ (V : Ev) (hV : V.OK) : CallSound Tryz.prog (env V []) 93 ⟨sigfold_Trim_, fold_Trim_ V⟩ := by
  rw [← rawfold_Trim_ V]
  exact aFn_sound (E2 := env V []) (envOK V hV (callsfold_Trim_ V) (by kernel_rfl) (calls_cons ((cs_cons (soundstrings_Trim_ V) cs_nil)) (calls_nil rfl))) rfl rfl rfl Tryz.func93
theorem soundtoken_cursor_note_bca (V : Ev) (hV : V.OK) : CallSound Tryz.prog (env V []) 66 ⟨sigtoken_cursor_note_bca, token_cursor_note_bca V⟩ := by
  rw [← rawtoken_cursor_note_bca V]
  exact aFn_sound (E2 := env V []) (envOK V hV (callstoken_cursor_note_bca V) (by kernel_rfl) (calls_cons ((cs_cons (soundtoken_cursor_tell_3d6 V hV) cs_nil)) (calls_cons ((cs_cons (soundtoken_cursor_fail_deb V hV) cs_nil)) (calls_cons ((cs_cons (soundtoken_text_upto_129 V hV) cs_nil)) (calls_cons ((cs_cons (soundfold_Trim_ V hV) cs_nil)) (calls_nil rfl)))))) rfl rfl rfl Tryz.func66
theorem soundtoken_cursor_sign_4fb (V : Ev) (hV : V.OK) : CallSound Tryz.prog (env V []) 37 ⟨sigtoken_cursor_sign_4fb, token_cursor_sign_4fb V⟩ := by
  rw [← rawtoken_cursor_sign_4fb V]
  exact aFn_sound (E2 := env V []) (envOK V hV (callstoken_cursor_sign_4fb V) (by kernel_rfl) (calls_cons ((cs_cons (soundtoken_cursor_tell_3d6 V hV) cs_nil)) (calls_cons ((cs_cons (soundtoken_text_left_4fb V hV) cs_nil)) (calls_cons ((cs_cons (soundtoken_letter_ V hV) cs_nil)) (calls_cons ((cs_cons (soundtoken_cursor_tag_deb V hV) cs_nil)) (calls_cons ((cs_cons (soundtoken_text_is_129 V hV) cs_nil)) (calls_cons ((cs_cons (soundtoken_cursor_note_bca V hV) cs_nil)) (calls_cons ((cs_cons (soundtoken_cursor_fail_deb V hV) cs_nil)) (calls_nil rfl))))))))) rfl rfl rfl Tryz.func37
theorem soundtoken_Tokens_1_ (V : Ev) (hV : V.OK) : CallSound Tryz.prog (env V []) 39 ⟨sigtoken_Tokens_1_, token_Tokens_1_ V⟩ := by
  rw [← rawtoken_Tokens_1_ V]
  exact aFn_sound (E2 := env V []) (envOK V hV (callstoken_Tokens_1_ V) (by kernel_rfl) (calls_nil rfl)) rfl rfl rfl Tryz.func39
theorem soundtoken_text_take_dc0 (V : Ev) (hV : V.OK) : CallSound Tryz.prog (env V []) 38 ⟨sigtoken_text_take_dc0, token_text_take_dc0 V⟩ := by
  rw [← rawtoken_text_take_dc0 V]
  exact aFn_sound (E2 := env V []) (envOK V hV (callstoken_text_take_dc0 V) (by kernel_rfl) (calls_cons ((cs_cons (soundtoken_Tokens_1_ V hV) cs_nil)) (calls_nil rfl))) rfl rfl rfl Tryz.func38
theorem soundtoken_Tokens_ (V : Ev) (hV : V.OK) : CallSound Tryz.prog (env V []) 15 ⟨sigtoken_Tokens_, token_Tokens_ V⟩ := by
  rw [← rawtoken_Tokens_ V]
  exact aFn_sound (E2 := env V []) (envOK V hV (callstoken_Tokens_ V) (by kernel_rfl) (calls_cons ((cs_cons (soundtoken_cursor_sign_4fb V hV) cs_nil)) (calls_cons ((cs_cons (soundtoken_text_take_dc0 V hV) cs_nil)) (calls_cons ((cs_cons (soundtoken_cursor_tell_3d6 V hV) cs_nil)) (calls_cons ((cs_cons (soundtoken_cursor_decoded_f56 V hV) cs_nil)) (calls_nil rfl)))))) rfl rfl rfl Tryz.func15
theorem soundutf_New_775 (V : Ev) (hV : V.OK) : CallSound Tryz.prog (env V []) 56 ⟨sigutf_New_775, utf_New_775 V⟩ := by
  rw [← rawutf_New_775 V]
  exact aFn_sound (E2 := env V []) (envOK V hV (callsutf_New_775 V) (by kernel_rfl) (calls_nil rfl)) rfl rfl rfl Tryz.func56
theorem soundfeed_New_775 (V : Ev) (hV : V.OK) : CallSound Tryz.prog (env V []) 32 ⟨sigfeed_New_775, feed_New_775 V⟩ := by
  rw [← rawfeed_New_775 V]
  exact aFn_sound (E2 := env V []) (envOK V hV (callsfeed_New_775 V) (by kernel_rfl) (calls_cons ((cs_cons (soundutf_New_775 V hV) cs_nil)) (calls_nil rfl))) rfl rfl rfl Tryz.func32
theorem soundutf8_RuneStart_ (V : Ev) (hV : V.OK) : CallSound Tryz.prog (env V []) 83 ⟨sigutf8_RuneStart_, utf8_RuneStart_ V⟩ := by
  rw [← rawutf8_RuneStart_ V]
  exact aFn_sound (E2 := env V []) (envOK V hV (callsutf8_RuneStart_ V) (by kernel_rfl) (calls_nil rfl)) rfl rfl rfl Tryz.func83
theorem soundutf8_FullRune_ (V : Ev) (hV : V.OK) : CallSound Tryz.prog (env V []) 84 ⟨sigutf8_FullRune_, utf8_FullRune_ V⟩ := by
  rw [← rawutf8_FullRune_ V]
  exact aFn_sound (E2 := env V []) (envOK V hV (callsutf8_FullRune_ V) (by kernel_rfl) (calls_nil rfl)) rfl rfl rfl Tryz.func84
theorem soundutf8_decodeRuneSlow_ (V : Ev) (hV : V.OK) : CallSound Tryz.prog (env V []) 85 ⟨sigutf8_decodeRuneSlow_, utf8_decodeRuneSlow_ V⟩ := by
  rw [← rawutf8_decodeRuneSlow_ V]
  exact aFn_sound (E2 := env V []) (envOK V hV (callsutf8_decodeRuneSlow_ V) (by kernel_rfl) (calls_nil rfl)) rfl rfl rfl Tryz.func85
theorem soundutf8_DecodeRune_ (V : Ev) (hV : V.OK) : CallSound Tryz.prog (env V []) 60 ⟨sigutf8_DecodeRune_, utf8_DecodeRune_ V⟩ := by
  rw [← rawutf8_DecodeRune_ V]
  exact aFn_sound (E2 := env V []) (envOK V hV (callsutf8_DecodeRune_ V) (by kernel_rfl) (calls_cons ((cs_cons (soundutf8_decodeRuneSlow_ V hV) cs_nil)) (calls_nil rfl))) rfl rfl rfl Tryz.func60
theorem soundstrings_Builder_Write_4c3 (V : Ev) (hV : V.OK) : CallSound Tryz.prog (env V []) 61 ⟨sigstrings_Builder_Write_4c3, strings_Builder_Write_4c3 V⟩ := by
  rw [← rawstrings_Builder_Write_4c3 V]
  exact aFn_sound (E2 := env V []) (envOK V hV (callsstrings_Builder_Write_4c3 V) (by kernel_rfl) (calls_cons ((cs_cons (soundstrings_Builder_copyCheck_20a V) cs_nil)) (calls_nil rfl))) rfl rfl rfl Tryz.func61
theorem soundutf_Decode_ (V : Ev) (hV : V.OK) : CallSound Tryz.prog (env V []) 36 ⟨sigutf_Decode_, utf_Decode_ V⟩ := by
  rw [← rawutf_Decode_ V]
  exact aFn_sound (E2 := env V []) (envOK V hV (callsutf_Decode_ V) (by kernel_rfl) (calls_cons ((cs_cons (soundstrings_Builder_WriteString_cc3 V hV) cs_nil)) (calls_cons ((cs_cons (soundstrings_Builder_String_20a V hV) cs_nil)) (calls_cons ((cs_cons (soundutf8_DecodeRune_ V hV) cs_nil)) (calls_cons ((cs_cons (soundstrings_Builder_Write_4c3 V hV) cs_nil)) (calls_nil rfl)))))) rfl rfl rfl Tryz.func36
theorem soundutf_Reader_Feed_155 (V : Ev) (hV : V.OK) : CallSound Tryz.prog (env V []) 57 ⟨sigutf_Reader_Feed_155, utf_Reader_Feed_155 V⟩ := by
  rw [← rawutf_Reader_Feed_155 V]
  exact aFn_sound (E2 := env V []) (envOK V hV (callsutf_Reader_Feed_155 V) (by kernel_rfl) (calls_cons ((cs_cons (soundutf_Decode_ V hV) cs_nil)) (calls_cons ((cs_cons (soundutf8_RuneStart_ V hV) cs_nil)) (calls_cons ((cs_cons (soundutf8_FullRune_ V hV) cs_nil)) (calls_nil rfl))))) rfl rfl rfl Tryz.func57
theorem soundstrings_Builder_copyCheck_836 (V : Ev) : CallSound Tryz.prog (env V []) 74 ⟨sigstrings_Builder_copyCheck_836, strings_Builder_copyCheck_836 V⟩ :=
  copyCheck_soundAt (n := 4) (fun b w h0 h1 h2 => cc_freshAt lays laysX b 1 w (by decide) (by kernel_rfl) h0 h1 h2) (fun b w h0 => cc_usedAt lays laysX b 1 w h0) (fun t => ⟨rfl, _, rfl, .inr (.inl rfl)⟩) (fun t u h => by cases h; exact ⟨rfl, rfl⟩)
theorem soundstrings_Builder_WriteString_47e (V : Ev) (hV : V.OK) : CallSound Tryz.prog (env V []) 45 ⟨sigstrings_Builder_WriteString_47e, strings_Builder_WriteString_47e V⟩ := by
  rw [← rawstrings_Builder_WriteString_47e V]
  exact aFn_sound (E2 := env V []) (envOK V hV (callsstrings_Builder_WriteString_47e V) (by kernel_rfl) (calls_cons ((cs_cons (soundstrings_Builder_copyCheck_836 V) cs_nil)) (calls_nil rfl))) rfl rfl rfl Tryz.func45
theorem soundfeed_Feeder_Feed_518 (V : Ev) (hV : V.OK) : CallSound Tryz.prog (env V []) 33 ⟨sigfeed_Feeder_Feed_518, feed_Feeder_Feed_518 V⟩ := by
  rw [← rawfeed_Feeder_Feed_518 V]
  exact aFn_sound (E2 := env V []) (envOK V hV (callsfeed_Feeder_Feed_518 V) (by kernel_rfl) (calls_cons ((cs_cons (soundstrings_Builder_WriteString_47e V hV) cs_nil)) (calls_cons ((cs_cons (soundutf_Reader_Feed_155 V hV) cs_nil)) (calls_nil rfl)))) rfl rfl rfl Tryz.func33
theorem soundstrings_Builder_copyCheck_199 (V : Ev) : CallSound Tryz.prog (env V []) 74 ⟨sigstrings_Builder_copyCheck_199, strings_Builder_copyCheck_199 V⟩ :=
  copyCheck_soundAt (n := 4) (fun b w h0 h1 h2 => cc_freshAt lays laysX b 1 w (by decide) (by kernel_rfl) h0 h1 h2) (fun b w h0 => cc_usedAt lays laysX b 1 w h0) (fun t => ⟨rfl, _, rfl, .inl rfl⟩) (fun t u h => by cases h; exact ⟨rfl, rfl⟩)
theorem soundstrings_Builder_WriteString_7a2 (V : Ev) (hV : V.OK) : CallSound Tryz.prog (env V []) 45 ⟨sigstrings_Builder_WriteString_7a2, strings_Builder_WriteString_7a2 V⟩ := by
  rw [← rawstrings_Builder_WriteString_7a2 V]
  exact aFn_sound (E2 := env V []) (envOK V hV (callsstrings_Builder_WriteString_7a2 V) (by kernel_rfl) (calls_cons ((cs_cons (soundstrings_Builder_copyCheck_199 V) cs_nil)) (calls_nil rfl))) rfl rfl rfl Tryz.func45
theorem soundfeed_Feeder_Feed_9d4 (V : Ev) (hV : V.OK) : CallSound Tryz.prog (env V []) 33 ⟨sigfeed_Feeder_Feed_9d4, feed_Feeder_Feed_9d4 V⟩ := by
  rw [← rawfeed_Feeder_Feed_9d4 V]
  exact aFn_sound (E2 := env V []) (envOK V hV (callsfeed_Feeder_Feed_9d4 V) (by kernel_rfl) (calls_cons ((cs_cons (soundstrings_Builder_WriteString_7a2 V hV) cs_nil)) (calls_cons ((cs_cons (soundutf_Reader_Feed_155 V hV) cs_nil)) (calls_nil rfl)))) rfl rfl rfl Tryz.func33
theorem soundfeed_Feeder_Count_515 (V : Ev) (hV : V.OK) : CallSound Tryz.prog (env V []) 34 ⟨sigfeed_Feeder_Count_515, feed_Feeder_Count_515 V⟩ := by
  rw [← rawfeed_Feeder_Count_515 V]
  exact aFn_sound (E2 := env V []) (envOK V hV (callsfeed_Feeder_Count_515 V) (by kernel_rfl) (calls_nil rfl)) rfl rfl rfl Tryz.func34
theorem soundutf_Reader_End_c0b (V : Ev) (hV : V.OK) : CallSound Tryz.prog (env V []) 58 ⟨sigutf_Reader_End_c0b, utf_Reader_End_c0b V⟩ := by
  rw [← rawutf_Reader_End_c0b V]
  exact aFn_sound (E2 := env V []) (envOK V hV (callsutf_Reader_End_c0b V) (by kernel_rfl) (calls_cons ((cs_cons (soundutf_Decode_ V hV) cs_nil)) (calls_nil rfl))) rfl rfl rfl Tryz.func58
theorem soundstrings_Builder_String_199 (V : Ev) (hV : V.OK) : CallSound Tryz.prog (env V []) 48 ⟨sigstrings_Builder_String_199, strings_Builder_String_199 V⟩ := by
  rw [← rawstrings_Builder_String_199 V]
  exact aFn_sound (E2 := env V []) (envOK V hV (callsstrings_Builder_String_199 V) (by kernel_rfl) (calls_nil rfl)) rfl rfl rfl Tryz.func48
theorem soundstrings_Builder_Reset_06b (V : Ev) (hV : V.OK) : CallSound Tryz.prog (env V []) 59 ⟨sigstrings_Builder_Reset_06b, strings_Builder_Reset_06b V⟩ := by
  rw [← rawstrings_Builder_Reset_06b V]
  exact aFn_sound (E2 := env V []) (envOK V hV (callsstrings_Builder_Reset_06b V) (by kernel_rfl) (calls_nil rfl)) rfl rfl rfl Tryz.func59
theorem soundfeed_Feeder_End_515 (V : Ev) (hV : V.OK) : CallSound Tryz.prog (env V []) 35 ⟨sigfeed_Feeder_End_515, feed_Feeder_End_515 V⟩ := by
  rw [← rawfeed_Feeder_End_515 V]
  exact aFn_sound (E2 := env V []) (envOK V hV (callsfeed_Feeder_End_515 V) (by kernel_rfl) (calls_cons ((cs_cons (soundtoken_Tokens_ V hV) cs_nil)) (calls_cons ((cs_cons (soundstrings_Builder_String_199 V hV) cs_nil)) (calls_cons ((cs_cons (soundutf_Reader_End_c0b V hV) cs_nil)) (calls_cons ((cs_cons (soundstrings_Builder_Reset_06b V hV) cs_nil)) (calls_nil rfl)))))) rfl rfl rfl Tryz.func35
theorem soundfeed_Whole_ (V : Ev) (hV : V.OK) : CallSound Tryz.prog (env V []) 29 ⟨sigfeed_Whole_, feed_Whole_ V⟩ := by
  rw [← rawfeed_Whole_ V]
  exact aFn_sound (E2 := env V []) (envOK V hV (callsfeed_Whole_ V) (by kernel_rfl) (calls_cons ((cs_cons (soundfeed_New_775 V hV) cs_nil)) (calls_cons ((cs_cons (soundfeed_Feeder_Feed_518 V hV) cs_nil)) (calls_cons ((cs_cons (soundfeed_Feeder_End_515 V hV) cs_nil)) (calls_nil rfl))))) rfl rfl rfl Tryz.func29
theorem soundpounceref14_Attrs_ (V : Ev) (hV : V.OK) : CallSound Tryz.prog (env V []) 73 ⟨sigpounceref14_Attrs_, pounceref14_Attrs_ V⟩ := by
  rw [← rawpounceref14_Attrs_ V]
  exact aFn_sound (E2 := env V []) (envOK V hV (callspounceref14_Attrs_ V) (by kernel_rfl) (calls_nil rfl)) rfl rfl rfl Tryz.func73
theorem soundpounceref14_One_ (V : Ev) (hV : V.OK) : CallSound Tryz.prog (env V []) 44 ⟨sigpounceref14_One_, pounceref14_One_ V⟩ := by
  rw [← rawpounceref14_One_ V]
  exact aFn_sound (E2 := env V []) (envOK V hV (callspounceref14_One_ V) (by kernel_rfl) (calls_cons ((cs_cons (soundpounceref14_Attrs_ V hV) cs_nil)) (calls_nil rfl))) rfl rfl rfl Tryz.func44
theorem soundpounceref14_Same_ (V : Ev) (hV : V.OK) : CallSound Tryz.prog (env V []) 18 ⟨sigpounceref14_Same_, pounceref14_Same_ V⟩ := by
  rw [← rawpounceref14_Same_ V]
  exact aFn_sound (E2 := env V []) (envOK V hV (callspounceref14_Same_ V) (by kernel_rfl) (calls_cons ((cs_cons (soundpounceref14_One_ V hV) cs_nil)) (calls_nil rfl))) rfl rfl rfl Tryz.func18
theorem soundpouncelaw15_feeds_ (V : Ev) (hV : V.OK) : CallSound Tryz.prog (env V []) 31 ⟨sigpouncelaw15_feeds_, pouncelaw15_feeds_ V⟩ := by
  rw [← rawpouncelaw15_feeds_ V]
  exact aFn_sound (E2 := env V []) (envOK V hV (callspouncelaw15_feeds_ V) (by kernel_rfl) (calls_cons ((cs_cons (soundpounceref14_Same_ V hV) cs_nil)) (calls_cons ((cs_cons (soundfeed_Whole_ V hV) cs_nil)) (calls_cons ((cs_cons (soundfeed_New_775 V hV) cs_nil)) (calls_cons ((cs_cons (soundfeed_Feeder_Feed_518 V hV) (cs_cons (soundfeed_Feeder_Feed_9d4 V hV) cs_nil))) (calls_cons ((cs_cons (soundfeed_Feeder_Count_515 V hV) cs_nil)) (calls_cons ((cs_cons (soundfeed_Feeder_End_515 V hV) cs_nil)) (calls_nil rfl)))))))) rfl rfl rfl Tryz.func31
theorem soundpounceref01_lead_ (V : Ev) (hV : V.OK) : CallSound Tryz.prog (env V []) 132 ⟨sigpounceref01_lead_, pounceref01_lead_ V⟩ := by
  rw [← rawpounceref01_lead_ V]
  exact aFn_sound (E2 := env V []) (envOK V hV (callspounceref01_lead_ V) (by kernel_rfl) (calls_nil rfl)) rfl rfl rfl Tryz.func132
theorem soundpounceref01_Point_ (V : Ev) (hV : V.OK) : CallSound Tryz.prog (env V []) 133 ⟨sigpounceref01_Point_, pounceref01_Point_ V⟩ := by
  rw [← rawpounceref01_Point_ V]
  exact aFn_sound (E2 := env V []) (envOK V hV (callspounceref01_Point_ V) (by kernel_rfl) (calls_nil rfl)) rfl rfl rfl Tryz.func133
theorem soundpounceref01_Bytes_ (V : Ev) (hV : V.OK) : CallSound Tryz.prog (env V []) 109 ⟨sigpounceref01_Bytes_, pounceref01_Bytes_ V⟩ := by
  rw [← rawpounceref01_Bytes_ V]
  exact aFn_sound (E2 := env V []) (envOK V hV (callspounceref01_Bytes_ V) (by kernel_rfl) (calls_nil rfl)) rfl rfl rfl Tryz.func109
theorem soundpounceref01_First_ (V : Ev) (hV : V.OK) : CallSound Tryz.prog (env V []) 110 ⟨sigpounceref01_First_, pounceref01_First_ V⟩ := by
  rw [← rawpounceref01_First_ V]
  exact aFn_sound (E2 := env V []) (envOK V hV (callspounceref01_First_ V) (by kernel_rfl) (calls_cons ((cs_cons (soundpounceref01_Bytes_ V hV) cs_nil)) (calls_cons ((cs_cons (soundpounceref01_lead_ V hV) cs_nil)) (calls_cons ((cs_cons (soundpounceref01_Point_ V hV) cs_nil)) (calls_nil rfl))))) rfl rfl rfl Tryz.func110
theorem soundpounceref01_Points_ (V : Ev) (hV : V.OK) : CallSound Tryz.prog (env V []) 82 ⟨sigpounceref01_Points_, pounceref01_Points_ V⟩ := by
  rw [← rawpounceref01_Points_ V]
  exact aFn_sound (E2 := env V []) (envOK V hV (callspounceref01_Points_ V) (by kernel_rfl) (calls_cons ((cs_cons (soundpounceref01_First_ V hV) cs_nil)) (calls_nil rfl))) rfl rfl rfl Tryz.func82
theorem soundpounceref01_Join_ (V : Ev) (hV : V.OK) : CallSound Tryz.prog (env V []) 81 ⟨sigpounceref01_Join_, pounceref01_Join_ V⟩ := by
  rw [← rawpounceref01_Join_ V]
  exact aFn_sound (E2 := env V []) (envOK V hV (callspounceref01_Join_ V) (by kernel_rfl) (calls_cons ((cs_cons (soundpounceref01_Bytes_ V hV) cs_nil)) (calls_nil rfl))) rfl rfl rfl Tryz.func81
theorem soundpounceref01_Decode_ (V : Ev) (hV : V.OK) : CallSound Tryz.prog (env V []) 55 ⟨sigpounceref01_Decode_, pounceref01_Decode_ V⟩ := by
  rw [← rawpounceref01_Decode_ V]
  exact aFn_sound (E2 := env V []) (envOK V hV (callspounceref01_Decode_ V) (by kernel_rfl) (calls_cons ((cs_cons (soundpounceref01_Join_ V hV) cs_nil)) (calls_cons ((cs_cons (soundpounceref01_Points_ V hV) cs_nil)) (calls_nil rfl)))) rfl rfl rfl Tryz.func55
theorem soundpounceref02_Lower_ (V : Ev) (hV : V.OK) : CallSound Tryz.prog (env V []) 118 ⟨sigpounceref02_Lower_, pounceref02_Lower_ V⟩ := by
  rw [← rawpounceref02_Lower_ V]
  exact aFn_sound (E2 := env V []) (envOK V hV (callspounceref02_Lower_ V) (by kernel_rfl) (calls_nil rfl)) rfl rfl rfl Tryz.func118
theorem soundpounceref14_begins_ (V : Ev) (hV : V.OK) : CallSound Tryz.prog (env V []) 98 ⟨sigpounceref14_begins_, pounceref14_begins_ V⟩ := by
  rw [← rawpounceref14_begins_ V]
  exact aFn_sound (E2 := env V []) (envOK V hV (callspounceref14_begins_ V) (by kernel_rfl) (calls_cons ((cs_cons (soundpounceref02_Lower_ V hV) cs_nil)) (calls_nil rfl))) rfl rfl rfl Tryz.func98
theorem soundpounceref02_Blank_ (V : Ev) (hV : V.OK) : CallSound Tryz.prog (env V []) 117 ⟨sigpounceref02_Blank_, pounceref02_Blank_ V⟩ := by
  rw [← rawpounceref02_Blank_ V]
  exact aFn_sound (E2 := env V []) (envOK V hV (callspounceref02_Blank_ V) (by kernel_rfl) (calls_nil rfl)) rfl rfl rfl Tryz.func117
theorem soundpounceref14_Reader_end_07b (V : Ev) (hV : V.OK) : CallSound Tryz.prog (env V []) 94 ⟨sigpounceref14_Reader_end_07b, pounceref14_Reader_end_07b V⟩ := by
  rw [← rawpounceref14_Reader_end_07b V]
  exact aFn_sound (E2 := env V []) (envOK V hV (callspounceref14_Reader_end_07b V) (by kernel_rfl) (calls_cons ((cs_cons (soundpounceref14_begins_ V hV) cs_nil)) (calls_cons ((cs_cons (soundpounceref02_Blank_ V hV) cs_nil)) (calls_nil rfl)))) rfl rfl rfl Tryz.func94
theorem soundpounceref13_end_ (V : Ev) (hV : V.OK) : CallSound Tryz.prog (env V []) 122 ⟨sigpounceref13_end_, pounceref13_end_ V⟩ := by
  rw [← rawpounceref13_end_ V]
  exact aFn_sound (E2 := env V []) (envOK V hV (callspounceref13_end_ V) (by kernel_rfl) (calls_nil rfl)) rfl rfl rfl Tryz.func122
theorem soundpounceref13_Name_ (V : Ev) (hV : V.OK) : CallSound Tryz.prog (env V []) 146 ⟨sigpounceref13_Name_, pounceref13_Name_ V⟩ := by
  rw [← rawpounceref13_Name_ V]
  exact aFn_sound (E2 := env V []) (envOK V hV (callspounceref13_Name_ V) (by kernel_rfl) (calls_cons ((cs_cons (soundpounceref01_Bytes_ V hV) cs_nil)) (calls_nil rfl))) rfl rfl rfl Tryz.func146
theorem soundpounceref13_digit_ (V : Ev) (hV : V.OK) : CallSound Tryz.prog (env V []) 159 ⟨sigpounceref13_digit_, pounceref13_digit_ V⟩ := by
  rw [← rawpounceref13_digit_ V]
  exact aFn_sound (E2 := env V []) (envOK V hV (callspounceref13_digit_ V) (by kernel_rfl) (calls_nil rfl)) rfl rfl rfl Tryz.func159
theorem soundpounceref13_number_ (V : Ev) (hV : V.OK) : CallSound Tryz.prog (env V []) 147 ⟨sigpounceref13_number_, pounceref13_number_ V⟩ := by
  rw [← rawpounceref13_number_ V]
  exact aFn_sound (E2 := env V []) (envOK V hV (callspounceref13_number_ V) (by kernel_rfl) (calls_cons ((cs_cons (soundpounceref13_digit_ V hV) cs_nil)) (calls_nil rfl))) rfl rfl rfl Tryz.func147
theorem soundpounceref13_Sign_ (V : Ev) (hV : V.OK) : CallSound Tryz.prog (env V []) 123 ⟨sigpounceref13_Sign_, pounceref13_Sign_ V⟩ := by
  rw [← rawpounceref13_Sign_ V]
  exact aFn_sound (E2 := env V []) (envOK V hV (callspounceref13_Sign_ V) (by kernel_rfl) (calls_cons ((cs_cons (soundpounceref01_Bytes_ V hV) cs_nil)) (calls_cons ((cs_cons (soundpounceref01_Point_ V hV) cs_nil)) (calls_cons ((cs_cons (soundpounceref13_Name_ V hV) cs_nil)) (calls_cons ((cs_cons (soundpounceref13_number_ V hV) cs_nil)) (calls_nil rfl)))))) rfl rfl rfl Tryz.func123
theorem soundpounceref13_Decode_ (V : Ev) (hV : V.OK) : CallSound Tryz.prog (env V []) 100 ⟨sigpounceref13_Decode_, pounceref13_Decode_ V⟩ := by
  rw [← rawpounceref13_Decode_ V]
  exact aFn_sound (E2 := env V []) (envOK V hV (callspounceref13_Decode_ V) (by kernel_rfl) (calls_cons ((cs_cons (soundpounceref13_end_ V hV) cs_nil)) (calls_cons ((cs_cons (soundpounceref13_Sign_ V hV) cs_nil)) (calls_nil rfl)))) rfl rfl rfl Tryz.func100
theorem soundpounceref14_Reader_fail_d75 (V : Ev) (hV : V.OK) : CallSound Tryz.prog (env V []) 95 ⟨sigpounceref14_Reader_fail_d75, pounceref14_Reader_fail_d75 V⟩ := by
  rw [← rawpounceref14_Reader_fail_d75 V]
  exact aFn_sound (E2 := env V []) (envOK V hV (callspounceref14_Reader_fail_d75 V) (by kernel_rfl) (calls_nil rfl)) rfl rfl rfl Tryz.func95
theorem soundpounceref14_Reader_decode_d75 (V : Ev) (hV : V.OK) : CallSound Tryz.prog (env V []) 72 ⟨sigpounceref14_Reader_decode_d75, pounceref14_Reader_decode_d75 V⟩ := by
  rw [← rawpounceref14_Reader_decode_d75 V]
  exact aFn_sound (E2 := env V []) (envOK V hV (callspounceref14_Reader_decode_d75 V) (by kernel_rfl) (calls_cons ((cs_cons (soundpounceref14_Reader_fail_d75 V hV) cs_nil)) (calls_cons ((cs_cons (soundpounceref13_Decode_ V hV) cs_nil)) (calls_nil rfl)))) rfl rfl rfl Tryz.func72
theorem soundpounceref14_Reader_text_f0a (V : Ev) (hV : V.OK) : CallSound Tryz.prog (env V []) 71 ⟨sigpounceref14_Reader_text_f0a, pounceref14_Reader_text_f0a V⟩ := by
  rw [← rawpounceref14_Reader_text_f0a V]
  exact aFn_sound (E2 := env V []) (envOK V hV (callspounceref14_Reader_text_f0a V) (by kernel_rfl) (calls_nil rfl)) rfl rfl rfl Tryz.func71
theorem soundpounceref14_Reader_raw_61a (V : Ev) (hV : V.OK) : CallSound Tryz.prog (env V []) 68 ⟨sigpounceref14_Reader_raw_61a, pounceref14_Reader_raw_61a V⟩ := by
  rw [← rawpounceref14_Reader_raw_61a V]
  exact aFn_sound (E2 := env V []) (envOK V hV (callspounceref14_Reader_raw_61a V) (by kernel_rfl) (calls_cons ((cs_cons (soundpounceref14_Reader_text_f0a V hV) cs_nil)) (calls_cons ((cs_cons (soundpounceref14_Reader_decode_d75 V hV) cs_nil)) (calls_cons ((cs_cons (soundpounceref14_Reader_end_07b V hV) cs_nil)) (calls_cons ((cs_cons (soundpounceref14_Reader_fail_d75 V hV) cs_nil)) (calls_nil rfl)))))) rfl rfl rfl Tryz.func68
theorem soundpounceref14_letter_ (V : Ev) (hV : V.OK) : CallSound Tryz.prog (env V []) 96 ⟨sigpounceref14_letter_, pounceref14_letter_ V⟩ := by
  rw [← rawpounceref14_letter_ V]
  exact aFn_sound (E2 := env V []) (envOK V hV (callspounceref14_letter_ V) (by kernel_rfl) (calls_nil rfl)) rfl rfl rfl Tryz.func96
theorem soundpounceref14_Reader_upto_07b (V : Ev) (hV : V.OK) : CallSound Tryz.prog (env V []) 70 ⟨sigpounceref14_Reader_upto_07b, pounceref14_Reader_upto_07b V⟩ := by
  rw [← rawpounceref14_Reader_upto_07b V]
  exact aFn_sound (E2 := env V []) (envOK V hV (callspounceref14_Reader_upto_07b V) (by kernel_rfl) (calls_nil rfl)) rfl rfl rfl Tryz.func70
theorem soundpounceref14_has_ (V : Ev) (hV : V.OK) : CallSound Tryz.prog (env V []) 143 ⟨sigpounceref14_has_, pounceref14_has_ V⟩ := by
  rw [← rawpounceref14_has_ V]
  exact aFn_sound (E2 := env V []) (envOK V hV (callspounceref14_has_ V) (by kernel_rfl) (calls_nil rfl)) rfl rfl rfl Tryz.func143
theorem soundpounceref14_Reader_blanks_810 (V : Ev) (hV : V.OK) : CallSound Tryz.prog (env V []) 144 ⟨sigpounceref14_Reader_blanks_810, pounceref14_Reader_blanks_810 V⟩ := by
  rw [← rawpounceref14_Reader_blanks_810 V]
  exact aFn_sound (E2 := env V []) (envOK V hV (callspounceref14_Reader_blanks_810 V) (by kernel_rfl) (calls_cons ((cs_cons (soundpounceref02_Blank_ V hV) cs_nil)) (calls_nil rfl))) rfl rfl rfl Tryz.func144
theorem soundpounceref14_Reader_find_07b (V : Ev) (hV : V.OK) : CallSound Tryz.prog (env V []) 120 ⟨sigpounceref14_Reader_find_07b, pounceref14_Reader_find_07b V⟩ := by
  rw [← rawpounceref14_Reader_find_07b V]
  exact aFn_sound (E2 := env V []) (envOK V hV (callspounceref14_Reader_find_07b V) (by kernel_rfl) (calls_nil rfl)) rfl rfl rfl Tryz.func120
theorem soundpounceref14_Reader_value_810 (V : Ev) (hV : V.OK) : CallSound Tryz.prog (env V []) 145 ⟨sigpounceref14_Reader_value_810, pounceref14_Reader_value_810 V⟩ := by
  rw [← rawpounceref14_Reader_value_810 V]
  exact aFn_sound (E2 := env V []) (envOK V hV (callspounceref14_Reader_value_810 V) (by kernel_rfl) (calls_cons ((cs_cons (soundpounceref14_Reader_upto_07b V hV) cs_nil)) (calls_cons ((cs_cons (soundpounceref14_Reader_decode_d75 V hV) cs_nil)) (calls_cons ((cs_cons (soundpounceref14_Reader_find_07b V hV) cs_nil)) (calls_nil rfl))))) rfl rfl rfl Tryz.func145
theorem soundpounceref14_Reader_attr_260 (V : Ev) (hV : V.OK) : CallSound Tryz.prog (env V []) 119 ⟨sigpounceref14_Reader_attr_260, pounceref14_Reader_attr_260 V⟩ := by
  rw [← rawpounceref14_Reader_attr_260 V]
  exact aFn_sound (E2 := env V []) (envOK V hV (callspounceref14_Reader_attr_260 V) (by kernel_rfl) (calls_cons ((cs_cons (soundpounceref14_Reader_upto_07b V hV) cs_nil)) (calls_cons ((cs_cons (soundpounceref14_Reader_fail_d75 V hV) cs_nil)) (calls_cons ((cs_cons (soundpounceref02_Lower_ V hV) cs_nil)) (calls_cons ((cs_cons (soundpounceref14_has_ V hV) cs_nil)) (calls_cons ((cs_cons (soundpounceref14_Reader_blanks_810 V hV) cs_nil)) (calls_cons ((cs_cons (soundpounceref14_Reader_value_810 V hV) cs_nil)) (calls_nil rfl)))))))) rfl rfl rfl Tryz.func119
theorem soundpounceref14_Raw_ (V : Ev) (hV : V.OK) : CallSound Tryz.prog (env V []) 21 ⟨sigpounceref14_Raw_, pounceref14_Raw_ V⟩ := by
  rw [← rawpounceref14_Raw_ V]
  exact aFn_sound (E2 := env V []) (envOK V hV (callspounceref14_Raw_ V) (by kernel_rfl) (calls_nil rfl)) rfl rfl rfl Tryz.func21
theorem soundpounceref14_Reader_tag_d75 (V : Ev) (hV : V.OK) : CallSound Tryz.prog (env V []) 97 ⟨sigpounceref14_Reader_tag_d75, pounceref14_Reader_tag_d75 V⟩ := by
  rw [← rawpounceref14_Reader_tag_d75 V]
  exact aFn_sound (E2 := env V []) (envOK V hV (callspounceref14_Reader_tag_d75 V) (by kernel_rfl) (calls_cons ((cs_cons (soundpounceref14_Raw_ V hV) cs_nil)) (calls_cons ((cs_cons (soundpounceref14_Reader_upto_07b V hV) cs_nil)) (calls_cons ((cs_cons (soundpounceref14_Reader_fail_d75 V hV) cs_nil)) (calls_cons ((cs_cons (soundpounceref02_Blank_ V hV) cs_nil)) (calls_cons ((cs_cons (soundpounceref02_Lower_ V hV) cs_nil)) (calls_cons ((cs_cons (soundpounceref14_Reader_attr_260 V hV) cs_nil)) (calls_nil rfl)))))))) rfl rfl rfl Tryz.func97
theorem soundpounceref02_Trim_ (V : Ev) (hV : V.OK) : CallSound Tryz.prog (env V []) 121 ⟨sigpounceref02_Trim_, pounceref02_Trim_ V⟩ := by
  rw [← rawpounceref02_Trim_ V]
  exact aFn_sound (E2 := env V []) (envOK V hV (callspounceref02_Trim_ V) (by kernel_rfl) (calls_cons ((cs_cons (soundpounceref02_Blank_ V hV) cs_nil)) (calls_nil rfl))) rfl rfl rfl Tryz.func121
theorem soundpounceref14_Reader_comment_a10 (V : Ev) (hV : V.OK) : CallSound Tryz.prog (env V []) 99 ⟨sigpounceref14_Reader_comment_a10, pounceref14_Reader_comment_a10 V⟩ := by
  rw [← rawpounceref14_Reader_comment_a10 V]
  exact aFn_sound (E2 := env V []) (envOK V hV (callspounceref14_Reader_comment_a10 V) (by kernel_rfl) (calls_cons ((cs_cons (soundpounceref14_Reader_fail_d75 V hV) cs_nil)) (calls_cons ((cs_cons (soundpounceref14_Reader_find_07b V hV) cs_nil)) (calls_cons ((cs_cons (soundpounceref02_Trim_ V hV) cs_nil)) (calls_nil rfl))))) rfl rfl rfl Tryz.func99
theorem soundpounceref14_Reader_sign_61a (V : Ev) (hV : V.OK) : CallSound Tryz.prog (env V []) 69 ⟨sigpounceref14_Reader_sign_61a, pounceref14_Reader_sign_61a V⟩ := by
  rw [← rawpounceref14_Reader_sign_61a V]
  exact aFn_sound (E2 := env V []) (envOK V hV (callspounceref14_Reader_sign_61a V) (by kernel_rfl) (calls_cons ((cs_cons (soundpounceref14_Reader_text_f0a V hV) cs_nil)) (calls_cons ((cs_cons (soundpounceref14_Reader_fail_d75 V hV) cs_nil)) (calls_cons ((cs_cons (soundpounceref14_letter_ V hV) cs_nil)) (calls_cons ((cs_cons (soundpounceref14_Reader_tag_d75 V hV) cs_nil)) (calls_cons ((cs_cons (soundpounceref14_begins_ V hV) cs_nil)) (calls_cons ((cs_cons (soundpounceref14_Reader_comment_a10 V hV) cs_nil)) (calls_nil rfl)))))))) rfl rfl rfl Tryz.func69
theorem soundpounceref14_Read_567 (V : Ev) (hV : V.OK) : CallSound Tryz.prog (env V []) 42 ⟨sigpounceref14_Read_567, pounceref14_Read_567 V⟩ := by
  rw [← rawpounceref14_Read_567 V]
  exact aFn_sound (E2 := env V []) (envOK V hV (callspounceref14_Read_567 V) (by kernel_rfl) (calls_cons ((cs_cons (soundpounceref14_Reader_raw_61a V hV) cs_nil)) (calls_cons ((cs_cons (soundpounceref14_Reader_sign_61a V hV) cs_nil)) (calls_cons ((cs_cons (soundpounceref14_Reader_upto_07b V hV) cs_nil)) (calls_cons ((cs_cons (soundpounceref14_Reader_text_f0a V hV) cs_nil)) (calls_cons ((cs_cons (soundpounceref14_Reader_decode_d75 V hV) cs_nil)) (calls_nil rfl))))))) rfl rfl rfl Tryz.func42
theorem soundpounceref14_Tokens_ (V : Ev) (hV : V.OK) : CallSound Tryz.prog (env V []) 16 ⟨sigpounceref14_Tokens_, pounceref14_Tokens_ V⟩ := by
  rw [← rawpounceref14_Tokens_ V]
  exact aFn_sound (E2 := env V []) (envOK V hV (callspounceref14_Tokens_ V) (by kernel_rfl) (calls_cons ((cs_cons (soundpounceref14_Read_567 V hV) cs_nil)) (calls_nil rfl))) rfl rfl rfl Tryz.func16
theorem soundpounceref15_Whole_ (V : Ev) (hV : V.OK) : CallSound Tryz.prog (env V []) 30 ⟨sigpounceref15_Whole_, pounceref15_Whole_ V⟩ := by
  rw [← rawpounceref15_Whole_ V]
  exact aFn_sound (E2 := env V []) (envOK V hV (callspounceref15_Whole_ V) (by kernel_rfl) (calls_cons ((cs_cons (soundpounceref14_Tokens_ V hV) cs_nil)) (calls_cons ((cs_cons (soundpounceref01_Decode_ V hV) cs_nil)) (calls_nil rfl)))) rfl rfl rfl Tryz.func30
theorem soundpounceref13_Fails_ (V : Ev) (hV : V.OK) : CallSound Tryz.prog (env V []) 19 ⟨sigpounceref13_Fails_, pounceref13_Fails_ V⟩ := by
  rw [← rawpounceref13_Fails_ V]
  exact aFn_sound (E2 := env V []) (envOK V hV (callspounceref13_Fails_ V) (by kernel_rfl) (calls_nil rfl)) rfl rfl rfl Tryz.func19
theorem soundpouncelaw15_FeedParts_ (V : Ev) (hV : V.OK) : CallSound Tryz.prog (env V []) 10 ⟨sigpouncelaw15_FeedParts_, pouncelaw15_FeedParts_ V⟩ := by
  rw [← rawpouncelaw15_FeedParts_ V]
  exact aFn_sound (E2 := env V []) (envOK V hV (callspouncelaw15_FeedParts_ V) (by kernel_rfl) (calls_cons ((cs_cons (soundpounceref14_Same_ V hV) cs_nil)) (calls_cons ((cs_cons (soundpounceref13_Fails_ V hV) cs_nil)) (calls_cons ((cs_cons (soundpounceref15_Whole_ V hV) cs_nil)) (calls_cons ((cs_cons (soundpouncelaw15_feeds_ V hV) cs_nil)) (calls_cons ((cs_cons (soundfeed_New_775 V hV) cs_nil)) (calls_cons ((cs_cons (soundfeed_Feeder_Feed_9d4 V hV) cs_nil)) (calls_cons ((cs_cons (soundfeed_Feeder_Count_515 V hV) cs_nil)) (calls_cons ((cs_cons (soundfeed_Feeder_End_515 V hV) cs_nil)) (calls_nil rfl)))))))))) rfl rfl rfl Tryz.func10
end Go.En.Pl
